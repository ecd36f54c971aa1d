/- Contracts of functions on the way to the claim, proved for every input that their hypotheses let by; no condition of the claim. Joined of: U0 U1 U2 U3 U4 U5 U6 U7 U8 U9 U10 U11 U12 U13 U14 U15 U16 U17. -/
import Derived.Deep.RegionHeld3
import Derived.Deep.DrawnRows
import Derived.Test.YtjifejbibgimhaaGreatDoorG5
import Derived.Test.YtjifejbibgimhaaGreatDoorG1
import Derived.Test.YtjifejbibgimhaaGreatDoorG12
import Derived.Test.YtjifejbibgimhaaGreatDoorG11

/- Slices of strings that the call owns; a row of one type and a block of another are apart. -/
namespace Go.Proofs.YtjifejbibgimhaaGreatDoor
open Go.RowKit

/-- a text, as a value -/
def sv (s : List UInt8) : Value := .string (str s)
theorem sv_oneCell (l : List (List UInt8)) : ∀ u ∈ l.map sv, u.oneCell' = true := by
  intro u hu
  obtain ⟨b, _, rfl⟩ := List.mem_map.1 hu
  rfl
theorem owns_ne_blk {w : World} {base : Nat} {e : TypeId} {size : Nat} {v : Value} {n : Nat} {xs : List Value} (h : w.ownsRow base e size v n xs) {b : Nat} {cs : Array Value} {t : TypeId} (hb : Blk w b cs t) (ht : e ≠ t) : v.ownBlock ≠ some b := by
  intro hv
  rcases h.2 with ⟨rfl, _⟩ | ⟨g, cap, cur, rfl, _, hg, _⟩
  · simp [Value.ownBlock] at hv
  · obtain rfl : g = b := by simpa [Value.ownBlock] using hv
    have hb' : w.heap[g]? = some (.cells cs t (0, 0)) := hb
    rw [hg] at hb'
    cases hb'
    exact ht rfl
theorem owns_set {w : World} {base : Nat} {e : TypeId} {size : Nat} {v : Value} {n : Nat} {xs : List Value} (h : w.ownsRow base e size v n xs) {b j : Nat} {cs : Array Value} {t : TypeId} (hb : Blk w b cs t) (ht : e ≠ t) (u : Value) : (w.setCell ⟨b, j, none⟩ u).ownsRow base e size v n xs :=
  Only.owns (ts := [t]) (Only.set hb (by simp) u) h (by simpa using ht)
/-- the strings of a row, read at an index -/
theorem sees_str {w : World} {v : Value} {n : Nat} {l : List (List UInt8)} (h : Sees w 1 v n (l.map sv)) : n = l.length ∧ ∃ ao c, v = .slice ao n c ∧ n ≤ c ∧ ∀ i (_ : i < n) (hl : i < l.length), ∃ b off, ao = some ⟨b, off, none⟩ ∧ b < w.heap.size ∧ w.cell? ⟨b, off + i, none⟩ = some (.string (str l[i])) := by
  obtain ⟨h1, ao, c, rfl, hc, h2⟩ := h
  simp at h1
  refine ⟨h1.symm, ao, c, rfl, hc, fun i hi hl => ?_⟩
  rcases h2 with ⟨rfl, h0⟩ | ⟨b, off, rfl, hlt, hcell⟩
  · omega
  · exact ⟨b, off, rfl, hlt, hcell i _ (by rw [List.getElem?_map, List.getElem?_eq_getElem hl]; rfl)⟩
end Go.Proofs.YtjifejbibgimhaaGreatDoor

/- terminal.CheckLine. -/
namespace Go.Proofs.YtjifejbibgimhaaGreatDoor
open Go.RowKit

theorem any_take_succ {α : Type} (p : α → Bool) (l : List α) (k : Nat) (h : k < l.length) : (l.take (k + 1)).any p = ((l.take k).any p || p l[k]) := by
  rw [List.take_succ_eq_append_getElem h, List.any_append]; simp

set_option maxRecDepth 100000 in
set_option maxHeartbeats 800000 in
theorem odd_any (s : List UInt8) (i lb : Nat) (b : UInt8) (hib : s[i]? = some b) (_ : s.length ≤ 9223372036854775807) (w : World) (hb : Blk w lb #[.string (str s)] 9) :
    Calls Tryz.prog 53 #[.int .i64 i, .pointer (some ⟨lb, 0, none⟩)] w fun e w' => e = .returned (.bool (oddB b)) ∧ w = w' := by
  obtain ⟨hi, hbe⟩ := List.getElem?_eq_some_iff.1 hib
  have h0 := hb.cell 0
  have hsz := str_size s
  have hi' : i < (str s).size := by rw [hsz]; exact hi
  have hget : (str s)[i] = b := (str_get s i hi').trans hbe
  obtain ⟨c, hc⟩ : ∃ c, c = b.toNat := ⟨_, rfl⟩
  have hcv : (str s)[i].toNat = c := by rw [hget, hc]
  have ho : oddB b = (decide (c < 32) || decide (c = 127)) := by unfold oddB; rw [hc]
  rw [ho]
  clear hb ho hget hc hib hbe
  by_cases h32 : c < 32
  · have q : (decide (c < 32) || decide (c = 127)) = true := by simp [h32]
    rw [q]; clear q
    go_enter Tryz.func53, Tryz.ntmps53
    go_wp2
    go_ret
    exact ⟨rfl, rfl⟩
  · by_cases h127 : c = 127
    · have q : (decide (c < 32) || decide (c = 127)) = true := by simp [h127]
      rw [q]; clear q
      have q1 : ((c : Int) == 127) = true := by simp [h127]
      have H127 := Lib.hid h127; clear h127
      go_enter Tryz.func53, Tryz.ntmps53
      go_wp2
      go_ret
      exact ⟨rfl, rfl⟩
    · have q : (decide (c < 32) || decide (c = 127)) = false := by simp [h32, h127]
      rw [q]; clear q
      have q1 : ((c : Int) == 127) = false := by simp; omega
      have q2 : decide ((c : Int) < 32) = false := by simp; omega
      clear h127
      go_enter Tryz.func53, Tryz.ntmps53
      go_wp2
      go_ret
      exact ⟨rfl, rfl⟩

set_option maxRecDepth 100000 in
set_option maxHeartbeats 1600000 in
theorem checkLine_any (s : List UInt8) (w : World) (hs : s.length ≤ 9223372036854775807) :
    Calls Tryz.prog 21 #[.string (str s)] w fun e w' => e = .returned (.int .i64 (lineE s)) ∧ Below w.heap.size w w' := by
  have hsz := str_size s
  have hbx := Blk.new w #[.string (str s)] 9
  have hb0 := hbx.cell 0
  have hmf : ∀ (fn : Fn) (first cap : Array Value) (w : World), (Instr.makeFunc fn first cap).run Tryz.prog w = .ok (.func fn first cap) w := fun _ _ _ _ => rfl
  by_cases h1 : 1024 < s.length
  · have hf : lineE s = 5 := by unfold lineE; rw [if_pos h1]
    rw [hf]; clear hf
    go_enter Tryz.func21, Tryz.ntmps21
    go_wp2
    go_ret
    exact ⟨rfl, below_alloc w _⟩
  · have h1' : ¬ (1024 < (s.length : Int)) := by omega
    have hle : s.length ≤ 1024 := by omega
    clear h1
    go_enter Tryz.func21, Tryz.ntmps21
    go_wp2
    go_loop [11] (fun t => ∃ k : Nat, k ≤ s.length ∧ t = .int .i64 k ∧ Hid ((s.take k).any oddB = false)) (fun t => s.length - (intOf t).toNat)
    case atStart => exact ⟨0, Nat.zero_le _, rfl, Lib.hid (by simp)⟩
    case round =>
      obtain ⟨k, hk, rfl, hno⟩ := hrel
      by_cases hlt : k < s.length
      · obtain ⟨b, hbk⟩ : ∃ b, s[k]? = some b := ⟨_, List.getElem?_eq_getElem hlt⟩
        have hbe : s[k] = b := by rw [List.getElem?_eq_getElem hlt] at hbk; simpa using hbk
        cases ho : oddB b with
        | true =>
          have hf : Hid (lineE s = 6) := by
            show _ = _
            unfold lineE
            rw [if_neg (by omega), if_pos]
            rw [List.any_eq_true]
            exact ⟨b, hbe ▸ List.getElem_mem _, ho⟩
          have Hbk := Lib.hid hbk; clear hbk hbe
          go_wp2_with (go_at_call 53; refine (odd_any s k _ b Hbk.out hs _ hbx).mono ?_; rw [ho]; rintro e w' ⟨rfl, rfl⟩)
          go_ret
          exact ⟨by rw [hf.out]; rfl, below_alloc w _⟩
        | false =>
          have hn : Hid ((s.take (k + 1)).any oddB = false) := by
            show _ = _
            rw [any_take_succ _ _ _ hlt, hno.out, hbe, ho]; rfl
          have Hbk := Lib.hid hbk; clear hbk hbe
          go_wp2_with (go_at_call 53; refine (odd_any s k _ b Hbk.out hs _ hbx).mono ?_; rw [ho]; rintro e w' ⟨rfl, rfl⟩)
          go_round
          case rel => exact ⟨k + 1, by omega, by go_num, hn⟩
          case measure => simp [intOf]; omega
      · have hf : Hid (lineE s = 0) := by
          show _ = _
          unfold lineE
          have h := hno.out
          rw [List.take_of_length_le (by omega)] at h
          rw [if_neg (by omega), h]; rfl
        go_wp2
        go_ret
        exact ⟨by rw [hf.out]; rfl, below_alloc w _⟩
end Go.Proofs.YtjifejbibgimhaaGreatDoor

/- terminal.Terminal.Check. -/
namespace Go.Proofs.YtjifejbibgimhaaGreatDoor
open Go.RowKit

theorem linesE_take {l : List (List UInt8)} {k : Nat} (hk : k < l.length) (h0 : linesE (l.take k) = 0) : linesE (l.take (k + 1)) = lineE l[k] ∧ (lineE l[k] ≠ 0 → linesE l = lineE l[k]) := by
  induction l generalizing k with
  | nil => simp at hk
  | cons s l ih =>
    cases k with
    | zero =>
      simp only [List.take_succ_cons, List.take_zero, linesE, List.getElem_cons_zero]
      constructor
      · split <;> simp_all
      · intro h; rw [if_neg h]
    | succ k =>
      simp only [List.take_succ_cons, linesE] at h0 ⊢
      split at h0
      · rename_i hs
        have := ih (k := k) (by simpa using hk) h0
        simp only [List.getElem_cons_succ]
        rw [if_pos hs, if_pos hs]
        exact this
      · rename_i hs; exact absurd h0 hs

set_option maxRecDepth 100000 in
set_option maxHeartbeats 400000 in
theorem permitted_any (n : Int) (w : World) : Calls Tryz.prog 48 #[.int .i64 n] w fun e w' => e = .returned (.bool (withinB n 1073741824)) ∧ w = w' := by
  by_cases h0 : 0 ≤ n
  · by_cases h1 : n ≤ 1073741824
    · rw [withinB_iff.2 ⟨h0, h1⟩]
      go_enter Tryz.func48, Tryz.ntmps48
      go_wp2
      go_ret
      exact ⟨rfl, rfl⟩
    · rw [withinB_no.2 (fun h => h1 h.2)]
      have h3 : decide (n ≤ 1073741824) = false := by simp [h1]
      have h2 : 1073741824 < n := by omega
      clear h1
      go_enter Tryz.func48, Tryz.ntmps48
      go_wp2
      go_ret
      exact ⟨rfl, rfl⟩
  · rw [withinB_no.2 (fun h => h0 h.1)]
    have h2 : n < 0 := by omega
    clear h0
    go_enter Tryz.func48, Tryz.ntmps48
    go_wp2
    go_ret
    exact ⟨rfl, rfl⟩

/-- a terminal, as a value -/
def termV (e : Int) (ses : List UInt8) (tv : Value) (scr : List UInt8) : Value := .agg #[.int .i64 e, .string (str ses), tv, .string (str scr)]

set_option maxRecDepth 100000 in
set_option maxHeartbeats 3200000 in
theorem termCheck_any (e : Int) (ses : List UInt8) (tv : Value) (ty : List (List UInt8)) (scr : List UInt8) (w : World) (hty : Sees w 1 tv ty.length (ty.map sv)) (hses : ses.length ≤ 1000000000) (hscr : scr.length ≤ 9223372036854775807) (htl : ty.length ≤ 9223372036854775807) (hls : ∀ s ∈ ty, s.length ≤ 9223372036854775807) :
    Calls Tryz.prog 28 #[termV e ses tv scr] w fun x w' => x = .returned (.int .i64 (termCheck e ses ty scr.length)) ∧ Below w.heap.size w w' := by
  obtain ⟨_, ao, c, rfl, hc, hget⟩ := sees_str hty
  have fin : ∀ (r : Nat), termCheck e ses ty scr.length = r → ∀ (w' : World), Below w.heap.size w w' → (Ending.returned (.int .i64 (r : Int)) = .returned (.int .i64 (termCheck e ses ty scr.length)) ∧ Below w.heap.size w w') := fun r hr w' hb => by rw [hr]; exact ⟨rfl, hb⟩
  have Fin := Lib.hid fin; clear fin
  have Hget := Lib.hid hget; clear hget
  have Hls := Lib.hid hls; clear hls
  have hbx := Blk.new w #[.int .i64 e, .string (str ses), .slice ao ty.length c, .string (str scr)] 36
  obtain ⟨b0, b1, b2, b3, _, _, _, _⟩ := hbx.quad
  have hP := (Past.refl w).alloc (.cells #[.int .i64 e, .string (str ses), .slice ao ty.length c, .string (str scr)] 36)
  have hsz := str_size scr
  have hses1 : (str ses).toList = ses := str_toList ses
  unfold termV
  by_cases h1 : 0 ≤ e ∧ e ≤ 1073741824
  · have w1 := withinB_iff.2 h1
    cases hv : validName ses with
    | false =>
      have hf := Fin.out 12 (by unfold termCheck; rw [if_neg (by simp [h1]), if_pos hv])
      have Hf := Lib.hid hf; clear hf
      go_enter Tryz.func28, Tryz.ntmps28
      go_wp2_with (first
        | (go_at_call 48; refine (permitted_any e _).mono ?_; rw [w1]; rintro x w2 ⟨rfl, rfl⟩)
        | (go_at_call 18; refine (valid_any ses _ hses).mono ?_; rw [hv]; rintro x w2 ⟨rfl, hb2⟩))
      go_ret
      exact Hf.out _ (hP.call hb2).1
    | true =>
      by_cases h3 : 16 < ty.length
      · have hf := Fin.out 9 (by unfold termCheck; rw [if_neg (by simp [h1]), if_neg (by simp [hv]), if_pos h3])
        have Hf := Lib.hid hf; clear hf
        go_enter Tryz.func28, Tryz.ntmps28
        go_wp2_with (first
          | (go_at_call 48; refine (permitted_any e _).mono ?_; rw [w1]; rintro x w2 ⟨rfl, rfl⟩)
          | (go_at_call 18; refine (valid_any ses _ hses).mono ?_; rw [hv]; rintro x w2 ⟨rfl, hb2⟩; have hx2 := hbx.below hb2 hbx.lt; obtain ⟨c0, c1, c2, c3, _, _, _, _⟩ := hx2.quad))
        go_ret
        exact Hf.out _ (hP.call hb2).1
      · have h3' : ¬ (16 < (ty.length : Int)) := by omega
        have hty16 : ty.length ≤ 16 := by omega
        have Hv := Lib.hid hv
        go_enter Tryz.func28, Tryz.ntmps28
        go_wp2_with (first
          | (go_at_call 48; refine (permitted_any e _).mono ?_; rw [w1]; rintro x w2 ⟨rfl, rfl⟩)
          | (go_at_call 18; refine (valid_any ses _ hses).mono ?_; rw [hv]; rintro x w2 ⟨rfl, hb2⟩; have hx2 := hbx.below hb2 hbx.lt; obtain ⟨c0, c1, c2, c3, _, _, _, _⟩ := hx2.quad))
        have hP2 := hP.call hb2
        have hl0 := hx2.lt
        clear hv hb2 b0 b1 b2 b3 c0 c1 c2 c3 h3 hP
        go_loopw [24] (fun t wr => ∃ k : Nat, k ≤ ty.length ∧ t = .int .i64 k ∧ Hid (linesE (ty.take k) = 0) ∧ Past w.heap.size w wr ∧ Blk wr w.heap.size #[.int .i64 e, .string (str ses), .slice ao ty.length c, .string (str scr)] 36) (fun t _ => ty.length - (intOf t).toNat)
        case atStart => exact ⟨0, Nat.zero_le _, rfl, Lib.hid rfl, hP2, hx2⟩
        case round =>
          obtain ⟨k, hk, rfl, hok, hPr, hxr⟩ := hrel
          by_cases hlt : k < ty.length
          · obtain ⟨b, off, rfl, hbl, hcell⟩ := Hget.out k hlt hlt
            have hcr : wr.cell? ⟨b, off + k, none⟩ = some (.string (str ty[k])) := (hPr.1.cell (p := ⟨b, off + k, none⟩) hbl).trans hcell
            clear hcell
            obtain ⟨g1, g2⟩ := linesE_take hlt hok.out
            by_cases hz : lineE ty[k] = 0
            · have hn : Hid (linesE (ty.take (k + 1)) = 0) := by show _ = _; rw [g1, hz]
              have hcl := fun w => checkLine_any ty[k] w (Hls.out _ (List.getElem_mem _))
              rw [hz] at hcl
              have Hcl := Lib.hid hcl; clear hcl g1 g2 hz
              go_wp2_with (go_at_call 21; refine (Hcl.out _).mono ?_; rintro x w3 ⟨rfl, hb3⟩)
              go_roundw
              case rel => exact ⟨k + 1, by omega, by go_num, hn, hPr.call hb3, hxr.below hb3 hxr.lt⟩
              case measure => simp [intOf]; omega
            · have hf := Fin.out (lineE ty[k]) (by unfold termCheck; rw [if_neg (by simp [h1]), if_neg (by simp [Hv.out]), if_neg (by omega), if_pos (by rw [g2 hz]; exact hz), g2 hz])
              have Hf := Lib.hid hf; clear hf
              have hcl := fun w => checkLine_any ty[k] w (Hls.out _ (List.getElem_mem _))
              obtain ⟨E, hE⟩ : ∃ E, E = lineE ty[k] := ⟨_, rfl⟩
              rw [← hE] at hcl hz Hf
              have Hcl := Lib.hid hcl; clear hcl g1 g2 hE
              have q1 : ((E : Int) == 0) = false := by simp; omega
              have q2 : ((E : Int) != 0) = true := by simp; omega
              go_wp2_with (go_at_call 21; refine (Hcl.out _).mono ?_; rintro x w3 ⟨rfl, hb3⟩)
              go_ret
              exact Hf.out _ (hPr.call hb3).1
          · obtain rfl : k = ty.length := by omega
            have hall : Hid (linesE ty = 0) := by show _ = _; have := hok.out; rwa [List.take_length] at this
            obtain ⟨c0, c1, c2, c3, _, _, _, _⟩ := hxr.quad
            clear hok hlt
            by_cases h5 : ses = [] ∧ ty ≠ []
            · obtain ⟨h5a, h5b⟩ := h5
              have hf := Fin.out 10 (by unfold termCheck; rw [if_neg (by simp [h1]), if_neg (by simp [Hv.out]), if_neg (by omega), if_neg (by simp [hall.out]), if_pos ⟨h5a, h5b⟩])
              have Hf := Lib.hid hf; clear hf
              have q1 : (str ses).toList.isEmpty = true := by rw [hses1, h5a]; rfl
              have q2 : 0 < ty.length := List.length_pos_iff.2 h5b
              clear h5a h5b hses1
              go_wp2
              go_ret
              exact Hf.out _ hPr.1
            · by_cases h6 : 2048 < scr.length
              · have hf := Fin.out 5 (by unfold termCheck; rw [if_neg (by simp [h1]), if_neg (by simp [Hv.out]), if_neg (by omega), if_neg (by simp [hall.out]), if_neg h5, if_pos h6])
                have Hf := Lib.hid hf; clear hf
                by_cases h7 : ses = []
                · have hty0 : ¬ 0 < ty.length := fun h => h5 ⟨h7, List.length_pos_iff.1 h⟩
                  have q1 : (str ses).toList.isEmpty = true := by rw [hses1, h7]; rfl
                  have q2 : ¬ (0 < (ty.length : Int)) := by omega
                  clear h5 h7 hses1
                  go_wp2
                  go_ret
                  exact Hf.out _ hPr.1
                · have q1 : (str ses).toList.isEmpty = false := by rw [hses1]; simpa using h7
                  clear h5 h7 hses1
                  go_wp2
                  go_ret
                  exact Hf.out _ hPr.1
              · have hf := Fin.out 0 (by unfold termCheck; rw [if_neg (by simp [h1]), if_neg (by simp [Hv.out]), if_neg (by omega), if_neg (by simp [hall.out]), if_neg h5, if_neg h6])
                have Hf := Lib.hid hf; clear hf
                by_cases h7 : ses = []
                · have hty0 : ¬ 0 < ty.length := fun h => h5 ⟨h7, List.length_pos_iff.1 h⟩
                  have q1 : (str ses).toList.isEmpty = true := by rw [hses1, h7]; rfl
                  have q2 : ¬ (0 < (ty.length : Int)) := by omega
                  clear h5 h7 hses1
                  go_wp2
                  go_ret
                  exact Hf.out _ hPr.1
                · have q1 : (str ses).toList.isEmpty = false := by rw [hses1]; simpa using h7
                  clear h5 h7 hses1
                  go_wp2
                  go_ret
                  exact Hf.out _ hPr.1
  · have w1 := withinB_no.2 h1
    have hf := Fin.out 2 (by unfold termCheck; rw [if_pos h1]) _ hP.1
    have Hf := Lib.hid hf; clear hf
    go_enter Tryz.func28, Tryz.ntmps28
    go_wp2_with (first
      | (go_at_call 48; refine (permitted_any e _).mono ?_; rw [w1]; rintro x w2 ⟨rfl, rfl⟩))
    go_ret
    exact Hf.out
end Go.Proofs.YtjifejbibgimhaaGreatDoor

/- terminal.Encode. -/
namespace Go.Proofs.YtjifejbibgimhaaGreatDoor
open Go.RowKit

theorem flat_take_succ {l : List (List UInt8)} {k : Nat} (h : k < l.length) : flat (l.take (k + 1)) = flat (l.take k) ++ natBytes l[k].length ++ l[k] := by
  rw [List.take_succ_eq_append_getElem h, flat_append, List.append_assoc]
  simp [flat, txt]
theorem flat_take_le {l : List (List UInt8)} {m : Nat} (hl : ∀ s ∈ l, s.length ≤ m) (hm : m < 18446744073709551616) (k : Nat) : (flat (l.take k)).length ≤ l.length * (m + 10) := by
  refine Nat.le_trans (flat_le (l := l.take k) (m := m) (fun s hs => hl s (List.mem_of_mem_take hs)) hm) ?_
  exact Nat.mul_le_mul_right _ (by rw [List.length_take]; omega)

set_option maxRecDepth 100000 in
set_option maxHeartbeats 3200000 in
theorem termEncode_any (e : Int) (ses : List UInt8) (tv : Value) (ty : List (List UInt8)) (scr : List UInt8) (w : World) (hty : Sees w 1 tv ty.length (ty.map sv)) (hses : ses.length ≤ 1000000000) (hscr : scr.length ≤ 9223372036854775807) (htl : ty.length ≤ 9223372036854775807) (hls : ∀ s ∈ ty, s.length ≤ 9223372036854775807) :
    Calls Tryz.prog 23 #[termV e ses tv scr] w fun x w' => x = .returned (.tuple #[.string (str (termEnc e ses ty scr)), .int .i64 (termCheck e ses ty scr.length)]) ∧ Below w.heap.size w w' := by
  obtain ⟨ao, c, rfl⟩ := sees_slice hty
  have hbx := Blk.new w #[.int .i64 e, .string (str ses), .slice ao ty.length c, .string (str scr)] 36
  have hP := (Past.refl w).alloc (.cells #[.int .i64 e, .string (str ses), .slice ao ty.length c, .string (str scr)] 36)
  have hty1 := hty.below (below_alloc w (.cells #[.int .i64 e, .string (str ses), .slice ao ty.length c, .string (str scr)] 36))
  have hck := termCheck_any e ses _ ty scr _ hty1 hses hscr htl hls
  unfold termV at *
  have Hck := Lib.hid hck; clear hck hty1
  obtain ⟨b0, b1, b2, b3, _, _, _, _⟩ := hbx.quad
  by_cases h0 : termCheck e ses ty scr.length = 0
  · obtain ⟨⟨he1, he2⟩, hv, hl16, hle, _, hs2⟩ := termCheck_ok.1 h0
    have hvl := valid_len hv
    have hll : ∀ s ∈ ty, s.length ≤ 1024 := fun s hs => lineE_len (linesE_ok.1 hle s hs)
    have hfl : ∀ k, (flat (ty.take k)).length ≤ 17000 := fun k => by
      have h1 := flat_take_le hll (by omega) k
      have h2 : ty.length * (1024 + 10) ≤ 16 * (1024 + 10) := Nat.mul_le_mul_right _ hl16
      omega
    obtain ⟨e', rfl⟩ := Int.eq_ofNat_of_zero_le he1
    have Hfin : Hid (termEnc e' ses ty scr = termBytes e' ses ty scr) := by show _ = _; unfold termEnc; rw [if_pos h0]
    have hl1 := natBytes_len64 (n := e') (by omega)
    have hl2 := natBytes_len64 (n := ses.length) (by omega)
    have hl3 := natBytes_len64 (n := ty.length) (by omega)
    have hl4 := natBytes_len64 (n := scr.length) (by omega)
    rw [h0] at Hck ⊢
    obtain ⟨_, ao', c', hvv, hc, hget⟩ := sees_str hty
    cases hvv
    have Hget := Lib.hid hget; clear hget hty
    have Hll := Lib.hid hll; clear hll
    have Hfl := Lib.hid hfl; clear hfl
    clear h0 hv hle
    go_enter Tryz.func23, Tryz.ntmps23
    go_wp2_with fail
    refine Hck.out.mono ?_
    rintro x w1 ⟨rfl, hb1⟩
    have hbk1 := hbx.below hb1 (by simp)
    have hP1 := hP.call hb1
    have hz1 : w.heap.size < w1.heap.size := hbk1.lt
    clear b0 b1 b2 b3
    go_wp2_with fail
    refine (newWriter_any _).mono ?_
    rintro x w2 ⟨rfl, hW2, hb2⟩
    have hbk2 := hbk1.below hb2 hz1
    have hP2 := hP1.call hb2
    obtain ⟨c20, c21, c22, c23, _, _, _, _⟩ := hbk2.quad
    go_wp2_with fail
    refine (number_ok w1.heap.size w1.heap.size [] e' (by omega) _ hW2 (by simp)).mono ?_
    rintro x w3 ⟨rfl, hW3, hb3⟩
    have hbk3 := hbk2.below hb3 hz1
    have hP3 := hP2.next (hb3.mono (Nat.le_of_lt hz1))
    obtain ⟨c30, c31, c32, c33, _, _, _, _⟩ := hbk3.quad
    clear c20 c21 c22 c23
    go_wp2_with fail
    refine (text_ok w1.heap.size w1.heap.size _ (str ses) (by rw [str_size]; omega) _ hW3 (by simp; omega)).mono ?_
    rintro x w4 ⟨rfl, hW4, hb4⟩
    rw [str_size, str_data] at hW4
    have hbk4 := hbk3.below hb4 hz1
    have hP4 := hP3.next (hb4.mono (Nat.le_of_lt hz1))
    obtain ⟨c40, c41, c42, c43, _, _, _, _⟩ := hbk4.quad
    clear c30 c31 c32 c33
    go_wp2_with fail
    refine (number_ok w1.heap.size w1.heap.size _ ty.length (by omega) _ hW4 (by simp; omega)).mono ?_
    rintro x w5 ⟨rfl, hW5, hb5⟩
    have hbk5 := hbk4.below hb5 hz1
    have hP5 := hP4.next (hb5.mono (Nat.le_of_lt hz1))
    obtain ⟨c50, c51, c52, c53, _, _, _, _⟩ := hbk5.quad
    clear c40 c41 c42 c43
    obtain ⟨L, hL⟩ : ∃ L, L = [] ++ natBytes e' ++ natBytes ses.length ++ ses ++ natBytes ty.length := ⟨_, rfl⟩
    rw [← hL] at hW5
    have hLl : L.length ≤ 1000 := by rw [hL]; simp; omega
    have HL := Lib.hid hL; clear hL
    clear hb1 hb2 hb3 hb4 hb5 hW2 hW3 hW4 hbk1 hbk2 hbk3 hbk4 hP hP1 hP2 hP3 hP4 hbx
    go_wp2
    clear c50 c51 c52 c53
    go_loopw [32] (fun t wr => ∃ k : Nat, k ≤ ty.length ∧ t = .int .i64 k ∧ WriterIs w1.heap.size wr w1.heap.size (L ++ flat (ty.take k)) ∧ Past w.heap.size w wr ∧ Blk wr w.heap.size #[.int .i64 e', .string (str ses), .slice ao ty.length c, .string (str scr)] 36) (fun t _ => ty.length - (intOf t).toNat)
    case atStart => exact ⟨0, Nat.zero_le _, rfl, by simpa [flat] using hW5, hP5, hbk5⟩
    case round =>
      obtain ⟨k, hk, rfl, hW, hPr, hxr⟩ := hrel
      have hlk := Hfl.out k
      by_cases hlt : k < ty.length
      · obtain ⟨b, off, rfl, hbl, hcell⟩ := Hget.out k hlt hlt
        have hcr : wr.cell? ⟨b, off + k, none⟩ = some (.string (str ty[k])) := (hPr.1.cell (p := ⟨b, off + k, none⟩) hbl).trans hcell
        clear hcell
        have htk := Hll.out _ (List.getElem_mem hlt)
        go_wp2_with fail
        refine (text_ok w1.heap.size w1.heap.size _ (str ty[k]) (by rw [str_size]; omega) _ hW (by simp; omega)).mono ?_
        rintro x w6 ⟨rfl, hW6, hb6⟩
        rw [str_size, str_data] at hW6
        have hW7 : WriterIs w1.heap.size w6 w1.heap.size (L ++ flat (ty.take (k + 1))) := by
          rw [flat_take_succ hlt, ← List.append_assoc, ← List.append_assoc]; exact hW6
        have hx6 := hxr.below hb6 hz1
        have hP6 := hPr.next (hb6.mono (Nat.le_of_lt hz1))
        clear hW6 hb6
        go_wp2
        go_roundw
        case rel => exact ⟨k + 1, by omega, by go_num, hW7, hP6, hx6⟩
        case measure => simp [intOf]; omega
      · obtain rfl : k = ty.length := by omega
        rw [List.take_length] at hW hlk
        obtain ⟨c0, c1, c2, c3, _, _, _, _⟩ := hxr.quad
        clear hlt
        go_wp2_with fail
        refine (text_ok w1.heap.size w1.heap.size _ (str scr) (by rw [str_size]; omega) _ hW (by simp; omega)).mono ?_
        rintro x w6 ⟨rfl, hW6, hb6⟩
        rw [str_size, str_data] at hW6
        obtain ⟨L6, hL6⟩ : ∃ L6, L6 = L ++ flat ty ++ natBytes scr.length ++ scr := ⟨_, rfl⟩
        rw [← hL6] at hW6
        have hL6l : L6.length ≤ 100000000 := by rw [hL6]; simp; omega
        have HL6 := Lib.hid hL6; clear hL6
        clear c0 c1 c2 c3
        go_wp2_with fail
        refine (bytes_ok w1.heap.size w1.heap.size _ _ hW6 hL6l).mono ?_
        rintro x w7 ⟨v7, rfl, hown7, hb7⟩
        have hle7 := hW6.le
        obtain ⟨a7, c7, rfl⟩ := owns_slice hown7
        have hsee7 := sees_of_owns hown7
        go_wp2_with (with_reducible refine wpList_string_of_bytes (o := ⟨some 50, _, _, _, _, _⟩) _ rfl _ _ 5 _ rfl Tryz.underlying81 Tryz.underlying5 Tryz.underlying9 hsee7 rfl ?_)
        go_ret2
        refine ⟨?_, (((hPr.next (hb6.mono (Nat.le_of_lt hz1)))).call (hb7.mono (Nat.le_refl _))).1⟩
        rw [Hfin.out]
        have e1 : termBytes (e' : Int) ses ty scr = L6 := by rw [HL6.out, HL.out]; simp [termBytes, txt]
        rw [e1]
        rfl
  · have h0' : ((termCheck e ses ty scr.length : Int) == 0) = false := by simp; omega
    have h0'' : ((termCheck e ses ty scr.length : Int) != 0) = true := by simp; omega
    have Hfin : Hid (termEnc e ses ty scr = []) := by show _ = _; unfold termEnc; rw [if_neg h0]
    go_enter Tryz.func23, Tryz.ntmps23
    go_wp2_with fail
    refine Hck.out.mono ?_
    rintro x w1 ⟨rfl, hb1⟩
    go_wp2
    go_ret2
    exact ⟨by rw [Hfin.out]; rfl, (hP.call hb1).1⟩
end Go.Proofs.YtjifejbibgimhaaGreatDoor

/- terminal.Decode. -/
namespace Go.Proofs.YtjifejbibgimhaaGreatDoor
open Go.RowKit
attribute [local go_sem ↓] Go.wp_at_zero Go.wp_at_succ

theorem Tryz.infoStr : (Tryz.prog.info? 9).map (fun i => (i.zero, i.size, i.bytes)) = some (some (.string ⟨#[]⟩), 1, 16) := by kernel_rfl
theorem rdText_len (most : Nat) (rest : List UInt8) (f : Nat) : (rdText most rest f).1.length ≤ most := by
  by_cases h : (rdText most rest f).2.2 = 0
  · exact (rdTxt_ok h).2.2
  · unfold rdText at h ⊢
    split
    · simp
    · split
      · simp
      · rename_i h1 h2
        rw [if_neg h1, if_neg h2] at h
        exact absurd rfl h
theorem rdNum_le (most : Nat) (rest : List UInt8) (f : Nat) : (rdNum most rest f).1 ≤ most := by
  by_cases h : (rdNum most rest f).2.2 = 0
  · exact (rdNum_ok h).2.2
  · unfold rdNum at h ⊢
    split
    · simp
    · split
      · simp
      · rename_i h1 h2
        rw [if_neg h1, if_neg h2] at h
        exact absurd rfl h
theorem rdTexts_le (most : Nat) : ∀ k rest f, ∀ s ∈ (rdTexts most k rest f).1, s.length ≤ most
  | 0, _, _, s, h => by simp [rdTexts] at h
  | k + 1, rest, f, s, h => by
    have h' : s ∈ (rdTexts most k rest f).1 ++ [(rdText most (rdTexts most k rest f).2.1 (rdTexts most k rest f).2.2).1] := h
    rcases List.mem_append.1 h' with h' | h'
    · exact rdTexts_le most k rest f s h'
    · simp at h'; rw [h']; exact rdText_len _ _ _

/-- what Decode returns -/
def DecPost (l : List UInt8) (w : World) (x : Ending) (w' : World) : Prop :=
  Below w.heap.size w w' ∧
  match termDec l with
  | none => x = .returned (.tuple #[termV 0 [] (.slice none 0 0) [], .int .i64 3])
  | some q => ∃ tv, x = .returned (.tuple #[termV q.1 q.2.1 tv q.2.2.2, .int .i64 0]) ∧ w'.ownsRow w.heap.size 9 1 tv q.2.2.1.length (q.2.2.1.map sv)

theorem Blk.stores4 {w : World} {b : Nat} {x y z u : Value} {t : TypeId} (h : Blk w b #[x, y, z, u] t) (x' y' z' u' : Value) :
    (w.setCell ⟨b, 0, none⟩ x').cell? ⟨b, 0, none⟩ = some x' ∧ ((w.setCell ⟨b, 0, none⟩ x').setCell ⟨b, 1, none⟩ y').cell? ⟨b, 1, none⟩ = some y' ∧
    (((w.setCell ⟨b, 0, none⟩ x').setCell ⟨b, 1, none⟩ y').setCell ⟨b, 2, none⟩ z').cell? ⟨b, 2, none⟩ = some z' ∧
    ((((w.setCell ⟨b, 0, none⟩ x').setCell ⟨b, 1, none⟩ y').setCell ⟨b, 2, none⟩ z').setCell ⟨b, 3, none⟩ u').cell? ⟨b, 3, none⟩ = some u' ∧
    Blk ((((w.setCell ⟨b, 0, none⟩ x').setCell ⟨b, 1, none⟩ y').setCell ⟨b, 2, none⟩ z').setCell ⟨b, 3, none⟩ u') b #[x', y', z', u'] t ∧
    Only [t] w ((((w.setCell ⟨b, 0, none⟩ x').setCell ⟨b, 1, none⟩ y').setCell ⟨b, 2, none⟩ z').setCell ⟨b, 3, none⟩ u') := by
  have h1 : Blk (w.setCell ⟨b, 0, none⟩ x') b #[x', y, z, u] t := (h.set 0 x').congr rfl
  have h2 := (h1.set 1 y').congr (cs' := #[x', y', z, u]) rfl
  have h3 := (h2.set 2 z').congr (cs' := #[x', y', z', u]) rfl
  have h4 := (h3.set 3 u').congr (cs' := #[x', y', z', u']) rfl
  refine ⟨h1.quad.1, h2.quad.2.1, h3.quad.2.2.1, h4.quad.2.2.2.1, h4, ?_⟩
  exact (((Only.set h (by simp) x').trans (Only.set h1 (by simp) y')).trans (Only.set h2 (by simp) z')).trans (Only.set h3 (by simp) u')
theorem Past.stores4 {B b : Nat} {W w : World} (h : Past B W w) (hb : B ≤ b) (x y z u : Value) :
    Past B W ((((w.setCell ⟨b, 0, none⟩ x).setCell ⟨b, 1, none⟩ y).setCell ⟨b, 2, none⟩ z).setCell ⟨b, 3, none⟩ u) := (((h.set hb _).set hb _).set hb _).set hb _
theorem Past.grown {B : Nat} {a w w' : World} {e : TypeId} {size : Nat} {v : Value} {n : Nat} {xs : List Value} (h : Past B a w) (hg : w.grownBy w' v.ownBlock) (ho : w.ownsRow B e size v n xs) : Past B a w' := ⟨h.1.grown hg h.2 (fun k hk => (ho.lt k hk).1), Nat.le_trans h.2 hg.size⟩

/-- the result's variable and the terminal of Decode -/
structure DecBlks (H T : Nat) (w : World) (cs : Array Value) : Prop where
  out : Blk w H #[.int .i64 0, .string ⟨#[]⟩, .slice none 0 0, .string ⟨#[]⟩] 36
  tt : Blk w T cs 36
theorem DecBlks.only {H T : Nat} {w w' : World} {cs : Array Value} {ts : List TypeId} (h : DecBlks H T w cs) (ho : Only ts w w') (ht : 36 ∉ ts) : DecBlks H T w' cs := ⟨ho.blk h.out ht, ho.blk h.tt ht⟩
theorem DecBlks.below {H T : Nat} {w w' : World} {cs : Array Value} (h : DecBlks H T w cs) (hb : Below w.heap.size w w') : DecBlks H T w' cs := ⟨h.out.below hb h.out.lt, h.tt.below hb h.tt.lt⟩
theorem DecBlks.set {H T : Nat} {w : World} {cs : Array Value} (h : DecBlks H T w cs) (hne : H ≠ T) (j : Nat) (v : Value) : DecBlks H T (w.setCell ⟨T, j, none⟩ v) (cs.setIfInBounds j v) :=
  ⟨h.out.setOther (a := ⟨T, j, none⟩) hne v, h.tt.set j v⟩

set_option maxRecDepth 100000 in
set_option maxHeartbeats 3200000 in
theorem termDecode_any (l : List UInt8) (w : World) (hs : l.length ≤ 1000000000) : Calls Tryz.prog 26 #[.string (str l)] w (DecPost l w) := by
  obtain ⟨a, ha⟩ : ∃ a, a = rdNum 1073741824 l 0 := ⟨_, rfl⟩
  obtain ⟨b, hb⟩ : ∃ b, b = rdText 64 a.2.1 a.2.2 := ⟨_, rfl⟩
  obtain ⟨c, hc⟩ : ∃ c, c = rdNum 16 b.2.1 b.2.2 := ⟨_, rfl⟩
  obtain ⟨d, hd⟩ : ∃ d, d = rdTexts 1024 c.1 c.2.1 c.2.2 := ⟨_, rfl⟩
  obtain ⟨s, hse⟩ : ∃ s, s = rdText 2048 d.2.1 d.2.2 := ⟨_, rfl⟩
  have hdec : termDec l = if rdClose s.2.1 s.2.2 ≠ 0 ∨ termCheck a.1 b.1 d.1 s.1.length ≠ 0 then none else some (a.1, b.1, d.1, s.1) := by
    unfold termDec termRd; simp only [hse, hd, hc, hb, ha]
  have hbl : b.1.length ≤ 64 := by rw [hb]; exact rdText_len _ _ _
  have hcl : c.1 ≤ 16 := by rw [hc]; exact rdNum_le _ _ _
  have hsl : s.1.length ≤ 2048 := by rw [hse]; exact rdText_len _ _ _
  have hdn : d.1.length = c.1 := by rw [hd]; exact rdTexts_len _ _ _ _
  have hds : ∀ x ∈ d.1, x.length ≤ 1024 := by rw [hd]; exact rdTexts_le _ _ _ _
  have Ha := Lib.hid ha; clear ha
  have Hb := Lib.hid hb; clear hb
  have Hc := Lib.hid hc; clear hc
  have Hd := Lib.hid hd; clear hd
  have Hse := Lib.hid hse; clear hse
  have Hdec := Lib.hid hdec; clear hdec
  have Hds := Lib.hid hds; clear hds
  have Hdn := Lib.hid hdn; clear hdn
  have hz0 := Blk.new w #[.int .i64 0, .string ⟨#[]⟩, .slice none 0 0, .string ⟨#[]⟩] 36
  have hP0 := (Past.refl w).alloc (.cells #[.int .i64 0, .string ⟨#[]⟩, .slice none 0 0, .string ⟨#[]⟩] 36)
  have hsz := str_size l
  go_enter Tryz.func26, Tryz.ntmps26
  go_wp2_with (with_reducible refine wpList_bytes_of_string (o := ⟨some 7, _, _, _, _, _⟩) _ rfl _ _ 5 _ rfl Tryz.underlying9 Tryz.underlying81 Tryz.underlying5 (str l) rfl ?_)
  intro cap w1 hcap hsee hb1 hsz1
  rw [str_data] at hsee
  have hz1 := hz0.below hb1 (by simp)
  have hP1 := hP0.next (hb1.mono (Nat.le_succ _))
  go_wp2_with fail
  refine (newReader_any _ l _ hsee hs).mono ?_
  rintro x w2 ⟨rb, rfl, hr2, hb2⟩
  have hz2 := hz1.below hb2 hz1.lt
  have hP2 := hP1.call hb2
  go_wp2_with fail
  refine (rdNumber_any _ rb l 0 1073741824 _ hr2).mono ?_
  rintro x w3 ⟨rfl, hr3, hb3, ho3⟩
  rw [← Ha.out] at hr3 ⊢
  have hz3 := ho3.blk hz2 (by decide)
  have hle1 : w.heap.size ≤ w1.heap.size := hP1.2
  have hP3 := hP2.next (hb3.mono hle1)
  go_wp2_with fail
  refine (rdText_any _ rb _ _ 64 _ hr3 (by omega)).mono ?_
  rintro x w4 ⟨rfl, hr4, hb4, ho4⟩
  rw [← Hb.out] at hr4 ⊢
  have hz4 := ho4.blk hz3 (by decide)
  have hP4 := hP3.next (hb4.mono hle1)
  have hT4 := Blk.new w4 #[.int .i64 a.1, .string (str b.1), .slice none 0 0, .string ⟨#[]⟩] 36
  have hr5 := hr4.kept (below_alloc w4 (.cells #[.int .i64 a.1, .string (str b.1), .slice none 0 0, .string ⟨#[]⟩] 36))
  have hP5 := hP4.alloc (.cells #[.int .i64 a.1, .string (str b.1), .slice none 0 0, .string ⟨#[]⟩] 36)
  have hD5 : DecBlks w.heap.size w4.heap.size _ _ := ⟨hz4.alloc _, hT4⟩
  have hHT : w.heap.size < w4.heap.size := hz4.lt
  clear hz0 hz1 hz2 hz3 hz4 hP0 hP1 hP2 hP3 hP4 hb1 hb2 hb3 hb4 ho3 ho4 hr2 hr3 hr4 hsee hT4
  go_wp2_with fail
  refine (rdNumber_any _ rb _ _ 16 _ hr5).mono ?_
  rintro x w6 ⟨rfl, hr6, hb6, ho6⟩
  rw [← Hc.out] at hr6 ⊢
  have hD6 := hD5.only ho6 (by decide)
  have hP6 := hP5.next (hb6.mono hle1)
  clear hr5 hP5 hD5 hb6 ho6
  go_wp2
  go_loopw [16] (fun t wr => ∃ (k : Nat) (tv : Value), k ≤ c.1 ∧ t = .int .i64 k ∧ DecBlks w.heap.size w4.heap.size wr #[.int .i64 a.1, .string (str b.1), tv, .string ⟨#[]⟩] ∧ wr.ownsRow w.heap.size 9 1 tv k ((rdTexts 1024 k c.2.1 c.2.2).1.map sv) ∧ ReaderIs w1.heap.size wr rb (rdTexts 1024 k c.2.1 c.2.2).2.1 (rdTexts 1024 k c.2.1 c.2.2).2.2 ∧ Past w.heap.size w wr) (fun t _ => c.1 - (intOf t).toNat)
  case atStart => exact ⟨0, _, Nat.zero_le _, rfl, hD6, World.ownsRow_nil _ _ _ _, hr6, hP6⟩
  case round =>
    obtain ⟨k, tv, hk, rfl, hD, hown, hr, hP⟩ := hrel
    by_cases hlt : k < c.1
    · have hrx := hr.kept (Below.refl _ wr).drew
      have hownx := owns_below hown (Below.refl _ wr).drew
      have hDx := hD.below (Below.refl _ wr).drew
      obtain ⟨tv0, tv1, tv2, tv3, _, _, _, _⟩ := hD.tt.quad
      obtain ⟨X, hX⟩ : ∃ X, X = rdTexts 1024 k c.2.1 c.2.2 := ⟨_, rfl⟩
      obtain ⟨Y, hY⟩ : ∃ Y, Y = rdText 1024 X.2.1 X.2.2 := ⟨_, rfl⟩
      have hXY : Hid (rdTexts 1024 (k + 1) c.2.1 c.2.2 = (X.1 ++ [Y.1], Y.2.1, Y.2.2)) := by show _ = _; simp only [rdTexts, ← hX, hY]
      have hXl : X.1.length = k := by rw [hX]; exact rdTexts_len _ _ _ _
      rw [← hX] at hrx hownx
      have hrt := fun w h => rdText_any w1.heap.size rb X.2.1 X.2.2 1024 w h (by omega)
      rw [← hY] at hrt
      have Hrt := Lib.hid hrt; clear hrt hX hY hr hown
      have HXl := Lib.hid hXl; clear hXl
      go_wp2_with fail
      go_region_law (first
          | (refine step_append_slice _ _ _ 22 rfl w.heap.size 9 (.string ⟨#[]⟩) 1 16 Tryz.underlying22 Tryz.infoStr rfl (by decide) (hown6.alloc _) rfl (sees_new w6 #[.string (str Y.1)] 9 (0, 0) 1 1 1 rfl (Nat.le_refl _)) rfl (by simp [Value.oneCell']) (by unfold maxLen; omega) (by omega) (by simp; omega) ?_; intro av7 cv7 w7 hown7 hg7; have ho7 := Only.of_grown (hown6.alloc (.cells #[.string (str Y.1)] 9)) hg7; have hD7 := (hD6.below (below_alloc w6 _)).only ho7 (by decide); obtain ⟨y0, y1, y2, y3, fz0, fz1, fz2, fz3⟩ := hD7.tt.quad)
          | (go_simp; go_at_call 62; refine (Hrt.out _ hrx).mono ?_; rintro x w6 ⟨rfl, hr6, hb6, ho6⟩; have hD6 := hDx.only ho6 (by decide); have hown6 := ho6.owns hownx (by decide); have hsz6 : w.heap.size ≤ w6.heap.size := Nat.le_trans hP.2 ho6.1; obtain ⟨x0, x1, x2, x3, _, _, _, _⟩ := hD6.tt.quad; have hlt6 := hD6.tt.lt))
      all_goals go_wp2
      all_goals go_roundw
      all_goals (try clear Hrt)
      all_goals first
        | (case rel =>
            refine ⟨k + 1, .slice av7 (k + 1) cv7, by omega, by go_num, hD7.set (Nat.ne_of_lt hHT) 2 _, ?_, ?_, ?_⟩
            · rw [hXY.out]; simpa [sv] using owns_set hown7 hD7.tt (by decide) (.slice av7 (k + 1) cv7)
            · rw [hXY.out]; exact ((hr6.kept (below_alloc w6 _)).only ho7 (by decide) (by decide)).only (Only.set (ts := [36]) hD7.tt (by simp) _) (by decide) (by decide)
            · exact (((hP.drew.next (hb6.mono hle1)).alloc (.cells #[.string (str Y.1)] 9)).grown hg7 (hown6.alloc _)).set (Nat.le_of_lt hHT) _)
        | (case measure => simp [intOf]; omega)
    · obtain rfl : k = c.1 := by omega
      rw [← Hd.out] at hown hr
      obtain ⟨tv0, tv1, tv2, tv3, _, _, _, _⟩ := hD.tt.quad
      have hrt := rdText_any w1.heap.size rb d.2.1 d.2.2 2048 wr hr (by omega)
      rw [← Hse.out] at hrt
      have Hrt := Lib.hid hrt; clear hrt hr
      obtain ⟨av, cv, rfl⟩ := owns_slice hown
      go_wp2_with fail
      refine Hrt.out.mono ?_
      rintro x w7 ⟨rfl, hr7, hb7, ho7⟩
      have hD7 := hD.only ho7 (by decide)
      have hown7 := ho7.owns hown (by decide)
      have hP7 := hP.next (hb7.mono hle1)
      obtain ⟨y0, y1, y2, y3, fz0, fz1, fz2, fz3⟩ := hD7.tt.quad
      have hD8 := hD7.set (Nat.ne_of_lt hHT) 3 (.string (str s.1))
      have hown8 := owns_set hown7 hD7.tt (by decide) (j := 3) (.string (str s.1))
      have hr8 := hr7.only (Only.set (ts := [36]) hD7.tt (by simp) (j := 3) (.string (str s.1))) (by decide) (by decide)
      have hP8 := hP7.set (p := ⟨w4.heap.size, 3, none⟩) (Nat.le_of_lt hHT) (.string (str s.1))
      go_wp2_with fail
      refine (close_any _ rb _ _ _ hr8).mono ?_
      rintro x w9 ⟨rfl, hb9⟩
      have hD9 := hD8.below hb9
      have hown9 := owns_below hown8 hb9
      have hP9 := hP8.call hb9
      have hoz := hD9.out
      obtain ⟨p0, p1, p2, p3, _, _, _, _⟩ := hD9.tt.quad
      obtain ⟨z0, z1, z2, z3, f0, f1, f2, f3⟩ := hoz.quad
      clear hD7 hD8 hown7 hown8 hr7 hr8 hP7 hP8 y0 y1 y2 y3 fz0 fz1 fz2 fz3 tv0 tv1 tv2 tv3 hown hD hP Hrt ho7 hb7
      by_cases hcl : rdClose s.2.1 s.2.2 = 0
      · have hcl' : ((rdClose s.2.1 s.2.2 : Int) == 0) = true := by simp [hcl]
        have hcl'' : ((rdClose s.2.1 s.2.2 : Int) != 0) = false := by simp [hcl]
        have hck := termCheck_any a.1 b.1 (.slice av c.1 cv) d.1 s.1 w9 (by rw [Hdn.out]; exact sees_of_owns hown9) (by omega) (by omega) (by have := Hdn.out; omega) (fun x hx => Nat.le_trans (Hds.out x hx) (by decide))
        unfold termV at hck
        by_cases hk0 : termCheck a.1 b.1 d.1 s.1.length = 0
        · have hk' : ((termCheck a.1 b.1 d.1 s.1.length : Int) == 0) = true := by simp [hk0]
          have hk'' : ((termCheck a.1 b.1 d.1 s.1.length : Int) != 0) = false := by simp [hk0]
          have Hfin : Hid (termDec l = some (a.1, b.1, d.1, s.1)) := by show _ = _; rw [Hdec.out, if_neg (by simp [hcl, hk0])]
          have Hck := Lib.hid hck; clear hck hcl hk0
          go_wp2_with fail
          refine Hck.out.mono ?_
          rintro x w10 ⟨rfl, hb10⟩
          have hD10 := hD9.below hb10
          have hown10 := owns_below hown9 hb10
          have hP10 := hP9.call hb10
          clear p0 p1 p2 p3 z0 z1 z2 z3 f0 f1 f2 f3
          obtain ⟨p0, p1, p2, p3, _, _, _, _⟩ := hD10.tt.quad
          obtain ⟨z0, z1, z2, z3, f0, f1, f2, f3⟩ := hD10.out.quad
          obtain ⟨q0, q1, q2, q3, _, hoq⟩ := hD10.out.stores4 (.int .i64 a.1) (.string (str b.1)) (.slice av c.1 cv) (.string (str s.1))
          have hownq := hoq.owns hown10 (by decide)
          go_wp2
          refine bodyPost_ret (v := .tuple #[termV a.1 b.1 (.slice av c.1 cv) s.1, .int .i64 0]) (by simp [results, Tryz.results26, go_sem, q0, q1, q2, q3, termV]) rfl ⟨(hP10.stores4 (Nat.le_refl _) _ _ _ _).1, ?_⟩
          rw [Hfin.out]
          exact ⟨.slice av c.1 cv, rfl, by rw [Hdn.out]; exact hownq⟩
        · have hk' : ((termCheck a.1 b.1 d.1 s.1.length : Int) == 0) = false := by simp; omega
          have hk'' : ((termCheck a.1 b.1 d.1 s.1.length : Int) != 0) = true := by simp; omega
          have Hfin : Hid (termDec l = none) := by show _ = _; rw [Hdec.out, if_pos (.inr hk0)]
          have Hck := Lib.hid hck; clear hck hcl hk0
          go_wp2_with fail
          refine Hck.out.mono ?_
          rintro x w10 ⟨rfl, hb10⟩
          have hD10 := hD9.below hb10
          have hP10 := hP9.call hb10
          clear p0 p1 p2 p3 z0 z1 z2 z3 f0 f1 f2 f3
          obtain ⟨z0, z1, z2, z3, f0, f1, f2, f3⟩ := hD10.out.quad
          obtain ⟨q0, q1, q2, q3, _⟩ := hD10.out.stores4 (.int .i64 0) (.string ⟨#[]⟩) (.slice none 0 0) (.string ⟨#[]⟩)
          go_wp2
          refine bodyPost_ret (v := .tuple #[.agg #[.int .i64 0, .string ⟨#[]⟩, .slice none 0 0, .string ⟨#[]⟩], .int .i64 3]) (by simp [results, Tryz.results26, go_sem, q0, q1, q2, q3]) rfl ⟨(hP10.stores4 (Nat.le_refl _) _ _ _ _).1, ?_⟩
          rw [Hfin.out]
          rfl
      · have hcl' : ((rdClose s.2.1 s.2.2 : Int) == 0) = false := by simp; omega
        have hcl'' : ((rdClose s.2.1 s.2.2 : Int) != 0) = true := by simp; omega
        have Hfin : Hid (termDec l = none) := by show _ = _; rw [Hdec.out, if_pos (.inl hcl)]
        clear hcl
        clear p0 p1 p2 p3
        obtain ⟨q0, q1, q2, q3, _⟩ := hoz.stores4 (.int .i64 0) (.string ⟨#[]⟩) (.slice none 0 0) (.string ⟨#[]⟩)
        go_wp2
        refine bodyPost_ret (v := .tuple #[.agg #[.int .i64 0, .string ⟨#[]⟩, .slice none 0 0, .string ⟨#[]⟩], .int .i64 3]) (by simp [results, Tryz.results26, go_sem, q0, q1, q2, q3]) rfl ⟨(hP9.stores4 (Nat.le_refl _) _ _ _ _).1, ?_⟩
        rw [Hfin.out]
        rfl
end Go.Proofs.YtjifejbibgimhaaGreatDoor

/- terminal: OfTerminal, Get. -/
namespace Go.Proofs.YtjifejbibgimhaaGreatDoor
open Go.RowKit

set_option maxRecDepth 100000 in
theorem idxTerm (w : World) : (Instr.index 158 (.agg usesCells) (.int .i64 (13 : Nat))).run Tryz.prog w = .ok (.agg #[.string (str [116, 101, 114, 109, 105, 110, 97, 108]), .bool false, .bool true, .bool false, .int .i64 (-1)]) w := by kernel_rfl
theorem nameOk_term {n : Int} (h0 : 1 ≤ n) (h1 : n ≤ 99) : NameOk 13 [] n 0 [] :=
  ⟨⟨by decide, by simp, by omega, by decide, by simp⟩, fun w => by
    have h := numCheck_any 13 (by decide) (by decide) _ idxTerm n w
    have e : numErr n = 0 := by unfold numErr; rw [if_pos (by simp; omega)]
    rwa [e] at h⟩

set_option maxRecDepth 100000 in
set_option maxHeartbeats 800000 in
theorem ofTerm_any (n : Int) (w : World) : Calls Tryz.prog 36 #[.int .i64 n] w fun e w' => e = .returned (nameV 13 [] n 0 []) ∧ Below w.heap.size w w' := by
  unfold nameV
  have hn := Blk.new w #[.int .i64 13, .string ⟨#[]⟩, .int .i64 n, .int .i64 0, .string ⟨#[]⟩] 68
  obtain ⟨k0, k1, k2, k3, k4⟩ := hn.five
  go_enter Tryz.func36, Tryz.ntmps36
  go_wp2
  refine bodyPost_ret (v := .agg #[.int .i64 13, .string ⟨#[]⟩, .int .i64 n, .int .i64 0, .string ⟨#[]⟩]) (by simp [results, Tryz.results36, go_sem, k0, k1, k2, k3, k4]) rfl ⟨rfl, ?_⟩
  exact below_alloc w _

/-- what Get returns -/
def getT (c : Option TT) (ep : Nat) : TT :=
  match c with
  | none => TT.new ep
  | some t => if t.ep = ep then t else TT.new ep
theorem getT_ok {c : Option TT} {ep : Nat} (hc : ∀ t, c = some t → t.ok) (h : ep ≤ 1073741824) : (getT c ep).ok := by
  cases c with
  | none => exact TT.new_ok h
  | some t =>
    unfold getT
    simp only
    split
    · exact hc t rfl
    · exact TT.new_ok h
theorem getT_ep (c : Option TT) (ep : Nat) : (getT c ep).ep = ep := by
  cases c with
  | none => rfl
  | some t =>
    unfold getT
    simp only
    split
    · assumption
    · rfl

theorem Cells.new {w0 w w' : World} {t : TypeId} (h : Cells [] w0 w) (ho : Only [t] w w') (hb : Below w0.heap.size w w') : Cells [] w0 w' := ⟨Nat.le_trans h.1 ho.1, fun b cs t f hk _ => (hb.block b (Array.getElem?_eq_some_iff.1 hk).1).trans (h.2 b cs t f hk (by simp))⟩

section
variable {B : Nat} {vb : Nat} {base : Value} {n : Nat} {c : Option TT} {k : Nat}
set_option maxRecDepth 100000 in
set_option maxHeartbeats 3200000 in
theorem termGet_any (w : World) (ep : Nat) (hn : 1 ≤ n ∧ n ≤ 99) (hep : ep ≤ 1073741824) (hok : ∀ t, c = some t → t.ok) (hO : ObjIs B w vb base 13 [] n 0 [] (c.map TT.bytes) k) (hk : k < 1000000) :
    Calls Tryz.prog 17 #[.pointer (some ⟨vb, 0, none⟩), .int .i64 n, .int .i64 ep] w fun e w' => ∃ tv, e = .returned (.tuple #[termV (getT c ep).ep (getT c ep).ses tv (getT c ep).scr, .int .i64 0]) ∧ w'.ownsRow w.heap.size 9 1 tv (getT c ep).ty.length ((getT c ep).ty.map sv) ∧ ObjIs B w' vb base 13 [] n 0 [] (c.map TT.bytes) (k + 1) ∧ Below B w w' ∧ Cells [] w w' := by
  have hB := hO.le
  have hN := nameOk_term (n := n) (by omega) (by omega)
  have HN := Lib.hid hN; clear hN
  have hpe := fun w => permitted_any ep w
  rw [withinB_iff.2 ⟨by omega, by omega⟩] at hpe
  have Hpe := Lib.hid hpe; clear hpe
  have ho := fun w => ofTerm_any n w
  have Ho := Lib.hid ho; clear ho
  have hz0 := Blk.new w #[.int .i64 0, .string ⟨#[]⟩, .slice none 0 0, .string ⟨#[]⟩] 36
  have hO0 := hO.keep (below_alloc w (.cells #[.int .i64 0, .string ⟨#[]⟩, .slice none 0 0, .string ⟨#[]⟩] 36))
  have HO := Lib.hid hO; clear hO
  have hP0 := (Past.at (w := w) hB).alloc (.cells #[.int .i64 0, .string ⟨#[]⟩, .slice none 0 0, .string ⟨#[]⟩] 36)
  have hPw := (Past.refl w).alloc (.cells #[.int .i64 0, .string ⟨#[]⟩, .slice none 0 0, .string ⟨#[]⟩] 36)
  have hn1 : ¬ ((n : Int) < 1) := by omega
  have hn2 : ¬ ((99 : Int) < n) := by omega
  cases c with
  | none =>
    go_enter Tryz.func17, Tryz.ntmps17
    go_wp2_with (first
      | (go_at_call 48; refine (Hpe.out _).mono ?_; rintro x w2 ⟨rfl, rfl⟩)
      | (go_at_call 36; refine (Ho.out _).mono ?_; rintro e w3 ⟨rfl, hb3⟩; have hz3 := hz0.below hb3 hz0.lt; have hO3 := hO0.keep hb3; have hP3 := hP0.call hb3; have hPw3 := hPw.call hb3)
      | (go_at_call 35; refine (objGet HN.out hO3 hk).mono ?_; rintro e w4 ⟨rfl, hO4, hb4, hc4⟩; have hz4 := hc4.blk hz3 (by simp); obtain ⟨p0, p1, p2, p3, q0, q1, q2, q3⟩ := hz4.quad; simp only [retV, Option.map_none, Option.getD_none, Option.isSome_none]))
    obtain ⟨z0, z1, z2, z3, hzs, hos⟩ := hz4.stores4 (.int .i64 ep) (.string ⟨#[]⟩) (.slice none 0 0) (.string ⟨#[]⟩)
    have hPs := (hP3.next hb4).stores4 (b := w.heap.size) hB (.int .i64 ep) (.string ⟨#[]⟩) (.slice none 0 0) (.string ⟨#[]⟩)
    have hC4 := (Cells.of_below hPw3.1).trans hc4
    have hPx := (Past.at (B := w.heap.size) (Nat.le_of_lt hz4.lt)).stores4 (b := w.heap.size) (Nat.le_refl _) (.int .i64 ep) (.string ⟨#[]⟩) (.slice none 0 0) (.string ⟨#[]⟩)
    have hC5 := Cells.new hC4 hos hPx.1
    have hO5 := hO4.only hos ((Past.at (w := w4) hO4.le).stores4 (b := w.heap.size) hB (.int .i64 ep) (.string ⟨#[]⟩) (.slice none 0 0) (.string ⟨#[]⟩)).1 (by decide) (by decide)
    refine bodyPost_ret (v := .tuple #[termV ep [] (.slice none 0 0) [], .int .i64 0]) (by simp [results, Tryz.results17, go_sem, z0, z1, z2, z3, termV]; rfl) rfl ⟨.slice none 0 0, rfl, World.ownsRow_nil _ _ _ _, hO5, hPs.1, hC5⟩
  | some t =>
    have ht := hok t rfl
    have hdec := TT.dec ht
    have hlen := TT.len ht
    have hde := fun w => termDecode_any t.bytes w (by omega)
    unfold DecPost at hde
    rw [hdec] at hde
    simp only at hde
    have Hde := Lib.hid hde; clear hde hdec
    by_cases he : t.ep = ep
    · have hg : getT (some t) ep = t := by unfold getT; simp only; rw [if_pos he]
      rw [hg]; clear hg
      subst he
      go_enter Tryz.func17, Tryz.ntmps17
      go_wp2_with (first
      | (go_at_call 48; refine (Hpe.out _).mono ?_; rintro x w2 ⟨rfl, rfl⟩)
      | (go_at_call 36; refine (Ho.out _).mono ?_; rintro e w3 ⟨rfl, hb3⟩; have hz3 := hz0.below hb3 hz0.lt; have hO3 := hO0.keep hb3; have hP3 := hP0.call hb3; have hPw3 := hPw.call hb3)
      | (go_at_call 35; refine (objGet HN.out hO3 hk).mono ?_; rintro e w4 ⟨rfl, hO4, hb4, hc4⟩; have hz4 := hc4.blk hz3 (by simp); obtain ⟨p0, p1, p2, p3, q0, q1, q2, q3⟩ := hz4.quad; simp only [retV, Option.map_some, Option.getD_some, Option.isSome_some])
      | (go_at_call 26; refine (Hde.out _).mono ?_; rintro e w5 ⟨hb5, tv, rfl, hown5⟩; obtain ⟨av, cv, rfl⟩ := owns_slice hown5; have hz5 := hz4.below hb5 hz4.lt; have hO5 := hO4.keep hb5; have hl5 := hz5.lt; clear p0 p1 p2 p3 q0 q1 q2 q3; obtain ⟨p0, p1, p2, p3, q0, q1, q2, q3⟩ := hz5.quad; simp only [termV]))
      obtain ⟨_, _, _, _, hzs, hos⟩ := hz5.stores4 (.int .i64 t.ep) (.string (str t.ses)) (.slice av t.ty.length cv) (.string (str t.scr))
      obtain ⟨z0, z1, z2, z3, _, _, _, _⟩ := (hzs.alloc (.cells #[.int .i64 t.ep, .string (str t.ses), .slice av t.ty.length cv, .string (str t.scr)] 36)).quad
      have hPs := (((hP3.next hb4).call hb5).stores4 (b := w.heap.size) hB (.int .i64 t.ep) (.string (str t.ses)) (.slice av t.ty.length cv) (.string (str t.scr))).alloc (.cells #[.int .i64 t.ep, .string (str t.ses), .slice av t.ty.length cv, .string (str t.scr)] 36)
      have hC5 := ((Cells.of_below hPw3.1).trans hc4).trans (Cells.of_below hb5)
      have hPx := (Past.at (B := w.heap.size) (Nat.le_of_lt hz5.lt)).stores4 (b := w.heap.size) (Nat.le_refl _) (.int .i64 t.ep) (.string (str t.ses)) (.slice av t.ty.length cv) (.string (str t.scr))
      have hC6 := (Cells.new hC5 hos hPx.1).trans (Cells.of_below (below_alloc _ (.cells #[.int .i64 t.ep, .string (str t.ses), .slice av t.ty.length cv, .string (str t.scr)] 36)))
      have hO6 := (hO5.only hos ((Past.at (w := w5) hO5.le).stores4 (b := w.heap.size) hB (.int .i64 t.ep) (.string (str t.ses)) (.slice av t.ty.length cv) (.string (str t.scr))).1 (by decide) (by decide)).keep (below_alloc _ (.cells #[.int .i64 t.ep, .string (str t.ses), .slice av t.ty.length cv, .string (str t.scr)] 36))
      have hown6 := (hos.owns hown5 (by decide)).alloc (.cells #[.int .i64 t.ep, .string (str t.ses), .slice av t.ty.length cv, .string (str t.scr)] 36)
      refine bodyPost_ret (v := .tuple #[termV t.ep t.ses (.slice av t.ty.length cv) t.scr, .int .i64 0]) (by simp [results, Tryz.results17, go_sem, z0, z1, z2, z3, termV]) rfl ⟨.slice av t.ty.length cv, rfl, owns_mono hown6 (Nat.le_of_lt hz4.lt), hO6, hPs.1, hC6⟩
    · have hg : getT (some t) ep = TT.new ep := by unfold getT; simp only; rw [if_neg he]
      rw [hg]; clear hg
      have he1 : ((t.ep : Int) == (ep : Int)) = false := by simp; omega
      have he2 : ((t.ep : Int) != (ep : Int)) = true := by simp; omega
      go_enter Tryz.func17, Tryz.ntmps17
      go_wp2_with (first
      | (go_at_call 48; refine (Hpe.out _).mono ?_; rintro x w2 ⟨rfl, rfl⟩)
      | (go_at_call 36; refine (Ho.out _).mono ?_; rintro e w3 ⟨rfl, hb3⟩; have hz3 := hz0.below hb3 hz0.lt; have hO3 := hO0.keep hb3; have hP3 := hP0.call hb3; have hPw3 := hPw.call hb3)
      | (go_at_call 35; refine (objGet HN.out hO3 hk).mono ?_; rintro e w4 ⟨rfl, hO4, hb4, hc4⟩; have hz4 := hc4.blk hz3 (by simp); obtain ⟨p0, p1, p2, p3, q0, q1, q2, q3⟩ := hz4.quad; simp only [retV, Option.map_some, Option.getD_some, Option.isSome_some])
      | (go_at_call 26; refine (Hde.out _).mono ?_; rintro e w5 ⟨hb5, tv, rfl, hown5⟩; obtain ⟨av, cv, rfl⟩ := owns_slice hown5; have hz5 := hz4.below hb5 hz4.lt; have hO5 := hO4.keep hb5; have hl5 := hz5.lt; clear p0 p1 p2 p3 q0 q1 q2 q3; obtain ⟨p0, p1, p2, p3, q0, q1, q2, q3⟩ := hz5.quad; simp only [termV]))
      obtain ⟨_, _, _, _, hzs, hos⟩ := hz5.stores4 (.int .i64 ep) (.string ⟨#[]⟩) (.slice none 0 0) (.string ⟨#[]⟩)
      obtain ⟨z0, z1, z2, z3, _, _, _, _⟩ := (hzs.alloc (.cells #[.int .i64 t.ep, .string (str t.ses), .slice av t.ty.length cv, .string (str t.scr)] 36)).quad
      have hPs := (((hP3.next hb4).call hb5).stores4 (b := w.heap.size) hB (.int .i64 ep) (.string ⟨#[]⟩) (.slice none 0 0) (.string ⟨#[]⟩)).alloc (.cells #[.int .i64 t.ep, .string (str t.ses), .slice av t.ty.length cv, .string (str t.scr)] 36)
      have hC5 := ((Cells.of_below hPw3.1).trans hc4).trans (Cells.of_below hb5)
      have hPx := (Past.at (B := w.heap.size) (Nat.le_of_lt hz5.lt)).stores4 (b := w.heap.size) (Nat.le_refl _) (.int .i64 ep) (.string ⟨#[]⟩) (.slice none 0 0) (.string ⟨#[]⟩)
      have hC6 := (Cells.new hC5 hos hPx.1).trans (Cells.of_below (below_alloc _ (.cells #[.int .i64 t.ep, .string (str t.ses), .slice av t.ty.length cv, .string (str t.scr)] 36)))
      have hO6 := (hO5.only hos ((Past.at (w := w5) hO5.le).stores4 (b := w.heap.size) hB (.int .i64 ep) (.string ⟨#[]⟩) (.slice none 0 0) (.string ⟨#[]⟩)).1 (by decide) (by decide)).keep (below_alloc _ (.cells #[.int .i64 t.ep, .string (str t.ses), .slice av t.ty.length cv, .string (str t.scr)] 36))
      refine bodyPost_ret (v := .tuple #[termV ep [] (.slice none 0 0) [], .int .i64 0]) (by simp [results, Tryz.results17, go_sem, z0, z1, z2, z3, termV]; rfl) rfl ⟨.slice none 0 0, rfl, World.ownsRow_nil _ _ _ _, hO6, hPs.1, hC6⟩
end
end Go.Proofs.YtjifejbibgimhaaGreatDoor

/- terminal.change. -/
namespace Go.Proofs.YtjifejbibgimhaaGreatDoor
open Go.RowKit

theorem Only.cells {ts : List TypeId} {w w' : World} (h : Only ts w w') : Cells ts w w' := ⟨h.1, fun b cs t f hb ht => h.2 b _ hb (fun _ _ _ e => by cases e; exact ht)⟩
theorem TT.bounds {t : TT} (h : t.ok) : t.ep ≤ 1073741824 ∧ t.ses.length ≤ 64 ∧ t.ty.length ≤ 16 ∧ (∀ s ∈ t.ty, s.length ≤ 1024) ∧ t.scr.length ≤ 2048 := by
  obtain ⟨h1, h2, h3, h4, _, h6⟩ := termCheck_ok.1 h
  exact ⟨by omega, valid_len h2, h3, fun s hs => lineE_len (linesE_ok.1 h4 s hs), h6⟩

/-- the request's function fn makes of terminal t terminal t', and returns er -/
def Turns (B : Nat) (fn qb : Nat) (t t' : TT) (er : Nat) (Post : World → Prop) (w w1 : World) (pb : Nat) (tv : Value) : Prop :=
  Cells [] w w1 → w.heap.size ≤ pb → Blk w1 pb #[.int .i64 t.ep, .string (str t.ses), tv, .string (str t.scr)] 36 → w1.ownsRow w.heap.size 9 1 tv t.ty.length (t.ty.map sv) → B ≤ w1.heap.size →
    Calls Tryz.prog fn #[.pointer (some ⟨qb, 0, none⟩), .pointer (some ⟨pb, 0, none⟩)] w1 fun x w2 => x = .returned (.int .i64 er) ∧ Post w2 ∧ (∃ tv', Blk w2 pb #[.int .i64 t'.ep, .string (str t'.ses), tv', .string (str t'.scr)] 36 ∧ Sees w2 1 tv' t'.ty.length (t'.ty.map sv)) ∧ Only [36, 98] w1 w2 ∧ ∀ D, D ≤ qb → D ≤ pb → D ≤ w1.heap.size → Below D w1 w2
/-- the cells of blocks below q are kept, but for some types' -/
def Keeps (q : Nat) (ts : List TypeId) (w w' : World) : Prop := ∀ (b : Nat) (cs : Array Value) (t : TypeId) (f : Nat × Nat), b < q → w.heap[b]? = some (.cells cs t f) → t ∉ ts → w'.heap[b]? = some (.cells cs t f)
theorem cells_of_keeps {ts : List TypeId} {w w1 w' : World} {q : Nat} (hk : Keeps q ts w1 w') (hq : w.heap.size ≤ q) (h1 : Cells ts w w1) (hs : w1.heap.size ≤ w'.heap.size) : Cells ts w w' := ⟨Nat.le_trans h1.1 hs, fun b cs t f h ht => hk b cs t f (Nat.lt_of_lt_of_le (Array.getElem?_eq_some_iff.1 h).1 hq) (h1.2 b cs t f h ht) ht⟩

section
variable {B : Nat} {vb : Nat} {base : Value} {n : Nat} {c : Option TT} {k : Nat}
set_option maxRecDepth 100000 in
set_option maxHeartbeats 1600000 in
theorem change_not (w : World) (ep : Nat) (fn qb : Nat) (hent : ∀ args w, (callFunc fn args).run Tryz.prog w = .ok (.enter fn args) w) (t t' : TT) (er : Nat) (her : er ≠ 0) (Post : World → Prop)
    (hn : 1 ≤ n ∧ n ≤ 99) (hep : ep ≤ 1073741824) (hok : ∀ t, c = some t → t.ok) (hO : ObjIs B w vb base 13 [] n 0 [] (c.map TT.bytes) k) (hk : k < 1000000) (hBq : B ≤ qb) (hql : qb ≤ w.heap.size)
    (hg : getT c ep = t) (hf : ∀ w1 pb tv, Turns B fn qb t t' er Post w w1 pb tv) :
    Calls Tryz.prog 44 #[.pointer (some ⟨vb, 0, none⟩), .int .i64 n, .int .i64 ep, .func (.func fn) #[.pointer (some ⟨qb, 0, none⟩)] #[]] w fun x w' => x = .returned (.int .i64 er) ∧ ObjIs B w' vb base 13 [] n 0 [] (c.map TT.bytes) (k + 1) ∧ Below B w w' ∧ Post w' ∧ Keeps qb [90] w w' ∧ w.heap.size ≤ w'.heap.size := by
  have hB := hO.le
  have hp := termGet_any w ep hn hep hok hO hk
  rw [hg] at hp
  have Hp := Lib.hid hp; clear hp hO hg
  have Hf := Lib.hid hf; clear hf
  have q1 : ((er : Int) == 0) = false := by simp; omega
  have q2 : ((er : Int) != 0) = true := by simp; omega
  go_enter Tryz.func44, Tryz.ntmps44
  go_wp2_with (go_at_call 17; refine (Hp.out).mono ?_; rintro x w2 ⟨tv, rfl, hown2, hO2, hb2, hc2⟩; obtain ⟨av, cv, rfl⟩ := owns_slice hown2; simp only [termV])
  have hCC := hc2.trans (Cells.of_below (ts := []) (below_alloc w2 (.cells #[.int .i64 t.ep, .string (str t.ses), .slice av t.ty.length cv, .string (str t.scr)] 36)))
  have hsz : w.heap.size ≤ w2.heap.size := hc2.1
  have hBz : B ≤ (w2.alloc (.cells #[.int .i64 t.ep, .string (str t.ses), .slice av t.ty.length cv, .string (str t.scr)] 36)).heap.size := by have := hO2.le; simp; omega
  refine (Hf.out _ _ _ hCC hsz (Blk.new w2 _ _) (hown2.alloc _) hBz).mono ?_
  rintro x w3 ⟨rfl, hP3, ⟨tv', hk3, hs3⟩, ho3, hbD⟩
  have hb3 := hbD B hBq hO2.le hBz
  have hbq := hbD qb (Nat.le_refl _) (Nat.le_trans hql hsz) (Nat.le_trans (Nat.le_trans hql hsz) (by simp))
  have hO3 := (hO2.keep (below_alloc w2 (.cells #[.int .i64 t.ep, .string (str t.ses), .slice av t.ty.length cv, .string (str t.scr)] 36))).only ho3 hb3 (by decide) (by decide)
  have hB3 : Below B w w3 := (hb2.alloc hO2.le _).trans hb3
  have hC3 : Keeps qb [90] w w3 := fun b cs t f hb h ht => (hbq.block b hb).trans (hCC.2 b cs t f h (by simp))
  have hS3 : w.heap.size ≤ w3.heap.size := Nat.le_trans hCC.1 ho3.1
  go_wp2
  go_ret
  exact ⟨rfl, hO3, hB3, hP3, hC3, hS3⟩

set_option maxRecDepth 100000 in
set_option maxHeartbeats 1600000 in
theorem change_do (w : World) (ep : Nat) (fn qb : Nat) (hent : ∀ args w, (callFunc fn args).run Tryz.prog w = .ok (.enter fn args) w) (t t' : TT) (ht' : t'.ok) (Post : World → Prop) (hpost : ∀ a c, Post a → Cells [90] a c → Post c)
    (hn : 1 ≤ n ∧ n ≤ 99) (hep : ep ≤ 1073741824) (hok : ∀ t, c = some t → t.ok) (hO : ObjIs B w vb base 13 [] n 0 [] (c.map TT.bytes) k) (hk : k < 999999) (hBq : B ≤ qb) (hql : qb ≤ w.heap.size)
    (hg : getT c ep = t) (hf : ∀ w1 pb tv, Turns B fn qb t t' 0 Post w w1 pb tv) :
    Calls Tryz.prog 44 #[.pointer (some ⟨vb, 0, none⟩), .int .i64 n, .int .i64 ep, .func (.func fn) #[.pointer (some ⟨qb, 0, none⟩)] #[]] w fun x w' => x = .returned (.int .i64 0) ∧ ObjIs B w' vb base 13 [] n 0 [] (some t'.bytes) (k + 2) ∧ Below B w w' ∧ Post w' ∧ Keeps qb [90] w w' ∧ w.heap.size ≤ w'.heap.size := by
  have hB := hO.le
  have hp := termGet_any w ep hn hep hok hO (by omega)
  rw [hg] at hp
  have Hp := Lib.hid hp; clear hp hO hg
  have Hf := Lib.hid hf; clear hf
  obtain ⟨u1, u2, u3, u4, u5⟩ := TT.bounds ht'
  have hlen := TT.len ht'
  have henc : termEnc t'.ep t'.ses t'.ty t'.scr = t'.bytes := by unfold termEnc; rw [if_pos (show termCheck t'.ep t'.ses t'.ty t'.scr.length = 0 from ht')]; rfl
  have he := fun tv w h => termEncode_any t'.ep t'.ses tv t'.ty t'.scr w h (by omega) (by omega) (by omega) (fun s hs => Nat.le_trans (u4 s hs) (by decide))
  rw [henc, show termCheck t'.ep t'.ses t'.ty t'.scr.length = 0 from ht'] at he
  simp only [termV] at he
  have He := Lib.hid he; clear he henc
  have HN := Lib.hid (nameOk_term (n := n) (by omega) (by omega))
  have ho := fun w => ofTerm_any n w
  have Ho := Lib.hid ho; clear ho
  go_enter Tryz.func44, Tryz.ntmps44
  go_wp2_with (go_at_call 17; refine (Hp.out).mono ?_; rintro x w2 ⟨tv, rfl, hown2, hO2, hb2, hc2⟩; obtain ⟨av, cv, rfl⟩ := owns_slice hown2; simp only [termV])
  have hCC := hc2.trans (Cells.of_below (ts := []) (below_alloc w2 (.cells #[.int .i64 t.ep, .string (str t.ses), .slice av t.ty.length cv, .string (str t.scr)] 36)))
  have hsz : w.heap.size ≤ w2.heap.size := hc2.1
  have hBz : B ≤ (w2.alloc (.cells #[.int .i64 t.ep, .string (str t.ses), .slice av t.ty.length cv, .string (str t.scr)] 36)).heap.size := by have := hO2.le; simp; omega
  refine (Hf.out _ _ _ hCC hsz (Blk.new w2 _ _) (hown2.alloc _) hBz).mono ?_
  rintro x w3 ⟨rfl, hP3, ⟨tv', hk3, hs3⟩, ho3, hbD⟩
  have hb3 := hbD B hBq hO2.le hBz
  have hbq := hbD qb (Nat.le_refl _) (Nat.le_trans hql hsz) (Nat.le_trans (Nat.le_trans hql hsz) (by simp))
  have hO3 := (hO2.keep (below_alloc w2 (.cells #[.int .i64 t.ep, .string (str t.ses), .slice av t.ty.length cv, .string (str t.scr)] 36))).only ho3 hb3 (by decide) (by decide)
  have hB3 : Below B w w3 := (hb2.alloc hO2.le _).trans hb3
  have hC3 : Keeps qb [90] w w3 := fun b cs t f hb h ht => (hbq.block b hb).trans (hCC.2 b cs t f h (by simp))
  have hS3 : w.heap.size ≤ w3.heap.size := Nat.le_trans hCC.1 ho3.1
  obtain ⟨av', cv', rfl⟩ := sees_slice hs3
  obtain ⟨y0, y1, y2, y3, _, _, _, _⟩ := hk3.quad
  have hE := He.out _ w3 hs3
  have HE := Lib.hid hE; clear hE
  have HO3 := Lib.hid hO3; clear hO3 hO2
  go_wp2_with (first
    | (go_at_call 23; refine HE.out.mono ?_; rintro x w4 ⟨rfl, hb4⟩; have hO4 := HO3.out.keep hb4)
    | (go_at_call 36; refine (Ho.out _).mono ?_; rintro e w5 ⟨rfl, hb5⟩; have hO5 := hO4.keep hb5)
    | (go_at_call 78; refine (objSet HN.out hO5 (by omega) t'.bytes (by omega)).mono ?_; rintro e w6 ⟨rfl, hO6, hb6, hc6⟩))
  go_ret
  have hb45 : Below w3.heap.size w3 w5 := hb4.trans (hb5.mono hb4.size)
  exact ⟨rfl, hO6, (hB3.trans (hb45.mono HO3.out.le)).trans hb6, hpost _ _ hP3 ((Cells.of_below hb45).trans hc6), fun b cs t f hb h ht => ((Cells.of_below hb45).trans hc6).2 b cs t f (hC3 b cs t f hb h ht) ht, Nat.le_trans hS3 ((Cells.of_below (ts := [90]) hb45).trans hc6).1⟩
end
end Go.Proofs.YtjifejbibgimhaaGreatDoor

/- terminal: show; slices.Clone of strings. -/
namespace Go.Proofs.YtjifejbibgimhaaGreatDoor
open Go.RowKit

theorem str_app (a b : List UInt8) : str a ++ str b = str (a ++ b) := by
  apply ByteArray.ext
  simp [str]

set_option maxRecDepth 100000 in
set_option maxHeartbeats 1600000 in
theorem show_any (pb : Nat) (e : Int) (ses tv : Value) (scr s : List UInt8) (w : World) (hl : scr.length ≤ 1000000) (hs : s.length ≤ 1000000000) (hk : Blk w pb #[.int .i64 e, ses, tv, .string (str scr)] 36) :
    Calls Tryz.prog 80 #[.pointer (some ⟨pb, 0, none⟩), .string (str s)] w fun x w' => x = .returned (.tuple #[]) ∧ Blk w' pb #[.int .i64 e, ses, tv, .string (str (showS scr s))] 36 ∧ Only [36] w w' ∧ ∀ B, B ≤ pb → Below B w w' := by
  obtain ⟨X, hX⟩ : ∃ X, X = scr ++ s := ⟨_, rfl⟩
  have hk2 : Blk (w.setCell ⟨pb, 3, none⟩ (.string (str X))) pb #[.int .i64 e, ses, tv, .string (str X)] 36 := (hk.set 3 _).congr rfl
  have hk3 : Blk ((w.setCell ⟨pb, 3, none⟩ (.string (str X))).setCell ⟨pb, 3, none⟩ (.string (str (showS scr s)))) pb #[.int .i64 e, ses, tv, .string (str (showS scr s))] 36 := (hk2.set 3 _).congr rfl
  have ho3 : Only [36] w ((w.setCell ⟨pb, 3, none⟩ (.string (str X))).setCell ⟨pb, 3, none⟩ (.string (str (showS scr s)))) := (Only.set hk (by simp) _).trans (Only.set hk2 (by simp) _)
  have hb3 : ∀ B, B ≤ pb → Below B w ((w.setCell ⟨pb, 3, none⟩ (.string (str X))).setCell ⟨pb, 3, none⟩ (.string (str (showS scr s)))) := fun B hB => ((Below.refl _ w).setCell (p := ⟨pb, 3, none⟩) hB _).setCell (p := ⟨pb, 3, none⟩) hB _
  obtain ⟨p0, p1, p2, p3, _, _, _, f3⟩ := hk.quad
  obtain ⟨q0, q1, q2, q3, _, _, _, g3⟩ := hk2.quad
  have hap := str_app scr s
  rw [← hX] at hap
  have hxs := str_size X
  have hxl : X.length ≤ 1001000000 := by rw [hX]; simp; omega
  have hs1 := str_size scr
  have hs2 := str_size s
  have hfin : showS scr s = X.drop (X.length - 2048) := by rw [hX]; rfl
  rw [hfin] at hk3 ho3 hb3 ⊢
  have Hk := Lib.hid hk3; have Ho := Lib.hid ho3; have Hb := Lib.hid hb3
  clear hk3 ho3 hb3 hk hk2 hfin hX
  have hex : (str X).extract (X.length - 2048) X.length = str (X.drop (X.length - 2048)) := by rw [str_extract, List.take_of_length_le (by rw [List.length_drop]; exact Nat.le_refl _)]
  by_cases h : X.length ≤ 2048
  · have hm : X.length - 2048 = 0 := by omega
    rw [hm] at hex Hk Ho Hb ⊢
    rw [show X.drop 0 = X from rfl] at hex Hk Ho Hb ⊢
    have h1 : ¬ ((0 : Int) < (X.length : Int) - 2048) := by omega
    have h2 : max (0 : Int) ((X.length : Int) - 2048) = 0 := by omega
    go_enter Tryz.func80, Tryz.ntmps80
    go_wp2
    go_region
    all_goals go_wp2
    go_end0
    exact ⟨rfl, Hk.out.drew, ⟨Ho.out.1, Ho.out.2⟩, fun B hB => (Hb.out B hB).drew⟩
  · have h1 : ((0 : Int) < (X.length : Int) - 2048) := by omega
    have h2 : max (0 : Int) ((X.length : Int) - 2048) = ((X.length - 2048 : Nat) : Int) := by omega
    have h3 : ((X.length : Int) - 2048) = ((X.length - 2048 : Nat) : Int) := by omega
    go_enter Tryz.func80, Tryz.ntmps80
    go_wp2
    go_region
    all_goals go_wp2
    go_end0
    exact ⟨rfl, Hk.out.drew, ⟨Ho.out.1, Ho.out.2⟩, fun B hB => (Hb.out B hB).drew⟩

set_option maxRecDepth 100000 in
set_option maxHeartbeats 400000 in
theorem cloneS_any (v : Value) (l : List (List UInt8)) (w : World) (hs : Sees w 1 v l.length (l.map sv)) (hc : l.length ≤ 1000000) :
    Calls Tryz.prog 79 #[v] w fun e w' => ∃ v', e = .returned v' ∧ w'.ownsRow w.heap.size 9 1 v' l.length (l.map sv) ∧ Below w.heap.size w w' := by
  obtain ⟨va, vc, rfl⟩ := sees_slice hs
  have Hs := Lib.hid hs
  have H1 := Lib.hid (sv_oneCell l)
  have hq : (binOp .eql 22 (.slice va l.length vc) (.slice none 0 0)).run Tryz.prog w = .ok (.bool va.isNone) w := by
    simp [binOp, run_equal_slice_nil w 22 9 va l.length vc Tryz.underlying22, Result.andThen]
  cases va with
  | none =>
    have h2 : l = [] ∧ vc = 0 := by
      obtain ⟨_, ao, c, e, hle, h⟩ := hs
      cases e
      rcases h with ⟨_, h0⟩ | ⟨b, off, h0, _⟩
      · exact ⟨List.eq_nil_of_length_eq_zero (by omega), h0⟩
      · cases h0
    obtain ⟨rfl, rfl⟩ := h2
    clear hs
    replace hq : (binOp .eql 22 (.slice none 0 0) (.slice none 0 0)).run Tryz.prog w = .ok (.bool true) w := hq
    show Calls _ _ #[.slice none 0 0] w _
    go_enter Tryz.func79, Tryz.ntmps79
    go_wp2
    go_ret
    exact ⟨_, rfl, World.ownsRow_nil _ _ _ _, Below.refl _ _⟩
  | some a =>
    clear hs
    go_enter Tryz.func79, Tryz.ntmps79
    have h0 : (w.alloc (.cells #[] 9)).ownsRow w.heap.size 9 1 (.slice (some ⟨w.heap.size, 0, none⟩) 0 0) 0 [] :=
      ⟨by simp, .inr ⟨w.heap.size, 0, #[], rfl, Nat.le_refl _, World.alloc_heap_new w _, by omega, by simp, by simp, by simp⟩⟩
    have hs2 := Hs.out.below (below_alloc w (.cells #[] 9))
    go_wp2_with (at_builtin; (refine wpList_append_where _ rfl _ _ 22 rfl w.heap.size 9 (.string ⟨#[]⟩) 1 16 Tryz.underlying22 Tryz.infoStr rfl (by decide) h0 rfl hs2 rfl H1.out ?q1 ?q2 ?q3 ?_); (case q1 => unfold maxLen; omega); (case q2 => omega); (case q3 => simp); intro v' w2 hown2 hg2 hwh2 hnil2)
    go_ret
    refine ⟨v', rfl, owns_eq hown2 (by omega) (by simp), ?_⟩
    exact (below_alloc w _).grown hg2 (by simp) (fun k e => by simp [Value.ownBlock] at e; omega)
end Go.Proofs.YtjifejbibgimhaaGreatDoor

/- terminal: the requests begin, end, shown. -/
namespace Go.Proofs.YtjifejbibgimhaaGreatDoor
open Go.RowKit

theorem Blk.three' {w : World} {b : Nat} {x y z : Value} {t : TypeId} (h : Blk w b #[x, y, z] t) :
    w.cell? ⟨b, 0, none⟩ = some x ∧ w.cell? ⟨b, 1, none⟩ = some y ∧ w.cell? ⟨b, 2, none⟩ = some z ∧ w.frozen? ⟨b, 0, none⟩ = false ∧ w.frozen? ⟨b, 1, none⟩ = false ∧ w.frozen? ⟨b, 2, none⟩ = false :=
  ⟨by rw [h.cell]; rfl, by rw [h.cell]; rfl, by rw [h.cell]; rfl, h.frozen 0, h.frozen 1, h.frozen 2⟩
/-- the request at block qb -/
def ReqIs (w : World) (qb : Nat) (who text line : List UInt8) : Prop := Blk w qb #[.string (str who), .string (str text), .string (str line)] 98
theorem str_empty {l : List UInt8} (h : l = []) : (str l).toList.isEmpty = true := by rw [str_toList, h]; rfl
theorem str_full {l : List UInt8} (h : l ≠ []) : (str l).toList.isEmpty = false := by rw [str_toList]; simpa using h

section
variable {B qb : Nat} {t : TT} {who text line : List UInt8} {w : World}
set_option maxRecDepth 100000 in
set_option maxHeartbeats 1600000 in
theorem begin_turns (hq : ReqIs w qb who text line) (hwl : who.length ≤ 1000000000) (hB : B ≤ w.heap.size) (w1 : World) (pb : Nat) (tv : Value) :
    Turns B 45 qb t (beginT t who) (beginE t who) (fun _ => True) w w1 pb tv := by
  intro hc hpb hk hown hB1
  obtain ⟨av, cv, rfl⟩ := owns_slice hown
  have hx : Blk w1 qb #[.string (str who), .string (str text), .string (str line)] 98 := hc.blk hq (by simp)
  obtain ⟨x0, x1, x2, _, _, _⟩ := hx.three'
  obtain ⟨p0, p1, p2, p3, f0, f1, f2, f3⟩ := hk.quad
  have hs := sees_of_owns hown
  have Hown := Lib.hid hown; clear hown
  cases hv : validName who with
  | false =>
    have he : beginE t who = 12 := by unfold beginE; rw [if_pos (.inl hv)]
    have ht : beginT t who = t := by unfold beginT; rw [if_neg (by omega)]
    rw [he, ht]; clear he ht
    go_enter Tryz.func45, Tryz.ntmps45
    go_wp2_with (go_at_call 18; refine (valid_any who _ hwl).mono ?_; rw [hv]; rintro x w2 ⟨rfl, hb2⟩)
    go_ret
    exact ⟨rfl, trivial, ⟨_, hk.below hb2 hk.lt, hs.below hb2⟩, Only.of_below hb2, fun _ _ _ h => hb2.mono h⟩
  | true =>
    by_cases hw : who = []
    · have he : beginE t who = 12 := by unfold beginE; rw [if_pos (.inr hw)]
      have ht : beginT t who = t := by unfold beginT; rw [if_neg (by omega)]
      rw [he, ht]; clear he ht
      have q1 := str_empty hw
      clear hw
      go_enter Tryz.func45, Tryz.ntmps45
      go_wp2_with (go_at_call 18; refine (valid_any who _ hwl).mono ?_; rw [hv]; rintro x w2 ⟨rfl, hb2⟩; have hx2 := hx.below hb2 hx.lt; obtain ⟨y0, y1, y2, _, _, _⟩ := hx2.three')
      go_ret
      exact ⟨rfl, trivial, ⟨_, hk.below hb2 hk.lt, hs.below hb2⟩, Only.of_below hb2, fun _ _ _ h => hb2.mono h⟩
    · have q1 := str_full hw
      by_cases hses : t.ses = []
      · have he : beginE t who = 0 := by unfold beginE; rw [if_neg (by simp [hv, hw]), if_neg (by simp [hses])]
        have ht : beginT t who = ⟨t.ep, who, [], []⟩ := by unfold beginT; rw [if_pos he]
        rw [he, ht]; clear he ht
        have q2 := str_empty hses
        clear hses hw
        go_enter Tryz.func45, Tryz.ntmps45
        go_wp2_with (go_at_call 18; refine (valid_any who _ hwl).mono ?_; rw [hv]; rintro x w2 ⟨rfl, hb2⟩; have hx2 := hx.below hb2 hx.lt; obtain ⟨y0, y1, y2, _, _, _⟩ := hx2.three'; have hk2 := hk.below hb2 hk.lt; clear p0 p1 p2 p3 f0 f1 f2 f3; obtain ⟨p0, p1, p2, p3, f0, f1, f2, f3⟩ := hk2.quad)
        go_ret
        have k1 := hk2.set 1 (.string (str who))
        have k2 := k1.set 2 (.slice none 0 0)
        have k3 := (k2.set 3 (.string ⟨#[]⟩)).congr (cs' := #[.int .i64 t.ep, .string (str who), .slice none 0 0, .string (str [])]) rfl
        have hBp : B ≤ pb := Nat.le_trans hB hpb
        exact ⟨rfl, trivial, ⟨_, k3, Sees.nil _ _⟩, (Only.of_below hb2).trans (((Only.set hk2 (by simp) _).trans (Only.set k1 (by simp) _)).trans (Only.set k2 (by simp) _)), fun _ _ hp h => (((hb2.mono h).setCell hp _).setCell hp _).setCell hp _⟩
      · have he : beginE t who = 19 := by unfold beginE; rw [if_neg (by simp [hv, hw]), if_pos (by simp [hses])]
        have ht : beginT t who = t := by unfold beginT; rw [if_neg (by omega)]
        rw [he, ht]; clear he ht
        have q2 := str_full hses
        clear hses hw
        go_enter Tryz.func45, Tryz.ntmps45
        go_wp2_with (go_at_call 18; refine (valid_any who _ hwl).mono ?_; rw [hv]; rintro x w2 ⟨rfl, hb2⟩; have hx2 := hx.below hb2 hx.lt; obtain ⟨y0, y1, y2, _, _, _⟩ := hx2.three'; have hk2 := hk.below hb2 hk.lt; clear p0 p1 p2 p3 f0 f1 f2 f3; obtain ⟨p0, p1, p2, p3, f0, f1, f2, f3⟩ := hk2.quad)
        go_ret
        exact ⟨rfl, trivial, ⟨_, hk2, hs.below hb2⟩, Only.of_below hb2, fun _ _ _ h => hb2.mono h⟩

set_option maxRecDepth 100000 in
set_option maxHeartbeats 1600000 in
theorem shown_turns (hq : ReqIs w qb who text line) (hwl : text.length ≤ 1000000000) (hok : t.ok) (_ : B ≤ w.heap.size) (w1 : World) (pb : Nat) (tv : Value) :
    Turns B 68 qb t (shownT t text) 0 (fun _ => True) w w1 pb tv := by
  intro hc hpb hk hown hB1
  obtain ⟨av, cv, rfl⟩ := owns_slice hown
  have hx : Blk w1 qb #[.string (str who), .string (str text), .string (str line)] 98 := hc.blk hq (by simp)
  obtain ⟨x0, x1, x2, _, _, _⟩ := hx.three'
  have hsl : t.scr.length ≤ 1000000 := by have := (TT.bounds hok).2.2.2.2; omega
  go_enter Tryz.func68, Tryz.ntmps68
  go_wp2_with (go_at_call 80; refine (show_any pb t.ep _ _ t.scr text _ hsl hwl hk).mono ?_; rintro x w2 ⟨rfl, hk2, ho2, hb2⟩)
  go_ret
  exact ⟨rfl, trivial, ⟨_, hk2, sees_of_owns (ho2.owns hown (by decide))⟩, ⟨ho2.1, fun b o h h' => ho2.2 b o h (fun cs u f e hm => h' cs u f e (by simp at hm ⊢; simp [hm]))⟩, fun D _ hp _ => hb2 D hp⟩

end
end Go.Proofs.YtjifejbibgimhaaGreatDoor

/- terminal: the request end. -/
namespace Go.Proofs.YtjifejbibgimhaaGreatDoor
open Go.RowKit

section
variable {B qb : Nat} {t : TT} {who text line : List UInt8} {w : World}
set_option maxRecDepth 100000 in
set_option maxHeartbeats 1600000 in
theorem end_turns (hq : ReqIs w qb who text line) (hB : B ≤ w.heap.size) (w1 : World) (pb : Nat) (tv : Value) :
    Turns B 50 qb t (endT t who) (endE t who) (fun _ => True) w w1 pb tv := by
  intro hc hpb hk hown hB1
  obtain ⟨av, cv, rfl⟩ := owns_slice hown
  have hx : Blk w1 qb #[.string (str who), .string (str text), .string (str line)] 98 := hc.blk hq (by simp)
  obtain ⟨x0, x1, x2, _, _, _⟩ := hx.three'
  obtain ⟨p0, p1, p2, p3, f0, f1, f2, f3⟩ := hk.quad
  have hs := sees_of_owns hown
  have Hown := Lib.hid hown; clear hown
  have hBp : B ≤ pb := Nat.le_trans hB hpb
  by_cases hw : who = []
  · have he : endE t who = 10 := by unfold endE; rw [if_pos (.inl hw)]
    have ht : endT t who = t := by unfold endT; rw [if_neg (by omega)]
    rw [he, ht]; clear he ht
    have q1 := str_empty hw
    clear hw
    go_enter Tryz.func50, Tryz.ntmps50
    go_wp2
    go_quiet (fail)
    all_goals go_wp2
    go_ret
    have hkd : Blk (w1.drewN nq) pb _ _ := hk
    exact ⟨rfl, trivial, ⟨_, hkd, hs.below (below_drewN _ _ _)⟩, Only.of_below (below_drewN _ _ _), fun _ _ _ _ => below_drewN _ _ _⟩
  · have q1 := str_full hw
    by_cases hses : who = t.ses
    · have he : endE t who = 0 := by unfold endE; rw [if_neg (by simp only [not_or]; exact ⟨hw, fun h => h hses⟩)]
      have ht : endT t who = ⟨t.ep, [], [], t.scr⟩ := by unfold endT; rw [if_pos he]
      rw [he, ht]; clear he ht
      have q3 : ((str who).toList == (str t.ses).toList) = true := by rw [hses]; simp
      clear hses hw
      go_enter Tryz.func50, Tryz.ntmps50
      go_wp2
      go_quiet (fail)
      all_goals go_wp2
      go_ret
      have hkd : Blk (w1.drewN nq) pb _ _ := hk
      have k1 := hkd.set 1 (.string ⟨#[]⟩)
      have k2 := (k1.set 2 (.slice none 0 0)).congr (cs' := #[.int .i64 t.ep, .string (str []), .slice none 0 0, .string (str t.scr)]) rfl
      exact ⟨rfl, trivial, ⟨_, k2, Sees.nil _ _⟩, (Only.of_below (below_drewN _ _ _)).trans ((Only.set hkd (by simp) _).trans (Only.set k1 (by simp) _)), fun D _ hp _ => ((below_drewN D w1 nq).setCell hp _).setCell hp _⟩
    · have he : endE t who = 10 := by unfold endE; rw [if_pos (.inr hses)]
      have ht : endT t who = t := by unfold endT; rw [if_neg (by omega)]
      rw [he, ht]; clear he ht
      have q3 : ((str who).toList == (str t.ses).toList) = false := by rw [str_toList, str_toList]; simpa using hses
      clear hses hw
      go_enter Tryz.func50, Tryz.ntmps50
      go_wp2
      go_quiet (fail)
      all_goals go_wp2
      go_ret
      have hkd : Blk (w1.drewN nq) pb _ _ := hk
      exact ⟨rfl, trivial, ⟨_, hkd, hs.below (below_drewN _ _ _)⟩, Only.of_below (below_drewN _ _ _), fun _ _ _ _ => below_drewN _ _ _⟩
end
end Go.Proofs.YtjifejbibgimhaaGreatDoor

/- terminal: the request typed. -/
namespace Go.Proofs.YtjifejbibgimhaaGreatDoor
open Go.RowKit

section
variable {B qb : Nat} {t : TT} {who text line : List UInt8} {w : World}
set_option maxRecDepth 100000 in
set_option maxHeartbeats 1600000 in
theorem typed_err (hq : ReqIs w qb who text line) (hwl : text.length ≤ 9223372036854775807) (_ : t.ok) (hne : typeE t text ≠ 0) (w1 : World) (pb : Nat) (tv : Value) :
    Turns B 46 qb t (typeT t text) (typeE t text) (fun _ => True) w w1 pb tv := by
  intro hc hpb hk hown hB1
  obtain ⟨av, cv, rfl⟩ := owns_slice hown
  have hx : Blk w1 qb #[.string (str who), .string (str text), .string (str line)] 98 := hc.blk hq (by simp)
  obtain ⟨x0, x1, x2, _, _, _⟩ := hx.three'
  obtain ⟨p0, p1, p2, p3, f0, f1, f2, f3⟩ := hk.quad
  have hs := sees_of_owns hown
  have Hown := Lib.hid hown; clear hown
  have ht : typeT t text = t := by unfold typeT; rw [if_neg hne]
  rw [ht]; clear ht
  have hcl := fun w => checkLine_any text w (by omega)
  by_cases hl : lineE text = 0
  · rw [hl] at hcl
    have Hcl := Lib.hid hcl; clear hcl
    by_cases hses : t.ses = []
    · have he : typeE t text = 10 := by unfold typeE; rw [if_neg (by omega), if_pos hses]
      rw [he]; clear he hne hl
      have q2 := str_empty hses
      clear hses
      go_enter Tryz.func46, Tryz.ntmps46
      go_wp2_with (go_at_call 21; refine (Hcl.out _).mono ?_; rintro x w2 ⟨rfl, hb2⟩; have hk2 := hk.below hb2 hk.lt; clear p0 p1 p2 p3 f0 f1 f2 f3; obtain ⟨p0, p1, p2, p3, f0, f1, f2, f3⟩ := hk2.quad)
      go_ret
      exact ⟨rfl, trivial, ⟨_, hk2, hs.below hb2⟩, Only.of_below hb2, fun _ _ _ h => hb2.mono h⟩
    · have h16 : 16 ≤ t.ty.length := by
        unfold typeE at hne
        rw [if_neg (by omega), if_neg hses] at hne
        split at hne
        · assumption
        · exact absurd rfl hne
      have he : typeE t text = 9 := by unfold typeE; rw [if_neg (by omega), if_neg hses, if_pos h16]
      rw [he]; clear he hne hl
      have q2 := str_full hses
      have q3 : (16 : Int) ≤ t.ty.length := by omega
      clear hses h16
      go_enter Tryz.func46, Tryz.ntmps46
      go_wp2_with (go_at_call 21; refine (Hcl.out _).mono ?_; rintro x w2 ⟨rfl, hb2⟩; have hk2 := hk.below hb2 hk.lt; clear p0 p1 p2 p3 f0 f1 f2 f3; obtain ⟨p0, p1, p2, p3, f0, f1, f2, f3⟩ := hk2.quad)
      go_ret
      exact ⟨rfl, trivial, ⟨_, hk2, hs.below hb2⟩, Only.of_below hb2, fun _ _ _ h => hb2.mono h⟩
  · have he : typeE t text = lineE text := by unfold typeE; rw [if_pos hl]
    rw [he]; clear he hne
    obtain ⟨E, hE⟩ : ∃ E, E = lineE text := ⟨_, rfl⟩
    rw [← hE] at hcl hl ⊢
    have Hcl := Lib.hid hcl; clear hcl hE
    have q1 : ((E : Int) == 0) = false := by simp; omega
    have q2 : ((E : Int) != 0) = true := by simp; omega
    clear hl
    go_enter Tryz.func46, Tryz.ntmps46
    go_wp2_with (first
      | (go_at_call 21; refine (Hcl.out w1).mono ?_; rintro x w2 ⟨rfl, hb2⟩; have hx2 := hx.below hb2 hx.lt; clear x0 x1 x2; obtain ⟨x0, x1, x2, _, _, _⟩ := hx2.three')
      | (go_at_call 21; refine (Hcl.out w2).mono ?_; rintro x w3 ⟨rfl, hb3⟩))
    go_ret
    have hb : Below w1.heap.size w1 w3 := hb2.trans (hb3.mono hb2.size)
    exact ⟨rfl, trivial, ⟨_, hk.below hb hk.lt, hs.below hb⟩, Only.of_below hb, fun _ _ _ h => hb.mono h⟩

set_option maxRecDepth 100000 in
set_option maxHeartbeats 3200000 in
theorem typed_ok (hq : ReqIs w qb who text line) (hok : t.ok) (he : typeE t text = 0) (hB : B ≤ w.heap.size) (w1 : World) (pb : Nat) (tv : Value) :
    Turns B 46 qb t (typeT t text) 0 (fun _ => True) w w1 pb tv := by
  intro hc hpb hk hown hB1
  obtain ⟨av, cv, rfl⟩ := owns_slice hown
  have hx : Blk w1 qb #[.string (str who), .string (str text), .string (str line)] 98 := hc.blk hq (by simp)
  obtain ⟨x0, x1, x2, _, _, _⟩ := hx.three'
  obtain ⟨p0, p1, p2, p3, f0, f1, f2, f3⟩ := hk.quad
  have hs := sees_of_owns hown
  have Hown := Lib.hid hown; clear hown
  obtain ⟨g1, g2, g3⟩ := typeE_zero he
  have ht : typeT t text = ⟨t.ep, t.ses, t.ty ++ [text], showS t.scr (text ++ [10])⟩ := by unfold typeT; rw [if_pos he]
  rw [ht]; clear ht he
  have htl := lineE_len g1
  have hcl := fun w => checkLine_any text w (by omega)
  rw [g1] at hcl
  have Hcl := Lib.hid hcl; clear hcl g1
  have q2 := str_full g2
  clear g2
  have q3 : ¬ ((16 : Int) ≤ t.ty.length) := by omega
  have hBp : B ≤ pb := Nat.le_trans hB hpb
  go_enter Tryz.func46, Tryz.ntmps46
  go_wp2_with (go_at_call 21; refine (Hcl.out _).mono ?_; rintro x w2 ⟨rfl, hb2⟩; have hk2 := hk.below hb2 hk.lt; clear p0 p1 p2 p3 f0 f1 f2 f3; obtain ⟨p0, p1, p2, p3, f0, f1, f2, f3⟩ := hk2.quad)
  have hx2 := hx.below hb2 hx.lt; clear x0 x1 x2; obtain ⟨x0, x1, x2, _, _, _⟩ := hx2.three'
  have hs2 := hs.below hb2
  have hbd : Below w2.heap.size w2 w2.drew := (Below.refl _ w2).drew
  have hs2d := hs2.below hbd
  have hs2a := hs2d.below (below_alloc w2.drew (.cells #[.string (str text)] 9))
  have hk2d : Blk w2.drew pb #[.int .i64 t.ep, .string (str t.ses), .slice av t.ty.length cv, .string (str t.scr)] 36 := hk2
  have hk2a : Blk (w2.drew.alloc (.cells #[.string (str text)] 9)) pb #[.int .i64 t.ep, .string (str t.ses), .slice av t.ty.length cv, .string (str t.scr)] 36 := hk2d.alloc _
  have hx2d : Blk w2.drew qb #[.string (str who), .string (str text), .string (str line)] 98 := hx2
  have hx2a : Blk (w2.drew.alloc (.cells #[.string (str text)] 9)) qb #[.string (str who), .string (str text), .string (str line)] 98 := hx2d.alloc _
  have hPd : Past w2.heap.size w2 w2.drew := (Past.refl w2).drew
  have hPa := hPd.alloc (.cells #[.string (str text)] 9)
  have hnw2 := sees_new w2.drew #[.string (str text)] 9 (0, 0) 1 1 1 rfl (Nat.le_refl _)
  have hlp := hk2.lt
  have hne : qb ≠ pb := fun h => by subst h; have := (hx2.inj hk2).2; revert this; decide
  have hsl : t.scr.length ≤ 1000000 := by have := (TT.bounds hok).2.2.2.2; omega
  have hap : str text ++ ⟨#[10]⟩ = str (text ++ [10]) := str_app text [10]
  have hsz1 := str_size text
  have hlq := hx2.lt
  go_region_law (first
    | (refine step_append_slice _ _ _ 22 rfl w2.heap.size 9 (.string ⟨#[]⟩) 1 16 Tryz.underlying22 Tryz.infoStr rfl (by decide) (by first | exact hown3 | exact hown3.alloc _) rfl (m := 1) (news := #[.string (str text)].toList) (by first | exact sees_new w3 #[.string (str text)] 9 (0, 0) 1 1 1 rfl (Nat.le_refl _) | exact hnw2.below hb3) rfl (by simp [Value.oneCell']) (by unfold maxLen; omega) (by omega) (by first | exact hP3.2 | exact (hP3.alloc _).2) ?_; intro av7 cv7 w7 hown7 hg7; have hk7 : Blk w7 pb #[.int .i64 t.ep, .string (str t.ses), .slice av t.ty.length cv, .string (str t.scr)] 36 := (by first | exact hk3.grown hg7 (owns_ne hown3 hlp) | exact (hk3.alloc _).grown hg7 (owns_ne hown3 hlp)); have hP7 : Past w2.heap.size w2 w7 := (by first | exact hP3.grown hg7 hown3 | exact (hP3.alloc _).grown hg7 (hown3.alloc _)); have hx7 : Blk w7 qb #[.string (str who), .string (str text), .string (str line)] 98 := (by first | exact hx3.grown hg7 (owns_ne hown3 hlq) | exact (hx3.alloc _).grown hg7 (owns_ne hown3 hlq)); obtain ⟨s0, s1, s2, s3, e0, e1, e2, e3⟩ := hk7.quad; obtain ⟨t0, t1, t2, _, _, _⟩ := hx7.three')
    | (go_simp; go_at_call 79; refine (cloneS_any _ t.ty _ (by first | exact hs2d | exact hs2a) (by omega)).mono ?_; rintro x w3 ⟨v3, rfl, hown3', hb3⟩; obtain ⟨a3, c3, rfl⟩ := owns_slice hown3'; have hown3 : w3.ownsRow w2.heap.size 9 1 (.slice a3 t.ty.length c3) t.ty.length (t.ty.map sv) := (by first | exact hown3' | exact owns_mono hown3' (by simp)); have hk3 : Blk w3 pb #[.int .i64 t.ep, .string (str t.ses), .slice av t.ty.length cv, .string (str t.scr)] 36 := (by first | exact hk2d.below hb3 hk2d.lt | exact hk2a.below hb3 hk2a.lt); have hx3 : Blk w3 qb #[.string (str who), .string (str text), .string (str line)] 98 := (by first | exact hx2d.below hb3 hx2d.lt | exact hx2a.below hb3 hx2a.lt); have hP3 : Past w2.heap.size w2 w3 := (by first | exact hPd.call hb3 | exact hPa.call hb3); obtain ⟨z0, z1, z2, z3, h0, h1, h2, h3⟩ := hk3.quad; obtain ⟨y0, y1, y2, _, _, _⟩ := hx3.three'; have hl3 := hk3.lt; have hlx3 := hx3.lt))
  all_goals (
    have hb17 : Below w1.heap.size w1 w7 := hb2.trans (hP7.1.mono hb2.size)
    have hk8 : Blk (w7.setCell ⟨pb, 2, none⟩ (.slice av7 (t.ty.length + 1) cv7)) pb #[.int .i64 t.ep, .string (str t.ses), .slice av7 (t.ty.length + 1) cv7, .string (str t.scr)] 36 := (hk7.set 2 _).congr rfl
    have hx8 := hx7.setOther (a := ⟨pb, 2, none⟩) hne (.slice av7 (t.ty.length + 1) cv7)
    have hown8 := owns_set hown7 hk7 (by decide) (j := 2) (.slice av7 (t.ty.length + 1) cv7)
    have ho18 := (Only.of_below (ts := [36, 98]) hb17).trans (Only.set hk7 (by simp) (j := 2) (.slice av7 (t.ty.length + 1) cv7))
    have hb18 : ∀ D, D ≤ pb → D ≤ w1.heap.size → Below D w1 (w7.setCell ⟨pb, 2, none⟩ (.slice av7 (t.ty.length + 1) cv7)) := fun D hp h => (hb17.mono h).setCell hp _
    obtain ⟨W, hW⟩ : ∃ W, W = w7.setCell ⟨pb, 2, none⟩ (.slice av7 (t.ty.length + 1) cv7) := ⟨_, rfl⟩
    rw [← hW] at hk8 hx8 hown8 ho18 hb18
    rw [← hW]
    clear hW hown7 hk7 hx7 hP7 hb17
    obtain ⟨n0, n1, n2, _, _, _⟩ := hx8.three')
  all_goals go_wp2_with (go_at_call 80; refine (show_any pb t.ep _ _ t.scr (text ++ [10]) W hsl (by simp; omega) hk8).mono ?_; rintro x w9 ⟨rfl, hk9, ho9, hb9⟩)
  all_goals go_ret
  all_goals exact ⟨rfl, trivial, ⟨_, hk9, by simpa [sv] using sees_of_owns (ho9.owns hown8 (by decide))⟩, ho18.trans ⟨ho9.1, fun b o h h' => ho9.2 b o h (fun cs u f e hm => h' cs u f e (by simp at hm ⊢; simp [hm]))⟩, fun D _ hp h => (hb18 D hp h).trans (hb9 D hp)⟩
end
end Go.Proofs.YtjifejbibgimhaaGreatDoor

/- terminal: Begin, End, Type, Show. -/
namespace Go.Proofs.YtjifejbibgimhaaGreatDoor
open Go.RowKit

/-- the terminal's object behind an operation -/
def aft (c : Option TT) (t' : TT) (er : Nat) : Option TT := if er = 0 then some t' else c
/-- the view at vb shows terminal n as c -/
def TermIs (B : Nat) (w : World) (vb : Nat) (base : Value) (n : Nat) (c : Option TT) (k : Nat) : Prop := (∀ t, c = some t → t.ok) ∧ ObjIs B w vb base 13 [] n 0 [] (c.map TT.bytes) k
theorem TermIs.keep {B : Nat} {w w' : World} {vb : Nat} {base : Value} {n : Nat} {c : Option TT} {k : Nat} (h : TermIs B w vb base n c k) (hb : Below w.heap.size w w') : TermIs B w' vb base n c k := ⟨h.1, h.2.keep hb⟩
theorem termIs_mk {B : Nat} {w : World} {vb : Nat} {base : Value} {n : Nat} {c : Option TT} {k : Nat} (h : ∀ t, c = some t → t.ok) (h2 : ObjIs B w vb base 13 [] n 0 [] (c.map TT.bytes) k) : TermIs B w vb base n c k := ⟨h, h2⟩
theorem TermIs.more {B : Nat} {w : World} {vb : Nat} {base : Value} {n : Nat} {c : Option TT} {k k' : Nat} (h : TermIs B w vb base n c k) (hk : k ≤ k') : TermIs B w vb base n c k' := ⟨h.1, h.2.more hk⟩
theorem TermIs.only {B : Nat} {w w' : World} {vb : Nat} {base : Value} {n : Nat} {c : Option TT} {k : Nat} {ts : List TypeId} (h : TermIs B w vb base n c k) (ho : Only ts w w') (hb : Below B w w') (h1 : 90 ∉ ts) (h2 : 86 ∉ ts) : TermIs B w' vb base n c k := ⟨h.1, h.2.only ho hb h1 h2⟩
theorem aft_ok {c : Option TT} {t' : TT} {er : Nat} (hc : ∀ t, c = some t → t.ok) (ht : t'.ok) : ∀ t, aft c t' er = some t → t.ok := by
  intro t h
  unfold aft at h
  split at h
  · cases h; exact ht
  · exact hc t h

section
variable {B : Nat} {vb : Nat} {base : Value} {n : Nat} {c : Option TT} {k : Nat}
theorem change_any (w : World) (ep : Nat) (fn qb : Nat) (hent : ∀ args w, (callFunc fn args).run Tryz.prog w = .ok (.enter fn args) w) (t' : TT) (er : Nat) (ht' : t'.ok) (Post : World → Prop) (hpost : ∀ a c, Post a → Cells [90] a c → Post c)
    (hn : 1 ≤ n ∧ n ≤ 99) (hep : ep ≤ 1073741824) (hO : TermIs B w vb base n c k) (hk : k < 999999) (hBq : B ≤ qb) (hql : qb ≤ w.heap.size) (hf : ∀ w1 pb tv, Turns B fn qb (getT c ep) t' er Post w w1 pb tv) :
    Calls Tryz.prog 44 #[.pointer (some ⟨vb, 0, none⟩), .int .i64 n, .int .i64 ep, .func (.func fn) #[.pointer (some ⟨qb, 0, none⟩)] #[]] w fun x w' => x = .returned (.int .i64 er) ∧ TermIs B w' vb base n (aft c t' er) (k + 2) ∧ Below B w w' ∧ Post w' ∧ Keeps qb [90] w w' ∧ w.heap.size ≤ w'.heap.size := by
  by_cases he : er = 0
  · subst he
    refine (change_do w ep fn qb hent _ t' ht' Post hpost hn hep hO.1 hO.2 hk hBq hql rfl hf).mono ?_
    rintro x w' ⟨rfl, h1, h2, h3, h4⟩
    exact ⟨rfl, ⟨aft_ok hO.1 ht', h1⟩, h2, h3, h4⟩
  · refine (change_not w ep fn qb hent _ t' er he Post hn hep hO.1 hO.2 (by omega) hBq hql rfl hf).mono ?_
    rintro x w' ⟨rfl, h1, h2, h3, h4⟩
    have e : aft c t' er = c := by unfold aft; rw [if_neg he]
    refine ⟨rfl, ?_, h2, h3, h4⟩
    rw [e]
    exact ⟨hO.1, h1.more (Nat.le_succ _)⟩

set_option maxRecDepth 100000 in
set_option maxHeartbeats 800000 in
theorem begin_any (w : World) (ep : Nat) (who : List UInt8) (hwl : who.length ≤ 1000000000) (hn : 1 ≤ n ∧ n ≤ 99) (hep : ep ≤ 1073741824) (hO : TermIs B w vb base n c k) (hk : k < 999999) :
    Calls Tryz.prog 14 #[.pointer (some ⟨vb, 0, none⟩), .int .i64 n, .int .i64 ep, .string (str who)] w fun x w' => x = .returned (.int .i64 (beginE (getT c ep) who)) ∧ TermIs B w' vb base n (aft c (beginT (getT c ep) who) (beginE (getT c ep) who)) (k + 2) ∧ Below B w w' ∧ Cells [90] w w' := by
  have hent : ∀ args w, (callFunc 45 args).run Tryz.prog w = .ok (.enter 45 args) w := enters_of Tryz.func45 (by kernel_rfl) rfl
  have hB := hO.2.le
  have hq : ReqIs (w.alloc (.cells #[.string (str who), .string (str []), .string (str [])] 98)) w.heap.size who [] [] := Blk.new w _ _
  have hc := change_any _ ep _ _ hent (beginT (getT c ep) who) (beginE (getT c ep) who) (beginT_ok (getT_ok hO.1 hep) who) (fun _ => True) (fun _ _ _ _ => trivial) hn hep (hO.keep (below_alloc w (.cells #[.string (str who), .string (str []), .string (str [])] 98))) hk hB (by simp) (begin_turns hq hwl (by simp; omega))
  have Hc := Lib.hid hc; clear hc hO hq hent
  have hP := (Past.at (w := w) hB).alloc (.cells #[.string (str who), .string (str []), .string (str [])] 98)
  have hCa := Cells.of_below (ts := [90]) (below_alloc w (.cells #[.string (str who), .string (str []), .string (str [])] 98))
  go_enter Tryz.func14, Tryz.ntmps14
  go_wp2_with (go_at_call 44; refine Hc.out.mono ?_; rintro x w2 ⟨rfl, h1, h2, _, h4, h5⟩)
  go_ret
  exact ⟨rfl, h1, hP.1.trans h2, cells_of_keeps h4 (Nat.le_refl _) hCa h5⟩

set_option maxRecDepth 100000 in
set_option maxHeartbeats 800000 in
theorem end_any (w : World) (ep : Nat) (who : List UInt8) (hn : 1 ≤ n ∧ n ≤ 99) (hep : ep ≤ 1073741824) (hO : TermIs B w vb base n c k) (hk : k < 999999) :
    Calls Tryz.prog 19 #[.pointer (some ⟨vb, 0, none⟩), .int .i64 n, .int .i64 ep, .string (str who)] w fun x w' => x = .returned (.int .i64 (endE (getT c ep) who)) ∧ TermIs B w' vb base n (aft c (endT (getT c ep) who) (endE (getT c ep) who)) (k + 2) ∧ Below B w w' ∧ Cells [90] w w' := by
  have hent : ∀ args w, (callFunc 50 args).run Tryz.prog w = .ok (.enter 50 args) w := enters_of Tryz.func50 (by kernel_rfl) rfl
  have hB := hO.2.le
  have hq : ReqIs (w.alloc (.cells #[.string (str who), .string (str []), .string (str [])] 98)) w.heap.size who [] [] := Blk.new w _ _
  have hc := change_any _ ep _ _ hent (endT (getT c ep) who) (endE (getT c ep) who) (endT_ok (getT_ok hO.1 hep) who) (fun _ => True) (fun _ _ _ _ => trivial) hn hep (hO.keep (below_alloc w (.cells #[.string (str who), .string (str []), .string (str [])] 98))) hk hB (by simp) (end_turns hq (by simp; omega))
  have Hc := Lib.hid hc; clear hc hO hq hent
  have hP := (Past.at (w := w) hB).alloc (.cells #[.string (str who), .string (str []), .string (str [])] 98)
  have hCa := Cells.of_below (ts := [90]) (below_alloc w (.cells #[.string (str who), .string (str []), .string (str [])] 98))
  go_enter Tryz.func19, Tryz.ntmps19
  go_wp2_with (go_at_call 44; refine Hc.out.mono ?_; rintro x w2 ⟨rfl, h1, h2, _, h4, h5⟩)
  go_ret
  exact ⟨rfl, h1, hP.1.trans h2, cells_of_keeps h4 (Nat.le_refl _) hCa h5⟩

theorem typed_turns {qb : Nat} {t : TT} {who text line : List UInt8} {w : World} (hq : ReqIs w qb who text line) (hwl : text.length ≤ 9223372036854775807) (hok : t.ok) (hB : B ≤ w.heap.size) (w1 : World) (pb : Nat) (tv : Value) :
    Turns B 46 qb t (typeT t text) (typeE t text) (fun _ => True) w w1 pb tv := by
  by_cases he : typeE t text = 0
  · rw [he]; exact typed_ok hq hok he hB w1 pb tv
  · exact typed_err hq hwl hok he w1 pb tv
set_option maxRecDepth 100000 in
set_option maxHeartbeats 800000 in
theorem type_any (w : World) (ep : Nat) (text : List UInt8) (hwl : text.length ≤ 9223372036854775807) (hn : 1 ≤ n ∧ n ≤ 99) (hep : ep ≤ 1073741824) (hO : TermIs B w vb base n c k) (hk : k < 999999) :
    Calls Tryz.prog 15 #[.pointer (some ⟨vb, 0, none⟩), .int .i64 n, .int .i64 ep, .string (str text)] w fun x w' => x = .returned (.int .i64 (typeE (getT c ep) text)) ∧ TermIs B w' vb base n (aft c (typeT (getT c ep) text) (typeE (getT c ep) text)) (k + 2) ∧ Below B w w' ∧ Cells [90] w w' := by
  have hent : ∀ args w, (callFunc 46 args).run Tryz.prog w = .ok (.enter 46 args) w := enters_of Tryz.func46 (by kernel_rfl) rfl
  have hB := hO.2.le
  have hq : ReqIs (w.alloc (.cells #[.string (str []), .string (str text), .string (str [])] 98)) w.heap.size [] text [] := Blk.new w _ _
  have hc := change_any _ ep _ _ hent (typeT (getT c ep) text) (typeE (getT c ep) text) (typeT_ok (getT_ok hO.1 hep) text) (fun _ => True) (fun _ _ _ _ => trivial) hn hep (hO.keep (below_alloc w (.cells #[.string (str []), .string (str text), .string (str [])] 98))) hk hB (by simp) (typed_turns hq hwl (getT_ok hO.1 hep) (by simp; omega))
  have Hc := Lib.hid hc; clear hc hO hq hent
  have hP := (Past.at (w := w) hB).alloc (.cells #[.string (str []), .string (str text), .string (str [])] 98)
  have hCa := Cells.of_below (ts := [90]) (below_alloc w (.cells #[.string (str []), .string (str text), .string (str [])] 98))
  go_enter Tryz.func15, Tryz.ntmps15
  go_wp2_with (go_at_call 44; refine Hc.out.mono ?_; rintro x w2 ⟨rfl, h1, h2, _, h4, h5⟩)
  go_ret
  exact ⟨rfl, h1, hP.1.trans h2, cells_of_keeps h4 (Nat.le_refl _) hCa h5⟩

theorem Blk.new' {w : World} {b : Nat} {cs : Array Value} {t : TypeId} (h : w.heap.size = b) : Blk (w.alloc (.cells cs t)) b cs t := h ▸ Blk.new w cs t
/-- what Show returns, and what it makes of the object -/
def showE (s : List UInt8) : Nat := if 65536 < s.length then 5 else 0
def showC (c : Option TT) (ep : Nat) (s : List UInt8) : Option TT := if 65536 < s.length ∨ s = [] then c else some (shownT (getT c ep) s)
set_option maxRecDepth 100000 in
set_option maxHeartbeats 1600000 in
theorem termShow_any (w : World) (ep : Nat) (text : List UInt8) (hwl : text.length ≤ 1000000000) (hn : 1 ≤ n ∧ n ≤ 99) (hep : ep ≤ 1073741824) (hO : TermIs B w vb base n c k) (hk : k < 999998) :
    Calls Tryz.prog 33 #[.pointer (some ⟨vb, 0, none⟩), .int .i64 n, .int .i64 ep, .string (str text)] w fun x w' => x = .returned (.int .i64 (showE text)) ∧ TermIs B w' vb base n (showC c ep text) (k + 3) ∧ Below B w w' ∧ Cells [90] w w' := by
  have hent : ∀ args w, (callFunc 68 args).run Tryz.prog w = .ok (.enter 68 args) w := enters_of Tryz.func68 (by kernel_rfl) rfl
  have hB := hO.2.le
  have hp := termGet_any w ep hn hep hO.1 hO.2 (by omega)
  have Hp := Lib.hid hp; clear hp
  have hok := hO.1
  have hgo := getT_ok hO.1 hep
  obtain ⟨g, hg⟩ : ∃ g, g = getT c ep := ⟨_, rfl⟩
  rw [← hg] at Hp hgo
  have hsz := str_size text
  clear hO
  by_cases hl : 65536 < text.length
  · have h1 : showE text = 5 := by unfold showE; rw [if_pos hl]
    have h2 : showC c ep text = c := by unfold showC; rw [if_pos (.inl hl)]
    rw [h1, h2]; clear h1 h2
    have q1 : (65536 : Int) < text.length := by omega
    go_enter Tryz.func33, Tryz.ntmps33
    go_wp2_with (go_at_call 17; refine (Hp.out).mono ?_; rintro x w2 ⟨tv, rfl, hown2, hO2, hb2, hc2⟩; obtain ⟨av, cv, rfl⟩ := owns_slice hown2; simp only [termV])
    go_ret
    exact ⟨rfl, (termIs_mk hok (hO2.more (show k + 1 ≤ k + 3 by omega))).keep (below_alloc w2 _), hb2.alloc hO2.le _, (hc2.trans (Cells.of_below (below_alloc w2 _))).more (by simp)⟩
  · have h1 : showE text = 0 := by unfold showE; rw [if_neg hl]
    have q1 : ¬ ((65536 : Int) < text.length) := by omega
    rw [h1]; clear h1
    by_cases h0 : text = []
    · have h2 : showC c ep text = c := by unfold showC; rw [if_pos (.inr h0)]
      rw [h2]; clear h2
      have q2 := str_empty h0
      clear h0 hl
      go_enter Tryz.func33, Tryz.ntmps33
      go_wp2_with (go_at_call 17; refine (Hp.out).mono ?_; rintro x w2 ⟨tv, rfl, hown2, hO2, hb2, hc2⟩; obtain ⟨av, cv, rfl⟩ := owns_slice hown2; simp only [termV])
      go_ret
      exact ⟨rfl, (termIs_mk hok (hO2.more (show k + 1 ≤ k + 3 by omega))).keep (below_alloc w2 _), hb2.alloc hO2.le _, (hc2.trans (Cells.of_below (below_alloc w2 _))).more (by simp)⟩
    · have h2 : showC c ep text = some (shownT g text) := by unfold showC; rw [if_neg (by simp [hl, h0]), hg]
      rw [h2]; clear h2
      have q2 := str_full h0
      have h3 : Hid (aft c (shownT g text) 0 = some (shownT g text)) := rfl
      clear h0 hl
      have hch := fun w qb (hw : TermIs B w vb base n c (k + 1)) (hq : ReqIs w qb [] text []) (hB2 : B ≤ qb) => change_any (c := c) (k := k + 1) w ep _ qb hent (shownT g text) 0 (shownT_ok hgo text) (fun _ => True) (fun _ _ _ _ => trivial) hn hep hw (by omega) hB2 (Nat.le_of_lt (show Blk w qb _ _ from hq).lt) (by rw [← hg]; exact shown_turns hq hwl hgo hw.2.le)
      have Hch := Lib.hid hch; clear hch
      have Hg := Lib.hid hg; clear hg
      go_enter Tryz.func33, Tryz.ntmps33
      go_wp2_with (first
        | (go_at_call 17; refine (Hp.out).mono ?_; rintro x w2 ⟨tv, rfl, hown2, hO2, hb2, hc2⟩; obtain ⟨av, cv, rfl⟩ := owns_slice hown2; have hT2 := termIs_mk hok hO2; have hba := below_alloc w2 (.cells #[.int .i64 g.ep, .string (str g.ses), .slice av g.ty.length cv, .string (str g.scr)] 36); have hqa : ReqIs ((w2.alloc (.cells #[.int .i64 g.ep, .string (str g.ses), .slice av g.ty.length cv, .string (str g.scr)] 36)).alloc (.cells #[.string (str []), .string (str text), .string (str [])] 98)) (w2.heap.size + 1) [] text [] := Blk.new' (by simp); simp only [termV])
        | (go_at_call 44; refine (Hch.out ((w2.alloc (.cells #[.int .i64 g.ep, .string (str g.ses), .slice av g.ty.length cv, .string (str g.scr)] 36)).alloc (.cells #[.string (str []), .string (str text), .string (str [])] 98)) (w2.heap.size + 1) (hT2.keep (hba.alloc (by simp) _)) hqa (Nat.le_succ_of_le hO2.le)).mono ?_; rintro x w4 ⟨rfl, h4, h5, _, h6, h7⟩))
      go_ret
      rw [h3.out] at h4
      exact ⟨rfl, h4, (((hb2.alloc hO2.le _).alloc (by have := hO2.le; simp; omega) _)).trans h5, cells_of_keeps h6 (Nat.le_succ_of_le hc2.1) (((hc2.trans (Cells.of_below (below_alloc w2 _))).trans (Cells.of_below (below_alloc _ _))).more (by simp)) h7⟩
end
end Go.Proofs.YtjifejbibgimhaaGreatDoor

/- lineage: common, Ordinals, Within. -/
namespace Go.Proofs.YtjifejbibgimhaaGreatDoor
open Go.RowKit

def comm : List Nat → List Nat → Nat
  | x :: a, y :: b => if x = y then comm a b + 1 else 0
  | _, _ => 0
theorem comm_le : ∀ a b, comm a b ≤ a.length ∧ comm a b ≤ b.length
  | [], _ => by simp [comm]
  | _ :: _, [] => by simp [comm]
  | x :: a, y :: b => by
    have := comm_le a b
    simp only [comm, List.length_cons]
    split <;> omega
theorem comm_prefix : ∀ a b : List Nat, (comm a b = b.length) ↔ b.isPrefixOf a = true
  | [], [] => by simp [comm]
  | [], _ :: _ => by simp [comm]
  | _ :: _, [] => by simp [comm]
  | x :: a, y :: b => by
    have := comm_prefix a b
    simp only [comm, List.length_cons, List.isPrefixOf, Bool.and_eq_true, beq_iff_eq]
    split
    · rename_i h
      subst h
      simp only [true_and]
      rw [← this]; omega
    · rename_i h
      constructor
      · intro h2; omega
      · intro h2; exact absurd h2.1.symm h
theorem comm_step {a b : List Nat} {k x y : Nat} (ha : a[k]? = some x) (hb : b[k]? = some y) (he : x = y) : comm (a.drop k) (b.drop k) = comm (a.drop (k + 1)) (b.drop (k + 1)) + 1 := by
  obtain ⟨h1, e1⟩ := List.getElem?_eq_some_iff.1 ha
  obtain ⟨h2, e2⟩ := List.getElem?_eq_some_iff.1 hb
  rw [List.drop_eq_getElem_cons h1, List.drop_eq_getElem_cons h2]
  simp only [comm]
  rw [if_pos (by omega)]
theorem comm_stop {a b : List Nat} {k x y : Nat} (ha : a[k]? = some x) (hb : b[k]? = some y) (he : x ≠ y) : comm (a.drop k) (b.drop k) = 0 := by
  obtain ⟨h1, e1⟩ := List.getElem?_eq_some_iff.1 ha
  obtain ⟨h2, e2⟩ := List.getElem?_eq_some_iff.1 hb
  rw [List.drop_eq_getElem_cons h1, List.drop_eq_getElem_cons h2]
  simp only [comm]
  rw [if_neg (by omega)]
theorem comm_end {a b : List Nat} {k : Nat} (h : a.length ≤ k ∨ b.length ≤ k) : comm (a.drop k) (b.drop k) = 0 := by
  rcases h with h | h
  · rw [List.drop_eq_nil_of_le h]; rfl
  · rw [List.drop_eq_nil_of_le h]; cases a.drop k <;> rfl

/-- a number, as a value -/
def nv (n : Nat) : Value := .int .i64 n
theorem sees_num {w : World} {v : Value} {l : List Nat} (h : Sees w 1 v l.length (l.map nv)) : ∃ ao c, v = .slice ao l.length c ∧ l.length ≤ c ∧ ∀ (i x : Nat), l[i]? = some x → ∃ b off, ao = some ⟨b, off, none⟩ ∧ b < w.heap.size ∧ w.cell? ⟨b, off + i, none⟩ = some (.int .i64 x) := by
  obtain ⟨h1, ao, c, rfl, hc, h2⟩ := h
  refine ⟨ao, c, rfl, hc, fun i x hi => ?_⟩
  obtain ⟨hl, _⟩ := List.getElem?_eq_some_iff.1 hi
  rcases h2 with ⟨rfl, h0⟩ | ⟨b, off, rfl, hlt, hcell⟩
  · omega
  · exact ⟨b, off, rfl, hlt, hcell i _ (by rw [List.getElem?_map, hi]; rfl)⟩

set_option maxRecDepth 100000 in
set_option maxHeartbeats 3200000 in
theorem common_any (va vb : Value) (a b : List Nat) (w : World) (ha : Sees w 1 va a.length (a.map nv)) (hb : Sees w 1 vb b.length (b.map nv)) (la : a.length ≤ 1000000) (_ : b.length ≤ 1000000) :
    Calls Tryz.prog 52 #[va, vb] w fun e w' => e = .returned (.int .i64 (comm a b)) ∧ Below w.heap.size w w' := by
  obtain ⟨aa, ca, rfl, hca, hga⟩ := sees_num ha
  obtain ⟨ab, cb, rfl, hcb, hgb⟩ := sees_num hb
  have Hga := Lib.hid hga; clear hga
  have Hgb := Lib.hid hgb; clear hgb
  clear ha; clear hb
  have hP := Past.refl w
  have h0 : Hid (comm a b = 0 + comm (a.drop 0) (b.drop 0)) := by show _ = _; simp
  go_enter Tryz.func52, Tryz.ntmps52
  go_wp2
  go_loopw [5] (fun t wr => ∃ k : Nat, k ≤ a.length ∧ k ≤ b.length ∧ t = .int .i64 k ∧ Hid (comm a b = k + comm (a.drop k) (b.drop k)) ∧ Past w.heap.size w wr) (fun t _ => a.length - (intOf t).toNat)
  case atStart => exact ⟨0, Nat.zero_le _, Nat.zero_le _, rfl, h0, hP⟩
  case round =>
    obtain ⟨k, hk1, hk2, rfl, hc, hPr⟩ := hrel
    by_cases h1 : k < a.length
    · by_cases h2 : k < b.length
      · obtain ⟨x, hx⟩ : ∃ x, a[k]? = some x := ⟨_, List.getElem?_eq_getElem h1⟩
        obtain ⟨y, hy⟩ : ∃ y, b[k]? = some y := ⟨_, List.getElem?_eq_getElem h2⟩
        obtain ⟨ba, oa, rfl, hla, hxa⟩ := Hga.out k x hx
        obtain ⟨bb, ob, rfl, hlb, hyb⟩ := Hgb.out k y hy
        have cx : wr.cell? ⟨ba, oa + k, none⟩ = some (.int .i64 x) := (hPr.1.cell (p := ⟨ba, oa + k, none⟩) hla).trans hxa
        have cy : wr.cell? ⟨bb, ob + k, none⟩ = some (.int .i64 y) := (hPr.1.cell (p := ⟨bb, ob + k, none⟩) hlb).trans hyb
        clear hxa hyb
        by_cases he : x = y
        · have hst := comm_step hx hy he
          have hn : Hid (comm a b = (k + 1 : Nat) + comm (a.drop (k + 1)) (b.drop (k + 1))) := by show _ = _; rw [hc.out, hst]; omega
          have q1 : ((x : Int) == (y : Int)) = true := by simp [he]
          clear hst hx hy hc he
          go_wp2_with fail
          go_quiet (fail)
          go_wp2
          go_roundw
          case rel => exact ⟨k + 1, by omega, by omega, by go_num, hn, hPr.drewN _⟩
          case measure => simp [intOf]; omega
        · have hst := comm_stop hx hy he
          have hf : Hid (comm a b = k) := by show _ = _; rw [hc.out, hst]; omega
          have q1 : ((x : Int) == (y : Int)) = false := by simp; omega
          clear hst hx hy hc he
          go_wp2_with fail
          go_quiet (fail)
          go_wp2
          go_ret
          rw [hf.out]
          exact ⟨rfl, (hPr.drewN _).1⟩
      · have hf : Hid (comm a b = k) := by show _ = _; rw [hc.out, comm_end (.inr (by omega))]; omega
        obtain rfl : k = b.length := by omega
        have q2 : decide ((b.length : Int) < a.length) = true := by simp; omega
        clear hc h2
        go_wp2_with fail
        go_quiet (fail)
        go_wp2
        go_ret
        rw [hf.out]
        exact ⟨rfl, (hPr.drewN _).1⟩
    · have hf : Hid (comm a b = k) := by show _ = _; rw [hc.out, comm_end (.inl (by omega))]; omega
      obtain rfl : k = a.length := by omega
      clear hc h1
      go_wp2_with fail
      go_quiet (fail)
      go_wp2
      go_ret
      rw [hf.out]
      exact ⟨rfl, (hPr.drewN _).1⟩

set_option maxRecDepth 100000 in
set_option maxHeartbeats 400000 in
theorem ordinals_any (s : List UInt8) (w : World) (hlen : s.length ≤ 1000000000) (hv : validName s = true) :
    Calls Tryz.prog 51 #[.string (str s)] w fun e w' => ∃ v, e = .returned v ∧ w'.ownsRow w.heap.size 3 1 v (lineOrds s).length ((lineOrds s).map nv) ∧ Below w.heap.size w w' := by
  have hp := lineParse_any s w hlen
  have Hp := Lib.hid hp; clear hp
  have hl : lineErr s = none := by simpa [validName] using hv
  have Hl := Lib.hid hl; clear hl hv
  go_enter Tryz.func51, Tryz.ntmps51
  go_wp2_with (go_at_call 49; refine (Hp.out).mono ?_; rintro e w1 ⟨hb1, ⟨p, hp, rfl⟩ | ⟨hp, v, rfl, hr⟩⟩)
  · rw [Hl.out] at hp; cases hp
  · obtain ⟨a, c, rfl⟩ := owns_slice hr
    clear hp
    go_wp2
    go_ret
    exact ⟨_, rfl, hr, hb1⟩
end Go.Proofs.YtjifejbibgimhaaGreatDoor

/- lineage.Within. -/
namespace Go.Proofs.YtjifejbibgimhaaGreatDoor
open Go.RowKit

theorem lineParts_len : ∀ (k a : Nat) (l : List UInt8), (lineParts k a l).length ≤ k + 1
  | 0, a, l => by simp [lineParts]
  | k + 1, a, l => by
    simp only [lineParts, List.length_cons]
    split
    · simp
    · split
      · simp
      · split
        · simp
        · rename_i r _ _
          have := lineParts_len k (a + digs l + 1) r
          omega
theorem lineOrds_len (l : List UInt8) : (lineOrds l).length ≤ 9 := by
  unfold lineOrds parts
  rw [List.length_map]
  split
  · simp
  · exact lineParts_len 8 0 l

set_option maxRecDepth 100000 in
set_option maxHeartbeats 1600000 in
theorem within_any (a b : List UInt8) (w : World) (ha : a.length ≤ 1000000000) (hb : b.length ≤ 1000000000) :
    Calls Tryz.prog 20 #[.string (str a), .string (str b)] w fun e w' => e = .returned (.bool (withinN a b)) ∧ Below w.heap.size w w' := by
  have hva := fun w => valid_any a w ha
  have hvb := fun w => valid_any b w hb
  have la := lineOrds_len a
  have lb := lineOrds_len b
  cases h1 : validName a with
  | false =>
    have hf : withinN a b = false := by simp [withinN, h1]
    rw [hf]
    rw [h1] at hva
    have Hva := Lib.hid hva; clear hva h1 hf hvb
    go_enter Tryz.func20, Tryz.ntmps20
    go_wp2_with (go_at_call 18; refine (Hva.out _).mono ?_; rintro x w2 ⟨rfl, hb2⟩)
    go_ret
    exact ⟨rfl, hb2⟩
  | true =>
    cases h2 : validName b with
    | false =>
      have hf : withinN a b = false := by simp [withinN, h2]
      rw [hf]
      rw [h1] at hva
      rw [h2] at hvb
      have Hva := Lib.hid hva; have Hvb := Lib.hid hvb; clear hva hvb h1 h2 hf
      go_enter Tryz.func20, Tryz.ntmps20
      go_wp2_with fail
      refine (Hva.out w).mono ?_
      rintro x w2 ⟨rfl, hb2⟩
      go_wp2_with fail
      refine (Hvb.out w2).mono ?_
      rintro x w3 ⟨rfl, hb3⟩
      go_wp2
      go_ret
      exact ⟨rfl, hb2.trans (hb3.mono hb2.size)⟩
    | true =>
      have hf : withinN a b = decide (comm (lineOrds a) (lineOrds b) = (lineOrds b).length) := by
        have := comm_prefix (lineOrds a) (lineOrds b)
        simp only [withinN, h1, h2, Bool.true_and]
        cases hp : (lineOrds b).isPrefixOf (lineOrds a) with
        | true => simp [this.2 hp]
        | false => symm; simp; intro h; rw [this.1 h] at hp; cases hp
      rw [hf]; clear hf
      have hoa := fun w => ordinals_any a w ha h1
      have hob := fun w => ordinals_any b w hb h2
      rw [h1] at hva
      rw [h2] at hvb
      obtain ⟨x, hx⟩ : ∃ x, x = lineOrds a := ⟨_, rfl⟩
      obtain ⟨y, hy⟩ : ∃ y, y = lineOrds b := ⟨_, rfl⟩
      rw [← hx] at hoa la ⊢
      rw [← hy] at hob lb ⊢
      have Hva := Lib.hid hva; have Hvb := Lib.hid hvb; have Hoa := Lib.hid hoa; have Hob := Lib.hid hob
      clear hva hvb hoa hob h1 h2 hx hy
      have hbe : Hid (((comm x y : Int) == (y.length : Int)) = decide (comm x y = y.length)) := by
        show _ = _
        by_cases h : comm x y = y.length
        · simp [h]
        · have : ¬ ((comm x y : Int) = (y.length : Int)) := by omega
          simp [h, this]
      go_enter Tryz.func20, Tryz.ntmps20
      go_wp2_with fail
      refine (Hva.out w).mono ?_
      rintro z w2 ⟨rfl, hb2⟩
      go_wp2_with fail
      refine (Hvb.out w2).mono ?_
      rintro z w3 ⟨rfl, hb3⟩
      go_wp2_with fail
      refine (Hob.out w3).mono ?_
      rintro z w4 ⟨v4, rfl, hown4, hb4⟩
      obtain ⟨a4, c4, rfl⟩ := owns_slice hown4
      go_wp2_with fail
      refine (Hoa.out w4).mono ?_
      rintro z w5 ⟨v5, rfl, hown5, hb5⟩
      obtain ⟨a5, c5, rfl⟩ := owns_slice hown5
      have Hc := Lib.hid (common_any _ _ _ _ w5 (sees_of_owns hown5) ((sees_of_owns hown4).below hb5) (by omega) (by omega))
      have hb15 := ((((Past.refl w).call hb2).call hb3).call hb4).call hb5
      clear hown4 hown5 hb2 hb3 hb4 hb5
      go_wp2_with fail
      refine Hc.out.mono ?_
      rintro z w6 ⟨rfl, hb6⟩
      go_wp2
      go_ret
      exact ⟨by rw [← hbe.out]; rfl, (hb15.call hb6).1⟩
end Go.Proofs.YtjifejbibgimhaaGreatDoor

/- terminal: the request read, where it errs. -/
namespace Go.Proofs.YtjifejbibgimhaaGreatDoor
open Go.RowKit

section
variable {B qb : Nat} {t : TT} {who text : List UInt8} {w : World}
set_option maxRecDepth 100000 in
set_option maxHeartbeats 1600000 in
theorem read_err (hq : ReqIs w qb who text []) (hwl : who.length ≤ 1000000000) (hok : t.ok) (hne : readE t who ≠ 0) (w1 : World) (pb : Nat) (tv : Value) :
    Turns B 47 qb t (readT t who) (readE t who) (fun w' => ReqIs w' qb who text (readL t who)) w w1 pb tv := by
  intro hc hpb hk hown hB1
  obtain ⟨av, cv, rfl⟩ := owns_slice hown
  have hx : Blk w1 qb #[.string (str who), .string (str text), .string (str [])] 98 := hc.blk hq (by simp)
  obtain ⟨x0, x1, x2, _, _, _⟩ := hx.three'
  obtain ⟨p0, p1, p2, p3, f0, f1, f2, f3⟩ := hk.quad
  have hs := sees_of_owns hown
  have Hown := Lib.hid hown; clear hown
  have ht : readT t who = t := by unfold readT; rw [if_neg hne]
  have hl : readL t who = [] := by unfold readL; rw [if_neg hne]
  rw [ht, hl]; clear ht hl
  have hsl : t.ses.length ≤ 1000000000 := by have := (TT.bounds hok).2.1; omega
  have hwi := fun w => within_any who t.ses w hwl hsl
  by_cases hses : t.ses = []
  · have he : readE t who = 10 := by unfold readE; rw [if_pos (.inl hses)]
    rw [he]; clear he hne
    have q1 := str_empty hses
    clear hses hwi
    go_enter Tryz.func47, Tryz.ntmps47
    go_wp2_with fail
    go_quiet (fail)
    go_wp2
    go_ret
    have hkd : Blk (w1.drewN nq) pb _ _ := hk
    exact ⟨rfl, hx, ⟨_, hkd, hs.below (below_drewN _ _ _)⟩, Only.of_below (below_drewN _ _ _), fun _ _ _ _ => below_drewN _ _ _⟩
  · have q1 := str_full hses
    have hxd : Blk w1.drew qb #[.string (str who), .string (str text), .string (str [])] 98 := hx
    have hkd : Blk w1.drew pb #[.int .i64 t.ep, .string (str t.ses), .slice av t.ty.length cv, .string (str t.scr)] 36 := hk
    have hbd : Below w1.heap.size w1 w1.drew := (Below.refl _ w1).drew
    cases hw : withinN who t.ses with
    | false =>
      have he : readE t who = 10 := by unfold readE; rw [if_pos (.inr hw)]
      rw [he]; clear he hne
      rw [hw] at hwi
      have Hwi := Lib.hid hwi; clear hwi hw hses
      go_enter Tryz.func47, Tryz.ntmps47
      go_wp2_with fail
      go_region_law (go_simp; go_at_call 20; refine (Hwi.out _).mono ?_; rintro x w2 ⟨rfl, hb2⟩)
      all_goals go_wp2
      all_goals go_ret
      all_goals (have hb := hbd.trans hb2; exact ⟨rfl, hx.below hb hx.lt, ⟨_, hk.below hb hk.lt, hs.below hb⟩, Only.of_below hb, fun _ _ _ h => hb.mono h⟩)
    | true =>
      have hty : t.ty = [] := by
        unfold readE at hne
        rw [if_neg (by simp [hses, hw])] at hne
        split at hne
        · assumption
        · exact absurd rfl hne
      have he : readE t who = 19 := by unfold readE; rw [if_neg (by simp [hses, hw]), if_pos hty]
      rw [he]; clear he hne
      rw [hw] at hwi
      have q2 : t.ty.length = 0 := by rw [hty]; rfl
      have Hwi := Lib.hid hwi; clear hwi hw hses hty
      go_enter Tryz.func47, Tryz.ntmps47
      go_wp2_with fail
      go_region_law (go_simp; go_at_call 20; refine (Hwi.out _).mono ?_; rintro x w2 ⟨rfl, hb2⟩; have hk2 := hkd.below hb2 hkd.lt; obtain ⟨z0, z1, z2, z3, g0, g1, g2, g3⟩ := hk2.quad)
      all_goals go_wp2
      all_goals go_ret
      all_goals (have hb := hbd.trans hb2; exact ⟨rfl, hx.below hb hx.lt, ⟨_, hk.below hb hk.lt, hs.below hb⟩, Only.of_below hb, fun _ _ _ h => hb.mono h⟩)
end
end Go.Proofs.YtjifejbibgimhaaGreatDoor

/- terminal: the request read. -/
namespace Go.Proofs.YtjifejbibgimhaaGreatDoor
open Go.RowKit

theorem size_elemS (w : World) : (sizeOf (Tryz.prog.elem 22)).run Tryz.prog w = .ok 1 w := by kernel_rfl
theorem underS : Tryz.prog.underlying 22 = some (.slice (Tryz.prog.elem 22)) := by kernel_rfl
theorem slice_one {b n c : Nat} (hn : 1 ≤ n) (hc : n ≤ c) : ∃ off, (off = 1 ∨ n = 1) ∧ ∀ w', (Instr.sliceAt 22 (.slice (some ⟨b, 0, none⟩) n c) (some (.int .i64 1)) none none).run Tryz.prog w' = .ok (.slice (some ⟨b, off, none⟩) (n - 1) (c - 1)) w' := by
  by_cases h : c = 1
  · refine ⟨0, .inr (by omega), fun w' => ?_⟩
    rw [show (Value.int .i64 1) = .int .i64 ((1 : Nat) : Int) from rfl, run_slice_from _ underS 1 size_elemS _ _ _ _ hn]
    simp [sliced, h]
  · refine ⟨1, .inl rfl, fun w' => ?_⟩
    rw [show (Value.int .i64 1) = .int .i64 ((1 : Nat) : Int) from rfl, run_slice_from _ underS 1 size_elemS _ _ _ _ hn]
    simp [sliced, h, Addr.add_lit]
theorem sees_tail {w : World} {b n c off : Nat} {s : List UInt8} {rest : List (List UInt8)} (h : Sees w 1 (.slice (some ⟨b, 0, none⟩) n c) n ((s :: rest).map sv)) (hoff : off = 1 ∨ n = 1) : Sees w 1 (.slice (some ⟨b, off, none⟩) (n - 1) (c - 1)) rest.length (rest.map sv) ∧ w.cell? ⟨b, 0, none⟩ = some (.string (str s)) ∧ b < w.heap.size := by
  obtain ⟨h1, ao, c', e, hc, h2⟩ := h
  cases e
  simp at h1
  rcases h2 with ⟨e, _⟩ | ⟨b', off', e, hlt, hcell⟩
  · cases e
  · cases e
    refine ⟨⟨by simp, _, _, by rw [show n - 1 = rest.length by omega], by omega, .inr ⟨b, off, rfl, hlt, fun j u hu => ?_⟩⟩, hcell 0 _ rfl, hlt⟩
    rcases hoff with rfl | hoff
    · have := hcell (j + 1) u (by simpa using hu)
      rw [← this]; congr 2; omega
    · have hl : rest.length = 0 := by omega
      have : rest = [] := List.eq_nil_of_length_eq_zero hl
      subst this
      simp at hu

section
variable {B qb : Nat} {t : TT} {who text : List UInt8} {w : World}
set_option maxRecDepth 100000 in
set_option maxHeartbeats 3200000 in
theorem read_ok (hq : ReqIs w qb who text []) (hwl : who.length ≤ 1000000000) (hok : t.ok) (he : readE t who = 0) (hB : B ≤ w.heap.size) (_ : B ≤ qb) (w1 : World) (pb : Nat) (tv : Value) :
    Turns B 47 qb t (readT t who) 0 (fun w' => ReqIs w' qb who text (readL t who)) w w1 pb tv := by
  intro hc hpb hk hown hB1
  have hx : Blk w1 qb #[.string (str who), .string (str text), .string (str [])] 98 := hc.blk hq (by simp)
  have hs := sees_of_owns hown
  obtain ⟨s, rest, hty⟩ : ∃ s rest, t.ty = s :: rest := by
    cases h : t.ty with
    | nil =>
      unfold readE at he
      split at he
      · cases he
      · first | (rw [if_pos h] at he; cases he) | exact absurd he (by decide)
    | cons s rest => exact ⟨s, rest, rfl⟩
  have h12 : t.ses ≠ [] ∧ withinN who t.ses = true := by
    unfold readE at he
    split at he
    · cases he
    · rename_i h
      exact ⟨fun h' => h (.inl h'), by cases hw : withinN who t.ses with | true => rfl | false => exact absurd (.inr hw) h⟩
  obtain ⟨hses, hw⟩ := h12
  have ht : readT t who = ⟨t.ep, t.ses, rest, t.scr⟩ := by unfold readT; rw [if_pos he, hty]; rfl
  have hl : readL t who = s := by unfold readL; rw [if_pos he, hty]; rfl
  rw [ht, hl]; clear ht hl he
  obtain ⟨g, cap, rfl, hnc⟩ : ∃ g cap, tv = .slice (some ⟨g, 0, none⟩) t.ty.length cap ∧ t.ty.length ≤ cap := by
    rcases hown.2 with ⟨_, h0⟩ | ⟨g, cap, cur, rfl, _, _, hn, _⟩
    · rw [hty] at h0; simp at h0
    · exact ⟨g, cap, rfl, hn⟩
  clear hown
  have hpos : 1 ≤ t.ty.length := by rw [hty]; simp
  obtain ⟨off, hoff, hsl⟩ := slice_one (b := g) hpos hnc
  have hsl1 : t.ses.length ≤ 1000000000 := by have := (TT.bounds hok).2.1; omega
  have hty16 := (TT.bounds hok).2.2.1
  have hrl : rest.length ≤ 16 := by rw [hty] at hty16; simp at hty16; omega
  rw [show t.ty.map sv = (s :: rest).map sv by rw [hty]] at hs
  have hwi := fun w => within_any who t.ses w hwl hsl1
  rw [hw] at hwi
  have Hwi := Lib.hid hwi; clear hwi hw
  have q1 := str_full hses
  have q2 : ((t.ty.length : Int) == 0) = false := by rw [beq_eq_false_iff_ne]; omega
  have hpos' : 0 < t.ty.length := hpos
  have q3 : (0 : Int) < t.ty.length := by omega
  clear hses hty
  obtain ⟨x0, x1, x2, _, _, _⟩ := hx.three'
  obtain ⟨p0, p1, p2, p3, f0, f1, f2, f3⟩ := hk.quad
  have hxd : Blk w1.drew qb #[.string (str who), .string (str text), .string (str [])] 98 := hx
  have hkd : Blk w1.drew pb #[.int .i64 t.ep, .string (str t.ses), .slice (some ⟨g, 0, none⟩) t.ty.length cap, .string (str t.scr)] 36 := hk
  have hbd : Below w1.heap.size w1 w1.drew := (Below.refl _ w1).drew
  have hne : qb ≠ pb := fun h => by subst h; have := (hx.inj hk).2; revert this; decide
  have hBp : B ≤ pb := Nat.le_trans hB hpb
  go_enter Tryz.func47, Tryz.ntmps47
  go_wp2_with fail
  go_region_law (go_simp; go_at_call 20; refine (Hwi.out _).mono ?_; rintro x w2 ⟨rfl, hb2⟩; have hk2 := hkd.below hb2 hkd.lt; obtain ⟨z0, z1, z2, z3, g0, g1, g2, g3⟩ := hk2.quad)
  all_goals (
    have hx2 := hxd.below hb2 hxd.lt
    have hb12 := hbd.trans hb2
    have hs2 := hs.below hb12
    obtain ⟨hst, hrow, hgl⟩ := sees_tail hs2 hoff
    have hst2 := hst.below ((Below.refl _ w2).drew)
    have hb2d : Below w1.heap.size w1 w2.drew := hb12.drew
    have hP2 : Past w1.heap.size w1 w2.drew := ⟨hb2d, hb12.size⟩
    have hk2d : Blk w2.drew pb #[.int .i64 t.ep, .string (str t.ses), .slice (some ⟨g, 0, none⟩) t.ty.length cap, .string (str t.scr)] 36 := hk2
    have hx2d : Blk w2.drew qb #[.string (str who), .string (str text), .string (str [])] 98 := hx2
    clear hb2 hs hst hs2 hbd hkd hxd
    clear x0 x1 x2 p0 p1 p2 p3 f0 f1 f2 f3)
  all_goals go_wp2_with fail
  all_goals go_region_law (go_simp; go_at_call 79; refine (cloneS_any _ rest _ hst2 (by omega)).mono ?_; rintro x w3 ⟨v3, rfl, hown3, hb3⟩; obtain ⟨a3, c3, rfl⟩ := owns_slice hown3; have hk3 := hk2d.below hb3 hk2d.lt; have hx3 := hx2d.below hb3 hx2d.lt; have hrow3 := (hb3.cell (p := ⟨g, 0, none⟩) hgl).trans hrow; have hkq := hk3.setOther (a := ⟨qb, 2, none⟩) hne.symm (.string (str s)); have hxp := hx3.setOther (a := ⟨pb, 2, none⟩) hne (.slice a3 rest.length c3); obtain ⟨y0, y1, y2, y3, e0, e1, e2, e3⟩ := hk3.quad; obtain ⟨u0, u1, u2, r0, r1, r2⟩ := hx3.three'; obtain ⟨y0', y1', y2', y3', e0', e1', e2', e3'⟩ := hkq.quad; obtain ⟨u0', u1', u2', r0', r1', r2'⟩ := hxp.three')
  all_goals (
    have hb13 : Below w1.heap.size w1 w3 := hb2d.trans (hb3.mono hb2d.size)
    have hk5 := (hkq.set 2 (.slice a3 rest.length c3)).congr (cs' := #[.int .i64 t.ep, .string (str t.ses), .slice a3 rest.length c3, .string (str t.scr)]) rfl
    have hx5 := ((hx3.set 2 (.string (str s))).congr (cs' := #[.string (str who), .string (str text), .string (str s)]) rfl).setOther (a := ⟨pb, 2, none⟩) hne (.slice a3 rest.length c3)
    have hown5 := owns_set (owns_set hown3 hx3 (by decide) (j := 2) (.string (str s))) hkq (by decide) (j := 2) (.slice a3 rest.length c3)
    have ho5 := ((Only.of_below (ts := [36, 98]) hb13).trans (Only.set hx3 (by simp) (j := 2) (.string (str s)))).trans (Only.set hkq (by simp) (j := 2) (.slice a3 rest.length c3))
    have hb5 := fun D (hq : D ≤ qb) (hp : D ≤ pb) (h : D ≤ w1.heap.size) => ((hb13.mono h).setCell (p := ⟨qb, 2, none⟩) hq (.string (str s))).setCell (p := ⟨pb, 2, none⟩) hp (.slice a3 rest.length c3)
    clear y0 y1 y2 y3 e0 e1 e2 e3 u0 u1 u2 r0 r1 r2 y0' y1' y2' y3' e0' e1' e2' e3' u0' u1' u2' r0' r1' r2')
  all_goals go_wp2
  all_goals go_ret
  all_goals exact ⟨rfl, hx5, ⟨_, hk5, sees_of_owns hown5⟩, ho5, hb5⟩
end
end Go.Proofs.YtjifejbibgimhaaGreatDoor

/- terminal: ReadLine. -/
namespace Go.Proofs.YtjifejbibgimhaaGreatDoor
open Go.RowKit

section
variable {B : Nat} {vb : Nat} {base : Value} {n : Nat} {c : Option TT} {k : Nat}
theorem read_turns {qb : Nat} {t : TT} {who text : List UInt8} {w : World} (hq : ReqIs w qb who text []) (hwl : who.length ≤ 1000000000) (hok : t.ok) (hB : B ≤ w.heap.size) (hBq : B ≤ qb) (w1 : World) (pb : Nat) (tv : Value) :
    Turns B 47 qb t (readT t who) (readE t who) (fun w' => ReqIs w' qb who text (readL t who)) w w1 pb tv := by
  by_cases he : readE t who = 0
  · rw [he]; exact read_ok hq hwl hok he hB hBq w1 pb tv
  · exact read_err hq hwl hok he w1 pb tv
set_option maxRecDepth 100000 in
set_option maxHeartbeats 800000 in
theorem readLine_any (w : World) (ep : Nat) (who : List UInt8) (hwl : who.length ≤ 1000000000) (hn : 1 ≤ n ∧ n ≤ 99) (hep : ep ≤ 1073741824) (hO : TermIs B w vb base n c k) (hk : k < 999999) :
    Calls Tryz.prog 16 #[.pointer (some ⟨vb, 0, none⟩), .int .i64 n, .int .i64 ep, .string (str who)] w fun x w' => x = .returned (.tuple #[.string (str (readL (getT c ep) who)), .int .i64 (readE (getT c ep) who)]) ∧ TermIs B w' vb base n (aft c (readT (getT c ep) who) (readE (getT c ep) who)) (k + 2) ∧ Below B w w' ∧ Cells [90] w w' := by
  have hent : ∀ args w, (callFunc 47 args).run Tryz.prog w = .ok (.enter 47 args) w := enters_of Tryz.func47 (by kernel_rfl) rfl
  have hB := hO.2.le
  have hq : ReqIs (w.alloc (.cells #[.string (str who), .string (str []), .string (str [])] 98)) w.heap.size who [] [] := Blk.new w _ _
  have hc := change_any _ ep _ _ hent (readT (getT c ep) who) (readE (getT c ep) who) (readT_ok (getT_ok hO.1 hep) who) (fun w' => ReqIs w' w.heap.size who [] (readL (getT c ep) who)) (fun _ _ h hc => hc.blk h (by decide)) hn hep (hO.keep (below_alloc w (.cells #[.string (str who), .string (str []), .string (str [])] 98))) hk hB (by simp) (read_turns hq hwl (getT_ok hO.1 hep) (by simp; omega) hB)
  obtain ⟨g, hg⟩ : ∃ g, g = getT c ep := ⟨_, rfl⟩
  rw [← hg] at hc ⊢
  have Hc := Lib.hid hc; clear hc hO hq hent hg
  have hP := (Past.at (w := w) hB).alloc (.cells #[.string (str who), .string (str []), .string (str [])] 98)
  have hCa := Cells.of_below (ts := [90]) (below_alloc w (.cells #[.string (str who), .string (str []), .string (str [])] 98))
  go_enter Tryz.func16, Tryz.ntmps16
  go_wp2_with (go_at_call 44; refine Hc.out.mono ?_; rintro x w2 ⟨rfl, h1, h2, h3, h4, h5⟩; have hx : Blk w2 w.heap.size #[.string (str who), .string (str []), .string (str (readL g who))] 98 := h3; obtain ⟨x0, x1, x2, _, _, _⟩ := hx.three')
  go_ret2
  exact ⟨rfl, h1, hP.1.trans h2, cells_of_keeps h4 (Nat.le_refl _) hCa h5⟩
end
end Go.Proofs.YtjifejbibgimhaaGreatDoor

/- replevinlaw36.known. -/
namespace Go.Proofs.YtjifejbibgimhaaGreatDoor
open Go.RowKit

theorem termNew {sb : Nat} {w : World} (n : Nat) (h : Blk w sb #[.pointer none] 93) :
    Calls Tryz.prog 12 #[.pointer (some ⟨sb, 0, none⟩)] w fun e w' => ∃ vb, e = .returned (.pointer (some ⟨vb, 0, none⟩)) ∧ TermIs w.heap.size w' vb (.pointer (some ⟨sb, 0, none⟩)) n none 0 ∧ Below w.heap.size w w' :=
  (objNew sb 13 [] n 0 [] none w (baseSays_empty h h.lt 13 [] n 0 [])).mono fun _ _ ⟨vb, h1, h2, h3⟩ => ⟨vb, h1, ⟨fun _ h => (by cases h), h2⟩, h3⟩

def kt1 : TT := ⟨1, [52], [], []⟩
def kt2 : TT := ⟨1, [52], [[108, 115]], [108, 115, 10]⟩
def kt3 : TT := ⟨1, [52], [], [108, 115, 10]⟩
theorem kn_begin : beginE (getT none 1) [52] = 0 ∧ aft none (beginT (getT none 1) [52]) (beginE (getT none 1) [52]) = some kt1 := ⟨by decide +kernel, by kernel_rfl⟩
theorem kn_type : typeE (getT (some kt1) 1) [108, 115] = 0 ∧ aft (some kt1) (typeT (getT (some kt1) 1) [108, 115]) (typeE (getT (some kt1) 1) [108, 115]) = some kt2 := ⟨by decide +kernel, by kernel_rfl⟩
theorem kn_enc : termEnc ((1 : Nat) : Int) [52] [[108, 115]] [108, 115, 10] = [1, 1, 52, 1, 2, 108, 115, 3, 108, 115, 10] ∧ termCheck ((1 : Nat) : Int) [52] [[108, 115]] ([108, 115, 10] : List UInt8).length = 0 := ⟨by kernel_rfl, by decide +kernel⟩
theorem kn_get : getT (some kt2) 1 = kt2 := by kernel_rfl
theorem kn_getT {B : Nat} {w : World} {vb : Nat} {base : Value} {k : Nat} (hO : TermIs B w vb base 7 (some kt2) k) (hk : k < 1000000) : Calls Tryz.prog 17 #[.pointer (some ⟨vb, 0, none⟩), .int .i64 7, .int .i64 1] w fun e w' => ∃ av cv, e = .returned (.tuple #[.agg #[.int .i64 ((1 : Nat) : Int), .string (str [52]), .slice av 1 cv, .string (str [108, 115, 10])], .int .i64 0]) ∧ w'.ownsRow w.heap.size 9 1 (.slice av 1 cv) 1 ([[108, 115]].map sv) ∧ TermIs B w' vb base 7 (some kt2) (k + 1) ∧ Below B w w' := by
  have H := termGet_any (n := 7) w 1 ⟨by decide, by decide⟩ (by decide) hO.1 hO.2 hk
  rw [kn_get] at H
  refine H.mono ?_
  rintro e w' ⟨tv, rfl, h1, h2, h3, _⟩
  obtain ⟨av, cv, rfl⟩ := owns_slice h1
  exact ⟨av, cv, rfl, h1, ⟨hO.1, h2⟩, h3⟩
theorem kn_read1 : readE (getT (some kt2) 1) [53] = 10 ∧ aft (some kt2) (readT (getT (some kt2) 1) [53]) (readE (getT (some kt2) 1) [53]) = some kt2 ∧ readL (getT (some kt2) 1) [53] = [] := ⟨by decide +kernel, by kernel_rfl, by kernel_rfl⟩
theorem kn_read2 : readE (getT (some kt2) 1) [52, 46, 49] = 0 ∧ aft (some kt2) (readT (getT (some kt2) 1) [52, 46, 49]) (readE (getT (some kt2) 1) [52, 46, 49]) = some kt3 ∧ readL (getT (some kt2) 1) [52, 46, 49] = [108, 115] := ⟨by decide +kernel, by kernel_rfl, by kernel_rfl⟩
theorem kn_read3 : readE (getT (some kt3) 1) [52, 46, 49] = 19 ∧ aft (some kt3) (readT (getT (some kt3) 1) [52, 46, 49]) (readE (getT (some kt3) 1) [52, 46, 49]) = some kt3 ∧ readL (getT (some kt3) 1) [52, 46, 49] = [] := ⟨by decide +kernel, by kernel_rfl, by kernel_rfl⟩

set_option maxRecDepth 100000 in
set_option maxHeartbeats 800000 in
theorem known_any (w : World) : Calls Tryz.prog 11 #[] w fun e w' => e = .returned (.bool true) ∧ Below w.heap.size w w' := by
  go_enter Tryz.func11, Tryz.ntmps11
  go_wp2_with fail
  refine (stateNew_any _).mono ?_
  rintro e w1 ⟨rfl, hs1, hb1⟩
  go_wp2_with fail
  refine (termNew 7 hs1).mono ?_
  rintro e w2 ⟨vb, rfl, hO2, hb2⟩
  have hP2 := (((Past.refl w).call hb1).call hb2)
  have hle := hb1.size
  go_wp2_with fail
  have H := begin_any w2 1 [52] (by decide) ⟨by decide, by decide⟩ (by decide) hO2 (by omega)
  rw [kn_begin.2, kn_begin.1] at H
  refine H.mono ?_
  clear H
  rintro e w3 ⟨rfl, hO3, hb3, _⟩
  have hP3 := hP2.next (hb3.mono hle)
  go_wp2_with fail
  have H := type_any w3 1 [108, 115] (by decide) ⟨by decide, by decide⟩ (by decide) hO3 (by omega)
  rw [kn_type.2, kn_type.1] at H
  refine H.mono ?_
  clear H
  rintro e w4 ⟨rfl, hO4, hb4, _⟩
  have hP4 := hP3.next (hb4.mono hle)
  go_wp2_with fail
  refine (kn_getT hO4 (by omega)).mono ?_
  rintro e w5 ⟨av, cv, rfl, hown5, hO5, hb5⟩
  have hP5 := hP4.next (hb5.mono hle)
  have hT6 := Blk.new w5 #[.int .i64 ((1 : Nat) : Int), .string (str [52]), .slice av 1 cv, .string (str [108, 115, 10])] 36
  have hO6 := hO5.keep (below_alloc w5 (.cells #[.int .i64 ((1 : Nat) : Int), .string (str [52]), .slice av 1 cv, .string (str [108, 115, 10])] 36))
  have hP6 := hP5.alloc (.cells #[.int .i64 ((1 : Nat) : Int), .string (str [52]), .slice av 1 cv, .string (str [108, 115, 10])] 36)
  have hs6 := sees_of_owns (hown5.alloc (.cells #[.int .i64 ((1 : Nat) : Int), .string (str [52]), .slice av 1 cv, .string (str [108, 115, 10])] 36))
  have H := termEncode_any ((1 : Nat) : Int) [52] (.slice av 1 cv) [[108, 115]] [108, 115, 10] _ hs6 (by decide) (by decide) (by decide) (by decide)
  rw [kn_enc.1, kn_enc.2] at H
  have He := Lib.hid H; clear H hown5 hs6 hb5
  go_wp2_with fail
  refine He.out.mono ?_
  rintro e w7 ⟨rfl, hb7⟩
  have hT7 := hT6.below hb7 hT6.lt
  have hO7 := hO6.keep hb7
  have hP7 := hP6.call hb7
  have hl7 := hO7.2.le
  clear He hO6 hP6 hT6 hb7
  go_wp2_with fail
  have H := readLine_any w7 1 [53] (by decide) ⟨by decide, by decide⟩ (by decide) hO7 (by omega)
  rw [kn_read1.2.1, kn_read1.2.2, kn_read1.1] at H
  refine H.mono ?_
  clear H
  rintro e w8 ⟨rfl, hO8, hb8, hc8⟩
  have hP8 := hP7.next (hb8.mono hle)
  have hT8 := hc8.blk hT7 (by decide)
  clear hT7 hP7 hO7 hb8 hc8
  go_wp2_with fail
  have H := readLine_any w8 1 [52, 46, 49] (by decide) ⟨by decide, by decide⟩ (by decide) hO8 (by omega)
  rw [kn_read2.2.1, kn_read2.2.2, kn_read2.1] at H
  refine H.mono ?_
  clear H
  rintro e w9 ⟨rfl, hO9, hb9, hc9⟩
  have hP9 := hP8.next (hb9.mono hle)
  have hT9 := hc9.blk hT8 (by decide)
  clear hT8 hP8 hO8 hb9 hc9
  go_wp2_with fail
  have H := readLine_any w9 1 [52, 46, 49] (by decide) ⟨by decide, by decide⟩ (by decide) hO9 (by omega)
  rw [kn_read3.2.1, kn_read3.2.2, kn_read3.1] at H
  refine H.mono ?_
  clear H
  rintro e w10 ⟨rfl, hO10, hb10, hc10⟩
  have hP10 := hP9.next (hb10.mono hle)
  have hT10 := hc10.blk hT9 (by decide)
  clear hT9 hP9 hO9 hb10 hc10
  obtain ⟨t0, t1, t2, t3, _, _, _, _⟩ := hT10.quad
  have e1 : ((str [108, 115, 10]).toList == [108, 115, 10]) = true := by rw [str_toList]; decide
  have e2 : ((str [1, 1, 52, 1, 2, 108, 115, 3, 108, 115, 10]).toList == [1, 1, 52, 1, 2, 108, 115, 3, 108, 115, 10]) = true := by rw [str_toList]; decide
  have e3 : ((str [108, 115]).toList == [108, 115]) = true := by rw [str_toList]; decide
  go_wp2
  go_ret
  exact ⟨rfl, hP10.1⟩
end Go.Proofs.YtjifejbibgimhaaGreatDoor
