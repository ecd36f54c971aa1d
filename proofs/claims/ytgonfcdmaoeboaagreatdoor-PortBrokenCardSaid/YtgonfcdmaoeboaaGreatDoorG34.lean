/- Contracts of functions on the way to the claim, proved for every input that their hypotheses let by; no condition of the claim. Joined of: N1 H1 H2 H3 H4 H5 H6 H7. -/
import Derived.Lib.Strings
import Derived.Lib.Bytealg
import Derived.Deep.LoopGhost
import Derived.Deep.RegionHeld3
import Derived.IntWalk
import Derived.Test.YtgonfcdmaoeboaaGreatDoorG5
import Derived.Test.YtgonfcdmaoeboaaGreatDoorG4
import Derived.Test.YtgonfcdmaoeboaaGreatDoorG1

/- Names as one thing. -/
namespace Go.Proofs.YtgonfcdmaoeboaaGreatDoor
open Go.RowKit

/-- a name -/
structure Nm where
  k : Nat
  own : List UInt8
  n : Int
  i : Int
  t : List UInt8
deriving DecidableEq
def Nm.v (x : Nm) : Value := nameV x.k x.own x.n x.i x.t
def Nm.short (x : Nm) : Prop := x.own.length ≤ 1000000000 ∧ x.t.length ≤ 1000000000
theorem Nm.inj {x y : Nm} (h : x.v = y.v) : x = y := by
  obtain ⟨a, b, c, d, e⟩ := x
  obtain ⟨a', b', c', d', e'⟩ := y
  unfold Nm.v nameV at h
  injection h with h
  simp only [Array.mk.injEq, List.cons.injEq, Value.int.injEq, Value.string.injEq, true_and, and_true] at h
  obtain ⟨h1, h2, h3, h4, h5⟩ := h
  obtain rfl := Int.ofNat_inj.1 h1
  obtain rfl := str_inj h2
  obtain rfl := str_inj h5
  subst h3 h4
  rfl
end Go.Proofs.YtgonfcdmaoeboaaGreatDoor

/- The order of names: strings.Compare, cmp.Compare, slices.Compare of ordinals, lineage.Compare, object.Compare. -/
namespace Go.Proofs.YtgonfcdmaoeboaaGreatDoor
open Go.RowKit

set_option maxHeartbeats 1000000 in
set_option maxRecDepth 100000 in
theorem cmpStr_g (a b : ByteArray) (w : World) :
    Calls Tryz.prog 168 #[.string a, .string b] w fun e w' => e = .returned (.int .i64 (Lib.compareBytes a.data.toList b.data.toList)) ∧ w' = w := by
  go_enter Tryz.func168, Tryz.ntmps168
  go_wp2
  rw [run_callFunc_extern Tryz.func179 (by kernel_rfl) (by kernel_rfl) (by kernel_rfl) (e := Extern.BytealgCompare.compare) (by kernel_rfl), Lib.run_compareString]
  simp only [Result.andThen]
  rw [Oper.upon_value]
  go_wp2
  go_ret
  exact ⟨rfl, rfl⟩
set_option maxHeartbeats 1000000 in
theorem strings_g (a b : List UInt8) (w : World) :
    Calls Tryz.prog 149 #[.string (str a), .string (str b)] w fun e w' => e = .returned (.int .i64 (Lib.compareBytes a b)) ∧ w' = w := by
  have h := fun w => cmpStr_g (str a) (str b) w
  rw [str_data, str_data] at h
  have H := Lib.hid h; clear h
  go_enter Tryz.func149, Tryz.ntmps149
  go_wp2_with (go_at_call 168; refine (H.out _).mono ?_; rintro e w' ⟨rfl, rfl⟩)
  go_ret
  exact ⟨rfl, rfl⟩

/-- the order of numbers, and of lists of numbers -/
def cmpI (a b : Int) : Int := if a < b then -1 else if b < a then 1 else 0
def cmpL : List Nat → List Nat → Int
  | [], [] => 0
  | [], _ :: _ => -1
  | _ :: _, [] => 1
  | x :: a, y :: b => if x < y then -1 else if y < x then 1 else cmpL a b
set_option maxHeartbeats 1000000 in
theorem cmpInt_g (a b : Int) (w : World) : Calls Tryz.prog 147 #[.int .i64 a, .int .i64 b] w fun e w' => e = .returned (.int .i64 (cmpI a b)) ∧ w' = w := by
  have hn : ∀ (a : Int) (w : World), Calls Tryz.prog 165 #[.int .i64 a] w fun e w' => e = .returned (.bool false) ∧ w' = w := by
    intro a w
    have h : (a != a) = false := by simp
    go_enter Tryz.func165, Tryz.ntmps165
    go_wp2
    go_ret
    exact ⟨rfl, rfl⟩
  have Hn := Lib.hid hn; clear hn
  unfold cmpI
  by_cases h1 : a < b
  · rw [if_pos h1]
    go_enter Tryz.func147, Tryz.ntmps147
    go_wp2_with (go_at_call 165; refine (Hn.out _ _).mono ?_; rintro e w' ⟨rfl, rfl⟩)
    go_ret
    exact ⟨rfl, rfl⟩
  · rw [if_neg h1]
    have q1 : decide (a < b) = false := decide_eq_false h1
    by_cases h2 : b < a
    · rw [if_pos h2]
      clear h1
      go_enter Tryz.func147, Tryz.ntmps147
      go_wp2_with (go_at_call 165; refine (Hn.out _ _).mono ?_; rintro e w' ⟨rfl, rfl⟩)
      go_ret
      exact ⟨rfl, rfl⟩
    · rw [if_neg h2]
      have q2 : decide (b < a) = false := decide_eq_false h2
      clear h1 h2
      go_enter Tryz.func147, Tryz.ntmps147
      go_wp2_with (go_at_call 165; refine (Hn.out _ _).mono ?_; rintro e w' ⟨rfl, rfl⟩)
      go_ret
      exact ⟨rfl, rfl⟩
theorem cmpL_step {a b : List Nat} {k x y : Nat} (ha : a[k]? = some x) (hb : b[k]? = some y) : cmpL (a.drop k) (b.drop k) = if x < y then -1 else if y < x then 1 else cmpL (a.drop (k + 1)) (b.drop (k + 1)) := by
  obtain ⟨h1, e1⟩ := List.getElem?_eq_some_iff.1 ha
  obtain ⟨h2, e2⟩ := List.getElem?_eq_some_iff.1 hb
  rw [List.drop_eq_getElem_cons h1, List.drop_eq_getElem_cons h2, e1, e2]
  simp only [cmpL]
theorem cmpL_long {a b : List Nat} {k : Nat} (h1 : k < a.length) (h2 : b.length ≤ k) : cmpL (a.drop k) (b.drop k) = 1 := by
  rw [List.drop_eq_getElem_cons h1, List.drop_eq_nil_of_le h2]
  rfl
theorem cmpL_end {a b : List Nat} (h : a.length ≤ b.length) : cmpL (a.drop a.length) (b.drop a.length) = if a.length < b.length then -1 else 0 := by
  rw [List.drop_eq_nil_of_le (Nat.le_refl _)]
  by_cases hl : a.length < b.length
  · rw [if_pos hl, List.drop_eq_getElem_cons hl]; rfl
  · rw [if_neg hl, List.drop_eq_nil_of_le (by omega)]; rfl
def nvG (n : Nat) : Value := .int .i64 n
theorem sees_numG {w : World} {v : Value} {l : List Nat} (h : Sees w 1 v l.length (l.map nvG)) : ∃ ao c, v = .slice ao l.length c ∧ l.length ≤ c ∧ ∀ (i x : Nat), l[i]? = some x → ∃ b off, ao = some ⟨b, off, none⟩ ∧ b < w.heap.size ∧ w.cell? ⟨b, off + i, none⟩ = some (.int .i64 x) := by
  obtain ⟨h1, ao, c, rfl, hc, h2⟩ := h
  refine ⟨ao, c, rfl, hc, fun i x hi => ?_⟩
  obtain ⟨hl, _⟩ := List.getElem?_eq_some_iff.1 hi
  rcases h2 with ⟨rfl, h0⟩ | ⟨b, off, rfl, hlt, hcell⟩
  · omega
  · exact ⟨b, off, rfl, hlt, hcell i _ (by rw [List.getElem?_map, hi]; rfl)⟩

set_option maxRecDepth 100000 in
set_option maxHeartbeats 3200000 in
theorem slicesCmp_g (va vb : Value) (a b : List Nat) (w : World) (ha : Sees w 1 va a.length (a.map nvG)) (hb : Sees w 1 vb b.length (b.map nvG)) (la : a.length ≤ 1000000) (_ : b.length ≤ 1000000) :
    Calls Tryz.prog 166 #[va, vb] w fun e w' => e = .returned (.int .i64 (cmpL a b)) ∧ Below w.heap.size w w' := by
  obtain ⟨aa, ca, rfl, hca, hga⟩ := sees_numG ha
  obtain ⟨ab, cb, rfl, hcb, hgb⟩ := sees_numG hb
  have Hga := Lib.hid hga; clear hga
  have Hgb := Lib.hid hgb; clear hgb
  clear ha; clear hb
  have hP := Past.refl w
  have h0 : Hid (cmpL a b = cmpL (a.drop 0) (b.drop 0)) := by show _ = _; simp
  go_enter Tryz.func166, Tryz.ntmps166
  go_wp2
  go_loopg [11] a.length (fun g t wr => ∃ k : Nat, k ≤ a.length ∧ k ≤ b.length ∧ g = a.length - k ∧ t = .int .i64 k ∧ Hid (cmpL a b = cmpL (a.drop k) (b.drop k)) ∧ Past w.heap.size w wr)
  case atStart => exact ⟨0, Nat.zero_le _, Nat.zero_le _, rfl, rfl, h0, hP⟩
  case round =>
    obtain ⟨k, hk1, hk2, rfl, rfl, hc, hPr⟩ := hrel
    by_cases h1 : k < a.length
    · obtain ⟨x, hx⟩ : ∃ x, a[k]? = some x := ⟨_, List.getElem?_eq_getElem h1⟩
      obtain ⟨ba, oa, rfl, hla, hxa⟩ := Hga.out k x hx
      have cx : wr.cell? ⟨ba, oa + k, none⟩ = some (.int .i64 x) := (hPr.1.cell (p := ⟨ba, oa + k, none⟩) hla).trans hxa
      clear hxa
      by_cases h2 : k < b.length
      · obtain ⟨y, hy⟩ : ∃ y, b[k]? = some y := ⟨_, List.getElem?_eq_getElem h2⟩
        obtain ⟨bb, ob, rfl, hlb, hyb⟩ := Hgb.out k y hy
        have cy : wr.cell? ⟨bb, ob + k, none⟩ = some (.int .i64 y) := (hPr.1.cell (p := ⟨bb, ob + k, none⟩) hlb).trans hyb
        have q0 : decide ((b.length : Int) ≤ (k : Int)) = false := by simp; omega
        have hst := cmpL_step hx hy
        have Hc := Lib.hid (hc.out.trans hst)
        clear hyb hx hy hc hst
        by_cases g1 : x < y
        · have Hci : Hid (cmpI x y = -1) := by show _ = _; unfold cmpI; rw [if_pos (by omega)]
          have Hf := Lib.hid (Hc.out.trans (if_pos g1)); clear g1 Hc
          go_wp2_with fail
          refine (cmpInt_g _ _ _).mono ?_
          rintro e w' ⟨rfl, rfl⟩
          rw [Hci.out]
          go_wp2
          go_ret
          rw [Hf.out]
          exact ⟨rfl, hPr.1⟩
        · by_cases g2 : y < x
          · have Hci : Hid (cmpI x y = 1) := by show _ = _; unfold cmpI; rw [if_neg (by omega), if_pos (by omega)]
            have Hf := Lib.hid (Hc.out.trans ((if_neg g1).trans (if_pos g2))); clear g1 g2 Hc
            go_wp2_with fail
            refine (cmpInt_g _ _ _).mono ?_
            rintro e w' ⟨rfl, rfl⟩
            rw [Hci.out]
            go_wp2
            go_ret
            rw [Hf.out]
            exact ⟨rfl, hPr.1⟩
          · have Hci : Hid (cmpI x y = 0) := by show _ = _; unfold cmpI; rw [if_neg (by omega), if_neg (by omega)]
            have Hf := Lib.hid (Hc.out.trans ((if_neg g1).trans (if_neg g2))); clear g1 g2 Hc
            go_wp2_with fail
            refine (cmpInt_g _ _ _).mono ?_
            rintro e w' ⟨rfl, rfl⟩
            rw [Hci.out]
            go_wp2
            go_roundg (a.length - (k + 1))
            case measure => omega
            case rel => exact ⟨k + 1, by omega, by omega, rfl, by go_num, Hf.out, hPr⟩
      · have hf := Lib.hid (hc.out.trans (cmpL_long h1 (by omega)))
        have q0 : (b.length : Int) ≤ (k : Int) := by omega
        clear hc hx h2
        go_wp2
        go_ret
        rw [hf.out]
        exact ⟨rfl, hPr.1⟩
    · obtain rfl : k = a.length := by omega
      have hf := Lib.hid (hc.out.trans (cmpL_end hk2))
      clear hc h1
      by_cases hl : a.length < b.length
      · have hf := Lib.hid (hf.out.trans (if_pos hl))
        have q0 : (a.length : Int) < b.length := by omega
        go_wp2
        go_ret
        rw [hf.out]
        exact ⟨rfl, hPr.1⟩
      · have hf := Lib.hid (hf.out.trans (if_neg hl))
        have q0 : decide (a.length < b.length) = false := decide_eq_false hl
        clear hl hk2
        go_wp2
        go_ret
        rw [hf.out]
        exact ⟨rfl, hPr.1⟩
end Go.Proofs.YtgonfcdmaoeboaaGreatDoor

/- The order of names: cmp.Or, lineage.Compare, object.Compare. -/
namespace Go.Proofs.YtgonfcdmaoeboaaGreatDoor
open Go.RowKit

theorem lineParts_lenG : ∀ (k a : Nat) (l : List UInt8), (lineParts k a l).length ≤ k + 2 := parts_length
theorem lineOrds_lenG (l : List UInt8) : (lineOrds l).length ≤ 10 := by
  unfold lineOrds parts
  split
  · simp
  · rw [List.length_map]; exact parts_length 8 0 l
set_option maxRecDepth 100000 in
set_option maxHeartbeats 400000 in
theorem ordinals_g (s : List UInt8) (w : World) (hlen : s.length ≤ 1000000000) (hv : validName s = true) :
    Calls Tryz.prog 167 #[.string (str s)] w fun e w' => ∃ v, e = .returned v ∧ w'.ownsRow w.heap.size 3 1 v (lineOrds s).length ((lineOrds s).map nvG) ∧ Below w.heap.size w w' := by
  have hp := lineParse_any s w hlen
  have Hp := Lib.hid hp; clear hp
  have hl : lineErr s = none := by simpa [validName] using hv
  have Hl := Lib.hid hl; clear hl hv
  go_enter Tryz.func167, Tryz.ntmps167
  go_wp2_with (go_at_call 77; refine (Hp.out).mono ?_; rintro e w1 ⟨hb1, ⟨p, hp, rfl⟩ | ⟨hp, v, rfl, hr⟩⟩)
  · rw [Hl.out] at hp; cases hp
  · obtain ⟨a, c, rfl⟩ := owns_slice hr
    clear hp
    go_wp2
    go_ret
    exact ⟨_, rfl, hr, hb1⟩

/-- the order of the names of processes -/
def cmpO (a b : List UInt8) : Int :=
  if validName a = true then (if validName b = true then cmpL (lineOrds a) (lineOrds b) else -1) else if validName b = true then 1 else Lib.compareBytes a b
set_option maxRecDepth 100000 in
set_option maxHeartbeats 800000 in
theorem lineCmp_g (a b : List UInt8) (w : World) (ha : a.length ≤ 1000000000) (hb : b.length ≤ 1000000000) :
    Calls Tryz.prog 148 #[.string (str a), .string (str b)] w fun e w' => e = .returned (.int .i64 (cmpO a b)) ∧ Below w.heap.size w w' := by
  have hva := fun w => valid_any a w ha
  have hvb := fun w => valid_any b w hb
  unfold cmpO
  cases h1 : validName a with
  | true =>
    cases h2 : validName b with
    | true =>
      rw [if_pos rfl, if_pos rfl]
      have hoa := fun w => ordinals_g a w ha h1
      have hob := fun w => ordinals_g b w hb h2
      have la := lineOrds_lenG a
      have lb := lineOrds_lenG b
      rw [h1] at hva
      rw [h2] at hvb
      obtain ⟨A, hA⟩ : ∃ A, A = lineOrds a := ⟨_, rfl⟩
      obtain ⟨C, hC⟩ : ∃ C, C = lineOrds b := ⟨_, rfl⟩
      rw [← hA] at hoa la ⊢
      rw [← hC] at hob lb ⊢
      have Hva := Lib.hid hva; have Hvb := Lib.hid hvb; have Hoa := Lib.hid hoa; have Hob := Lib.hid hob
      clear hva hvb hoa hob h1 h2 hA hC
      go_enter Tryz.func148, Tryz.ntmps148
      go_wp2_with fail
      refine (Hva.out _).mono ?_
      rintro e w1 ⟨rfl, hb1⟩
      go_wp2_with fail
      refine (Hvb.out _).mono ?_
      rintro e w2 ⟨rfl, hb2⟩
      have hP2 := ((Past.refl w).call hb1).call hb2
      go_wp2_with fail
      refine (Hoa.out _).mono ?_
      rintro e w3 ⟨va, rfl, ho3, hb3⟩
      obtain ⟨aa, ca, rfl⟩ := owns_slice ho3
      have hP3 := hP2.call hb3
      go_wp2_with fail
      refine (Hob.out _).mono ?_
      rintro e w4 ⟨vb, rfl, ho4, hb4⟩
      obtain ⟨ab, cb, rfl⟩ := owns_slice ho4
      have hP4 := hP3.call hb4
      have hs3 := (sees_of_owns ho3).below hb4
      go_wp2_with fail
      refine (slicesCmp_g _ _ A C _ hs3 (sees_of_owns ho4) (by omega) (by omega)).mono ?_
      rintro e w5 ⟨rfl, hb5⟩
      have hP5 := hP4.call hb5
      go_wp2
      go_ret
      exact ⟨rfl, hP5.1⟩
    | false =>
      rw [if_pos rfl, if_neg (by simp)]
      rw [h1] at hva
      rw [h2] at hvb
      have Hva := Lib.hid hva; have Hvb := Lib.hid hvb
      clear hva hvb h1 h2
      go_enter Tryz.func148, Tryz.ntmps148
      go_wp2_with fail
      refine (Hva.out _).mono ?_
      rintro e w1 ⟨rfl, hb1⟩
      go_wp2_with fail
      refine (Hvb.out _).mono ?_
      rintro e w2 ⟨rfl, hb2⟩
      have hP2 := ((Past.refl w).call hb1).call hb2
      go_wp2
      go_ret
      exact ⟨rfl, hP2.1⟩
  | false =>
    cases h2 : validName b with
    | true =>
      rw [if_neg (by simp), if_pos rfl]
      rw [h1] at hva
      rw [h2] at hvb
      have Hva := Lib.hid hva; have Hvb := Lib.hid hvb
      clear hva hvb h1 h2
      go_enter Tryz.func148, Tryz.ntmps148
      go_wp2_with fail
      refine (Hva.out _).mono ?_
      rintro e w1 ⟨rfl, hb1⟩
      go_wp2_with fail
      refine (Hvb.out _).mono ?_
      rintro e w2 ⟨rfl, hb2⟩
      have hP2 := ((Past.refl w).call hb1).call hb2
      go_wp2
      go_ret
      exact ⟨rfl, hP2.1⟩
    | false =>
      rw [if_neg (by simp), if_neg (by simp)]
      rw [h1] at hva
      rw [h2] at hvb
      have Hva := Lib.hid hva; have Hvb := Lib.hid hvb
      clear hva hvb h1 h2
      go_enter Tryz.func148, Tryz.ntmps148
      go_wp2_with fail
      refine (Hva.out _).mono ?_
      rintro e w1 ⟨rfl, hb1⟩
      go_wp2_with fail
      refine (Hvb.out _).mono ?_
      rintro e w2 ⟨rfl, hb2⟩
      have hP2 := ((Past.refl w).call hb1).call hb2
      go_wp2_with fail
      refine (strings_g a b _).mono ?_
      rintro e w3 ⟨rfl, rfl⟩
      go_wp2
      go_ret
      exact ⟨rfl, hP2.1⟩

/-- the first that is not 0 -/
def or5 (a b c d e : Int) : Int := if a ≠ 0 then a else if b ≠ 0 then b else if c ≠ 0 then c else if d ≠ 0 then d else e
def or5of : List Int → Int
  | [] => 0
  | x :: l => if x ≠ 0 then x else or5of l
theorem or5of_eq (a b c d e : Int) : or5of [a, b, c, d, e] = or5 a b c d e := by
  unfold or5
  simp only [or5of]
  split
  · rfl
  · split
    · rfl
    · split
      · rfl
      · split
        · rfl
        · by_cases h : e = 0 <;> simp [h]
def ivG (n : Int) : Value := .int .i64 n
set_option maxRecDepth 100000 in
set_option maxHeartbeats 1600000 in
theorem or_g (l : List Int) (v : Value) (w : World) (h : Sees w 1 v l.length (l.map ivG)) (hl : l.length ≤ 1000) :
    Calls Tryz.prog 146 #[v] w fun e w' => e = .returned (.int .i64 (or5of l)) ∧ Below w.heap.size w w' := by
  obtain ⟨h1, ao, c, rfl, hc, h2⟩ := h
  have hat : ∀ (i : Nat) (x : Int), l[i]? = some x → ∃ b off, ao = some ⟨b, off, none⟩ ∧ w.cell? ⟨b, off + i, none⟩ = some (.int .i64 x) := fun i x hi => by
    obtain ⟨hl, _⟩ := List.getElem?_eq_some_iff.1 hi
    rcases h2 with ⟨rfl, h0⟩ | ⟨b, off, rfl, hlt, hcell⟩
    · omega
    · exact ⟨b, off, rfl, hcell i _ (by rw [List.getElem?_map, hi]; rfl)⟩
  have Hat := Lib.hid hat; clear hat h2 h1
  have h0 : Hid (or5of l = or5of (l.drop 0)) := by show _ = _; simp
  go_enter Tryz.func146, Tryz.ntmps146
  go_wp2
  go_loop [8] (fun t => ∃ k : Nat, k ≤ l.length ∧ t = .int .i64 k ∧ Hid (or5of l = or5of (l.drop k))) (fun t => l.length - (intOf t).toNat)
  case atStart => exact ⟨0, Nat.zero_le _, rfl, h0⟩
  case round =>
    obtain ⟨k, hk, rfl, hc⟩ := hrel
    by_cases h1 : k < l.length
    · obtain ⟨x, hx⟩ : ∃ x, l[k]? = some x := ⟨_, List.getElem?_eq_getElem h1⟩
      obtain ⟨b, off, rfl, hxa⟩ := Hat.out k x hx
      have hd : l.drop k = x :: l.drop (k + 1) := by
        obtain ⟨h, e⟩ := List.getElem?_eq_some_iff.1 hx
        rw [List.drop_eq_getElem_cons h, e]
      have hc' := hc.out
      rw [hd] at hc'
      simp only [or5of] at hc'
      have Hc := Lib.hid hc'; clear hc hc' hd hx
      by_cases h0 : x = 0
      · have Hc := Lib.hid (Hc.out.trans (if_neg (by simp [h0])))
        have q0 : (x != 0) = false := by simp [h0]
        clear h0
        go_wp2
        go_round
        case rel => exact ⟨k + 1, by omega, by go_num, Hc.out⟩
        case measure => simp [intOf]; omega
      · have Hc := Lib.hid (Hc.out.trans (if_pos h0))
        have q0 : (x != 0) = true := by simp [h0]
        clear h0
        go_wp2
        go_ret
        rw [Hc.out]
        exact ⟨rfl, Below.refl _ _⟩
    · obtain rfl : k = l.length := by omega
      have hc' := hc.out
      rw [List.drop_eq_nil_of_le (Nat.le_refl _)] at hc'
      have Hc := Lib.hid hc'; clear hc hc' h1
      go_wp2
      go_ret
      rw [Hc.out]
      exact ⟨rfl, Below.refl _ _⟩

/-- the order of names -/
def cmpN (x y : Nm) : Int := or5 (cmpI x.k y.k) (cmpO x.own y.own) (cmpI x.n y.n) (cmpI x.i y.i) (Lib.compareBytes x.t y.t)
end Go.Proofs.YtgonfcdmaoeboaaGreatDoor

/- object.Compare. -/
namespace Go.Proofs.YtgonfcdmaoeboaaGreatDoor
open Go.RowKit


theorem keep10 {w w' : World} {a0 : Addr} {v0 : Value} {a1 : Addr} {v1 : Value} {a2 : Addr} {v2 : Value} {a3 : Addr} {v3 : Value} {a4 : Addr} {v4 : Value} {a5 : Addr} {v5 : Value} {a6 : Addr} {v6 : Value} {a7 : Addr} {v7 : Value} {a8 : Addr} {v8 : Value} {a9 : Addr} {v9 : Value} (hb : Below w.heap.size w w') (h : w.cell? a0 = some v0 ∧ w.cell? a1 = some v1 ∧ w.cell? a2 = some v2 ∧ w.cell? a3 = some v3 ∧ w.cell? a4 = some v4 ∧ w.cell? a5 = some v5 ∧ w.cell? a6 = some v6 ∧ w.cell? a7 = some v7 ∧ w.cell? a8 = some v8 ∧ w.cell? a9 = some v9) : w'.cell? a0 = some v0 ∧ w'.cell? a1 = some v1 ∧ w'.cell? a2 = some v2 ∧ w'.cell? a3 = some v3 ∧ w'.cell? a4 = some v4 ∧ w'.cell? a5 = some v5 ∧ w'.cell? a6 = some v6 ∧ w'.cell? a7 = some v7 ∧ w'.cell? a8 = some v8 ∧ w'.cell? a9 = some v9 := by
  obtain ⟨h0, h1, h2, h3, h4, h5, h6, h7, h8, h9⟩ := h
  exact ⟨cell_keep h0 hb, cell_keep h1 hb, cell_keep h2 hb, cell_keep h3 hb, cell_keep h4 hb, cell_keep h5 hb, cell_keep h6 hb, cell_keep h7 hb, cell_keep h8 hb, cell_keep h9 hb⟩

set_option maxRecDepth 100000 in
set_option maxHeartbeats 3200000 in
theorem cmpN_g (x y : Nm) (w : World) (hx : x.short) (hy : y.short) :
    Calls Tryz.prog 116 #[x.v, y.v] w fun e w' => e = .returned (.int .i64 (cmpN x y)) ∧ Below w.heap.size w w' := by
  unfold Nm.v nameV
  have hX := (Blk.new w #[.int .i64 x.k, .string (str x.own), .int .i64 x.n, .int .i64 x.i, .string (str x.t)] 69).alloc (.cells #[.int .i64 y.k, .string (str y.own), .int .i64 y.n, .int .i64 y.i, .string (str y.t)] 69)
  have hY := Blk.new (w.alloc (.cells #[.int .i64 x.k, .string (str x.own), .int .i64 x.n, .int .i64 x.i, .string (str x.t)] 69)) #[.int .i64 y.k, .string (str y.own), .int .i64 y.n, .int .i64 y.i, .string (str y.t)] 69
  rw [World.size_alloc] at hY
  have hP := ((Past.refl w).alloc (.cells #[.int .i64 x.k, .string (str x.own), .int .i64 x.n, .int .i64 x.i, .string (str x.t)] 69)).alloc (.cells #[.int .i64 y.k, .string (str y.own), .int .i64 y.n, .int .i64 y.i, .string (str y.t)] 69)
  obtain ⟨x0, x1, x2, x3, x4⟩ := hX.five
  obtain ⟨y0, y1, y2, y3, y4⟩ := hY.five
  have HL := Lib.hid (fun w => lineCmp_g x.own y.own w hx.1 hy.1)
  have HS := Lib.hid (fun w => strings_g x.t y.t w)
  have HR : Hid (cmpN x y = or5of [cmpI x.k y.k, cmpO x.own y.own, cmpI x.n y.n, cmpI x.i y.i, Lib.compareBytes x.t y.t]) := (or5of_eq _ _ _ _ _).symm
  rw [HR.out]
  obtain ⟨c1, hc1⟩ : ∃ c, c = cmpO x.own y.own := ⟨_, rfl⟩
  obtain ⟨c4, hc4⟩ : ∃ c, c = Lib.compareBytes x.t y.t := ⟨_, rfl⟩
  have HL := Lib.hid (fun w => hc1 ▸ HL.out w)
  have HS := Lib.hid (fun w => hc4 ▸ HS.out w)
  rw [← hc1, ← hc4]
  clear hc1 hc4 HR hx hy
  obtain ⟨W, hW⟩ : ∃ W, W = (w.alloc (.cells #[.int .i64 x.k, .string (str x.own), .int .i64 x.n, .int .i64 x.i, .string (str x.t)] 69)).alloc (.cells #[.int .i64 y.k, .string (str y.own), .int .i64 y.n, .int .i64 y.i, .string (str y.t)] 69) := ⟨_, rfl⟩
  go_enter Tryz.func116, Tryz.ntmps116
  go_wp2
  rw [← hW] at hP x0 x1 x2 x3 x4 y0 y1 y2 y3 y4 ⊢
  clear hW hX hY
  go_region_held3 (fun w' => w'.cell? ⟨w.heap.size, 0, none⟩ = some (.int .i64 x.k) ∧ w'.cell? ⟨w.heap.size, 1, none⟩ = some (.string (str x.own)) ∧ w'.cell? ⟨w.heap.size, 2, none⟩ = some (.int .i64 x.n) ∧ w'.cell? ⟨w.heap.size, 3, none⟩ = some (.int .i64 x.i) ∧ w'.cell? ⟨w.heap.size, 4, none⟩ = some (.string (str x.t)) ∧ w'.cell? ⟨w.heap.size + 1, 0, none⟩ = some (.int .i64 y.k) ∧ w'.cell? ⟨w.heap.size + 1, 1, none⟩ = some (.string (str y.own)) ∧ w'.cell? ⟨w.heap.size + 1, 2, none⟩ = some (.int .i64 y.n) ∧ w'.cell? ⟨w.heap.size + 1, 3, none⟩ = some (.int .i64 y.i) ∧ w'.cell? ⟨w.heap.size + 1, 4, none⟩ = some (.string (str y.t)))
    (first | exact keep10 (by assumption) (by assumption) | exact keep10 (by assumption) ⟨x0, x1, x2, x3, x4, y0, y1, y2, y3, y4⟩ | go_keep)
    (first
      | (go_at_call 147; refine (cmpInt_g _ _ _).mono ?_; rintro e w' ⟨rfl, rfl⟩)
      | (go_at_call 148; refine (HL.out _).mono ?_; rintro e w5 ⟨rfl, hb5⟩; have hB5 := ((Past.refl W).drew.call hb5).1)
      | (go_at_call 149; refine (HS.out _).mono ?_; rintro e w' ⟨rfl, rfl⟩)
      | (go_at_call 146; refine (or_g [cmpI x.k y.k, c1, cmpI x.n y.n, cmpI x.i y.i, c4] _ _ (sees_new _ #[.int .i64 (cmpI x.k y.k), .int .i64 c1, .int .i64 (cmpI x.n y.n), .int .i64 (cmpI x.i y.i), .int .i64 c4] 3 (0, 0) 1 5 5 rfl (Nat.le_refl _)) (by simp)).mono ?_; rintro e w6 ⟨rfl, hb6⟩))
  all_goals (
    have hP6 := ((hP.call hB5).alloc _).call hb6
    go_wp2
    go_ret
    exact ⟨rfl, hP6.1⟩)
end Go.Proofs.YtgonfcdmaoeboaaGreatDoor

/- Search trees in memory; tall, many, total, join. -/
namespace Go.Proofs.YtgonfcdmaoeboaaGreatDoor
open Go.RowKit

inductive Tr where
  | nil : Tr
  | node (x : Nm) (val : List UInt8) (l r : Tr) : Tr
def Tr.tall : Tr → Nat
  | .nil => 0
  | .node _ _ l r => 1 + max l.tall r.tall
def Tr.many : Tr → Nat
  | .nil => 0
  | .node _ _ l r => 1 + l.many + r.many
def Tr.total : Tr → Nat
  | .nil => 0
  | .node _ v l r => v.length + l.total + r.total
theorem Tr.tall_le : ∀ t : Tr, t.tall ≤ t.many
  | .nil => Nat.le_refl _
  | .node _ _ l r => by
    have := l.tall_le
    have := r.tall_le
    simp only [Tr.tall, Tr.many]
    omega
def nodeC (x : Nm) (val : List UInt8) (lv rv : Value) (a b c : Nat) : Array Value :=
  #[.int .i64 x.k, .string (str x.own), .int .i64 x.n, .int .i64 x.i, .string (str x.t), .string (str val), lv, rv, .int .i64 a, .int .i64 b, .int .i64 c]
/-- the tree is at the pointer v, in blocks below B -/
def TreeAt (B : Nat) (w : World) : Tr → Value → Prop
  | .nil, v => v = .pointer none
  | .node x val l r, v => ∃ (k : Nat) (lv rv : Value), v = .pointer (some ⟨k, 0, none⟩) ∧ k < B ∧ Blk w k (nodeC x val lv rv (1 + max l.tall r.tall) (1 + l.many + r.many) (val.length + l.total + r.total)) 194 ∧ TreeAt B w l lv ∧ TreeAt B w r rv
theorem TreeAt.mono {B B' : Nat} {w : World} (hB : B ≤ B') : ∀ {t : Tr} {v : Value}, TreeAt B w t v → TreeAt B' w t v
  | .nil, _, h => h
  | .node .., _, ⟨k, lv, rv, e, hk, hb, hl, hr⟩ => ⟨k, lv, rv, e, Nat.lt_of_lt_of_le hk hB, hb, hl.mono hB, hr.mono hB⟩
theorem TreeAt.below {B : Nat} {w w' : World} (hb' : Below B w w') : ∀ {t : Tr} {v : Value}, TreeAt B w t v → TreeAt B w' t v
  | .nil, _, h => h
  | .node .., _, ⟨k, lv, rv, e, hk, hb, hl, hr⟩ => ⟨k, lv, rv, e, hk, hb.below hb' hk, hl.below hb', hr.below hb'⟩
theorem TreeAt.cells {B : Nat} {ts : List TypeId} {w w' : World} (hc : Cells ts w w') (ht : 194 ∉ ts) : ∀ {t : Tr} {v : Value}, TreeAt B w t v → TreeAt B w' t v
  | .nil, _, h => h
  | .node .., _, ⟨k, lv, rv, e, hk, hb, hl, hr⟩ => ⟨k, lv, rv, e, hk, hc.blk hb ht, hl.cells hc ht, hr.cells hc ht⟩
theorem TreeAt.drew {B : Nat} {w : World} {t : Tr} {v : Value} (h : TreeAt B w t v) : TreeAt B w.drew t v := h.below (Below.refl _ _).drew
theorem TreeAt.ptr {B : Nat} {w : World} : ∀ {t : Tr} {v : Value}, TreeAt B w t v → ∃ p, v = .pointer p
  | .nil, _, h => ⟨none, h⟩
  | .node .., _, ⟨_, _, _, e, _⟩ => ⟨_, e⟩
theorem Blk.eleven {w : World} {b : Nat} {x0 x1 x2 x3 x4 x5 x6 x7 x8 x9 x10 : Value} {t : TypeId} (h : Blk w b #[x0, x1, x2, x3, x4, x5, x6, x7, x8, x9, x10] t) :
    w.cell? ⟨b, 0, none⟩ = some x0 ∧ w.cell? ⟨b, 1, none⟩ = some x1 ∧ w.cell? ⟨b, 2, none⟩ = some x2 ∧ w.cell? ⟨b, 3, none⟩ = some x3 ∧ w.cell? ⟨b, 4, none⟩ = some x4 ∧ w.cell? ⟨b, 5, none⟩ = some x5 ∧ w.cell? ⟨b, 6, none⟩ = some x6 ∧ w.cell? ⟨b, 7, none⟩ = some x7 ∧ w.cell? ⟨b, 8, none⟩ = some x8 ∧ w.cell? ⟨b, 9, none⟩ = some x9 ∧ w.cell? ⟨b, 10, none⟩ = some x10 :=
  ⟨by rw [h.cell]; rfl, by rw [h.cell]; rfl, by rw [h.cell]; rfl, by rw [h.cell]; rfl, by rw [h.cell]; rfl, by rw [h.cell]; rfl, by rw [h.cell]; rfl, by rw [h.cell]; rfl, by rw [h.cell]; rfl, by rw [h.cell]; rfl, by rw [h.cell]; rfl⟩

set_option maxRecDepth 100000 in
set_option maxHeartbeats 400000 in
theorem tall_g {B : Nat} {w : World} {t : Tr} {v : Value} (h : TreeAt B w t v) : Calls Tryz.prog 150 #[v] w fun e w' => e = .returned (.int .i64 (t.tall : Nat)) ∧ w' = w := by
  cases t with
  | nil =>
    obtain rfl : v = .pointer none := h
    go_enter Tryz.func150, Tryz.ntmps150
    go_wp2
    go_ret
    exact ⟨rfl, rfl⟩
  | node x val l r =>
    obtain ⟨k, lv, rv, rfl, _, hb, _, _⟩ := h
    unfold nodeC at hb
    obtain ⟨_, _, _, _, _, _, _, _, c8, _, _⟩ := hb.eleven
    unfold Tr.tall
    go_enter Tryz.func150, Tryz.ntmps150
    go_wp2
    go_ret
    exact ⟨rfl, rfl⟩
set_option maxRecDepth 100000 in
set_option maxHeartbeats 400000 in
theorem many_g {B : Nat} {w : World} {t : Tr} {v : Value} (h : TreeAt B w t v) : Calls Tryz.prog 119 #[v] w fun e w' => e = .returned (.int .i64 (t.many : Nat)) ∧ w' = w := by
  cases t with
  | nil =>
    obtain rfl : v = .pointer none := h
    go_enter Tryz.func119, Tryz.ntmps119
    go_wp2
    go_ret
    exact ⟨rfl, rfl⟩
  | node x val l r =>
    obtain ⟨k, lv, rv, rfl, _, hb, _, _⟩ := h
    unfold nodeC at hb
    obtain ⟨_, _, _, _, _, _, _, _, _, c9, _⟩ := hb.eleven
    unfold Tr.many
    go_enter Tryz.func119, Tryz.ntmps119
    go_wp2
    go_ret
    exact ⟨rfl, rfl⟩
set_option maxRecDepth 100000 in
set_option maxHeartbeats 400000 in
theorem total_g {B : Nat} {w : World} {t : Tr} {v : Value} (h : TreeAt B w t v) : Calls Tryz.prog 151 #[v] w fun e w' => e = .returned (.int .i64 (t.total : Nat)) ∧ w' = w := by
  cases t with
  | nil =>
    obtain rfl : v = .pointer none := h
    go_enter Tryz.func151, Tryz.ntmps151
    go_wp2
    go_ret
    exact ⟨rfl, rfl⟩
  | node x val l r =>
    obtain ⟨k, lv, rv, rfl, _, hb, _, _⟩ := h
    unfold nodeC at hb
    obtain ⟨_, _, _, _, _, _, _, _, _, _, c10⟩ := hb.eleven
    unfold Tr.total
    go_enter Tryz.func151, Tryz.ntmps151
    go_wp2
    go_ret
    exact ⟨rfl, rfl⟩

set_option maxRecDepth 100000 in
set_option maxHeartbeats 3200000 in
theorem join_g {B : Nat} {l r : Tr} {lv rv : Value} (x : Nm) (val : List UInt8) (w : World) (hl : TreeAt B w l lv) (hr : TreeAt B w r rv) (hB : B ≤ w.heap.size) (hm : l.many + r.many ≤ 1000000000) (ht : val.length + l.total + r.total ≤ 1000000000000) :
    Calls Tryz.prog 120 #[lv, x.v, .string (str val), rv] w fun e w' => ∃ v, e = .returned v ∧ TreeAt w'.heap.size w' (.node x val l r) v ∧ Below w.heap.size w w' := by
  unfold Nm.v nameV
  have tl := l.tall_le
  have tr := r.tall_le
  obtain ⟨pl, rfl⟩ := hl.ptr
  obtain ⟨pr, rfl⟩ := hr.ptr
  have l1 := str_size val
  have hX := Blk.new w #[.int .i64 x.k, .string (str x.own), .int .i64 x.n, .int .i64 x.i, .string (str x.t)] 69
  have hP := (Past.refl w).alloc (.cells #[.int .i64 x.k, .string (str x.own), .int .i64 x.n, .int .i64 x.i, .string (str x.t)] 69)
  have hl1 := (hl.mono hB).below hP.1
  have hr1 := (hr.mono hB).below hP.1
  obtain ⟨x0, x1, x2, x3, x4⟩ := hX.five
  obtain ⟨T1, hT1⟩ : ∃ n, n = l.tall := ⟨_, rfl⟩
  obtain ⟨T2, hT2⟩ : ∃ n, n = r.tall := ⟨_, rfl⟩
  obtain ⟨M1, hM1⟩ : ∃ n, n = l.many := ⟨_, rfl⟩
  obtain ⟨M2, hM2⟩ : ∃ n, n = r.many := ⟨_, rfl⟩
  obtain ⟨S1, hS1⟩ : ∃ n, n = l.total := ⟨_, rfl⟩
  obtain ⟨S2, hS2⟩ : ∃ n, n = r.total := ⟨_, rfl⟩
  obtain ⟨W, hW⟩ : ∃ W, W = w.alloc (.cells #[.int .i64 x.k, .string (str x.own), .int .i64 x.n, .int .i64 x.i, .string (str x.t)] 69) := ⟨_, rfl⟩
  have hld := hl1.drew
  have hrd := hr1.drew
  rw [← hW] at hld hrd
  have A1 := Lib.hid (tall_g hld); have A2 := Lib.hid (tall_g hrd); have A3 := Lib.hid (many_g hld); have A4 := Lib.hid (many_g hrd); have A5 := Lib.hid (total_g hld); have A6 := Lib.hid (total_g hrd)
  rw [← hT1] at A1; rw [← hT2] at A2; rw [← hM1] at A3; rw [← hM2] at A4; rw [← hS1] at A5; rw [← hS2] at A6
  rw [← hT1, ← hM1] at tl; rw [← hT2, ← hM2] at tr; rw [← hM1, ← hM2] at hm; rw [← hS1, ← hS2] at ht
  have hfin : ∀ (w5 : World) (mx : Nat), mx = max T1 T2 → Past w.heap.size w w5 → TreeAt w.heap.size w5 l (.pointer pl) → TreeAt w.heap.size w5 r (.pointer pr) → TreeAt ((w5.alloc (.cells #[.int .i64 x.k, .string (str x.own), .int .i64 x.n, .int .i64 x.i, .string (str x.t), .string (str val), .pointer pl, .pointer pr, .int .i64 (1 + (mx : Int)), .int .i64 (1 + (M1 : Int) + M2), .int .i64 ((val.length : Int) + S1 + S2)] 194)).drew).heap.size ((w5.alloc (.cells #[.int .i64 x.k, .string (str x.own), .int .i64 x.n, .int .i64 x.i, .string (str x.t), .string (str val), .pointer pl, .pointer pr, .int .i64 (1 + (mx : Int)), .int .i64 (1 + (M1 : Int) + M2), .int .i64 ((val.length : Int) + S1 + S2)] 194)).drew) (.node x val l r) (.pointer (some ⟨w5.heap.size, 0, none⟩)) := by
    intro w5 mx hmx hP5 h1 h2
    subst hmx hT1 hT2 hM1 hM2 hS1 hS2
    have ec : (#[.int .i64 x.k, .string (str x.own), .int .i64 x.n, .int .i64 x.i, .string (str x.t), .string (str val), .pointer pl, .pointer pr, .int .i64 (1 + ((max l.tall r.tall : Nat) : Int)), .int .i64 (1 + (l.many : Int) + r.many), .int .i64 ((val.length : Int) + l.total + r.total)] : Array Value) = nodeC x val (.pointer pl) (.pointer pr) (1 + max l.tall r.tall) (1 + l.many + r.many) (val.length + l.total + r.total) := by
      unfold nodeC
      simp
    have hba := (Below.refl w.heap.size w5 |>.alloc hP5.2 (.cells #[.int .i64 x.k, .string (str x.own), .int .i64 x.n, .int .i64 x.i, .string (str x.t), .string (str val), .pointer pl, .pointer pr, .int .i64 (1 + ((max l.tall r.tall : Nat) : Int)), .int .i64 (1 + (l.many : Int) + r.many), .int .i64 ((val.length : Int) + l.total + r.total)] 194)).trans (Below.refl _ _).drew
    exact ⟨w5.heap.size, _, _, rfl, by simp [World.drew], (Blk.new w5 _ _).congr ec, (h1.below hba).mono (by have := hP5.2; simp [World.drew]; omega), (h2.below hba).mono (by have := hP5.2; simp [World.drew]; omega)⟩
  have Hfin := Lib.hid hfin
  clear hfin hT1 hT2 hM1 hM2 hS1 hS2 hl hr
  have e1 : (val.length : Int) + S1 = ((val.length + S1 : Nat) : Int) := by omega
  have w1 : IntKind.i64.wrap (1 + (T1 : Int)) = 1 + (T1 : Int) := IntWalk.i64_in _ (by omega)
  have w2 : IntKind.i64.wrap (1 + (T2 : Int)) = 1 + (T2 : Int) := IntWalk.i64_in _ (by omega)
  have w3 : IntKind.i64.wrap (1 + (M1 : Int)) = 1 + (M1 : Int) := IntWalk.i64_in _ (by omega)
  have w4 : IntKind.i64.wrap (1 + (M1 : Int) + M2) = 1 + (M1 : Int) + M2 := IntWalk.i64_in _ (by omega)
  have w5 : IntKind.i64.wrap ((val.length : Int) + S1) = (val.length : Int) + S1 := IntWalk.i64_in _ (by omega)
  have w6 : IntKind.i64.wrap ((val.length : Int) + S1 + S2) = (val.length : Int) + S1 + S2 := IntWalk.i64_in _ (by omega)
  clear e1 tl tr hm ht
  by_cases hmx : T1 < T2
  all_goals
    first
      | (have g1 : (T1 : Int) < (T2 : Int) := by omega)
      | (have g2 : T2 ≤ T1 := by omega
         have g3 : decide (T1 < T2) = false := decide_eq_false hmx
         have g4 : decide ((T1 : Int) < (T2 : Int)) = false := decide_eq_false (by omega))
    go_enter Tryz.func120, Tryz.ntmps120
    go_wp2
    rw [← hW] at hP x0 x1 x2 x3 x4 hl1 hr1 ⊢
    clear hW hX
    go_region_held3 (fun w' => w'.cell? ⟨w.heap.size, 0, none⟩ = some (.int .i64 x.k) ∧ w'.cell? ⟨w.heap.size, 1, none⟩ = some (.string (str x.own)) ∧ w'.cell? ⟨w.heap.size, 2, none⟩ = some (.int .i64 x.n) ∧ w'.cell? ⟨w.heap.size, 3, none⟩ = some (.int .i64 x.i) ∧ w'.cell? ⟨w.heap.size, 4, none⟩ = some (.string (str x.t)))
      (first | exact keep5 (by assumption) (by assumption) | exact keep5 (by assumption) ⟨x0, x1, x2, x3, x4⟩ | go_keep)
      (first
        | (go_at_call 150; first | ((with_reducible refine (A1.out).mono ?_); rintro e w' ⟨rfl, rfl⟩) | ((with_reducible refine (A2.out).mono ?_); rintro e w' ⟨rfl, rfl⟩))
        | (go_at_call 119; first | ((with_reducible refine (A3.out).mono ?_); rintro e w' ⟨rfl, rfl⟩) | ((with_reducible refine (A4.out).mono ?_); rintro e w' ⟨rfl, rfl⟩))
        | (go_at_call 151; first | ((with_reducible refine (A5.out).mono ?_); rintro e w' ⟨rfl, rfl⟩) | ((with_reducible refine (A6.out).mono ?_); rintro e w' ⟨rfl, rfl⟩)))
    all_goals (
      go_wp2
      go_ret
      first
        | exact ⟨_, rfl, Hfin.out W T1 (by omega) hP hl1 hr1, (hP.alloc _).drew.1⟩
        | exact ⟨_, rfl, Hfin.out W T2 (by omega) hP hl1 hr1, (hP.alloc _).drew.1⟩)
end Go.Proofs.YtgonfcdmaoeboaaGreatDoor

/- state.Get over a search tree. -/
namespace Go.Proofs.YtgonfcdmaoeboaaGreatDoor
open Go.RowKit

/-- what a tree says of a name -/
def Tr.get : Tr → Nm → Option (List UInt8)
  | .nil, _ => none
  | .node x val l r, y => if cmpN y x < 0 then l.get y else if 0 < cmpN y x then r.get y else some val
/-- all names of a tree are short -/
def Tr.shorts : Tr → Prop
  | .nil => True
  | .node x _ l r => x.short ∧ l.shorts ∧ r.shorts
theorem Nm.v_eq (y : Nm) : y.v = .agg #[.int .i64 y.k, .string (str y.own), .int .i64 y.n, .int .i64 y.i, .string (str y.t)] := rfl

set_option maxRecDepth 100000 in
set_option maxHeartbeats 3200000 in
theorem stateGet_g {B : Nat} (sb : Nat) (t : Tr) (rv : Value) (y : Nm) (w : World) (h : Blk w sb #[rv] 134) (ht : TreeAt B w t rv) (hB : B ≤ w.heap.size) (hs : t.shorts) (hy : y.short) :
    Calls Tryz.prog 78 #[.pointer (some ⟨sb, 0, none⟩), y.v] w fun e w' => e = .returned (retV (t.get y)) ∧ Below w.heap.size w w' := by
  have HC := Lib.hid (fun x w (hx : x.short) => cmpN_g y x w hy hx)
  unfold Nm.v nameV at HC
  rw [Nm.v_eq]
  have h1 := h.alloc (.cells #[.int .i64 y.k, .string (str y.own), .int .i64 y.n, .int .i64 y.i, .string (str y.t)] 69)
  have hN := Blk.new w #[.int .i64 y.k, .string (str y.own), .int .i64 y.n, .int .i64 y.i, .string (str y.t)] 69
  have hP := (Past.refl w).alloc (.cells #[.int .i64 y.k, .string (str y.own), .int .i64 y.n, .int .i64 y.i, .string (str y.t)] 69)
  have ht1 := ht.below (Below.alloc (Below.refl B w) hB (.cells #[.int .i64 y.k, .string (str y.own), .int .i64 y.n, .int .i64 y.i, .string (str y.t)] 69))
  have Hc := Lib.hid (stateTree_any sb _ ht.ptr _ h1)
  clear h1 h ht
  go_enter Tryz.func78, Tryz.ntmps78
  go_wp2_with fail
  refine (Hc.out).mono ?_
  rintro e w2 ⟨rfl, hb2⟩
  have hN2 := hN.below hb2 hN.lt
  have hP2 := hP.call hb2
  have ht2 := ht1.below (hb2.mono (Nat.le_trans hB (by simp)))
  clear hN hP hb2 ht1 Hc
  go_wp2
  go_loopg [6] t.many (fun g s6 wr => ∃ (t' : Tr) (v' : Value), v' = s6 ∧ TreeAt B wr t' v' ∧ t'.shorts ∧ Hid (t.get y = t'.get y) ∧ g = t'.many ∧ Blk wr w.heap.size #[.int .i64 y.k, .string (str y.own), .int .i64 y.n, .int .i64 y.i, .string (str y.t)] 69 ∧ Past w.heap.size w wr)
  case atStart => exact ⟨t, _, rfl, ht2, hs, rfl, rfl, hN2, hP2⟩
  case round =>
    obtain ⟨t', v', rfl, htr, hsr, hge, rfl, hNr, hPr⟩ := hrel
    clear ht2 hN2 hP2 hs
    cases t' with
    | nil =>
      obtain rfl : v' = .pointer none := htr
      have hge := Lib.hid (hge.out.trans (rfl : Tr.get .nil y = none))
      go_wp2
      go_ret2
      rw [hge.out]
      exact ⟨rfl, hPr.1⟩
    | node x val l r =>
      obtain ⟨kx, lv, rv', rfl, hkx, hbx, hl, hr⟩ := htr
      obtain ⟨pl, rfl⟩ := hl.ptr
      obtain ⟨pr, rfl⟩ := hr.ptr
      unfold nodeC at hbx
      obtain ⟨y0, y1, y2, y3, y4⟩ := hNr.five
      obtain ⟨x0, x1, x2, x3, x4, _, _, _, _, _, _⟩ := hbx.eleven
      have hge' : t.get y = if cmpN y x < 0 then l.get y else if 0 < cmpN y x then r.get y else some val := hge.out
      have HCx := Lib.hid (fun w => HC.out x w hsr.1)
      obtain ⟨c, hc⟩ : ∃ c, c = cmpN y x := ⟨_, rfl⟩
      rw [← hc] at hge' HCx
      have Hge := Lib.hid hge'
      have hBr : B ≤ wr.heap.size := Nat.le_trans hB hPr.2
      clear hge hge' hc
      go_wp2
      go_region_held3 (fun w' => w'.cell? ⟨w.heap.size, 0, none⟩ = some (.int .i64 y.k) ∧ w'.cell? ⟨w.heap.size, 1, none⟩ = some (.string (str y.own)) ∧ w'.cell? ⟨w.heap.size, 2, none⟩ = some (.int .i64 y.n) ∧ w'.cell? ⟨w.heap.size, 3, none⟩ = some (.int .i64 y.i) ∧ w'.cell? ⟨w.heap.size, 4, none⟩ = some (.string (str y.t)) ∧ w'.cell? ⟨kx, 0, none⟩ = some (.int .i64 x.k) ∧ w'.cell? ⟨kx, 1, none⟩ = some (.string (str x.own)) ∧ w'.cell? ⟨kx, 2, none⟩ = some (.int .i64 x.n) ∧ w'.cell? ⟨kx, 3, none⟩ = some (.int .i64 x.i) ∧ w'.cell? ⟨kx, 4, none⟩ = some (.string (str x.t)))
        (first | exact keep10 (by assumption) (by assumption) | exact keep10 (by assumption) ⟨y0, y1, y2, y3, y4, x0, x1, x2, x3, x4⟩ | go_keep)
        (first
          | (go_at_call 116; refine (HCx.out _).mono ?_; rintro e w5 ⟨rfl, hb5⟩))
      all_goals (
        have hb6 := ((Past.refl wr).drew.call hb5).1
        have hP5 := hPr.call hb6
        have hl5 := hl.below (hb6.mono hBr)
        have hr5 := hr.below (hb6.mono hBr)
        have hN5 := hNr.below hb6 hNr.lt
        have hx5 := hbx.below hb6 hbx.lt
        clear x0 x1 x2 x3 x4 y0 y1 y2 y3 y4 hb6 hNr hPr hbx hl hr hb5 HCx
        obtain ⟨x0, x1, x2, x3, x4, x5, x6, x7, _, _, _⟩ := hx5.eleven
        by_cases g1 : c < 0
        · have Hg := Lib.hid (Hge.out.trans (if_pos g1))
          go_wp2
          go_roundg l.many
          case measure => simp only [Tr.many]; omega
          case rel => exact ⟨l, _, rfl, hl5, hsr.2.1, Hg.out, rfl, hN5, hP5⟩
        · by_cases g2 : 0 < c
          · have Hg := Lib.hid (Hge.out.trans ((if_neg g1).trans (if_pos g2)))
            have q1 : decide (c < 0) = false := decide_eq_false g1
            go_wp2
            go_roundg r.many
            case measure => simp only [Tr.many]; omega
            case rel => exact ⟨r, _, rfl, hr5, hsr.2.2, Hg.out, rfl, hN5, hP5⟩
          · have Hg := Lib.hid (Hge.out.trans ((if_neg g1).trans (if_neg g2)))
            have q1 : decide (c < 0) = false := decide_eq_false g1
            have q2 : decide (0 < c) = false := decide_eq_false g2
            clear g1 g2
            go_wp2
            go_ret2
            rw [Hg.out]
            exact ⟨rfl, hP5.1⟩)
end Go.Proofs.YtgonfcdmaoeboaaGreatDoor

/- state.With: a tree's empty place, Len, With. -/
namespace Go.Proofs.YtgonfcdmaoeboaaGreatDoor
open Go.RowKit

theorem keep6 {w w' : World} {a0 a1 a2 a3 a4 a5 : Addr} {v0 v1 v2 v3 v4 v5 : Value} (hb : Below w.heap.size w w') (h : w.cell? a0 = some v0 ∧ w.cell? a1 = some v1 ∧ w.cell? a2 = some v2 ∧ w.cell? a3 = some v3 ∧ w.cell? a4 = some v4 ∧ w.cell? a5 = some v5) : w'.cell? a0 = some v0 ∧ w'.cell? a1 = some v1 ∧ w'.cell? a2 = some v2 ∧ w'.cell? a3 = some v3 ∧ w'.cell? a4 = some v4 ∧ w'.cell? a5 = some v5 := by
  obtain ⟨h0, h1, h2, h3, h4, h5⟩ := h
  exact ⟨cell_keep h0 hb, cell_keep h1 hb, cell_keep h2 hb, cell_keep h3 hb, cell_keep h4 hb, cell_keep h5 hb⟩
set_option maxRecDepth 100000 in
set_option maxHeartbeats 800000 in
theorem with_nil (x : Nm) (val : List UInt8) (w : World) (hv : val.length ≤ 1000000000) :
    Calls Tryz.prog 81 #[.pointer none, x.v, .string (str val)] w fun e w' => ∃ v, e = .returned v ∧ TreeAt w'.heap.size w' (.node x val .nil .nil) v ∧ Below w.heap.size w w' := by
  rw [Nm.v_eq]
  have hN := Blk.new w #[.int .i64 x.k, .string (str x.own), .int .i64 x.n, .int .i64 x.i, .string (str x.t)] 69
  have hP := (Past.refl w).alloc (.cells #[.int .i64 x.k, .string (str x.own), .int .i64 x.n, .int .i64 x.i, .string (str x.t)] 69)
  have hj := fun w => join_g (B := 0) (l := .nil) (r := .nil) (lv := .pointer none) (rv := .pointer none) x val w rfl rfl (Nat.zero_le _) (by simp [Tr.many]) (by simp [Tr.total]; omega)
  rw [Nm.v_eq] at hj
  have Hj := Lib.hid hj; clear hj
  obtain ⟨y0, y1, y2, y3, y4⟩ := hN.five
  go_enter Tryz.func81, Tryz.ntmps81
  go_wp2_with (go_at_call 120; refine (Hj.out _).mono ?_; rintro e w2 ⟨v, rfl, ht2, hb2⟩)
  go_ret
  exact ⟨_, rfl, ht2, (hP.call hb2).1⟩
set_option maxRecDepth 100000 in
set_option maxHeartbeats 800000 in
theorem stateLen_g {B : Nat} (sb : Nat) (t : Tr) (rv : Value) (w : World) (h : Blk w sb #[rv] 134) (ht : TreeAt B w t rv) (hB : B ≤ w.heap.size) :
    Calls Tryz.prog 80 #[.pointer (some ⟨sb, 0, none⟩)] w fun e w' => e = .returned (.int .i64 (t.many : Nat)) ∧ Below w.heap.size w w' := by
  have Hc := Lib.hid (stateTree_any sb _ ht.ptr _ h)
  have Hm := Lib.hid (fun w' (hb : Below w.heap.size w w') => many_g (ht.below (hb.mono hB)))
  clear h ht
  go_enter Tryz.func80, Tryz.ntmps80
  go_wp2_with fail
  refine (Hc.out).mono ?_
  rintro e w2 ⟨rfl, hb2⟩
  go_wp2_with fail
  refine (Hm.out _ hb2).mono ?_
  rintro e w3 ⟨rfl, rfl⟩
  go_wp2
  go_ret
  exact ⟨rfl, hb2⟩

def StateAt (B : Nat) (w : World) (t : Tr) (sb : Nat) : Prop := ∃ rv, sb < B ∧ Blk w sb #[rv] 134 ∧ TreeAt B w t rv
theorem StateAt.below {B : Nat} {w w' : World} {t : Tr} {sb : Nat} (h : StateAt B w t sb) (hb : Below B w w') : StateAt B w' t sb := by
  obtain ⟨rv, h1, h2, h3⟩ := h
  exact ⟨rv, h1, h2.below hb h1, h3.below hb⟩
theorem StateAt.mono {B B' : Nat} {w : World} {t : Tr} {sb : Nat} (h : StateAt B w t sb) (hB : B ≤ B') : StateAt B' w t sb := by
  obtain ⟨rv, h1, h2, h3⟩ := h
  exact ⟨rv, by omega, h2, h3.mono hB⟩
set_option maxRecDepth 100000 in
set_option maxHeartbeats 3200000 in
theorem stateWith_ok {B : Nat} (sb : Nat) (t t' : Tr) (x : Nm) (val : List UInt8) (w : World) (hS : StateAt B w t sb) (hB : B ≤ w.heap.size) (hs : t.shorts) (hx : x.short) (hv : val.length ≤ 65536)
    (hn : ∀ w, Calls Tryz.prog 79 #[x.v] w fun e w' => e = .returned (.int .i64 0) ∧ Below w.heap.size w w') (hm : t.many < 65536)
    (hw : ∀ (rv : Value) (w1 : World), TreeAt B w1 t rv → B ≤ w1.heap.size → Calls Tryz.prog 81 #[rv, x.v, .string (str val)] w1 fun e w' => ∃ v, e = .returned v ∧ TreeAt w'.heap.size w' t' v ∧ Below w1.heap.size w1 w') :
    Calls Tryz.prog 33 #[.pointer (some ⟨sb, 0, none⟩), x.v, .string (str val)] w fun e w' => ∃ sb', e = .returned (.tuple #[.pointer (some ⟨sb', 0, none⟩), .int .i64 0]) ∧ StateAt w'.heap.size w' t' sb' ∧ Below w.heap.size w w' := by
  obtain ⟨rv, hsb, hb, ht⟩ := hS
  have HG := Lib.hid (fun (w1 : World) (h : Below B w w1) => stateGet_g sb t rv x w1 (hb.below h hsb) (ht.below h) (Nat.le_trans hB h.size) hs hx)
  have HL := Lib.hid (fun (w1 : World) (h : Below B w w1) => stateLen_g sb t rv w1 (hb.below h hsb) (ht.below h) (Nat.le_trans hB h.size))
  have HW := Lib.hid (fun (w1 : World) (h : Below B w w1) => hw rv w1 (ht.below h) (Nat.le_trans hB h.size))
  have HN := Lib.hid hn
  clear hw hn
  rw [Nm.v_eq] at HG HW HN ⊢
  have l1 := str_size val
  have hX := Blk.new w #[.int .i64 x.k, .string (str x.own), .int .i64 x.n, .int .i64 x.i, .string (str x.t)] 69
  have hP := (Past.refl w).alloc (.cells #[.int .i64 x.k, .string (str x.own), .int .i64 x.n, .int .i64 x.i, .string (str x.t)] 69)
  obtain ⟨pr, rfl⟩ := ht.ptr
  obtain ⟨cur, hcur⟩ : ∃ c, c = t.get x := ⟨_, rfl⟩
  rw [← hcur] at HG
  unfold retV at HG
  clear hcur
  have q1 : decide ((65536 : Int) < val.length) = false := by simp; omega
  have q2 : decide ((65536 : Int) ≤ (t.many : Int)) = false := by simp; omega
  have q3 : decide ((65536 : Nat) ≤ t.many) = false := by simp; omega
  go_enter Tryz.func33, Tryz.ntmps33
  go_wp2_with fail
  obtain ⟨x0, x1, x2, x3, x4⟩ := hX.five
  refine (HG.out _ (hP.1.mono hB)).mono ?_
  rintro e w2 ⟨rfl, hb2⟩
  have hX2 := hX.below hb2 hX.lt
  have hP2 := hP.call hb2
  clear hX hP hb2 x0 x1 x2 x3 x4
  obtain ⟨x0, x1, x2, x3, x4⟩ := hX2.five
  go_wp2_with fail
  refine (HN.out _).mono ?_
  rintro e w3 ⟨rfl, hb3⟩
  have hX3 := hX2.below hb3 hX2.lt
  have hP3 := hP2.call hb3
  clear hX2 hP2 hb3 x0 x1 x2 x3 x4
  cases hcs : cur.isSome with
  | true =>
    clear hcs
    go_wp2_with fail
    have hSz := hb.below (hP3.1.mono hB) hsb
    have s0 : w3.cell? ⟨sb, 0, none⟩ = some (.pointer pr) := by rw [hSz.cell]; rfl
    obtain ⟨x0, x1, x2, x3, x4⟩ := hX3.five
    have HWz := Lib.hid (HW.out w3.drew (hP3.drew.1.mono hB))
    go_region_held3 (fun w' => w'.cell? ⟨sb, 0, none⟩ = some (.pointer pr) ∧ w'.cell? ⟨w.heap.size, 0, none⟩ = some (.int .i64 x.k) ∧ w'.cell? ⟨w.heap.size, 1, none⟩ = some (.string (str x.own)) ∧ w'.cell? ⟨w.heap.size, 2, none⟩ = some (.int .i64 x.n) ∧ w'.cell? ⟨w.heap.size, 3, none⟩ = some (.int .i64 x.i) ∧ w'.cell? ⟨w.heap.size, 4, none⟩ = some (.string (str x.t)))
      (first | exact keep6 (by assumption) (by assumption) | exact keep6 (by assumption) ⟨s0, x0, x1, x2, x3, x4⟩ | go_keep)
      (first
        | (go_at_call 81; refine (HWz.out).mono ?_; rintro e w6 ⟨v, rfl, ht6, hb6⟩; obtain ⟨p6, rfl⟩ := ht6.ptr))
    all_goals (
      have hP6 := (hP3.drew.call hb6)
      go_wp2
      go_ret2
      exact ⟨_, rfl, ⟨_, by simp, Blk.new _ _ _, (ht6.below (below_alloc _ _)).mono (by simp)⟩, (hP6.alloc _).1⟩)
  | false =>
    clear hcs
    go_wp2_with fail
    refine (HL.out _ (hP3.1.mono hB)).mono ?_
    rintro e w4 ⟨rfl, hb4⟩
    have hX4 := hX3.below hb4 hX3.lt
    have hP4 := hP3.call hb4
    clear hX3 hP3 hb4
    go_wp2_with fail
    have hSz := hb.below (hP4.1.mono hB) hsb
    have s0 : w4.cell? ⟨sb, 0, none⟩ = some (.pointer pr) := by rw [hSz.cell]; rfl
    obtain ⟨x0, x1, x2, x3, x4⟩ := hX4.five
    have HWz := Lib.hid (HW.out w4.drew (hP4.drew.1.mono hB))
    go_region_held3 (fun w' => w'.cell? ⟨sb, 0, none⟩ = some (.pointer pr) ∧ w'.cell? ⟨w.heap.size, 0, none⟩ = some (.int .i64 x.k) ∧ w'.cell? ⟨w.heap.size, 1, none⟩ = some (.string (str x.own)) ∧ w'.cell? ⟨w.heap.size, 2, none⟩ = some (.int .i64 x.n) ∧ w'.cell? ⟨w.heap.size, 3, none⟩ = some (.int .i64 x.i) ∧ w'.cell? ⟨w.heap.size, 4, none⟩ = some (.string (str x.t)))
      (first | exact keep6 (by assumption) (by assumption) | exact keep6 (by assumption) ⟨s0, x0, x1, x2, x3, x4⟩ | go_keep)
      (first
        | (go_at_call 81; refine (HWz.out).mono ?_; rintro e w6 ⟨v, rfl, ht6, hb6⟩; obtain ⟨p6, rfl⟩ := ht6.ptr))
    all_goals (
      have hP6 := (hP4.drew.call hb6)
      go_wp2
      go_ret2
      exact ⟨_, rfl, ⟨_, by simp, Blk.new _ _ _, (ht6.below (below_alloc _ _)).mono (by simp)⟩, (hP6.alloc _).1⟩)
end Go.Proofs.YtgonfcdmaoeboaaGreatDoor

/- A view of a state that came about by With. -/
namespace Go.Proofs.YtgonfcdmaoeboaaGreatDoor
open Go.RowKit

theorem baseSays_state {B : Nat} {w : World} {t : Tr} {sb : Nat} (hS : StateAt B w t sb) (hB : B ≤ w.heap.size) (hs : t.shorts) (x : Nm) (hx : x.short) : BaseSays B w (.pointer (some ⟨sb, 0, none⟩)) x.v (t.get x) := by
  obtain ⟨rv, h1, h2, h3⟩ := hS
  exact fun w1 hb => stateGet_g sb t rv x w1 (h2.below hb h1) (h3.below hb) (Nat.le_trans hB hb.size) hs hx
theorem objNew_state {t : Tr} {sb : Nat} {w : World} (hS : StateAt w.heap.size w t sb) (hs : t.shorts) (x : Nm) (hx : x.short) :
    Calls Tryz.prog 22 #[.pointer (some ⟨sb, 0, none⟩)] w fun e w' => ∃ vb, e = .returned (.pointer (some ⟨vb, 0, none⟩)) ∧ ObjIs w.heap.size w' vb (.pointer (some ⟨sb, 0, none⟩)) x.k x.own x.n x.i x.t (t.get x) 0 ∧ Below w.heap.size w w' :=
  objNew sb x.k x.own x.n x.i x.t _ w (baseSays_state hS (Nat.le_refl _) hs x hx)
/-- With on the empty state -/
theorem stateWith_empty (sb : Nat) (x : Nm) (val : List UInt8) (w : World) (hS : Blk w sb #[.pointer none] 134) (hx : x.short) (hv : val.length ≤ 65536)
    (hn : ∀ w, Calls Tryz.prog 79 #[x.v] w fun e w' => e = .returned (.int .i64 0) ∧ Below w.heap.size w w') :
    Calls Tryz.prog 33 #[.pointer (some ⟨sb, 0, none⟩), x.v, .string (str val)] w fun e w' => ∃ sb', e = .returned (.tuple #[.pointer (some ⟨sb', 0, none⟩), .int .i64 0]) ∧ StateAt w'.heap.size w' (.node x val .nil .nil) sb' ∧ Below w.heap.size w w' :=
  stateWith_ok (B := w.heap.size) sb .nil _ x val w ⟨_, hS.lt, hS, rfl⟩ (Nat.le_refl _) trivial hx hv hn (by simp [Tr.many]) (fun rv w1 h _ => by
    obtain rfl : rv = .pointer none := h
    exact with_nil x val w1 (by omega))
theorem one_get {x : Nm} {val : List UInt8} (h : cmpN x x = 0) : (Tr.node x val .nil .nil).get x = some val := by
  unfold Tr.get
  rw [h]
  rfl
end Go.Proofs.YtgonfcdmaoeboaaGreatDoor
