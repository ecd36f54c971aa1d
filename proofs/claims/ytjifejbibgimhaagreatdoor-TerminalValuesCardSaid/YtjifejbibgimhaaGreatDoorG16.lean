/- Contracts of functions on the way to the claim, proved for every input that their hypotheses let by; no condition of the claim. Joined of: W6 W7 W8. -/
import Derived.Deep.LoopGhost
import Derived.Deep.DeepCutAuto
import Derived.Deep.Cut
import Derived.Deep.CutRange
import Derived.Test.YtjifejbibgimhaaGreatDoorG15
import Derived.Test.YtjifejbibgimhaaGreatDoorG1

/- Plain: what the operations of TerminalLines and TerminalScreen do at a session. -/
namespace Go.Proofs.YtjifejbibgimhaaGreatDoor
open Go.RowKit

/-- a terminal of an epoch -/
def te (ep : Nat) (a : List UInt8) (ty : List (List UInt8)) (scr : List UInt8) : TT := ⟨ep, a, ty, scr⟩
theorem getT_te (ep : Nat) (a : List UInt8) (ty : List (List UInt8)) (scr : List UInt8) : getT (some (te ep a ty scr)) ep = te ep a ty scr := by unfold getT te; simp
theorem te_type (ep : Nat) {a : List UInt8} (h0 : a ≠ []) (ty : List (List UInt8)) (scr s : List UInt8) :
    (typeE (getT (some (te ep a ty scr)) ep) s = 0 ∧ s.length ≤ 1024 ∧ ty.length < 16 ∧ aft (some (te ep a ty scr)) (typeT (getT (some (te ep a ty scr)) ep) s) (typeE (getT (some (te ep a ty scr)) ep) s) = some (te ep a (ty ++ [s]) (showS scr (s ++ [10])))) ∨
    (typeE (getT (some (te ep a ty scr)) ep) s ≠ 0 ∧ aft (some (te ep a ty scr)) (typeT (getT (some (te ep a ty scr)) ep) s) (typeE (getT (some (te ep a ty scr)) ep) s) = some (te ep a ty scr)) := by
  rw [getT_te]
  by_cases e : typeE (te ep a ty scr) s = 0
  · obtain ⟨h1, _, h3⟩ := typeE_zero e
    refine .inl ⟨e, lineE_len h1, h3, ?_⟩
    unfold aft typeT
    rw [if_pos e, if_pos e]
    rfl
  · exact .inr ⟨e, by unfold aft; rw [if_neg e]⟩
theorem te_read (ep : Nat) {a b : List UInt8} (h0 : a ≠ []) (hw : withinN b a = true) (ty : List (List UInt8)) (scr : List UInt8) :
    (ty = [] ∧ readE (getT (some (te ep a ty scr)) ep) b = 19 ∧ readL (getT (some (te ep a ty scr)) ep) b = [] ∧ aft (some (te ep a ty scr)) (readT (getT (some (te ep a ty scr)) ep) b) (readE (getT (some (te ep a ty scr)) ep) b) = some (te ep a ty scr)) ∨
    (∃ x r, ty = x :: r ∧ readE (getT (some (te ep a ty scr)) ep) b = 0 ∧ readL (getT (some (te ep a ty scr)) ep) b = x ∧ aft (some (te ep a ty scr)) (readT (getT (some (te ep a ty scr)) ep) b) (readE (getT (some (te ep a ty scr)) ep) b) = some (te ep a r scr)) := by
  rw [getT_te]
  cases ty with
  | nil =>
    have e : readE (te ep a [] scr) b = 19 := by unfold readE; rw [if_neg (by simp [te, h0, hw]), if_pos (by rfl)]
    exact .inl ⟨rfl, e, by unfold readL; rw [if_neg (by omega)], by unfold aft; rw [if_neg (by omega)]⟩
  | cons x r =>
    have e : readE (te ep a (x :: r) scr) b = 0 := by unfold readE; rw [if_neg (by simp [te, h0, hw]), if_neg (by simp [te])]
    refine .inr ⟨x, r, rfl, e, by unfold readL; rw [if_pos e]; rfl, ?_⟩
    unfold aft readT
    rw [if_pos e, if_pos e]
    rfl
theorem te_begin (ep : Nat) {a : List UInt8} (hv : validName a = true) (h0 : a ≠ []) (scr : List UInt8) : (beginE (getT none ep) a = 0 ∧ aft none (beginT (getT none ep) a) (beginE (getT none ep) a) = some (te ep a [] [])) ∧ (beginE (getT (some (te ep [] [] scr)) ep) a = 0 ∧ aft (some (te ep [] [] scr)) (beginT (getT (some (te ep [] [] scr)) ep) a) (beginE (getT (some (te ep [] [] scr)) ep) a) = some (te ep a [] [])) := by
  rw [getT_te]
  have e : beginE (getT none ep) a = 0 := by unfold beginE; rw [if_neg (by simp [hv, h0]), if_neg (by simp [getT, TT.new])]
  have e2 : beginE (te ep [] [] scr) a = 0 := by unfold beginE; rw [if_neg (by simp [hv, h0]), if_neg (by simp [te])]
  refine ⟨⟨e, ?_⟩, ⟨e2, ?_⟩⟩
  · unfold aft beginT
    rw [if_pos e, if_pos e]
    rfl
  · unfold aft beginT
    rw [if_pos e2, if_pos e2]
    rfl
theorem te_end (ep : Nat) {a : List UInt8} (h0 : a ≠ []) (ty : List (List UInt8)) (scr : List UInt8) : endE (getT (some (te ep a ty scr)) ep) a = 0 ∧ aft (some (te ep a ty scr)) (endT (getT (some (te ep a ty scr)) ep) a) (endE (getT (some (te ep a ty scr)) ep) a) = some (te ep [] [] scr) := by
  rw [getT_te]
  have e : endE (te ep a ty scr) a = 0 := by unfold endE; rw [if_neg (by simp [te, h0])]
  refine ⟨e, ?_⟩
  unfold aft endT
  rw [if_pos e, if_pos e]
  rfl
/-- the last 2048 bytes -/
def last2k (l : List UInt8) : List UInt8 := l.drop (l.length - 2048)
theorem lastN_app (N : Nat) (l s : List UInt8) : (l.drop (l.length - N) ++ s).drop ((l.drop (l.length - N) ++ s).length - N) = (l ++ s).drop ((l ++ s).length - N) := by
  by_cases h : l.length ≤ N
  · rw [show l.length - N = 0 by omega]; simp
  · have e1 : l.drop (l.length - N) ++ s = (l ++ s).drop (l.length - N) := by
      rw [List.drop_append_of_le_length (by omega)]
    rw [e1, List.drop_drop, List.length_drop, List.length_append]
    congr 1
    omega
theorem last2k_show (l s : List UInt8) : showS (last2k l) s = last2k (l ++ s) := lastN_app 2048 l s
theorem last2k_nil : last2k [] = [] := rfl
theorem last2k_short {l : List UInt8} (h : l.length ≤ 2048) : last2k l = l := by unfold last2k; rw [show l.length - 2048 = 0 by omega]; rfl
theorem te_show (ep : Nat) (a : List UInt8) (ty : List (List UInt8)) (all s : List UInt8) (hs : s.length ≤ 65536) : showE s = 0 ∧ showC (some (te ep a ty (last2k all))) ep s = some (te ep a ty (last2k (all ++ s))) := by
  constructor
  · unfold showE; rw [if_neg (by omega)]
  · unfold showC
    rw [getT_te]
    by_cases h : s = []
    · rw [if_pos (.inr h), h, List.append_nil]
    · have e2 : shownT (te ep a ty (last2k all)) s = te ep a ty (last2k (all ++ s)) := by
        unfold shownT te
        dsimp only
        rw [last2k_show]
      rw [if_neg (fun h' => h'.elim (fun h2 => Nat.not_lt.2 hs h2) h), e2]
end Go.Proofs.YtjifejbibgimhaaGreatDoor

/- Two rows of strings beside a terminal; slices that came in. -/
namespace Go.Proofs.YtjifejbibgimhaaGreatDoor
open Go.RowKit

/-- a slice of strings that came in -/
def StrsIs (w : World) (v : Value) (l : List (List UInt8)) : Prop :=
  ∃ ao c, v = .slice ao l.length c ∧ l.length ≤ c ∧ c ≤ 9223372036854775807 ∧ ∀ i s, l[i]? = some s → s.length ≤ 9223372036854775807 ∧ ∃ a, ao = some a ∧ a.block < w.heap.size ∧ w.cell? (a.add i) = some (.string (str s))
/-- a slice of bools that came in -/
def BoolsIs (w : World) (v : Value) (l : List Bool) : Prop :=
  ∃ ao c, v = .slice ao l.length c ∧ l.length ≤ c ∧ c ≤ 9223372036854775807 ∧ ∀ i s, l[i]? = some s → ∃ a, ao = some a ∧ a.block < w.heap.size ∧ w.cell? (a.add i) = some (.bool s)
theorem Past.cellat {w w' : World} (h : Past w.heap.size w w') {a : Addr} {i : Nat} {x : Value} (ha : a.block < w.heap.size) (hc : w.cell? (a.add i) = some x) : w'.cell? (a.add i) = some x := by
  have hb : (a.add i).block = a.block := by unfold Addr.add; split <;> rfl
  rw [h.1.cell (by rw [hb]; exact ha)]; exact hc

theorem Cells.owns {ts : List TypeId} {w w' : World} {bs : Nat} {e : TypeId} {size : Nat} {v : Value} {c : Nat} {xs : List Value} (h : Cells ts w w') (ho : w.ownsRow bs e size v c xs) (he : e ∉ ts) : w'.ownsRow bs e size v c xs := by
  refine ⟨ho.1, ?_⟩
  rcases ho.2 with hn | ⟨g, cap, cur, hv, hb, hg, hr⟩
  · exact .inl hn
  · exact .inr ⟨g, cap, cur, hv, hb, h.2 g cur e (0, 0) hg he, hr⟩

/-- two rows of strings, apart -/
structure Rows2 (B : Nat) (w : World) (v : Value) (xs : List (List UInt8)) (u : Value) (ys : List (List UInt8)) : Prop where
  l : w.ownsRow B 9 1 v xs.length (xs.map sv)
  r : w.ownsRow B 9 1 u ys.length (ys.map sv)
  apart : ∀ k, v.ownBlock = some k → u.ownBlock ≠ some k
theorem Rows2.nil (B : Nat) (w : World) : Rows2 B w (.slice none 0 0) [] (.slice none 0 0) [] := ⟨World.ownsRow_nil _ _ _ _, World.ownsRow_nil _ _ _ _, by simp [Value.ownBlock]⟩
theorem Rows2.cells {B : Nat} {w w' : World} {v u : Value} {xs ys : List (List UInt8)} (h : Rows2 B w v xs u ys) (hc : Cells [90] w w') : Rows2 B w' v xs u ys := ⟨hc.owns h.l (by decide), hc.owns h.r (by decide), h.apart⟩
theorem Rows2.below {B : Nat} {w w' : World} {v u : Value} {xs ys : List (List UInt8)} (h : Rows2 B w v xs u ys) (hb : Below w.heap.size w w') : Rows2 B w' v xs u ys := ⟨owns_below h.l hb, owns_below h.r hb, h.apart⟩
theorem Rows2.swap {B : Nat} {w : World} {v u : Value} {xs ys : List (List UInt8)} (h : Rows2 B w v xs u ys) : Rows2 B w u ys v xs := ⟨h.r, h.l, fun k hk he => h.apart k he hk⟩
theorem owns_lt {w : World} {base : Nat} {e : TypeId} {size : Nat} {v : Value} {n : Nat} {xs : List Value} (h : w.ownsRow base e size v n xs) {k : Nat} (hk : v.ownBlock = some k) : base ≤ k ∧ k < w.heap.size := h.lt k hk
theorem owns_grown_other {w w' : World} {base : Nat} {e : TypeId} {size : Nat} {v : Value} {n : Nat} {xs : List Value} (h : w.ownsRow base e size v n xs) {row : Option Nat} (hg : w.grownBy w' row) (hne : ∀ k, v.ownBlock = some k → row ≠ some k) : w'.ownsRow base e size v n xs := by
  refine ⟨h.1, ?_⟩
  rcases h.2 with hn | ⟨g, cap, cur, hv, hb, hk, hr⟩
  · exact .inl hn
  · refine .inr ⟨g, cap, cur, hv, hb, ?_, hr⟩
    have hlt : g < w.heap.size := (Array.getElem?_eq_some_iff.1 hk).1
    exact (hg.block g hlt (fun e => hne g (by rw [hv]; rfl) e.symm)).trans hk
/-- behind an append to the first one -/
theorem Rows2.app {B : Nat} {w w' : World} {v v' u : Value} {xs ys zs : List (List UInt8)} {n : Nat} (h : Rows2 B w v xs u ys) (ho : w'.ownsRow B 9 1 v' n (xs.map sv ++ zs.map sv)) (hn : n = xs.length + zs.length) (hg : w.grownBy w' v.ownBlock) (hw : v'.ownBlock = v.ownBlock ∨ v'.ownBlock = some w.heap.size) : Rows2 B w' v' (xs ++ zs) u ys := by
  refine ⟨owns_eq ho (by rw [hn, List.length_append]) (by rw [List.map_append]), owns_grown_other h.r hg (fun k hk he => h.apart k he hk), fun k hk he => ?_⟩
  rcases hw with hw | hw
  · exact h.apart k (hw ▸ hk) he
  · have := (owns_lt h.r he).2
    rw [hw] at hk
    cases hk
    omega
/-- a terminal stays behind an append to a row of strings -/
theorem TermIs.grown {B : Nat} {w w' : World} {vb : Nat} {base : Value} {n : Nat} {c : Option TT} {k : Nat} (h : TermIs B w vb base n c k) {bs : Nat} {v : Value} {m : Nat} {xs : List Value} (ho : w.ownsRow bs 9 1 v m xs) (hg : w.grownBy w' v.ownBlock) (hB : B ≤ bs) : TermIs B w' vb base n c k := by
  have hb : Below B w w' := ⟨hg.os, hg.tape, hg.output, hg.size, fun b hb => hg.block b (Nat.lt_of_lt_of_le hb h.2.le) (fun e => by have := (owns_lt ho e.symm).1; omega)⟩
  exact h.only (Only.of_grown ho hg) hb (by decide) (by decide)
theorem below_of_grown {B : Nat} {w w' : World} {bs : Nat} {v : Value} {m : Nat} {xs : List Value} (ho : w.ownsRow bs 9 1 v m xs) (hg : w.grownBy w' v.ownBlock) (hB : B ≤ bs) (hs : B ≤ w.heap.size) : Below B w w' :=
  ⟨hg.os, hg.tape, hg.output, hg.size, fun b hb => hg.block b (Nat.lt_of_lt_of_le hb hs) (fun e => by have := (owns_lt ho e.symm).1; omega)⟩
end Go.Proofs.YtjifejbibgimhaaGreatDoor

/- replevinlaw36.TerminalLines. -/
namespace Go.Proofs.YtjifejbibgimhaaGreatDoor
open Go.RowKit

set_option maxRecDepth 100000 in
set_option maxHeartbeats 1600000 in
theorem lines_long (v u : Value) (l : List (List UInt8)) (w : World) (hl : StrsIs w v l) (h : 40 < l.length) :
    Calls Tryz.prog 3 #[v, u] w fun x w' => x = .returned (.bool true) ∧ Below w.heap.size w w' := by
  have Hkn := Lib.hid known_any
  obtain ⟨ao, c, rfl, hnc, hc, _⟩ := hl
  have q1 : (40 : Int) < l.length := by omega
  have fin : ∀ w2 w3 : World, Below w.heap.size w w2 → Below w2.heap.size w2 w3 → Below w.heap.size w w3 := fun w2 w3 h h' => h.trans (h'.mono h.size)
  go_enter Tryz.func3, Tryz.ntmps3
  go_wp2_with (go_at_call 11; refine (Hkn.out _).mono ?_; first | (rintro x w2 ⟨rfl, hb2⟩) | (rintro x w3 ⟨rfl, hb3⟩))
  go_ret
  exact ⟨rfl, fin _ _ (by assumption) (by assumption)⟩

theorem te_get {B : Nat} {w : World} {vb : Nat} {base : Value} {n : Nat} {k ep : Nat} {a : List UInt8} {ty : List (List UInt8)} {scr : List UInt8} (hO : TermIs B w vb base n (some (te ep a ty scr)) k) (hk : k < 1000000) (hn : 1 ≤ n ∧ n ≤ 99) (hep : ep ≤ 1073741824) :
    Calls Tryz.prog 17 #[.pointer (some ⟨vb, 0, none⟩), .int .i64 n, .int .i64 ep] w fun e w' => ∃ av cv, e = .returned (.tuple #[.agg #[.int .i64 (ep : Int), .string (str a), .slice av ty.length cv, .string (str scr)], .int .i64 0]) ∧ w'.ownsRow w.heap.size 9 1 (.slice av ty.length cv) ty.length (ty.map sv) ∧ TermIs B w' vb base n (some (te ep a ty scr)) (k + 1) ∧ Below B w w' ∧ Cells [] w w' := by
  have H := termGet_any (n := n) w ep hn hep hO.1 hO.2 hk
  rw [getT_te] at H
  refine H.mono ?_
  rintro e w' ⟨tv, rfl, h1, h2, h3, h4⟩
  obtain ⟨av, cv, rfl⟩ := owns_slice h1
  exact ⟨av, cv, rfl, h1, ⟨hO.1, h2⟩, h3, h4⟩
theorem get_s {l : List (List UInt8)} {i : Nat} (h : i < l.length) : ∃ s, l[i]? = some s := ⟨_, List.getElem?_eq_getElem h⟩
theorem get_b {l : List Bool} {i : Nat} (h : i < l.length) : ∃ s, l[i]? = some s := ⟨_, List.getElem?_eq_getElem h⟩

set_option maxRecDepth 100000 in
set_option maxHeartbeats 3200000 in
theorem lines_some (v u : Value) (l : List (List UInt8)) (r : List Bool) (w : World) (hl : StrsIs w v l) (hr : BoolsIs w u r) (h40 : l.length ≤ 40) :
    Calls Tryz.prog 3 #[v, u] w fun x w' => x = .returned (.bool true) ∧ Below w.heap.size w w' := by
  have Hkn := Lib.hid known_any
  obtain ⟨ao, c, rfl, hnc, hc, hls⟩ := hl
  obtain ⟨bo, d, rfl, hnd, hd, hrs⟩ := hr
  have Hls := Lib.hid hls; clear hls
  have Hrs := Lib.hid hrs; clear hrs
  have q1 : decide ((40 : Int) < l.length) = false := by simp; omega
  go_enter Tryz.func3, Tryz.ntmps3
  go_wp2_with fail
  refine (Hkn.out _).mono ?_
  rintro e w1 ⟨rfl, hb1⟩
  go_wp2_with fail
  refine (stateNew_any _).mono ?_
  rintro e w2 ⟨rfl, hs2, hb2⟩
  go_wp2_with fail
  refine (termNew 1 hs2).mono ?_
  rintro e w3 ⟨vb, rfl, hO3, hb3⟩
  have hP3 := (((Past.refl w).call hb1).call hb2).call hb3
  have hle : w.heap.size ≤ w2.heap.size := Nat.le_trans hb1.size hb2.size
  go_wp2_with fail
  have H1 := begin_any w3 0 [51] (by decide) ⟨by decide, by decide⟩ (by decide) hO3 (by omega)
  rw [(te_begin 0 (a := [51]) (by decide +kernel) (by decide) []).1.2, (te_begin 0 (a := [51]) (by decide +kernel) (by decide) []).1.1] at H1
  refine H1.mono ?_
  clear H1
  rintro e w4 ⟨rfl, hO4, hb4, _⟩
  have hP4 := hP3.next (hb4.mono hle)
  clear hb1 hb2 hb3 hb4 hs2 hO3 hP3
  go_wp2
  go_loopg [6, 7, 8] l.length (fun g s6 s7 t wr => ∃ (tv gv : Value) (i : Nat) (G ty : List (List UInt8)) (scr : List UInt8), tv = s6 ∧ gv = s7 ∧ i ≤ l.length ∧ g = l.length - i ∧ t = .int .i64 i ∧ Rows2 w2.heap.size wr tv (G ++ ty) gv G ∧ G.length + ty.length ≤ i ∧ TermIs w2.heap.size wr vb (.pointer (some ⟨w1.heap.size, 0, none⟩)) 1 (some (te 0 [51] ty scr)) (10 + 4 * i) ∧ Past w.heap.size w wr)
  case atStart => exact ⟨_, _, 0, [], [], [], rfl, rfl, Nat.zero_le _, rfl, rfl, Rows2.nil _ _, Nat.le_refl _, hO4.more (by omega), hP4⟩
  case round =>
    obtain ⟨tv, gv, i, G, ty, scr, rfl, rfl, hi, rfl, rfl, hR, hGi, hO, hP⟩ := hrel
    clear hO4 hP4
    by_cases hil : i < l.length
    · obtain ⟨s, hs⟩ := get_s hil
      obtain ⟨hsl, a, hao, ha, hc0⟩ := Hls.out i s hs
      have hca := hP.cellat ha hc0
      subst hao
      have Hs := Lib.hid hs; clear hs
      have q2 : (i : Int) < l.length := by omega
      obtain ⟨E, hE⟩ : ∃ E, E = typeE (getT (some (te 0 [51] ty scr)) 0) s := ⟨_, rfl⟩
      have H1 := type_any wr 0 s hsl ⟨by decide, by decide⟩ (by decide) hO (by omega)
      rw [← hE] at H1
      have hT := te_type 0 (a := [51]) (by decide) ty scr s
      rw [← hE] at hT
      clear hE
      have HT := Lib.hid hT; clear hT
      have HH := Lib.hid H1; clear H1
      go_upto_if 39 with (go_at_call 15; refine (HH.out).mono ?_; rintro e wa ⟨rfl, hOa, hba, hca⟩)
      have hRa := hR.cells hca
      have hPa := hP.next (hba.mono hle)
      have hcw := hPa.cellat ha hc0
      clear HH hR hO hP
      go_cut [6] (fun s6 wx => ∃ (tv' : Value) (ty' : List (List UInt8)) (scr' : List UInt8), tv' = s6 ∧ Rows2 w2.heap.size wx tv' (G ++ ty') gv G ∧ G.length + ty'.length ≤ i + 1 ∧ TermIs w2.heap.size wx vb (.pointer (some ⟨w1.heap.size, 0, none⟩)) 1 (some (te 0 [51] ty' scr')) (10 + 4 * i + 2) ∧ Past w.heap.size w wx)
      case first =>
        rcases HT.out with ⟨hE, _, hty, haft⟩ | ⟨hE, haft⟩
        · rw [haft] at hOa
          subst hE
          have A1 := hRa.below (below_alloc wa (.cells #[.string (str s)] 9))
          have A2 := sees_new wa #[.string (str s)] 9 (0, 0) 1 1 1 rfl (Nat.le_refl _)
          have hlen : (G ++ ty).length ≤ 40 := by simp; omega
          have Hlen := Lib.hid hGi; clear hGi HT haft
          go_wp2_with (at_builtin; (refine wpList_append_where _ rfl _ _ 22 rfl w2.heap.size 9 (.string ⟨#[]⟩) 1 16 Tryz.underlying22 Tryz.infoStr rfl (by decide) A1.l rfl A2 rfl (by simp [Value.oneCell']) ?q1 ?q2 ?q3 ?_); (case q1 => unfold maxLen; omega); (case q2 => omega); (case q3 => simp; have := hOa.2.le; omega); intro v' w5 hown5 hg5 hwh5 hnil5)
          go_meet
          exact ⟨_, ty ++ [s], _, rfl, by rw [← List.append_assoc]; exact A1.app (zs := [s]) hown5 rfl hg5 hwh5, by have := Hlen.out; simp; omega, (hOa.keep (below_alloc wa (.cells #[.string (str s)] 9))).grown A1.l hg5 (Nat.le_refl _), (hPa.alloc (.cells #[.string (str s)] 9)).next ((below_of_grown A1.l hg5 (Nat.le_refl _) (by simp; have := hOa.2.le; omega)).mono hle)⟩
        · rw [haft] at hOa
          have q3 : ((E : Int) == 0) = false := by simp; omega
          go_wp2
          go_meet
          exact ⟨_, ty, scr, rfl, hRa, by omega, hOa, hPa⟩
      case rest =>
        obtain ⟨tv', ty', scr', rfl, hR, hGi', hO, hP⟩ := hcut
        clear HT hba hca hRa hPa hOa hGi
        by_cases hir : i < r.length
        · obtain ⟨b, hb⟩ := get_b hir
          obtain ⟨ab, habo, hab, hcb⟩ := Hrs.out i b hb
          have hcb := hP.cellat hab hcb
          subst habo
          have q4 : (i : Int) < r.length := by omega
          clear hb
          cases b with
          | true =>
            have H2 := readLine_any wc 0 [51, 46, 50] (by decide) ⟨by decide, by decide⟩ (by decide) hO (by omega)
            rcases te_read 0 (a := [51]) (b := [51, 46, 50]) (by decide) (by decide +kernel) ty' scr' with ⟨hty, g1, g2, g3⟩ | ⟨x, rr, hty, g1, g2, g3⟩
            · rw [g3, g2, g1] at H2
              have HH := Lib.hid H2; clear H2 g1 g2 g3 hty
              go_wp2_with (go_at_call 16; refine (HH.out).mono ?_; rintro e w6 ⟨rfl, hO6, hb6, hc6⟩)
              go_roundg (l.length - (i + 1))
              case measure => omega
              case rel => exact ⟨_, _, i + 1, G, ty', scr', rfl, rfl, by omega, rfl, by go_num, hR.cells hc6, by omega, hO6.more (by omega), hP.next (hb6.mono hle)⟩
            · rw [g3, g2, g1] at H2
              subst hty
              have HH := Lib.hid H2; clear H2 g1 g2 g3
              have hlen : G.length ≤ 40 := by omega
              go_wp2_with (first
                | (go_at_call 16; refine (HH.out).mono ?_; rintro e w6 ⟨rfl, hO6, hb6, hc6⟩; have A1 := (hR.cells hc6).below (below_alloc w6 (.cells #[.string (str x)] 9)); have A2 := sees_new w6 #[.string (str x)] 9 (0, 0) 1 1 1 rfl (Nat.le_refl _))
                | (at_builtin; (refine wpList_append_where _ rfl _ _ 22 rfl w2.heap.size 9 (.string ⟨#[]⟩) 1 16 Tryz.underlying22 Tryz.infoStr rfl (by decide) A1.r rfl A2 rfl (by simp [Value.oneCell']) ?q1 ?q2 ?q3 ?_); (case q1 => unfold maxLen; omega); (case q2 => omega); (case q3 => simp; have := hO6.2.le; omega); intro v' w7 hown7 hg7 hwh7 hnil7))
              go_roundg (l.length - (i + 1))
              case measure => omega
              case rel => exact ⟨_, _, i + 1, G ++ [x], rr, scr', rfl, rfl, by omega, rfl, by go_num, by simpa using (A1.swap.app (zs := [x]) hown7 rfl hg7 hwh7).swap, by simp at hGi' ⊢; omega, ((hO6.keep (below_alloc w6 (.cells #[.string (str x)] 9))).grown A1.r hg7 (Nat.le_refl _)).more (by omega), ((hP.next (hb6.mono hle)).alloc (.cells #[.string (str x)] 9)).next ((below_of_grown A1.r hg7 (Nat.le_refl _) (by simp; have := hO6.2.le; omega)).mono hle)⟩
          | false =>
            go_wp2
            go_roundg (l.length - (i + 1))
            case measure => omega
            case rel => exact ⟨_, _, i + 1, G, ty', scr', rfl, rfl, by omega, rfl, by go_num, hR, by omega, hO.more (by omega), hP⟩
        · have q4 : decide ((i : Int) < r.length) = false := by simp; omega
          go_wp2
          go_roundg (l.length - (i + 1))
          case measure => omega
          case rel => exact ⟨_, _, i + 1, G, ty', scr', rfl, rfl, by omega, rfl, by go_num, hR, by omega, hO.more (by omega), hP⟩
    · obtain rfl : i = l.length := by omega
      have q2 : decide ((l.length : Int) < l.length) = false := by simp
      have hty16 : ty.length ≤ 16 := (TT.bounds (hO.1 _ rfl)).2.2.1
      have HG := Lib.hid (te_get hO (by omega) ⟨by decide, by decide⟩ (by decide))
      obtain ⟨avT, cvT, rfl⟩ := owns_slice hR.l
      obtain ⟨avG, cvG, rfl⟩ := owns_slice hR.r
      have hGl : (G ++ ty).length ≤ 40 := by simp; omega
      have hGl2 : G.length ≤ 40 := by omega
      go_wp2_with fail
      refine (HG.out).mono ?_
      rintro e w6 ⟨av, cv, rfl, hown6, hO6, hb6, hc6⟩
      have hR6 := (hR.cells (hc6.more (by simp))).below (below_alloc w6 (.cells #[.int .i64 ((0 : Nat) : Int), .string (str [51]), .slice av ty.length cv, .string (str scr)] 36))
      have hT6 := Blk.new w6 #[.int .i64 ((0 : Nat) : Int), .string (str [51]), .slice av ty.length cv, .string (str scr)] 36
      have hs6 := sees_of_owns (owns_below hown6 (below_alloc w6 (.cells #[.int .i64 ((0 : Nat) : Int), .string (str [51]), .slice av ty.length cv, .string (str scr)] 36)))
      have hP6 := (hP.next (hb6.mono hle)).alloc (.cells #[.int .i64 ((0 : Nat) : Int), .string (str [51]), .slice av ty.length cv, .string (str scr)] 36)
      obtain ⟨t0, t1, t2, t3, _, _, _, _⟩ := hT6.quad
      have hz6 : w2.heap.size ≤ w6.heap.size := hO6.2.le
      have q5 : decide ((16 : Int) < ty.length) = false := by simp; omega
      clear HG hR hO hP hc6 hown6
      go_wp2_with (at_builtin; (refine wpList_append_where _ rfl _ _ 22 rfl w2.heap.size 9 (.string ⟨#[]⟩) 1 16 Tryz.underlying22 Tryz.infoStr rfl (by decide) hR6.r rfl hs6 rfl (sv_oneCell _) ?q1 ?q2 ?q3 ?_); (case q1 => unfold maxLen; omega); (case q2 => omega); (case q3 => simp; omega); intro v' w7 hown7 hg7 hwh7 hnil7; obtain ⟨avV, cvV, rfl⟩ := owns_slice hown7)
      have hR7 : Rows2 w2.heap.size w7 (.slice avV (G.length + ty.length) cvV) (G ++ ty) (.slice avT (G ++ ty).length cvT) (G ++ ty) := hR6.swap.app (zs := ty) hown7 rfl hg7 hwh7
      have hP7 := hP6.next ((below_of_grown hR6.r hg7 (Nat.le_refl _) (by simp; omega)).mono hle)
      obtain ⟨L, hL⟩ : ∃ L, L = G.length + ty.length := ⟨_, rfl⟩
      obtain ⟨X, hX⟩ : ∃ X, X = G ++ ty := ⟨_, rfl⟩
      have hXL : X.length = L := by rw [hX, hL, List.length_append]
      rw [← hX, hXL, ← hL] at hR7
      rw [← hL]
      have HXL := Lib.hid hXL
      have hL40 : L ≤ 40 := by rw [hL, ← List.length_append]; exact hGl
      clear hX hXL hL hGl hown7 hg7 hwh7 hnil7 hR6 hP6 hs6 hT6 t0 t1 t2 t3 hb6 hO6
      go_loopg [13] L (fun g t wr => ∃ k : Nat, k ≤ L ∧ g = L - k ∧ t = .int .i64 k ∧ Rows2 w2.heap.size wr (.slice avV L cvV) X (.slice avT L cvT) X ∧ Past w.heap.size w wr)
      case atStart => exact ⟨0, Nat.zero_le _, rfl, rfl, hR7, hP7⟩
      case round =>
        obtain ⟨k, hk, rfl, rfl, hR, hP⟩ := hrel
        clear hR7 hP7
        by_cases hkl : k < L
        · have hkX : k < X.length := by rw [HXL.out]; exact hkl
          obtain ⟨_, a1, d1, e1, _, g1⟩ := sees_str (sees_of_owns hR.l)
          cases e1
          obtain ⟨_, a2, d2, e2, _, g2⟩ := sees_str (sees_of_owns hR.r)
          cases e2
          obtain ⟨b1, o1, rfl, hb1, c1⟩ := g1 k hkX hkX
          obtain ⟨b2, o2, rfl, hb2, c2⟩ := g2 k hkX hkX
          obtain ⟨x, hx⟩ : ∃ x, x = X[k] := ⟨_, rfl⟩
          rw [← hx] at c1 c2
          have q6 : (k : Int) < X.length := by omega
          clear hx g1 g2
          go_wp2_with fail
          go_quiet (fail)
          go_wp2
          go_roundg (X.length - (k + 1))
          case measure => omega
          case rel => exact ⟨k + 1, by omega, rfl, by go_num, hR.below (below_drewN _ _ _), hP.drewN _⟩
        · have q6 : decide ((k : Int) < L) = false := by simp; omega
          go_wp2
          go_ret
          exact ⟨rfl, hP.1⟩

theorem lines_any (v u : Value) (l : List (List UInt8)) (r : List Bool) (w : World) (hl : StrsIs w v l) (hr : BoolsIs w u r) :
    Calls Tryz.prog 3 #[v, u] w fun x w' => x = .returned (.bool true) ∧ Below w.heap.size w w' := by
  by_cases h : 40 < l.length
  · exact lines_long v u l w hl h
  · exact lines_some v u l r w hl hr (by omega)
end Go.Proofs.YtjifejbibgimhaaGreatDoor
