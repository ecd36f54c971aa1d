/- Contracts of functions on the way to the claim, proved for every input that their hypotheses let by; no condition of the claim. Joined of: S1 S2 S3 S4 S5 S6 S7 S8 S9 S10 S11 S12 S13 S14 S17 S18 S20. -/
import Derived.Test.YtoefldeoioagmaaGreatDoorG5
import Derived.Test.YtoefldeoioagmaaGreatDoorG3
import Derived.Test.YtoefldeoioagmaaGreatDoorG1

/- pipe: OfPipe, begin, Get. -/
namespace Go.Proofs.YtoefldeoioagmaaGreatDoor
open Go.RowKit

def birthV (m : List UInt8) (n : Int) : Value := .agg #[.string (str m), .int .i64 n]
def pipeV (e r w : Int) (b : List UInt8) : Value := .agg #[.int .i64 e, .int .i64 r, .int .i64 w, .string (str b)]

set_option maxRecDepth 100000 in
theorem idxPipe (w : World) : (Instr.index 152 (.agg usesCells) (.int .i64 (11 : Nat))).run Tryz.prog w = .ok (.agg #[.string (str [112, 105, 112, 101]), .bool true, .bool true, .bool false, .int .i64 (-1)]) w := by kernel_rfl
theorem birth_range {m : List UInt8} {n : Int} (h : birthErr m n = 0) : 0 ≤ n ∧ n ≤ 1073741824 := by
  unfold birthErr at h
  split at h
  · cases h
  · split at h
    · cases h
    · rename_i h1
      simpa using h1
theorem nameOk_pipe (m : List UInt8) (n : Int) (hm : m.length ≤ 1000000000) (h : birthErr m n = 0) : NameOk 11 m n 0 [] :=
  ⟨⟨by decide, hm, birth_range h, by decide, by simp⟩, fun w => by
    have := nameCheck_any 11 (by decide) (by decide) _ idxPipe m n w hm
    rwa [h] at this⟩

set_option maxRecDepth 100000 in
set_option maxHeartbeats 800000 in
theorem of_any (m : List UInt8) (n : Int) (K : Nat) (i : Int) (t : List UInt8) (w : World) :
    Calls Tryz.prog 56 #[birthV m n, .int .i64 K, .int .i64 i, .string (str t)] w fun e w' => e = .returned (nameV K m n i t) ∧ Below w.heap.size w w' := by
  unfold birthV nameV
  have hb := (Blk.new w #[.string (str m), .int .i64 n] 47).alloc (.cells #[.int .i64 0, .string (str []), .int .i64 0, .int .i64 0, .string (str [])] 65)
  obtain ⟨b0, b1, _, _⟩ := hb.two
  have hl := (Blk.new w #[.string (str m), .int .i64 n] 47).lt
  have hn := Blk.new (w.alloc (.cells #[.string (str m), .int .i64 n] 47)) #[.int .i64 K, .string (str m), .int .i64 n, .int .i64 i, .string (str t)] 65
  obtain ⟨n0, n1, n2, n3, n4⟩ := hn.five
  go_enter Tryz.func56, Tryz.ntmps56
  go_wp2
  refine bodyPost_ret (v := .agg #[.int .i64 K, .string (str m), .int .i64 n, .int .i64 i, .string (str t)]) (by simp [results, Tryz.results56, go_sem]) rfl ⟨rfl, ((below_alloc w _).alloc (by simp) _)⟩

set_option maxRecDepth 100000 in
set_option maxHeartbeats 800000 in
theorem ofPipe_any (m : List UInt8) (n : Int) (w : World) :
    Calls Tryz.prog 29 #[birthV m n] w fun e w' => e = .returned (nameV 11 m n 0 []) ∧ Below w.heap.size w w' := by
  have ho := fun w => of_any m n 11 0 [] w
  have Ho := Lib.hid ho; clear ho
  unfold birthV nameV at *
  have hb := (Blk.new w #[.string (str m), .int .i64 n] 47).alloc (.cells #[.int .i64 0, .string (str []), .int .i64 0, .int .i64 0, .string (str [])] 65)
  have hn := Blk.new (w.alloc (.cells #[.string (str m), .int .i64 n] 47)) #[.int .i64 0, .string (str []), .int .i64 0, .int .i64 0, .string (str [])] 65
  have hl := (Blk.new w #[.string (str m), .int .i64 n] 47).lt
  obtain ⟨b0, b1, _, _⟩ := hb.two
  go_enter Tryz.func29, Tryz.ntmps29
  go_wp2_with (go_at_call 56; refine (Ho.out _).mono ?_; rintro e w2 ⟨rfl, hb2⟩; have hn2 := hn.below hb2 (by simp); simp only [World.size_alloc] at hn2; obtain ⟨n0, n1, n2, n3, n4⟩ := hn2.five; obtain ⟨f0, f1, f2, f3, f4⟩ := hn2.five_f)
  have hs := (hn2.stores5 (.int .i64 11) (.string (str m)) (.int .i64 n) (.int .i64 0) (.string (str [])))
  obtain ⟨k0, k1, k2, k3, k4⟩ := hs.five
  refine bodyPost_ret (v := .agg #[.int .i64 11, .string (str m), .int .i64 n, .int .i64 0, .string (str [])]) (by simp [results, Tryz.results29, go_sem, k0, k1, k2, k3, k4]) rfl ⟨rfl, ?_⟩
  exact ((((((below_alloc w _).alloc (by simp) _).trans (hb2.mono (by simp; omega))).setCell (by simp) _).setCell (by simp) _).setCell (by simp) _).setCell (by simp) _ |>.setCell (by simp) _
end Go.Proofs.YtoefldeoioagmaaGreatDoor

/- pipe: begin, Get. -/
namespace Go.Proofs.YtoefldeoioagmaaGreatDoor
open Go.RowKit

def beginErr (epoch : Int) : Int := if withinB epoch 1073741824 = true then 0 else 2

set_option maxRecDepth 100000 in
set_option maxHeartbeats 800000 in
theorem begin_any (vb : Nat) (m : List UInt8) (n : Int) (epoch : Int) (hm : m.length ≤ 1000000000) (hb : birthErr m n = 0) (w : World) :
    Calls Tryz.prog 47 #[.pointer (some ⟨vb, 0, none⟩), birthV m n, .int .i64 epoch] w fun e w' => e = .returned (.int .i64 (beginErr epoch)) ∧ Below w.heap.size w w' := by
  have hc := fun w => birthCheck_any m n w hm
  rw [hb] at hc
  have Hc := Lib.hid hc; clear hc
  unfold birthV
  have hbx := Blk.new w #[.string (str m), .int .i64 n] 47
  obtain ⟨b0, b1, _, _⟩ := hbx.two
  cases he : withinB epoch 1073741824 with
  | true =>
    have hf : beginErr epoch = 0 := by simp [beginErr, he]
    rw [hf]
    go_enter Tryz.func47, Tryz.ntmps47
    go_wp2_with (first | (go_at_call 74; refine (Hc.out _).mono ?_; rintro e w2 ⟨rfl, hb2⟩) | (go_at_call 46; refine (pipeWithin_any epoch 1073741824 _).mono ?_; rw [he]; rintro e w3 ⟨rfl, rfl⟩))
    go_ret
    exact ⟨rfl, (below_alloc w _).trans (hb2.mono (by simp))⟩
  | false =>
    have hf : beginErr epoch = 2 := by simp [beginErr, he]
    rw [hf]
    go_enter Tryz.func47, Tryz.ntmps47
    go_wp2_with (first | (go_at_call 74; refine (Hc.out _).mono ?_; rintro e w2 ⟨rfl, hb2⟩) | (go_at_call 46; refine (pipeWithin_any epoch 1073741824 _).mono ?_; rw [he]; rintro e w3 ⟨rfl, rfl⟩))
    go_ret
    exact ⟨rfl, (below_alloc w _).trans (hb2.mono (by simp))⟩

/-- what Get says of a pipe whose object is cur -/
def pipeGet (cur : Option (List UInt8)) (epoch : Int) : Option (Nat × Nat × Nat × List UInt8) :=
  match pipeDec (cur.getD []) with
  | some (e, r, wr, b) => if (e : Int) = epoch then some (e, r, wr, b) else none
  | none => none
def pipeGetV (cur : Option (List UInt8)) (epoch : Int) : Value :=
  if withinB epoch 1073741824 = true then
    match pipeGet cur epoch with
    | some (e, r, wr, b) => .tuple #[pipeV e r wr b, .int .i64 0]
    | none => .tuple #[pipeV 0 0 0 [], .int .i64 8]
  else .tuple #[pipeV 0 0 0 [], .int .i64 2]

theorem only_stores4 {w : World} {b : Nat} {x y z u : Value} {t : TypeId} (h : Blk w b #[x, y, z, u] t) (x' y' z' u' : Value) :
    Only [t] w ((((w.setCell ⟨b, 0, none⟩ x').setCell ⟨b, 1, none⟩ y').setCell ⟨b, 2, none⟩ z').setCell ⟨b, 3, none⟩ u') := by
  have h1 := h.set 0 x'
  have h2 := h1.set 1 y'
  have h3 := h2.set 2 z'
  exact (((Only.set h (by simp) x').trans (Only.set h1 (by simp) y')).trans (Only.set h2 (by simp) z')).trans (Only.set h3 (by simp) u')

theorem cells_new {w0 w w' : World} {t : TypeId} (h : Cells [] w0 w) (ho : Only [t] w w') (hb : Below w0.heap.size w w') : Cells [] w0 w' := ⟨Nat.le_trans h.1 ho.1, fun b cs t f hk _ => (hb.block b (Array.getElem?_eq_some_iff.1 hk).1).trans (h.2 b cs t f hk (by simp))⟩
theorem stores4_below {w : World} {b : Nat} {x y z u : Value} {t : TypeId} (B : Nat) (_ : Blk w b #[x, y, z, u] t) (hb : B ≤ b) (x' y' z' u' : Value) :
    Below B w ((((w.setCell ⟨b, 0, none⟩ x').setCell ⟨b, 1, none⟩ y').setCell ⟨b, 2, none⟩ z').setCell ⟨b, 3, none⟩ u') := below_stores4 (Below.refl _ _) hb _ _ _ _
theorem objGetT {B : Nat} {w : World} {vb : Nat} {base : Value} {K : Nat} {m : List UInt8} {n i : Int} {t : List UInt8} {cur : Option (List UInt8)} {k : Nat} (hn : NameOk K m n i t) (h : ObjIs B w vb base K m n i t cur k) (hk : k < 1000000) :
    Calls Tryz.prog 52 #[.pointer (some ⟨vb, 0, none⟩), nameV K m n i t] w fun e w' => e = .returned (.tuple #[.string (str (cur.getD [])), .bool cur.isSome]) ∧ ObjIs B w' vb base K m n i t cur (k + 1) ∧ Below B w w' ∧ Cells [] w w' := objGet hn h hk

section
variable {B : Nat} {vb : Nat} {base : Value} {m : List UInt8} {n : Int} {cur : Option (List UInt8)} {k : Nat}
set_option maxRecDepth 100000 in
set_option maxHeartbeats 1600000 in
theorem pipeGet_any (w : World) (epoch : Int) (hm : m.length ≤ 1000000000) (hb : birthErr m n = 0) (hO : ObjIs B w vb base 11 m n 0 [] cur k) (hk : k < 1000000) (hcur : (cur.getD []).length ≤ 1000000000) :
    Calls Tryz.prog 25 #[.pointer (some ⟨vb, 0, none⟩), birthV m n, .int .i64 epoch] w fun e w' => e = .returned (pipeGetV cur epoch) ∧ ObjIs B w' vb base 11 m n 0 [] cur (k + 1) ∧ Below B w w' ∧ Cells [] w w' := by
  have hB := hO.le
  have hN := nameOk_pipe m n hm hb
  have hg := fun w => begin_any vb m n epoch hm hb w
  have Hg := Lib.hid hg; clear hg
  have ho := fun w => ofPipe_any m n w
  have Ho := Lib.hid ho; clear ho
  have HO := Lib.hid hO; clear hO
  have HN := Lib.hid hN; clear hN
  have hd := fun w => pipeDecode_any (cur.getD []) w hcur
  have Hd := Lib.hid hd; clear hd
  have hbx := (Blk.new w #[.string (str m), .int .i64 n] 47).alloc (.cells #[.int .i64 0, .int .i64 0, .int .i64 0, .string (str [])] 28)
  have hpx := Blk.new (w.alloc (.cells #[.string (str m), .int .i64 n] 47)) #[.int .i64 0, .int .i64 0, .int .i64 0, .string (str [])] 28
  have hl0 := (Blk.new w #[.string (str m), .int .i64 n] 47).lt
  obtain ⟨b0, b1, _, _⟩ := hbx.two
  have hB0 : Below B w ((w.alloc (.cells #[.string (str m), .int .i64 n] 47)).alloc (.cells #[.int .i64 0, .int .i64 0, .int .i64 0, .string (str [])] 28)) := ((Below.refl B w).alloc hB _).alloc (by simp; omega) _
  have hO0 := HO.out.keep (((Below.refl _ w).alloc (Nat.le_refl _) (.cells #[.string (str m), .int .i64 n] 47)).alloc (by simp) (.cells #[.int .i64 0, .int .i64 0, .int .i64 0, .string (str [])] 28))
  unfold birthV at *
  cases he : withinB epoch 1073741824 with
  | false =>
    have hf : beginErr epoch = 2 := by simp [beginErr, he]
    have hfin : pipeGetV cur epoch = .tuple #[pipeV 0 0 0 [], .int .i64 2] := by simp [pipeGetV, he]
    rw [hf] at Hg
    rw [hfin]; clear hfin hf
    go_enter Tryz.func25, Tryz.ntmps25
    go_wp2_with (go_at_call 47; refine (Hg.out _).mono ?_; rintro e w2 ⟨rfl, hb2⟩; have hp2 := hpx.below hb2 (by simp); simp only [World.size_alloc] at hp2; obtain ⟨p0, p1, p2, p3, q0, q1, q2, q3⟩ := hp2.quad)
    obtain ⟨_, _, _, _, hs⟩ := hp2.stores4 (.int .i64 0) (.int .i64 0) (.int .i64 0) (.string ⟨#[]⟩)
    obtain ⟨k0, k1, k2, k3, _, _, _, _⟩ := hs.quad
    have hO2 := hO0.keep hb2
    have hBs := below_stores4 (B := B) (hB0.trans (hb2.mono (by simp; omega))) (show B ≤ w.heap.size + 1 by omega) (.int .i64 0) (.int .i64 0) (.int .i64 0) (.string ⟨#[]⟩)
    refine bodyPost_ret (v := .tuple #[.agg #[.int .i64 0, .int .i64 0, .int .i64 0, .string ⟨#[]⟩], .int .i64 2]) (by simp [results, Tryz.results25, go_sem, k0, k1, k2, k3]) rfl ⟨rfl, ?_, hBs, cells_new (((Cells.of_below (below_alloc w _)).trans (Cells.of_below (below_alloc _ _))).trans (Cells.of_below hb2)) (only_stores4 hp2 _ _ _ _) (stores4_below w.heap.size hp2 (by omega) _ _ _ _)⟩
    exact ((hO2.only (only_stores4 hp2 _ _ _ _) (below_stores4 (Below.refl _ _) (show B ≤ w.heap.size + 1 by omega) _ _ _ _) (by decide) (by decide)).more (Nat.le_succ k))
  | true =>
    have hf : beginErr epoch = 0 := by simp [beginErr, he]
    rw [hf] at Hg
    clear hf
    cases hdv : pipeDec (cur.getD []) with
    | none =>
      have Hf : Hid (pipeGetV cur epoch = .tuple #[pipeV 0 0 0 [], .int .i64 8]) := by show _ = _; unfold pipeGetV; rw [if_pos he]; unfold pipeGet; rw [hdv]
      rw [hdv] at Hd
      simp only [decVal] at Hd
      clear hdv
      go_enter Tryz.func25, Tryz.ntmps25
      go_wp2_with (first
      | (go_at_call 47; refine (Hg.out _).mono ?_; rintro e w2 ⟨rfl, hb2⟩; have hp2 := hpx.below hb2 (by simp); have hx2 := hbx.below hb2 (by simp; omega); simp only [World.size_alloc] at hp2; obtain ⟨x0, x1, _, _⟩ := hx2.two)
      | (go_at_call 29; refine (Ho.out _).mono ?_; rintro e w3 ⟨rfl, hb3⟩; have hp3 := hp2.below hb3 hp2.lt; have hO3 := (hO0.keep hb2).keep hb3)
      | (go_at_call 52; refine (objGetT HN.out hO3 hk).mono ?_; rintro e w4 ⟨rfl, hO4, hb4, hc4⟩; have hp4 := hc4.blk hp3 (by simp))
      | (go_at_call 13; refine (Hd.out _).mono ?_; rintro e w5 ⟨rfl, hb5⟩; have hp5 := hp4.below hb5 hp4.lt; have hl5 := hp5.lt; obtain ⟨p0, p1, p2, p3, q0, q1, q2, q3⟩ := hp5.quad))
      obtain ⟨_, _, _, _, hs⟩ := hp5.stores4 (.int .i64 0) (.int .i64 0) (.int .i64 0) (.string ⟨#[]⟩)
      obtain ⟨k0, k1, k2, k3, _, _, _, _⟩ := (hs.alloc (.cells #[.int .i64 0, .int .i64 0, .int .i64 0, .string (str [])] 28)).quad
      have hO5 := hO4.keep hb5
      have hB5 : Below B w w5 := (((hB0.trans (hb2.mono (by simp; omega))).trans (hb3.mono (by have := (hO0.keep hb2).le; omega))).trans hb4).trans (hb5.mono hO4.le)
      have hC5 : Cells [] w w5 := (((((Cells.of_below (below_alloc w _)).trans (Cells.of_below (below_alloc _ _))).trans (Cells.of_below hb2)).trans (Cells.of_below hb3)).trans hc4).trans (Cells.of_below hb5)
      have hBs := below_stores4 (B := B) hB5 (show B ≤ w.heap.size + 1 by omega) (.int .i64 0) (.int .i64 0) (.int .i64 0) (.string ⟨#[]⟩)
      have hCs := cells_new hC5 (only_stores4 hp5 (.int .i64 0) (.int .i64 0) (.int .i64 0) (.string ⟨#[]⟩)) (stores4_below w.heap.size hp5 (by omega) (.int .i64 0) (.int .i64 0) (.int .i64 0) (.string ⟨#[]⟩))
      have hOs := hO5.only (only_stores4 hp5 (.int .i64 0) (.int .i64 0) (.int .i64 0) (.string ⟨#[]⟩)) (below_stores4 (Below.refl _ _) (show B ≤ w.heap.size + 1 by omega) (.int .i64 0) (.int .i64 0) (.int .i64 0) (.string ⟨#[]⟩)) (by decide) (by decide)
      refine bodyPost_ret (v := .tuple #[.agg #[.int .i64 0, .int .i64 0, .int .i64 0, .string ⟨#[]⟩], .int .i64 8]) (by simp [results, Tryz.results25, go_sem, k0, k1, k2, k3]) rfl ⟨by rw [Hf.out]; rfl, hOs.keep (below_alloc _ _), hBs.alloc hOs.le _, hCs.trans (Cells.of_below (below_alloc _ _))⟩
    | some q =>
      obtain ⟨e, r, wr, b⟩ := q
      by_cases hep : (e : Int) = epoch
      · have Hf : Hid (pipeGetV cur epoch = .tuple #[pipeV e r wr b, .int .i64 0]) := by show _ = _; unfold pipeGetV; rw [if_pos he]; unfold pipeGet; rw [hdv]; simp only [if_pos hep]
        rw [hdv] at Hd
        simp only [decVal] at Hd
        clear hdv
        subst hep
        go_enter Tryz.func25, Tryz.ntmps25
        go_wp2_with (first
      | (go_at_call 47; refine (Hg.out _).mono ?_; rintro e w2 ⟨rfl, hb2⟩; have hp2 := hpx.below hb2 (by simp); have hx2 := hbx.below hb2 (by simp; omega); simp only [World.size_alloc] at hp2; obtain ⟨x0, x1, _, _⟩ := hx2.two)
      | (go_at_call 29; refine (Ho.out _).mono ?_; rintro e w3 ⟨rfl, hb3⟩; have hp3 := hp2.below hb3 hp2.lt; have hO3 := (hO0.keep hb2).keep hb3)
      | (go_at_call 52; refine (objGetT HN.out hO3 hk).mono ?_; rintro e w4 ⟨rfl, hO4, hb4, hc4⟩; have hp4 := hc4.blk hp3 (by simp))
      | (go_at_call 13; refine (Hd.out _).mono ?_; rintro e w5 ⟨rfl, hb5⟩; have hp5 := hp4.below hb5 hp4.lt; have hl5 := hp5.lt; obtain ⟨p0, p1, p2, p3, q0, q1, q2, q3⟩ := hp5.quad))
        obtain ⟨_, _, _, _, hs⟩ := hp5.stores4 (.int .i64 e) (.int .i64 r) (.int .i64 wr) (.string (str b))
        obtain ⟨k0, k1, k2, k3, _, _, _, _⟩ := (hs.alloc (.cells #[.int .i64 e, .int .i64 r, .int .i64 wr, .string (str b)] 28)).quad
        have hO5 := hO4.keep hb5
        have hB5 : Below B w w5 := (((hB0.trans (hb2.mono (by simp; omega))).trans (hb3.mono (by have := (hO0.keep hb2).le; omega))).trans hb4).trans (hb5.mono hO4.le)
        have hC5 : Cells [] w w5 := (((((Cells.of_below (below_alloc w _)).trans (Cells.of_below (below_alloc _ _))).trans (Cells.of_below hb2)).trans (Cells.of_below hb3)).trans hc4).trans (Cells.of_below hb5)
        have hBs := below_stores4 (B := B) hB5 (show B ≤ w.heap.size + 1 by omega) (.int .i64 e) (.int .i64 r) (.int .i64 wr) (.string (str b))
        have hCs := cells_new hC5 (only_stores4 hp5 (.int .i64 e) (.int .i64 r) (.int .i64 wr) (.string (str b))) (stores4_below w.heap.size hp5 (by omega) (.int .i64 e) (.int .i64 r) (.int .i64 wr) (.string (str b)))
        have hOs := hO5.only (only_stores4 hp5 (.int .i64 e) (.int .i64 r) (.int .i64 wr) (.string (str b))) (below_stores4 (Below.refl _ _) (show B ≤ w.heap.size + 1 by omega) (.int .i64 e) (.int .i64 r) (.int .i64 wr) (.string (str b))) (by decide) (by decide)
        refine bodyPost_ret (v := .tuple #[.agg #[.int .i64 e, .int .i64 r, .int .i64 wr, .string (str b)], .int .i64 0]) (by simp [results, Tryz.results25, go_sem, k0, k1, k2, k3]) rfl ⟨by rw [Hf.out]; rfl, hOs.keep (below_alloc _ _), hBs.alloc hOs.le _, hCs.trans (Cells.of_below (below_alloc _ _))⟩
      · have Hf : Hid (pipeGetV cur epoch = .tuple #[pipeV 0 0 0 [], .int .i64 8]) := by show _ = _; unfold pipeGetV; rw [if_pos he]; unfold pipeGet; rw [hdv]; simp only [if_neg hep]
        have hq1 : ((e : Int) == epoch) = false := by simpa using hep
        have hq2 : ((e : Int) != epoch) = true := by simpa using hep
        rw [hdv] at Hd
        simp only [decVal] at Hd
        clear hdv
        go_enter Tryz.func25, Tryz.ntmps25
        go_wp2_with (first
      | (go_at_call 47; refine (Hg.out _).mono ?_; rintro e w2 ⟨rfl, hb2⟩; have hp2 := hpx.below hb2 (by simp); have hx2 := hbx.below hb2 (by simp; omega); simp only [World.size_alloc] at hp2; obtain ⟨x0, x1, _, _⟩ := hx2.two)
      | (go_at_call 29; refine (Ho.out _).mono ?_; rintro e w3 ⟨rfl, hb3⟩; have hp3 := hp2.below hb3 hp2.lt; have hO3 := (hO0.keep hb2).keep hb3)
      | (go_at_call 52; refine (objGetT HN.out hO3 hk).mono ?_; rintro e w4 ⟨rfl, hO4, hb4, hc4⟩; have hp4 := hc4.blk hp3 (by simp))
      | (go_at_call 13; refine (Hd.out _).mono ?_; rintro e w5 ⟨rfl, hb5⟩; have hp5 := hp4.below hb5 hp4.lt; have hl5 := hp5.lt; obtain ⟨p0, p1, p2, p3, q0, q1, q2, q3⟩ := hp5.quad))
        obtain ⟨_, _, _, _, hs⟩ := hp5.stores4 (.int .i64 0) (.int .i64 0) (.int .i64 0) (.string ⟨#[]⟩)
        obtain ⟨k0, k1, k2, k3, _, _, _, _⟩ := (hs.alloc (.cells #[.int .i64 e, .int .i64 r, .int .i64 wr, .string (str b)] 28)).quad
        have hO5 := hO4.keep hb5
        have hB5 : Below B w w5 := (((hB0.trans (hb2.mono (by simp; omega))).trans (hb3.mono (by have := (hO0.keep hb2).le; omega))).trans hb4).trans (hb5.mono hO4.le)
        have hC5 : Cells [] w w5 := (((((Cells.of_below (below_alloc w _)).trans (Cells.of_below (below_alloc _ _))).trans (Cells.of_below hb2)).trans (Cells.of_below hb3)).trans hc4).trans (Cells.of_below hb5)
        have hBs := below_stores4 (B := B) hB5 (show B ≤ w.heap.size + 1 by omega) (.int .i64 0) (.int .i64 0) (.int .i64 0) (.string ⟨#[]⟩)
        have hCs := cells_new hC5 (only_stores4 hp5 (.int .i64 0) (.int .i64 0) (.int .i64 0) (.string ⟨#[]⟩)) (stores4_below w.heap.size hp5 (by omega) (.int .i64 0) (.int .i64 0) (.int .i64 0) (.string ⟨#[]⟩))
        have hOs := hO5.only (only_stores4 hp5 (.int .i64 0) (.int .i64 0) (.int .i64 0) (.string ⟨#[]⟩)) (below_stores4 (Below.refl _ _) (show B ≤ w.heap.size + 1 by omega) (.int .i64 0) (.int .i64 0) (.int .i64 0) (.string ⟨#[]⟩)) (by decide) (by decide)
        refine bodyPost_ret (v := .tuple #[.agg #[.int .i64 0, .int .i64 0, .int .i64 0, .string ⟨#[]⟩], .int .i64 8]) (by simp [results, Tryz.results25, go_sem, k0, k1, k2, k3]) rfl ⟨by rw [Hf.out]; rfl, hOs.keep (below_alloc _ _), hBs.alloc hOs.le _, hCs.trans (Cells.of_below (below_alloc _ _))⟩
end
end Go.Proofs.YtoefldeoioagmaaGreatDoor

/- pipe.write. -/
namespace Go.Proofs.YtoefldeoioagmaaGreatDoor
open Go.RowKit

/-- what write leaves of the object, and its error -/
def pipeWriteCur (cur : Option (List UInt8)) (e r wr : Int) (b : List UInt8) : Option (List UInt8) :=
  if r + wr = 0 then none else if pipeCheck e r wr b.length = 0 then some (pipeBytes e r wr b) else cur
def pipeWriteErr (e r wr : Int) (b : List UInt8) : Int := if r + wr = 0 then 0 else pipeCheck e r wr b.length
theorem pipeBytes_le {e r wr : Int} {b : List UInt8} (h : pipeCheck e r wr b.length = 0) : (pipeBytes e r wr b).length ≤ 400 := by
  obtain ⟨h1, h2, h3, _, h5⟩ := pipeCheck_range h
  unfold pipeBytes
  have l1 := natBytes_len64 (n := e.toNat) (by omega)
  have l2 := natBytes_len64 (n := r.toNat) (by omega)
  have l3 := natBytes_len64 (n := wr.toNat) (by omega)
  have l4 := natBytes_len64 (n := b.length) (by omega)
  simp only [List.length_append]
  omega

section
variable {B : Nat} {vb : Nat} {base : Value} {m : List UInt8} {n : Int} {cur : Option (List UInt8)} {k : Nat}
set_option maxRecDepth 100000 in
set_option maxHeartbeats 1600000 in
theorem pipeWrite_any (w : World) (e r wr : Int) (b : List UInt8) (hr : -1000 ≤ r ∧ r ≤ 1000) (hwr : -1000 ≤ wr ∧ wr ≤ 1000) (hm : m.length ≤ 1000000000) (hb : birthErr m n = 0) (hbl : b.length ≤ 1000000000) (hO : ObjIs B w vb base 11 m n 0 [] cur k) (hk : k < 1000000) :
    Calls Tryz.prog 48 #[.pointer (some ⟨vb, 0, none⟩), birthV m n, pipeV e r wr b] w fun x w' => x = .returned (.int .i64 (pipeWriteErr e r wr b)) ∧ ObjIs B w' vb base 11 m n 0 [] (pipeWriteCur cur e r wr b) (k + 1) ∧ Below B w w' ∧ Cells [99] w w' := by
  have hB := hO.le
  have hN := nameOk_pipe m n hm hb
  have HN := Lib.hid hN; clear hN
  have ho := fun w => ofPipe_any m n w
  have Ho := Lib.hid ho; clear ho
  have he := fun w => pipeEncode_any e r wr b w hbl
  have He := Lib.hid he; clear he
  have hbx := (Blk.new w #[.string (str m), .int .i64 n] 47).alloc (.cells #[.int .i64 e, .int .i64 r, .int .i64 wr, .string (str b)] 28)
  have hpx := Blk.new (w.alloc (.cells #[.string (str m), .int .i64 n] 47)) #[.int .i64 e, .int .i64 r, .int .i64 wr, .string (str b)] 28
  have hl0 := (Blk.new w #[.string (str m), .int .i64 n] 47).lt
  obtain ⟨b0, b1, _, _⟩ := hbx.two
  obtain ⟨p0, p1, p2, p3, _, _, _, _⟩ := hpx.quad
  simp only [World.size_alloc] at p0 p1 p2 p3
  have hB0 : Below B w ((w.alloc (.cells #[.string (str m), .int .i64 n] 47)).alloc (.cells #[.int .i64 e, .int .i64 r, .int .i64 wr, .string (str b)] 28)) := ((Below.refl B w).alloc hB _).alloc (by simp; omega) _
  have hBb : Below w.heap.size w ((w.alloc (.cells #[.string (str m), .int .i64 n] 47)).alloc (.cells #[.int .i64 e, .int .i64 r, .int .i64 wr, .string (str b)] 28)) := ((Below.refl _ w).alloc (Nat.le_refl _) _).alloc (by simp) _
  have hO0 := hO.keep hBb
  have HO0 := Lib.hid hO0; clear hO0 hO
  unfold birthV pipeV at *
  by_cases h0 : r + wr = 0
  · have hfe : Hid (pipeWriteErr e r wr b = 0) := by show _ = _; unfold pipeWriteErr; rw [if_pos h0]
    have hfc : Hid (pipeWriteCur cur e r wr b = none) := by show _ = _; unfold pipeWriteCur; rw [if_pos h0]
    go_enter Tryz.func48, Tryz.ntmps48
    go_wp2_with (first
      | (go_at_call 29; refine (Ho.out _).mono ?_; rintro x w3 ⟨rfl, hb3⟩; have hO3 := HO0.out.keep hb3)
      | (go_at_call 75; refine (objDelete HN.out hO3 hk).mono ?_; rintro x w4 ⟨rfl, hO4, hb4, hc4⟩))
    go_ret
    refine ⟨by rw [hfe.out]; rfl, by rw [hfc.out]; exact hO4, (hB0.trans (hb3.mono HO0.out.le)).trans hb4, ((Cells.of_below hBb).trans (Cells.of_below hb3)).trans hc4⟩
  · cases hc : pipeCheck e r wr b.length with
    | zero =>
      have hfe : Hid (pipeWriteErr e r wr b = 0) := by show _ = _; unfold pipeWriteErr; rw [if_neg h0, hc]; rfl
      have hfc : Hid (pipeWriteCur cur e r wr b = some (pipeBytes e r wr b)) := by show _ = _; unfold pipeWriteCur; rw [if_neg h0, if_pos hc]
      have hle := pipeBytes_le hc
      have hen : pipeEnc e r wr b = pipeBytes e r wr b := by unfold pipeEnc; rw [if_pos hc]
      rw [hen, hc] at He
      clear hen hc
      go_enter Tryz.func48, Tryz.ntmps48
      go_wp2_with (first
        | (go_at_call 10; refine (He.out _).mono ?_; rintro x w2 ⟨rfl, hb2⟩; have hx2 := hbx.below hb2 (by simp; omega); obtain ⟨x0, x1, _, _⟩ := hx2.two)
        | (go_at_call 29; refine (Ho.out _).mono ?_; rintro x w3 ⟨rfl, hb3⟩; have hO3 := (HO0.out.keep hb2).keep hb3)
        | (go_at_call 76; refine (objSet HN.out hO3 hk _ (Nat.le_trans hle (by decide))).mono ?_; rintro x w4 ⟨rfl, hO4, hb4, hc4⟩))
      go_ret
      refine ⟨by rw [hfe.out]; rfl, by rw [hfc.out]; exact hO4, ((hB0.trans (hb2.mono HO0.out.le)).trans (hb3.mono (HO0.out.keep hb2).le)).trans hb4, (((Cells.of_below hBb).trans (Cells.of_below hb2)).trans (Cells.of_below hb3)).trans hc4⟩
    | succ q =>
      have hq1 : (((q + 1 : Nat) : Int) == 0) = false := by simp; omega
      have hq2 : (((q + 1 : Nat) : Int) != 0) = true := by simp; omega
      have hfe : Hid (pipeWriteErr e r wr b = ((q + 1 : Nat) : Int)) := by show _ = _; unfold pipeWriteErr; rw [if_neg h0, hc]
      have hfc : Hid (pipeWriteCur cur e r wr b = cur) := by show _ = _; unfold pipeWriteCur; rw [if_neg h0, if_neg (by omega)]
      rw [hc] at He
      clear hc
      obtain ⟨z, hz⟩ : ∃ z : Int, z = ((q + 1 : Nat) : Int) := ⟨_, rfl⟩
      rw [← hz] at He hq1 hq2 hfe
      clear hz
      go_enter Tryz.func48, Tryz.ntmps48
      go_wp2_with (go_at_call 10; refine (He.out _).mono ?_; rintro x w2 ⟨rfl, hb2⟩)
      go_ret
      refine ⟨by rw [hfe.out]; rfl, by rw [hfc.out]; exact (HO0.out.keep hb2).more (Nat.le_succ k), hB0.trans (hb2.mono HO0.out.le), (Cells.of_below hBb).trans (Cells.of_below hb2)⟩
end
end Go.Proofs.YtoefldeoioagmaaGreatDoor

/- pipe.change. -/
namespace Go.Proofs.YtoefldeoioagmaaGreatDoor
open Go.RowKit

theorem Only.cells {ts : List TypeId} {w w' : World} (h : Only ts w w') : Cells ts w w' := ⟨h.1, fun b cs t f hb ht => h.2 b _ hb (fun _ _ _ e => by cases e; exact ht)⟩

/-- cells of blocks below D are as they were, but for those of some types -/
def KeepD (D : Nat) (ts : List TypeId) (w w' : World) : Prop := ∀ (b : Nat) (cs : Array Value) (t : TypeId) (f : Nat × Nat), b < D → w.heap[b]? = some (.cells cs t f) → t ∉ ts → w'.heap[b]? = some (.cells cs t f)
theorem KeepD.of_cells {D : Nat} {ts : List TypeId} {w w' : World} (h : Cells [] w w') : KeepD D ts w w' := fun b cs t f _ hb _ => h.2 b cs t f hb (by simp)
theorem KeepD.step {D : Nat} {ts : List TypeId} {w w1 w2 : World} (h : Cells [] w w1) (hb : Below D w1 w2) : KeepD D ts w w2 := fun b cs t f hD hk _ => (hb.block b hD).trans (h.2 b cs t f hk (by simp))
theorem KeepD.then {D : Nat} {ts : List TypeId} {a b c : World} (h : KeepD D ts a b) (hc : Cells ts b c) : KeepD D ts a c := fun k cs t f hD hk ht => hc.2 k cs t f (h k cs t f hD hk ht) ht
theorem KeepD.more {D : Nat} {ts : List TypeId} {a b : World} (h : KeepD D [] a b) : KeepD D ts a b := fun k cs t f hD hk _ => h k cs t f hD hk (by simp)
theorem cells_of_keep {ts : List TypeId} {w W w' : World} (hs : Below 0 w w') (hW : Below w.heap.size w W) (h : KeepD w.heap.size ts W w') : Cells ts w w' := ⟨hs.size, fun b cs t f hb ht => h b cs t f (Array.getElem?_eq_some_iff.1 hb).1 ((hW.block b (Array.getElem?_eq_some_iff.1 hb).1).trans hb) ht⟩
/-- what is kept, and that all is kept where there is an error -/
def KeepE (D : Nat) (er : Int) (w w' : World) : Prop := KeepD D [99] w w' ∧ (er ≠ 0 → KeepD D [] w w')
def CellsE (er : Int) (w w' : World) : Prop := Cells [99] w w' ∧ (er ≠ 0 → Cells [] w w')
theorem KeepE.all {D : Nat} {er : Int} {w w' : World} (h : KeepD D [] w w') : KeepE D er w w' := ⟨h.more, fun _ => h⟩
theorem KeepE.ok {D : Nat} {er : Int} {w w' : World} (he : er = 0) (h : KeepD D [99] w w') : KeepE D er w w' := ⟨h, fun hn => absurd he hn⟩
theorem cellsE_of_keep {er : Int} {w W w' : World} (hs : Below 0 w w') (hW : Below w.heap.size w W) (h : KeepE w.heap.size er W w') : CellsE er w w' := ⟨cells_of_keep hs hW h.1, fun he => cells_of_keep hs hW (h.2 he)⟩
theorem pp_ok {e r wr : Nat} {b : List UInt8} (he : e ≤ 1073741824) (hr : r ≤ 64) (hw : wr ≤ 64) (h : r + wr ≠ 0) (hb : b.length ≤ 256) : pipeCheck e r wr b.length = 0 := by
  unfold pipeCheck
  rw [if_neg (by omega), if_neg (by omega), if_neg (by omega)]
theorem pipeWriteErr_ok {e r wr : Nat} {b : List UInt8} (he : e ≤ 1073741824) (hr : r ≤ 64) (hw : wr ≤ 64) (hb : b.length ≤ 256) : pipeWriteErr e r wr b = 0 := by
  unfold pipeWriteErr
  by_cases h : (r : Int) + wr = 0
  · rw [if_pos h]
  · rw [if_neg h, pp_ok he hr hw (by omega) hb]; rfl

section
variable {B : Nat} {vb : Nat} {base : Value} {m : List UInt8} {n : Int} {cur : Option (List UInt8)} {k : Nat}
set_option maxRecDepth 100000 in
set_option maxHeartbeats 1600000 in
/-- where Get fails -/
theorem change_err (w : World) (epoch : Int) (fv : Value) (z : Int) (hz : z ≠ 0) (hm : m.length ≤ 1000000000) (hb : birthErr m n = 0) (hO : ObjIs B w vb base 11 m n 0 [] cur k) (hk : k < 1000000) (hcur : (cur.getD []).length ≤ 1000000000)
    (hg : pipeGetV cur epoch = .tuple #[pipeV 0 0 0 [], .int .i64 z]) :
    Calls Tryz.prog 49 #[.pointer (some ⟨vb, 0, none⟩), birthV m n, .int .i64 epoch, fv] w fun x w' => x = .returned (.int .i64 z) ∧ ObjIs B w' vb base 11 m n 0 [] cur (k + 1) ∧ Below B w w' ∧ Cells [] w w' := by
  have hB := hO.le
  have hbx := Blk.new w #[.string (str m), .int .i64 n] 47
  obtain ⟨b0, b1, _, _⟩ := hbx.two
  have hO0 := hO.keep (below_alloc w (.cells #[.string (str m), .int .i64 n] 47))
  have hp := pipeGet_any _ epoch hm hb hO0 hk hcur
  rw [hg] at hp
  have Hp := Lib.hid hp; clear hp hO hO0 hg
  have hz1 : (z == 0) = false := by simpa using hz
  have hz2 : (z != 0) = true := by simpa using hz
  have hB0 : Below B w (w.alloc (.cells #[.string (str m), .int .i64 n] 47)) := (Below.refl B w).alloc hB _
  unfold birthV pipeV at *
  go_enter Tryz.func49, Tryz.ntmps49
  go_wp2_with (go_at_call 25; refine (Hp.out).mono ?_; rintro x w2 ⟨rfl, hO2, hb2, hc2⟩)
  go_ret
  exact ⟨rfl, hO2.keep (below_alloc w2 _), (hB0.trans hb2).alloc hO2.le _, ((Cells.of_below (below_alloc w _)).trans hc2).trans (Cells.of_below (below_alloc w2 _))⟩

set_option maxRecDepth 100000 in
set_option maxHeartbeats 1600000 in
/-- where Get gives a pipe, and the function changes nothing or fails -/
theorem change_not (w : World) (epoch : Int) (fn : Nat) (caps : Array Value) (hent : ∀ args w, (callFunc fn args).run Tryz.prog w = .ok (.enter fn args) w) (e r wr : Nat) (b : List UInt8) (ch : Bool) (er : Int) (hne : er ≠ 0 ∨ ch = false) (tv : TypeId) (htv : tv ≠ 99 ∧ tv ≠ 78) (Post : World → Prop)
    (hm : m.length ≤ 1000000000) (hb : birthErr m n = 0) (hO : ObjIs B w vb base 11 m n 0 [] cur k) (hk : k < 1000000) (hcur : (cur.getD []).length ≤ 1000000000)
    (hg : pipeGetV cur epoch = .tuple #[pipeV e r wr b, .int .i64 0])
    (hf : ∀ w1 pb, Cells [] w w1 → w.heap.size ≤ pb → Blk w1 pb #[.int .i64 e, .int .i64 r, .int .i64 wr, .string (str b)] 28 → B ≤ w1.heap.size → Calls Tryz.prog fn (#[.pointer (some ⟨pb, 0, none⟩)] ++ caps) w1 fun x w2 => x = .returned (.tuple #[.bool ch, .int .i64 er]) ∧ Post w2 ∧ Only [28, tv] w1 w2 ∧ Below B w1 w2) :
    Calls Tryz.prog 49 #[.pointer (some ⟨vb, 0, none⟩), birthV m n, .int .i64 epoch, .func (.func fn) #[] caps] w fun x w' => x = .returned (.int .i64 er) ∧ ObjIs B w' vb base 11 m n 0 [] cur (k + 1) ∧ Below B w w' ∧ Post w' ∧ Cells [28, tv] w w' := by
  have hB := hO.le
  have hbx := Blk.new w #[.string (str m), .int .i64 n] 47
  obtain ⟨b0, b1, _, _⟩ := hbx.two
  have hO0 := hO.keep (below_alloc w (.cells #[.string (str m), .int .i64 n] 47))
  have hp := pipeGet_any _ epoch hm hb hO0 hk hcur
  rw [hg] at hp
  have Hp := Lib.hid hp; clear hp hO hO0 hg
  have Hf := Lib.hid hf; clear hf
  have Htv := Lib.hid htv; clear htv
  have Hne := Lib.hid hne; clear hne
  have hB0 : Below B w (w.alloc (.cells #[.string (str m), .int .i64 n] 47)) := (Below.refl B w).alloc hB _
  unfold birthV pipeV at *
  go_enter Tryz.func49, Tryz.ntmps49
  go_wp2_with (go_at_call 25; refine (Hp.out).mono ?_; rintro x w2 ⟨rfl, hO2, hb2, hc2⟩)
  have hCC := ((Cells.of_below (ts := []) (below_alloc w (.cells #[.string (str m), .int .i64 n] 47))).trans hc2).trans (Cells.of_below (below_alloc w2 (.cells #[.int .i64 e, .int .i64 r, .int .i64 wr, .string (str b)] 28)))
  have hsz : w.heap.size ≤ w2.heap.size := by have := hc2.1; simp at this; omega
  have hBz : B ≤ (w2.alloc (.cells #[.int .i64 e, .int .i64 r, .int .i64 wr, .string (str b)] 28)).heap.size := by have := hO2.le; simp; omega
  refine (Hf.out _ _ hCC hsz (Blk.new w2 _ _) hBz).mono ?_
  rintro x w3 ⟨rfl, hP3, ho3, hb3⟩
  have t1 : (99 : TypeId) ∉ [28, tv] := by
    intro h
    rcases List.mem_cons.1 h with h | h
    · revert h; decide
    · simp at h; exact Htv.out.1 h.symm
  have t2 : (78 : TypeId) ∉ [28, tv] := by
    intro h
    rcases List.mem_cons.1 h with h | h
    · revert h; decide
    · simp at h; exact Htv.out.2 h.symm
  have hO3 := (hO2.keep (below_alloc w2 (.cells #[.int .i64 e, .int .i64 r, .int .i64 wr, .string (str b)] 28))).only ho3 hb3 t1 t2
  have hB3 : Below B w w3 := ((hB0.trans hb2).alloc hO2.le _).trans hb3
  have hC3 := (hCC.more (fun t h => by simp at h)).trans ho3.cells
  have HO3 := Lib.hid hO3; clear hO3 hO2 t1 t2 hCC ho3
  by_cases her : er = 0
  · subst her
    have hch : ch = false := Hne.out.resolve_left (fun h => h rfl)
    subst hch
    go_wp2
    go_ret
    exact ⟨rfl, HO3.out, hB3, hP3, hC3⟩
  · have q1 : (er == 0) = false := by simpa using her
    have q2 : (er != 0) = true := by simpa using her
    go_wp2
    go_ret
    exact ⟨rfl, HO3.out, hB3, hP3, hC3⟩

set_option maxRecDepth 100000 in
set_option maxHeartbeats 1600000 in
/-- where Get gives a pipe, and the function changes it -/
theorem change_do (w : World) (epoch : Int) (fn : Nat) (caps : Array Value) (hent : ∀ args w, (callFunc fn args).run Tryz.prog w = .ok (.enter fn args) w) (e r wr : Nat) (b : List UInt8) (e' r' wr' : Int) (b' : List UInt8) (tv : TypeId) (htv : tv ≠ 99 ∧ tv ≠ 78) (Post : World → Prop)
    (hpost : ∀ a c, Post a → Cells [99] a c → Post c)
    (hr : -1000 ≤ r' ∧ r' ≤ 1000) (hwr : -1000 ≤ wr' ∧ wr' ≤ 1000) (hbl : b'.length ≤ 1000000000)
    (hm : m.length ≤ 1000000000) (hb : birthErr m n = 0) (hO : ObjIs B w vb base 11 m n 0 [] cur k) (hk : k < 999999) (hcur : (cur.getD []).length ≤ 1000000000)
    (hg : pipeGetV cur epoch = .tuple #[pipeV e r wr b, .int .i64 0])
    (hf : ∀ w1 pb, Cells [] w w1 → w.heap.size ≤ pb → Blk w1 pb #[.int .i64 e, .int .i64 r, .int .i64 wr, .string (str b)] 28 → B ≤ w1.heap.size → Calls Tryz.prog fn (#[.pointer (some ⟨pb, 0, none⟩)] ++ caps) w1 fun x w2 => x = .returned (.tuple #[.bool true, .int .i64 0]) ∧ Post w2 ∧ Blk w2 pb #[.int .i64 e', .int .i64 r', .int .i64 wr', .string (str b')] 28 ∧ Only [28, tv] w1 w2 ∧ Below B w1 w2)
    (hbt : 47 ≠ tv) :
    Calls Tryz.prog 49 #[.pointer (some ⟨vb, 0, none⟩), birthV m n, .int .i64 epoch, .func (.func fn) #[] caps] w fun x w' => x = .returned (.int .i64 (pipeWriteErr e' r' wr' b')) ∧ ObjIs B w' vb base 11 m n 0 [] (pipeWriteCur cur e' r' wr' b') (k + 2) ∧ Below B w w' ∧ Post w' ∧ Cells [28, tv, 99] w w' := by
  have hB := hO.le
  have hbx := Blk.new w #[.string (str m), .int .i64 n] 47
  obtain ⟨b0, b1, _, _⟩ := hbx.two
  have hO0 := hO.keep (below_alloc w (.cells #[.string (str m), .int .i64 n] 47))
  have hp := pipeGet_any _ epoch hm hb hO0 (by omega) hcur
  rw [hg] at hp
  have Hp := Lib.hid hp; clear hp hO hO0 hg
  have Hf := Lib.hid hf; clear hf
  have Htv := Lib.hid htv; clear htv
  have hB0 : Below B w (w.alloc (.cells #[.string (str m), .int .i64 n] 47)) := (Below.refl B w).alloc hB _
  unfold birthV pipeV at *
  go_enter Tryz.func49, Tryz.ntmps49
  go_wp2_with (go_at_call 25; refine (Hp.out).mono ?_; rintro x w2 ⟨rfl, hO2, hb2, hc2⟩)
  have hCC := ((Cells.of_below (ts := []) (below_alloc w (.cells #[.string (str m), .int .i64 n] 47))).trans hc2).trans (Cells.of_below (below_alloc w2 (.cells #[.int .i64 e, .int .i64 r, .int .i64 wr, .string (str b)] 28)))
  have hsz : w.heap.size ≤ w2.heap.size := by have := hc2.1; simp at this; omega
  have hBz : B ≤ (w2.alloc (.cells #[.int .i64 e, .int .i64 r, .int .i64 wr, .string (str b)] 28)).heap.size := by have := hO2.le; simp; omega
  refine (Hf.out _ _ hCC hsz (Blk.new w2 _ _) hBz).mono ?_
  rintro x w3 ⟨rfl, hP3, hk3, ho3, hb3⟩
  have t1 : (99 : TypeId) ∉ [28, tv] := by
    intro h
    rcases List.mem_cons.1 h with h | h
    · revert h; decide
    · simp at h; exact Htv.out.1 h.symm
  have t2 : (78 : TypeId) ∉ [28, tv] := by
    intro h
    rcases List.mem_cons.1 h with h | h
    · revert h; decide
    · simp at h; exact Htv.out.2 h.symm
  have hO3 := (hO2.keep (below_alloc w2 (.cells #[.int .i64 e, .int .i64 r, .int .i64 wr, .string (str b)] 28))).only ho3 hb3 t1 t2
  have hB3 : Below B w w3 := ((hB0.trans hb2).alloc hO2.le _).trans hb3
  have hC3 := (hCC.more (fun t h => by simp at h)).trans ho3.cells
  have hx2 := (hc2.blk hbx (by simp)).alloc (.cells #[.int .i64 e, .int .i64 r, .int .i64 wr, .string (str b)] 28)
  have hx3 := ho3.blk hx2 (by
    intro h
    rcases List.mem_cons.1 h with h | h
    · revert h; decide
    · simp at h; exact hbt h)
  obtain ⟨x0, x1, _, _⟩ := hx3.two
  obtain ⟨y0, y1, y2, y3, _, _, _, _⟩ := hk3.quad
  have HO3 := Lib.hid hO3; clear hO3 hO2 t1 t2 hCC ho3 hx2 hx3 hbx hk3 hb2 hc2
  go_wp2_with (go_at_call 48; refine (pipeWrite_any w3 e' r' wr' b' hr hwr hm hb hbl HO3.out (by omega)).mono ?_; rintro x w4 ⟨rfl, hO4, hb4, hc4⟩)
  go_ret
  exact ⟨rfl, hO4, hB3.trans hb4, hpost _ _ hP3 hc4, (hC3.more (fun t h => by simp at h ⊢; rcases h with h | h <;> simp [h])).trans (hc4.more (fun t h => by simp at h ⊢; simp [h]))⟩
end
end Go.Proofs.YtoefldeoioagmaaGreatDoor

/- pipe.Make. -/
namespace Go.Proofs.YtoefldeoioagmaaGreatDoor
open Go.RowKit

def makeErr (cur : Option (List UInt8)) (epoch : Int) : Int := if withinB epoch 1073741824 = true then if cur.isSome = true then 13 else pipeWriteErr epoch 1 1 [] else 2
def makeCur (cur : Option (List UInt8)) (epoch : Int) : Option (List UInt8) := if withinB epoch 1073741824 = true then if cur.isSome = true then cur else pipeWriteCur cur epoch 1 1 [] else cur

section
variable {B : Nat} {vb : Nat} {base : Value} {m : List UInt8} {n : Int} {cur : Option (List UInt8)} {k : Nat}
set_option maxRecDepth 100000 in
set_option maxHeartbeats 1600000 in
theorem make_any (w : World) (epoch : Int) (hm : m.length ≤ 1000000000) (hb : birthErr m n = 0) (hO : ObjIs B w vb base 11 m n 0 [] cur k) (hk : k < 999999) :
    Calls Tryz.prog 19 #[.pointer (some ⟨vb, 0, none⟩), birthV m n, .int .i64 epoch] w fun x w' => x = .returned (.int .i64 (makeErr cur epoch)) ∧ ObjIs B w' vb base 11 m n 0 [] (makeCur cur epoch) (k + 2) ∧ Below B w w' ∧ Cells [99] w w' := by
  have hB := hO.le
  have hN := nameOk_pipe m n hm hb
  have HN := Lib.hid hN; clear hN
  have hbx := Blk.new w #[.string (str m), .int .i64 n] 47
  obtain ⟨b0, b1, _, _⟩ := hbx.two
  have hO0 := hO.keep (below_alloc w (.cells #[.string (str m), .int .i64 n] 47))
  have HO0 := Lib.hid hO0; clear hO0 hO
  have hg := fun w => begin_any vb m n epoch hm hb w
  have ho := fun w => ofPipe_any m n w
  have Ho := Lib.hid ho; clear ho
  have hB0 : Below B w (w.alloc (.cells #[.string (str m), .int .i64 n] 47)) := (Below.refl B w).alloc hB _
  have hl0 := hbx.lt
  cases he : withinB epoch 1073741824 with
  | false =>
    have hf : beginErr epoch = 2 := by simp [beginErr, he]
    have Hfe : Hid (makeErr cur epoch = 2) := by show _ = _; unfold makeErr; rw [he]; rfl
    have Hfc : Hid (makeCur cur epoch = cur) := by show _ = _; unfold makeCur; rw [he]; rfl
    rw [hf] at hg
    have Hg := Lib.hid hg; clear hg hf
    unfold birthV at *
    go_enter Tryz.func19, Tryz.ntmps19
    go_wp2_with (go_at_call 47; refine (Hg.out _).mono ?_; rintro x w2 ⟨rfl, hb2⟩)
    go_ret
    exact ⟨by rw [Hfe.out]; rfl, by rw [Hfc.out]; exact (HO0.out.keep hb2).more (by omega), hB0.trans (hb2.mono HO0.out.le), (Cells.of_below (below_alloc w _)).trans (Cells.of_below hb2)⟩
  | true =>
    have hf : beginErr epoch = 0 := by simp [beginErr, he]
    rw [hf] at hg
    have Hg := Lib.hid hg; clear hg hf
    cases hs : cur.isSome with
    | true =>
      have Hfe : Hid (makeErr cur epoch = 13) := by show _ = _; unfold makeErr; rw [he, hs]; rfl
      have Hfc : Hid (makeCur cur epoch = cur) := by show _ = _; unfold makeCur; rw [he, hs]; rfl
      unfold birthV at *
      go_enter Tryz.func19, Tryz.ntmps19
      go_wp2_with (first
        | (go_at_call 47; refine (Hg.out _).mono ?_; rintro x w2 ⟨rfl, hb2⟩; have hx2 := hbx.below hb2 hl0; obtain ⟨x0, x1, _, _⟩ := hx2.two)
        | (go_at_call 29; refine (Ho.out _).mono ?_; rintro x w3 ⟨rfl, hb3⟩; have hO3 := (HO0.out.keep hb2).keep hb3)
        | (go_at_call 28; refine (objHas HN.out hO3 (by omega)).mono ?_; rw [hs]; rintro x w4 ⟨rfl, hO4, hb4, hc4⟩))
      go_ret
      exact ⟨by rw [Hfe.out]; rfl, by rw [Hfc.out]; exact hO4.more (by omega), ((hB0.trans (hb2.mono HO0.out.le)).trans (hb3.mono (HO0.out.keep hb2).le)).trans hb4, (((Cells.of_below (below_alloc w _)).trans (Cells.of_below hb2)).trans (Cells.of_below hb3)).trans (hc4.more (fun t h => by simp at h))⟩
    | false =>
      have Hfe : Hid (makeErr cur epoch = pipeWriteErr epoch 1 1 []) := by show _ = _; unfold makeErr; rw [he, hs]; rfl
      have Hfc : Hid (makeCur cur epoch = pipeWriteCur cur epoch 1 1 []) := by show _ = _; unfold makeCur; rw [he, hs]; rfl
      have hw := fun w h => @pipeWrite_any B vb base m n cur (k + 1) w epoch 1 1 [] (by omega) (by omega) hm hb (by simp) h (by omega)
      have Hw := Lib.hid hw; clear hw
      unfold birthV pipeV at *
      go_enter Tryz.func19, Tryz.ntmps19
      go_wp2_with (first
        | (go_at_call 47; refine (Hg.out _).mono ?_; rintro x w2 ⟨rfl, hb2⟩; have hx2 := hbx.below hb2 hl0; obtain ⟨x0, x1, _, _⟩ := hx2.two)
        | (go_at_call 29; refine (Ho.out _).mono ?_; rintro x w3 ⟨rfl, hb3⟩; have hO3 := (HO0.out.keep hb2).keep hb3; have hx3 := hx2.below hb3 hx2.lt)
        | (go_at_call 28; refine (objHas HN.out hO3 (by omega)).mono ?_; rw [hs]; rintro x w4 ⟨rfl, hO4, hb4, hc4⟩; have hx4 := hc4.blk hx3 (by simp); obtain ⟨z0, z1, _, _⟩ := hx4.two)
        | (go_at_call 48; refine (Hw.out _ hO4).mono ?_; rintro x w5 ⟨rfl, hO5, hb5, hc5⟩))
      go_ret
      exact ⟨by rw [Hfe.out]; rfl, by rw [Hfc.out]; exact hO5, (((hB0.trans (hb2.mono HO0.out.le)).trans (hb3.mono (HO0.out.keep hb2).le)).trans hb4).trans hb5, ((((Cells.of_below (below_alloc w _)).trans (Cells.of_below hb2)).trans (Cells.of_below hb3)).trans (hc4.more (fun t h => by simp at h))).trans hc5⟩
end
end Go.Proofs.YtoefldeoioagmaaGreatDoor

/- pipe: side, and the functions that Leave and Join hand to change. -/
namespace Go.Proofs.YtoefldeoioagmaaGreatDoor
open Go.RowKit

def sideOff (writer : Bool) : Nat := if writer = true then 2 else 1
def sideOf (writer : Bool) (r wr : Nat) : Nat := if writer = true then wr else r

set_option maxRecDepth 100000 in
set_option maxHeartbeats 400000 in
theorem side_any (pb : Nat) (writer : Bool) (w : World) :
    Calls Tryz.prog 54 #[.pointer (some ⟨pb, 0, none⟩), .bool writer] w fun x w' => x = .returned (.pointer (some ⟨pb, sideOff writer, none⟩)) ∧ w = w' := by
  cases writer with
  | true =>
    go_enter Tryz.func54, Tryz.ntmps54
    go_wp2
    go_ret
    exact ⟨rfl, rfl⟩
  | false =>
    go_enter Tryz.func54, Tryz.ntmps54
    go_wp2
    go_ret
    exact ⟨rfl, rfl⟩

set_option maxRecDepth 100000 in
set_option maxHeartbeats 800000 in
theorem leave1_any (pb xb : Nat) (writer : Bool) (e r wr : Nat) (b : List UInt8) (hr : r ≤ 64) (hwr : wr ≤ 64) (w : World) (hk : Blk w pb #[.int .i64 e, .int .i64 r, .int .i64 wr, .string (str b)] 28) (hx : Blk w xb #[.bool writer] 4) :
    Calls Tryz.prog 55 #[.pointer (some ⟨pb, 0, none⟩), .pointer (some ⟨xb, 0, none⟩)] w fun x w' =>
      if sideOf writer r wr = 0 then x = .returned (.tuple #[.bool false, .int .i64 20]) ∧ w = w' else x = .returned (.tuple #[.bool true, .int .i64 0]) ∧ w' = w.setCell ⟨pb, sideOff writer, none⟩ (.int .i64 (sideOf writer r wr - 1 : Nat)) := by
  obtain ⟨p0, p1, p2, p3, f0, f1, f2, f3⟩ := hk.quad
  have x0 := hx.cell 0
  have hs := fun w => side_any pb writer w
  have Hs := Lib.hid hs; clear hs hk hx
  cases writer with
  | true =>
    simp only [sideOff, sideOf, if_true] at Hs ⊢
    by_cases h0 : wr = 0
    · subst h0
      go_enter Tryz.func55, Tryz.ntmps55
      go_wp2_with (go_at_call 54; refine (Hs.out _).mono ?_; rintro x w2 ⟨rfl, rfl⟩)
      go_ret2
      exact ⟨rfl, rfl⟩
    · simp only [if_neg h0]
      have h1 : 1 ≤ wr := by omega
      have hc : ((wr - 1 : Nat) : Int) = (wr : Int) - 1 := by omega
      rw [hc]
      have q1 : ((wr : Int) == 0) = false := by simp; omega
      clear hc h0
      go_enter Tryz.func55, Tryz.ntmps55
      go_wp2_with (go_at_call 54; refine (Hs.out _).mono ?_; rintro x w2 ⟨rfl, rfl⟩)
      go_ret2
      exact ⟨rfl, rfl⟩
  | false =>
    simp only [sideOff, sideOf, if_false, Bool.false_eq_true] at Hs ⊢
    by_cases h0 : r = 0
    · subst h0
      go_enter Tryz.func55, Tryz.ntmps55
      go_wp2_with (go_at_call 54; refine (Hs.out _).mono ?_; rintro x w2 ⟨rfl, rfl⟩)
      go_ret2
      exact ⟨rfl, rfl⟩
    · simp only [if_neg h0]
      have h1 : 1 ≤ r := by omega
      have hc : ((r - 1 : Nat) : Int) = (r : Int) - 1 := by omega
      rw [hc]
      have q1 : ((r : Int) == 0) = false := by simp; omega
      clear hc h0
      go_enter Tryz.func55, Tryz.ntmps55
      go_wp2_with (go_at_call 54; refine (Hs.out _).mono ?_; rintro x w2 ⟨rfl, rfl⟩)
      go_ret2
      exact ⟨rfl, rfl⟩
end Go.Proofs.YtoefldeoioagmaaGreatDoor

/- pipe.Leave. -/
namespace Go.Proofs.YtoefldeoioagmaaGreatDoor
open Go.RowKit

theorem pipeGet_some {cur : Option (List UInt8)} {epoch : Int} {e r wr : Nat} {b : List UInt8} (h : pipeGet cur epoch = some (e, r, wr, b)) : r ≤ 64 ∧ wr ≤ 64 ∧ e ≤ 1073741824 ∧ b.length ≤ 256 ∧ r + wr ≠ 0 ∧ (e : Int) = epoch := by
  unfold pipeGet at h
  cases hd : pipeDec (cur.getD []) with
  | none => rw [hd] at h; cases h
  | some q =>
    obtain ⟨e', r', wr', b'⟩ := q
    rw [hd] at h
    simp only at h
    split at h
    · rename_i he
      cases h
      obtain ⟨h1, h2, h3, h4, h5⟩ := pipeCheck_range (pipeDec_some.1 hd).1
      exact ⟨by omega, by omega, by omega, h5, by omega, he⟩
    · cases h
theorem pipeGetV_some {cur : Option (List UInt8)} {epoch : Int} {e r wr : Nat} {b : List UInt8} (he : withinB epoch 1073741824 = true) (h : pipeGet cur epoch = some (e, r, wr, b)) : pipeGetV cur epoch = .tuple #[pipeV e r wr b, .int .i64 0] := by
  unfold pipeGetV; rw [if_pos he, h]
theorem pipeGetV_none {cur : Option (List UInt8)} {epoch : Int} (he : withinB epoch 1073741824 = true) (h : pipeGet cur epoch = none) : pipeGetV cur epoch = .tuple #[pipeV 0 0 0 [], .int .i64 8] := by
  unfold pipeGetV; rw [if_pos he, h]
theorem pipeGetV_out {cur : Option (List UInt8)} {epoch : Int} (he : withinB epoch 1073741824 = false) : pipeGetV cur epoch = .tuple #[pipeV 0 0 0 [], .int .i64 2] := by
  unfold pipeGetV; rw [if_neg (by rw [he]; decide)]

def lessR (writer : Bool) (r : Nat) : Nat := if writer = true then r else r - 1
def lessW (writer : Bool) (wr : Nat) : Nat := if writer = true then wr - 1 else wr
def leaveErr (cur : Option (List UInt8)) (epoch : Int) (writer : Bool) : Int :=
  if withinB epoch 1073741824 = true then
    match pipeGet cur epoch with
    | none => 8
    | some (e, r, wr, b) => if sideOf writer r wr = 0 then 20 else pipeWriteErr e (lessR writer r) (lessW writer wr) b
  else 2
def leaveCur (cur : Option (List UInt8)) (epoch : Int) (writer : Bool) : Option (List UInt8) :=
  if withinB epoch 1073741824 = true then
    match pipeGet cur epoch with
    | none => cur
    | some (e, r, wr, b) => if sideOf writer r wr = 0 then cur else pipeWriteCur cur e (lessR writer r) (lessW writer wr) b
  else cur

theorem less_blk {w : World} {pb : Nat} {writer : Bool} {e r wr : Nat} {b : List UInt8} (h : Blk w pb #[.int .i64 e, .int .i64 r, .int .i64 wr, .string (str b)] 28) :
    Blk (w.setCell ⟨pb, sideOff writer, none⟩ (.int .i64 (sideOf writer r wr - 1 : Nat))) pb #[.int .i64 e, .int .i64 (lessR writer r), .int .i64 (lessW writer wr), .string (str b)] 28 := by
  cases writer with
  | true => exact (h.set 2 _).congr rfl
  | false => exact (h.set 1 _).congr rfl

section
variable {B : Nat} {vb : Nat} {base : Value} {m : List UInt8} {n : Int} {cur : Option (List UInt8)} {k : Nat}
set_option maxRecDepth 100000 in
set_option maxHeartbeats 1600000 in
theorem leave_any (w : World) (epoch : Int) (writer : Bool) (hm : m.length ≤ 1000000000) (hb : birthErr m n = 0) (hO : ObjIs B w vb base 11 m n 0 [] cur k) (hk : k < 999999) (hcur : (cur.getD []).length ≤ 1000000000) :
    Calls Tryz.prog 27 #[.pointer (some ⟨vb, 0, none⟩), birthV m n, .int .i64 epoch, .bool writer] w fun x w' => x = .returned (.int .i64 (leaveErr cur epoch writer)) ∧ ObjIs B w' vb base 11 m n 0 [] (leaveCur cur epoch writer) (k + 2) ∧ Below B w w' ∧ CellsE (leaveErr cur epoch writer) w w' := by
  have hB := hO.le
  have hbx := (Blk.new w #[.string (str m), .int .i64 n] 47).alloc (.cells #[.bool writer] 4)
  have hwx := Blk.new (w.alloc (.cells #[.string (str m), .int .i64 n] 47)) #[.bool writer] 4
  simp only [World.size_alloc] at hwx
  have hl0 := (Blk.new w #[.string (str m), .int .i64 n] 47).lt
  obtain ⟨b0, b1, _, _⟩ := hbx.two
  have hB0 : Below B w ((w.alloc (.cells #[.string (str m), .int .i64 n] 47)).alloc (.cells #[.bool writer] 4)) := ((Below.refl B w).alloc hB _).alloc (by simp; omega) _
  have hO0 := hO.keep (((Below.refl _ w).alloc (Nat.le_refl _) (.cells #[.string (str m), .int .i64 n] 47)).alloc (by simp) (.cells #[.bool writer] 4))
  have hmf : ∀ (fn : Fn) (first cap : Array Value) (w : World), (Instr.makeFunc fn first cap).run Tryz.prog w = .ok (.func fn first cap) w := fun _ _ _ _ => rfl
  have hent : ∀ args w, (callFunc 55 args).run Tryz.prog w = .ok (.enter 55 args) w := enters_of Tryz.func55 (by kernel_rfl) rfl
  obtain ⟨W, hW⟩ : ∃ W, W = (w.alloc (.cells #[.string (str m), .int .i64 n] 47)).alloc (.cells #[.bool writer] 4) := ⟨_, rfl⟩
  have key : Calls Tryz.prog 49 #[.pointer (some ⟨vb, 0, none⟩), birthV m n, .int .i64 epoch, .func (.func 55) #[] #[.pointer (some ⟨w.heap.size + 1, 0, none⟩)]] W fun x w' => x = .returned (.int .i64 (leaveErr cur epoch writer)) ∧ ObjIs B w' vb base 11 m n 0 [] (leaveCur cur epoch writer) (k + 2) ∧ Below B W w' ∧ KeepE w.heap.size (leaveErr cur epoch writer) W w' := by
    have hDW : w.heap.size ≤ W.heap.size := by rw [hW]; simp; omega
    rw [← hW] at hO0 hwx
    cases he : withinB epoch 1073741824 with
    | false =>
      have h1 : leaveErr cur epoch writer = 2 := by unfold leaveErr; rw [if_neg (by rw [he]; decide)]
      have h2 : leaveCur cur epoch writer = cur := by unfold leaveCur; rw [if_neg (by rw [he]; decide)]
      rw [h1, h2]
      refine (change_err W epoch _ 2 (by decide) hm hb hO0 (by omega) hcur (pipeGetV_out he)).mono ?_
      rintro x w' ⟨rfl, hO1, hb1, hc1⟩
      exact ⟨rfl, hO1.more (by omega), hb1, KeepE.all (KeepD.of_cells hc1)⟩
    | true =>
      cases hg : pipeGet cur epoch with
      | none =>
        have h1 : leaveErr cur epoch writer = 8 := by unfold leaveErr; rw [if_pos he, hg]
        have h2 : leaveCur cur epoch writer = cur := by unfold leaveCur; rw [if_pos he, hg]
        rw [h1, h2]
        refine (change_err W epoch _ 8 (by decide) hm hb hO0 (by omega) hcur (pipeGetV_none he hg)).mono ?_
        rintro x w' ⟨rfl, hO1, hb1, hc1⟩
        exact ⟨rfl, hO1.more (by omega), hb1, KeepE.all (KeepD.of_cells hc1)⟩
      | some q =>
        obtain ⟨e, r, wr, b⟩ := q
        obtain ⟨l1, l2, l3, l4, l5, l6⟩ := pipeGet_some hg
        by_cases h0 : sideOf writer r wr = 0
        · have h1 : leaveErr cur epoch writer = 20 := by unfold leaveErr; rw [if_pos he, hg]; simp only [if_pos h0]
          have h2 : leaveCur cur epoch writer = cur := by unfold leaveCur; rw [if_pos he, hg]; simp only [if_pos h0]
          rw [h1, h2]
          refine (change_not W epoch 55 _ hent e r wr b false 20 (.inr rfl) 28 (by decide) (fun v => KeepD w.heap.size [] W v) hm hb hO0 (by omega) hcur (pipeGetV_some he hg) ?_).mono ?_
          · intro w1 pb hc hp hbk _
            refine (leave1_any pb (w.heap.size + 1) writer e r wr b l1 l2 w1 hbk (hc.blk hwx (by simp))).mono ?_
            intro x w2 h
            rw [if_pos h0] at h
            obtain ⟨rfl, rfl⟩ := h
            exact ⟨rfl, KeepD.step hc (Below.refl _ _), Only.refl _ _, Below.refl _ _⟩
          · rintro x w' ⟨rfl, hO1, hb1, hK, _⟩
            exact ⟨rfl, hO1.more (by omega), hb1, KeepE.all hK⟩
        · have h1 : leaveErr cur epoch writer = pipeWriteErr e (lessR writer r) (lessW writer wr) b := by unfold leaveErr; rw [if_pos he, hg]; simp only [if_neg h0]
          have h2 : leaveCur cur epoch writer = pipeWriteCur cur e (lessR writer r) (lessW writer wr) b := by unfold leaveCur; rw [if_pos he, hg]; simp only [if_neg h0]
          rw [h1, h2]
          have r1 : lessR writer r ≤ 64 := by unfold lessR; split <;> omega
          have r2 : lessW writer wr ≤ 64 := by unfold lessW; split <;> omega
          refine (change_do W epoch 55 _ hent e r wr b e (lessR writer r) (lessW writer wr) b 28 (by decide) (fun v => KeepD w.heap.size [99] W v) (fun _ _ h hc => h.then hc) (by omega) (by omega) (by omega) hm hb hO0 hk hcur (pipeGetV_some he hg) ?_ (by decide)).mono ?_
          · intro w1 pb hc hp hbk _
            refine (leave1_any pb (w.heap.size + 1) writer e r wr b l1 l2 w1 hbk (hc.blk hwx (by simp))).mono ?_
            intro x w2 h
            rw [if_neg h0] at h
            obtain ⟨rfl, rfl⟩ := h
            exact ⟨rfl, KeepD.step hc ((Below.refl _ _).setCell (p := ⟨pb, sideOff writer, none⟩) (Nat.le_trans hDW hp) _), less_blk hbk, Only.set hbk (by simp) _, (Below.refl _ _).setCell (p := ⟨pb, sideOff writer, none⟩) (Nat.le_trans hO0.le hp) _⟩
          · rintro x w' ⟨rfl, hO1, hb1, hK, _⟩
            exact ⟨rfl, hO1, hb1, KeepE.ok (pipeWriteErr_ok l3 r1 r2 l4) hK⟩
  rw [hW] at key
  have Hkey := Lib.hid key; clear key hW hO hO0 hwx
  unfold birthV at *
  go_enter Tryz.func27, Tryz.ntmps27
  go_wp2_with (go_at_call 49; refine (Hkey.out).mono ?_; rintro x w2 ⟨rfl, hO2, hb2, hK2⟩)
  go_ret
  exact ⟨rfl, hO2, hB0.trans hb2, cellsE_of_keep ((hB0.trans hb2).mono (Nat.zero_le _)) (((Below.refl _ w).alloc (Nat.le_refl _) _).alloc (by simp) _) hK2⟩
end
end Go.Proofs.YtoefldeoioagmaaGreatDoor

/- pipe: the function that Write hands to change. -/
namespace Go.Proofs.YtoefldeoioagmaaGreatDoor
open Go.RowKit

theorem str_append (a b : List UInt8) : str a ++ str b = str (a ++ b) := by
  apply ByteArray.ext
  simp [str]

def wrCount (b s : List UInt8) : Nat := min s.length (256 - b.length)

set_option maxRecDepth 100000 in
set_option maxHeartbeats 1600000 in
theorem write1_any (B pb xb ob : Nat) (s : List UInt8) (e r wr : Nat) (b : List UInt8) (hs : s.length ≤ 1000000000) (_ : b.length < 256) (hs0 : s ≠ []) (hr0 : r ≠ 0) (hBp : B ≤ pb) (hBo : B ≤ ob) (w : World)
    (hk : Blk w pb #[.int .i64 e, .int .i64 r, .int .i64 wr, .string (str b)] 28) (hx : Blk w xb #[.string (str s)] 9) (ho : Blk w ob #[.int .i64 0] 3) :
    Calls Tryz.prog 51 #[.pointer (some ⟨pb, 0, none⟩), .pointer (some ⟨xb, 0, none⟩), .pointer (some ⟨ob, 0, none⟩)] w fun x w' =>
      x = .returned (.tuple #[.bool true, .int .i64 0]) ∧ Blk w' ob #[.int .i64 (wrCount b s)] 3 ∧ Blk w' pb #[.int .i64 e, .int .i64 r, .int .i64 wr, .string (str (b ++ s.take (wrCount b s)))] 28 ∧ Only [28, 3] w w' ∧ Below B w w' := by
  have hne : ob ≠ pb := fun h => by subst h; have := (ho.inj hk).2; revert this; decide
  have hne2 : ob ≠ xb := fun h => by subst h; have := (ho.inj hx).2; revert this; decide
  obtain ⟨c, hc⟩ : ∃ c, c = wrCount b s := ⟨_, rfl⟩
  have hc1 : c ≤ s.length := by rw [hc]; unfold wrCount; omega
  have hcm : (if (s.length : Int) < 256 - (b.length : Int) then (s.length : Int) else 256 - (b.length : Int)) = (c : Int) := by rw [hc]; unfold wrCount; split <;> omega
  have hfin : Blk ((w.setCell ⟨ob, 0, none⟩ (.int .i64 c)).setCell ⟨pb, 3, none⟩ (.string (str (b ++ s.take c)))) pb #[.int .i64 e, .int .i64 r, .int .i64 wr, .string (str (b ++ s.take c))] 28 := ((hk.setOther (a := ⟨ob, 0, none⟩) hne.symm _).set 3 _).congr rfl
  have hfo : Blk ((w.setCell ⟨ob, 0, none⟩ (.int .i64 c)).setCell ⟨pb, 3, none⟩ (.string (str (b ++ s.take c)))) ob #[.int .i64 c] 3 := (((ho.set 0 (.int .i64 c)).congr (cs' := #[.int .i64 c]) rfl).setOther (a := ⟨pb, 3, none⟩) hne _)
  have honly : Only [28, 3] w ((w.setCell ⟨ob, 0, none⟩ (.int .i64 c)).setCell ⟨pb, 3, none⟩ (.string (str (b ++ s.take c)))) := (Only.set ho (by simp) _).trans (Only.set (hk.setOther (a := ⟨ob, 0, none⟩) hne.symm _) (by simp) _)
  have hbel : Below B w ((w.setCell ⟨ob, 0, none⟩ (.int .i64 c)).setCell ⟨pb, 3, none⟩ (.string (str (b ++ s.take c)))) := ((Below.refl _ w).setCell (p := ⟨ob, 0, none⟩) hBo _).setCell (p := ⟨pb, 3, none⟩) hBp _
  rw [← hc]
  have Hfin := Lib.hid hfin
  have Hfo := Lib.hid hfo
  have Hon := Lib.hid honly
  have Hbe := Lib.hid hbel
  have Hcm := Lib.hid hcm
  obtain ⟨p0, p1, p2, p3, f0, f1, f2, f3⟩ := hk.quad
  have x0 := hx.cell 0
  have o0 := ho.cell 0
  have of0 := ho.frozen 0
  have hko : Blk (w.setCell ⟨ob, 0, none⟩ (.int .i64 c)) pb #[.int .i64 e, .int .i64 r, .int .i64 wr, .string (str b)] 28 := hk.setOther (a := ⟨ob, 0, none⟩) hne.symm _
  have Hp3 := Lib.hid hko.quad.2.2.2.1
  have Hff := Lib.hid hko.quad.2.2.2.2.2.2.2
  have hxo : Blk (w.setCell ⟨ob, 0, none⟩ (.int .i64 c)) xb #[.string (str s)] 9 := hx.setOther (a := ⟨ob, 0, none⟩) hne2.symm _
  have Hx0 := Lib.hid (hxo.cell 0)
  have hoo : Blk (w.setCell ⟨ob, 0, none⟩ (.int .i64 c)) ob #[.int .i64 c] 3 := (ho.set 0 (.int .i64 c)).congr rfl
  have Ho0 := Lib.hid (hoo.cell 0)
  clear hko hxo hoo
  have hsz := str_size s
  have hbz := str_size b
  have e1 : (str s).toList.isEmpty = false := by rw [str_toList]; simpa using hs0
  have e2 : ((r : Int) == 0) = false := by simp; omega
  clear hfin hfo honly hbel hk hx ho hc hcm hs0 hr0
  go_enter Tryz.func51, Tryz.ntmps51
  go_wp2
  go_region
  all_goals go_wp2
  all_goals (
    first
      | (have hcc : (256 - (b.length : Int)) = (c : Int) := by have := Hcm.out; split at this <;> omega
         rw [hcc]
         clear hcc)
      | (have hcc : (s.length : Int) = (c : Int) := by have := Hcm.out; split at this <;> omega
         rw [hcc]
         clear hcc)
    have p3' := Hp3.out
    have x0' := Hx0.out
    have o0' := Ho0.out
    have hex : (str s).extract 0 c = str (s.take c) := by rw [str_extract]; simp
    have hap := str_append b (s.take c)
    have htz : (str (s.take c)).size = c := by rw [str_size, List.length_take]; omega
    have hsum : ¬ 9223372036854775807 < b.length + c := by omega
    clear p0 p1 p2 p3 x0 o0 of0 f0 f1 f2 f3
    obtain ⟨W, hW⟩ : ∃ W, W = w.setCell ⟨ob, 0, none⟩ (.int .i64 c) := ⟨_, rfl⟩
    rw [← hW] at p3' x0' o0'
    rw [← hW]
    have ff := Hff.out
    rw [← hW] at ff
    have HW := Lib.hid hW; clear hW
    go_region
    all_goals go_wp2
    all_goals (
      go_ret2
      rw [HW.out]
      exact ⟨rfl, Hfo.out.drew.drew, Hfin.out.drew.drew, Hon.out.trans (Only.of_below (Below.refl _ _).drew.drew), Hbe.out.drew.drew⟩))
end Go.Proofs.YtoefldeoioagmaaGreatDoor

/- pipe: the function that Read hands to change. -/
namespace Go.Proofs.YtoefldeoioagmaaGreatDoor
open Go.RowKit

def rdCount (b : List UInt8) (most : Nat) : Nat := min most b.length

set_option maxRecDepth 100000 in
set_option maxHeartbeats 1600000 in
theorem read1_any (B pb mb ob : Nat) (most : Nat) (e r wr : Nat) (b : List UInt8) (hm1 : 1 ≤ most) (hm2 : most ≤ 9223372036854775807) (hbl : b.length ≤ 256) (hbusy : b ≠ [] ∨ wr = 0) (hBp : B ≤ pb) (hBo : B ≤ ob) (w : World)
    (hk : Blk w pb #[.int .i64 e, .int .i64 r, .int .i64 wr, .string (str b)] 28) (hx : Blk w mb #[.int .i64 most] 3) (ho : Blk w ob #[.string (str [])] 9) :
    Calls Tryz.prog 50 #[.pointer (some ⟨pb, 0, none⟩), .pointer (some ⟨mb, 0, none⟩), .pointer (some ⟨ob, 0, none⟩)] w fun x w' =>
      x = .returned (.tuple #[.bool (decide (0 < rdCount b most)), .int .i64 0]) ∧ Blk w' ob #[.string (str (b.take (rdCount b most)))] 9 ∧ Blk w' pb #[.int .i64 e, .int .i64 r, .int .i64 wr, .string (str (b.drop (rdCount b most)))] 28 ∧ Only [28, 9] w w' ∧ Below B w w' := by
  have hne : ob ≠ pb := fun h => by subst h; have := (ho.inj hk).2; revert this; decide
  obtain ⟨c, hc⟩ : ∃ c, c = rdCount b most := ⟨_, rfl⟩
  have hc1 : c ≤ b.length := by rw [hc]; unfold rdCount; omega
  have hc2 : (c = most ∧ most ≤ b.length) ∨ (c = b.length ∧ b.length ≤ most) := by rw [hc]; unfold rdCount; omega
  have hfin : Blk ((w.setCell ⟨ob, 0, none⟩ (.string (str (b.take c)))).setCell ⟨pb, 3, none⟩ (.string (str (b.drop c)))) pb #[.int .i64 e, .int .i64 r, .int .i64 wr, .string (str (b.drop c))] 28 := ((hk.setOther (a := ⟨ob, 0, none⟩) hne.symm _).set 3 _).congr rfl
  have hfo : Blk ((w.setCell ⟨ob, 0, none⟩ (.string (str (b.take c)))).setCell ⟨pb, 3, none⟩ (.string (str (b.drop c)))) ob #[.string (str (b.take c))] 9 := (((ho.set 0 (.string (str (b.take c)))).congr (cs' := #[.string (str (b.take c))]) rfl).setOther (a := ⟨pb, 3, none⟩) hne _)
  have honly : Only [28, 9] w ((w.setCell ⟨ob, 0, none⟩ (.string (str (b.take c)))).setCell ⟨pb, 3, none⟩ (.string (str (b.drop c)))) := (Only.set ho (by simp) _).trans (Only.set (hk.setOther (a := ⟨ob, 0, none⟩) hne.symm _) (by simp) _)
  have hbel : Below B w ((w.setCell ⟨ob, 0, none⟩ (.string (str (b.take c)))).setCell ⟨pb, 3, none⟩ (.string (str (b.drop c)))) := ((Below.refl _ w).setCell (p := ⟨ob, 0, none⟩) hBo _).setCell (p := ⟨pb, 3, none⟩) hBp _
  rw [← hc]
  have Hfin := Lib.hid hfin
  have Hfo := Lib.hid hfo
  have Hon := Lib.hid honly
  have Hbe := Lib.hid hbel
  have Hc2 := Lib.hid hc2
  obtain ⟨p0, p1, p2, p3, f0, f1, f2, f3⟩ := hk.quad
  have x0 := hx.cell 0
  have o0 := ho.cell 0
  have of0 := ho.frozen 0
  have hbz := str_size b
  have q1 : ((most : Int) == 0) = false := by simp; omega
  have hex : (str b).extract 0 c = str (b.take c) := by rw [str_extract]; simp
  have hed : (str b).extract c b.length = str (b.drop c) := by rw [str_extract]; congr 1; exact List.take_of_length_le (by simp)
  clear hfin hfo honly hbel hk hx ho hc hc2
  by_cases hb0 : b = []
  · have hw0 : wr = 0 := hbusy.resolve_left (fun h => h hb0)
    have e1 : (str b).toList.isEmpty = true := by rw [str_toList]; simp [hb0]
    have Hb0 := Lib.hid hb0
    clear hbusy hb0
    subst hw0
    go_enter Tryz.func50, Tryz.ntmps50
    go_wp2
    go_region
    all_goals go_wp2
    all_goals (
      first
        | (have hcc : (b.length : Int) = (c : Int) := by have := Hc2.out; omega
           rw [hcc]
           clear hcc)
        | (have hcc : (most : Int) = (c : Int) := by have := Hc2.out; omega
           rw [hcc]
           clear hcc)
      have hne' : pb ≠ ob := fun h => hne h.symm
      go_region
      all_goals go_wp2
      all_goals (
        go_ret2
        exact ⟨rfl, Hfo.out.drew.drew, Hfin.out.drew.drew, Hon.out.trans (Only.of_below (Below.refl _ _).drew.drew), Hbe.out.drew.drew⟩))
  · have e1 : (str b).toList.isEmpty = false := by rw [str_toList]; simpa using hb0
    have Hb0 := Lib.hid hb0
    clear hbusy hb0
    go_enter Tryz.func50, Tryz.ntmps50
    go_wp2
    go_region
    all_goals go_wp2
    all_goals (
      first
        | (have hcc : (b.length : Int) = (c : Int) := by have := Hc2.out; omega
           rw [hcc]
           clear hcc)
        | (have hcc : (most : Int) = (c : Int) := by have := Hc2.out; omega
           rw [hcc]
           clear hcc)
      have hne' : pb ≠ ob := fun h => hne h.symm
      go_region
      all_goals go_wp2
      all_goals (
        go_ret2
        exact ⟨rfl, Hfo.out.drew.drew, Hfin.out.drew.drew, Hon.out.trans (Only.of_below (Below.refl _ _).drew.drew), Hbe.out.drew.drew⟩))
end Go.Proofs.YtoefldeoioagmaaGreatDoor

/- pipe: where the functions of Write and Read change nothing. -/
namespace Go.Proofs.YtoefldeoioagmaaGreatDoor
open Go.RowKit

def write1Err (b s : List UInt8) (r : Nat) : Option Int := if s = [] then some 0 else if r = 0 then some 20 else if 256 ≤ b.length then some 19 else none
def read1Err (b : List UInt8) (wr : Nat) (most : Int) : Option Int := if most < 0 then some 2 else if most = 0 then some 0 else if b = [] ∧ 0 < wr then some 19 else none

set_option maxRecDepth 100000 in
set_option maxHeartbeats 800000 in
theorem write1_not (pb xb ob : Nat) (s : List UInt8) (e r wr : Nat) (b : List UInt8) (er : Int) (h : write1Err b s r = some er) (w : World)
    (hk : Blk w pb #[.int .i64 e, .int .i64 r, .int .i64 wr, .string (str b)] 28) (hx : Blk w xb #[.string (str s)] 9) :
    Calls Tryz.prog 51 #[.pointer (some ⟨pb, 0, none⟩), .pointer (some ⟨xb, 0, none⟩), .pointer (some ⟨ob, 0, none⟩)] w fun x w' => x = .returned (.tuple #[.bool false, .int .i64 er]) ∧ w = w' := by
  obtain ⟨p0, p1, p2, p3, f0, f1, f2, f3⟩ := hk.quad
  have x0 := hx.cell 0
  have hbz := str_size b
  clear hk hx
  unfold write1Err at h
  split at h
  · rename_i hs
    cases h
    have e1 : (str s).toList.isEmpty = true := by rw [str_toList]; simp [hs]
    clear hs
    go_enter Tryz.func51, Tryz.ntmps51
    go_wp2
    go_ret2
    exact ⟨rfl, rfl⟩
  · rename_i hs
    have e1 : (str s).toList.isEmpty = false := by rw [str_toList]; simpa using hs
    clear hs
    split at h
    · rename_i hr
      cases h
      subst hr
      go_enter Tryz.func51, Tryz.ntmps51
      go_wp2
      go_ret2
      exact ⟨rfl, rfl⟩
    · rename_i hr
      have e2 : ((r : Int) == 0) = false := by simp; omega
      clear hr
      split at h
      · rename_i hb
        cases h
        go_enter Tryz.func51, Tryz.ntmps51
        go_wp2
        go_ret2
        exact ⟨rfl, rfl⟩
      · cases h

set_option maxRecDepth 100000 in
set_option maxHeartbeats 800000 in
theorem read1_not (pb mb ob : Nat) (most : Int) (e r wr : Nat) (b : List UInt8) (er : Int) (h : read1Err b wr most = some er) (w : World)
    (hk : Blk w pb #[.int .i64 e, .int .i64 r, .int .i64 wr, .string (str b)] 28) (hx : Blk w mb #[.int .i64 most] 3) :
    Calls Tryz.prog 50 #[.pointer (some ⟨pb, 0, none⟩), .pointer (some ⟨mb, 0, none⟩), .pointer (some ⟨ob, 0, none⟩)] w fun x w' => x = .returned (.tuple #[.bool false, .int .i64 er]) ∧ w = w' := by
  obtain ⟨p0, p1, p2, p3, f0, f1, f2, f3⟩ := hk.quad
  have x0 := hx.cell 0
  clear hk hx
  unfold read1Err at h
  split at h
  · rename_i hs
    cases h
    go_enter Tryz.func50, Tryz.ntmps50
    go_wp2
    go_ret2
    exact ⟨rfl, rfl⟩
  · rename_i hs
    split at h
    · rename_i h0
      cases h
      subst h0
      go_enter Tryz.func50, Tryz.ntmps50
      go_wp2
      go_ret2
      exact ⟨rfl, rfl⟩
    · rename_i h0
      have e2 : (most == 0) = false := by simpa using h0
      have hs' : 0 ≤ most := by omega
      clear h0 hs
      split at h
      · rename_i hb
        obtain ⟨hb1, hb2⟩ := hb
        cases h
        have e1 : (str b).toList.isEmpty = true := by rw [str_toList]; simp [hb1]
        clear hb1
        go_enter Tryz.func50, Tryz.ntmps50
        go_wp2
        go_ret2
        exact ⟨rfl, rfl⟩
      · cases h
end Go.Proofs.YtoefldeoioagmaaGreatDoor

/- pipe.Write. -/
namespace Go.Proofs.YtoefldeoioagmaaGreatDoor
open Go.RowKit

def writeErr (cur : Option (List UInt8)) (epoch : Int) (s : List UInt8) : Int :=
  if withinB epoch 1073741824 = true then
    match pipeGet cur epoch with
    | none => 8
    | some (e, r, wr, b) => match write1Err b s r with
      | some er => er
      | none => pipeWriteErr e r wr (b ++ s.take (wrCount b s))
  else 2
def writeN (cur : Option (List UInt8)) (epoch : Int) (s : List UInt8) : Nat :=
  if withinB epoch 1073741824 = true then
    match pipeGet cur epoch with
    | none => 0
    | some (_, r, _, b) => match write1Err b s r with
      | some _ => 0
      | none => wrCount b s
  else 0
def writeCur (cur : Option (List UInt8)) (epoch : Int) (s : List UInt8) : Option (List UInt8) :=
  if withinB epoch 1073741824 = true then
    match pipeGet cur epoch with
    | none => cur
    | some (e, r, wr, b) => match write1Err b s r with
      | some _ => cur
      | none => pipeWriteCur cur e r wr (b ++ s.take (wrCount b s))
  else cur
theorem write1Err_none {b s : List UInt8} {r : Nat} (h : write1Err b s r = none) : s ≠ [] ∧ r ≠ 0 ∧ b.length < 256 := by
  unfold write1Err at h
  repeat' split at h
  all_goals first | (cases h; done) | exact ⟨by assumption, by assumption, by omega⟩

section
variable {B : Nat} {vb : Nat} {base : Value} {m : List UInt8} {n : Int} {cur : Option (List UInt8)} {k : Nat}
theorem write_change (D : Nat) (W : World) (xb ob : Nat) (epoch : Int) (s : List UInt8) (hs : s.length ≤ 1000000000) (hm : m.length ≤ 1000000000) (hb : birthErr m n = 0) (hO : ObjIs B W vb base 11 m n 0 [] cur k) (hk : k < 999999) (hcur : (cur.getD []).length ≤ 1000000000)
    (hx : Blk W xb #[.string (str s)] 9) (ho : Blk W ob #[.int .i64 0] 3) (_ : B ≤ ob) (hBD : B ≤ D) (hDo : D ≤ ob) (hDW : D ≤ W.heap.size) :
    Calls Tryz.prog 49 #[.pointer (some ⟨vb, 0, none⟩), birthV m n, .int .i64 epoch, .func (.func 51) #[] #[.pointer (some ⟨xb, 0, none⟩), .pointer (some ⟨ob, 0, none⟩)]] W fun x w' =>
      x = .returned (.int .i64 (writeErr cur epoch s)) ∧ ObjIs B w' vb base 11 m n 0 [] (writeCur cur epoch s) (k + 2) ∧ Below B W w' ∧ Blk w' ob #[.int .i64 (writeN cur epoch s)] 3 ∧ KeepE D (writeErr cur epoch s) W w' := by
  have hent : ∀ args w, (callFunc 51 args).run Tryz.prog w = .ok (.enter 51 args) w := enters_of Tryz.func51 (by kernel_rfl) rfl
  have hB := hO.le
  cases he : withinB epoch 1073741824 with
  | false =>
    have h1 : writeErr cur epoch s = 2 := by unfold writeErr; rw [if_neg (by rw [he]; decide)]
    have h2 : writeCur cur epoch s = cur := by unfold writeCur; rw [if_neg (by rw [he]; decide)]
    have h3 : writeN cur epoch s = 0 := by unfold writeN; rw [if_neg (by rw [he]; decide)]
    rw [h1, h2, h3]
    refine (change_err W epoch _ 2 (by decide) hm hb hO (by omega) hcur (pipeGetV_out he)).mono ?_
    rintro x w' ⟨rfl, hO1, hb1, hc1⟩
    exact ⟨rfl, hO1.more (by omega), hb1, hc1.blk ho (by simp), KeepE.all (KeepD.of_cells hc1)⟩
  | true =>
    cases hg : pipeGet cur epoch with
    | none =>
      have h1 : writeErr cur epoch s = 8 := by unfold writeErr; rw [if_pos he, hg]
      have h2 : writeCur cur epoch s = cur := by unfold writeCur; rw [if_pos he, hg]
      have h3 : writeN cur epoch s = 0 := by unfold writeN; rw [if_pos he, hg]
      rw [h1, h2, h3]
      refine (change_err W epoch _ 8 (by decide) hm hb hO (by omega) hcur (pipeGetV_none he hg)).mono ?_
      rintro x w' ⟨rfl, hO1, hb1, hc1⟩
      exact ⟨rfl, hO1.more (by omega), hb1, hc1.blk ho (by simp), KeepE.all (KeepD.of_cells hc1)⟩
    | some q =>
      obtain ⟨e, r, wr, b⟩ := q
      obtain ⟨l1, l2, l3, l4, l5, l6⟩ := pipeGet_some hg
      cases hw : write1Err b s r with
      | some er =>
        have h1 : writeErr cur epoch s = er := by unfold writeErr; rw [if_pos he, hg]; simp only [hw]
        have h2 : writeCur cur epoch s = cur := by unfold writeCur; rw [if_pos he, hg]; simp only [hw]
        have h3 : writeN cur epoch s = 0 := by unfold writeN; rw [if_pos he, hg]; simp only [hw]
        rw [h1, h2, h3]
        refine (change_not W epoch 51 _ hent e r wr b false er (.inr rfl) 3 (by decide) (fun v => Blk v ob #[.int .i64 (0 : Nat)] 3 ∧ KeepD D [] W v) hm hb hO (by omega) hcur (pipeGetV_some he hg) ?_).mono ?_
        · intro w1 pb hc hp hbk _
          refine (write1_not pb xb ob s e r wr b er hw w1 hbk (hc.blk hx (by simp))).mono ?_
          rintro x w2 ⟨rfl, rfl⟩
          exact ⟨rfl, ⟨hc.blk ho (by simp), KeepD.step hc (Below.refl _ _)⟩, Only.refl _ _, Below.refl _ _⟩
        · rintro x w' ⟨rfl, hO1, hb1, hP, _⟩
          exact ⟨rfl, hO1.more (by omega), hb1, hP.1, KeepE.all hP.2⟩
      | none =>
        have h1 : writeErr cur epoch s = pipeWriteErr e r wr (b ++ s.take (wrCount b s)) := by unfold writeErr; rw [if_pos he, hg]; simp only [hw]
        have h2 : writeCur cur epoch s = pipeWriteCur cur e r wr (b ++ s.take (wrCount b s)) := by unfold writeCur; rw [if_pos he, hg]; simp only [hw]
        have h3 : writeN cur epoch s = wrCount b s := by unfold writeN; rw [if_pos he, hg]; simp only [hw]
        rw [h1, h2, h3]
        obtain ⟨n1, n2, n3⟩ := write1Err_none hw
        have hbnd : (b ++ s.take (wrCount b s)).length ≤ 1000000000 := by
          have hq : wrCount b s ≤ 256 := by unfold wrCount; omega
          have hq2 := List.length_take_le (wrCount b s) s
          rw [List.length_append]; omega
        have hbnd2 : (b ++ s.take (wrCount b s)).length ≤ 256 := by
          have hq : wrCount b s ≤ 256 - b.length := by unfold wrCount; omega
          have hq2 := List.length_take_le (wrCount b s) s
          rw [List.length_append]; omega
        refine (change_do W epoch 51 _ hent e r wr b e r wr (b ++ s.take (wrCount b s)) 3 (by decide) (fun v => Blk v ob #[.int .i64 (wrCount b s)] 3 ∧ KeepD D [99] W v) (fun a c h hc => ⟨hc.blk h.1 (by decide), h.2.then hc⟩) (by omega) (by omega) hbnd hm hb hO hk hcur (pipeGetV_some he hg) ?_ (by decide)).mono ?_
        · intro w1 pb hc hp hbk _
          refine (write1_any D pb xb ob s e r wr b hs n3 n1 n2 (Nat.le_trans hDW hp) hDo w1 hbk (hc.blk hx (by simp)) (hc.blk ho (by simp))).mono ?_
          rintro x w2 ⟨rfl, hP, hk2, hon, hbe⟩
          exact ⟨rfl, ⟨hP, KeepD.step hc hbe⟩, hk2, hon, hbe.mono hBD⟩
        · rintro x w' ⟨rfl, hO1, hb1, hP, _⟩
          exact ⟨rfl, hO1, hb1, hP.1, KeepE.ok (pipeWriteErr_ok l3 l1 l2 hbnd2) hP.2⟩

set_option maxRecDepth 100000 in
set_option maxHeartbeats 1600000 in
theorem write_any (w : World) (epoch : Int) (s : List UInt8) (hs : s.length ≤ 1000000000) (hm : m.length ≤ 1000000000) (hb : birthErr m n = 0) (hO : ObjIs B w vb base 11 m n 0 [] cur k) (hk : k < 999999) (hcur : (cur.getD []).length ≤ 1000000000) :
    Calls Tryz.prog 23 #[.pointer (some ⟨vb, 0, none⟩), birthV m n, .int .i64 epoch, .string (str s)] w fun x w' =>
      x = .returned (.tuple #[.int .i64 (writeN cur epoch s), .int .i64 (writeErr cur epoch s)]) ∧ ObjIs B w' vb base 11 m n 0 [] (writeCur cur epoch s) (k + 2) ∧ Below B w w' ∧ CellsE (writeErr cur epoch s) w w' := by
  have hB := hO.le
  have hbx := ((Blk.new w #[.string (str m), .int .i64 n] 47).alloc (.cells #[.string (str s)] 9)).alloc (.cells #[.int .i64 0] 3)
  have hsx := (Blk.new (w.alloc (.cells #[.string (str m), .int .i64 n] 47)) #[.string (str s)] 9).alloc (.cells #[.int .i64 0] 3)
  have hox := Blk.new ((w.alloc (.cells #[.string (str m), .int .i64 n] 47)).alloc (.cells #[.string (str s)] 9)) #[.int .i64 0] 3
  simp only [World.size_alloc] at hsx hox
  have hl0 := (Blk.new w #[.string (str m), .int .i64 n] 47).lt
  obtain ⟨b0, b1, _, _⟩ := hbx.two
  have hB0 : Below B w (((w.alloc (.cells #[.string (str m), .int .i64 n] 47)).alloc (.cells #[.string (str s)] 9)).alloc (.cells #[.int .i64 0] 3)) := (((Below.refl B w).alloc hB _).alloc (by simp; omega) _).alloc (by simp; omega) _
  have hO0 := hO.keep ((((Below.refl _ w).alloc (Nat.le_refl _) (.cells #[.string (str m), .int .i64 n] 47)).alloc (by simp) (.cells #[.string (str s)] 9)).alloc (by simp; omega) (.cells #[.int .i64 0] 3))
  have hmf : ∀ (fn : Fn) (first cap : Array Value) (w : World), (Instr.makeFunc fn first cap).run Tryz.prog w = .ok (.func fn first cap) w := fun _ _ _ _ => rfl
  have key := write_change w.heap.size _ (w.heap.size + 1) (w.heap.size + 1 + 1) epoch s hs hm hb hO0 hk hcur hsx hox (by omega) hB (by omega) (by simp; omega)
  have Hkey := Lib.hid key; clear key hO hO0 hox hsx
  unfold birthV at *
  go_enter Tryz.func23, Tryz.ntmps23
  go_wp2_with (go_at_call 49; refine (Hkey.out).mono ?_; rintro x w2 ⟨rfl, hO2, hb2, hk2, hK2⟩; have o2 := hk2.cell 0)
  go_ret2
  exact ⟨rfl, hO2, hB0.trans hb2, cellsE_of_keep ((hB0.trans hb2).mono (Nat.zero_le _)) ((((Below.refl _ w).alloc (Nat.le_refl _) _).alloc (by simp) _).alloc (by simp; omega) _) hK2⟩
end
end Go.Proofs.YtoefldeoioagmaaGreatDoor

/- pipe.Read. -/
namespace Go.Proofs.YtoefldeoioagmaaGreatDoor
open Go.RowKit

def readErr (cur : Option (List UInt8)) (epoch most : Int) : Int :=
  if withinB epoch 1073741824 = true then
    match pipeGet cur epoch with
    | none => 8
    | some (e, r, wr, b) => match read1Err b wr most with
      | some er => er
      | none => if rdCount b most.toNat = 0 then 0 else pipeWriteErr e r wr (b.drop (rdCount b most.toNat))
  else 2
def readS (cur : Option (List UInt8)) (epoch most : Int) : List UInt8 :=
  if withinB epoch 1073741824 = true then
    match pipeGet cur epoch with
    | none => []
    | some (_, _, wr, b) => match read1Err b wr most with
      | some _ => []
      | none => b.take (rdCount b most.toNat)
  else []
def readCur (cur : Option (List UInt8)) (epoch most : Int) : Option (List UInt8) :=
  if withinB epoch 1073741824 = true then
    match pipeGet cur epoch with
    | none => cur
    | some (e, r, wr, b) => match read1Err b wr most with
      | some _ => cur
      | none => if rdCount b most.toNat = 0 then cur else pipeWriteCur cur e r wr (b.drop (rdCount b most.toNat))
  else cur
theorem read1Err_none {b : List UInt8} {wr : Nat} {most : Int} (h : read1Err b wr most = none) : 1 ≤ most ∧ (b ≠ [] ∨ wr = 0) := by
  unfold read1Err at h
  split at h
  · cases h
  · split at h
    · cases h
    · split at h
      · cases h
      · rename_i h1 h2 h3
        refine ⟨by omega, ?_⟩
        by_cases hb : b = []
        · exact .inr (by have : ¬ 0 < wr := fun hw => h3 ⟨hb, hw⟩; omega)
        · exact .inl hb

section
variable {B : Nat} {vb : Nat} {base : Value} {m : List UInt8} {n : Int} {cur : Option (List UInt8)} {k : Nat}
theorem read_change (D : Nat) (W : World) (mb ob : Nat) (epoch most : Int) (hmo : most ≤ 9223372036854775807) (hm : m.length ≤ 1000000000) (hb : birthErr m n = 0) (hO : ObjIs B W vb base 11 m n 0 [] cur k) (hk : k < 999999) (hcur : (cur.getD []).length ≤ 1000000000)
    (hx : Blk W mb #[.int .i64 most] 3) (ho : Blk W ob #[.string (str [])] 9) (_ : B ≤ ob) (hBD : B ≤ D) (hDo : D ≤ ob) (hDW : D ≤ W.heap.size) :
    Calls Tryz.prog 49 #[.pointer (some ⟨vb, 0, none⟩), birthV m n, .int .i64 epoch, .func (.func 50) #[] #[.pointer (some ⟨mb, 0, none⟩), .pointer (some ⟨ob, 0, none⟩)]] W fun x w' =>
      x = .returned (.int .i64 (readErr cur epoch most)) ∧ ObjIs B w' vb base 11 m n 0 [] (readCur cur epoch most) (k + 2) ∧ Below B W w' ∧ Blk w' ob #[.string (str (readS cur epoch most))] 9 ∧ KeepE D (readErr cur epoch most) W w' := by
  have hent : ∀ args w, (callFunc 50 args).run Tryz.prog w = .ok (.enter 50 args) w := enters_of Tryz.func50 (by kernel_rfl) rfl
  have hB := hO.le
  cases he : withinB epoch 1073741824 with
  | false =>
    have h1 : readErr cur epoch most = 2 := by unfold readErr; rw [if_neg (by rw [he]; decide)]
    have h2 : readCur cur epoch most = cur := by unfold readCur; rw [if_neg (by rw [he]; decide)]
    have h3 : readS cur epoch most = [] := by unfold readS; rw [if_neg (by rw [he]; decide)]
    rw [h1, h2, h3]
    refine (change_err W epoch _ 2 (by decide) hm hb hO (by omega) hcur (pipeGetV_out he)).mono ?_
    rintro x w' ⟨rfl, hO1, hb1, hc1⟩
    exact ⟨rfl, hO1.more (by omega), hb1, hc1.blk ho (by simp), KeepE.all (KeepD.of_cells hc1)⟩
  | true =>
    cases hg : pipeGet cur epoch with
    | none =>
      have h1 : readErr cur epoch most = 8 := by unfold readErr; rw [if_pos he, hg]
      have h2 : readCur cur epoch most = cur := by unfold readCur; rw [if_pos he, hg]
      have h3 : readS cur epoch most = [] := by unfold readS; rw [if_pos he, hg]
      rw [h1, h2, h3]
      refine (change_err W epoch _ 8 (by decide) hm hb hO (by omega) hcur (pipeGetV_none he hg)).mono ?_
      rintro x w' ⟨rfl, hO1, hb1, hc1⟩
      exact ⟨rfl, hO1.more (by omega), hb1, hc1.blk ho (by simp), KeepE.all (KeepD.of_cells hc1)⟩
    | some q =>
      obtain ⟨e, r, wr, b⟩ := q
      obtain ⟨l1, l2, l3, l4, l5, l6⟩ := pipeGet_some hg
      cases hw : read1Err b wr most with
      | some er =>
        have h1 : readErr cur epoch most = er := by unfold readErr; rw [if_pos he, hg]; simp only [hw]
        have h2 : readCur cur epoch most = cur := by unfold readCur; rw [if_pos he, hg]; simp only [hw]
        have h3 : readS cur epoch most = [] := by unfold readS; rw [if_pos he, hg]; simp only [hw]
        rw [h1, h2, h3]
        refine (change_not W epoch 50 _ hent e r wr b false er (.inr rfl) 9 (by decide) (fun v => Blk v ob #[.string (str [])] 9 ∧ KeepD D [] W v) hm hb hO (by omega) hcur (pipeGetV_some he hg) ?_).mono ?_
        · intro w1 pb hc hp hbk _
          refine (read1_not pb mb ob most e r wr b er hw w1 hbk (hc.blk hx (by simp))).mono ?_
          rintro x w2 ⟨rfl, rfl⟩
          exact ⟨rfl, ⟨hc.blk ho (by simp), KeepD.step hc (Below.refl _ _)⟩, Only.refl _ _, Below.refl _ _⟩
        · rintro x w' ⟨rfl, hO1, hb1, hP, _⟩
          exact ⟨rfl, hO1.more (by omega), hb1, hP.1, KeepE.all hP.2⟩
      | none =>
        obtain ⟨n1, n2⟩ := read1Err_none hw
        obtain ⟨mo, rfl⟩ := Int.eq_ofNat_of_zero_le (show 0 ≤ most by omega)
        have hmn : ((mo : Int)).toNat = mo := Int.toNat_natCast mo
        have h3 : readS cur epoch mo = b.take (rdCount b mo) := by unfold readS; rw [if_pos he, hg]; simp only [hw, hmn]
        by_cases h0 : rdCount b mo = 0
        · have h1 : readErr cur epoch mo = 0 := by unfold readErr; rw [if_pos he, hg]; simp only [hw, hmn, if_pos h0]
          have h2 : readCur cur epoch mo = cur := by unfold readCur; rw [if_pos he, hg]; simp only [hw, hmn, if_pos h0]
          rw [h1, h2, h3]
          refine (change_not W epoch 50 _ hent e r wr b false 0 (.inr rfl) 9 (by decide) (fun v => Blk v ob #[.string (str (b.take (rdCount b mo)))] 9 ∧ KeepD D [] W v) hm hb hO (by omega) hcur (pipeGetV_some he hg) ?_).mono ?_
          · intro w1 pb hc hp hbk _
            refine (read1_any D pb mb ob mo e r wr b (by omega) (by omega) l4 n2 (Nat.le_trans hDW hp) hDo w1 hbk (hc.blk hx (by simp)) (hc.blk ho (by simp))).mono ?_
            rintro x w2 ⟨rfl, hP, hk2, hon, hbe⟩
            exact ⟨by rw [h0]; rfl, ⟨hP, KeepD.step hc hbe⟩, hon, hbe.mono hBD⟩
          · rintro x w' ⟨rfl, hO1, hb1, hP, _⟩
            exact ⟨rfl, hO1.more (by omega), hb1, hP.1, KeepE.all hP.2⟩
        · have h1 : readErr cur epoch mo = pipeWriteErr e r wr (b.drop (rdCount b mo)) := by unfold readErr; rw [if_pos he, hg]; simp only [hw, hmn, if_neg h0]
          have h2 : readCur cur epoch mo = pipeWriteCur cur e r wr (b.drop (rdCount b mo)) := by unfold readCur; rw [if_pos he, hg]; simp only [hw, hmn, if_neg h0]
          rw [h1, h2, h3]
          have hpos : decide (0 < rdCount b mo) = true := by simp; omega
          have hbnd2 : (b.drop (rdCount b mo)).length ≤ 256 := by rw [List.length_drop]; omega
          refine (change_do W epoch 50 _ hent e r wr b e r wr (b.drop (rdCount b mo)) 9 (by decide) (fun v => Blk v ob #[.string (str (b.take (rdCount b mo)))] 9 ∧ KeepD D [99] W v) (fun a c h hc => ⟨hc.blk h.1 (by decide), h.2.then hc⟩) (by omega) (by omega) (by rw [List.length_drop]; omega) hm hb hO hk hcur (pipeGetV_some he hg) ?_ (by decide)).mono ?_
          · intro w1 pb hc hp hbk _
            refine (read1_any D pb mb ob mo e r wr b (by omega) (by omega) l4 n2 (Nat.le_trans hDW hp) hDo w1 hbk (hc.blk hx (by simp)) (hc.blk ho (by simp))).mono ?_
            rintro x w2 ⟨rfl, hP, hk2, hon, hbe⟩
            exact ⟨by rw [hpos], ⟨hP, KeepD.step hc hbe⟩, hk2, hon, hbe.mono hBD⟩
          · rintro x w' ⟨rfl, hO1, hb1, hP, _⟩
            exact ⟨rfl, hO1, hb1, hP.1, KeepE.ok (pipeWriteErr_ok l3 l1 l2 hbnd2) hP.2⟩

set_option maxRecDepth 100000 in
set_option maxHeartbeats 1600000 in
theorem read_any (w : World) (epoch most : Int) (hmo : most ≤ 9223372036854775807) (hm : m.length ≤ 1000000000) (hb : birthErr m n = 0) (hO : ObjIs B w vb base 11 m n 0 [] cur k) (hk : k < 999999) (hcur : (cur.getD []).length ≤ 1000000000) :
    Calls Tryz.prog 22 #[.pointer (some ⟨vb, 0, none⟩), birthV m n, .int .i64 epoch, .int .i64 most] w fun x w' =>
      x = .returned (.tuple #[.string (str (readS cur epoch most)), .int .i64 (readErr cur epoch most)]) ∧ ObjIs B w' vb base 11 m n 0 [] (readCur cur epoch most) (k + 2) ∧ Below B w w' ∧ CellsE (readErr cur epoch most) w w' := by
  have hB := hO.le
  have hbx := ((Blk.new w #[.string (str m), .int .i64 n] 47).alloc (.cells #[.int .i64 most] 3)).alloc (.cells #[.string (str [])] 9)
  have hsx := (Blk.new (w.alloc (.cells #[.string (str m), .int .i64 n] 47)) #[.int .i64 most] 3).alloc (.cells #[.string (str [])] 9)
  have hox := Blk.new ((w.alloc (.cells #[.string (str m), .int .i64 n] 47)).alloc (.cells #[.int .i64 most] 3)) #[.string (str [])] 9
  simp only [World.size_alloc] at hsx hox
  have hl0 := (Blk.new w #[.string (str m), .int .i64 n] 47).lt
  obtain ⟨b0, b1, _, _⟩ := hbx.two
  have hB0 : Below B w (((w.alloc (.cells #[.string (str m), .int .i64 n] 47)).alloc (.cells #[.int .i64 most] 3)).alloc (.cells #[.string (str [])] 9)) := (((Below.refl B w).alloc hB _).alloc (by simp; omega) _).alloc (by simp; omega) _
  have hO0 := hO.keep ((((Below.refl _ w).alloc (Nat.le_refl _) (.cells #[.string (str m), .int .i64 n] 47)).alloc (by simp) (.cells #[.int .i64 most] 3)).alloc (by simp; omega) (.cells #[.string (str [])] 9))
  have hmf : ∀ (fn : Fn) (first cap : Array Value) (w : World), (Instr.makeFunc fn first cap).run Tryz.prog w = .ok (.func fn first cap) w := fun _ _ _ _ => rfl
  have key := read_change w.heap.size _ (w.heap.size + 1) (w.heap.size + 1 + 1) epoch most hmo hm hb hO0 hk hcur hsx hox (by omega) hB (by omega) (by simp; omega)
  have Hkey := Lib.hid key; clear key hO hO0 hox hsx
  unfold birthV at *
  go_enter Tryz.func22, Tryz.ntmps22
  go_wp2_with (go_at_call 49; refine (Hkey.out).mono ?_; rintro x w2 ⟨rfl, hO2, hb2, hk2, hK2⟩; have o2 := hk2.cell 0)
  go_ret2
  exact ⟨rfl, hO2, hB0.trans hb2, cellsE_of_keep ((hB0.trans hb2).mono (Nat.zero_le _)) ((((Below.refl _ w).alloc (Nat.le_refl _) _).alloc (by simp) _).alloc (by simp; omega) _) hK2⟩
end
end Go.Proofs.YtoefldeoioagmaaGreatDoor

/- Plain: what the first example of the chapter does. -/
namespace Go.Proofs.YtoefldeoioagmaaGreatDoor
open Go.RowKit

theorem pipeGet_bytes {e r wr : Nat} {b : List UInt8} (h : pipeCheck e r wr b.length = 0) : pipeGet (some (pipeBytes e r wr b)) e = some (e, r, wr, b) := by
  unfold pipeGet
  rw [show (some (pipeBytes e r wr b)).getD [] = pipeBytes e r wr b from rfl, pipeDec_some.2 ⟨h, rfl⟩]
  simp
theorem pipeGet_none (epoch : Int) : pipeGet none epoch = none := by
  unfold pipeGet
  cases hd : pipeDec ((none : Option (List UInt8)).getD []) with
  | none => rfl
  | some q =>
    obtain ⟨e, r, wr, b⟩ := q
    have h := (pipeDec_some.1 hd).2
    have h2 := congrArg List.length h
    unfold pipeBytes at h2
    simp only [List.length_append] at h2
    have := natBytes_len_pos b.length
    simp at h2
    omega
theorem w4 : withinB 4 1073741824 = true := by decide
def kn (r wr : Nat) (b : List UInt8) : Option (List UInt8) := some (pipeBytes 4 r wr b)
theorem kn_get {r wr : Nat} {b : List UInt8} (h : pipeCheck 4 r wr b.length = 0) : pipeGet (kn r wr b) 4 = some (4, r, wr, b) := pipeGet_bytes (e := 4) h
theorem kn_len {r wr : Nat} {b : List UInt8} (h : pipeCheck 4 r wr b.length = 0) : ((kn r wr b).getD []).length ≤ 1000000000 := Nat.le_trans (pipeBytes_le (e := 4) h) (by decide)

theorem kn_make : makeErr none 4 = 0 ∧ makeCur none 4 = kn 1 1 [] := by
  constructor
  · unfold makeErr; rw [if_pos w4]; decide
  · unfold makeCur; rw [if_pos w4]; rfl
theorem kn_write : writeErr (kn 1 1 []) 4 [97, 98, 99] = 0 ∧ writeN (kn 1 1 []) 4 [97, 98, 99] = 3 ∧ writeCur (kn 1 1 []) 4 [97, 98, 99] = kn 1 1 [97, 98, 99] := by
  have hg := kn_get (r := 1) (wr := 1) (b := []) (by decide)
  refine ⟨?_, ?_, ?_⟩
  · unfold writeErr; rw [if_pos w4, hg]; decide
  · unfold writeN; rw [if_pos w4, hg]; decide
  · unfold writeCur; rw [if_pos w4, hg]; rfl
theorem kn_read1 : readErr (kn 1 1 [97, 98, 99]) 4 2 = 0 ∧ readS (kn 1 1 [97, 98, 99]) 4 2 = [97, 98] ∧ readCur (kn 1 1 [97, 98, 99]) 4 2 = kn 1 1 [99] := by
  have hg := kn_get (r := 1) (wr := 1) (b := [97, 98, 99]) (by decide)
  refine ⟨?_, ?_, ?_⟩
  · unfold readErr; rw [if_pos w4, hg]; decide
  · unfold readS; rw [if_pos w4, hg]; decide
  · unfold readCur; rw [if_pos w4, hg]; rfl
theorem kn_read2 : readErr (kn 1 1 [99]) 4 2 = 0 ∧ readS (kn 1 1 [99]) 4 2 = [99] ∧ readCur (kn 1 1 [99]) 4 2 = kn 1 1 [] := by
  have hg := kn_get (r := 1) (wr := 1) (b := [99]) (by decide)
  refine ⟨?_, ?_, ?_⟩
  · unfold readErr; rw [if_pos w4, hg]; decide
  · unfold readS; rw [if_pos w4, hg]; decide
  · unfold readCur; rw [if_pos w4, hg]; rfl
theorem kn_read3 : readErr (kn 1 1 []) 4 2 = 19 ∧ readS (kn 1 1 []) 4 2 = [] ∧ readCur (kn 1 1 []) 4 2 = kn 1 1 [] := by
  have hg := kn_get (r := 1) (wr := 1) (b := []) (by decide)
  refine ⟨?_, ?_, ?_⟩
  · unfold readErr; rw [if_pos w4, hg]; decide
  · unfold readS; rw [if_pos w4, hg]; decide
  · unfold readCur; rw [if_pos w4, hg]; rfl
theorem kn_leave1 : leaveErr (kn 1 1 []) 4 true = 0 ∧ leaveCur (kn 1 1 []) 4 true = kn 1 0 [] := by
  have hg := kn_get (r := 1) (wr := 1) (b := []) (by decide)
  constructor
  · unfold leaveErr; rw [if_pos w4, hg]; decide
  · unfold leaveCur; rw [if_pos w4, hg]; rfl
theorem kn_read4 : readErr (kn 1 0 []) 4 2 = 0 ∧ readS (kn 1 0 []) 4 2 = [] ∧ readCur (kn 1 0 []) 4 2 = kn 1 0 [] := by
  have hg := kn_get (r := 1) (wr := 0) (b := []) (by decide)
  refine ⟨?_, ?_, ?_⟩
  · unfold readErr; rw [if_pos w4, hg]; decide
  · unfold readS; rw [if_pos w4, hg]; decide
  · unfold readCur; rw [if_pos w4, hg]; rfl
theorem kn_leave2 : leaveErr (kn 1 0 []) 4 false = 0 ∧ leaveCur (kn 1 0 []) 4 false = none := by
  have hg := kn_get (r := 1) (wr := 0) (b := []) (by decide)
  constructor
  · unfold leaveErr; rw [if_pos w4, hg]; decide
  · unfold leaveCur; rw [if_pos w4, hg]; rfl
theorem kn_end : pipeGetV none 4 = .tuple #[pipeV 0 0 0 [], .int .i64 8] := pipeGetV_none w4 (pipeGet_none 4)
end Go.Proofs.YtoefldeoioagmaaGreatDoor

/- replevinlaw32: one, known. -/
namespace Go.Proofs.YtoefldeoioagmaaGreatDoor
open Go.RowKit

def oneM : List UInt8 := [51, 46, 49]
theorem one_ok : birthErr oneM 2 = 0 := by decide

set_option maxRecDepth 100000 in
set_option maxHeartbeats 400000 in
theorem one_any (w : World) : Calls Tryz.prog 20 #[] w fun e w' => e = .returned (birthV oneM 2) ∧ Below w.heap.size w w' := by
  have hn := Blk.new w #[.string (str oneM), .int .i64 2] 47
  obtain ⟨n0, n1, _, _⟩ := hn.two
  have Hs : Hid (str oneM = ⟨#[51, 46, 49]⟩) := rfl
  rw [Hs.out] at n0 n1
  unfold birthV
  go_enter Tryz.func20, Tryz.ntmps20
  go_wp2
  refine bodyPost_ret (v := .agg #[.string ⟨#[51, 46, 49]⟩, .int .i64 2]) (by simp [results, Tryz.results20, go_sem]) rfl ⟨by rw [Hs.out], below_alloc w _⟩

set_option maxRecDepth 100000 in
set_option maxHeartbeats 3200000 in
theorem known_any (w : World) : Calls Tryz.prog 9 #[] w fun e w' => e = .returned (.bool true) ∧ Below w.heap.size w w' := by
  have ho := one_any
  have Ho := Lib.hid ho; clear ho
  have hml : oneM.length ≤ 1000000000 := by decide
  have hb := one_ok
  obtain ⟨BV, hBV⟩ : ∃ v, v = birthV oneM 2 := ⟨_, rfl⟩
  rw [← hBV] at Ho
  have HBV := Lib.hid hBV; clear hBV
  go_enter Tryz.func9, Tryz.ntmps9
  go_wp2_with (first
    | (go_at_call 18; refine (stateNew_any _).mono ?_; rintro e w1 ⟨rfl, hs1, hb1⟩)
    | (go_at_call 17; refine (objNew w.heap.size 11 oneM 2 0 [] none w1 (baseSays_empty hs1 hs1.lt 11 oneM 2 0 [])).mono ?_; rintro e w2 ⟨vb, rfl, hO, hb2⟩)
    | (go_at_call 20; refine (Ho.out _).mono ?_; rintro e w3 ⟨rfl, hb3⟩))
  have hBel : Below w.heap.size w w3 := (hb1.trans (hb2.mono hb1.size)).trans (hb3.mono (Nat.le_trans hb1.size hb2.size))
  have hle := hb1.size
  have hO3 := hO.keep hb3
  clear hb3 hb2 hO hs1
  have H := make_any w3 4 hml hb hO3 (by omega)
  rw [← HBV.out] at H
  refine H.mono ?_
  clear H
  rintro e wB ⟨rfl, hOB, hbB, _⟩
  rw [kn_make.1]
  rw [kn_make.2] at hOB
  have hBel := hBel.trans (hbB.mono hle)
  clear hbB hO3
  go_wp2_with (go_at_call 20; refine (Ho.out _).mono ?_; rintro e w3 ⟨rfl, hb3⟩)
  have hBel := hBel.trans (hb3.mono hBel.size)
  have hO3 := hOB.keep hb3
  clear hb3 hOB
  have H := write_any w3 4 [97, 98, 99] (by decide) hml hb hO3 (by omega) (kn_len (by decide))
  rw [← HBV.out] at H
  refine H.mono ?_
  clear H
  rintro e wB ⟨rfl, hOB, hbB, _⟩
  rw [kn_write.1, kn_write.2.1]
  rw [kn_write.2.2] at hOB
  have hBel := hBel.trans (hbB.mono hle)
  clear hbB hO3
  go_wp2_with (go_at_call 20; refine (Ho.out _).mono ?_; rintro e w3 ⟨rfl, hb3⟩)
  have hBel := hBel.trans (hb3.mono hBel.size)
  have hO3 := hOB.keep hb3
  clear hb3 hOB
  have H := read_any w3 4 2 (by decide) hml hb hO3 (by omega) (kn_len (by decide))
  rw [← HBV.out] at H
  refine H.mono ?_
  clear H
  rintro e wB ⟨rfl, hOB, hbB, _⟩
  rw [kn_read1.1, kn_read1.2.1]
  rw [kn_read1.2.2] at hOB
  have hBel := hBel.trans (hbB.mono hle)
  clear hbB hO3
  go_wp2_with (go_at_call 20; refine (Ho.out _).mono ?_; rintro e w3 ⟨rfl, hb3⟩)
  have hBel := hBel.trans (hb3.mono hBel.size)
  have hO3 := hOB.keep hb3
  clear hb3 hOB
  have H := read_any w3 4 2 (by decide) hml hb hO3 (by omega) (kn_len (by decide))
  rw [← HBV.out] at H
  refine H.mono ?_
  clear H
  rintro e wB ⟨rfl, hOB, hbB, _⟩
  rw [kn_read2.1, kn_read2.2.1]
  rw [kn_read2.2.2] at hOB
  have hBel := hBel.trans (hbB.mono hle)
  clear hbB hO3
  go_wp2_with (go_at_call 20; refine (Ho.out _).mono ?_; rintro e w3 ⟨rfl, hb3⟩)
  have hBel := hBel.trans (hb3.mono hBel.size)
  have hO3 := hOB.keep hb3
  clear hb3 hOB
  have H := read_any w3 4 2 (by decide) hml hb hO3 (by omega) (kn_len (by decide))
  rw [← HBV.out] at H
  refine H.mono ?_
  clear H
  rintro e wB ⟨rfl, hOB, hbB, _⟩
  rw [kn_read3.1, kn_read3.2.1]
  rw [kn_read3.2.2] at hOB
  have hBel := hBel.trans (hbB.mono hle)
  clear hbB hO3
  go_wp2_with (go_at_call 20; refine (Ho.out _).mono ?_; rintro e w3 ⟨rfl, hb3⟩)
  have hBel := hBel.trans (hb3.mono hBel.size)
  have hO3 := hOB.keep hb3
  clear hb3 hOB
  have H := leave_any w3 4 true hml hb hO3 (by omega) (kn_len (by decide))
  rw [← HBV.out] at H
  refine H.mono ?_
  clear H
  rintro e wB ⟨rfl, hOB, hbB, _⟩
  rw [kn_leave1.1]
  rw [kn_leave1.2] at hOB
  have hBel := hBel.trans (hbB.mono hle)
  clear hbB hO3
  go_wp2_with (go_at_call 20; refine (Ho.out _).mono ?_; rintro e w3 ⟨rfl, hb3⟩)
  have hBel := hBel.trans (hb3.mono hBel.size)
  have hO3 := hOB.keep hb3
  clear hb3 hOB
  have H := read_any w3 4 2 (by decide) hml hb hO3 (by omega) (kn_len (by decide))
  rw [← HBV.out] at H
  refine H.mono ?_
  clear H
  rintro e wB ⟨rfl, hOB, hbB, _⟩
  rw [kn_read4.1, kn_read4.2.1]
  rw [kn_read4.2.2] at hOB
  have hBel := hBel.trans (hbB.mono hle)
  clear hbB hO3
  go_wp2_with (go_at_call 20; refine (Ho.out _).mono ?_; rintro e w3 ⟨rfl, hb3⟩)
  have hBel := hBel.trans (hb3.mono hBel.size)
  have hO3 := hOB.keep hb3
  clear hb3 hOB
  have H := leave_any w3 4 false hml hb hO3 (by omega) (kn_len (by decide))
  rw [← HBV.out] at H
  refine H.mono ?_
  clear H
  rintro e wB ⟨rfl, hOB, hbB, _⟩
  rw [kn_leave2.1]
  rw [kn_leave2.2] at hOB
  have hBel := hBel.trans (hbB.mono hle)
  clear hbB hO3
  go_wp2_with (go_at_call 20; refine (Ho.out _).mono ?_; rintro e w3 ⟨rfl, hb3⟩)
  have hBel := hBel.trans (hb3.mono hBel.size)
  have hO3 := hOB.keep hb3
  clear hb3 hOB
  have H := pipeGet_any w3 4 hml hb hO3 (by omega) (by simp)
  rw [← HBV.out, kn_end] at H
  refine H.mono ?_
  clear H
  rintro e wB ⟨rfl, hOB, hbB, _⟩
  have hBel := hBel.trans (hbB.mono hle)
  unfold pipeV
  have t1 : (str [97, 98]).toList = [97, 98] := str_toList _
  have t2 : (str [99]).toList = [99] := str_toList _
  have t3 : (str []).toList = [] := str_toList _
  go_wp2
  go_ret
  exact ⟨rfl, hBel.alloc hBel.size _⟩
end Go.Proofs.YtoefldeoioagmaaGreatDoor

/- pipe.Join. -/
namespace Go.Proofs.YtoefldeoioagmaaGreatDoor
open Go.RowKit

set_option maxRecDepth 100000 in
set_option maxHeartbeats 800000 in
theorem join1_any (pb xb : Nat) (writer : Bool) (e r wr : Nat) (b : List UInt8) (hr : r ≤ 64) (hwr : wr ≤ 64) (w : World) (hk : Blk w pb #[.int .i64 e, .int .i64 r, .int .i64 wr, .string (str b)] 28) (hx : Blk w xb #[.bool writer] 4) :
    Calls Tryz.prog 53 #[.pointer (some ⟨pb, 0, none⟩), .pointer (some ⟨xb, 0, none⟩)] w fun x w' =>
      if sideOf writer r wr = 0 then x = .returned (.tuple #[.bool false, .int .i64 20]) ∧ w = w' else if sideOf writer r wr = 64 then x = .returned (.tuple #[.bool false, .int .i64 9]) ∧ w = w' else x = .returned (.tuple #[.bool true, .int .i64 0]) ∧ w' = w.setCell ⟨pb, sideOff writer, none⟩ (.int .i64 (sideOf writer r wr + 1 : Nat)) := by
  obtain ⟨p0, p1, p2, p3, f0, f1, f2, f3⟩ := hk.quad
  have x0 := hx.cell 0
  have hs := fun w => side_any pb writer w
  have Hs := Lib.hid hs; clear hs hk hx
  cases writer with
  | true =>
    simp only [sideOff, sideOf, if_true] at Hs ⊢
    by_cases h0 : wr = 0
    · subst h0
      go_enter Tryz.func53, Tryz.ntmps53
      go_wp2_with (go_at_call 54; refine (Hs.out _).mono ?_; rintro x w2 ⟨rfl, rfl⟩)
      go_ret2
      exact ⟨rfl, rfl⟩
    · simp only [if_neg h0]
      by_cases h6 : wr = 64
      · subst h6
        go_enter Tryz.func53, Tryz.ntmps53
        go_wp2_with (go_at_call 54; refine (Hs.out _).mono ?_; rintro x w2 ⟨rfl, rfl⟩)
        go_ret2
        exact ⟨rfl, rfl⟩
      · simp only [if_neg h6]
        have hc : ((wr + 1 : Nat) : Int) = (wr : Int) + 1 := by omega
        rw [hc]
        have q1 : ((wr : Int) == 0) = false := by simp; omega
        have q2 : ((wr : Int) == 64) = false := by simp; omega
        clear hc h0 h6
        go_enter Tryz.func53, Tryz.ntmps53
        go_wp2_with (go_at_call 54; refine (Hs.out _).mono ?_; rintro x w2 ⟨rfl, rfl⟩)
        go_ret2
        exact ⟨rfl, rfl⟩
  | false =>
    simp only [sideOff, sideOf, if_false, Bool.false_eq_true] at Hs ⊢
    by_cases h0 : r = 0
    · subst h0
      go_enter Tryz.func53, Tryz.ntmps53
      go_wp2_with (go_at_call 54; refine (Hs.out _).mono ?_; rintro x w2 ⟨rfl, rfl⟩)
      go_ret2
      exact ⟨rfl, rfl⟩
    · simp only [if_neg h0]
      by_cases h6 : r = 64
      · subst h6
        go_enter Tryz.func53, Tryz.ntmps53
        go_wp2_with (go_at_call 54; refine (Hs.out _).mono ?_; rintro x w2 ⟨rfl, rfl⟩)
        go_ret2
        exact ⟨rfl, rfl⟩
      · simp only [if_neg h6]
        have hc : ((r + 1 : Nat) : Int) = (r : Int) + 1 := by omega
        rw [hc]
        have q1 : ((r : Int) == 0) = false := by simp; omega
        have q2 : ((r : Int) == 64) = false := by simp; omega
        clear hc h0 h6
        go_enter Tryz.func53, Tryz.ntmps53
        go_wp2_with (go_at_call 54; refine (Hs.out _).mono ?_; rintro x w2 ⟨rfl, rfl⟩)
        go_ret2
        exact ⟨rfl, rfl⟩

def moreR (writer : Bool) (r : Nat) : Nat := if writer = true then r else r + 1
def moreW (writer : Bool) (wr : Nat) : Nat := if writer = true then wr + 1 else wr
def joinErr (cur : Option (List UInt8)) (epoch : Int) (writer : Bool) : Int :=
  if withinB epoch 1073741824 = true then
    match pipeGet cur epoch with
    | none => 8
    | some (e, r, wr, b) => if sideOf writer r wr = 0 then 20 else if sideOf writer r wr = 64 then 9 else pipeWriteErr e (moreR writer r) (moreW writer wr) b
  else 2
def joinCur (cur : Option (List UInt8)) (epoch : Int) (writer : Bool) : Option (List UInt8) :=
  if withinB epoch 1073741824 = true then
    match pipeGet cur epoch with
    | none => cur
    | some (e, r, wr, b) => if sideOf writer r wr = 0 then cur else if sideOf writer r wr = 64 then cur else pipeWriteCur cur e (moreR writer r) (moreW writer wr) b
  else cur

theorem more_blk {w : World} {pb : Nat} {writer : Bool} {e r wr : Nat} {b : List UInt8} (h : Blk w pb #[.int .i64 e, .int .i64 r, .int .i64 wr, .string (str b)] 28) :
    Blk (w.setCell ⟨pb, sideOff writer, none⟩ (.int .i64 (sideOf writer r wr + 1 : Nat))) pb #[.int .i64 e, .int .i64 (moreR writer r), .int .i64 (moreW writer wr), .string (str b)] 28 := by
  cases writer with
  | true => exact (h.set 2 _).congr rfl
  | false => exact (h.set 1 _).congr rfl

section
variable {B : Nat} {vb : Nat} {base : Value} {m : List UInt8} {n : Int} {cur : Option (List UInt8)} {k : Nat}
set_option maxRecDepth 100000 in
set_option maxHeartbeats 1600000 in
theorem join_any (w : World) (epoch : Int) (writer : Bool) (hm : m.length ≤ 1000000000) (hb : birthErr m n = 0) (hO : ObjIs B w vb base 11 m n 0 [] cur k) (hk : k < 999999) (hcur : (cur.getD []).length ≤ 1000000000) :
    Calls Tryz.prog 26 #[.pointer (some ⟨vb, 0, none⟩), birthV m n, .int .i64 epoch, .bool writer] w fun x w' => x = .returned (.int .i64 (joinErr cur epoch writer)) ∧ ObjIs B w' vb base 11 m n 0 [] (joinCur cur epoch writer) (k + 2) ∧ Below B w w' ∧ CellsE (joinErr cur epoch writer) w w' := by
  have hB := hO.le
  have hbx := (Blk.new w #[.string (str m), .int .i64 n] 47).alloc (.cells #[.bool writer] 4)
  have hwx := Blk.new (w.alloc (.cells #[.string (str m), .int .i64 n] 47)) #[.bool writer] 4
  simp only [World.size_alloc] at hwx
  have hl0 := (Blk.new w #[.string (str m), .int .i64 n] 47).lt
  obtain ⟨b0, b1, _, _⟩ := hbx.two
  have hB0 : Below B w ((w.alloc (.cells #[.string (str m), .int .i64 n] 47)).alloc (.cells #[.bool writer] 4)) := ((Below.refl B w).alloc hB _).alloc (by simp; omega) _
  have hO0 := hO.keep (((Below.refl _ w).alloc (Nat.le_refl _) (.cells #[.string (str m), .int .i64 n] 47)).alloc (by simp) (.cells #[.bool writer] 4))
  have hmf : ∀ (fn : Fn) (first cap : Array Value) (w : World), (Instr.makeFunc fn first cap).run Tryz.prog w = .ok (.func fn first cap) w := fun _ _ _ _ => rfl
  have hent : ∀ args w, (callFunc 53 args).run Tryz.prog w = .ok (.enter 53 args) w := enters_of Tryz.func53 (by kernel_rfl) rfl
  obtain ⟨W, hW⟩ : ∃ W, W = (w.alloc (.cells #[.string (str m), .int .i64 n] 47)).alloc (.cells #[.bool writer] 4) := ⟨_, rfl⟩
  have key : Calls Tryz.prog 49 #[.pointer (some ⟨vb, 0, none⟩), birthV m n, .int .i64 epoch, .func (.func 53) #[] #[.pointer (some ⟨w.heap.size + 1, 0, none⟩)]] W fun x w' => x = .returned (.int .i64 (joinErr cur epoch writer)) ∧ ObjIs B w' vb base 11 m n 0 [] (joinCur cur epoch writer) (k + 2) ∧ Below B W w' ∧ KeepE w.heap.size (joinErr cur epoch writer) W w' := by
    have hDW : w.heap.size ≤ W.heap.size := by rw [hW]; simp; omega
    rw [← hW] at hO0 hwx
    cases he : withinB epoch 1073741824 with
    | false =>
      have h1 : joinErr cur epoch writer = 2 := by unfold joinErr; rw [if_neg (by rw [he]; decide)]
      have h2 : joinCur cur epoch writer = cur := by unfold joinCur; rw [if_neg (by rw [he]; decide)]
      rw [h1, h2]
      refine (change_err W epoch _ 2 (by decide) hm hb hO0 (by omega) hcur (pipeGetV_out he)).mono ?_
      rintro x w' ⟨rfl, hO1, hb1, hc1⟩
      exact ⟨rfl, hO1.more (by omega), hb1, KeepE.all (KeepD.of_cells hc1)⟩
    | true =>
      cases hg : pipeGet cur epoch with
      | none =>
        have h1 : joinErr cur epoch writer = 8 := by unfold joinErr; rw [if_pos he, hg]
        have h2 : joinCur cur epoch writer = cur := by unfold joinCur; rw [if_pos he, hg]
        rw [h1, h2]
        refine (change_err W epoch _ 8 (by decide) hm hb hO0 (by omega) hcur (pipeGetV_none he hg)).mono ?_
        rintro x w' ⟨rfl, hO1, hb1, hc1⟩
        exact ⟨rfl, hO1.more (by omega), hb1, KeepE.all (KeepD.of_cells hc1)⟩
      | some q =>
        obtain ⟨e, r, wr, b⟩ := q
        obtain ⟨l1, l2, l3, l4, l5, l6⟩ := pipeGet_some hg
        by_cases h0 : sideOf writer r wr = 0
        · have h1 : joinErr cur epoch writer = 20 := by unfold joinErr; rw [if_pos he, hg]; simp only [if_pos h0]
          have h2 : joinCur cur epoch writer = cur := by unfold joinCur; rw [if_pos he, hg]; simp only [if_pos h0]
          rw [h1, h2]
          refine (change_not W epoch 53 _ hent e r wr b false 20 (.inr rfl) 28 (by decide) (fun v => KeepD w.heap.size [] W v) hm hb hO0 (by omega) hcur (pipeGetV_some he hg) ?_).mono ?_
          · intro w1 pb hc hp hbk _
            refine (join1_any pb (w.heap.size + 1) writer e r wr b l1 l2 w1 hbk (hc.blk hwx (by simp))).mono ?_
            intro x w2 h
            rw [if_pos h0] at h
            obtain ⟨rfl, rfl⟩ := h
            exact ⟨rfl, KeepD.step hc (Below.refl _ _), Only.refl _ _, Below.refl _ _⟩
          · rintro x w' ⟨rfl, hO1, hb1, hK, _⟩
            exact ⟨rfl, hO1.more (by omega), hb1, KeepE.all hK⟩
        · by_cases h6 : sideOf writer r wr = 64
          · have h1 : joinErr cur epoch writer = 9 := by unfold joinErr; rw [if_pos he, hg]; simp only [if_neg h0, if_pos h6]
            have h2 : joinCur cur epoch writer = cur := by unfold joinCur; rw [if_pos he, hg]; simp only [if_neg h0, if_pos h6]
            rw [h1, h2]
            refine (change_not W epoch 53 _ hent e r wr b false 9 (.inr rfl) 28 (by decide) (fun v => KeepD w.heap.size [] W v) hm hb hO0 (by omega) hcur (pipeGetV_some he hg) ?_).mono ?_
            · intro w1 pb hc hp hbk _
              refine (join1_any pb (w.heap.size + 1) writer e r wr b l1 l2 w1 hbk (hc.blk hwx (by simp))).mono ?_
              intro x w2 h
              rw [if_neg h0, if_pos h6] at h
              obtain ⟨rfl, rfl⟩ := h
              exact ⟨rfl, KeepD.step hc (Below.refl _ _), Only.refl _ _, Below.refl _ _⟩
            · rintro x w' ⟨rfl, hO1, hb1, hK, _⟩
              exact ⟨rfl, hO1.more (by omega), hb1, KeepE.all hK⟩
          · have h1 : joinErr cur epoch writer = pipeWriteErr e (moreR writer r) (moreW writer wr) b := by unfold joinErr; rw [if_pos he, hg]; simp only [if_neg h0, if_neg h6]
            have h2 : joinCur cur epoch writer = pipeWriteCur cur e (moreR writer r) (moreW writer wr) b := by unfold joinCur; rw [if_pos he, hg]; simp only [if_neg h0, if_neg h6]
            rw [h1, h2]
            have r1 : moreR writer r ≤ 64 := by unfold moreR; split <;> (unfold sideOf at h0 h6; simp_all) <;> omega
            have r2 : moreW writer wr ≤ 64 := by unfold moreW; split <;> (unfold sideOf at h0 h6; simp_all) <;> omega
            refine (change_do W epoch 53 _ hent e r wr b e (moreR writer r) (moreW writer wr) b 28 (by decide) (fun v => KeepD w.heap.size [99] W v) (fun _ _ h hc => h.then hc) (by omega) (by omega) (by omega) hm hb hO0 hk hcur (pipeGetV_some he hg) ?_ (by decide)).mono ?_
            · intro w1 pb hc hp hbk _
              refine (join1_any pb (w.heap.size + 1) writer e r wr b l1 l2 w1 hbk (hc.blk hwx (by simp))).mono ?_
              intro x w2 h
              rw [if_neg h0, if_neg h6] at h
              obtain ⟨rfl, rfl⟩ := h
              exact ⟨rfl, KeepD.step hc ((Below.refl _ _).setCell (p := ⟨pb, sideOff writer, none⟩) (Nat.le_trans hDW hp) _), more_blk hbk, Only.set hbk (by simp) _, (Below.refl _ _).setCell (p := ⟨pb, sideOff writer, none⟩) (Nat.le_trans hO0.le hp) _⟩
            · rintro x w' ⟨rfl, hO1, hb1, hK, _⟩
              exact ⟨rfl, hO1, hb1, KeepE.ok (pipeWriteErr_ok l3 r1 r2 l4) hK⟩
  rw [hW] at key
  have Hkey := Lib.hid key; clear key hW hO hO0 hwx
  unfold birthV at *
  go_enter Tryz.func26, Tryz.ntmps26
  go_wp2_with (go_at_call 49; refine (Hkey.out).mono ?_; rintro x w2 ⟨rfl, hO2, hb2, hK2⟩)
  go_ret
  exact ⟨rfl, hO2, hB0.trans hb2, cellsE_of_keep ((hB0.trans hb2).mono (Nat.zero_le _)) (((Below.refl _ w).alloc (Nat.le_refl _) _).alloc (by simp) _) hK2⟩
end
end Go.Proofs.YtoefldeoioagmaaGreatDoor

/- Plain: pipes of which one side has some descriptors, the other one has one. -/
namespace Go.Proofs.YtoefldeoioagmaaGreatDoor
open Go.RowKit

/-- the object of a pipe -/
def pp (e r wr : Nat) (b : List UInt8) : Option (List UInt8) := some (pipeBytes e r wr b)
theorem pp_get {e r wr : Nat} {b : List UInt8} (h : pipeCheck e r wr b.length = 0) : pipeGet (pp e r wr b) e = some (e, r, wr, b) := pipeGet_bytes h
theorem pp_len {e r wr : Nat} {b : List UInt8} (h : pipeCheck e r wr b.length = 0) : ((pp e r wr b).getD []).length ≤ 1000000000 := Nat.le_trans (pipeBytes_le h) (by decide)
theorem within_nat {e : Nat} (he : e ≤ 1073741824) : withinB (e : Int) 1073741824 = true := withinB_iff.2 (by omega)

theorem join_pp {e r wr : Nat} {b : List UInt8} (writer : Bool) (h : pipeCheck e r wr b.length = 0) :
    joinErr (pp e r wr b) e writer = (if sideOf writer r wr = 0 then 20 else if sideOf writer r wr = 64 then 9 else 0) ∧
    joinCur (pp e r wr b) e writer = (if sideOf writer r wr = 0 then pp e r wr b else if sideOf writer r wr = 64 then pp e r wr b else pp e (moreR writer r) (moreW writer wr) b) := by
  obtain ⟨h1, h2, h3, h4, h5⟩ := pipeCheck_range h
  have hw := within_nat (e := e) (by omega)
  constructor
  · unfold joinErr
    rw [if_pos hw, pp_get h]
    simp only
    split
    · rfl
    · split
      · rfl
      · have hs : sideOf writer r wr < 64 ∧ moreR writer r ≤ 64 ∧ moreW writer wr ≤ 64 ∧ moreR writer r + moreW writer wr ≠ 0 := by
          cases writer <;> simp [sideOf, moreR, moreW] at * <;> omega
        unfold pipeWriteErr
        rw [if_neg (by omega), pp_ok (by omega) hs.2.1 hs.2.2.1 hs.2.2.2 h5]
        rfl
  · unfold joinCur
    rw [if_pos hw, pp_get h]
    simp only
    split
    · rfl
    · split
      · rfl
      · have hs : sideOf writer r wr < 64 ∧ moreR writer r ≤ 64 ∧ moreW writer wr ≤ 64 ∧ moreR writer r + moreW writer wr ≠ 0 := by
          cases writer <;> simp [sideOf, moreR, moreW] at * <;> omega
        unfold pipeWriteCur
        rw [if_neg (by omega), if_pos (pp_ok (by omega) hs.2.1 hs.2.2.1 hs.2.2.2 h5)]
        rfl
theorem leave_pp {e r wr : Nat} {b : List UInt8} (writer : Bool) (h : pipeCheck e r wr b.length = 0) :
    leaveErr (pp e r wr b) e writer = (if sideOf writer r wr = 0 then 20 else 0) ∧
    leaveCur (pp e r wr b) e writer = (if sideOf writer r wr = 0 then pp e r wr b else if lessR writer r + lessW writer wr = 0 then none else pp e (lessR writer r) (lessW writer wr) b) := by
  obtain ⟨h1, h2, h3, h4, h5⟩ := pipeCheck_range h
  have hw := within_nat (e := e) (by omega)
  have hs : lessR writer r ≤ 64 ∧ lessW writer wr ≤ 64 := by
    cases writer <;> simp [lessR, lessW] at * <;> omega
  constructor
  · unfold leaveErr
    rw [if_pos hw, pp_get h]
    simp only
    split
    · rfl
    · unfold pipeWriteErr
      split
      · rfl
      · rw [pp_ok (by omega) hs.1 hs.2 (by omega) h5]
        rfl
  · unfold leaveCur
    rw [if_pos hw, pp_get h]
    simp only
    split
    · rfl
    · unfold pipeWriteCur
      by_cases h0 : lessR writer r + lessW writer wr = 0
      · rw [if_pos (by omega), if_pos h0]
      · rw [if_neg (by omega), if_pos (pp_ok (by omega) hs.1 hs.2 h0 h5), if_neg h0]
        rfl
theorem getV_pp {e r wr : Nat} {b : List UInt8} (h : pipeCheck e r wr b.length = 0) : pipeGetV (pp e r wr b) e = .tuple #[pipeV e r wr b, .int .i64 0] := by
  obtain ⟨h1, h2, h3, h4, h5⟩ := pipeCheck_range h
  exact pipeGetV_some (within_nat (by omega)) (pp_get h)

def esR (writer : Bool) (n : Nat) : Nat := if writer = true then 1 else n
def esW (writer : Bool) (n : Nat) : Nat := if writer = true then n else 1
/-- the side has n descriptors, the other one has one -/
def es (writer : Bool) (n : Nat) : Option (List UInt8) := pp 0 (esR writer n) (esW writer n) []
theorem es_ok (writer : Bool) {n : Nat} (hn : n ≤ 64) : pipeCheck (0 : Nat) (esR writer n) (esW writer n) ([] : List UInt8).length = 0 :=
  pp_ok (by decide) (by cases writer <;> simp [esR] <;> omega) (by cases writer <;> simp [esW] <;> omega) (by cases writer <;> simp [esR, esW]) (by simp)
theorem es_len (writer : Bool) {n : Nat} (hn : n ≤ 64) : ((es writer n).getD []).length ≤ 1000000000 := pp_len (es_ok writer hn)
theorem es_side (writer : Bool) (n : Nat) : sideOf writer (esR writer n) (esW writer n) = n := by cases writer <;> simp [sideOf, esR, esW]
theorem es_join (writer : Bool) {n : Nat} (h1 : 1 ≤ n) (hn : n ≤ 63) : joinErr (es writer n) 0 writer = 0 ∧ joinCur (es writer n) 0 writer = es writer (n + 1) := by
  have h := join_pp writer (es_ok writer (n := n) (by omega))
  rw [es_side, if_neg (by omega), if_neg (by omega), if_neg (by omega), if_neg (by omega)] at h
  refine ⟨h.1, h.2.trans ?_⟩
  cases writer <;> simp [es, moreR, moreW, esR, esW]
theorem es_full (writer : Bool) : joinErr (es writer 64) 0 writer = 9 ∧ joinCur (es writer 64) 0 writer = es writer 64 := by
  have h := join_pp writer (es_ok writer (n := 64) (by omega))
  rw [es_side, if_neg (by omega), if_pos rfl, if_neg (by omega), if_pos rfl] at h
  exact h
theorem es_joinNone (writer : Bool) : joinErr (es writer 0) 0 writer = 20 ∧ joinCur (es writer 0) 0 writer = es writer 0 := by
  have h := join_pp writer (es_ok writer (n := 0) (by omega))
  rw [es_side, if_pos rfl, if_pos rfl] at h
  exact h
theorem es_leave (writer : Bool) {n : Nat} (h1 : 1 ≤ n) (hn : n ≤ 64) : leaveErr (es writer n) 0 writer = 0 ∧ leaveCur (es writer n) 0 writer = es writer (n - 1) := by
  have h := leave_pp writer (es_ok writer (n := n) (by omega))
  rw [es_side, if_neg (by omega), if_neg (by omega), if_neg (by cases writer <;> simp [lessR, lessW, esR, esW])] at h
  refine ⟨h.1, h.2.trans ?_⟩
  cases writer <;> simp [es, lessR, lessW, esR, esW]
theorem es_leaveNone (writer : Bool) : leaveErr (es writer 0) 0 writer = 20 ∧ leaveCur (es writer 0) 0 writer = es writer 0 := by
  have h := leave_pp writer (es_ok writer (n := 0) (by omega))
  rw [es_side, if_pos rfl, if_pos rfl] at h
  exact h
theorem es_last (writer : Bool) : leaveErr (es writer 0) 0 (!writer) = 0 ∧ leaveCur (es writer 0) 0 (!writer) = none := by
  have h := leave_pp (!writer) (es_ok writer (n := 0) (by omega))
  have h1 : sideOf (!writer) (esR writer 0) (esW writer 0) = 1 := by cases writer <;> rfl
  have h2 : lessR (!writer) (esR writer 0) + lessW (!writer) (esW writer 0) = 0 := by cases writer <;> rfl
  rw [h1, h2, if_neg (by omega), if_neg (by omega), if_pos rfl] at h
  exact h
theorem es_get (writer : Bool) : pipeGetV (es writer 0) 0 = .tuple #[pipeV 0 (esR writer 0) (esW writer 0) [], .int .i64 0] := getV_pp (es_ok writer (n := 0) (by omega))
theorem es_sum (writer : Bool) : ((esR writer 0 : Nat) : Int) + ((esW writer 0 : Nat) : Int) = 1 := by cases writer <;> rfl
theorem es_make (writer : Bool) : makeErr none 0 = 0 ∧ makeCur none 0 = es writer 1 := by
  have hw : withinB 0 1073741824 = true := by decide
  constructor
  · unfold makeErr; rw [if_pos hw]; decide
  · unfold makeCur; rw [if_pos hw]; cases writer <;> rfl
theorem none_get : pipeGetV none 0 = .tuple #[pipeV 0 0 0 [], .int .i64 8] := pipeGetV_none (by decide) (pipeGet_none 0)
end Go.Proofs.YtoefldeoioagmaaGreatDoor

/- The pipe's functions at the one birth of the statements. -/
namespace Go.Proofs.YtoefldeoioagmaaGreatDoor
open Go.RowKit

/-- the birth, as a value -/
def oneV : Value := birthV oneM 2
/-- the view shows the pipe of that birth as cur -/
def PipeIs (B : Nat) (w : World) (vb : Nat) (base : Value) (cur : Option (List UInt8)) (k : Nat) : Prop := ObjIs B w vb base 11 oneM 2 0 [] cur k
theorem oneM_le : oneM.length ≤ 1000000000 := by decide
theorem PipeIs.keep {B : Nat} {w w' : World} {vb : Nat} {base : Value} {cur : Option (List UInt8)} {k : Nat} (h : PipeIs B w vb base cur k) (hb : Below w.heap.size w w') : PipeIs B w' vb base cur k := ObjIs.keep h hb
theorem PipeIs.more {B : Nat} {w : World} {vb : Nat} {base : Value} {cur : Option (List UInt8)} {k k' : Nat} (h : PipeIs B w vb base cur k) (hk : k ≤ k') : PipeIs B w vb base cur k' := ObjIs.more h hk
theorem PipeIs.le {B : Nat} {w : World} {vb : Nat} {base : Value} {cur : Option (List UInt8)} {k : Nat} (h : PipeIs B w vb base cur k) : B ≤ w.heap.size := ObjIs.le h

theorem oOne (w : World) : Calls Tryz.prog 20 #[] w fun e w' => e = .returned oneV ∧ Below w.heap.size w w' := one_any w
theorem oNew {sb : Nat} {w : World} (h : Blk w sb #[.pointer none] 102) :
    Calls Tryz.prog 17 #[.pointer (some ⟨sb, 0, none⟩)] w fun e w' => ∃ vb, e = .returned (.pointer (some ⟨vb, 0, none⟩)) ∧ PipeIs w.heap.size w' vb (.pointer (some ⟨sb, 0, none⟩)) none 0 ∧ Below w.heap.size w w' :=
  objNew sb 11 oneM 2 0 [] none w (baseSays_empty h h.lt 11 oneM 2 0 [])
section
variable {B : Nat} {w : World} {vb : Nat} {base : Value} {cur : Option (List UInt8)} {k : Nat}
theorem oMake (h : PipeIs B w vb base cur k) (hk : k < 999999) (epoch : Int) :
    Calls Tryz.prog 19 #[.pointer (some ⟨vb, 0, none⟩), oneV, .int .i64 epoch] w fun x w' => x = .returned (.int .i64 (makeErr cur epoch)) ∧ PipeIs B w' vb base (makeCur cur epoch) (k + 2) ∧ Below B w w' ∧ Cells [99] w w' :=
  (make_any w epoch oneM_le one_ok h hk)
theorem oJoin (h : PipeIs B w vb base cur k) (hk : k < 999999) (hcur : (cur.getD []).length ≤ 1000000000) (epoch : Int) (writer : Bool) :
    Calls Tryz.prog 26 #[.pointer (some ⟨vb, 0, none⟩), oneV, .int .i64 epoch, .bool writer] w fun x w' => x = .returned (.int .i64 (joinErr cur epoch writer)) ∧ PipeIs B w' vb base (joinCur cur epoch writer) (k + 2) ∧ Below B w w' ∧ CellsE (joinErr cur epoch writer) w w' :=
  join_any w epoch writer oneM_le one_ok h hk hcur
theorem oLeave (h : PipeIs B w vb base cur k) (hk : k < 999999) (hcur : (cur.getD []).length ≤ 1000000000) (epoch : Int) (writer : Bool) :
    Calls Tryz.prog 27 #[.pointer (some ⟨vb, 0, none⟩), oneV, .int .i64 epoch, .bool writer] w fun x w' => x = .returned (.int .i64 (leaveErr cur epoch writer)) ∧ PipeIs B w' vb base (leaveCur cur epoch writer) (k + 2) ∧ Below B w w' ∧ CellsE (leaveErr cur epoch writer) w w' :=
  leave_any w epoch writer oneM_le one_ok h hk hcur
theorem oWrite (h : PipeIs B w vb base cur k) (hk : k < 999999) (hcur : (cur.getD []).length ≤ 1000000000) (epoch : Int) (s : List UInt8) (hs : s.length ≤ 1000000000) :
    Calls Tryz.prog 23 #[.pointer (some ⟨vb, 0, none⟩), oneV, .int .i64 epoch, .string (str s)] w fun x w' => x = .returned (.tuple #[.int .i64 (writeN cur epoch s), .int .i64 (writeErr cur epoch s)]) ∧ PipeIs B w' vb base (writeCur cur epoch s) (k + 2) ∧ Below B w w' ∧ CellsE (writeErr cur epoch s) w w' :=
  write_any w epoch s hs oneM_le one_ok h hk hcur
theorem oRead (h : PipeIs B w vb base cur k) (hk : k < 999999) (hcur : (cur.getD []).length ≤ 1000000000) (epoch most : Int) (hmo : most ≤ 9223372036854775807) :
    Calls Tryz.prog 22 #[.pointer (some ⟨vb, 0, none⟩), oneV, .int .i64 epoch, .int .i64 most] w fun x w' => x = .returned (.tuple #[.string (str (readS cur epoch most)), .int .i64 (readErr cur epoch most)]) ∧ PipeIs B w' vb base (readCur cur epoch most) (k + 2) ∧ Below B w w' ∧ CellsE (readErr cur epoch most) w w' :=
  read_any w epoch most hmo oneM_le one_ok h hk hcur
theorem oGet (h : PipeIs B w vb base cur k) (hk : k < 999999) (hcur : (cur.getD []).length ≤ 1000000000) (epoch : Int) :
    Calls Tryz.prog 25 #[.pointer (some ⟨vb, 0, none⟩), oneV, .int .i64 epoch] w fun x w' => x = .returned (pipeGetV cur epoch) ∧ PipeIs B w' vb base cur (k + 1) ∧ Below B w w' ∧ Cells [99] w w' :=
  (pipeGet_any w epoch oneM_le one_ok h (by omega) hcur).mono fun _ _ ⟨a, b, c, d⟩ => ⟨a, b, c, d.more (by simp)⟩
/-- the name of the pipe's object -/
def oneName : Value := nameV 11 oneM 2 0 []
theorem oName (w : World) : Calls Tryz.prog 29 #[oneV] w fun e w' => e = .returned oneName ∧ Below w.heap.size w w' := ofPipe_any oneM 2 w
theorem oHas (h : PipeIs B w vb base cur k) (hk : k < 999999) :
    Calls Tryz.prog 28 #[.pointer (some ⟨vb, 0, none⟩), oneName] w fun e w' => e = .returned (.bool cur.isSome) ∧ PipeIs B w' vb base cur (k + 1) ∧ Below B w w' ∧ Cells [99] w w' :=
  (objHas (nameOk_pipe oneM 2 oneM_le one_ok) h (by omega)).mono fun _ _ ⟨a, b, c, d⟩ => ⟨a, b, c, d.more (by simp)⟩
theorem oViewGet (h : PipeIs B w vb base cur k) (hk : k < 999999) :
    Calls Tryz.prog 52 #[.pointer (some ⟨vb, 0, none⟩), oneName] w fun e w' => e = .returned (retV cur) ∧ PipeIs B w' vb base cur (k + 1) ∧ Below B w w' ∧ Cells [99] w w' :=
  (objGet (nameOk_pipe oneM 2 oneM_le one_ok) h (by omega)).mono fun _ _ ⟨a, b, c, d⟩ => ⟨a, b, c, d.more (by simp)⟩
end
end Go.Proofs.YtoefldeoioagmaaGreatDoor
