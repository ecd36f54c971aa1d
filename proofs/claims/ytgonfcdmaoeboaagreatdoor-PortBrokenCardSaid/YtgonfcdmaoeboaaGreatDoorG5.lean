/- Contracts of functions on the way to the claim, proved for every input that their hypotheses let by; no condition of the claim. Joined of: M2 V1 V2 V3 V4 V5 V6 O1 O2 O3 K1. -/
import Derived.DeepKeys4
import Derived.WalkArith
import Derived.Deep.RegionHeld3
import Derived.Deep.AppendLies
import Derived.Deep.RegionLaw
import Derived.Test.YtgonfcdmaoeboaaGreatDoorRows
import Derived.Test.YtgonfcdmaoeboaaGreatDoorTie
import Derived.Test.YtgonfcdmaoeboaaGreatDoorCards
import Derived.WalkKit
import Derived.ProofKit
import Derived.OpenShut
import Derived.Lay
import Derived.Handed
import Derived.Carry
import Derived.Lib.SmallJoins
import Derived.Test.YtgonfcdmaoeboaaGreatDoorG1
import Derived.Test.YtgonfcdmaoeboaaGreatDoorG4

/- The view's maps: keys that are names of objects. -/
namespace Go.Proofs.YtgonfcdmaoeboaaGreatDoor
open Go.RowKit
open Go.Maps (Keyed)

theorem laidOut : laidOutB Tryz.prog = true := by kernel_rfl
theorem rowName : (69 : TypeId) < Tryz.prog.types.size := of_decide_eq_true (by kernel_rfl)
theorem wideName : (match Tryz.prog.underlying 69 with | some (.array _ _) | some (.struct _) => true | _ => false) = true := by rw [Tryz.underlying69]
set_option maxRecDepth 100000 in
theorem lawName : WideMaps.KeyLaw Tryz.prog 69 := deep_law_laid laidOut (m := 3) (by omega) rowName (by kernel_rfl) wideName
theorem keyedName : Keyed Tryz.prog 69 := Keyed.of_law lawName
set_option maxRecDepth 100000 in
theorem zeroChange (w : World) : (zeroValue 81).run Tryz.prog w = .ok (.agg #[.int .i64 0, .string (str []), .int .i64 0, .int .i64 0, .string (str []), .string (str []), .bool false]) w := by kernel_rfl
set_option maxRecDepth 100000 in
/-- a name reads as some key -/
theorem keyName (K : Nat) (m : List UInt8) (n i : Int) (t : List UInt8) (hK : K ≤ 20) (hm : m.length ≤ 1000000000) (hn : 0 ≤ n ∧ n ≤ 1073741824) (hi : 0 ≤ i ∧ i ≤ 1073741824) (ht : t.length ≤ 1000000000) :
    ∃ l, keyOf Tryz.prog 69 (nameV K m n i t) = some l := by
  have hkt : Tryz.prog.keyType 69 = true := by kernel_rfl
  have hu := Tryz.underlying69
  have c0 : Tryz.prog.cellsOf 69 = 5 := by kernel_rfl
  have c1 : Tryz.prog.cellsOf 3 = 1 := by kernel_rfl
  have c2 : Tryz.prog.cellsOf 22 = 1 := by kernel_rfl
  have c3 : Tryz.prog.cellsOf 9 = 1 := by kernel_rfl
  obtain ⟨d, hd⟩ : ∃ d, Tryz.prog.types.size + 1 = d + 1 + 1 := ⟨Tryz.prog.types.size - 1, by have := rowName; have h : Tryz.prog.types.size - 1 + 1 = Tryz.prog.types.size := Nat.sub_add_cancel (Nat.lt_of_le_of_lt (Nat.zero_le _) this); rw [h]⟩
  have w1 : (Lit.int .i64 K).wf = true := WalkArith.wf_i64 (by omega)
  have w2 : (Lit.int .i64 n).wf = true := WalkArith.wf_i64 (by omega)
  have w3 : (Lit.int .i64 i).wf = true := WalkArith.wf_i64 (by omega)
  have s1 : (str m).size ≤ maxLen := by rw [str_size]; unfold maxLen; omega
  have s2 : (str t).size ≤ maxLen := by rw [str_size]; unfold maxLen; omega
  unfold keyOf nameV
  rw [hu, hd]
  simp [hkt, Value.formed, hu, c0, Value.cells, Program.keyLits, c1, c2, c3, Tryz.underlying3, Tryz.underlying22, Tryz.underlying9, w1, w2, w3, s1, s2]
end Go.Proofs.YtgonfcdmaoeboaaGreatDoor

/- view: what a view is; New; laws for the maps' operations. -/
namespace Go.Proofs.YtgonfcdmaoeboaaGreatDoor
open Go.RowKit
open Go.Maps (Keyed)

theorem step_lookup {P : Program} (w : World) {o : Oper} {a : Act} {K : Act → World → Prop} {Q : Exit → Act → World → Prop} (m x : Operand) (t : TypeId) (ho : o.op = .lookup t m x true)
    {b : Nat} {key v : Value} (hrun : (Instr.lookup t (.map (some b)) key true).run P w = .ok v w) (hm : a.eval m = .map (some b)) (hx : a.eval x = key) (h : K (a.put o.dst v) w) : o.wp P a w K Q := by
  unfold Oper.wp execOp
  simp only [ho, hm, hx, Sem.run_bind, Sem.run_pure, hrun, Result.andThen_ok]
  exact h
theorem step_mapUpdate {P : Program} (w : World) {o : Oper} {a : Act} {K : Act → World → Prop} {Q : Exit → Act → World → Prop} (m x v : Operand) (t : TypeId) (ho : o.op = .mapUpdate t m x v)
    {b : Nat} {key val : Value} {R : World → Prop} (hrun : ∃ w', (Instr.mapUpdate t (.map (some b)) key val).run P w = .ok () w' ∧ R w') (hm : a.eval m = .map (some b)) (hx : a.eval x = key) (hv : a.eval v = val)
    (h : ∀ w', R w' → K (a.put o.dst undef) w') : o.wp P a w K Q := by
  obtain ⟨w', hr, hR⟩ := hrun
  unfold Oper.wp execOp
  simp only [ho, hm, hx, hv, Sem.run_bind, Sem.run_pure, hr, Result.andThen_ok]
  exact h w' hR

/-- the cells of all types but some are as they were (maps may have been written) -/
def Cells (ts : List TypeId) (w w' : World) : Prop := w.heap.size ≤ w'.heap.size ∧ ∀ (b : Nat) (cs : Array Value) (t : TypeId) (f : Nat × Nat), w.heap[b]? = some (.cells cs t f) → t ∉ ts → w'.heap[b]? = some (.cells cs t f)
theorem Cells.of_below {ts : List TypeId} {w w' : World} (h : Below w.heap.size w w') : Cells ts w w' := ⟨h.size, fun b _ _ _ hb _ => (h.block b (Array.getElem?_eq_some_iff.1 hb).1).trans hb⟩
theorem Cells.trans {ts : List TypeId} {a b c : World} (h : Cells ts a b) (h' : Cells ts b c) : Cells ts a c := ⟨Nat.le_trans h.1 h'.1, fun k _ _ _ hk ht => h'.2 k _ _ _ (h.2 k _ _ _ hk ht) ht⟩
theorem Cells.blk {ts : List TypeId} {w w' : World} (h : Cells ts w w') {b : Nat} {cs : Array Value} {t : TypeId} (hb : Blk w b cs t) (ht : t ∉ ts) : Blk w' b cs t := h.2 b _ _ _ hb ht
theorem Cells.more {ts ts' : List TypeId} {w w' : World} (h : Cells ts w w') (hs : ∀ t, t ∈ ts → t ∈ ts') : Cells ts' w w' := ⟨h.1, fun b cs t f hb ht => h.2 b cs t f hb (fun hm => ht (hs t hm))⟩
theorem Cells.map {ts : List TypeId} {w w' : World} {P : Program} {k : TypeId} {b : Nat} {L : List (Value × Value)} (hm : MapAs w P k b L) (hg : w.grownBy w' (some b)) : Cells ts w w' := ⟨hg.size, fun k cs t f hk _ => by
  refine (hg.block k (Array.getElem?_eq_some_iff.1 hk).1 (fun e => ?_)).trans hk
  cases e
  obtain ⟨es, clock, hb, _⟩ := hm
  rw [hk] at hb
  cases hb⟩
theorem Cells.set {ts : List TypeId} {w : World} {b j : Nat} {cs : Array Value} {t : TypeId} (h : Blk w b cs t) (ht : t ∈ ts) (v : Value) : Cells ts w (w.setCell ⟨b, j, none⟩ v) := ⟨by simp [World.setCell], fun b' cs' t' f hb ho => by
  have hne : b' ≠ b := fun e => by
    subst e
    rw [show w.heap[b']? = _ from h] at hb
    cases hb
    exact ho ht
  exact (Below.heap_setCell w _ _ _ hne).trans hb⟩

/-- a change: of the object of a name, to a value, or to none -/
def chgV (K : Nat) (m : List UInt8) (n i : Int) (t : List UInt8) (val : List UInt8) (ab : Bool) : Value :=
  .agg #[.int .i64 K, .string (str m), .int .i64 n, .int .i64 i, .string (str t), .string (str val), .bool ab]

/-- a name that Check lets by -/
def NameOk (K : Nat) (m : List UInt8) (n i : Int) (t : List UInt8) : Prop :=
  (K ≤ 20 ∧ m.length ≤ 1000000000 ∧ (0 ≤ n ∧ n ≤ 1073741824) ∧ (0 ≤ i ∧ i ≤ 1073741824) ∧ t.length ≤ 1000000000) ∧
  ∀ w, Calls Tryz.prog 79 #[nameV K m n i t] w fun e w' => e = .returned (.int .i64 0) ∧ Below w.heap.size w w'

/-- the view at block vb: its state, the entries of what it has read, the number of its calls, the entries of what it has written; all of it at or behind B -/
structure ViewIs (B : Nat) (w : World) (vb : Nat) (base : Value) (R : List (Value × Value)) (c : Nat) (N : List (Value × Value)) : Prop where
  ex : ∃ br bn cv, Blk w vb #[base, .map (some br), cv, .map (some bn)] 131 ∧ B ≤ vb ∧ B ≤ br ∧ B ≤ bn ∧ br ≠ bn ∧ MapAs w Tryz.prog 69 br R ∧ MapAs w Tryz.prog 69 bn N ∧ ∃ cs, w.ownsRow B 81 7 cv c cs ∧ ∀ u ∈ cs, u.oneCell' = true

theorem ViewIs.keep {B : Nat} {w w' : World} {vb : Nat} {base : Value} {R : List (Value × Value)} {c : Nat} {N : List (Value × Value)} (h : ViewIs B w vb base R c N) (hb : Below w.heap.size w w') : ViewIs B w' vb base R c N := by
  obtain ⟨br, bn, cv, h1, h2, h3, h4, h5, h6, h7, cs, h8, h9⟩ := h.ex
  exact ⟨br, bn, cv, h1.below hb h1.lt, h2, h3, h4, h5, h6.below hb h6.lt, h7.below hb h7.lt, cs, owns_below h8 hb, h9⟩
theorem ViewIs.lt {B : Nat} {w : World} {vb : Nat} {base : Value} {R : List (Value × Value)} {c : Nat} {N : List (Value × Value)} (h : ViewIs B w vb base R c N) : vb < w.heap.size ∧ B ≤ vb := by
  obtain ⟨br, bn, cv, h1, h2, h3, h4, h5, h6, h7, h8⟩ := h.ex
  exact ⟨h1.lt, h2⟩

set_option maxRecDepth 100000 in
set_option maxHeartbeats 400000 in
theorem stateNew_any (w : World) : Calls Tryz.prog 23 #[] w fun e w' => e = .returned (.pointer (some ⟨w.heap.size, 0, none⟩)) ∧ Blk w' w.heap.size #[.pointer none] 134 ∧ Below w.heap.size w w' := by
  go_enter Tryz.func23, Tryz.ntmps23
  go_wp2
  go_ret
  exact ⟨rfl, Blk.new w _ _, below_alloc w _⟩

set_option maxRecDepth 100000 in
set_option maxHeartbeats 400000 in
theorem viewNew_any (sb : Nat) (w : World) : Calls Tryz.prog 22 #[.pointer (some ⟨sb, 0, none⟩)] w fun e w' => ∃ vb, e = .returned (.pointer (some ⟨vb, 0, none⟩)) ∧ ViewIs w.heap.size w' vb (.pointer (some ⟨sb, 0, none⟩)) [] 0 [] ∧ Below w.heap.size w w' := by
  have hmm := @run_makeMap Tryz.prog
  go_enter Tryz.func22, Tryz.ntmps22
  go_wp2
  go_ret
  have m1 := ((MapAs.made w Tryz.prog 69).alloc (.map #[] 0)).alloc (.cells #[.pointer (some ⟨sb, 0, none⟩), .map (some w.heap.size), .slice none 0 0, .map (some (w.heap.size + 1))] 131)
  have m2 := (MapAs.made (w.alloc (.map #[] 0)) Tryz.prog 69).alloc (.cells #[.pointer (some ⟨sb, 0, none⟩), .map (some w.heap.size), .slice none 0 0, .map (some (w.heap.size + 1))] 131)
  have m3 := Blk.new ((w.alloc (.map #[] 0)).alloc (.map #[] 0)) #[.pointer (some ⟨sb, 0, none⟩), .map (some w.heap.size), .slice none 0 0, .map (some (w.heap.size + 1))] 131
  simp only [World.size_alloc] at m2 m3
  exact ⟨_, rfl, ⟨_, _, _, m3, by omega, by omega, by omega, by omega, m1, m2, [], World.ownsRow_nil _ _ _ _, by simp⟩, (((Below.refl _ w).alloc (Nat.le_refl _) _).alloc (by simp) _).alloc (by simp; omega) _⟩
end Go.Proofs.YtgonfcdmaoeboaaGreatDoor

/- view.Get. -/
namespace Go.Proofs.YtgonfcdmaoeboaaGreatDoor
open Go.RowKit
open Go.Maps (Keyed)

theorem Blk.quad {w : World} {b : Nat} {x y z u : Value} {t : TypeId} (h : Blk w b #[x, y, z, u] t) :
    w.cell? ⟨b, 0, none⟩ = some x ∧ w.cell? ⟨b, 1, none⟩ = some y ∧ w.cell? ⟨b, 2, none⟩ = some z ∧ w.cell? ⟨b, 3, none⟩ = some u ∧ w.frozen? ⟨b, 0, none⟩ = false ∧ w.frozen? ⟨b, 1, none⟩ = false ∧ w.frozen? ⟨b, 2, none⟩ = false ∧ w.frozen? ⟨b, 3, none⟩ = false :=
  ⟨by rw [h.cell]; rfl, by rw [h.cell]; rfl, by rw [h.cell]; rfl, by rw [h.cell]; rfl, h.frozen 0, h.frozen 1, h.frozen 2, h.frozen 3⟩
theorem owns_ne_map {w : World} {base : Nat} {e : TypeId} {size : Nat} {v : Value} {n : Nat} {xs : List Value} (h : w.ownsRow base e size v n xs) {P : Program} {k : TypeId} {b : Nat} {L : List (Value × Value)} (hm : MapAs w P k b L) : v.ownBlock ≠ some b := by
  intro e
  obtain ⟨es, clock, hb, _⟩ := hm
  rcases h.2 with ⟨rfl, _⟩ | ⟨g, cap, cur, rfl, _, hgb, _⟩
  · simp [Value.ownBlock] at e
  · obtain rfl : g = b := by simpa [Value.ownBlock] using e
    rw [hgb] at hb
    cases hb
theorem Blk.seven {w : World} {b : Nat} {x y z u v p q : Value} {t : TypeId} (h : Blk w b #[x, y, z, u, v, p, q] t) :
    w.cell? ⟨b, 0, none⟩ = some x ∧ w.cell? ⟨b, 1, none⟩ = some y ∧ w.cell? ⟨b, 2, none⟩ = some z ∧ w.cell? ⟨b, 3, none⟩ = some u ∧ w.cell? ⟨b, 4, none⟩ = some v ∧ w.cell? ⟨b, 5, none⟩ = some p ∧ w.cell? ⟨b, 6, none⟩ = some q :=
  ⟨by rw [h.cell]; rfl, by rw [h.cell]; rfl, by rw [h.cell]; rfl, by rw [h.cell]; rfl, by rw [h.cell]; rfl, by rw [h.cell]; rfl, by rw [h.cell]; rfl⟩

set_option maxRecDepth 100000 in
set_option maxHeartbeats 1600000 in
theorem viewGet_now (B vb : Nat) (base : Value) (R : List (Value × Value)) (c : Nat) (N : List (Value × Value)) (K : Nat) (m : List UInt8) (n i : Int) (t : List UInt8) (val : List UInt8) (ab : Bool) (w : World)
    (hV : ViewIs B w vb base R c N) (_ : B ≤ w.heap.size) (hn : NameOk K m n i t) (hin : (nameV K m n i t, chgV K m n i t val ab) ∈ N) :
    Calls Tryz.prog 43 #[.pointer (some ⟨vb, 0, none⟩), nameV K m n i t] w fun e w' => e = .returned (.tuple #[.string (str val), .bool (!ab)]) ∧ Below w.heap.size w w' := by
  obtain ⟨hsz, hchk⟩ := hn
  obtain ⟨kl, hkl⟩ := keyName K m n i t hsz.1 hsz.2.1 hsz.2.2.1 hsz.2.2.2.1 hsz.2.2.2.2
  obtain ⟨br, bn, cv, hv, -, -, -, -, -, hN, -⟩ := hV.ex
  clear hV hsz
  have Hchk := Lib.hid hchk; clear hchk
  unfold nameV at *
  unfold chgV at hin
  have hbx := Blk.new w #[.int .i64 K, .string (str m), .int .i64 n, .int .i64 i, .string (str t)] 69
  have hvl := hv.lt
  have hNl := hN.lt
  obtain ⟨n0, n1, n2, n3, n4⟩ := hbx.five
  go_enter Tryz.func43, Tryz.ntmps43
  go_wp2_with (go_at_call 79; refine (Hchk.out _).mono ?_; rintro e w2 ⟨rfl, hb2⟩)
  have bv2 := (hv.alloc _).below hb2 (by simp; omega)
  have bb2 := hbx.below hb2 (by simp)
  have hN2 := (hN.alloc _).below hb2 (by simp; omega)
  have hB2 : Below w.heap.size w w2 := (below_alloc w _).trans (hb2.mono (by simp))
  have HB2 := Lib.hid hB2; clear hB2
  have hz2 : w.heap.size < w2.heap.size := bb2.lt
  obtain ⟨v0, v1, v2, v3, _, _, _, _⟩ := bv2.quad
  clear n0 n1 n2 n3 n4 hb2 hbx hv hN
  obtain ⟨n0, n1, n2, n3, n4⟩ := bb2.five
  have hlk : ∀ w', MapAs w' Tryz.prog 69 bn N → (Instr.lookup 129 (.map (some bn)) (.agg #[.int .i64 K, .string (str m), .int .i64 n, .int .i64 i, .string (str t)]) true).run Tryz.prog w' = .ok (.tuple #[.agg #[.int .i64 K, .string (str m), .int .i64 n, .int .i64 i, .string (str t), .string (str val), .bool ab], .bool true]) w' :=
    fun w' h => MapAs.look_some h keyedName Tryz.underlying129 (zeroChange _) hkl hin
  have l1 := hlk w2 hN2
  have l2 := hlk w2.drew hN2
  have l3 := fun o => hlk (w2.alloc o) (hN2.alloc o)
  have l4 := fun o => hlk (w2.alloc o).drew (hN2.alloc o)
  clear hlk
  go_region_held3 (fun w' => w'.cell? ⟨vb, 3, none⟩ = some (.map (some bn)) ∧ w'.cell? ⟨w.heap.size, 0, none⟩ = some (.int .i64 K) ∧ w'.cell? ⟨w.heap.size, 1, none⟩ = some (.string (str m)) ∧ w'.cell? ⟨w.heap.size, 2, none⟩ = some (.int .i64 n) ∧ w'.cell? ⟨w.heap.size, 3, none⟩ = some (.int .i64 i) ∧ w'.cell? ⟨w.heap.size, 4, none⟩ = some (.string (str t)))
    (first | go_keep | exact ⟨v3, n0, n1, n2, n3, n4⟩)
    (fail)
  all_goals (
    have bc := Blk.new w2 #[.int .i64 K, .string (str m), .int .i64 n, .int .i64 i, .string (str t), .string (str val), .bool ab] 81
    have hBW : Below w.heap.size w (w2.alloc (.cells #[.int .i64 K, .string (str m), .int .i64 n, .int .i64 i, .string (str t), .string (str val), .bool ab] 81)) := HB2.out.alloc (by omega) _
    obtain ⟨W, hW⟩ : ∃ W, W = w2.alloc (.cells #[.int .i64 K, .string (str m), .int .i64 n, .int .i64 i, .string (str t), .string (str val), .bool ab] 81) := ⟨_, rfl⟩
    rw [← hW] at bc hBW
    rw [← hW]
    have bd := bc.drew
    obtain ⟨d0, d1, d2, d3, d4, d5, d6⟩ := bd.seven
    obtain ⟨k0, k1, k2, k3, k4, k5, k6⟩ := bc.seven
    clear hW l1 l2 l3 l4 bc bb2 bv2 hN2 bd
    go_wp2_with fail
    go_quiet (fail)
    all_goals go_wp2_with fail
    go_ret2
    exact ⟨rfl, hBW.drew.trans (below_drewN _ _ _)⟩)

set_option maxRecDepth 100000 in
set_option maxHeartbeats 3200000 in
theorem viewGet_base (B vb : Nat) (base : Value) (R : List (Value × Value)) (c : Nat) (N : List (Value × Value)) (K : Nat) (m : List UInt8) (n i : Int) (t : List UInt8) (val : List UInt8) (is : Bool) (w : World)
    (hV : ViewIs B w vb base R c N) (hB : B ≤ w.heap.size) (hn : NameOk K m n i t) (hno : ∀ p ∈ N, p.1 ≠ nameV K m n i t) (hR : R.length < 1000000)
    (hget : ∀ w1, Below w.heap.size w w1 → Calls Tryz.prog 78 #[base, nameV K m n i t] w1 fun e w2 => e = .returned (.tuple #[.string (str val), .bool is]) ∧ Below w1.heap.size w1 w2) :
    ∃ R', R'.length ≤ R.length + 1 ∧ (∀ p, p ∈ R' ↔ p = (nameV K m n i t, chgV K m n i t val (!is)) ∨ (p ∈ R ∧ p.1 ≠ nameV K m n i t)) ∧
    Calls Tryz.prog 43 #[.pointer (some ⟨vb, 0, none⟩), nameV K m n i t] w fun e w' => e = .returned (.tuple #[.string (str val), .bool is]) ∧ ViewIs B w' vb base R' c N ∧ Below B w w' ∧ Cells [] w w' := by
  obtain ⟨hsz, hchk⟩ := hn
  obtain ⟨kl, hkl⟩ := keyName K m n i t hsz.1 hsz.2.1 hsz.2.2.1 hsz.2.2.2.1 hsz.2.2.2.2
  obtain ⟨R', hR'⟩ : ∃ R', R' = (nameV K m n i t, chgV K m n i t val (!is)) :: (by classical exact R.filter (fun p => decide (p.1 ≠ nameV K m n i t))) := ⟨_, rfl⟩
  refine ⟨R', ?_, ?_, ?_⟩
  · rw [hR']; have := List.length_filter_le (fun p : Value × Value => by classical exact decide (p.1 ≠ nameV K m n i t)) R; simp only [List.length_cons]; omega
  · intro p; rw [hR']; simp [List.mem_filter]
  obtain ⟨br, bn, cv, hv, q1, q2, q3, q4, hRm, hN, cs, hc, hc1⟩ := hV.ex
  have Hc1 := Lib.hid hc1; clear hc1
  clear hV hsz
  have Hchk := Lib.hid hchk; clear hchk
  have Hget := Lib.hid hget; clear hget
  have HR' := Lib.hid hR'; clear hR'
  have Hc := Lib.hid hc; clear hc
  have Hv := Lib.hid hv
  have HN := Lib.hid hN
  have HRm := Lib.hid hRm; clear hRm
  unfold nameV at *
  have hbx := Blk.new w #[.int .i64 K, .string (str m), .int .i64 n, .int .i64 i, .string (str t)] 69
  have hvl := hv.lt
  have hNl := hN.lt
  have hRl := HRm.out.lt
  obtain ⟨n0, n1, n2, n3, n4⟩ := hbx.five
  go_enter Tryz.func43, Tryz.ntmps43
  go_wp2_with (go_at_call 79; refine (Hchk.out _).mono ?_; rintro e w2 ⟨rfl, hb2⟩)
  have bv2 := (hv.alloc _).below hb2 (by simp; omega)
  have bb2 := hbx.below hb2 (by simp)
  have hN2 := (hN.alloc _).below hb2 (by simp; omega)
  have hB2 : Below w.heap.size w w2 := (below_alloc w _).trans (hb2.mono (by simp))
  have HB2 := Lib.hid hB2; clear hB2
  have hz2 : w.heap.size < w2.heap.size := bb2.lt
  obtain ⟨v0, v1, v2, v3, _, _, _, _⟩ := bv2.quad
  clear n0 n1 n2 n3 n4 hb2 hbx hv hN
  obtain ⟨n0, n1, n2, n3, n4⟩ := bb2.five
  have hlk : ∀ w', MapAs w' Tryz.prog 69 bn N → (Instr.lookup 129 (.map (some bn)) (.agg #[.int .i64 K, .string (str m), .int .i64 n, .int .i64 i, .string (str t)]) true).run Tryz.prog w' = .ok (.tuple #[.agg #[.int .i64 0, .string (str []), .int .i64 0, .int .i64 0, .string (str []), .string (str []), .bool false], .bool false]) w' :=
    fun w' h => MapAs.look_none h keyedName Tryz.underlying129 (zeroChange _) hkl hno
  have l1 := hlk w2 hN2
  have l2 := hlk w2.drew hN2
  have l3 := fun o => hlk (w2.alloc o) (hN2.alloc o)
  have l4 := fun o => hlk (w2.alloc o).drew (hN2.alloc o)
  clear hlk hno
  go_region_held3 (fun w' => w'.cell? ⟨vb, 3, none⟩ = some (.map (some bn)) ∧ w'.cell? ⟨w.heap.size, 0, none⟩ = some (.int .i64 K) ∧ w'.cell? ⟨w.heap.size, 1, none⟩ = some (.string (str m)) ∧ w'.cell? ⟨w.heap.size, 2, none⟩ = some (.int .i64 n) ∧ w'.cell? ⟨w.heap.size, 3, none⟩ = some (.int .i64 i) ∧ w'.cell? ⟨w.heap.size, 4, none⟩ = some (.string (str t)))
    (first | go_keep | exact ⟨v3, n0, n1, n2, n3, n4⟩)
    (fail)
  all_goals (
    clear l1 l2 l3 l4
    have hBW := HB2.out.alloc (by omega) (.cells #[.int .i64 0, .string (str []), .int .i64 0, .int .i64 0, .string (str []), .string (str []), .bool false] 81)
    have bvW := bv2.alloc (.cells #[.int .i64 0, .string (str []), .int .i64 0, .int .i64 0, .string (str []), .string (str []), .bool false] 81)
    have bbW := bb2.alloc (.cells #[.int .i64 0, .string (str []), .int .i64 0, .int .i64 0, .string (str []), .string (str []), .bool false] 81)
    obtain ⟨W, hW⟩ : ∃ W, W = w2.alloc (.cells #[.int .i64 0, .string (str []), .int .i64 0, .int .i64 0, .string (str []), .string (str []), .bool false] 81) := ⟨_, rfl⟩
    rw [← hW] at hBW bvW bbW
    rw [← hW]
    clear hW v0 v1 v2 v3 n0 n1 n2 n3 n4 bv2 bb2 hN2
    have hlW := bbW.lt
    have hvW := bvW.lt
    have HBW := Lib.hid hBW; clear hBW
    obtain ⟨v0, v1, v2, v3, _, _, _, _⟩ := bvW.drew.quad
    obtain ⟨n0, n1, n2, n3, n4⟩ := bbW.drew.five
    go_wp2_with fail
    go_region_held3 (fun w' => w'.cell? ⟨vb, 0, none⟩ = some base ∧ w'.cell? ⟨w.heap.size, 0, none⟩ = some (.int .i64 K) ∧ w'.cell? ⟨w.heap.size, 1, none⟩ = some (.string (str m)) ∧ w'.cell? ⟨w.heap.size, 2, none⟩ = some (.int .i64 n) ∧ w'.cell? ⟨w.heap.size, 3, none⟩ = some (.int .i64 i) ∧ w'.cell? ⟨w.heap.size, 4, none⟩ = some (.string (str t)))
      (first | go_keep | exact ⟨v0, n0, n1, n2, n3, n4⟩ | exact ⟨bv3.quad.1, bb3.five.1, bb3.five.2.1, bb3.five.2.2.1, bb3.five.2.2.2.1, bb3.five.2.2.2.2⟩)
      ((go_at_call 78; refine (Hget.out _ (by first | exact HBW.out.drew | exact HBW.out.drew.drew)).mono ?_; rintro e w3 ⟨rfl, hb3⟩; have bv3 := bvW.drew.drew.below hb3 hvW; have bb3 := bbW.drew.drew.below hb3 hlW))
    all_goals (
      have hz3 := hb3.size
      have hwW := HBW.out.size
      have hBw3 : Below w.heap.size w w3 := HBW.out.drew.drew.trans (hb3.mono (by simpa using hwW))
      have hvr : vb ≠ br := fun e => by
        subst e
        obtain ⟨es, clock, hb, _⟩ := HRm.out
        rw [show w.heap[vb]? = _ from Hv.out] at hb
        cases hb
      have hvn : bn ≠ br := fun e => q4 e.symm
      have hR3 := HRm.out.below hBw3 hRl
      have hRx : R.length < maxLen := by unfold maxLen; omega
      have hbB : B ≤ w3.heap.size := by simp at hz3; omega
      obtain ⟨w4, hrun, hm4, hg4⟩ := MapAs.update (val := .agg #[.int .i64 K, .string (str m), .int .i64 n, .int .i64 i, .string (str t), .string (str val), .bool (!is)]) hR3.drew keyedName Tryz.underlying129 hRx hkl
      have Hg4 := Lib.hid hg4; clear hg4
      have Hm4 := Lib.hid hm4; clear hm4
      have HBw3 := Lib.hid hBw3; clear hBw3
      clear hR3 v0 v1 v2 v3 n0 n1 n2 n3 n4 hz3
      obtain ⟨v0, v1, v2, v3, _, _, _, _⟩ := bv3.drew.quad
      obtain ⟨n0, n1, n2, n3, n4⟩ := bb3.drew.five
      go_wp2_with fail
      go_region
      all_goals go_wp2_with fail
      all_goals (
        go_ret2
        refine ⟨rfl, ⟨⟨br, bn, cv, (Hv.out.below HBw3.out hvl).drew.grown Hg4.out (by simpa using hvr), q1, q2, q3, q4, ?_, (HN.out.below HBw3.out hNl).drew.grown Hg4.out (by simpa using hvn), cs, ?_, Hc1.out⟩⟩, ((HBw3.out.mono hB).drew).grown Hg4.out (by simpa using hbB) (fun k e => by cases e; exact q2), (Cells.of_below HBw3.out.drew).trans (Cells.map (HRm.out.below HBw3.out hRl).drew Hg4.out)⟩
        · rw [HR'.out]; exact Hm4.out
        · have h3 := owns_below (owns_below Hc.out HBw3.out) ((Below.refl _ w3).drew)
          exact h3.kept Hg4.out (.inr (owns_ne_map h3 (HRm.out.below HBw3.out hRl).drew)))))
end Go.Proofs.YtgonfcdmaoeboaaGreatDoor

/- slices.Clone of the calls; view.call, Set, Delete. -/
namespace Go.Proofs.YtgonfcdmaoeboaaGreatDoor
open Go.RowKit
open Go.Maps (Keyed)

def chg0 : Value := .agg #[.int .i64 0, .string (str []), .int .i64 0, .int .i64 0, .string (str []), .string (str []), .bool false]
theorem Tryz.infoChg : (Tryz.prog.info? 81).map (fun i => (i.zero, i.size, i.bytes)) = some (some chg0, 7, 80) := by kernel_rfl
theorem chg0_size : chg0.cells.size = 7 := rfl

set_option maxRecDepth 100000 in
set_option maxHeartbeats 400000 in
theorem clone_any (B : Nat) (v : Value) (c : Nat) (cs : List Value) (w : World) (h : w.ownsRow B 81 7 v c cs) (h1 : ∀ u ∈ cs, u.oneCell' = true) (hc : c ≤ 1000000) :
    Calls Tryz.prog 142 #[v] w fun e w' => ∃ v', e = .returned v' ∧ w'.ownsRow w.heap.size 81 7 v' c cs ∧ Below w.heap.size w w' := by
  obtain ⟨va, vc, rfl⟩ := owns_slice h
  have hs := sees_of_owns h
  have Hs := Lib.hid hs
  have H1 := Lib.hid h1; clear h1
  have hq : (binOp .eql 76 (.slice va c vc) (.slice none 0 0)).run Tryz.prog w = .ok (.bool va.isNone) w := by
    simp [binOp, run_equal_slice_nil w 76 81 va c vc Tryz.underlying76, Result.andThen]
  cases va with
  | none =>
    have h2 : c = 0 ∧ vc = 0 := by
      rcases h.2 with ⟨e, h0⟩ | ⟨g, cap, cur, e, _⟩
      · cases e; exact ⟨rfl, rfl⟩
      · cases e
    obtain ⟨rfl, rfl⟩ := h2
    have h3 : cs = [] := List.eq_nil_of_length_eq_zero (by have := h.1; simpa using this)
    clear h hs
    go_enter Tryz.func142, Tryz.ntmps142
    go_wp2
    go_ret
    exact ⟨_, rfl, by rw [h3]; exact World.ownsRow_nil _ _ _ _, Below.refl _ _⟩
  | some a =>
    clear h hs
    go_enter Tryz.func142, Tryz.ntmps142
    have h0 : (w.alloc (.cells #[] 81)).ownsRow w.heap.size 81 7 (.slice (some ⟨w.heap.size, 0, none⟩) 0 0) 0 [] :=
      ⟨by simp, .inr ⟨w.heap.size, 0, #[], rfl, Nat.le_refl _, World.alloc_heap_new w _, by omega, by simp, by simp, by simp⟩⟩
    have hs2 := Hs.out.below (below_alloc w (.cells #[] 81))
    go_wp2_with (at_builtin; (refine wpList_append_where _ rfl _ _ 76 rfl w.heap.size 81 chg0 7 80 Tryz.underlying76 Tryz.infoChg rfl (by decide) h0 rfl hs2 rfl H1.out ?q1 ?q2 ?q3 ?_); (case q1 => unfold maxLen; omega); (case q2 => omega); (case q3 => simp); intro v' w2 hown2 hg2 hwh2 hnil2)
    go_ret
    refine ⟨v', rfl, owns_eq hown2 (by omega) (by simp), ?_⟩
    exact (below_alloc w _).grown hg2 (by simp) (fun k e => by simp [Value.ownBlock] at e; omega)
end Go.Proofs.YtgonfcdmaoeboaaGreatDoor

/- view.call, Set, Delete. -/
namespace Go.Proofs.YtgonfcdmaoeboaaGreatDoor
open Go.RowKit
open Go.Maps (Keyed)

theorem grownBy_setCell0 (W : World) (b j : Nat) (v : Value) : W.grownBy (W.setCell ⟨b, j, none⟩ v) (some b) :=
  ⟨rfl, rfl, rfl, by simp [World.setCell], fun k _ hk => Below.heap_setCell _ _ _ k (fun e => hk (by rw [e]))⟩

set_option maxRecDepth 100000 in
set_option maxHeartbeats 3200000 in
theorem viewCall_any (B vb : Nat) (base : Value) (R : List (Value × Value)) (c : Nat) (N : List (Value × Value)) (K : Nat) (m : List UInt8) (n i : Int) (t : List UInt8) (val : List UInt8) (ab : Bool) (w : World)
    (hV : ViewIs B w vb base R c N) (hB : B ≤ w.heap.size) (hn : NameOk K m n i t) (hval : val.length ≤ 65536) (hNl : N.length < 1000000) (hcl : c < 1000000) :
    ∃ N', N'.length ≤ N.length + 1 ∧ (∀ p, p ∈ N' ↔ p = (nameV K m n i t, chgV K m n i t val ab) ∨ (p ∈ N ∧ p.1 ≠ nameV K m n i t)) ∧
    Calls Tryz.prog 111 #[.pointer (some ⟨vb, 0, none⟩), chgV K m n i t val ab] w fun e w' => e = .returned (.int .i64 0) ∧ ViewIs B w' vb base R (c + 1) N' ∧ Below B w w' ∧ Cells [131] w w' := by
  obtain ⟨hsz, hchk⟩ := hn
  obtain ⟨kl, hkl⟩ := keyName K m n i t hsz.1 hsz.2.1 hsz.2.2.1 hsz.2.2.2.1 hsz.2.2.2.2
  obtain ⟨N', hN'⟩ : ∃ N', N' = (nameV K m n i t, chgV K m n i t val ab) :: (by classical exact N.filter (fun p => decide (p.1 ≠ nameV K m n i t))) := ⟨_, rfl⟩
  refine ⟨N', ?_, ?_, ?_⟩
  · rw [hN']; have := List.length_filter_le (fun p : Value × Value => by classical exact decide (p.1 ≠ nameV K m n i t)) N; simp only [List.length_cons]; omega
  · intro p; rw [hN']; simp [List.mem_filter]
  obtain ⟨br, bn, cv, hv, q1, q2, q3, q4, hRm, hN, cs, hc, hc1⟩ := hV.ex
  have Hc1 := Lib.hid hc1; clear hc1
  clear hV hsz
  have Hchk := Lib.hid hchk; clear hchk
  have HN' := Lib.hid hN'; clear hN'
  have Hc := Lib.hid hc; clear hc
  have Hv := Lib.hid hv
  have HN := Lib.hid hN
  have HRm := Lib.hid hRm; clear hRm
  unfold nameV chgV at *
  have hbx := Blk.new w #[.int .i64 K, .string (str m), .int .i64 n, .int .i64 i, .string (str t), .string (str val), .bool ab] 81
  have hvl := hv.lt
  have hnl := hN.lt
  have hrl := HRm.out.lt
  have hvs := str_size val
  obtain ⟨va, vc, rfl⟩ := owns_slice Hc.out
  obtain ⟨n0, n1, n2, n3, n4, n5, n6⟩ := hbx.seven
  go_enter Tryz.func111, Tryz.ntmps111
  go_wp2_with (go_at_call 79; refine (Hchk.out _).mono ?_; rintro e w2 ⟨rfl, hb2⟩; have bv2 := (hv.alloc (.cells #[.int .i64 K, .string (str m), .int .i64 n, .int .i64 i, .string (str t), .string (str val), .bool ab] 81)).below hb2 (by simp; omega); have bb2 := hbx.below hb2 (by simp); obtain ⟨k0, k1, k2, k3, k4, k5, k6⟩ := bb2.seven)
  have hB2 : Below w.heap.size w w2 := (below_alloc w _).trans (hb2.mono (by simp))
  have HB2 := Lib.hid hB2; clear hB2
  have hz2 : w.heap.size < w2.heap.size := bb2.lt
  clear n0 n1 n2 n3 n4 n5 n6 hb2 hbx hv hN
  have hz2v : vb < w2.heap.size := bv2.lt
  have h2 := owns_below Hc.out HB2.out
  have h2d : w2.drew.ownsRow B 81 7 (.slice va c vc) c cs := owns_below h2 (Below.refl _ w2).drew
  have h2a : ∀ o, (w2.alloc o).drew.ownsRow B 81 7 (.slice va c vc) c cs := fun o => owns_below (h2.alloc o) (Below.refl _ _).drew
  obtain ⟨v0, v1, v2, v3, g0, g1, g2, g3⟩ := bv2.quad
  have h1c : ∀ u ∈ (#[.int .i64 K, .string (str m), .int .i64 n, .int .i64 i, .string (str t), .string (str val), .bool ab] : Array Value).toList, u.oneCell' = true := by simp [Value.oneCell']
  have hq1 : c + 1 ≤ maxLen := by unfold maxLen; omega
  have hq2 : (c + 1) * 80 ≤ 140737488355328 := by omega
  go_region_law (first
      | (have A1 := hown5.alloc (.cells #[.int .i64 K, .string (str m), .int .i64 n, .int .i64 i, .string (str t), .string (str val), .bool ab] 81); have A2 := sees_new w5 #[.int .i64 K, .string (str m), .int .i64 n, .int .i64 i, .string (str t), .string (str val), .bool ab] 81 (0, 0) 7 1 1 rfl (Nat.le_refl _); have A3 := (below_alloc w5 (.cells #[.int .i64 K, .string (str m), .int .i64 n, .int .i64 i, .string (str t), .string (str val), .bool ab] 81)).size; (refine step_append_where _ _ _ 76 rfl w2.heap.size 81 chg0 7 80 Tryz.underlying76 Tryz.infoChg rfl (by decide) A1 rfl A2 rfl h1c hq1 hq2 (Nat.le_trans hx5 A3) ?_); intro v6 w6 hown6 hg6 hwh6 hnil6; obtain ⟨a6, c6, rfl⟩ := owns_slice hown6; clear hwh6 hnil6; have bv6 := (bv5.alloc _).grown hg6 (owns_ne A1 hz2v); have bb6 := (bb5.alloc _).grown hg6 (owns_ne A1 hz2); obtain ⟨u0, u1, u2, u3, y0, y1, y2, y3⟩ := bv6.quad; have hbw6 := (hbw5.alloc hx5 _).grown hg6 (Nat.le_trans hx5 A3) (fun k e => (A1.lt k e).1))
      | (have A2 := (sees_new w2 #[.int .i64 K, .string (str m), .int .i64 n, .int .i64 i, .string (str t), .string (str val), .bool ab] 81 (0, 0) 7 1 1 rfl (Nat.le_refl _)).below (Below.refl _ _).drew |>.below hb5; (refine step_append_where _ _ _ 76 rfl w2.heap.size 81 chg0 7 80 Tryz.underlying76 Tryz.infoChg rfl (by decide) hown5 rfl A2 rfl h1c hq1 hq2 hx5 ?_); intro v6 w6 hown6 hg6 hwh6 hnil6; obtain ⟨a6, c6, rfl⟩ := owns_slice hown6; clear hwh6 hnil6; have bv6 := bv5.grown hg6 (owns_ne (hown5) hz2v); have bb6 := bb5.grown hg6 (owns_ne (hown5) hz2); obtain ⟨u0, u1, u2, u3, y0, y1, y2, y3⟩ := bv6.quad; have hbw6 := hbw5.grown hg6 hx5 (fun k e => (hown5.lt k e).1))
      | (go_simp; go_at_call 142; refine (clone_any B (.slice va c vc) c cs _ h2d Hc1.out (by omega)).mono ?_; rintro e w5 ⟨v5, rfl, hown5', hb5⟩; have hown5 := owns_mono (base' := w2.heap.size) hown5' (by simp); clear hown5'; have bv5 := bv2.drew.below hb5 hz2v; have bb5 := bb2.drew.below hb5 hz2; have hz5 := bv5.lt; have hy5 := bb5.lt; have hx5 : w2.heap.size ≤ w5.heap.size := (by have h := hb5.size; simp at h; omega); obtain ⟨s0, s1, s2, s3, s4, s5, s6⟩ := bb5.seven; have hbw5 : Below w2.heap.size w2 w5 := (Below.refl _ w2).drew.trans (hb5.mono (by simp)))
      | (go_simp; go_at_call 142; refine (clone_any B (.slice va c vc) c cs _ (h2a _) Hc1.out (by omega)).mono ?_; rintro e w5 ⟨v5, rfl, hown5', hb5⟩; have hown5 := owns_mono (base' := w2.heap.size) hown5' (by simp); clear hown5'; have bv5 := (bv2.alloc _).drew.below hb5 (by simp; omega); have bb5 := (bb2.alloc _).drew.below hb5 (by simp; omega); have hz5 := bv5.lt; have hy5 := bb5.lt; have hx5 : w2.heap.size ≤ w5.heap.size := (by have h := hb5.size; simp at h; omega); obtain ⟨s0, s1, s2, s3, s4, s5, s6⟩ := bb5.seven; have hbw5 : Below w2.heap.size w2 w5 := ((Below.refl _ w2).alloc (Nat.le_refl _) _).drew.trans (hb5.mono (by simp))))
  all_goals (
    have hBW6 := HB2.out.trans (hbw6.mono (by omega))
    have hne : w.heap.size ≠ vb := by omega
    have bb7 := bb6.setOther (a := ⟨vb, 2, none⟩) hne (.slice a6 (c + 1) c6)
    have bv7 := (bv6.set 2 (.slice a6 (c + 1) c6)).congr (cs' := #[base, .map (some br), .slice a6 (c + 1) c6, .map (some bn)]) rfl
    have hbn : bn ≠ vb := fun e => by
      subst e
      obtain ⟨es, clock, hb, _⟩ := HN.out
      rw [show w.heap[bn]? = _ from Hv.out] at hb
      cases hb
    have hbr : br ≠ vb := fun e => by
      subst e
      obtain ⟨es, clock, hb, _⟩ := HRm.out
      rw [show w.heap[br]? = _ from Hv.out] at hb
      cases hb
    have hN7 : MapAs (w6.setCell ⟨vb, 2, none⟩ (.slice a6 (c + 1) c6)) Tryz.prog 69 bn N := (HN.out.below hBW6 hnl).congr (Below.heap_setCell _ _ _ _ hbn)
    have hR7 : MapAs (w6.setCell ⟨vb, 2, none⟩ (.slice a6 (c + 1) c6)) Tryz.prog 69 br R := (HRm.out.below hBW6 hrl).congr (Below.heap_setCell _ _ _ _ hbr)
    have hc7 := owns_mono (hown6.kept (grownBy_setCell0 w6 vb 2 (.slice a6 (c + 1) c6)) (.inr (owns_ne hown6 hz2v).symm)) (show B ≤ w2.heap.size by omega)
    have hCW7 : Cells [131] w (w6.setCell ⟨vb, 2, none⟩ (.slice a6 (c + 1) c6)) := (Cells.of_below hBW6).trans (Cells.set bv6 (by simp) _)
    have hBW7 : Below B w (w6.setCell ⟨vb, 2, none⟩ (.slice a6 (c + 1) c6)) := (hBW6.mono hB).setCell (p := ⟨vb, 2, none⟩) q1 _
    obtain ⟨W, hW⟩ : ∃ W, W = w6.setCell ⟨vb, 2, none⟩ (.slice a6 (c + 1) c6) := ⟨_, rfl⟩
    rw [← hW] at bb7 bv7 hN7 hR7 hc7 hBW7 hCW7
    rw [← hW]
    clear hW hown6 hg6 hbw6 hbw5 hb5 u0 u1 u2 u3 y0 y1 y2 y3 s0 s1 s2 s3 s4 s5 s6 bb6 bv6 bb5 bv5 v0 v1 v2 v3 g0 g1 g2 g3 k0 k1 k2 k3 k4 k5 k6 h2 h2d h2a hBW6
    have hRx : N.length < maxLen := by unfold maxLen; omega
    obtain ⟨w8, hrun, hm8, hg8⟩ := MapAs.update (val := .agg #[.int .i64 K, .string (str m), .int .i64 n, .int .i64 i, .string (str t), .string (str val), .bool ab]) hN7.drew keyedName Tryz.underlying129 hRx hkl
    have Hg8 := Lib.hid hg8; clear hg8
    have Hm8 := Lib.hid hm8; clear hm8
    have Hc7 := Lib.hid hc7; clear hc7
    have HBW7 := Lib.hid hBW7; clear hBW7
    have HCW7 := Lib.hid hCW7; clear hCW7
    have HR7 := Lib.hid hR7; clear hR7
    have HN7 := Lib.hid hN7; clear hN7
    have Bv7 := Lib.hid bv7
    have H1c := Lib.hid h1c
    obtain ⟨v0, v1, v2, v3, _, _, _, _⟩ := bv7.drew.quad
    obtain ⟨n0, n1, n2, n3, n4, n5, n6⟩ := bb7.drew.seven
    go_wp2_with fail
    go_region
    all_goals go_wp2_with fail
    all_goals (
      go_ret
      have hvw := Bv7.out.lt
      have h3 := owns_below Hc7.out ((Below.refl _ W).drew)
      refine ⟨rfl, ⟨⟨br, bn, .slice a6 (c + 1) c6, Bv7.out.drew.grown Hg8.out (by simpa using hbn.symm), q1, q2, q3, q4, HR7.out.drew.grown Hg8.out (by simpa using q4), ?_, _, h3.kept Hg8.out (.inr (owns_ne_map h3 HN7.out.drew)), ?_⟩⟩, HBW7.out.drew.grown Hg8.out (by simp; omega) (fun k e => by cases e; exact q3), (HCW7.out.trans (Cells.of_below (Below.refl _ W).drew)).trans (Cells.map HN7.out.drew Hg8.out)⟩
      · rw [HN'.out]; exact Hm8.out
      · intro u hu
        rcases List.mem_append.1 hu with hu | hu
        · exact Hc1.out u hu
        · exact h1c u hu))
end Go.Proofs.YtgonfcdmaoeboaaGreatDoor

/- view.Set, Delete, Has, Mark. -/
namespace Go.Proofs.YtgonfcdmaoeboaaGreatDoor
open Go.RowKit

theorem nameOk_size {K : Nat} {m : List UInt8} {n i : Int} {t : List UInt8} (h : NameOk K m n i t) : (0 ≤ n ∧ n ≤ 1073741824) := h.1.2.2.1

set_option maxRecDepth 100000 in
set_option maxHeartbeats 800000 in
theorem viewSet_any (B vb : Nat) (base : Value) (R : List (Value × Value)) (c : Nat) (N : List (Value × Value)) (K : Nat) (m : List UInt8) (n i : Int) (t : List UInt8) (val : List UInt8) (w : World)
    (hV : ViewIs B w vb base R c N) (hB : B ≤ w.heap.size) (hn : NameOk K m n i t) (hval : val.length ≤ 65536) (hNl : N.length < 1000000) (hcl : c < 1000000) :
    ∃ N', N'.length ≤ N.length + 1 ∧ (∀ p, p ∈ N' ↔ p = (nameV K m n i t, chgV K m n i t val false) ∨ (p ∈ N ∧ p.1 ≠ nameV K m n i t)) ∧
    Calls Tryz.prog 70 #[.pointer (some ⟨vb, 0, none⟩), nameV K m n i t, .string (str val)] w fun e w' => e = .returned (.int .i64 0) ∧ ViewIs B w' vb base R (c + 1) N' ∧ Below B w w' ∧ Cells [131] w w' := by
  have hV1 := hV.keep (below_alloc w (.cells #[.int .i64 K, .string (str m), .int .i64 n, .int .i64 i, .string (str t)] 69))
  obtain ⟨N', h1, h2, h3⟩ := viewCall_any B vb base R c N K m n i t val false _ hV1 (by simp; omega) hn hval hNl hcl
  refine ⟨N', h1, h2, ?_⟩
  have H3 := Lib.hid h3; clear h3 h2 hV hV1
  unfold nameV chgV at *
  go_enter Tryz.func70, Tryz.ntmps70
  go_wp2_with (go_at_call 111; refine (H3.out).mono ?_; rintro e w2 ⟨rfl, hV2, hb2, hc2⟩)
  go_ret
  exact ⟨rfl, hV2, ((Below.refl _ w).alloc hB _).trans hb2, (Cells.of_below (below_alloc w _)).trans hc2⟩
end Go.Proofs.YtgonfcdmaoeboaaGreatDoor

/- view.Delete, Has. -/
namespace Go.Proofs.YtgonfcdmaoeboaaGreatDoor
open Go.RowKit

set_option maxRecDepth 100000 in
set_option maxHeartbeats 800000 in
theorem viewDelete_any (B vb : Nat) (base : Value) (R : List (Value × Value)) (c : Nat) (N : List (Value × Value)) (K : Nat) (m : List UInt8) (n i : Int) (t : List UInt8) (w : World)
    (hV : ViewIs B w vb base R c N) (hB : B ≤ w.heap.size) (hn : NameOk K m n i t) (hNl : N.length < 1000000) (hcl : c < 1000000) :
    ∃ N', N'.length ≤ N.length + 1 ∧ (∀ p, p ∈ N' ↔ p = (nameV K m n i t, chgV K m n i t [] true) ∨ (p ∈ N ∧ p.1 ≠ nameV K m n i t)) ∧
    Calls Tryz.prog 75 #[.pointer (some ⟨vb, 0, none⟩), nameV K m n i t] w fun e w' => e = .returned (.int .i64 0) ∧ ViewIs B w' vb base R (c + 1) N' ∧ Below B w w' ∧ Cells [131] w w' := by
  have hV1 := hV.keep (below_alloc w (.cells #[.int .i64 K, .string (str m), .int .i64 n, .int .i64 i, .string (str t)] 69))
  obtain ⟨N', h1, h2, h3⟩ := viewCall_any B vb base R c N K m n i t [] true _ hV1 (by simp; omega) hn (by simp) hNl hcl
  refine ⟨N', h1, h2, ?_⟩
  have H3 := Lib.hid h3; clear h3 h2 hV hV1
  unfold nameV chgV at *
  go_enter Tryz.func75, Tryz.ntmps75
  go_wp2_with (go_at_call 111; refine (H3.out).mono ?_; rintro e w2 ⟨rfl, hV2, hb2, hc2⟩)
  go_ret
  exact ⟨rfl, hV2, ((Below.refl _ w).alloc hB _).trans hb2, (Cells.of_below (below_alloc w _)).trans hc2⟩

end Go.Proofs.YtgonfcdmaoeboaaGreatDoor

/- One object of a view: what Get, Has, Set and Delete make of it. -/
namespace Go.Proofs.YtgonfcdmaoeboaaGreatDoor
open Go.RowKit

/-- what Get returns of an object -/
def retV (cur : Option (List UInt8)) : Value := .tuple #[.string (str (cur.getD [])), .bool cur.isSome]

/-- the state of a view says of the object of a name -/
def BaseSays (B : Nat) (w : World) (base nm : Value) (cur : Option (List UInt8)) : Prop :=
  ∀ w1, Below B w w1 → Calls Tryz.prog 78 #[base, nm] w1 fun e w2 => e = .returned (retV cur) ∧ Below w1.heap.size w1 w2

theorem BaseSays.keep {B : Nat} {w w' : World} {base nm : Value} {cur : Option (List UInt8)} (h : BaseSays B w base nm cur) (hb : Below B w w') : BaseSays B w' base nm cur := fun w1 h1 => h w1 (hb.trans h1)

/-- the view at block vb shows the object of the name as cur; at most k things have been read, called or written -/
def ObjIs (B : Nat) (w : World) (vb : Nat) (base : Value) (K : Nat) (m : List UInt8) (n i : Int) (t : List UInt8) (cur : Option (List UInt8)) (k : Nat) : Prop :=
  ∃ R c N bc, ViewIs B w vb base R c N ∧ BaseSays B w base (nameV K m n i t) bc ∧ R.length ≤ k ∧ c ≤ k ∧ N.length ≤ k ∧ B ≤ w.heap.size ∧
    ((∃ val ab, (nameV K m n i t, chgV K m n i t val ab) ∈ N ∧ cur = (if ab = true then none else some val) ∧ (ab = true → val = [])) ∨ ((∀ p ∈ N, p.1 ≠ nameV K m n i t) ∧ cur = bc))

section
variable {B : Nat} {w w' : World} {vb : Nat} {base : Value} {K : Nat} {m : List UInt8} {n i : Int} {t : List UInt8} {cur : Option (List UInt8)} {k : Nat}

theorem ObjIs.keep (h : ObjIs B w vb base K m n i t cur k) (hb : Below w.heap.size w w') : ObjIs B w' vb base K m n i t cur k := by
  obtain ⟨R, c, N, bc, h1, h2, h3, h4, h5, h6, h7⟩ := h
  exact ⟨R, c, N, bc, h1.keep hb, h2.keep (hb.mono h6), h3, h4, h5, Nat.le_trans h6 hb.size, h7⟩
theorem ObjIs.more {k' : Nat} (h : ObjIs B w vb base K m n i t cur k) (hk : k ≤ k') : ObjIs B w vb base K m n i t cur k' := by
  obtain ⟨R, c, N, bc, h1, h2, h3, h4, h5, h6, h7⟩ := h
  exact ⟨R, c, N, bc, h1, h2, by omega, by omega, by omega, h6, h7⟩
theorem ObjIs.le (h : ObjIs B w vb base K m n i t cur k) : B ≤ w.heap.size := by
  obtain ⟨R, c, N, bc, h1, h2, h3, h4, h5, h6, h7⟩ := h
  exact h6

theorem Only.map {ts : List TypeId} {P : Program} {kt : TypeId} {b : Nat} {L : List (Value × Value)} (h : Only ts w w') (hm : MapAs w P kt b L) : MapAs w' P kt b L := by
  obtain ⟨es, clock, hb, F, hp⟩ := hm
  exact ⟨es, clock, h.2 b _ hb (fun _ _ _ e => by cases e), F, hp⟩
theorem ViewIs.only {ts : List TypeId} {R : List (Value × Value)} {c : Nat} {N : List (Value × Value)} (h : ViewIs B w vb base R c N) (ho : Only ts w w') (h1 : 131 ∉ ts) (h2 : 81 ∉ ts) : ViewIs B w' vb base R c N := by
  obtain ⟨br, bn, cv, a1, a2, a3, a4, a5, a6, a7, cs, a8, a9⟩ := h.ex
  exact ⟨br, bn, cv, ho.blk a1 h1, a2, a3, a4, a5, ho.map a6, ho.map a7, cs, ho.owns a8 h2, a9⟩
theorem ObjIs.only {ts : List TypeId} (h : ObjIs B w vb base K m n i t cur k) (ho : Only ts w w') (hb : Below B w w') (h1 : 131 ∉ ts) (h2 : 81 ∉ ts) : ObjIs B w' vb base K m n i t cur k := by
  obtain ⟨R, c, N, bc, a1, a2, a3, a4, a5, a6, a7⟩ := h
  exact ⟨R, c, N, bc, a1.only ho h1 h2, a2.keep hb, a3, a4, a5, Nat.le_trans a6 ho.1, a7⟩

theorem objGet (hn : NameOk K m n i t) (h : ObjIs B w vb base K m n i t cur k) (hk : k < 1000000) :
    Calls Tryz.prog 43 #[.pointer (some ⟨vb, 0, none⟩), nameV K m n i t] w fun e w' => e = .returned (retV cur) ∧ ObjIs B w' vb base K m n i t cur (k + 1) ∧ Below B w w' ∧ Cells [] w w' := by
  obtain ⟨R, c, N, bc, h1, h2, h3, h4, h5, h6, h7⟩ := h
  rcases h7 with ⟨val, ab, hin, hcur, hab⟩ | ⟨hno, hcur⟩
  · refine (viewGet_now B vb base R c N K m n i t val ab w h1 h6 hn hin).mono ?_
    rintro e w' ⟨rfl, hb⟩
    refine ⟨?_, ⟨R, c, N, bc, h1.keep hb, h2.keep (hb.mono h6), by omega, by omega, by omega, Nat.le_trans h6 hb.size, .inl ⟨val, ab, hin, hcur, hab⟩⟩, hb.mono h6, Cells.of_below hb⟩
    cases ab with
    | true => rw [hcur, hab rfl]; rfl
    | false => rw [hcur]; rfl
  · obtain ⟨R', r1, r2, r3⟩ := viewGet_base B vb base R c N K m n i t (bc.getD []) bc.isSome w h1 h6 hn hno (by omega) (fun w1 hb => h2 w1 (hb.mono h6))
    refine r3.mono ?_
    rintro e w' ⟨rfl, hV, hb, hcc⟩
    refine ⟨by rw [hcur]; rfl, ⟨R', c, N, bc, hV, h2.keep hb, by omega, by omega, by omega, Nat.le_trans h6 hb.size, .inr ⟨hno, hcur⟩⟩, hb, hcc⟩

theorem objSet (hn : NameOk K m n i t) (h : ObjIs B w vb base K m n i t cur k) (hk : k < 1000000) (val : List UInt8) (hval : val.length ≤ 65536) :
    Calls Tryz.prog 70 #[.pointer (some ⟨vb, 0, none⟩), nameV K m n i t, .string (str val)] w fun e w' => e = .returned (.int .i64 0) ∧ ObjIs B w' vb base K m n i t (some val) (k + 1) ∧ Below B w w' ∧ Cells [131] w w' := by
  obtain ⟨R, c, N, bc, h1, h2, h3, h4, h5, h6, h7⟩ := h
  obtain ⟨N', r1, r2, r3⟩ := viewSet_any B vb base R c N K m n i t val w h1 h6 hn hval (by omega) (by omega)
  refine r3.mono ?_
  rintro e w' ⟨rfl, hV, hb, hcc⟩
  exact ⟨rfl, ⟨R, c + 1, N', bc, hV, h2.keep hb, by omega, by omega, by omega, Nat.le_trans h6 hb.size, .inl ⟨val, false, (r2 _).2 (.inl rfl), rfl, by simp⟩⟩, hb, hcc⟩
end
end Go.Proofs.YtgonfcdmaoeboaaGreatDoor

/- The empty state, and a new view of it. -/
namespace Go.Proofs.YtgonfcdmaoeboaaGreatDoor
open Go.RowKit

set_option maxRecDepth 100000 in
set_option maxHeartbeats 400000 in
theorem stateTree_any (sb : Nat) (r : Value) (hr : ∃ p, r = .pointer p) (w : World) (h : Blk w sb #[r] 134) :
    Calls Tryz.prog 115 #[.pointer (some ⟨sb, 0, none⟩)] w fun e w' => e = .returned r ∧ Below w.heap.size w w' := by
  obtain ⟨p, rfl⟩ := hr
  have h0 := h.cell 0
  go_enter Tryz.func115, Tryz.ntmps115
  go_wp2
  go_ret
  exact ⟨rfl, Below.refl _ _⟩

set_option maxRecDepth 100000 in
set_option maxHeartbeats 800000 in
theorem stateGet_empty (sb : Nat) (K : Nat) (m : List UInt8) (n i : Int) (t : List UInt8) (w : World) (h : Blk w sb #[.pointer none] 134) :
    Calls Tryz.prog 78 #[.pointer (some ⟨sb, 0, none⟩), nameV K m n i t] w fun e w' => e = .returned (retV none) ∧ Below w.heap.size w w' := by
  unfold nameV
  have h1 := h.alloc (.cells #[.int .i64 K, .string (str m), .int .i64 n, .int .i64 i, .string (str t)] 69)
  have Hc := Lib.hid (stateTree_any sb _ ⟨_, rfl⟩ _ h1)
  clear h1
  go_enter Tryz.func78, Tryz.ntmps78
  go_wp2_with (go_at_call 115; refine (Hc.out).mono ?_; rintro e w2 ⟨rfl, hb2⟩)
  go_loop [6] (fun x => x = .pointer none) (fun _ => 0)
  case atStart => rfl
  case round =>
    subst hrel
    go_wp2
    go_ret2
    exact ⟨rfl, (below_alloc w _).trans (hb2.mono (by simp))⟩

theorem baseSays_empty {B : Nat} {w : World} {sb : Nat} (h : Blk w sb #[.pointer none] 134) (hb : sb < B) (K : Nat) (m : List UInt8) (n i : Int) (t : List UInt8) :
    BaseSays B w (.pointer (some ⟨sb, 0, none⟩)) (nameV K m n i t) none := fun w1 h1 => stateGet_empty sb K m n i t w1 (h.below h1 hb)

theorem objNew (sb : Nat) (K : Nat) (m : List UInt8) (n i : Int) (t : List UInt8) (cur : Option (List UInt8)) (w : World) (hs : BaseSays w.heap.size w (.pointer (some ⟨sb, 0, none⟩)) (nameV K m n i t) cur) :
    Calls Tryz.prog 22 #[.pointer (some ⟨sb, 0, none⟩)] w fun e w' => ∃ vb, e = .returned (.pointer (some ⟨vb, 0, none⟩)) ∧ ObjIs w.heap.size w' vb (.pointer (some ⟨sb, 0, none⟩)) K m n i t cur 0 ∧ Below w.heap.size w w' := by
  refine (viewNew_any sb w).mono ?_
  rintro e w' ⟨vb, rfl, hV, hb⟩
  exact ⟨vb, rfl, ⟨[], 0, [], cur, hV, hs.keep hb, by simp, by simp, by simp, hb.size, .inr ⟨by simp, rfl⟩⟩, hb⟩
end Go.Proofs.YtgonfcdmaoeboaaGreatDoor

/- One object of a view: Has and Delete. -/
namespace Go.Proofs.YtgonfcdmaoeboaaGreatDoor
open Go.RowKit

section
variable {B : Nat} {w w' : World} {vb : Nat} {base : Value} {K : Nat} {m : List UInt8} {n i : Int} {t : List UInt8} {cur : Option (List UInt8)} {k : Nat}
theorem objDelete (hn : NameOk K m n i t) (h : ObjIs B w vb base K m n i t cur k) (hk : k < 1000000) :
    Calls Tryz.prog 75 #[.pointer (some ⟨vb, 0, none⟩), nameV K m n i t] w fun e w' => e = .returned (.int .i64 0) ∧ ObjIs B w' vb base K m n i t none (k + 1) ∧ Below B w w' ∧ Cells [131] w w' := by
  obtain ⟨R, c, N, bc, h1, h2, h3, h4, h5, h6, h7⟩ := h
  obtain ⟨N', r1, r2, r3⟩ := viewDelete_any B vb base R c N K m n i t w h1 h6 hn (by omega) (by omega)
  refine r3.mono ?_
  rintro e w' ⟨rfl, hV, hb, hcc⟩
  exact ⟨rfl, ⟨R, c + 1, N', bc, hV, h2.keep hb, by omega, by omega, by omega, Nat.le_trans h6 hb.size, .inl ⟨[], true, (r2 _).2 (.inl rfl), rfl, by simp⟩⟩, hb, hcc⟩
end
end Go.Proofs.YtgonfcdmaoeboaaGreatDoor

/- What the last step of every claim of this seat wants: what was read before a call that changes nothing old reads so behind it. -/
namespace Go.Proofs.YtgonfcdmaoeboaaGreatDoor
open Go.ChangeShapes Go.WideShapes Go.ChangeAt Go.RowKit

theorem ownNone : ownKnob Tryz.prog.godebug = none := by kernel_rfl
theorem laidOutK : laidOutB Tryz.prog = true := by kernel_rfl

theorem trodAll_below {H : Type} {enc : TypeId × Value → H} {W W' : World} (hb : Below W.heap.size W W') : ∀ {ts : List TypeId} {vs : List Value} {ds : List (DataW H)} {ps : List MemPlace},
    ts.all (fun t => Tryz.prog.readableRec t && decide (t < Tryz.prog.types.size)) = true → DataW.TrodAll enc Tryz.prog W 0 (fun _ => true) true ts vs ds ps → (∀ x ∈ ps, x.block < W.heap.size) →
    DataW.TrodAll enc Tryz.prog W' 0 (fun b => decide (b < W.heap.size)) true ts vs ds ps := by
  intro ts
  induction ts with
  | nil =>
    intro vs ds ps _ h _
    obtain ⟨rfl, rfl, rfl⟩ := trodAll_nil h
    exact trodAll_mk0
  | cons t ts ih =>
    intro vs ds ps hts h hlt
    obtain ⟨v, vs', d, ds', p, q, rfl, rfl, rfl, h0, hr⟩ := trodAll_cons h
    simp only [List.all_cons, Bool.and_eq_true, decide_eq_true_eq] at hts
    exact trodAll_cons_mk (Below.trod laidOutK hts.1.1 hts.1.2 h0 hb (fun x hx => hlt x (List.mem_append_left _ hx))) (ih (by simpa using hts.2) hr (fun x hx => hlt x (List.mem_append_right _ hx)))

/-- the law has returned true, and nothing old has turned -/
theorem law_post {H : Type} {enc : TypeId × Value → H} {fn : Func} {s : ChangeSpec} {W W' : World} {args : Array Value} {ds gs : List (DataW H)} {before : List MemPlace}
    (hts : fn.params.toList.all (fun t => Tryz.prog.readableRec t && decide (t < Tryz.prog.types.size)) = true) (hres : fn.resultTypes = #[4]) (hvars : s.vars = [])
    (hfn : ∀ xs : List (DataW H), xs.length = fn.params.size → s.fn H xs = { results := [.lit (.bool true)], args := xs })
    (hW : DataW.Whole enc Tryz.prog fn.params.toList s.vars false W args.toList ds gs before) (hb : Below W.heap.size W W') :
    s.post enc Tryz.prog fn false true false false W args (.bool true) W' := by
  have hlt : ∀ x ∈ before, x.block < W.heap.size := fun x hx => hW.lt x hx
  have hW' := hW
  obtain ⟨p, q, hA, hV, rfl, _, _⟩ := hW
  have hV' := hV
  rw [hvars] at hV
  obtain ⟨rfl, rfl⟩ := trodVars_none hV
  have hlen : ∀ (ts : List TypeId) (vs : List Value) (ds : List (DataW H)) (ps : List MemPlace), DataW.TrodAll enc Tryz.prog W 0 (fun _ => true) true ts vs ds ps → ds.length = ts.length := by
    intro ts
    induction ts with
    | nil => intro vs ds ps h; obtain ⟨_, rfl, _⟩ := trodAll_nil h; rfl
    | cons t ts ih => intro vs ds ps h; obtain ⟨v, vs', d, ds', p, q, _, rfl, _, _, hr⟩ := trodAll_cons h; simp [ih _ _ _ hr]
  have hl := hlen _ _ _ _ hA
  have hf := hfn ds (by rw [hl]; simp)
  refine ⟨ds, [], _, [], p, [], hW', ?_, ?_, ?_, hb.frame _, fun h => by cases h⟩
  · rw [List.append_nil, hf, hres]
    exact trodAll_mk1 (shut_bool Tryz.underlying4 _)
  · rw [List.append_nil, hf]
    exact trodAll_below hb hts hA (fun x hx => hlt x (List.mem_append_left _ hx))
  · rw [List.append_nil, hf, hvars]
    rfl
end Go.Proofs.YtgonfcdmaoeboaaGreatDoor
