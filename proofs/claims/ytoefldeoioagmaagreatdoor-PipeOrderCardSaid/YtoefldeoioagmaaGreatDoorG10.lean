/- Contracts of functions on the way to the claim, proved for every input that their hypotheses let by; no condition of the claim. Joined of: S23 S24 S25 S26 K2. -/
import Derived.Deep.RegionHeld3
import Derived.Deep.DrawnRows
import Derived.Deep.Slices
import Derived.Deep.Fields
import Derived.Test.YtoefldeoioagmaaGreatDoorG9
import Derived.Test.YtoefldeoioagmaaGreatDoorG5

/- replevinlaw32.do: what serves each of its ways. -/
namespace Go.Proofs.YtoefldeoioagmaaGreatDoor
open Go.RowKit

/-- an operation, and a result, as values -/
def opV (kd ep n : Int) (s : List UInt8) (wr : Bool) : Value := .agg #[.int .u8 kd, .int .i64 ep, .int .i64 n, .string (str s), .bool wr]
def resV (e n : Int) (b : List UInt8) (pe pr pw : Int) (pb : List UInt8) : Value := .agg #[.int .i64 e, .int .i64 n, .string (str b), .int .i64 pe, .int .i64 pr, .int .i64 pw, .string (str pb)]

theorem Blk.fives {w : World} {b : Nat} {x y z u v : Value} {t : TypeId} (h : Blk w b #[x, y, z, u, v] t) :
    w.cell? ⟨b, 0, none⟩ = some x ∧ w.cell? ⟨b, 1, none⟩ = some y ∧ w.cell? ⟨b, 2, none⟩ = some z ∧ w.cell? ⟨b, 3, none⟩ = some u ∧ w.cell? ⟨b, 4, none⟩ = some v :=
  ⟨by rw [h.cell]; rfl, by rw [h.cell]; rfl, by rw [h.cell]; rfl, by rw [h.cell]; rfl, by rw [h.cell]; rfl⟩
theorem Blk.seven_f {w : World} {b : Nat} {x y z u v p q : Value} {t : TypeId} (h : Blk w b #[x, y, z, u, v, p, q] t) :
    w.frozen? ⟨b, 0, none⟩ = false ∧ w.frozen? ⟨b, 1, none⟩ = false ∧ w.frozen? ⟨b, 2, none⟩ = false ∧ w.frozen? ⟨b, 3, none⟩ = false ∧ w.frozen? ⟨b, 4, none⟩ = false ∧ w.frozen? ⟨b, 5, none⟩ = false ∧ w.frozen? ⟨b, 6, none⟩ = false :=
  ⟨h.frozen 0, h.frozen 1, h.frozen 2, h.frozen 3, h.frozen 4, h.frozen 5, h.frozen 6⟩
theorem Blk.all7 {w : World} {b : Nat} {x0 x1 x2 x3 x4 x5 x6 : Value} {t : TypeId} (h : Blk w b #[x0, x1, x2, x3, x4, x5, x6] t) (y0 y1 y2 y3 y4 y5 y6 : Value) : Blk (((((((w.setCell ⟨b, 0, none⟩ y0).setCell ⟨b, 1, none⟩ y1).setCell ⟨b, 2, none⟩ y2).setCell ⟨b, 3, none⟩ y3).setCell ⟨b, 4, none⟩ y4).setCell ⟨b, 5, none⟩ y5).setCell ⟨b, 6, none⟩ y6) b #[y0, y1, y2, y3, y4, y5, y6] t := by
  have h0 : Blk (w.setCell ⟨b, 0, none⟩ y0) b #[y0, x1, x2, x3, x4, x5, x6] t := (h.set 0 y0).congr rfl
  have h1 : Blk ((w.setCell ⟨b, 0, none⟩ y0).setCell ⟨b, 1, none⟩ y1) b #[y0, y1, x2, x3, x4, x5, x6] t := (h0.set 1 y1).congr rfl
  have h2 : Blk (((w.setCell ⟨b, 0, none⟩ y0).setCell ⟨b, 1, none⟩ y1).setCell ⟨b, 2, none⟩ y2) b #[y0, y1, y2, x3, x4, x5, x6] t := (h1.set 2 y2).congr rfl
  have h3 : Blk ((((w.setCell ⟨b, 0, none⟩ y0).setCell ⟨b, 1, none⟩ y1).setCell ⟨b, 2, none⟩ y2).setCell ⟨b, 3, none⟩ y3) b #[y0, y1, y2, y3, x4, x5, x6] t := (h2.set 3 y3).congr rfl
  have h4 : Blk (((((w.setCell ⟨b, 0, none⟩ y0).setCell ⟨b, 1, none⟩ y1).setCell ⟨b, 2, none⟩ y2).setCell ⟨b, 3, none⟩ y3).setCell ⟨b, 4, none⟩ y4) b #[y0, y1, y2, y3, y4, x5, x6] t := (h3.set 4 y4).congr rfl
  have h5 : Blk ((((((w.setCell ⟨b, 0, none⟩ y0).setCell ⟨b, 1, none⟩ y1).setCell ⟨b, 2, none⟩ y2).setCell ⟨b, 3, none⟩ y3).setCell ⟨b, 4, none⟩ y4).setCell ⟨b, 5, none⟩ y5) b #[y0, y1, y2, y3, y4, y5, x6] t := (h4.set 5 y5).congr rfl
  have h6 : Blk (((((((w.setCell ⟨b, 0, none⟩ y0).setCell ⟨b, 1, none⟩ y1).setCell ⟨b, 2, none⟩ y2).setCell ⟨b, 3, none⟩ y3).setCell ⟨b, 4, none⟩ y4).setCell ⟨b, 5, none⟩ y5).setCell ⟨b, 6, none⟩ y6) b #[y0, y1, y2, y3, y4, y5, y6] t := (h5.set 6 y6).congr rfl
  exact h6
theorem only_all7 {w : World} {b : Nat} {x0 x1 x2 x3 x4 x5 x6 : Value} {t : TypeId} (h : Blk w b #[x0, x1, x2, x3, x4, x5, x6] t) (y0 y1 y2 y3 y4 y5 y6 : Value) : Only [t] w (((((((w.setCell ⟨b, 0, none⟩ y0).setCell ⟨b, 1, none⟩ y1).setCell ⟨b, 2, none⟩ y2).setCell ⟨b, 3, none⟩ y3).setCell ⟨b, 4, none⟩ y4).setCell ⟨b, 5, none⟩ y5).setCell ⟨b, 6, none⟩ y6) := by
  have h0 : Blk (w.setCell ⟨b, 0, none⟩ y0) b #[y0, x1, x2, x3, x4, x5, x6] t := (h.set 0 y0).congr rfl
  have o0 : Only [t] w (w.setCell ⟨b, 0, none⟩ y0) := Only.set h (by simp) y0
  have h1 : Blk ((w.setCell ⟨b, 0, none⟩ y0).setCell ⟨b, 1, none⟩ y1) b #[y0, y1, x2, x3, x4, x5, x6] t := (h0.set 1 y1).congr rfl
  have o1 : Only [t] (w.setCell ⟨b, 0, none⟩ y0) ((w.setCell ⟨b, 0, none⟩ y0).setCell ⟨b, 1, none⟩ y1) := Only.set h0 (by simp) y1
  have h2 : Blk (((w.setCell ⟨b, 0, none⟩ y0).setCell ⟨b, 1, none⟩ y1).setCell ⟨b, 2, none⟩ y2) b #[y0, y1, y2, x3, x4, x5, x6] t := (h1.set 2 y2).congr rfl
  have o2 : Only [t] ((w.setCell ⟨b, 0, none⟩ y0).setCell ⟨b, 1, none⟩ y1) (((w.setCell ⟨b, 0, none⟩ y0).setCell ⟨b, 1, none⟩ y1).setCell ⟨b, 2, none⟩ y2) := Only.set h1 (by simp) y2
  have h3 : Blk ((((w.setCell ⟨b, 0, none⟩ y0).setCell ⟨b, 1, none⟩ y1).setCell ⟨b, 2, none⟩ y2).setCell ⟨b, 3, none⟩ y3) b #[y0, y1, y2, y3, x4, x5, x6] t := (h2.set 3 y3).congr rfl
  have o3 : Only [t] (((w.setCell ⟨b, 0, none⟩ y0).setCell ⟨b, 1, none⟩ y1).setCell ⟨b, 2, none⟩ y2) ((((w.setCell ⟨b, 0, none⟩ y0).setCell ⟨b, 1, none⟩ y1).setCell ⟨b, 2, none⟩ y2).setCell ⟨b, 3, none⟩ y3) := Only.set h2 (by simp) y3
  have h4 : Blk (((((w.setCell ⟨b, 0, none⟩ y0).setCell ⟨b, 1, none⟩ y1).setCell ⟨b, 2, none⟩ y2).setCell ⟨b, 3, none⟩ y3).setCell ⟨b, 4, none⟩ y4) b #[y0, y1, y2, y3, y4, x5, x6] t := (h3.set 4 y4).congr rfl
  have o4 : Only [t] ((((w.setCell ⟨b, 0, none⟩ y0).setCell ⟨b, 1, none⟩ y1).setCell ⟨b, 2, none⟩ y2).setCell ⟨b, 3, none⟩ y3) (((((w.setCell ⟨b, 0, none⟩ y0).setCell ⟨b, 1, none⟩ y1).setCell ⟨b, 2, none⟩ y2).setCell ⟨b, 3, none⟩ y3).setCell ⟨b, 4, none⟩ y4) := Only.set h3 (by simp) y4
  have h5 : Blk ((((((w.setCell ⟨b, 0, none⟩ y0).setCell ⟨b, 1, none⟩ y1).setCell ⟨b, 2, none⟩ y2).setCell ⟨b, 3, none⟩ y3).setCell ⟨b, 4, none⟩ y4).setCell ⟨b, 5, none⟩ y5) b #[y0, y1, y2, y3, y4, y5, x6] t := (h4.set 5 y5).congr rfl
  have o5 : Only [t] (((((w.setCell ⟨b, 0, none⟩ y0).setCell ⟨b, 1, none⟩ y1).setCell ⟨b, 2, none⟩ y2).setCell ⟨b, 3, none⟩ y3).setCell ⟨b, 4, none⟩ y4) ((((((w.setCell ⟨b, 0, none⟩ y0).setCell ⟨b, 1, none⟩ y1).setCell ⟨b, 2, none⟩ y2).setCell ⟨b, 3, none⟩ y3).setCell ⟨b, 4, none⟩ y4).setCell ⟨b, 5, none⟩ y5) := Only.set h4 (by simp) y5
  have h6 : Blk (((((((w.setCell ⟨b, 0, none⟩ y0).setCell ⟨b, 1, none⟩ y1).setCell ⟨b, 2, none⟩ y2).setCell ⟨b, 3, none⟩ y3).setCell ⟨b, 4, none⟩ y4).setCell ⟨b, 5, none⟩ y5).setCell ⟨b, 6, none⟩ y6) b #[y0, y1, y2, y3, y4, y5, y6] t := (h5.set 6 y6).congr rfl
  have o6 : Only [t] ((((((w.setCell ⟨b, 0, none⟩ y0).setCell ⟨b, 1, none⟩ y1).setCell ⟨b, 2, none⟩ y2).setCell ⟨b, 3, none⟩ y3).setCell ⟨b, 4, none⟩ y4).setCell ⟨b, 5, none⟩ y5) (((((((w.setCell ⟨b, 0, none⟩ y0).setCell ⟨b, 1, none⟩ y1).setCell ⟨b, 2, none⟩ y2).setCell ⟨b, 3, none⟩ y3).setCell ⟨b, 4, none⟩ y4).setCell ⟨b, 5, none⟩ y5).setCell ⟨b, 6, none⟩ y6) := Only.set h5 (by simp) y6
  exact ((((((o0.trans o1).trans o2).trans o3).trans o4).trans o5).trans o6)
theorem past_all7 {B : Nat} {a w : World} {b : Nat} (h : Past B a w) (hb : B ≤ b) (y0 y1 y2 y3 y4 y5 y6 : Value) : Past B a (((((((w.setCell ⟨b, 0, none⟩ y0).setCell ⟨b, 1, none⟩ y1).setCell ⟨b, 2, none⟩ y2).setCell ⟨b, 3, none⟩ y3).setCell ⟨b, 4, none⟩ y4).setCell ⟨b, 5, none⟩ y5).setCell ⟨b, 6, none⟩ y6) := (((((((h.set (p := ⟨b, 0, none⟩) hb y0).set (p := ⟨b, 1, none⟩) hb y1).set (p := ⟨b, 2, none⟩) hb y2).set (p := ⟨b, 3, none⟩) hb y3).set (p := ⟨b, 4, none⟩) hb y4).set (p := ⟨b, 5, none⟩) hb y5).set (p := ⟨b, 6, none⟩) hb y6)

def zeroRes : Array Value := #[.int .i64 0, .int .i64 0, .string ⟨#[]⟩, .int .i64 0, .int .i64 0, .int .i64 0, .string ⟨#[]⟩]
/-- the three blocks of do: the operation, the result's variable, the result -/
structure DoBlks (H : Nat) (w : World) (op : Array Value) (r : Array Value) : Prop where
  op : Blk w H op 56
  out : Blk w (H + 1) zeroRes 58
  res : Blk w (H + 1 + 1) r 58
theorem DoBlks.new (w : World) (op : Array Value) : DoBlks w.heap.size (((w.alloc (.cells op 56)).alloc (.cells zeroRes 58)).alloc (.cells zeroRes 58)) op zeroRes :=
  ⟨((Blk.new w op _).alloc _).alloc _, ((Blk.new (w.alloc (.cells op 56)) zeroRes _).alloc _).congr rfl |> fun h => by simpa using h, by simpa using Blk.new ((w.alloc (.cells op 56)).alloc (.cells zeroRes 58)) zeroRes 58⟩
theorem DoBlks.below {H : Nat} {w w' : World} {op r : Array Value} (h : DoBlks H w op r) (hb : Below w.heap.size w w') : DoBlks H w' op r := ⟨h.op.below hb h.op.lt, h.out.below hb h.out.lt, h.res.below hb h.res.lt⟩
theorem DoBlks.cells {H : Nat} {w w' : World} {op r : Array Value} (h : DoBlks H w op r) (hc : Cells [99] w w') : DoBlks H w' op r := ⟨hc.blk h.op (by decide), hc.blk h.out (by decide), hc.blk h.res (by decide)⟩
theorem DoBlks.set {H : Nat} {w : World} {op r : Array Value} (h : DoBlks H w op r) (j : Nat) (v : Value) : DoBlks H (w.setCell ⟨H + 1 + 1, j, none⟩ v) op (r.setIfInBounds j v) :=
  ⟨h.op.setOther (a := ⟨H + 1 + 1, j, none⟩) (by simp; omega) v, h.out.setOther (a := ⟨H + 1 + 1, j, none⟩) (by simp) v, h.res.set j v⟩
theorem DoBlks.drew {H : Nat} {w : World} {op r : Array Value} (h : DoBlks H w op r) : DoBlks H w.drew op r := ⟨h.op, h.out, h.res⟩
end Go.Proofs.YtoefldeoioagmaaGreatDoor

/- replevinlaw32.do: an operation on a view, kind by kind. -/
namespace Go.Proofs.YtoefldeoioagmaaGreatDoor
open Go.RowKit
attribute [local go_sem ↓] Go.wp_at_zero Go.wp_at_succ

theorem cell_far (w : World) (H j i : Nat) (v : Value) : (w.setCell ⟨H + 1 + 1, j, none⟩ v).cell? ⟨H, i, none⟩ = w.cell? ⟨H, i, none⟩ := World.cell?_of_block (w := w) (Below.heap_setCell w _ v H (by show H ≠ H + 1 + 1; omega))
theorem Cells.then_below {ts : List TypeId} {w a c : World} (h : Cells ts w a) (hb : Below w.heap.size a c) : Cells ts w c := ⟨Nat.le_trans h.1 hb.size, fun b cs t f hk ht => (hb.block b (Array.getElem?_eq_some_iff.1 hk).1).trans (h.2 b cs t f hk ht)⟩
theorem PipeIs.only {B : Nat} {w w' : World} {vb : Nat} {base : Value} {cur : Option (List UInt8)} {k : Nat} {ts : List TypeId} (h : PipeIs B w vb base cur k) (ho : Only ts w w') (hb : Below B w w') (h1 : 99 ∉ ts) (h2 : 78 ∉ ts) : PipeIs B w' vb base cur k := ObjIs.only h ho hb h1 h2

/-- what Get gives: the pipe's parts, and the error -/
def gQ (cur : Option (List UInt8)) (ep : Int) : Int × Int × Int × List UInt8 × Int :=
  if withinB ep 1073741824 = true then
    match pipeGet cur ep with
    | some (e, r, w, b) => (e, r, w, b, 0)
    | none => (0, 0, 0, [], 8)
  else (0, 0, 0, [], 2)
theorem gQ_get (cur : Option (List UInt8)) (ep : Int) : pipeGetV cur ep = .tuple #[.agg #[.int .i64 (gQ cur ep).1, .int .i64 (gQ cur ep).2.1, .int .i64 (gQ cur ep).2.2.1, .string (str (gQ cur ep).2.2.2.1)], .int .i64 (gQ cur ep).2.2.2.2] := by
  unfold pipeGetV gQ
  split
  · cases pipeGet cur ep with
    | none => rfl
    | some q => rfl
  · rfl
theorem oGetQ {B : Nat} {w : World} {vb : Nat} {base : Value} {cur : Option (List UInt8)} {k : Nat} (h : PipeIs B w vb base cur k) (hk : k < 999999) (hcur : (cur.getD []).length ≤ 1000000000) (epoch ge gr gw : Int) (gt : List UInt8) (gerr : Int) (hq : gQ cur epoch = (ge, gr, gw, gt, gerr)) :
    Calls Tryz.prog 25 #[.pointer (some ⟨vb, 0, none⟩), oneV, .int .i64 epoch] w fun x w' => x = .returned (.tuple #[.agg #[.int .i64 ge, .int .i64 gr, .int .i64 gw, .string (str gt)], .int .i64 gerr]) ∧ PipeIs B w' vb base cur (k + 1) ∧ Below B w w' ∧ Cells [99] w w' := by
  have h := oGet h hk hcur epoch
  rw [gQ_get, hq] at h
  exact h

section
variable {B : Nat} {vb : Nat} {base : Value} {cur : Option (List UInt8)} {k : Nat}
set_option maxRecDepth 100000 in
set_option maxHeartbeats 3200000 in
theorem do_make (w : World) (kd : Nat) (hkd : (kd : Int) % 8 = 0) (ep n : Int) (s : List UInt8) (wr : Bool) (hO : PipeIs B w vb base cur k) (hk : k < 900000) (hcur : (cur.getD []).length ≤ 1000000000) :
    Calls Tryz.prog 24 #[.pointer (some ⟨vb, 0, none⟩), opV kd ep n s wr] w fun x w' => x = .returned (resV (makeErr cur ep) (0) ([]) (0) (0) (0) ([])) ∧ PipeIs B w' vb base (makeCur cur ep) (k + 2) ∧ Below B w w' ∧ Cells [99] w w' := by
  have hB := hO.le
  unfold opV resV
  have hD := DoBlks.new w #[.int .u8 kd, .int .i64 ep, .int .i64 n, .string (str s), .bool wr]
  have hO := hO.keep ((((Past.refl w).alloc (.cells #[.int .u8 kd, .int .i64 ep, .int .i64 n, .string (str s), .bool wr] 56)).alloc (.cells zeroRes 58)).alloc (.cells zeroRes 58)).1
  have hP := ((((Past.at hB).alloc (.cells #[.int .u8 kd, .int .i64 ep, .int .i64 n, .string (str s), .bool wr] 56)).alloc (.cells zeroRes 58)).alloc (.cells zeroRes 58))
  have hQ := ((((Past.refl w).alloc (.cells #[.int .u8 kd, .int .i64 ep, .int .i64 n, .string (str s), .bool wr] 56)).alloc (.cells zeroRes 58)).alloc (.cells zeroRes 58))
  unfold zeroRes at *
  obtain ⟨W, hW⟩ : ∃ W, W = (((w.alloc (.cells #[.int .u8 kd, .int .i64 ep, .int .i64 n, .string (str s), .bool wr] 56)).alloc (.cells #[.int .i64 0, .int .i64 0, .string ⟨#[]⟩, .int .i64 0, .int .i64 0, .int .i64 0, .string ⟨#[]⟩] 58)).alloc (.cells #[.int .i64 0, .int .i64 0, .string ⟨#[]⟩, .int .i64 0, .int .i64 0, .int .i64 0, .string ⟨#[]⟩] 58)) := ⟨_, rfl⟩
  go_enter Tryz.func24, Tryz.ntmps24
  go_wp2_with fail
  rw [← hW] at hD hO hP hQ ⊢
  clear hW hkd
  have hd0 := hD.op.fives
  obtain ⟨u0, u1, u2, u3, u4⟩ := hd0
  go_region_held3 (fun w' => w'.cell? ⟨w.heap.size, 1, none⟩ = some (.int .i64 ep))
    (first | (simp only [cell_far]; with_reducible exact ho6.fives.2.1) | with_reducible exact ho5.fives.2.1 | with_reducible exact ho6.fives.2.1 | go_keep)
    (first
      | (go_at_call 20; refine (oOne _).mono ?_; rintro x w5 ⟨rfl, hb5⟩; have hB5 := ((Past.refl W).drew.call hb5).1; have hD5 := hD.below hB5; have hO5 := hO.keep hB5; have ho5 := hD5.op)
      | (go_at_call 19; refine (oMake hO5 (by omega) ep).mono ?_; rintro x w6 ⟨rfl, hO6, hb6, hc6⟩; have hD6 := hD5.cells hc6; have ho6 := hD6.op; obtain ⟨r0, r1, r2, r3, r4, r5, r6⟩ := hD6.res.seven; obtain ⟨f0, f1, f2, f3, f4, f5, f6⟩ := hD6.res.seven_f))
  all_goals (
    have hC6 : Cells [99] w w6 := ((Cells.of_below (hQ.1)).trans (Cells.of_below hB5)).trans hc6
    have hP6 := (hP.call hB5).next hb6
    have hD7 : DoBlks w.heap.size (w6.setCell ⟨w.heap.size + 1 + 1, 0, none⟩ (.int .i64 (makeErr cur ep))) _ _ := (hD6.set 0 (.int .i64 (makeErr cur ep)))
    have hon : Only [58] w6 (w6.setCell ⟨w.heap.size + 1 + 1, 0, none⟩ (.int .i64 (makeErr cur ep))) := Only.set (j := 0) hD6.res (by simp) (.int .i64 (makeErr cur ep))
    have hpa : Past B w6 (w6.setCell ⟨w.heap.size + 1 + 1, 0, none⟩ (.int .i64 (makeErr cur ep))) := ((Past.at (B := B) (w := w6) hP6.2).set (p := ⟨w.heap.size + 1 + 1, 0, none⟩) (by show _ ≤ w.heap.size + 1 + 1; omega) (.int .i64 (makeErr cur ep)))
    have hpw : Past w.heap.size w6 (w6.setCell ⟨w.heap.size + 1 + 1, 0, none⟩ (.int .i64 (makeErr cur ep))) := ((Past.at (B := w.heap.size) (w := w6) hC6.1).set (p := ⟨w.heap.size + 1 + 1, 0, none⟩) (by show _ ≤ w.heap.size + 1 + 1; omega) (.int .i64 (makeErr cur ep)))
    have hr7 := hD7.res.congr (cs' := #[.int .i64 (makeErr cur ep), .int .i64 0, .string ⟨#[]⟩, .int .i64 0, .int .i64 0, .int .i64 0, .string ⟨#[]⟩]) rfl
    obtain ⟨W7, hW7⟩ : ∃ W7, W7 = (w6.setCell ⟨w.heap.size + 1 + 1, 0, none⟩ (.int .i64 (makeErr cur ep))) := ⟨_, rfl⟩
    rw [← hW7] at hD7 hon hpa hpw hr7 ⊢
    clear hW7 r0 r1 r2 r3 r4 r5 r6 f0 f1 f2 f3 f4 f5 f6 u0 u1 u2 u3 u4
    obtain ⟨r0, r1, r2, r3, r4, r5, r6⟩ := hr7.seven
    obtain ⟨z0, z1, z2, z3, z4, z5, z6⟩ := hD7.out.seven
    obtain ⟨f0, f1, f2, f3, f4, f5, f6⟩ := hD7.out.seven_f
    go_wp2
    have hz := hD7.out.all7 (.int .i64 (makeErr cur ep)) (.int .i64 0) (.string ⟨#[]⟩) (.int .i64 0) (.int .i64 0) (.int .i64 0) (.string ⟨#[]⟩)
    obtain ⟨k0, k1, k2, k3, k4, k5, k6⟩ := hz.seven
    have hon2 := hon.trans (only_all7 hD7.out (.int .i64 (makeErr cur ep)) (.int .i64 0) (.string ⟨#[]⟩) (.int .i64 0) (.int .i64 0) (.int .i64 0) (.string ⟨#[]⟩))
    have hpa2 := past_all7 (b := w.heap.size + 1) hpa (by omega) (.int .i64 (makeErr cur ep)) (.int .i64 0) (.string ⟨#[]⟩) (.int .i64 0) (.int .i64 0) (.int .i64 0) (.string ⟨#[]⟩)
    have hpw2 := past_all7 (b := w.heap.size + 1) hpw (by omega) (.int .i64 (makeErr cur ep)) (.int .i64 0) (.string ⟨#[]⟩) (.int .i64 0) (.int .i64 0) (.int .i64 0) (.string ⟨#[]⟩)
    refine bodyPost_ret (v := .agg #[.int .i64 (makeErr cur ep), .int .i64 0, .string ⟨#[]⟩, .int .i64 0, .int .i64 0, .int .i64 0, .string ⟨#[]⟩]) (by simp [results, Tryz.results24, go_sem, k0, k1, k2, k3, k4, k5, k6]) rfl ⟨rfl, (hO6.more (by omega)).only hon2 hpa2.1 (by decide) (by decide), hP6.1.trans hpa2.1, hC6.then_below hpw2.1⟩)

set_option maxRecDepth 100000 in
set_option maxHeartbeats 3200000 in
theorem do_join (w : World) (kd : Nat) (hkd : (kd : Int) % 8 = 5) (ep n : Int) (s : List UInt8) (wr : Bool) (hO : PipeIs B w vb base cur k) (hk : k < 900000) (hcur : (cur.getD []).length ≤ 1000000000) :
    Calls Tryz.prog 24 #[.pointer (some ⟨vb, 0, none⟩), opV kd ep n s wr] w fun x w' => x = .returned (resV (joinErr cur ep wr) (0) ([]) (0) (0) (0) ([])) ∧ PipeIs B w' vb base (joinCur cur ep wr) (k + 2) ∧ Below B w w' ∧ Cells [99] w w' := by
  have hB := hO.le
  unfold opV resV
  have hD := DoBlks.new w #[.int .u8 kd, .int .i64 ep, .int .i64 n, .string (str s), .bool wr]
  have hO := hO.keep ((((Past.refl w).alloc (.cells #[.int .u8 kd, .int .i64 ep, .int .i64 n, .string (str s), .bool wr] 56)).alloc (.cells zeroRes 58)).alloc (.cells zeroRes 58)).1
  have hP := ((((Past.at hB).alloc (.cells #[.int .u8 kd, .int .i64 ep, .int .i64 n, .string (str s), .bool wr] 56)).alloc (.cells zeroRes 58)).alloc (.cells zeroRes 58))
  have hQ := ((((Past.refl w).alloc (.cells #[.int .u8 kd, .int .i64 ep, .int .i64 n, .string (str s), .bool wr] 56)).alloc (.cells zeroRes 58)).alloc (.cells zeroRes 58))
  unfold zeroRes at *
  obtain ⟨W, hW⟩ : ∃ W, W = (((w.alloc (.cells #[.int .u8 kd, .int .i64 ep, .int .i64 n, .string (str s), .bool wr] 56)).alloc (.cells #[.int .i64 0, .int .i64 0, .string ⟨#[]⟩, .int .i64 0, .int .i64 0, .int .i64 0, .string ⟨#[]⟩] 58)).alloc (.cells #[.int .i64 0, .int .i64 0, .string ⟨#[]⟩, .int .i64 0, .int .i64 0, .int .i64 0, .string ⟨#[]⟩] 58)) := ⟨_, rfl⟩
  go_enter Tryz.func24, Tryz.ntmps24
  go_wp2_with fail
  rw [← hW] at hD hO hP hQ ⊢
  clear hW hkd
  have hd0 := hD.op.fives
  obtain ⟨u0, u1, u2, u3, u4⟩ := hd0
  go_region_held3 (fun w' => w'.cell? ⟨w.heap.size, 1, none⟩ = some (.int .i64 ep) ∧ w'.cell? ⟨w.heap.size, 4, none⟩ = some (.bool wr))
    (first | (simp only [cell_far]; with_reducible exact ⟨ho6.fives.2.1, ho6.fives.2.2.2.2⟩) | with_reducible exact ⟨ho5.fives.2.1, ho5.fives.2.2.2.2⟩ | with_reducible exact ⟨ho6.fives.2.1, ho6.fives.2.2.2.2⟩ | go_keep)
    (first
      | (go_at_call 20; refine (oOne _).mono ?_; rintro x w5 ⟨rfl, hb5⟩; have hB5 := ((Past.refl W).drew.call hb5).1; have hD5 := hD.below hB5; have hO5 := hO.keep hB5; have ho5 := hD5.op)
      | (go_at_call 26; refine (oJoin hO5 (by omega) hcur ep wr).mono ?_; rintro x w6 ⟨rfl, hO6, hb6, hcE⟩; have hD6 := hD5.cells hcE.1; have ho6 := hD6.op; obtain ⟨r0, r1, r2, r3, r4, r5, r6⟩ := hD6.res.seven; obtain ⟨f0, f1, f2, f3, f4, f5, f6⟩ := hD6.res.seven_f))
  all_goals (
    have hC6 : Cells [99] w w6 := ((Cells.of_below (hQ.1)).trans (Cells.of_below hB5)).trans hcE.1
    have hP6 := (hP.call hB5).next hb6
    have hD7 : DoBlks w.heap.size (w6.setCell ⟨w.heap.size + 1 + 1, 0, none⟩ (.int .i64 (joinErr cur ep wr))) _ _ := (hD6.set 0 (.int .i64 (joinErr cur ep wr)))
    have hon : Only [58] w6 (w6.setCell ⟨w.heap.size + 1 + 1, 0, none⟩ (.int .i64 (joinErr cur ep wr))) := Only.set (j := 0) hD6.res (by simp) (.int .i64 (joinErr cur ep wr))
    have hpa : Past B w6 (w6.setCell ⟨w.heap.size + 1 + 1, 0, none⟩ (.int .i64 (joinErr cur ep wr))) := ((Past.at (B := B) (w := w6) hP6.2).set (p := ⟨w.heap.size + 1 + 1, 0, none⟩) (by show _ ≤ w.heap.size + 1 + 1; omega) (.int .i64 (joinErr cur ep wr)))
    have hpw : Past w.heap.size w6 (w6.setCell ⟨w.heap.size + 1 + 1, 0, none⟩ (.int .i64 (joinErr cur ep wr))) := ((Past.at (B := w.heap.size) (w := w6) hC6.1).set (p := ⟨w.heap.size + 1 + 1, 0, none⟩) (by show _ ≤ w.heap.size + 1 + 1; omega) (.int .i64 (joinErr cur ep wr)))
    have hr7 := hD7.res.congr (cs' := #[.int .i64 (joinErr cur ep wr), .int .i64 0, .string ⟨#[]⟩, .int .i64 0, .int .i64 0, .int .i64 0, .string ⟨#[]⟩]) rfl
    obtain ⟨W7, hW7⟩ : ∃ W7, W7 = (w6.setCell ⟨w.heap.size + 1 + 1, 0, none⟩ (.int .i64 (joinErr cur ep wr))) := ⟨_, rfl⟩
    rw [← hW7] at hD7 hon hpa hpw hr7 ⊢
    clear hW7 r0 r1 r2 r3 r4 r5 r6 f0 f1 f2 f3 f4 f5 f6 u0 u1 u2 u3 u4
    obtain ⟨r0, r1, r2, r3, r4, r5, r6⟩ := hr7.seven
    obtain ⟨z0, z1, z2, z3, z4, z5, z6⟩ := hD7.out.seven
    obtain ⟨f0, f1, f2, f3, f4, f5, f6⟩ := hD7.out.seven_f
    go_wp2
    have hz := hD7.out.all7 (.int .i64 (joinErr cur ep wr)) (.int .i64 0) (.string ⟨#[]⟩) (.int .i64 0) (.int .i64 0) (.int .i64 0) (.string ⟨#[]⟩)
    obtain ⟨k0, k1, k2, k3, k4, k5, k6⟩ := hz.seven
    have hon2 := hon.trans (only_all7 hD7.out (.int .i64 (joinErr cur ep wr)) (.int .i64 0) (.string ⟨#[]⟩) (.int .i64 0) (.int .i64 0) (.int .i64 0) (.string ⟨#[]⟩))
    have hpa2 := past_all7 (b := w.heap.size + 1) hpa (by omega) (.int .i64 (joinErr cur ep wr)) (.int .i64 0) (.string ⟨#[]⟩) (.int .i64 0) (.int .i64 0) (.int .i64 0) (.string ⟨#[]⟩)
    have hpw2 := past_all7 (b := w.heap.size + 1) hpw (by omega) (.int .i64 (joinErr cur ep wr)) (.int .i64 0) (.string ⟨#[]⟩) (.int .i64 0) (.int .i64 0) (.int .i64 0) (.string ⟨#[]⟩)
    refine bodyPost_ret (v := .agg #[.int .i64 (joinErr cur ep wr), .int .i64 0, .string ⟨#[]⟩, .int .i64 0, .int .i64 0, .int .i64 0, .string ⟨#[]⟩]) (by simp [results, Tryz.results24, go_sem, k0, k1, k2, k3, k4, k5, k6]) rfl ⟨rfl, (hO6.more (by omega)).only hon2 hpa2.1 (by decide) (by decide), hP6.1.trans hpa2.1, hC6.then_below hpw2.1⟩)

set_option maxRecDepth 100000 in
set_option maxHeartbeats 3200000 in
theorem do_leave (w : World) (kd : Nat) (hkd : (kd : Int) % 8 = 6) (ep n : Int) (s : List UInt8) (wr : Bool) (hO : PipeIs B w vb base cur k) (hk : k < 900000) (hcur : (cur.getD []).length ≤ 1000000000) :
    Calls Tryz.prog 24 #[.pointer (some ⟨vb, 0, none⟩), opV kd ep n s wr] w fun x w' => x = .returned (resV (leaveErr cur ep wr) (0) ([]) (0) (0) (0) ([])) ∧ PipeIs B w' vb base (leaveCur cur ep wr) (k + 2) ∧ Below B w w' ∧ Cells [99] w w' := by
  have hB := hO.le
  unfold opV resV
  have hD := DoBlks.new w #[.int .u8 kd, .int .i64 ep, .int .i64 n, .string (str s), .bool wr]
  have hO := hO.keep ((((Past.refl w).alloc (.cells #[.int .u8 kd, .int .i64 ep, .int .i64 n, .string (str s), .bool wr] 56)).alloc (.cells zeroRes 58)).alloc (.cells zeroRes 58)).1
  have hP := ((((Past.at hB).alloc (.cells #[.int .u8 kd, .int .i64 ep, .int .i64 n, .string (str s), .bool wr] 56)).alloc (.cells zeroRes 58)).alloc (.cells zeroRes 58))
  have hQ := ((((Past.refl w).alloc (.cells #[.int .u8 kd, .int .i64 ep, .int .i64 n, .string (str s), .bool wr] 56)).alloc (.cells zeroRes 58)).alloc (.cells zeroRes 58))
  unfold zeroRes at *
  obtain ⟨W, hW⟩ : ∃ W, W = (((w.alloc (.cells #[.int .u8 kd, .int .i64 ep, .int .i64 n, .string (str s), .bool wr] 56)).alloc (.cells #[.int .i64 0, .int .i64 0, .string ⟨#[]⟩, .int .i64 0, .int .i64 0, .int .i64 0, .string ⟨#[]⟩] 58)).alloc (.cells #[.int .i64 0, .int .i64 0, .string ⟨#[]⟩, .int .i64 0, .int .i64 0, .int .i64 0, .string ⟨#[]⟩] 58)) := ⟨_, rfl⟩
  go_enter Tryz.func24, Tryz.ntmps24
  go_wp2_with fail
  rw [← hW] at hD hO hP hQ ⊢
  clear hW hkd
  have hd0 := hD.op.fives
  obtain ⟨u0, u1, u2, u3, u4⟩ := hd0
  go_region_held3 (fun w' => w'.cell? ⟨w.heap.size, 1, none⟩ = some (.int .i64 ep) ∧ w'.cell? ⟨w.heap.size, 4, none⟩ = some (.bool wr))
    (first | (simp only [cell_far]; with_reducible exact ⟨ho6.fives.2.1, ho6.fives.2.2.2.2⟩) | with_reducible exact ⟨ho5.fives.2.1, ho5.fives.2.2.2.2⟩ | with_reducible exact ⟨ho6.fives.2.1, ho6.fives.2.2.2.2⟩ | go_keep)
    (first
      | (go_at_call 20; refine (oOne _).mono ?_; rintro x w5 ⟨rfl, hb5⟩; have hB5 := ((Past.refl W).drew.call hb5).1; have hD5 := hD.below hB5; have hO5 := hO.keep hB5; have ho5 := hD5.op)
      | (go_at_call 27; refine (oLeave hO5 (by omega) hcur ep wr).mono ?_; rintro x w6 ⟨rfl, hO6, hb6, hcE⟩; have hD6 := hD5.cells hcE.1; have ho6 := hD6.op; obtain ⟨r0, r1, r2, r3, r4, r5, r6⟩ := hD6.res.seven; obtain ⟨f0, f1, f2, f3, f4, f5, f6⟩ := hD6.res.seven_f))
  all_goals (
    have hC6 : Cells [99] w w6 := ((Cells.of_below (hQ.1)).trans (Cells.of_below hB5)).trans hcE.1
    have hP6 := (hP.call hB5).next hb6
    have hD7 : DoBlks w.heap.size (w6.setCell ⟨w.heap.size + 1 + 1, 0, none⟩ (.int .i64 (leaveErr cur ep wr))) _ _ := (hD6.set 0 (.int .i64 (leaveErr cur ep wr)))
    have hon : Only [58] w6 (w6.setCell ⟨w.heap.size + 1 + 1, 0, none⟩ (.int .i64 (leaveErr cur ep wr))) := Only.set (j := 0) hD6.res (by simp) (.int .i64 (leaveErr cur ep wr))
    have hpa : Past B w6 (w6.setCell ⟨w.heap.size + 1 + 1, 0, none⟩ (.int .i64 (leaveErr cur ep wr))) := ((Past.at (B := B) (w := w6) hP6.2).set (p := ⟨w.heap.size + 1 + 1, 0, none⟩) (by show _ ≤ w.heap.size + 1 + 1; omega) (.int .i64 (leaveErr cur ep wr)))
    have hpw : Past w.heap.size w6 (w6.setCell ⟨w.heap.size + 1 + 1, 0, none⟩ (.int .i64 (leaveErr cur ep wr))) := ((Past.at (B := w.heap.size) (w := w6) hC6.1).set (p := ⟨w.heap.size + 1 + 1, 0, none⟩) (by show _ ≤ w.heap.size + 1 + 1; omega) (.int .i64 (leaveErr cur ep wr)))
    have hr7 := hD7.res.congr (cs' := #[.int .i64 (leaveErr cur ep wr), .int .i64 0, .string ⟨#[]⟩, .int .i64 0, .int .i64 0, .int .i64 0, .string ⟨#[]⟩]) rfl
    obtain ⟨W7, hW7⟩ : ∃ W7, W7 = (w6.setCell ⟨w.heap.size + 1 + 1, 0, none⟩ (.int .i64 (leaveErr cur ep wr))) := ⟨_, rfl⟩
    rw [← hW7] at hD7 hon hpa hpw hr7 ⊢
    clear hW7 r0 r1 r2 r3 r4 r5 r6 f0 f1 f2 f3 f4 f5 f6 u0 u1 u2 u3 u4
    obtain ⟨r0, r1, r2, r3, r4, r5, r6⟩ := hr7.seven
    obtain ⟨z0, z1, z2, z3, z4, z5, z6⟩ := hD7.out.seven
    obtain ⟨f0, f1, f2, f3, f4, f5, f6⟩ := hD7.out.seven_f
    go_wp2
    have hz := hD7.out.all7 (.int .i64 (leaveErr cur ep wr)) (.int .i64 0) (.string ⟨#[]⟩) (.int .i64 0) (.int .i64 0) (.int .i64 0) (.string ⟨#[]⟩)
    obtain ⟨k0, k1, k2, k3, k4, k5, k6⟩ := hz.seven
    have hon2 := hon.trans (only_all7 hD7.out (.int .i64 (leaveErr cur ep wr)) (.int .i64 0) (.string ⟨#[]⟩) (.int .i64 0) (.int .i64 0) (.int .i64 0) (.string ⟨#[]⟩))
    have hpa2 := past_all7 (b := w.heap.size + 1) hpa (by omega) (.int .i64 (leaveErr cur ep wr)) (.int .i64 0) (.string ⟨#[]⟩) (.int .i64 0) (.int .i64 0) (.int .i64 0) (.string ⟨#[]⟩)
    have hpw2 := past_all7 (b := w.heap.size + 1) hpw (by omega) (.int .i64 (leaveErr cur ep wr)) (.int .i64 0) (.string ⟨#[]⟩) (.int .i64 0) (.int .i64 0) (.int .i64 0) (.string ⟨#[]⟩)
    refine bodyPost_ret (v := .agg #[.int .i64 (leaveErr cur ep wr), .int .i64 0, .string ⟨#[]⟩, .int .i64 0, .int .i64 0, .int .i64 0, .string ⟨#[]⟩]) (by simp [results, Tryz.results24, go_sem, k0, k1, k2, k3, k4, k5, k6]) rfl ⟨rfl, (hO6.more (by omega)).only hon2 hpa2.1 (by decide) (by decide), hP6.1.trans hpa2.1, hC6.then_below hpw2.1⟩)

set_option maxRecDepth 100000 in
set_option maxHeartbeats 3200000 in
theorem do_read (w : World) (kd : Nat) (hkd : (kd : Int) % 8 = 1 ∨ (kd : Int) % 8 = 2) (ep n : Int) (s : List UInt8) (wr : Bool) (hn : n ≤ 9223372036854775807) (hO : PipeIs B w vb base cur k) (hk : k < 900000) (hcur : (cur.getD []).length ≤ 1000000000) :
    Calls Tryz.prog 24 #[.pointer (some ⟨vb, 0, none⟩), opV kd ep n s wr] w fun x w' => x = .returned (resV (readErr cur ep n) (0) (readS cur ep n) (0) (0) (0) ([])) ∧ PipeIs B w' vb base (readCur cur ep n) (k + 2) ∧ Below B w w' ∧ Cells [99] w w' := by
  have hB := hO.le
  unfold opV resV
  have hD := DoBlks.new w #[.int .u8 kd, .int .i64 ep, .int .i64 n, .string (str s), .bool wr]
  have hO := hO.keep ((((Past.refl w).alloc (.cells #[.int .u8 kd, .int .i64 ep, .int .i64 n, .string (str s), .bool wr] 56)).alloc (.cells zeroRes 58)).alloc (.cells zeroRes 58)).1
  have hP := ((((Past.at hB).alloc (.cells #[.int .u8 kd, .int .i64 ep, .int .i64 n, .string (str s), .bool wr] 56)).alloc (.cells zeroRes 58)).alloc (.cells zeroRes 58))
  have hQ := ((((Past.refl w).alloc (.cells #[.int .u8 kd, .int .i64 ep, .int .i64 n, .string (str s), .bool wr] 56)).alloc (.cells zeroRes 58)).alloc (.cells zeroRes 58))
  unfold zeroRes at *
  obtain ⟨W, hW⟩ : ∃ W, W = (((w.alloc (.cells #[.int .u8 kd, .int .i64 ep, .int .i64 n, .string (str s), .bool wr] 56)).alloc (.cells #[.int .i64 0, .int .i64 0, .string ⟨#[]⟩, .int .i64 0, .int .i64 0, .int .i64 0, .string ⟨#[]⟩] 58)).alloc (.cells #[.int .i64 0, .int .i64 0, .string ⟨#[]⟩, .int .i64 0, .int .i64 0, .int .i64 0, .string ⟨#[]⟩] 58)) := ⟨_, rfl⟩
  rcases hkd with hkd | hkd
  all_goals (
    go_enter Tryz.func24, Tryz.ntmps24
    go_wp2_with fail
    rw [← hW] at hD hO hP hQ ⊢
    clear hW hkd
    have hd0 := hD.op.fives
    obtain ⟨u0, u1, u2, u3, u4⟩ := hd0
    go_region_held3 (fun w' => w'.cell? ⟨w.heap.size, 1, none⟩ = some (.int .i64 ep) ∧ w'.cell? ⟨w.heap.size, 2, none⟩ = some (.int .i64 n))
      (first | (simp only [cell_far]; with_reducible exact ⟨ho6.fives.2.1, ho6.fives.2.2.1⟩) | with_reducible exact ⟨ho5.fives.2.1, ho5.fives.2.2.1⟩ | with_reducible exact ⟨ho6.fives.2.1, ho6.fives.2.2.1⟩ | go_keep)
      (first
        | (go_at_call 20; refine (oOne _).mono ?_; rintro x w5 ⟨rfl, hb5⟩; have hB5 := ((Past.refl W).drew.call hb5).1; have hD5 := hD.below hB5; have hO5 := hO.keep hB5; have ho5 := hD5.op)
        | (go_at_call 22; refine (oRead hO5 (by omega) hcur ep n hn).mono ?_; rintro x w6 ⟨rfl, hO6, hb6, hcE⟩; have hD6 := hD5.cells hcE.1; have ho6 := hD6.op; obtain ⟨r0, r1, r2, r3, r4, r5, r6⟩ := hD6.res.seven; obtain ⟨f0, f1, f2, f3, f4, f5, f6⟩ := hD6.res.seven_f))
    all_goals (
      have hC6 : Cells [99] w w6 := ((Cells.of_below (hQ.1)).trans (Cells.of_below hB5)).trans hcE.1
      have hP6 := (hP.call hB5).next hb6
      have hD7 : DoBlks w.heap.size ((w6.setCell ⟨w.heap.size + 1 + 1, 2, none⟩ (.string (str (readS cur ep n)))).setCell ⟨w.heap.size + 1 + 1, 0, none⟩ (.int .i64 (readErr cur ep n))) _ _ := ((hD6.set 2 (.string (str (readS cur ep n)))).set 0 (.int .i64 (readErr cur ep n)))
      have hon : Only [58] w6 ((w6.setCell ⟨w.heap.size + 1 + 1, 2, none⟩ (.string (str (readS cur ep n)))).setCell ⟨w.heap.size + 1 + 1, 0, none⟩ (.int .i64 (readErr cur ep n))) := (Only.set (j := 2) hD6.res (by simp) (.string (str (readS cur ep n)))).trans (Only.set (j := 0) (hD6.res.set 2 (.string (str (readS cur ep n)))) (by simp) (.int .i64 (readErr cur ep n)))
      have hpa : Past B w6 ((w6.setCell ⟨w.heap.size + 1 + 1, 2, none⟩ (.string (str (readS cur ep n)))).setCell ⟨w.heap.size + 1 + 1, 0, none⟩ (.int .i64 (readErr cur ep n))) := (((Past.at (B := B) (w := w6) hP6.2).set (p := ⟨w.heap.size + 1 + 1, 2, none⟩) (by show _ ≤ w.heap.size + 1 + 1; omega) (.string (str (readS cur ep n)))).set (p := ⟨w.heap.size + 1 + 1, 0, none⟩) (by show _ ≤ w.heap.size + 1 + 1; omega) (.int .i64 (readErr cur ep n)))
      have hpw : Past w.heap.size w6 ((w6.setCell ⟨w.heap.size + 1 + 1, 2, none⟩ (.string (str (readS cur ep n)))).setCell ⟨w.heap.size + 1 + 1, 0, none⟩ (.int .i64 (readErr cur ep n))) := (((Past.at (B := w.heap.size) (w := w6) hC6.1).set (p := ⟨w.heap.size + 1 + 1, 2, none⟩) (by show _ ≤ w.heap.size + 1 + 1; omega) (.string (str (readS cur ep n)))).set (p := ⟨w.heap.size + 1 + 1, 0, none⟩) (by show _ ≤ w.heap.size + 1 + 1; omega) (.int .i64 (readErr cur ep n)))
      have hr7 := hD7.res.congr (cs' := #[.int .i64 (readErr cur ep n), .int .i64 0, .string (str (readS cur ep n)), .int .i64 0, .int .i64 0, .int .i64 0, .string ⟨#[]⟩]) rfl
      obtain ⟨W7, hW7⟩ : ∃ W7, W7 = ((w6.setCell ⟨w.heap.size + 1 + 1, 2, none⟩ (.string (str (readS cur ep n)))).setCell ⟨w.heap.size + 1 + 1, 0, none⟩ (.int .i64 (readErr cur ep n))) := ⟨_, rfl⟩
      rw [← hW7] at hD7 hon hpa hpw hr7 ⊢
      clear hW7 r0 r1 r2 r3 r4 r5 r6 f0 f1 f2 f3 f4 f5 f6 u0 u1 u2 u3 u4
      obtain ⟨r0, r1, r2, r3, r4, r5, r6⟩ := hr7.seven
      obtain ⟨z0, z1, z2, z3, z4, z5, z6⟩ := hD7.out.seven
      obtain ⟨f0, f1, f2, f3, f4, f5, f6⟩ := hD7.out.seven_f
      go_wp2
      have hz := hD7.out.all7 (.int .i64 (readErr cur ep n)) (.int .i64 0) (.string (str (readS cur ep n))) (.int .i64 0) (.int .i64 0) (.int .i64 0) (.string ⟨#[]⟩)
      obtain ⟨k0, k1, k2, k3, k4, k5, k6⟩ := hz.seven
      have hon2 := hon.trans (only_all7 hD7.out (.int .i64 (readErr cur ep n)) (.int .i64 0) (.string (str (readS cur ep n))) (.int .i64 0) (.int .i64 0) (.int .i64 0) (.string ⟨#[]⟩))
      have hpa2 := past_all7 (b := w.heap.size + 1) hpa (by omega) (.int .i64 (readErr cur ep n)) (.int .i64 0) (.string (str (readS cur ep n))) (.int .i64 0) (.int .i64 0) (.int .i64 0) (.string ⟨#[]⟩)
      have hpw2 := past_all7 (b := w.heap.size + 1) hpw (by omega) (.int .i64 (readErr cur ep n)) (.int .i64 0) (.string (str (readS cur ep n))) (.int .i64 0) (.int .i64 0) (.int .i64 0) (.string ⟨#[]⟩)
      refine bodyPost_ret (v := .agg #[.int .i64 (readErr cur ep n), .int .i64 0, .string (str (readS cur ep n)), .int .i64 0, .int .i64 0, .int .i64 0, .string ⟨#[]⟩]) (by simp [results, Tryz.results24, go_sem, k0, k1, k2, k3, k4, k5, k6]) rfl ⟨rfl, (hO6.more (by omega)).only hon2 hpa2.1 (by decide) (by decide), hP6.1.trans hpa2.1, hC6.then_below hpw2.1⟩))

set_option maxRecDepth 100000 in
set_option maxHeartbeats 3200000 in
theorem do_write (w : World) (kd : Nat) (hkd : (kd : Int) % 8 = 3 ∨ (kd : Int) % 8 = 4) (ep n : Int) (s : List UInt8) (wr : Bool) (c : Nat) (hc : (s.length ≤ 600 ∧ c = s.length) ∨ (600 < s.length ∧ c = 600)) (hsl : s.length ≤ 9223372036854775807) (hO : PipeIs B w vb base cur k) (hk : k < 900000) (hcur : (cur.getD []).length ≤ 1000000000) :
    Calls Tryz.prog 24 #[.pointer (some ⟨vb, 0, none⟩), opV kd ep n s wr] w fun x w' => x = .returned (resV (writeErr cur ep (s.take 600)) (writeN cur ep (s.take 600)) ([]) (0) (0) (0) ([])) ∧ PipeIs B w' vb base (writeCur cur ep (s.take 600)) (k + 2) ∧ Below B w w' ∧ Cells [99] w w' := by
  have hB := hO.le
  have hsz := str_size s
  have htl : (s.take 600).length ≤ 1000000000 := by rw [List.length_take]; omega
  have hex : (str s).extract 0 c = str (s.take 600) := by
    rw [str_extract]
    rcases hc with ⟨h, rfl⟩ | ⟨h, rfl⟩
    · rw [List.drop_zero, Nat.sub_zero, List.take_of_length_le (by omega), List.take_of_length_le h]
    · rfl
  have hcm : (if 600 < (s.length : Int) then 600 else (s.length : Int)) = (c : Int) := by split <;> omega
  have hc1 : c ≤ s.length := by omega
  have hc2 : c ≤ 600 := by omega
  have Hcm := Lib.hid hcm
  unfold opV resV
  have hD := DoBlks.new w #[.int .u8 kd, .int .i64 ep, .int .i64 n, .string (str s), .bool wr]
  have hO := hO.keep ((((Past.refl w).alloc (.cells #[.int .u8 kd, .int .i64 ep, .int .i64 n, .string (str s), .bool wr] 56)).alloc (.cells zeroRes 58)).alloc (.cells zeroRes 58)).1
  have hP := ((((Past.at hB).alloc (.cells #[.int .u8 kd, .int .i64 ep, .int .i64 n, .string (str s), .bool wr] 56)).alloc (.cells zeroRes 58)).alloc (.cells zeroRes 58))
  have hQ := ((((Past.refl w).alloc (.cells #[.int .u8 kd, .int .i64 ep, .int .i64 n, .string (str s), .bool wr] 56)).alloc (.cells zeroRes 58)).alloc (.cells zeroRes 58))
  unfold zeroRes at *
  obtain ⟨W, hW⟩ : ∃ W, W = (((w.alloc (.cells #[.int .u8 kd, .int .i64 ep, .int .i64 n, .string (str s), .bool wr] 56)).alloc (.cells #[.int .i64 0, .int .i64 0, .string ⟨#[]⟩, .int .i64 0, .int .i64 0, .int .i64 0, .string ⟨#[]⟩] 58)).alloc (.cells #[.int .i64 0, .int .i64 0, .string ⟨#[]⟩, .int .i64 0, .int .i64 0, .int .i64 0, .string ⟨#[]⟩] 58)) := ⟨_, rfl⟩
  rcases hkd with hkd | hkd
  all_goals (
    go_enter Tryz.func24, Tryz.ntmps24
    go_wp2_with fail
    rw [← hW] at hD hO hP hQ ⊢
    clear hW hkd
    have hd0 := hD.op.fives
    obtain ⟨u0, u1, u2, u3, u4⟩ := hd0
    go_region_held3 (fun w' => w'.cell? ⟨w.heap.size, 1, none⟩ = some (.int .i64 ep) ∧ w'.cell? ⟨w.heap.size, 3, none⟩ = some (.string (str s)))
      (first | (simp only [cell_far]; with_reducible exact ⟨ho6.fives.2.1, ho6.fives.2.2.2.1⟩) | with_reducible exact ⟨ho5.fives.2.1, ho5.fives.2.2.2.1⟩ | with_reducible exact ⟨ho6.fives.2.1, ho6.fives.2.2.2.1⟩ | go_keep)
      (first
        | (go_at_call 20; refine (oOne _).mono ?_; rintro x w5 ⟨rfl, hb5⟩; have hB5 := ((Past.refl W).drew.call hb5).1; have hD5 := hD.below hB5; have hO5 := hO.keep hB5; have ho5 := hD5.op)
        | (go_at_call 23; refine (oWrite hO5 (by omega) hcur ep (s.take 600) htl).mono ?_; rintro x w6 ⟨rfl, hO6, hb6, hcE⟩; have hD6 := hD5.cells hcE.1; have ho6 := hD6.op; obtain ⟨r0, r1, r2, r3, r4, r5, r6⟩ := hD6.res.seven; obtain ⟨f0, f1, f2, f3, f4, f5, f6⟩ := hD6.res.seven_f))
    all_goals (
      have hC6 : Cells [99] w w6 := ((Cells.of_below (hQ.1)).trans (Cells.of_below hB5)).trans hcE.1
      have hP6 := (hP.call hB5).next hb6
      have hD7 : DoBlks w.heap.size ((w6.setCell ⟨w.heap.size + 1 + 1, 1, none⟩ (.int .i64 (writeN cur ep (s.take 600)))).setCell ⟨w.heap.size + 1 + 1, 0, none⟩ (.int .i64 (writeErr cur ep (s.take 600)))) _ _ := ((hD6.set 1 (.int .i64 (writeN cur ep (s.take 600)))).set 0 (.int .i64 (writeErr cur ep (s.take 600))))
      have hon : Only [58] w6 ((w6.setCell ⟨w.heap.size + 1 + 1, 1, none⟩ (.int .i64 (writeN cur ep (s.take 600)))).setCell ⟨w.heap.size + 1 + 1, 0, none⟩ (.int .i64 (writeErr cur ep (s.take 600)))) := (Only.set (j := 1) hD6.res (by simp) (.int .i64 (writeN cur ep (s.take 600)))).trans (Only.set (j := 0) (hD6.res.set 1 (.int .i64 (writeN cur ep (s.take 600)))) (by simp) (.int .i64 (writeErr cur ep (s.take 600))))
      have hpa : Past B w6 ((w6.setCell ⟨w.heap.size + 1 + 1, 1, none⟩ (.int .i64 (writeN cur ep (s.take 600)))).setCell ⟨w.heap.size + 1 + 1, 0, none⟩ (.int .i64 (writeErr cur ep (s.take 600)))) := (((Past.at (B := B) (w := w6) hP6.2).set (p := ⟨w.heap.size + 1 + 1, 1, none⟩) (by show _ ≤ w.heap.size + 1 + 1; omega) (.int .i64 (writeN cur ep (s.take 600)))).set (p := ⟨w.heap.size + 1 + 1, 0, none⟩) (by show _ ≤ w.heap.size + 1 + 1; omega) (.int .i64 (writeErr cur ep (s.take 600))))
      have hpw : Past w.heap.size w6 ((w6.setCell ⟨w.heap.size + 1 + 1, 1, none⟩ (.int .i64 (writeN cur ep (s.take 600)))).setCell ⟨w.heap.size + 1 + 1, 0, none⟩ (.int .i64 (writeErr cur ep (s.take 600)))) := (((Past.at (B := w.heap.size) (w := w6) hC6.1).set (p := ⟨w.heap.size + 1 + 1, 1, none⟩) (by show _ ≤ w.heap.size + 1 + 1; omega) (.int .i64 (writeN cur ep (s.take 600)))).set (p := ⟨w.heap.size + 1 + 1, 0, none⟩) (by show _ ≤ w.heap.size + 1 + 1; omega) (.int .i64 (writeErr cur ep (s.take 600))))
      have hr7 := hD7.res.congr (cs' := #[.int .i64 (writeErr cur ep (s.take 600)), .int .i64 (writeN cur ep (s.take 600)), .string ⟨#[]⟩, .int .i64 0, .int .i64 0, .int .i64 0, .string ⟨#[]⟩]) rfl
      obtain ⟨W7, hW7⟩ : ∃ W7, W7 = ((w6.setCell ⟨w.heap.size + 1 + 1, 1, none⟩ (.int .i64 (writeN cur ep (s.take 600)))).setCell ⟨w.heap.size + 1 + 1, 0, none⟩ (.int .i64 (writeErr cur ep (s.take 600)))) := ⟨_, rfl⟩
      rw [← hW7] at hD7 hon hpa hpw hr7 ⊢
      clear hW7 r0 r1 r2 r3 r4 r5 r6 f0 f1 f2 f3 f4 f5 f6 u0 u1 u2 u3 u4
      obtain ⟨r0, r1, r2, r3, r4, r5, r6⟩ := hr7.seven
      obtain ⟨z0, z1, z2, z3, z4, z5, z6⟩ := hD7.out.seven
      obtain ⟨f0, f1, f2, f3, f4, f5, f6⟩ := hD7.out.seven_f
      go_wp2
      have hz := hD7.out.all7 (.int .i64 (writeErr cur ep (s.take 600))) (.int .i64 (writeN cur ep (s.take 600))) (.string ⟨#[]⟩) (.int .i64 0) (.int .i64 0) (.int .i64 0) (.string ⟨#[]⟩)
      obtain ⟨k0, k1, k2, k3, k4, k5, k6⟩ := hz.seven
      have hon2 := hon.trans (only_all7 hD7.out (.int .i64 (writeErr cur ep (s.take 600))) (.int .i64 (writeN cur ep (s.take 600))) (.string ⟨#[]⟩) (.int .i64 0) (.int .i64 0) (.int .i64 0) (.string ⟨#[]⟩))
      have hpa2 := past_all7 (b := w.heap.size + 1) hpa (by omega) (.int .i64 (writeErr cur ep (s.take 600))) (.int .i64 (writeN cur ep (s.take 600))) (.string ⟨#[]⟩) (.int .i64 0) (.int .i64 0) (.int .i64 0) (.string ⟨#[]⟩)
      have hpw2 := past_all7 (b := w.heap.size + 1) hpw (by omega) (.int .i64 (writeErr cur ep (s.take 600))) (.int .i64 (writeN cur ep (s.take 600))) (.string ⟨#[]⟩) (.int .i64 0) (.int .i64 0) (.int .i64 0) (.string ⟨#[]⟩)
      refine bodyPost_ret (v := .agg #[.int .i64 (writeErr cur ep (s.take 600)), .int .i64 (writeN cur ep (s.take 600)), .string ⟨#[]⟩, .int .i64 0, .int .i64 0, .int .i64 0, .string ⟨#[]⟩]) (by simp [results, Tryz.results24, go_sem, k0, k1, k2, k3, k4, k5, k6]) rfl ⟨rfl, (hO6.more (by omega)).only hon2 hpa2.1 (by decide) (by decide), hP6.1.trans hpa2.1, hC6.then_below hpw2.1⟩))

set_option maxRecDepth 100000 in
set_option maxHeartbeats 3200000 in
theorem do_get (w : World) (kd : Nat) (hkd : (kd : Int) % 8 = 7) (ep n : Int) (s : List UInt8) (wr : Bool) (ge gr gw : Int) (gt : List UInt8) (gerr : Int) (hq : Hid (gQ cur ep = (ge, gr, gw, gt, gerr))) (hO : PipeIs B w vb base cur k) (hk : k < 900000) (hcur : (cur.getD []).length ≤ 1000000000) :
    Calls Tryz.prog 24 #[.pointer (some ⟨vb, 0, none⟩), opV kd ep n s wr] w fun x w' => x = .returned (resV (gerr) (0) ([]) (ge) (gr) (gw) (gt)) ∧ PipeIs B w' vb base (cur) (k + 2) ∧ Below B w w' ∧ Cells [99] w w' := by
  have hB := hO.le
  unfold opV resV
  have hD := DoBlks.new w #[.int .u8 kd, .int .i64 ep, .int .i64 n, .string (str s), .bool wr]
  have hO := hO.keep ((((Past.refl w).alloc (.cells #[.int .u8 kd, .int .i64 ep, .int .i64 n, .string (str s), .bool wr] 56)).alloc (.cells zeroRes 58)).alloc (.cells zeroRes 58)).1
  have hP := ((((Past.at hB).alloc (.cells #[.int .u8 kd, .int .i64 ep, .int .i64 n, .string (str s), .bool wr] 56)).alloc (.cells zeroRes 58)).alloc (.cells zeroRes 58))
  have hQ := ((((Past.refl w).alloc (.cells #[.int .u8 kd, .int .i64 ep, .int .i64 n, .string (str s), .bool wr] 56)).alloc (.cells zeroRes 58)).alloc (.cells zeroRes 58))
  unfold zeroRes at *
  obtain ⟨W, hW⟩ : ∃ W, W = (((w.alloc (.cells #[.int .u8 kd, .int .i64 ep, .int .i64 n, .string (str s), .bool wr] 56)).alloc (.cells #[.int .i64 0, .int .i64 0, .string ⟨#[]⟩, .int .i64 0, .int .i64 0, .int .i64 0, .string ⟨#[]⟩] 58)).alloc (.cells #[.int .i64 0, .int .i64 0, .string ⟨#[]⟩, .int .i64 0, .int .i64 0, .int .i64 0, .string ⟨#[]⟩] 58)) := ⟨_, rfl⟩
  go_enter Tryz.func24, Tryz.ntmps24
  go_wp2_with fail
  rw [← hW] at hD hO hP hQ ⊢
  clear hW hkd
  have hd0 := hD.op.fives
  obtain ⟨u0, u1, u2, u3, u4⟩ := hd0
  go_region_held3 (fun w' => w'.cell? ⟨w.heap.size, 1, none⟩ = some (.int .i64 ep))
    (first | (simp only [cell_far]; with_reducible exact ho6.fives.2.1) | with_reducible exact ho5.fives.2.1 | with_reducible exact ho6.fives.2.1 | go_keep)
    (first
      | (go_at_call 20; refine (oOne _).mono ?_; rintro x w5 ⟨rfl, hb5⟩; have hB5 := ((Past.refl W).drew.call hb5).1; have hD5 := hD.below hB5; have hO5 := hO.keep hB5; have ho5 := hD5.op)
      | (go_at_call 25; refine (oGetQ hO5 (by omega) hcur ep ge gr gw gt gerr hq.out).mono ?_; rintro x w6 ⟨rfl, hO6, hb6, hc6⟩; have hD6 := hD5.cells hc6; have ho6 := hD6.op; obtain ⟨r0, r1, r2, r3, r4, r5, r6⟩ := hD6.res.seven; obtain ⟨f0, f1, f2, f3, f4, f5, f6⟩ := hD6.res.seven_f))
  all_goals (
    have hC6 : Cells [99] w w6 := ((Cells.of_below (hQ.1)).trans (Cells.of_below hB5)).trans hc6
    have hP6 := (hP.call hB5).next hb6
    have hD7 : DoBlks w.heap.size (((((w6.setCell ⟨w.heap.size + 1 + 1, 3, none⟩ (.int .i64 (ge))).setCell ⟨w.heap.size + 1 + 1, 4, none⟩ (.int .i64 (gr))).setCell ⟨w.heap.size + 1 + 1, 5, none⟩ (.int .i64 (gw))).setCell ⟨w.heap.size + 1 + 1, 6, none⟩ (.string (str (gt)))).setCell ⟨w.heap.size + 1 + 1, 0, none⟩ (.int .i64 (gerr))) _ _ := (((((hD6.set 3 (.int .i64 (ge))).set 4 (.int .i64 (gr))).set 5 (.int .i64 (gw))).set 6 (.string (str (gt)))).set 0 (.int .i64 (gerr)))
    have hon : Only [58] w6 (((((w6.setCell ⟨w.heap.size + 1 + 1, 3, none⟩ (.int .i64 (ge))).setCell ⟨w.heap.size + 1 + 1, 4, none⟩ (.int .i64 (gr))).setCell ⟨w.heap.size + 1 + 1, 5, none⟩ (.int .i64 (gw))).setCell ⟨w.heap.size + 1 + 1, 6, none⟩ (.string (str (gt)))).setCell ⟨w.heap.size + 1 + 1, 0, none⟩ (.int .i64 (gerr))) := ((((Only.set (j := 3) hD6.res (by simp) (.int .i64 (ge))).trans (Only.set (j := 4) (hD6.res.set 3 (.int .i64 (ge))) (by simp) (.int .i64 (gr)))).trans (Only.set (j := 5) ((hD6.res.set 3 (.int .i64 (ge))).set 4 (.int .i64 (gr))) (by simp) (.int .i64 (gw)))).trans (Only.set (j := 6) (((hD6.res.set 3 (.int .i64 (ge))).set 4 (.int .i64 (gr))).set 5 (.int .i64 (gw))) (by simp) (.string (str (gt))))).trans (Only.set (j := 0) ((((hD6.res.set 3 (.int .i64 (ge))).set 4 (.int .i64 (gr))).set 5 (.int .i64 (gw))).set 6 (.string (str (gt)))) (by simp) (.int .i64 (gerr)))
    have hpa : Past B w6 (((((w6.setCell ⟨w.heap.size + 1 + 1, 3, none⟩ (.int .i64 (ge))).setCell ⟨w.heap.size + 1 + 1, 4, none⟩ (.int .i64 (gr))).setCell ⟨w.heap.size + 1 + 1, 5, none⟩ (.int .i64 (gw))).setCell ⟨w.heap.size + 1 + 1, 6, none⟩ (.string (str (gt)))).setCell ⟨w.heap.size + 1 + 1, 0, none⟩ (.int .i64 (gerr))) := ((((((Past.at (B := B) (w := w6) hP6.2).set (p := ⟨w.heap.size + 1 + 1, 3, none⟩) (by show _ ≤ w.heap.size + 1 + 1; omega) (.int .i64 (ge))).set (p := ⟨w.heap.size + 1 + 1, 4, none⟩) (by show _ ≤ w.heap.size + 1 + 1; omega) (.int .i64 (gr))).set (p := ⟨w.heap.size + 1 + 1, 5, none⟩) (by show _ ≤ w.heap.size + 1 + 1; omega) (.int .i64 (gw))).set (p := ⟨w.heap.size + 1 + 1, 6, none⟩) (by show _ ≤ w.heap.size + 1 + 1; omega) (.string (str (gt)))).set (p := ⟨w.heap.size + 1 + 1, 0, none⟩) (by show _ ≤ w.heap.size + 1 + 1; omega) (.int .i64 (gerr)))
    have hpw : Past w.heap.size w6 (((((w6.setCell ⟨w.heap.size + 1 + 1, 3, none⟩ (.int .i64 (ge))).setCell ⟨w.heap.size + 1 + 1, 4, none⟩ (.int .i64 (gr))).setCell ⟨w.heap.size + 1 + 1, 5, none⟩ (.int .i64 (gw))).setCell ⟨w.heap.size + 1 + 1, 6, none⟩ (.string (str (gt)))).setCell ⟨w.heap.size + 1 + 1, 0, none⟩ (.int .i64 (gerr))) := ((((((Past.at (B := w.heap.size) (w := w6) hC6.1).set (p := ⟨w.heap.size + 1 + 1, 3, none⟩) (by show _ ≤ w.heap.size + 1 + 1; omega) (.int .i64 (ge))).set (p := ⟨w.heap.size + 1 + 1, 4, none⟩) (by show _ ≤ w.heap.size + 1 + 1; omega) (.int .i64 (gr))).set (p := ⟨w.heap.size + 1 + 1, 5, none⟩) (by show _ ≤ w.heap.size + 1 + 1; omega) (.int .i64 (gw))).set (p := ⟨w.heap.size + 1 + 1, 6, none⟩) (by show _ ≤ w.heap.size + 1 + 1; omega) (.string (str (gt)))).set (p := ⟨w.heap.size + 1 + 1, 0, none⟩) (by show _ ≤ w.heap.size + 1 + 1; omega) (.int .i64 (gerr)))
    have hr7 := hD7.res.congr (cs' := #[.int .i64 (gerr), .int .i64 0, .string ⟨#[]⟩, .int .i64 (ge), .int .i64 (gr), .int .i64 (gw), .string (str (gt))]) rfl
    obtain ⟨W7, hW7⟩ : ∃ W7, W7 = (((((w6.setCell ⟨w.heap.size + 1 + 1, 3, none⟩ (.int .i64 (ge))).setCell ⟨w.heap.size + 1 + 1, 4, none⟩ (.int .i64 (gr))).setCell ⟨w.heap.size + 1 + 1, 5, none⟩ (.int .i64 (gw))).setCell ⟨w.heap.size + 1 + 1, 6, none⟩ (.string (str (gt)))).setCell ⟨w.heap.size + 1 + 1, 0, none⟩ (.int .i64 (gerr))) := ⟨_, rfl⟩
    rw [← hW7] at hD7 hon hpa hpw hr7 ⊢
    clear hW7 r0 r1 r2 r3 r4 r5 r6 f0 f1 f2 f3 f4 f5 f6 u0 u1 u2 u3 u4
    obtain ⟨r0, r1, r2, r3, r4, r5, r6⟩ := hr7.seven
    obtain ⟨z0, z1, z2, z3, z4, z5, z6⟩ := hD7.out.seven
    obtain ⟨f0, f1, f2, f3, f4, f5, f6⟩ := hD7.out.seven_f
    go_wp2
    have hz := hD7.out.all7 (.int .i64 (gerr)) (.int .i64 0) (.string ⟨#[]⟩) (.int .i64 (ge)) (.int .i64 (gr)) (.int .i64 (gw)) (.string (str (gt)))
    obtain ⟨k0, k1, k2, k3, k4, k5, k6⟩ := hz.seven
    have hon2 := hon.trans (only_all7 hD7.out (.int .i64 (gerr)) (.int .i64 0) (.string ⟨#[]⟩) (.int .i64 (ge)) (.int .i64 (gr)) (.int .i64 (gw)) (.string (str (gt))))
    have hpa2 := past_all7 (b := w.heap.size + 1) hpa (by omega) (.int .i64 (gerr)) (.int .i64 0) (.string ⟨#[]⟩) (.int .i64 (ge)) (.int .i64 (gr)) (.int .i64 (gw)) (.string (str (gt)))
    have hpw2 := past_all7 (b := w.heap.size + 1) hpw (by omega) (.int .i64 (gerr)) (.int .i64 0) (.string ⟨#[]⟩) (.int .i64 (ge)) (.int .i64 (gr)) (.int .i64 (gw)) (.string (str (gt)))
    refine bodyPost_ret (v := .agg #[.int .i64 (gerr), .int .i64 0, .string ⟨#[]⟩, .int .i64 (ge), .int .i64 (gr), .int .i64 (gw), .string (str (gt))]) (by simp [results, Tryz.results24, go_sem, k0, k1, k2, k3, k4, k5, k6]) rfl ⟨rfl, (hO6.more (by omega)).only hon2 hpa2.1 (by decide) (by decide), hP6.1.trans hpa2.1, hC6.then_below hpw2.1⟩)

end
end Go.Proofs.YtoefldeoioagmaaGreatDoor

/- do at a pipe with both sides, in its epoch: what is read and written. -/
namespace Go.Proofs.YtoefldeoioagmaaGreatDoor
open Go.RowKit

/-- what one operation of a kind other than Leave does to a pipe of epoch 1: its results, and the pipe behind it -/
def OrderStep (kd : Nat) (s : List UInt8) (b : List UInt8) (nn : Nat) (bytes : List UInt8) (r' wr' : Nat) (b' : List UInt8) : Prop :=
  pipeCheck (1 : Nat) r' wr' b'.length = 0 ∧ r' ≠ 0 ∧ wr' ≠ 0 ∧ nn ≤ s.length ∧ nn ≤ 256 ∧ bytes.length ≤ 256 ∧
  b ++ (if kd % 8 = 3 ∨ kd % 8 = 4 then s.take nn else []) = bytes ++ b'

theorem read_low {e r wr : Nat} {b : List UInt8} {most : Int} (h : pipeCheck e r wr b.length = 0) (hm : most ≤ 0) :
    readS (pp e r wr b) e most = [] ∧ readCur (pp e r wr b) e most = pp e r wr b := by
  obtain ⟨h1, h2, h3, h4, h5⟩ := pipeCheck_range h
  have hw := within_nat (e := e) (by omega)
  have hx : ∃ er, read1Err b wr most = some er := by
    unfold read1Err
    by_cases h : most < 0
    · exact ⟨2, if_pos h⟩
    · exact ⟨0, by rw [if_neg h, if_pos (by omega)]⟩
  obtain ⟨er, hx⟩ := hx
  constructor
  · unfold readS; rw [if_pos hw, pp_get h]; simp only [hx]
  · unfold readCur; rw [if_pos hw, pp_get h]; simp only [hx]
theorem write_none {e r wr : Nat} {b : List UInt8} (h : pipeCheck e r wr b.length = 0) :
    writeN (pp e r wr b) e [] = 0 ∧ writeCur (pp e r wr b) e [] = pp e r wr b := by
  obtain ⟨h1, h2, h3, h4, h5⟩ := pipeCheck_range h
  have hw := within_nat (e := e) (by omega)
  have hx : write1Err b [] r = some 0 := by unfold write1Err; rw [if_pos rfl]
  constructor
  · unfold writeN; rw [if_pos hw, pp_get h]; simp only [hx]
  · unfold writeCur; rw [if_pos hw, pp_get h]; simp only [hx]
theorem make_pp {e r wr : Nat} {b : List UInt8} (h : pipeCheck e r wr b.length = 0) : makeCur (pp e r wr b) e = pp e r wr b := by
  obtain ⟨h1, h2, h3, h4, h5⟩ := pipeCheck_range h
  have hw := within_nat (e := e) (by omega)
  unfold makeCur
  rw [if_pos hw]
  rfl

/-- one operation of another kind than Leave -/
def StepDone (B vb : Nat) (base : Value) (k kd : Nat) (s b : List UInt8) (w : World) (x : Ending) (w' : World) : Prop :=
  ∃ e nn bytes pe pr pw pb r' wr' b', x = .returned (resV e (nn : Nat) bytes pe pr pw pb) ∧ OrderStep kd s b nn bytes r' wr' b' ∧ PipeIs B w' vb base (pp 1 r' wr' b') (k + 2) ∧ Below B w w' ∧ Cells [99] w w'

section
variable {B : Nat} {vb : Nat} {base : Value} {k : Nat}
theorem do_step (w : World) (kd r wr : Nat) (b : List UInt8) (n : Int) (s : List UInt8) (wt : Bool) (hkd : kd % 8 ≠ 6) (hn : n ≤ 9223372036854775807) (hs : s.length ≤ 9223372036854775807)
    (h : pipeCheck (1 : Nat) r wr b.length = 0) (hr : r ≠ 0) (hwr : wr ≠ 0) (hO : PipeIs B w vb base (pp 1 r wr b) k) (hk : k < 900000) :
    Calls Tryz.prog 24 #[.pointer (some ⟨vb, 0, none⟩), opV kd 1 n s wt] w (StepDone B vb base k kd s b w) := by
  have hcur := pp_len h
  obtain ⟨g1, g2, g3, g4, g5⟩ := pipeCheck_range h
  have hlt : kd % 8 < 8 := Nat.mod_lt _ (by decide)
  have hc : kd % 8 = 0 ∨ kd % 8 = 1 ∨ kd % 8 = 2 ∨ kd % 8 = 3 ∨ kd % 8 = 4 ∨ kd % 8 = 5 ∨ kd % 8 = 7 := by omega
  rcases hc with hc | hc | hc | hc | hc | hc | hc
  · refine (do_make w kd (by omega) 1 n s wt hO hk hcur).mono ?_
    rintro x w' ⟨rfl, h1, h2, h3⟩
    rw [show makeCur (pp 1 r wr b) 1 = pp 1 r wr b from make_pp h] at h1
    exact ⟨_, 0, [], _, _, _, _, r, wr, b, rfl, ⟨h, hr, hwr, by omega, by omega, by simp, by rw [if_neg (by omega)] <;> simp⟩, h1, h2, h3⟩
  iterate 2 (
    · refine (do_read w kd (by omega) 1 n s wt hn hO hk hcur).mono ?_
      rintro x w' ⟨rfl, h1, h2, h3⟩
      by_cases hn1 : n ≤ 0
      · have hq := read_low h hn1
        rw [show readCur (pp 1 r wr b) 1 n = pp 1 r wr b from hq.2] at h1
        have hq1 : readS (pp 1 r wr b) 1 n = [] := hq.1
        rw [hq1]
        exact ⟨_, 0, [], _, _, _, _, r, wr, b, rfl, ⟨h, hr, hwr, by omega, by omega, by simp, by rw [if_neg (by omega)] <;> simp⟩, h1, h2, h3⟩
      · obtain ⟨m, rfl⟩ := Int.eq_ofNat_of_zero_le (show 0 ≤ n by omega)
        by_cases hb : b = []
        · subst hb
          have hq := read_busy (most := (m : Int)) h (by omega) hwr
          have hq1 : readS (pp 1 r wr []) 1 m = [] := hq.2.1
          rw [show readCur (pp 1 r wr []) 1 m = pp 1 r wr [] from hq.2.2] at h1
          rw [hq1]
          exact ⟨_, 0, [], _, _, _, _, r, wr, [], rfl, ⟨h, hr, hwr, by omega, by omega, by simp, by rw [if_neg (by omega)] <;> simp⟩, h1, h2, h3⟩
        · have hq := read_ok_pp (n := m) h (by omega) (.inl hb)
          have hq1 : readS (pp 1 r wr b) 1 m = b.take (rdCount b m) := hq.2.1
          rw [show readCur (pp 1 r wr b) 1 m = pp 1 r wr (b.drop (rdCount b m)) from hq.2.2.1] at h1
          rw [hq1]
          exact ⟨_, 0, _, _, _, _, _, r, wr, _, rfl, ⟨hq.2.2.2, hr, hwr, by omega, by omega, by rw [List.length_take]; omega, by rw [if_neg (by omega)] <;> simp⟩, h1, h2, h3⟩)
  iterate 2 (
    · obtain ⟨c, hcc⟩ : ∃ c, (s.length ≤ 600 ∧ c = s.length) ∨ (600 < s.length ∧ c = 600) := by
        by_cases h6 : s.length ≤ 600
        · exact ⟨_, .inl ⟨h6, rfl⟩⟩
        · exact ⟨_, .inr ⟨by omega, rfl⟩⟩
      refine (do_write w kd (by omega) 1 n s wt c hcc hs hO hk hcur).mono ?_
      rintro x w' ⟨rfl, h1, h2, h3⟩
      by_cases hs0 : s.take 600 = []
      · rw [hs0] at h1 ⊢
        have hq := write_none h
        rw [show writeCur (pp 1 r wr b) 1 [] = pp 1 r wr b from hq.2] at h1
        have hq1 : writeN (pp 1 r wr b) 1 [] = 0 := hq.1
        rw [hq1]
        exact ⟨_, 0, [], _, _, _, _, r, wr, b, rfl, ⟨h, hr, hwr, by omega, by omega, by simp, by simp⟩, h1, h2, h3⟩
      · by_cases hfull : 256 ≤ b.length
        · have hq := write_busy h hr hs0 hfull
          rw [show writeCur (pp 1 r wr b) 1 (s.take 600) = pp 1 r wr b from hq.2.2] at h1
          have hq1 : writeN (pp 1 r wr b) 1 (s.take 600) = 0 := hq.2.1
          rw [hq1]
          exact ⟨_, 0, [], _, _, _, _, r, wr, b, rfl, ⟨h, hr, hwr, by omega, by omega, by simp, by simp⟩, h1, h2, h3⟩
        · have hq := write_ok_pp h hr hs0 (by omega)
          have hw1 := wrCount_le b (s.take 600)
          have hl6 : (s.take 600).length ≤ s.length ∧ (s.take 600).length ≤ 600 := by rw [List.length_take]; omega
          rw [show writeCur (pp 1 r wr b) 1 (s.take 600) = pp 1 r wr (b ++ (s.take 600).take (wrCount b (s.take 600))) from hq.2.2.1] at h1
          have hq1 : writeN (pp 1 r wr b) 1 (s.take 600) = wrCount b (s.take 600) := hq.2.1
          rw [hq1]
          have htt : (s.take 600).take (wrCount b (s.take 600)) = s.take (wrCount b (s.take 600)) := by rw [List.take_take, Nat.min_eq_left (by omega)]
          rw [htt] at h1
          refine ⟨_, _, [], _, _, _, _, r, wr, _, rfl, ⟨?_, hr, hwr, by omega, by omega, by simp, by rw [if_pos (by omega)]; simp⟩, h1, h2, h3⟩
          have := hq.2.2.2
          rwa [htt] at this)
  · refine (do_join w kd (by omega) 1 n s wt hO hk hcur).mono ?_
    rintro x w' ⟨rfl, h1, h2, h3⟩
    have hj := (join_pp wt h).2
    have hj' : joinCur (pp 1 r wr b) 1 wt = (if sideOf wt r wr = 0 then pp 1 r wr b else if sideOf wt r wr = 64 then pp 1 r wr b else pp 1 (moreR wt r) (moreW wt wr) b) := hj
    rw [hj'] at h1
    by_cases h6 : sideOf wt r wr = 64
    · rw [if_neg (by omega), if_pos h6] at h1
      exact ⟨_, 0, [], _, _, _, _, r, wr, b, rfl, ⟨h, hr, hwr, by omega, by omega, by simp, by rw [if_neg (by omega)] <;> simp⟩, h1, h2, h3⟩
    · have hs0 : sideOf wt r wr ≠ 0 := by cases wt <;> simp [sideOf] <;> omega
      rw [if_neg hs0, if_neg h6] at h1
      refine ⟨_, 0, [], _, _, _, _, moreR wt r, moreW wt wr, b, rfl, ⟨?_, ?_, ?_, by omega, by omega, by simp, by rw [if_neg (by omega)] <;> simp⟩, h1, h2, h3⟩
      · refine pp_ok (by decide) ?_ ?_ ?_ (by omega)
        · cases wt <;> simp [sideOf, moreR] at * <;> omega
        · cases wt <;> simp [sideOf, moreW] at * <;> omega
        · cases wt <;> simp [moreR, moreW] <;> omega
      · cases wt <;> simp [moreR] <;> omega
      · cases wt <;> simp [moreW] <;> omega
  · obtain ⟨q, hq⟩ : ∃ q, gQ (pp 1 r wr b) 1 = q := ⟨_, rfl⟩
    obtain ⟨ge, gr, gw, gt, gerr⟩ := q
    refine (do_get w kd (by omega) 1 n s wt ge gr gw gt gerr hq hO hk hcur).mono ?_
    rintro x w' ⟨rfl, h1, h2, h3⟩
    exact ⟨_, 0, [], _, _, _, _, r, wr, b, rfl, ⟨h, hr, hwr, by omega, by omega, by simp, by rw [if_neg (by omega)] <;> simp⟩, h1, h2, h3⟩
end
end Go.Proofs.YtoefldeoioagmaaGreatDoor

/- replevinlaw32.PipeOrder. -/
namespace Go.Proofs.YtoefldeoioagmaaGreatDoor
open Go.RowKit

/-- the cells of an operation, from an address on -/
def OpAt (w : World) (a : Addr) (kd : Nat) (ep n : Int) (s : List UInt8) (wr : Bool) : Prop :=
  kd < 256 ∧ n ≤ 9223372036854775807 ∧ s.length ≤ 9223372036854775807 ∧ a.block < w.heap.size ∧
  w.cell? a = some (.int .u8 kd) ∧ w.cell? ⟨a.block, a.off + 1, none⟩ = some (.int .i64 ep) ∧ w.cell? ⟨a.block, a.off + 2, none⟩ = some (.int .i64 n) ∧ w.cell? ⟨a.block, a.off + 3, none⟩ = some (.string (str s)) ∧ w.cell? ⟨a.block, a.off + 4, none⟩ = some (.bool wr)
/-- a slice of operations -/
def OpsIs (w : World) (v : Value) (n : Nat) : Prop :=
  ∃ ao c, v = .slice ao n c ∧ n ≤ c ∧ c ≤ 9223372036854775807 ∧ ∀ i, i < n → ∃ a, ao = some a ∧ ∃ kd ep m s wr, OpAt w (a.add (i * 5)) kd ep m s wr
theorem add_block (a : Addr) (n : Nat) : (a.add n).block = a.block := by unfold Addr.add; split <;> rfl
theorem OpAt.keep {W w : World} {a : Addr} {kd : Nat} {ep n : Int} {s : List UInt8} {wr : Bool} (h : OpAt W a kd ep n s wr) (hb : Below W.heap.size W w) : OpAt w a kd ep n s wr := by
  obtain ⟨h1, h2, h3, h4, c0, c1, c2, c3, c4⟩ := h
  refine ⟨h1, h2, h3, Nat.lt_of_lt_of_le h4 hb.size, ?_, ?_, ?_, ?_, ?_⟩
  · rw [hb.cell h4]; exact c0
  all_goals (rw [hb.cell (by exact h4)]; assumption)

set_option maxRecDepth 100000 in
set_option maxHeartbeats 3200000 in
theorem pipeOrder_any (v : Value) (n : Nat) (w : World) (hl : OpsIs w v n) :
    Calls Tryz.prog 5 #[v] w fun x w' => x = .returned (.bool true) ∧ Below w.heap.size w w' := by
  have Hkn := Lib.hid known_any
  obtain ⟨ao, c, rfl, hnc, hc, hops⟩ := hl
  have Hops := Lib.hid hops; clear hops
  go_enter Tryz.func5, Tryz.ntmps5
  go_wp2_with (first
    | (go_at_call 9; refine (Hkn.out _).mono ?_; rintro e w0 ⟨rfl, hb0⟩)
    | (go_at_call 18; refine (stateNew_any _).mono ?_; rintro e w1 ⟨rfl, hs1, hb1⟩)
    | (go_at_call 17; refine (oNew hs1).mono ?_; rintro e w2 ⟨vb, rfl, hO, hb2⟩)
    | (go_at_call 20; refine (oOne _).mono ?_; rintro e w3 ⟨rfl, hb3⟩))
  have hP : Past w.heap.size w w3 := (((((Past.refl w).call hb0).call hb1).call hb2).call hb3)
  have hO := hO.keep hb3
  have hB1 : w.heap.size ≤ w1.heap.size := (((Past.refl w).call hb0).call hb1).2
  have H := oMake hO (by omega) 1
  have hmk : makeErr none 1 = 0 ∧ makeCur none 1 = pp 1 1 1 [] := by
    have hw : withinB 1 1073741824 = true := by decide
    constructor
    · unfold makeErr; rw [if_pos hw]; decide
    · unfold makeCur; rw [if_pos hw]; rfl
  rw [hmk.1, hmk.2] at H
  clear hmk
  refine H.mono ?_
  rintro e w4 ⟨rfl, hO, hb4, _⟩
  have hP := hP.next (hb4.mono hB1)
  clear H hb0 hb1 hb2 hb3 hb4 hs1
  go_wp2
  go_loopw [6, 4, 5] (fun t tin tout wr => ∃ (i r wt : Nat) (inn out b : List UInt8), i ≤ n ∧ i ≤ 40 ∧ t = .int .i64 i ∧ tin = .string (str inn) ∧ tout = .string (str out) ∧ Hid (inn = out ++ b) ∧ inn.length ≤ 300 * i ∧ out.length ≤ 300 * i ∧ Hid (pipeCheck (1 : Nat) r wt b.length = 0) ∧ Hid (r ≠ 0 ∧ wt ≠ 0) ∧ PipeIs w1.heap.size wr vb (.pointer (some ⟨w0.heap.size, 0, none⟩)) (pp 1 r wt b) (10 + 2 * i) ∧ Past w.heap.size w wr) (fun t _ _ _ => n - (intOf t).toNat)
  case atStart => exact ⟨0, 1, 1, [], [], [], by omega, by omega, rfl, rfl, rfl, rfl, by simp, by simp, Lib.hid (by decide), Lib.hid (by decide), hO.more (by omega), hP⟩
  case round =>
    obtain ⟨i, r, wt, inn, out, b, hi, hi40, rfl, rfl, rfl, hinv, hil, hol, hck, hrw, hO, hP⟩ := hrel
    by_cases hgo : i < n ∧ i < 40
    · obtain ⟨hin, hi4⟩ := hgo
      obtain ⟨a, rfl, kd, ep, m, s, wrt, hop⟩ := Hops.out i hin
      have hop := hop.keep hP.1
      obtain ⟨k1, k2, k3, k4, c0, c1, c2, c3, c4⟩ := hop
      have hk8 : (kd : Int) % 8 = ((kd % 8 : Nat) : Int) := by omega
      by_cases h6 : kd % 8 = 6
      · rw [h6] at hk8
        have hk8 : (kd : Int) % 8 = 6 := hk8
        clear h6
        go_wp2
        go_roundw
        case rel => exact ⟨i + 1, r, wt, inn, out, b, by omega, by omega, by go_num, rfl, rfl, hinv, by omega, by omega, hck, hrw, hO.more (by omega) |>.keep (below_alloc _ _), hP.alloc _⟩
        case measure => simp [intOf]; omega
      · have Hk6 : Hid (kd % 8 ≠ 6) := Lib.hid h6
        by_cases h3 : kd % 8 = 3
        · rw [h3] at hk8
          have hk8 : (kd : Int) % 8 = 3 := hk8
          have Hcase : Hid (kd % 8 = 3 ∨ kd % 8 = 4) := Lib.hid (.inl h3)
          clear h3 h6
          have hAl := below_alloc wr (.cells #[.int .u8 kd, .int .i64 1, .int .i64 m, .string (str s), .bool wrt] 56)
          have hop7 := Blk.new wr #[.int .u8 kd, .int .i64 1, .int .i64 m, .string (str s), .bool wrt] 56
          have hO7 := hO.keep hAl
          have hd := do_step (wr.alloc (.cells #[.int .u8 kd, .int .i64 1, .int .i64 m, .string (str s), .bool wrt] 56)) kd r wt b m s wrt Hk6.out k2 k3 hck.out hrw.out.1 hrw.out.2 hO7 (by omega)
          unfold opV at hd
          have Hd := Lib.hid hd; clear hd
          go_wp2_with fail
          refine (Hd.out).mono ?_
          rintro x w5 ⟨e, nn, bytes, pe, pr, pw, pb, r', wt', b', rfl, hst, hO5, hb5, hc5⟩
          have hop5 := hc5.blk hop7 (by decide)
          obtain ⟨t1, t2, t3, t4, t5, t6, t7⟩ := hst
          unfold resV
          have hinz := str_size inn
          have houz := str_size out
          have hbyz := str_size bytes
          have hsz := str_size s
          obtain ⟨o0, o1, o2, o3, o4⟩ := (hop5.alloc (.cells #[.int .i64 e, .int .i64 nn, .string (str bytes), .int .i64 pe, .int .i64 pr, .int .i64 pw, .string (str pb)] 58)).fives
          have hol5 := hop5.lt
          have hap2 := str_append out bytes
          have hex : (str s).extract 0 nn = str (s.take nn) := by rw [str_extract]; simp
          have hts : (str (s.take nn)).size = nn := by rw [str_size, List.length_take]; omega
          have hap := str_append inn (s.take nn)
          have hl1 : inn.length + nn ≤ 13000 := by omega
          have hl2 : out.length + bytes.length ≤ 13000 := by omega
          have hi1 : inn.length ≤ 13000 := by omega
          have hi2 : out.length ≤ 13000 := by omega
          have Hck := Lib.hid t1; clear t1
          have Hrw2 := Lib.hid (And.intro t2 t3); clear t2 t3
          have H7 := Lib.hid t7; clear t7
          have hP5 := ((hP.call hAl).next (hb5.mono hB1)).alloc (.cells #[.int .i64 e, .int .i64 nn, .string (str bytes), .int .i64 pe, .int .i64 pr, .int .i64 pw, .string (str pb)] 58)
          have hO5 := hO5.keep (below_alloc w5 (.cells #[.int .i64 e, .int .i64 nn, .string (str bytes), .int .i64 pe, .int .i64 pr, .int .i64 pw, .string (str pb)] 58))
          clear c0 c1 c2 c3 c4 hop5 hop7 hc5 hb5 hAl hO7
          go_wp2
          go_roundw
          (case rel => exact ⟨i + 1, r', wt', inn ++ s.take nn, out ++ bytes, b', by omega, by omega, by go_num, rfl, rfl, Lib.hid (by have h7 := H7.out; rw [if_pos Hcase.out] at h7; rw [hinv.out, List.append_assoc, h7, List.append_assoc]), by rw [List.length_append, List.length_take]; omega, by rw [List.length_append]; omega, Hck, Hrw2, hO5.more (by omega), hP5⟩)
          (case measure => simp [intOf]; omega)
        · by_cases h4 : kd % 8 = 4
          · rw [h4] at hk8
            have hk8 : (kd : Int) % 8 = 4 := hk8
            have Hcase : Hid (kd % 8 = 3 ∨ kd % 8 = 4) := Lib.hid (.inr h4)
            clear h3 h4 h6
            have hAl := below_alloc wr (.cells #[.int .u8 kd, .int .i64 1, .int .i64 m, .string (str s), .bool wrt] 56)
            have hop7 := Blk.new wr #[.int .u8 kd, .int .i64 1, .int .i64 m, .string (str s), .bool wrt] 56
            have hO7 := hO.keep hAl
            have hd := do_step (wr.alloc (.cells #[.int .u8 kd, .int .i64 1, .int .i64 m, .string (str s), .bool wrt] 56)) kd r wt b m s wrt Hk6.out k2 k3 hck.out hrw.out.1 hrw.out.2 hO7 (by omega)
            unfold opV at hd
            have Hd := Lib.hid hd; clear hd
            go_wp2_with fail
            refine (Hd.out).mono ?_
            rintro x w5 ⟨e, nn, bytes, pe, pr, pw, pb, r', wt', b', rfl, hst, hO5, hb5, hc5⟩
            have hop5 := hc5.blk hop7 (by decide)
            obtain ⟨t1, t2, t3, t4, t5, t6, t7⟩ := hst
            unfold resV
            have hinz := str_size inn
            have houz := str_size out
            have hbyz := str_size bytes
            have hsz := str_size s
            obtain ⟨o0, o1, o2, o3, o4⟩ := (hop5.alloc (.cells #[.int .i64 e, .int .i64 nn, .string (str bytes), .int .i64 pe, .int .i64 pr, .int .i64 pw, .string (str pb)] 58)).fives
            have hol5 := hop5.lt
            have hap2 := str_append out bytes
            have hex : (str s).extract 0 nn = str (s.take nn) := by rw [str_extract]; simp
            have hts : (str (s.take nn)).size = nn := by rw [str_size, List.length_take]; omega
            have hap := str_append inn (s.take nn)
            have hl1 : inn.length + nn ≤ 13000 := by omega
            have hl2 : out.length + bytes.length ≤ 13000 := by omega
            have hi1 : inn.length ≤ 13000 := by omega
            have hi2 : out.length ≤ 13000 := by omega
            have Hck := Lib.hid t1; clear t1
            have Hrw2 := Lib.hid (And.intro t2 t3); clear t2 t3
            have H7 := Lib.hid t7; clear t7
            have hP5 := ((hP.call hAl).next (hb5.mono hB1)).alloc (.cells #[.int .i64 e, .int .i64 nn, .string (str bytes), .int .i64 pe, .int .i64 pr, .int .i64 pw, .string (str pb)] 58)
            have hO5 := hO5.keep (below_alloc w5 (.cells #[.int .i64 e, .int .i64 nn, .string (str bytes), .int .i64 pe, .int .i64 pr, .int .i64 pw, .string (str pb)] 58))
            clear c0 c1 c2 c3 c4 hop5 hop7 hc5 hb5 hAl hO7
            go_wp2
            go_roundw
            (case rel => exact ⟨i + 1, r', wt', inn ++ s.take nn, out ++ bytes, b', by omega, by omega, by go_num, rfl, rfl, Lib.hid (by have h7 := H7.out; rw [if_pos Hcase.out] at h7; rw [hinv.out, List.append_assoc, h7, List.append_assoc]), by rw [List.length_append, List.length_take]; omega, by rw [List.length_append]; omega, Hck, Hrw2, hO5.more (by omega), hP5⟩)
            (case measure => simp [intOf]; omega)
          · have q3 : ((kd : Int) % 8 == 3) = false := by simp; omega
            have q4 : ((kd : Int) % 8 == 4) = false := by simp; omega
            have q6 : ((kd : Int) % 8 == 6) = false := by simp; omega
            have Hcase : Hid (¬ (kd % 8 = 3 ∨ kd % 8 = 4)) := Lib.hid (by omega)
            clear h3 h4 h6 hk8
            have hAl := below_alloc wr (.cells #[.int .u8 kd, .int .i64 1, .int .i64 m, .string (str s), .bool wrt] 56)
            have hop7 := Blk.new wr #[.int .u8 kd, .int .i64 1, .int .i64 m, .string (str s), .bool wrt] 56
            have hO7 := hO.keep hAl
            have hd := do_step (wr.alloc (.cells #[.int .u8 kd, .int .i64 1, .int .i64 m, .string (str s), .bool wrt] 56)) kd r wt b m s wrt Hk6.out k2 k3 hck.out hrw.out.1 hrw.out.2 hO7 (by omega)
            unfold opV at hd
            have Hd := Lib.hid hd; clear hd
            go_wp2_with fail
            refine (Hd.out).mono ?_
            rintro x w5 ⟨e, nn, bytes, pe, pr, pw, pb, r', wt', b', rfl, hst, hO5, hb5, hc5⟩
            have hop5 := hc5.blk hop7 (by decide)
            obtain ⟨t1, t2, t3, t4, t5, t6, t7⟩ := hst
            unfold resV
            have hinz := str_size inn
            have houz := str_size out
            have hbyz := str_size bytes
            have hsz := str_size s
            obtain ⟨o0, o1, o2, o3, o4⟩ := (hop5.alloc (.cells #[.int .i64 e, .int .i64 nn, .string (str bytes), .int .i64 pe, .int .i64 pr, .int .i64 pw, .string (str pb)] 58)).fives
            have hol5 := hop5.lt
            have hap2 := str_append out bytes
            have hex : (str s).extract 0 nn = str (s.take nn) := by rw [str_extract]; simp
            have hts : (str (s.take nn)).size = nn := by rw [str_size, List.length_take]; omega
            have hap := str_append inn (s.take nn)
            have hl1 : inn.length + nn ≤ 13000 := by omega
            have hl2 : out.length + bytes.length ≤ 13000 := by omega
            have hi1 : inn.length ≤ 13000 := by omega
            have hi2 : out.length ≤ 13000 := by omega
            have Hck := Lib.hid t1; clear t1
            have Hrw2 := Lib.hid (And.intro t2 t3); clear t2 t3
            have H7 := Lib.hid t7; clear t7
            have hP5 := ((hP.call hAl).next (hb5.mono hB1)).alloc (.cells #[.int .i64 e, .int .i64 nn, .string (str bytes), .int .i64 pe, .int .i64 pr, .int .i64 pw, .string (str pb)] 58)
            have hO5 := hO5.keep (below_alloc w5 (.cells #[.int .i64 e, .int .i64 nn, .string (str bytes), .int .i64 pe, .int .i64 pr, .int .i64 pw, .string (str pb)] 58))
            clear c0 c1 c2 c3 c4 hop5 hop7 hc5 hb5 hAl hO7
            go_wp2
            go_roundw
            (case rel => exact ⟨i + 1, r', wt', inn, out ++ bytes, b', by omega, by omega, by go_num, rfl, rfl, Lib.hid (by have h7 := H7.out; rw [if_neg Hcase.out, List.append_nil] at h7; rw [hinv.out, h7, List.append_assoc]), by omega, by rw [List.length_append]; omega, Hck, Hrw2, hO5.more (by omega), hP5⟩)
            (case measure => simp [intOf]; omega)
    · have hbl : b.length ≤ 256 := by have := pipeCheck_range hck.out; omega
      have hcase : (i < n ∧ 40 ≤ i) ∨ n ≤ i := by omega
      have hinv := hinv.out
      subst hinv
      have hap := str_append out b
      have hd6 : decide ((b.length : Int) ≤ 256) = true := by simp; omega
      have hsz := str_size b
      have hoz := str_size out
      have hl1 : out.length + b.length ≤ 13000 := by omega
      clear hgo
      rcases hcase with ⟨g1, g2⟩ | g1
      · go_wp2_with (go_at_call 20; refine (oOne _).mono ?_; rintro e w3 ⟨rfl, hb3⟩)
        have hO := hO.keep hb3
        have H := oGet hO (by omega) (pp_len hck.out) 1
        rw [show pipeGetV (pp 1 r wt b) 1 = .tuple #[pipeV (1 : Nat) r wt b, .int .i64 0] from getV_pp hck.out] at H
        refine H.mono ?_
        rintro e w4 ⟨rfl, hO, hb4, _⟩
        have hP := ((hP.call hb3).next (hb4.mono hB1)).alloc (.cells #[.int .i64 (1 : Nat), .int .i64 r, .int .i64 wt, .string (str b)] 28)
        clear H hb3 hb4 hO
        unfold pipeV
        go_wp2
        go_ret
        exact ⟨rfl, hP.1⟩
      · go_wp2_with (go_at_call 20; refine (oOne _).mono ?_; rintro e w3 ⟨rfl, hb3⟩)
        have hO := hO.keep hb3
        have H := oGet hO (by omega) (pp_len hck.out) 1
        rw [show pipeGetV (pp 1 r wt b) 1 = .tuple #[pipeV (1 : Nat) r wt b, .int .i64 0] from getV_pp hck.out] at H
        refine H.mono ?_
        rintro e w4 ⟨rfl, hO, hb4, _⟩
        have hP := ((hP.call hb3).next (hb4.mono hB1)).alloc (.cells #[.int .i64 (1 : Nat), .int .i64 r, .int .i64 wt, .string (str b)] 28)
        clear H hb3 hb4 hO
        unfold pipeV
        go_wp2
        go_ret
        exact ⟨rfl, hP.1⟩
end Go.Proofs.YtoefldeoioagmaaGreatDoor

/- A slice of operations, opened. -/
namespace Go.Proofs.YtoefldeoioagmaaGreatDoor
open Go.ChangeShapes Go.WideShapes Go.ChangeAt Go.RowKit Go.Joins Go.Deep

/-- the cell of a field of one cell, of a struct that was read -/
theorem field_of {H : Type} {enc : TypeId × Value → H} {P : Program} {w : World} {base : Nat} {spare : Nat → Bool} {held : Bool} {e : TypeId} {fs : Array Field} {n : Nat} {cs : List Value} {x : DataW H × List MemPlace} {a : Addr}
    (he : P.underlying e = some (.struct fs)) (hone : oneCellFields P fs = true) (hC : P.cellsOf e = fs.size) (hc : w.cells? base a (P.cellsOf e) = some cs) (h : DataW.trod enc P w base spare held n e cs = some x)
    {j : Nat} {f : Field} (hj : fs[j]? = some f) : ∃ v y m, w.cell? (a.add j) = some v ∧ DataW.trod enc P w base spare held m f.type [v] = some y := by
  obtain ⟨ys, m, _, _, hlen, _, hf⟩ := DataW.trod_struct he h
  obtain ⟨_, hcl, hat⟩ := World.cells?_some hc
  obtain ⟨ho, hk⟩ := hone_of hone j f hj
  have hjl : j < fs.size := (Array.getElem?_eq_some_iff.1 hj).1
  have hjc : j < cs.length := by omega
  have hcell := hat j (by omega)
  rw [List.getElem?_eq_getElem hjc] at hcell
  have h1 := hf j f hj
  rw [ho, hk, show (cs.drop j).take 1 = [cs[j]] by rw [List.drop_eq_getElem_cons hjc]; rfl] at h1
  cases hy : ys[j]? with
  | none => rw [List.getElem?_eq_none_iff] at hy; omega
  | some y => rw [hy] at h1; exact ⟨_, y, m, hcell, h1⟩

theorem cell_lt' {w : World} {a : Addr} {j : Nat} {v : Value} (h : w.cell? (a.add j) = some v) : a.block < w.heap.size := by
  have hb : (a.add j).block = a.block := by unfold Addr.add; split <;> rfl
  unfold World.cell? at h
  split at h
  · rename_i hh; rw [hb] at hh; exact (Array.getElem?_eq_some_iff.1 hh).1
  · cases h
theorem addj {a : Addr} {j : Nat} (h : j ≠ 0) : a.add j = ⟨a.block, a.off + j, none⟩ := by unfold Addr.add; rw [if_neg h]

set_option maxRecDepth 100000 in
theorem open_ops {H : Type} {enc : TypeId × Value → H} {W : World} {v : Value} {d : DataW H} {ps : List MemPlace} {r : Reach} {b0 : Nat} (hv : Value.okWide Tryz.prog W r b0 54 v)
    (h : DataW.Trod enc Tryz.prog W 0 (fun _ => true) true 54 v d ps) : ∃ n, OpsIs W v n := by
  obtain ⟨ao, len0, cap0, rfl⟩ := okWide_slice Tryz.underlying54 hv
  obtain ⟨fuel, hf⟩ := h
  rcases open_slice Tryz.underlying54 hf with ⟨hcs, _⟩ | ⟨a, len, cap, m, n, D, Pl, hcs, _, hl, hm, hmm, _, hi⟩
  · simp [Value.cells] at hcs
    obtain ⟨rfl, rfl, rfl⟩ := hcs
    exact ⟨0, none, 0, rfl, Nat.le_refl _, by omega, fun i hi => absurd hi (by omega)⟩
  · simp [Value.cells] at hcs
    obtain ⟨rfl, rfl, rfl⟩ := hcs
    refine ⟨len0, some a, cap0, rfl, hl, by unfold maxLen at hm; omega, fun i him => ⟨a, rfl, ?_⟩⟩
    have hmi : i < m := by rw [hmm]; simp; omega
    obtain ⟨cs, hc, ht⟩ := hi i hmi
    have hC : Tryz.prog.cellsOf 56 = 5 := by kernel_rfl
    rw [show a.add (i * Tryz.prog.cellsOf 56) = a.add (i * 5) by rw [hC]] at hc
    obtain ⟨v0, y0, m0, c0, t0⟩ := field_of Tryz.underlying56 (by kernel_rfl) (by kernel_rfl) hc ht (j := 0) rfl
    obtain ⟨v1, y1, m1, c1, t1⟩ := field_of Tryz.underlying56 (by kernel_rfl) (by kernel_rfl) hc ht (j := 1) rfl
    obtain ⟨v2, y2, m2, c2, t2⟩ := field_of Tryz.underlying56 (by kernel_rfl) (by kernel_rfl) hc ht (j := 2) rfl
    obtain ⟨v3, y3, m3, c3, t3⟩ := field_of Tryz.underlying56 (by kernel_rfl) (by kernel_rfl) hc ht (j := 3) rfl
    obtain ⟨v4, y4, m4, c4, t4⟩ := field_of Tryz.underlying56 (by kernel_rfl) (by kernel_rfl) hc ht (j := 4) rfl
    obtain ⟨kd, e0, _, w0⟩ := DataW.trod_int Tryz.underlying5 t0
    obtain ⟨ep, e1, _, _⟩ := DataW.trod_int Tryz.underlying3 t1
    obtain ⟨nn, e2, _, w2⟩ := DataW.trod_int Tryz.underlying3 t2
    obtain ⟨s, e3, _, ws⟩ := DataW.trod_string Tryz.underlying9 t3
    obtain ⟨wr, e4, _⟩ := DataW.trod_bool Tryz.underlying4 t4
    simp at e0 e1 e2 e3 e4
    subst e0 e1 e2 e3 e4
    have hk : 0 ≤ kd ∧ kd ≤ 255 := by simpa [Lit.wf, IntKind.min, IntKind.max, IntKind.signed, IntKind.bits] using w0
    have hn : -9223372036854775808 ≤ nn ∧ nn ≤ 9223372036854775807 := by simpa [Lit.wf, IntKind.min, IntKind.max, IntKind.signed, IntKind.bits] using w2
    obtain ⟨k, rfl⟩ := Int.eq_ofNat_of_zero_le hk.1
    obtain ⟨l, rfl⟩ := str_surj s
    rw [str_size] at ws
    have hlt : (a.add (i * 5)).block < W.heap.size := cell_lt' c1
    rw [show (a.add (i * 5)).add 0 = a.add (i * 5) from rfl] at c0
    rw [addj (by decide)] at c1 c2 c3 c4
    exact ⟨k, ep, nn, l, wr, by omega, hn.2, by unfold maxLen at ws; omega, hlt, c0, c1, c2, c3, c4⟩
end Go.Proofs.YtoefldeoioagmaaGreatDoor
