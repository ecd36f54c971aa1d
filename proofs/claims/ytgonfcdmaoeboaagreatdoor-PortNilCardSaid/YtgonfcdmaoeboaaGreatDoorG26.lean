/- Contracts of functions on the way to the claim, proved for every input that their hypotheses let by; no condition of the claim. Joined of: Y18. -/
import Derived.Deep.RegionHeld3
import Derived.Deep.DrawnRows
import Derived.Test.YtgonfcdmaoeboaaGreatDoorG24
import Derived.Test.YtgonfcdmaoeboaaGreatDoorG22

/- port: the functions at a nil view; replevinlaw37.Op.call there. -/
namespace Go.Proofs.YtgonfcdmaoeboaaGreatDoor
open Go.RowKit
attribute [local go_sem ↓] Go.wp_at_zero Go.wp_at_succ

set_option maxRecDepth 100000 in
set_option maxHeartbeats 400000 in
theorem portBeginNil (who : List UInt8) (n ep : Int) (w : World) :
    Calls Tryz.prog 68 #[.pointer none, .string (str who), .int .i64 n, .int .i64 ep] w fun e w' => e = .returned (.int .i64 1) ∧ w = w' := by
  go_enter Tryz.func68, Tryz.ntmps68
  go_wp2
  go_ret
  exact ⟨rfl, rfl⟩
set_option maxRecDepth 100000 in
set_option maxHeartbeats 400000 in
theorem portOpenNil (who : List UInt8) (us n ep : Int) (gv : Value) (w : World) :
    Calls Tryz.prog 24 #[.pointer none, .string (str who), .agg #[.int .i64 us, gv], .int .i64 n, .int .i64 ep] w fun e w' => e = .returned (.int .i64 1) ∧ Below w.heap.size w w' := by
  go_enter Tryz.func24, Tryz.ntmps24
  go_wp2_with (go_at_call 68; refine (portBeginNil _ _ _ _).mono ?_; rintro x w2 ⟨rfl, rfl⟩)
  go_ret
  exact ⟨rfl, below_alloc w _⟩
set_option maxRecDepth 100000 in
set_option maxHeartbeats 400000 in
theorem portCloseNil (who : List UInt8) (n ep : Int) (w : World) :
    Calls Tryz.prog 30 #[.pointer none, .string (str who), .int .i64 n, .int .i64 ep] w fun e w' => e = .returned (.int .i64 1) ∧ Below w.heap.size w w' := by
  go_enter Tryz.func30, Tryz.ntmps30
  go_wp2_with (go_at_call 68; refine (portBeginNil _ _ _ _).mono ?_; rintro x w2 ⟨rfl, rfl⟩)
  go_ret
  exact ⟨rfl, Below.refl _ _⟩
set_option maxRecDepth 100000 in
set_option maxHeartbeats 400000 in
theorem portArriveNil (n ep : Int) (p : Pk) (w : World) :
    Calls Tryz.prog 26 #[.pointer none, .int .i64 n, .int .i64 ep, .agg #[.string (str p.1), .string (str p.2)]] w fun e w' => e = .returned (.int .i64 1) ∧ Below w.heap.size w w' := by
  have hb : ∀ w, Calls Tryz.prog 68 #[.pointer none, .string ⟨#[]⟩, .int .i64 n, .int .i64 ep] w fun e w' => e = .returned (.int .i64 1) ∧ w = w' := fun w => portBeginNil [] n ep w
  have Hb := Lib.hid hb; clear hb
  go_enter Tryz.func26, Tryz.ntmps26
  go_wp2_with (go_at_call 68; refine (Hb.out _).mono ?_; rintro x w2 ⟨rfl, rfl⟩)
  go_ret
  exact ⟨rfl, below_alloc w _⟩
set_option maxRecDepth 100000 in
set_option maxHeartbeats 400000 in
theorem portReceiveNil (who : List UInt8) (n ep : Int) (w : World) :
    Calls Tryz.prog 28 #[.pointer none, .string (str who), .int .i64 n, .int .i64 ep] w fun e w' => e = .returned (.tuple #[.agg #[.string ⟨#[]⟩, .string ⟨#[]⟩], .int .i64 1]) ∧ Below w.heap.size w w' := by
  go_enter Tryz.func28, Tryz.ntmps28
  go_wp2_with (go_at_call 68; refine (portBeginNil _ _ _ _).mono ?_; rintro x w2 ⟨rfl, rfl⟩)
  exact bodyPost_ret (v := .tuple #[.agg #[.string ⟨#[]⟩, .string ⟨#[]⟩], .int .i64 1]) (by simp [results, Tryz.results28, go_sem]) rfl ⟨rfl, (((Past.refl w).alloc _).alloc _).1⟩
set_option maxRecDepth 100000 in
set_option maxHeartbeats 400000 in
theorem portGetNil (n ep : Int) (w : World) :
    Calls Tryz.prog 29 #[.pointer none, .int .i64 n, .int .i64 ep] w fun e w' => e = .returned (.tuple #[.agg #[.string ⟨#[]⟩, .int .i64 0, .int .i64 0, .slice none 0 0], .int .i64 1]) ∧ Below w.heap.size w w' := by
  have hb : ∀ w, Calls Tryz.prog 68 #[.pointer none, .string ⟨#[]⟩, .int .i64 n, .int .i64 ep] w fun e w' => e = .returned (.int .i64 1) ∧ w = w' := fun w => portBeginNil [] n ep w
  have Hb := Lib.hid hb; clear hb
  go_enter Tryz.func29, Tryz.ntmps29
  go_wp2_with (go_at_call 68; refine (Hb.out _).mono ?_; rintro x w2 ⟨rfl, rfl⟩)
  exact bodyPost_ret (v := .tuple #[.agg #[.string ⟨#[]⟩, .int .i64 0, .int .i64 0, .slice none 0 0], .int .i64 1]) (by simp [results, Tryz.results29, go_sem]) rfl ⟨rfl, ((Past.refl w).alloc _).1⟩

/-- one of the law's processes -/
def whoL (k : Nat) : List UInt8 := if k % 3 = 0 then [49] else if k % 3 = 1 then [49, 46, 49] else [50]
theorem whoL_ok (k : Nat) : validName (whoL k) = true ∧ (whoL k).length ≤ 3 := by
  unfold whoL
  by_cases h0 : k % 3 = 0
  · rw [if_pos h0]; exact ⟨by decide +kernel, by decide⟩
  · rw [if_neg h0]
    by_cases h1 : k % 3 = 1
    · rw [if_pos h1]; exact ⟨by decide +kernel, by decide⟩
    · rw [if_neg h1]; exact ⟨by decide +kernel, by decide⟩
set_option maxRecDepth 100000 in
set_option maxHeartbeats 800000 in
theorem whoL_any (k : Nat) (hk : k ≤ 255) (w : World) : Calls Tryz.prog 76 #[.int .u8 k] w fun e w' => e = .returned (.string (str (whoL k))) ∧ Below w.heap.size w w' := by
  have h3 : k % 3 = 0 ∨ k % 3 = 1 ∨ k % 3 = 2 := by omega
  rcases h3 with h | h | h
  all_goals
    have e : whoL k = whoL (k % 3) := by unfold whoL; rw [Nat.mod_mod]
    rw [e, h]; clear e
    have hi : (k : Int) % 3 = ((k % 3 : Nat) : Int) := by omega
    rw [h] at hi; clear h
    go_enter Tryz.func76, Tryz.ntmps76
    go_wp2
    go_ret
    exact ⟨rfl, below_alloc w _⟩

def zeroR : Array Value := #[.string ⟨#[]⟩, .string ⟨#[]⟩, .string ⟨#[]⟩, .int .i64 0]
/-- an operation, as a value -/
def opP (kd wh us : Nat) (n ep : Int) (p : Pk) : Array Value := #[.int .u8 kd, .int .u8 wh, .int .u8 us, .int .i64 n, .int .i64 ep, .string (str p.1), .string (str p.2)]
/-- the three blocks of call: the operation, the result's variable, the result -/
structure CBlks (H : Nat) (w : World) (op : Array Value) (r : Array Value) : Prop where
  op : Blk w H op 60
  out : Blk w (H + 1) zeroR 62
  res : Blk w (H + 1 + 1) r 62
theorem CBlks.new (w : World) (op : Array Value) : CBlks w.heap.size (((w.alloc (.cells op 60)).alloc (.cells zeroR 62)).alloc (.cells zeroR 62)) op zeroR :=
  ⟨((Blk.new w op _).alloc _).alloc _, ((Blk.new (w.alloc (.cells op 60)) zeroR _).alloc _).congr rfl |> fun h => by simpa using h, by simpa using Blk.new ((w.alloc (.cells op 60)).alloc (.cells zeroR 62)) zeroR 62⟩
theorem CBlks.below {H : Nat} {w w' : World} {op r : Array Value} (h : CBlks H w op r) (hb : Below w.heap.size w w') : CBlks H w' op r := ⟨h.op.below hb h.op.lt, h.out.below hb h.out.lt, h.res.below hb h.res.lt⟩
theorem CBlks.cells {H : Nat} {w w' : World} {op r : Array Value} (h : CBlks H w op r) (hc : Cells [131] w w') : CBlks H w' op r := ⟨hc.blk h.op (by decide), hc.blk h.out (by decide), hc.blk h.res (by decide)⟩
theorem CBlks.set {H : Nat} {w : World} {op r : Array Value} (h : CBlks H w op r) (j : Nat) (v : Value) : CBlks H (w.setCell ⟨H + 1 + 1, j, none⟩ v) op (r.setIfInBounds j v) :=
  ⟨h.op.setOther (a := ⟨H + 1 + 1, j, none⟩) (by simp; omega) v, h.out.setOther (a := ⟨H + 1 + 1, j, none⟩) (by simp) v, h.res.set j v⟩
theorem CBlks.drew {H : Nat} {w : World} {op r : Array Value} (h : CBlks H w op r) : CBlks H w.drew op r := ⟨h.op, h.out, h.res⟩
theorem Blk.sevens {w : World} {b : Nat} {x0 x1 x2 x3 x4 x5 x6 : Value} {t : TypeId} (h : Blk w b #[x0, x1, x2, x3, x4, x5, x6] t) :
    w.cell? ⟨b, 0, none⟩ = some x0 ∧ w.cell? ⟨b, 1, none⟩ = some x1 ∧ w.cell? ⟨b, 2, none⟩ = some x2 ∧ w.cell? ⟨b, 3, none⟩ = some x3 ∧ w.cell? ⟨b, 4, none⟩ = some x4 ∧ w.cell? ⟨b, 5, none⟩ = some x5 ∧ w.cell? ⟨b, 6, none⟩ = some x6 :=
  ⟨by rw [h.cell]; rfl, by rw [h.cell]; rfl, by rw [h.cell]; rfl, by rw [h.cell]; rfl, by rw [h.cell]; rfl, by rw [h.cell]; rfl, by rw [h.cell]; rfl⟩
theorem cell_far2 (w : World) (H j i : Nat) (v : Value) : (w.setCell ⟨H + 1 + 1, j, none⟩ v).cell? ⟨H, i, none⟩ = w.cell? ⟨H, i, none⟩ := World.cell?_of_block (w := w) (Below.heap_setCell w _ v H (by show H ≠ H + 1 + 1; omega))

set_option maxRecDepth 100000 in
set_option maxHeartbeats 3200000 in
theorem callNil_open (w : World) (kd wh us : Nat) (hkd : (kd : Int) % 5 = 0) (hwh : wh ≤ 255) (_ : us ≤ 255) (n ep : Int) (p : Pk) (_ : p.1.length ≤ 9223372036854775807 ∧ p.2.length ≤ 9223372036854775807) :
    Calls Tryz.prog 31 #[.agg (opP kd wh us n ep p), .pointer none] w fun x w' => x = .returned (.agg #[.string ⟨#[]⟩, .string ⟨#[]⟩, .string ⟨#[]⟩, .int .i64 1]) ∧ Below w.heap.size w w' := by
  have hD := CBlks.new w (opP kd wh us n ep p)
  have hP := ((((Past.refl w).alloc (.cells (opP kd wh us n ep p) 60)).alloc (.cells zeroR 62)).alloc (.cells zeroR 62))
  unfold zeroR opP at *
  obtain ⟨W, hW⟩ : ∃ W, W = (((w.alloc (.cells #[.int .u8 kd, .int .u8 wh, .int .u8 us, .int .i64 n, .int .i64 ep, .string (str p.1), .string (str p.2)] 60)).alloc (.cells #[.string ⟨#[]⟩, .string ⟨#[]⟩, .string ⟨#[]⟩, .int .i64 0] 62)).alloc (.cells #[.string ⟨#[]⟩, .string ⟨#[]⟩, .string ⟨#[]⟩, .int .i64 0] 62)) := ⟨_, rfl⟩
  go_enter Tryz.func31, Tryz.ntmps31
  go_wp2_with fail
  rw [← hW] at hD hP ⊢
  clear hW hkd
  obtain ⟨u0, u1, u2, u3, u4, u5, u6⟩ := hD.op.sevens
  go_region_held3 (fun w' => w'.cell? ⟨w.heap.size, 1, none⟩ = some (.int .u8 wh) ∧ w'.cell? ⟨w.heap.size, 2, none⟩ = some (.int .u8 us) ∧ w'.cell? ⟨w.heap.size, 3, none⟩ = some (.int .i64 n) ∧ w'.cell? ⟨w.heap.size, 4, none⟩ = some (.int .i64 ep))
    (first | (simp only [cell_far2]; with_reducible exact ⟨ho6.2.1, ho6.2.2.1, ho6.2.2.2.1, ho6.2.2.2.2.1⟩) | with_reducible exact ⟨ho5.2.1, ho5.2.2.1, ho5.2.2.2.1, ho5.2.2.2.2.1⟩ | with_reducible exact ⟨ho6.2.1, ho6.2.2.1, ho6.2.2.2.1, ho6.2.2.2.2.1⟩ | go_keep)
    (first
      | (go_at_call 76; refine (whoL_any _ (by omega) _).mono ?_; rintro x w5 ⟨rfl, hb5⟩; have hB5 := ((Past.refl W).drew.call hb5).1; have hD5 := hD.below hB5; have ho5 := hD5.op.sevens)
      | (go_at_call 24; refine (portOpenNil _ _ _ _ _ _).mono ?_; rintro x w6 ⟨rfl, hb6⟩; have hD6 := hD5.below hb6; have ho6 := hD6.op.sevens; obtain ⟨r0, r1, r2, r3, f0, f1, f2, f3⟩ := hD6.res.quad))
  all_goals (
    have hP6 := (hP.call hB5).call hb6
    have hD7 : CBlks w.heap.size (w6.setCell ⟨w.heap.size + 1 + 1, 3, none⟩ (.int .i64 1)) _ _ := (hD6.set 3 (.int .i64 1))
    have hpw : Past w.heap.size w (w6.setCell ⟨w.heap.size + 1 + 1, 3, none⟩ (.int .i64 1)) := hP6.set (p := ⟨w.heap.size + 1 + 1, 3, none⟩) (by show _ ≤ w.heap.size + 1 + 1; omega) (.int .i64 1)
    have hr7 := hD7.res.congr (cs' := #[.string ⟨#[]⟩, .string ⟨#[]⟩, .string ⟨#[]⟩, .int .i64 1]) rfl
    have ho7 := hD7.out
    unfold zeroR at ho7
    obtain ⟨W7, hW7⟩ : ∃ W7, W7 = (w6.setCell ⟨w.heap.size + 1 + 1, 3, none⟩ (.int .i64 1)) := ⟨_, rfl⟩
    rw [← hW7] at hpw hr7 ho7 ⊢
    clear hW7 hD7 hD6 r0 r1 r2 r3 f0 f1 f2 f3 u0 u1 u2 u3 u4 u5 u6
    obtain ⟨r0, r1, r2, r3, _, _, _, _⟩ := hr7.quad
    obtain ⟨z0, z1, z2, z3, f0, f1, f2, f3⟩ := ho7.quad
    obtain ⟨q0, q1, q2, q3, hq, hoq⟩ := ho7.stores4 (.string ⟨#[]⟩) (.string ⟨#[]⟩) (.string ⟨#[]⟩) (.int .i64 1)
    obtain ⟨s0, s1, s2, s3, _, _, _, _⟩ := hq.quad
    have hps := hpw.stores4 (b := w.heap.size + 1) (by omega) (.string ⟨#[]⟩) (.string ⟨#[]⟩) (.string ⟨#[]⟩) (.int .i64 1)
    go_wp2
    exact bodyPost_ret (v := .agg #[.string ⟨#[]⟩, .string ⟨#[]⟩, .string ⟨#[]⟩, .int .i64 1]) (by simp [results, Tryz.results31, go_sem, s0, s1, s2, s3]) rfl ⟨rfl, hps.1⟩)

set_option maxRecDepth 100000 in
set_option maxHeartbeats 3200000 in
theorem callNil_close (w : World) (kd wh us : Nat) (hkd : (kd : Int) % 5 = 1) (hwh : wh ≤ 255) (_ : us ≤ 255) (n ep : Int) (p : Pk) (_ : p.1.length ≤ 9223372036854775807 ∧ p.2.length ≤ 9223372036854775807) :
    Calls Tryz.prog 31 #[.agg (opP kd wh us n ep p), .pointer none] w fun x w' => x = .returned (.agg #[.string ⟨#[]⟩, .string ⟨#[]⟩, .string ⟨#[]⟩, .int .i64 1]) ∧ Below w.heap.size w w' := by
  have hD := CBlks.new w (opP kd wh us n ep p)
  have hP := ((((Past.refl w).alloc (.cells (opP kd wh us n ep p) 60)).alloc (.cells zeroR 62)).alloc (.cells zeroR 62))
  unfold zeroR opP at *
  obtain ⟨W, hW⟩ : ∃ W, W = (((w.alloc (.cells #[.int .u8 kd, .int .u8 wh, .int .u8 us, .int .i64 n, .int .i64 ep, .string (str p.1), .string (str p.2)] 60)).alloc (.cells #[.string ⟨#[]⟩, .string ⟨#[]⟩, .string ⟨#[]⟩, .int .i64 0] 62)).alloc (.cells #[.string ⟨#[]⟩, .string ⟨#[]⟩, .string ⟨#[]⟩, .int .i64 0] 62)) := ⟨_, rfl⟩
  go_enter Tryz.func31, Tryz.ntmps31
  go_wp2_with fail
  rw [← hW] at hD hP ⊢
  clear hW hkd
  obtain ⟨u0, u1, u2, u3, u4, u5, u6⟩ := hD.op.sevens
  go_region_held3 (fun w' => w'.cell? ⟨w.heap.size, 1, none⟩ = some (.int .u8 wh) ∧ w'.cell? ⟨w.heap.size, 3, none⟩ = some (.int .i64 n) ∧ w'.cell? ⟨w.heap.size, 4, none⟩ = some (.int .i64 ep))
    (first | (simp only [cell_far2]; with_reducible exact ⟨ho6.2.1, ho6.2.2.2.1, ho6.2.2.2.2.1⟩) | with_reducible exact ⟨ho5.2.1, ho5.2.2.2.1, ho5.2.2.2.2.1⟩ | with_reducible exact ⟨ho6.2.1, ho6.2.2.2.1, ho6.2.2.2.2.1⟩ | go_keep)
    (first
      | (go_at_call 76; refine (whoL_any _ (by omega) _).mono ?_; rintro x w5 ⟨rfl, hb5⟩; have hB5 := ((Past.refl W).drew.call hb5).1; have hD5 := hD.below hB5; have ho5 := hD5.op.sevens)
      | (go_at_call 30; refine (portCloseNil _ _ _ _).mono ?_; rintro x w6 ⟨rfl, hb6⟩; have hD6 := hD5.below hb6; have ho6 := hD6.op.sevens; obtain ⟨r0, r1, r2, r3, f0, f1, f2, f3⟩ := hD6.res.quad))
  all_goals (
    have hP6 := (hP.call hB5).call hb6
    have hD7 : CBlks w.heap.size (w6.setCell ⟨w.heap.size + 1 + 1, 3, none⟩ (.int .i64 1)) _ _ := (hD6.set 3 (.int .i64 1))
    have hpw : Past w.heap.size w (w6.setCell ⟨w.heap.size + 1 + 1, 3, none⟩ (.int .i64 1)) := hP6.set (p := ⟨w.heap.size + 1 + 1, 3, none⟩) (by show _ ≤ w.heap.size + 1 + 1; omega) (.int .i64 1)
    have hr7 := hD7.res.congr (cs' := #[.string ⟨#[]⟩, .string ⟨#[]⟩, .string ⟨#[]⟩, .int .i64 1]) rfl
    have ho7 := hD7.out
    unfold zeroR at ho7
    obtain ⟨W7, hW7⟩ : ∃ W7, W7 = (w6.setCell ⟨w.heap.size + 1 + 1, 3, none⟩ (.int .i64 1)) := ⟨_, rfl⟩
    rw [← hW7] at hpw hr7 ho7 ⊢
    clear hW7 hD7 hD6 r0 r1 r2 r3 f0 f1 f2 f3 u0 u1 u2 u3 u4 u5 u6
    obtain ⟨r0, r1, r2, r3, _, _, _, _⟩ := hr7.quad
    obtain ⟨z0, z1, z2, z3, f0, f1, f2, f3⟩ := ho7.quad
    obtain ⟨q0, q1, q2, q3, hq, hoq⟩ := ho7.stores4 (.string ⟨#[]⟩) (.string ⟨#[]⟩) (.string ⟨#[]⟩) (.int .i64 1)
    obtain ⟨s0, s1, s2, s3, _, _, _, _⟩ := hq.quad
    have hps := hpw.stores4 (b := w.heap.size + 1) (by omega) (.string ⟨#[]⟩) (.string ⟨#[]⟩) (.string ⟨#[]⟩) (.int .i64 1)
    go_wp2
    exact bodyPost_ret (v := .agg #[.string ⟨#[]⟩, .string ⟨#[]⟩, .string ⟨#[]⟩, .int .i64 1]) (by simp [results, Tryz.results31, go_sem, s0, s1, s2, s3]) rfl ⟨rfl, hps.1⟩)

set_option maxRecDepth 100000 in
set_option maxHeartbeats 3200000 in
theorem callNil_arrive (w : World) (kd wh us : Nat) (hkd : (kd : Int) % 5 = 2) (_ : wh ≤ 255) (_ : us ≤ 255) (n ep : Int) (p : Pk) (hp : p.1.length ≤ 9223372036854775807 ∧ p.2.length ≤ 9223372036854775807) :
    Calls Tryz.prog 31 #[.agg (opP kd wh us n ep p), .pointer none] w fun x w' => x = .returned (.agg #[.string ⟨#[]⟩, .string ⟨#[]⟩, .string ⟨#[]⟩, .int .i64 1]) ∧ Below w.heap.size w w' := by
  have hD := CBlks.new w (opP kd wh us n ep p)
  have hP := ((((Past.refl w).alloc (.cells (opP kd wh us n ep p) 60)).alloc (.cells zeroR 62)).alloc (.cells zeroR 62))
  unfold zeroR opP at *
  obtain ⟨W, hW⟩ : ∃ W, W = (((w.alloc (.cells #[.int .u8 kd, .int .u8 wh, .int .u8 us, .int .i64 n, .int .i64 ep, .string (str p.1), .string (str p.2)] 60)).alloc (.cells #[.string ⟨#[]⟩, .string ⟨#[]⟩, .string ⟨#[]⟩, .int .i64 0] 62)).alloc (.cells #[.string ⟨#[]⟩, .string ⟨#[]⟩, .string ⟨#[]⟩, .int .i64 0] 62)) := ⟨_, rfl⟩
  go_enter Tryz.func31, Tryz.ntmps31
  go_wp2_with fail
  rw [← hW] at hD hP ⊢
  clear hW hkd
  obtain ⟨u0, u1, u2, u3, u4, u5, u6⟩ := hD.op.sevens
  go_region_held3 (fun w' => w'.cell? ⟨w.heap.size, 3, none⟩ = some (.int .i64 n) ∧ w'.cell? ⟨w.heap.size, 4, none⟩ = some (.int .i64 ep) ∧ w'.cell? ⟨w.heap.size, 5, none⟩ = some (.string (str p.1)) ∧ w'.cell? ⟨w.heap.size, 6, none⟩ = some (.string (str p.2)))
    (first | (simp only [cell_far2]; with_reducible exact ⟨ho6.2.2.2.1, ho6.2.2.2.2.1, ho6.2.2.2.2.2.1, ho6.2.2.2.2.2.2⟩) | with_reducible exact ⟨ho5.2.2.2.1, ho5.2.2.2.2.1, ho5.2.2.2.2.2.1, ho5.2.2.2.2.2.2⟩ | with_reducible exact ⟨ho6.2.2.2.1, ho6.2.2.2.2.1, ho6.2.2.2.2.2.1, ho6.2.2.2.2.2.2⟩ | go_keep)
    (first
      | (go_at_call 25; refine (small_any _ _ hp.1 hp.2).mono ?_; rintro x w5 ⟨rfl, hb5⟩; have hB5 := ((Past.refl W).drew.call hb5).1; have hD5 := hD.below hB5; have ho5 := hD5.op.sevens)
      | (go_at_call 26; refine (portArriveNil _ _ (smallP p) _).mono ?_; rintro x w6 ⟨rfl, hb6⟩; have hD6 := hD5.below hb6; have ho6 := hD6.op.sevens; obtain ⟨r0, r1, r2, r3, f0, f1, f2, f3⟩ := hD6.res.quad))
  all_goals (
    have hP6 := (hP.call hB5).call hb6
    have hD7 : CBlks w.heap.size (w6.setCell ⟨w.heap.size + 1 + 1, 3, none⟩ (.int .i64 1)) _ _ := (hD6.set 3 (.int .i64 1))
    have hpw : Past w.heap.size w (w6.setCell ⟨w.heap.size + 1 + 1, 3, none⟩ (.int .i64 1)) := hP6.set (p := ⟨w.heap.size + 1 + 1, 3, none⟩) (by show _ ≤ w.heap.size + 1 + 1; omega) (.int .i64 1)
    have hr7 := hD7.res.congr (cs' := #[.string ⟨#[]⟩, .string ⟨#[]⟩, .string ⟨#[]⟩, .int .i64 1]) rfl
    have ho7 := hD7.out
    unfold zeroR at ho7
    obtain ⟨W7, hW7⟩ : ∃ W7, W7 = (w6.setCell ⟨w.heap.size + 1 + 1, 3, none⟩ (.int .i64 1)) := ⟨_, rfl⟩
    rw [← hW7] at hpw hr7 ho7 ⊢
    clear hW7 hD7 hD6 r0 r1 r2 r3 f0 f1 f2 f3 u0 u1 u2 u3 u4 u5 u6
    obtain ⟨r0, r1, r2, r3, _, _, _, _⟩ := hr7.quad
    obtain ⟨z0, z1, z2, z3, f0, f1, f2, f3⟩ := ho7.quad
    obtain ⟨q0, q1, q2, q3, hq, hoq⟩ := ho7.stores4 (.string ⟨#[]⟩) (.string ⟨#[]⟩) (.string ⟨#[]⟩) (.int .i64 1)
    obtain ⟨s0, s1, s2, s3, _, _, _, _⟩ := hq.quad
    have hps := hpw.stores4 (b := w.heap.size + 1) (by omega) (.string ⟨#[]⟩) (.string ⟨#[]⟩) (.string ⟨#[]⟩) (.int .i64 1)
    go_wp2
    exact bodyPost_ret (v := .agg #[.string ⟨#[]⟩, .string ⟨#[]⟩, .string ⟨#[]⟩, .int .i64 1]) (by simp [results, Tryz.results31, go_sem, s0, s1, s2, s3]) rfl ⟨rfl, hps.1⟩)

end Go.Proofs.YtgonfcdmaoeboaaGreatDoor
