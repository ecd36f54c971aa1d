/- Contracts of functions on the way to the claim, proved for every input that their hypotheses let by; no condition of the claim. Joined of: E3. -/
import Derived.Deep.RegionHeld3
import Derived.Test.YtgonfcdmaoeboaaGreatDoorG4

/- object.Name.Check at a kind with a number alone. -/
namespace Go.Proofs.YtgonfcdmaoeboaaGreatDoor
open Go.RowKit

def numErr (n : Int) : Int := if (decide (0 ≤ n) && decide (n ≤ 1073741824)) = true then 0 else 2

set_option maxRecDepth 100000 in
set_option maxHeartbeats 1600000 in
theorem numCheck_any (K : Nat) (hK1 : 1 ≤ K) (hK2 : K ≤ 20) (word : List UInt8) (hidx : ∀ w, (Instr.index 197 (.agg usesCells) (.int .i64 K)).run Tryz.prog w = .ok (.agg #[.string (str word), .bool false, .bool true, .bool false, .int .i64 (-1)]) w)
    (n : Int) (w : World) :
    Calls Tryz.prog 79 #[nameV K [] n 0 []] w fun e w' => e = .returned (.int .i64 (numErr n)) ∧ Below w.heap.size w w' := by
  unfold nameV
  have hbx := Blk.new w #[.int .i64 K, .string (str []), .int .i64 n, .int .i64 0, .string (str [])] 69
  obtain ⟨C, hC⟩ : ∃ C, C = usesCells := ⟨_, rfl⟩
  rw [← hC] at hidx
  have hu : ∀ w, Calls Tryz.prog 117 #[] w fun e w' => e = .returned (.agg C) ∧ Below w.heap.size w w' := by rw [hC]; exact uses_any
  have Hu := Lib.hid hu; clear hu hC
  have hc0 := hbx.cell 0
  go_enter Tryz.func79, Tryz.ntmps79
  go_wp2
  go_region_held3 (fun w' => w'.cell? ⟨w.heap.size, 0, none⟩ = some (.int .i64 K))
    (first | go_keep | exact hc0 | exact hbk2.cell 0 | exact (hbk2.alloc _).cell 0 | exact (((((hbk2.setOther (by simp) _).setOther (by simp) _).setOther (by simp) _).setOther (by simp) _).setOther (by simp) _).cell 0)
    ((first
      | (go_at_call 117; refine (Hu.out _).mono ?_; rintro e w2 ⟨rfl, hb2⟩; have hbk2 := hbx.drew.below hb2 (by simp))
      | (go_at_call 117; refine (Hu.out _).mono ?_; rintro e w2 ⟨rfl, hb2⟩; have hbk2 := (hbx.alloc _).drew.below hb2 (by simp; omega); have hbz2 := (Blk.new (w.alloc _) _ _).drew.below hb2 (by simp); simp only [World.size_alloc] at hbz2; obtain ⟨z0, z1, z2, z3, z4⟩ := hbz2.five; obtain ⟨f0, f1, f2, f3, f4⟩ := hbz2.five_f)))
  all_goals (first
    | (obtain ⟨W, hW⟩ : ∃ W, W = w2.alloc (.cells #[.string (str word), .bool false, .bool true, .bool false, .int .i64 (-1)] 196) := ⟨_, rfl⟩
       rw [← hW]
       obtain ⟨B, hB⟩ : ∃ B, B = w2.heap.size := ⟨_, rfl⟩
       rw [← hB]
       have bN : Blk W w.heap.size #[.int .i64 K, .string (str []), .int .i64 n, .int .i64 0, .string (str [])] 69 := by rw [hW]; exact hbk2.alloc _
       have bU : Blk W B #[.string (str word), .bool false, .bool true, .bool false, .int .i64 (-1)] 196 := by rw [hW, hB]; exact Blk.new w2 _ _
       have hBW : Below w.heap.size w W := by rw [hW]; exact ((below_alloc w _).drew.trans (hb2.mono (by simp))).alloc (by have := hbk2.lt; omega) _
       clear hW hB hb2)
    | (obtain ⟨W, hW⟩ : ∃ W, W = ((((w2.setCell ⟨w.heap.size + 1, 0, none⟩ (.string (str word))).setCell ⟨w.heap.size + 1, 1, none⟩ (.bool false)).setCell ⟨w.heap.size + 1, 2, none⟩ (.bool true)).setCell ⟨w.heap.size + 1, 3, none⟩ (.bool false)).setCell ⟨w.heap.size + 1, 4, none⟩ (.int .i64 (-1)) := ⟨_, rfl⟩
       rw [← hW]
       obtain ⟨B, hB⟩ : ∃ B, B = w.heap.size + 1 := ⟨_, rfl⟩
       rw [← hB]
       have bN : Blk W w.heap.size #[.int .i64 K, .string (str []), .int .i64 n, .int .i64 0, .string (str [])] 69 := by rw [hW]; exact ((((hbk2.setOther (by simp) _).setOther (by simp) _).setOther (by simp) _).setOther (by simp) _).setOther (by simp) _
       have bU : Blk W B #[.string (str word), .bool false, .bool true, .bool false, .int .i64 (-1)] 196 := by rw [hW, hB]; exact hbz2.stores5 _ _ _ _ _
       have hBW : Below w.heap.size w W := by rw [hW]; exact (((((((below_alloc w _).alloc (by simp) _).drew.trans (hb2.mono (by simp; omega))).setCell (by simp) _).setCell (by simp) _).setCell (by simp) _).setCell (by simp) _).setCell (by simp) _
       clear z0 z1 z2 z3 z4 f0 f1 f2 f3 f4 hbz2 hW hB hb2))
  all_goals (
    have hemp : (str []).toList.isEmpty = true := by simp [str_toList]
    have hlN := bN.lt
    have hlU := bU.lt
    obtain ⟨n0, n1, n2, n3, n4⟩ := bN.five
    obtain ⟨u0, u1, u2, u3, u4⟩ := bU.five
    clear hbk2 hbx hc0 hidx Hu
    cases hn : (decide (0 ≤ n) && decide (n ≤ 1073741824)) with
    | false =>
      have he : numErr n = 2 := by unfold numErr; rw [hn]; rfl
      have He := Lib.hid he; clear he
      go_wp2_with (go_at_call 118; refine (number_any n _).mono ?_; rw [hn]; rintro e w4 ⟨rfl, rfl⟩)
      go_ret
      exact ⟨by rw [He.out]; rfl, hBW⟩
    | true =>
      have he : numErr n = 0 := by unfold numErr; rw [hn]; rfl
      have He := Lib.hid he; clear he
      go_wp2_with (go_at_call 118; refine (number_any n _).mono ?_; rw [hn]; rintro e w4 ⟨rfl, rfl⟩)
      go_ret
      exact ⟨by rw [He.out]; rfl, hBW⟩)
end Go.Proofs.YtgonfcdmaoeboaaGreatDoor
