/- Contracts of functions on the way to the claim, proved for every input that their hypotheses let by; no condition of the claim. Joined of: S19. -/
import Derived.Test.YtoefldeoioagmaaGreatDoorG6

/- replevinlaw32.PipeEnds. -/
namespace Go.Proofs.YtoefldeoioagmaaGreatDoor
open Go.RowKit

set_option maxRecDepth 100000 in
set_option maxHeartbeats 3200000 in
theorem pipeEnds_any (writer : Bool) (n : Nat) (hn : n < 256) (w : World) :
    Calls Tryz.prog 6 #[.bool writer, .int .u8 n] w fun x w' => x = .returned (.bool true) ∧ Below w.heap.size w w' := by
  have Hkn := Lib.hid known_any
  obtain ⟨k, hk, hk80⟩ : ∃ k : Nat, (n : Int) % 80 = (k : Int) ∧ k < 80 := ⟨n % 80, by omega, by omega⟩
  go_enter Tryz.func6, Tryz.ntmps6
  go_wp2_with (first
    | (go_at_call 9; refine (Hkn.out _).mono ?_; rintro e w0 ⟨rfl, hb0⟩)
    | (go_at_call 18; refine (stateNew_any _).mono ?_; rintro e w1 ⟨rfl, hs1, hb1⟩)
    | (go_at_call 17; refine (oNew hs1).mono ?_; rintro e w2 ⟨vb, rfl, hO, hb2⟩)
    | (go_at_call 20; refine (oOne _).mono ?_; rintro e w3 ⟨rfl, hb3⟩))
  have hP : Past w.heap.size w w3 := (((((Past.refl w).call hb0).call hb1).call hb2).call hb3)
  have hO := hO.keep hb3
  have hB1 : w.heap.size ≤ w1.heap.size := (((Past.refl w).call hb0).call hb1).2
  have H := oMake hO (by omega) 0
  rw [(es_make writer).1, (es_make writer).2] at H
  refine H.mono ?_
  rintro e w4 ⟨rfl, hO, hb4, hc4⟩
  have hP := hP.next (hb4.mono hB1)
  clear H hb0 hb1 hb2 hb3 hb4 hs1
  go_wp2
  rw [hk]
  have Hk := Lib.hid hk; clear hk
  go_loopw [7] (fun t wr => ∃ i : Nat, i ≤ k ∧ t = .int .i64 i ∧ PipeIs w1.heap.size wr vb (.pointer (some ⟨w0.heap.size, 0, none⟩)) (es writer (min (i + 1) 64)) (10 + 2 * i) ∧ Past w.heap.size w wr) (fun t _ => k - (intOf t).toNat)
  case atStart => exact ⟨0, Nat.zero_le _, rfl, hO.more (by omega), hP⟩
  case round =>
    obtain ⟨i, hi, rfl, hO, hP⟩ := hrel
    by_cases hlt : i < k
    · by_cases h63 : i < 63
      · go_wp2_with (go_at_call 20; refine (oOne _).mono ?_; rintro e w3 ⟨rfl, hb3⟩)
        have hO := hO.keep hb3
        have hm : min (i + 1) 64 = i + 1 := by omega
        rw [hm] at hO
        have H := oJoin hO (by omega) (es_len writer (by omega)) 0 writer
        have he := es_join writer (n := i + 1) (by omega) (by omega)
        rw [he.1, he.2] at H
        refine H.mono ?_
        rintro e w4 ⟨rfl, hO, hb4, hc4⟩
        have hP := (hP.call hb3).next (hb4.mono hB1)
        clear H hb3 hb4 hm he
        go_wp2
        go_roundw
        case rel => exact ⟨i + 1, by omega, by go_num, by rw [show min (i + 1 + 1) 64 = i + 1 + 1 by omega]; exact hO.more (by omega), hP⟩
        case measure => simp [intOf]; omega
      · go_wp2_with (go_at_call 20; refine (oOne _).mono ?_; rintro e w3 ⟨rfl, hb3⟩)
        have hO := hO.keep hb3
        have hm : min (i + 1) 64 = 64 := by omega
        rw [hm] at hO
        have H := oJoin hO (by omega) (es_len writer (by omega)) 0 writer
        rw [(es_full writer).1, (es_full writer).2] at H
        refine H.mono ?_
        rintro e w4 ⟨rfl, hO, hb4, hc4⟩
        have hP := (hP.call hb3).next (hb4.mono hB1)
        clear H hb3 hb4 hm
        go_wp2
        go_roundw
        case rel => exact ⟨i + 1, by omega, by go_num, by rw [show min (i + 1 + 1) 64 = 64 by omega]; exact hO.more (by omega), hP⟩
        case measure => simp [intOf]; omega
    · obtain rfl : i = k := by omega
      clear hlt
      obtain ⟨s, hs⟩ : ∃ s, s = min (i + 1) 64 := ⟨_, rfl⟩
      rw [← hs] at hO
      have hs1 : 1 ≤ s ∧ s ≤ 64 := by omega
      have Hs := Lib.hid hs; clear hs
      go_wp2
      go_loopw [9] (fun t wr => ∃ j : Nat, j ≤ s ∧ t = .int .i64 j ∧ PipeIs w1.heap.size wr vb (.pointer (some ⟨w0.heap.size, 0, none⟩)) (es writer (s - j)) (200 + 2 * j) ∧ Past w.heap.size w wr) (fun t _ => s - (intOf t).toNat)
      case atStart => exact ⟨0, Nat.zero_le _, rfl, hO.more (by omega), hP⟩
      case round =>
        obtain ⟨j, hj, rfl, hO, hP⟩ := hrel
        have hcase : (i ≤ 63 ∧ s ≤ i + 1 ∧ i + 1 ≤ s) ∨ (63 < i ∧ s ≤ 64 ∧ 64 ≤ s) := by have := Hs.out; omega
        by_cases hlt : j < s
        · rcases hcase with ⟨hk, hsk1, hsk2⟩ | ⟨hk, hsk1, hsk2⟩
          all_goals (
            go_wp2_with (go_at_call 20; refine (oOne _).mono ?_; rintro e w3 ⟨rfl, hb3⟩)
            all_goals (try (exfalso; omega))
            have hO := hO.keep hb3
            have H := oLeave hO (by omega) (es_len writer (by omega)) 0 writer
            have he := es_leave writer (n := s - j) (by omega) (by omega)
            rw [he.1, he.2] at H
            refine H.mono ?_
            rintro e w4 ⟨rfl, hO, hb4, hc4⟩
            have hP := (hP.call hb3).next (hb4.mono hB1)
            clear H hb3 hb4 he
            go_wp2
            go_roundw
            (case rel => exact ⟨j + 1, by omega, by go_num, by rw [show s - (j + 1) = s - j - 1 by omega]; exact hO.more (by omega), hP⟩)
            (case measure => simp [intOf]; omega))
        · obtain rfl : j = s := by omega
          clear hlt
          rw [Nat.sub_self] at hO
          rcases hcase with ⟨hk, hsk1, hsk2⟩ | ⟨hk, hsk1, hsk2⟩
          all_goals (
            go_wp2_with (go_at_call 20; refine (oOne _).mono ?_; rintro e w3 ⟨rfl, hb3⟩)
            all_goals (try (exfalso; omega))
            have hO := hO.keep hb3
            have H := oGet hO (by omega) (es_len writer (by omega)) 0
            rw [es_get] at H
            refine H.mono ?_
            rintro e w4 ⟨rfl, hO, hb4, hc4⟩
            have hP := (hP.call hb3).next (hb4.mono hB1)
            clear H hb3 hb4
            unfold pipeV
            have hk0 := Blk.new w4 #[.int .i64 0, .int .i64 (esR writer 0), .int .i64 (esW writer 0), .string (str [])] 28
            have hO := hO.keep (below_alloc w4 (.cells #[.int .i64 0, .int .i64 (esR writer 0), .int .i64 (esW writer 0), .string (str [])] 28))
            have hP := hP.alloc (.cells #[.int .i64 0, .int .i64 (esR writer 0), .int .i64 (esW writer 0), .string (str [])] 28)
            clear hc4
            go_wp2_with (go_at_call 20; refine (oOne _).mono ?_; rintro e w5 ⟨rfl, hb5⟩)
            have hO := hO.keep hb5
            have hk1 := hk0.below hb5 hk0.lt
            have H := oJoin hO (by omega) (es_len writer (by omega)) 0 writer
            rw [(es_joinNone writer).1, (es_joinNone writer).2] at H
            refine H.mono ?_
            rintro e w6 ⟨rfl, hO, hb6, hc6⟩
            have hP := (hP.call hb5).next (hb6.mono hB1)
            have hk2 := hc6.1.blk hk1 (by decide)
            clear H hb5 hb6 hc6 hk0 hk1
            go_wp2_with (go_at_call 20; refine (oOne _).mono ?_; rintro e w5 ⟨rfl, hb5⟩)
            have hO := hO.keep hb5
            have hk1 := hk2.below hb5 hk2.lt
            have H := oLeave hO (by omega) (es_len writer (by omega)) 0 writer
            rw [(es_leaveNone writer).1, (es_leaveNone writer).2] at H
            refine H.mono ?_
            rintro e w6 ⟨rfl, hO, hb6, hc6⟩
            have hP := (hP.call hb5).next (hb6.mono hB1)
            have hk2 := hc6.1.blk hk1 (by decide)
            clear H hb5 hb6 hc6 hk1
            go_wp2_with (go_at_call 20; refine (oOne _).mono ?_; rintro e w5 ⟨rfl, hb5⟩)
            have hO := hO.keep hb5
            have hk1 := hk2.below hb5 hk2.lt
            have H := oLeave hO (by omega) (es_len writer (by omega)) 0 (!writer)
            rw [(es_last writer).1, (es_last writer).2] at H
            refine H.mono ?_
            rintro e w6 ⟨rfl, hO, hb6, hc6⟩
            have hP := (hP.call hb5).next (hb6.mono hB1)
            have hk2 := hc6.1.blk hk1 (by decide)
            clear H hb5 hb6 hc6 hk1
            go_wp2_with (go_at_call 20; refine (oOne _).mono ?_; rintro e w5 ⟨rfl, hb5⟩)
            have hO := hO.keep hb5
            have hk1 := hk2.below hb5 hk2.lt
            have H := oGet hO (by omega) (by simp) 0
            rw [none_get] at H
            refine H.mono ?_
            rintro e w6 ⟨rfl, hO, hb6, hc6⟩
            have hP := (hP.call hb5).next (hb6.mono hB1)
            have hk2 := hc6.blk hk1 (by decide)
            clear H hb5 hb6 hc6 hk1
            unfold pipeV
            have hO := hO.keep (below_alloc w6 (.cells #[.int .i64 0, .int .i64 0, .int .i64 0, .string (str [])] 28))
            have hP := hP.alloc (.cells #[.int .i64 0, .int .i64 0, .int .i64 0, .string (str [])] 28)
            have hk3 := hk2.alloc (.cells #[.int .i64 0, .int .i64 0, .int .i64 0, .string (str [])] 28)
            obtain ⟨_, k1, k2, _, _, _, _, _⟩ := hk3.quad
            have hsum := es_sum writer
            have hr0 : esR writer 0 ≤ 1 := by unfold esR; split <;> omega
            have hw0 : esW writer 0 ≤ 1 := by unfold esW; split <;> omega
            go_wp2_with (first
              | (go_at_call 20; refine (oOne _).mono ?_; rintro e w5 ⟨rfl, hb5⟩; have hO5 := hO.keep hb5)
              | (go_at_call 29; refine (oName _).mono ?_; rintro e w7 ⟨rfl, hb7⟩; have hO7 := hO5.keep hb7)
              | (go_at_call 28; refine (oHas hO7 (by omega)).mono ?_; rintro e w8 ⟨rfl, _, hb8, _⟩))
            go_ret
            exact ⟨rfl, (((hP.call hb5).call hb7).next (hb8.mono hB1)).1⟩)
end Go.Proofs.YtoefldeoioagmaaGreatDoor
