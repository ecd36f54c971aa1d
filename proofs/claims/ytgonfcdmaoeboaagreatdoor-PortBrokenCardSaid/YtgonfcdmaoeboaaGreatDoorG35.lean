/- Contracts of functions on the way to the claim, proved for every input that their hypotheses let by; no condition of the claim. Joined of: Y24. -/
import Derived.Test.YtgonfcdmaoeboaaGreatDoorG34
import Derived.Test.YtgonfcdmaoeboaaGreatDoorG25

/- replevinlaw37.PortBroken. -/
namespace Go.Proofs.YtgonfcdmaoeboaaGreatDoor
open Go.RowKit

def portNm (n : Int) : Nm := ⟨16, [], n, 0, []⟩
theorem portNm_self : cmpN (portNm 200) (portNm 200) = 0 := by decide +kernel
theorem cut300 {l : List UInt8} : ∃ X : List UInt8, X.length ≤ 300 ∧ (300 < l.length → (str l).extract 0 300 = str X) ∧ (l.length ≤ 300 → (str l).extract 0 l.length = str X) :=
  ⟨l.take 300, by rw [List.length_take]; omega, fun _ => by rw [str_extract]; rfl, fun h => by rw [str_extract, List.drop_zero, List.take_of_length_le (by omega), List.take_of_length_le h]⟩
structure BrokeFacts (X : List UInt8) (ep : Int) (E : Nat) (dep : Int) : Prop where
  yes : E = 0 ∧ dep = ep → (∃ P, portGetR 200 ep (some X) = (P, 0)) ∧ openE [49] 3 200 ep (some X) = 19
  no : ¬ (E = 0 ∧ dep = ep) → (∃ P, portGetR 200 ep (some X) = (P, 8)) ∧ openE [49] 3 200 ep (some X) = 0
theorem broke_facts (X : List UInt8) (ep : Int) (hep : 0 ≤ ep ∧ ep < 4) : BrokeFacts X ep (portDecE X) (portDec X).ep := by
  have b0 : portBeg [] 200 ep = 0 := portBeg_zero.2 ⟨valid_nil0, by omega, by omega⟩
  have hr : rdPort (some X) ep = if portDecE X = 0 ∧ (portDec X).ep = ep then (portDec X, 0) else (⟨[], 0, 0, []⟩, 8) := rfl
  have hg : portGetR 200 ep (some X) = rdPort (some X) ep := by unfold portGetR; rw [if_neg (by simp [b0])]
  refine ⟨fun h => ?_, fun h => ?_⟩
  · rw [if_pos h] at hr
    exact ⟨⟨_, by rw [hg, hr]⟩, (openE_busy valid_digit1.1 (by omega) (by omega) (by omega) (by rw [hr])).1⟩
  · rw [if_neg h] at hr
    exact ⟨⟨_, by rw [hg, hr]⟩, (openE_free valid_digit1.1 (by omega) (by omega) (by omega) (by rw [hr]; decide)).1⟩

set_option maxRecDepth 100000 in
set_option maxHeartbeats 3200000 in
theorem portBroken_any (l : List UInt8) (x1 : Int) (w : World) (hl : l.length ≤ 9223372036854775807) :
    Calls Tryz.prog 7 #[.string (str l), .int .i64 x1] w fun e w' => e = .returned (.bool true) ∧ Below w.heap.size w w' := by
  have Hk := Lib.hid pknown_any
  have l1 := str_size l
  obtain ⟨X, hXl, hX1, hX2⟩ := cut300 (l := l)
  obtain ⟨ep, hep, he0, he1⟩ := u64_mod x1 4 (by omega) (by omega)
  have Hep := Lib.hid hep; clear hep
  have HN := Lib.hid (nameOk_port (n := 200) (by omega) (by omega)).2
  have Ho := Lib.hid (fun w => ofPort_any 200 w)
  have F := broke_facts X ep ⟨he0, by omega⟩
  have hdec := fun w => portDecodeL_any X w (by omega)
  unfold PDecPost portV at hdec
  obtain ⟨D, hD⟩ : ∃ D, D = portDec X := ⟨_, rfl⟩
  obtain ⟨E, hE⟩ : ∃ E, E = portDecE X := ⟨_, rfl⟩
  rw [← hD, ← hE] at hdec
  rw [← hD, ← hE] at F
  have HD := Lib.hid hdec; clear hdec hD hE
  have HF := Lib.hid F; clear F
  go_enter Tryz.func7, Tryz.ntmps7
  go_wp2_with fail
  all_goals
    first | rw [hX1 (by omega)] | rw [hX2 (by omega)]
    clear hX1 hX2
    refine (stateNew_any _).mono ?_
    rintro e w1 ⟨rfl, hs1, hb1⟩
    have hP1 := (Past.refl w).call hb1
    go_wp2_with fail
    refine (Ho.out _).mono ?_
    rintro e w2 ⟨rfl, hb2⟩
    have hP2 := hP1.call hb2
    have hs2 := hs1.below hb2 hs1.lt
    go_wp2_with fail
    refine (stateWith_empty _ (portNm 200) X _ hs2 (by unfold Nm.short portNm; simp) (by omega) HN.out).mono ?_
    rintro e w3 ⟨sb, rfl, hS3, hb3⟩
    have hP3 := hP2.call hb3
    clear hs1 hs2 hb1 hb2 hb3 hP1 hP2
    go_wp2_with fail
    refine (Hk.out _).mono ?_
    rintro e w4 ⟨rfl, hb4⟩
    have hP4 := hP3.call hb4
    have hS4 := (hS3.below hb4).mono hb4.size
    clear hS3 hP3 hb4
    go_wp2_with fail
    rw [Hep.out]
    refine (HD.out _).mono ?_
    rintro e w5 ⟨hb5, qv, rfl, ho5⟩
    obtain ⟨a5, c5, rfl⟩ := ho5.slice
    have hx5 := Blk.new w5 #[.string (str D.own), .int .i64 D.ep, .int .i64 D.lost, .slice a5 D.q.length c5] 25
    have hP5 := (hP4.call hb5).alloc (.cells #[.string (str D.own), .int .i64 D.ep, .int .i64 D.lost, .slice a5 D.q.length c5] 25)
    have hS5 := ((hS4.below hb5).mono hb5.size).below (below_alloc w5 (.cells #[.string (str D.own), .int .i64 D.ep, .int .i64 D.lost, .slice a5 D.q.length c5] 25))
    clear ho5 hS4 hP4 hb5 Hk HD Hep
    obtain ⟨y0, y1, y2, y3, _, _, _, _⟩ := hx5.quad
    by_cases hE0 : E = 0
    · have k1 : ((E : Int) == 0) = true := by simp [hE0]
      by_cases hDe : D.ep = ep
      · have k2 : (D.ep == ep) = true := by simp [hDe]
        obtain ⟨⟨P, hgp⟩, hoe⟩ := HF.out.yes ⟨hE0, hDe⟩
        have hgP := Lib.hid hgp; have hoE := Lib.hid hoe
        clear hgp hoe hE0 hDe HF
        go_wp2_with fail
        refine (objNew_state (hS5.mono (by simp)) ⟨by unfold Nm.short portNm; simp, trivial, trivial⟩ (portNm 200) (by unfold Nm.short portNm; simp)).mono ?_
        rintro e w6 ⟨vb, rfl, hO6, hb6⟩
        rw [one_get portNm_self] at hO6
        have hO6 : ObjIs _ _ vb _ 16 [] 200 0 [] (some X) 0 := hO6
        have hP6 := hP5.call hb6
        have hS6 := (hS5.mono (Nat.le_succ _)).below (hb6.mono (by simp))
        have hz5 : w.heap.size ≤ w5.heap.size + 1 := by have := hP5.2; simpa using this
        have hz6 := hb6.size
        clear hS5 hP5 hb6
        go_wp2_with fail
        have H := portGet_any _ ep (by simp only [Option.getD_some]; omega) hO6 (by omega)
        unfold portV at H
        rw [hgP.out] at H
        have HH := Lib.hid H; clear H
        refine HH.out.mono ?_
        rintro e w7 ⟨qv7, rfl, ho7, hO7, hb7, _⟩
        obtain ⟨a7, c7, rfl⟩ := ho7.slice
        have hb7 := hb7.mono (Nat.le_of_eq (by simp) : w5.heap.size + 1 ≤ _)
        have hP7 := (hP6.next (hb7.mono hz5)).alloc (.cells #[.string (str P.own), .int .i64 P.ep, .int .i64 P.lost, .slice a7 P.q.length c7] 25)
        have hz7 : w5.heap.size + 1 ≤ w7.heap.size := by have := hb7.size; simp at hz6; omega
        have hS7 := (((hS6.below hb7).mono hz7).below (below_alloc w7 (.cells #[.string (str P.own), .int .i64 P.ep, .int .i64 P.lost, .slice a7 P.q.length c7] 25))).mono (show w7.heap.size ≤ (w7.alloc (.cells #[.string (str P.own), .int .i64 P.ep, .int .i64 P.lost, .slice a7 P.q.length c7] 25)).heap.size by simp)
        clear HH hO6 hP6 hS6 hb7 ho7 hO7 hz6
        go_wp2_with fail
        refine (objNew_state hS7 ⟨by unfold Nm.short portNm; simp, trivial, trivial⟩ (portNm 200) (by unfold Nm.short portNm; simp)).mono ?_
        rintro e w8 ⟨vb8, rfl, hO8, hb8⟩
        rw [one_get portNm_self] at hO8
        have hO8 : ObjIs _ _ vb8 _ 16 [] 200 0 [] (some X) 0 := hO8
        have hP8 := hP7.call hb8
        have hz8 := hb8.size
        clear hS7 hP7 hb8
        go_wp2_with fail
        have H := portOpen_any _ [49] (by decide) 3 ep (.slice none 0 0) (by simp only [Option.getD_some]; omega) hO8 (by omega)
        rw [hoE.out] at H
        have HH := Lib.hid H; clear H
        refine HH.out.mono ?_
        rintro e w9 ⟨rfl, _, hb9, _⟩
        have hP9 := hP8.next (hb9.mono (show w.heap.size ≤ _ by simp at hz7 ⊢; omega))
        clear HH hO8 hP8 hb9
        go_wp2
        go_ret
        exact ⟨rfl, hP9.1⟩

      · have k2 : (D.ep == ep) = false := by simp [hDe]
        obtain ⟨⟨P, hgp⟩, hoe⟩ := HF.out.no (fun h => hDe h.2)
        have hgP := Lib.hid hgp; have hoE := Lib.hid hoe
        clear hgp hoe hE0 hDe HF
        go_wp2_with fail
        refine (objNew_state (hS5.mono (by simp)) ⟨by unfold Nm.short portNm; simp, trivial, trivial⟩ (portNm 200) (by unfold Nm.short portNm; simp)).mono ?_
        rintro e w6 ⟨vb, rfl, hO6, hb6⟩
        rw [one_get portNm_self] at hO6
        have hO6 : ObjIs _ _ vb _ 16 [] 200 0 [] (some X) 0 := hO6
        have hP6 := hP5.call hb6
        have hS6 := (hS5.mono (Nat.le_succ _)).below (hb6.mono (by simp))
        have hz5 : w.heap.size ≤ w5.heap.size + 1 := by have := hP5.2; simpa using this
        have hz6 := hb6.size
        clear hS5 hP5 hb6
        go_wp2_with fail
        have H := portGet_any _ ep (by simp only [Option.getD_some]; omega) hO6 (by omega)
        unfold portV at H
        rw [hgP.out] at H
        have HH := Lib.hid H; clear H
        refine HH.out.mono ?_
        rintro e w7 ⟨qv7, rfl, ho7, hO7, hb7, _⟩
        obtain ⟨a7, c7, rfl⟩ := ho7.slice
        have hb7 := hb7.mono (Nat.le_of_eq (by simp) : w5.heap.size + 1 ≤ _)
        have hP7 := (hP6.next (hb7.mono hz5)).alloc (.cells #[.string (str P.own), .int .i64 P.ep, .int .i64 P.lost, .slice a7 P.q.length c7] 25)
        have hz7 : w5.heap.size + 1 ≤ w7.heap.size := by have := hb7.size; simp at hz6; omega
        have hS7 := (((hS6.below hb7).mono hz7).below (below_alloc w7 (.cells #[.string (str P.own), .int .i64 P.ep, .int .i64 P.lost, .slice a7 P.q.length c7] 25))).mono (show w7.heap.size ≤ (w7.alloc (.cells #[.string (str P.own), .int .i64 P.ep, .int .i64 P.lost, .slice a7 P.q.length c7] 25)).heap.size by simp)
        clear HH hO6 hP6 hS6 hb7 ho7 hO7 hz6
        go_wp2_with fail
        refine (objNew_state hS7 ⟨by unfold Nm.short portNm; simp, trivial, trivial⟩ (portNm 200) (by unfold Nm.short portNm; simp)).mono ?_
        rintro e w8 ⟨vb8, rfl, hO8, hb8⟩
        rw [one_get portNm_self] at hO8
        have hO8 : ObjIs _ _ vb8 _ 16 [] 200 0 [] (some X) 0 := hO8
        have hP8 := hP7.call hb8
        have hz8 := hb8.size
        clear hS7 hP7 hb8
        go_wp2_with fail
        have H := portOpen_any _ [49] (by decide) 3 ep (.slice none 0 0) (by simp only [Option.getD_some]; omega) hO8 (by omega)
        rw [hoE.out] at H
        have HH := Lib.hid H; clear H
        refine HH.out.mono ?_
        rintro e w9 ⟨rfl, _, hb9, _⟩
        have hP9 := hP8.next (hb9.mono (show w.heap.size ≤ _ by simp at hz7 ⊢; omega))
        clear HH hO8 hP8 hb9
        go_wp2
        go_ret
        exact ⟨rfl, hP9.1⟩

    · have k1 : ((E : Int) == 0) = false := by simp; omega
      obtain ⟨⟨P, hgp⟩, hoe⟩ := HF.out.no (fun h => hE0 h.1)
      have hgP := Lib.hid hgp; have hoE := Lib.hid hoe
      clear hgp hoe hE0 HF
      go_wp2_with fail
      refine (objNew_state (hS5.mono (by simp)) ⟨by unfold Nm.short portNm; simp, trivial, trivial⟩ (portNm 200) (by unfold Nm.short portNm; simp)).mono ?_
      rintro e w6 ⟨vb, rfl, hO6, hb6⟩
      rw [one_get portNm_self] at hO6
      have hO6 : ObjIs _ _ vb _ 16 [] 200 0 [] (some X) 0 := hO6
      have hP6 := hP5.call hb6
      have hS6 := (hS5.mono (Nat.le_succ _)).below (hb6.mono (by simp))
      have hz5 : w.heap.size ≤ w5.heap.size + 1 := by have := hP5.2; simpa using this
      have hz6 := hb6.size
      clear hS5 hP5 hb6
      go_wp2_with fail
      have H := portGet_any _ ep (by simp only [Option.getD_some]; omega) hO6 (by omega)
      unfold portV at H
      rw [hgP.out] at H
      have HH := Lib.hid H; clear H
      refine HH.out.mono ?_
      rintro e w7 ⟨qv7, rfl, ho7, hO7, hb7, _⟩
      obtain ⟨a7, c7, rfl⟩ := ho7.slice
      have hb7 := hb7.mono (Nat.le_of_eq (by simp) : w5.heap.size + 1 ≤ _)
      have hP7 := (hP6.next (hb7.mono hz5)).alloc (.cells #[.string (str P.own), .int .i64 P.ep, .int .i64 P.lost, .slice a7 P.q.length c7] 25)
      have hz7 : w5.heap.size + 1 ≤ w7.heap.size := by have := hb7.size; simp at hz6; omega
      have hS7 := (((hS6.below hb7).mono hz7).below (below_alloc w7 (.cells #[.string (str P.own), .int .i64 P.ep, .int .i64 P.lost, .slice a7 P.q.length c7] 25))).mono (show w7.heap.size ≤ (w7.alloc (.cells #[.string (str P.own), .int .i64 P.ep, .int .i64 P.lost, .slice a7 P.q.length c7] 25)).heap.size by simp)
      clear HH hO6 hP6 hS6 hb7 ho7 hO7 hz6
      go_wp2_with fail
      refine (objNew_state hS7 ⟨by unfold Nm.short portNm; simp, trivial, trivial⟩ (portNm 200) (by unfold Nm.short portNm; simp)).mono ?_
      rintro e w8 ⟨vb8, rfl, hO8, hb8⟩
      rw [one_get portNm_self] at hO8
      have hO8 : ObjIs _ _ vb8 _ 16 [] 200 0 [] (some X) 0 := hO8
      have hP8 := hP7.call hb8
      have hz8 := hb8.size
      clear hS7 hP7 hb8
      go_wp2_with fail
      have H := portOpen_any _ [49] (by decide) 3 ep (.slice none 0 0) (by simp only [Option.getD_some]; omega) hO8 (by omega)
      rw [hoE.out] at H
      have HH := Lib.hid H; clear H
      refine HH.out.mono ?_
      rintro e w9 ⟨rfl, _, hb9, _⟩
      have hP9 := hP8.next (hb9.mono (show w.heap.size ≤ _ by simp at hz7 ⊢; omega))
      clear HH hO8 hP8 hb9
      go_wp2
      go_ret
      exact ⟨rfl, hP9.1⟩

end Go.Proofs.YtgonfcdmaoeboaaGreatDoor
