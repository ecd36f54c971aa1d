/- Contracts of functions on the way to the claim, proved for every input that their hypotheses let by; no condition of the claim. Joined of: Y17. -/
import Derived.IntWalk
import Derived.Test.YtgonfcdmaoeboaaGreatDoorG24
import Derived.Test.YtgonfcdmaoeboaaGreatDoorG22

/- replevinlaw37.PortEpochs. -/
namespace Go.Proofs.YtgonfcdmaoeboaaGreatDoor
open Go.RowKit

theorem u64_mod (x : Int) (m : Int) (h0 : 0 < m) (h1 : m ≤ 1000000) : ∃ n : Int, wrap64 ((IntKind.u64.wrap x).tmod m) = n ∧ 0 ≤ n ∧ n < m := by
  have h : 0 ≤ IntKind.u64.wrap x := by
    unfold IntKind.wrap
    simp [IntKind.signed, IntKind.bits]
    omega
  have e : (IntKind.u64.wrap x).tmod m = (IntKind.u64.wrap x) % m := Int.tmod_eq_emod_of_nonneg h
  have a := Int.emod_nonneg (IntKind.u64.wrap x) (show m ≠ 0 by omega)
  have b := Int.emod_lt_of_pos (IntKind.u64.wrap x) h0
  refine ⟨(IntKind.u64.wrap x) % m, ?_, a, b⟩
  rw [e, IntWalk.wrap64_in _ (by omega)]
theorem u64_number (x : Int) : ∃ n : Int, wrap64 (100 + wrap64 ((IntKind.u64.wrap x).tmod 9900)) = n ∧ 100 ≤ n ∧ n ≤ 9999 := by
  obtain ⟨n, h, h0, h1⟩ := u64_mod x 9900 (by omega) (by omega)
  exact ⟨100 + n, by rw [h, IntWalk.wrap64_in _ (by omega)], by omega, by omega⟩

set_option maxRecDepth 100000 in
set_option maxHeartbeats 3200000 in
theorem portEpochs_any (x0 x1 x2 : Int) (w : World) :
    Calls Tryz.prog 5 #[.int .i64 x0, .int .i64 x1, .int .i64 x2] w fun e w' => e = .returned (.bool true) ∧ Below w.heap.size w w' := by
  have Hk := Lib.hid pknown_any
  obtain ⟨n, hn, hn0, hn1⟩ := u64_number x0
  obtain ⟨a, ha, ha0, ha1⟩ := u64_mod x1 1000 (by omega) (by omega)
  obtain ⟨b, hb, hb0, hb1⟩ := u64_mod x2 1000 (by omega) (by omega)
  have Hn := Lib.hid hn; clear hn
  have Ha := Lib.hid ha; clear ha
  have Hb := Lib.hid hb; clear hb
  obtain ⟨c1, c2, F⟩ := epoch_facts (n := n) (a := a) (b := b) ⟨hn0, hn1⟩ ⟨ha0, by omega⟩ ⟨hb0, by omega⟩
  have HF := Lib.hid F; clear F
  go_enter Tryz.func5, Tryz.ntmps5
  go_wp2_with fail
  refine (Hk.out _).mono ?_
  rintro z wK ⟨rfl, hbK⟩
  go_wp2_with fail
  simp only [Hn.out, Ha.out, Hb.out]
  clear Hn Ha Hb
  refine (stateNew_any _).mono ?_
  rintro e w1 ⟨rfl, hs1, hb1⟩
  go_wp2_with fail
  refine (portNew n hs1).mono ?_
  rintro e w2 ⟨vb, rfl, hO2, hb2⟩
  have hP2 := (((Past.refl w).call hbK).call hb1).call hb2
  have hle : w.heap.size ≤ w1.heap.size := Nat.le_trans hbK.size hb1.size
  clear hs1 hb1 hb2 hbK
  go_wp2_with fail
  have H := portOpen_any w2 [49] (by decide) 1 a (.slice none 0 0) (by decide) hO2 (by omega)
  rw [HF.out.open1.1, HF.out.open1.2] at H
  have HH := Lib.hid H; clear H
  refine HH.out.mono ?_
  rintro e w4 ⟨rfl, hO4, hb4, _⟩
  have hP4 := hP2.next (hb4.mono hle)
  clear HH hO2 hP2 hb4
  go_wp2_with fail
  have H := portOpen_any w4 [50] (by decide) 2 b (.slice none 0 0) HF.out.l1 hO4 (by omega)
  rw [HF.out.open2.1, HF.out.open2.2] at H
  have HH := Lib.hid H; clear H
  refine HH.out.mono ?_
  rintro e w5 ⟨rfl, hO5, hb5, _⟩
  have hP5 := hP4.next (hb5.mono hle)
  clear HH hO4 hP4 hb5
  obtain ⟨E2, hE2⟩ : ∃ E : Nat, E = (if a = b then 19 else 0) := ⟨_, rfl⟩
  rw [← hE2]
  by_cases hab : a = b
  · rw [if_pos hab] at hE2
    subst hE2
    have hba : b = a := hab.symm
    subst hba
    have k1 : (b == b) = true := by simp
    go_wp2_with fail
    have H := portGet_any w5 b HF.out.l2 hO5 (by omega)
    rw [HF.out.get1 rfl] at H
    unfold portV at H
    have HH := Lib.hid H; clear H
    refine HH.out.mono ?_
    rintro e w6 ⟨qv, rfl, ho6, hO6, hb6, _⟩
    obtain ⟨av, cv, rfl⟩ := ho6.slice
    have hP6 := (hP5.next (hb6.mono hle)).alloc (.cells #[.string (str [49]), .int .i64 b, .int .i64 0, .slice av ([] : List Pk).length cv] 25)
    have hx6 := Blk.new w6 #[.string (str [49]), .int .i64 b, .int .i64 0, .slice av ([] : List Pk).length cv] 25
    obtain ⟨x0, x1, x2, x3, _, _, _, _⟩ := hx6.quad
    have z2 : ((str [49]).toList == [49]) = true := by rw [str_toList]; rfl
    clear HH hO5 hP5 hb6 HF hab
    go_wp2
    go_ret
    exact ⟨rfl, hP6.1⟩
  · rw [if_neg hab] at hE2
    subst hE2
    have k1 : (a == b) = false := by simp [hab]
    go_wp2_with fail
    have H := portGet_any w5 a HF.out.l2 hO5 (by omega)
    rw [HF.out.get1' hab] at H
    unfold portV at H
    have HH := Lib.hid H; clear H
    refine HH.out.mono ?_
    rintro e w6 ⟨qv, rfl, ho6, hO6, hb6, _⟩
    obtain ⟨av, cv, rfl⟩ := ho6.slice
    have hP6 := (hP5.next (hb6.mono hle)).alloc (.cells #[.string (str []), .int .i64 0, .int .i64 0, .slice av ([] : List Pk).length cv] 25)
    have hO6 := hO6.keep (below_alloc w6 (.cells #[.string (str []), .int .i64 0, .int .i64 0, .slice av ([] : List Pk).length cv] 25))
    clear HH hO5 hP5 hb6
    go_wp2_with fail
    have H := portGet_any _ b HF.out.l2 hO6 (by omega)
    rw [HF.out.get2 hab] at H
    unfold portV at H
    have HH := Lib.hid H; clear H
    refine HH.out.mono ?_
    rintro e w7 ⟨qv, rfl, ho7, hO7, hb7, _⟩
    obtain ⟨av7, cv7, rfl⟩ := ho7.slice
    have hP7 := (hP6.next (hb7.mono hle)).alloc (.cells #[.string (str [50]), .int .i64 b, .int .i64 0, .slice av7 ([] : List Pk).length cv7] 25)
    have hO7 := hO7.keep (below_alloc w7 (.cells #[.string (str [50]), .int .i64 b, .int .i64 0, .slice av7 ([] : List Pk).length cv7] 25))
    have hx7 := Blk.new w7 #[.string (str [50]), .int .i64 b, .int .i64 0, .slice av7 ([] : List Pk).length cv7] 25
    obtain ⟨x0, x1, x2, x3, _, _, _, _⟩ := hx7.quad
    have z2 : ((str [50]).toList == [50]) = true := by rw [str_toList]; rfl
    clear HH hP6 hO6 hb7
    go_wp2_with fail
    have H := portClose_any _ [49] (by decide) a HF.out.l2 hO7 (by omega)
    rw [(HF.out.close1 hab).1, (HF.out.close1 hab).2] at H
    have HH := Lib.hid H; clear H
    refine HH.out.mono ?_
    rintro e w8 ⟨rfl, hO8, hb8, _⟩
    have hP8 := hP7.next (hb8.mono hle)
    clear HH hP7 hO7 hb8
    go_wp2_with fail
    have H := portClose_any _ [49] (by decide) b HF.out.l2 hO8 (by omega)
    rw [(HF.out.close2 hab).1, (HF.out.close2 hab).2] at H
    have HH := Lib.hid H; clear H
    refine HH.out.mono ?_
    rintro e w9 ⟨rfl, hO9, hb9, _⟩
    have hP9 := hP8.next (hb9.mono hle)
    clear HH hP8 hO8 hb9
    go_wp2_with fail
    have H := portClose_any _ [50] (by decide) b HF.out.l2 hO9 (by omega)
    rw [(HF.out.close3 hab).1, (HF.out.close3 hab).2] at H
    have HH := Lib.hid H; clear H
    refine HH.out.mono ?_
    rintro e wA ⟨rfl, hOA, hbA, _⟩
    have hPA := hP9.next (hbA.mono hle)
    clear HH hP9 hO9 hbA HF hab
    go_wp2
    go_ret
    exact ⟨rfl, hPA.1⟩
end Go.Proofs.YtgonfcdmaoeboaaGreatDoor
