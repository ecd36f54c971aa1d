/- Contracts of functions on the way to the claim, proved for every input that their hypotheses let by; no condition of the claim. Joined of: K6. -/
import Derived.Test.YtgonfcdmaoeboaaGreatDoorG28
import Derived.Test.YtgonfcdmaoeboaaGreatDoorG26

/- An operation of the law of ports as a parameter, opened. -/
namespace Go.Proofs.YtgonfcdmaoeboaaGreatDoor
open Go.ChangeShapes Go.WideShapes Go.ChangeAt Go.RowKit Go.Joins Go.Deep

theorem array7 {α : Type} {cs : Array α} (h : cs.size = 7) : ∃ c0 c1 c2 c3 c4 c5 c6, cs = #[c0, c1, c2, c3, c4, c5, c6] := by
  obtain ⟨l⟩ := cs
  match l, h with
  | [c0, c1, c2, c3, c4, c5, c6], _ => exact ⟨c0, c1, c2, c3, c4, c5, c6, rfl⟩
theorem u8_of {k : Int} (h : (Lit.int .u8 k).wf = true) : ∃ n : Nat, k = n ∧ n ≤ 255 := by
  have hk : 0 ≤ k ∧ k ≤ 255 := by simpa [Lit.wf, IntKind.min, IntKind.max, IntKind.signed, IntKind.bits] using h
  obtain ⟨n, rfl⟩ := Int.eq_ofNat_of_zero_le hk.1
  exact ⟨n, rfl, by omega⟩
set_option maxRecDepth 100000 in
theorem open_op {H : Type} {enc : TypeId × Value → H} {W : World} {v : Value} {d : DataW H} {ps : List MemPlace} {r : Reach} {b0 : Nat} (hv : Value.okWide Tryz.prog W r b0 60 v)
    (h : DataW.Trod enc Tryz.prog W 0 (fun _ => true) true 60 v d ps) : ∃ (kd wh us : Nat) (n ep : Int) (p : Pk), v = .agg (opP kd wh us n ep p) ∧ kd ≤ 255 ∧ wh ≤ 255 ∧ us ≤ 255 ∧ p.1.length ≤ 9223372036854775807 ∧ p.2.length ≤ 9223372036854775807 := by
  obtain ⟨cs, rfl, hsz⟩ := okWide_struct Tryz.underlying60 hv
  obtain ⟨c0, c1, c2, c3, c4, c5, c6, rfl⟩ := array7 (hsz.trans (by kernel_rfl))
  obtain ⟨fuel, hf⟩ := h
  obtain ⟨xs, m, _, _, _, hlen, hg⟩ := DataW.trod_struct Tryz.underlying60 hf
  have k8 : Tryz.prog.cellsOf 5 = 1 := by kernel_rfl
  have ki : Tryz.prog.cellsOf 3 = 1 := by kernel_rfl
  have ks : Tryz.prog.cellsOf 9 = 1 := by kernel_rfl
  have kp : Tryz.prog.cellsOf 48 = 2 := by kernel_rfl
  match xs, hlen with
  | [y0, y1, y2, y3, y4, y5], _ =>
    have h0 : DataW.trod enc Tryz.prog W 0 (fun _ => true) true m 5 [c0] = some y0 := by have := hg 0 _ rfl; simpa [Value.cells, k8] using this
    have h1 : DataW.trod enc Tryz.prog W 0 (fun _ => true) true m 5 [c1] = some y1 := by have := hg 1 _ rfl; simpa [Value.cells, k8] using this
    have h2 : DataW.trod enc Tryz.prog W 0 (fun _ => true) true m 5 [c2] = some y2 := by have := hg 2 _ rfl; simpa [Value.cells, k8] using this
    have h3 : DataW.trod enc Tryz.prog W 0 (fun _ => true) true m 3 [c3] = some y3 := by have := hg 3 _ rfl; simpa [Value.cells, ki] using this
    have h4 : DataW.trod enc Tryz.prog W 0 (fun _ => true) true m 3 [c4] = some y4 := by have := hg 4 _ rfl; simpa [Value.cells, ki] using this
    have h5 : DataW.trod enc Tryz.prog W 0 (fun _ => true) true m 48 [c5, c6] = some y5 := by have := hg 5 _ rfl; simpa [Value.cells, kp] using this
    obtain ⟨z0, z1, n2, _, _, g0, g1⟩ := trod_struct2 Tryz.underlying48 h5
    have g0 : DataW.trod enc Tryz.prog W 0 (fun _ => true) true n2 9 [c5] = some z0 := by simpa [ks] using g0
    have g1 : DataW.trod enc Tryz.prog W 0 (fun _ => true) true n2 9 [c6] = some z1 := by simpa [ks] using g1
    obtain ⟨kd, e0, _, w0⟩ := DataW.trod_int Tryz.underlying5 h0
    obtain ⟨wh, e1, _, w1⟩ := DataW.trod_int Tryz.underlying5 h1
    obtain ⟨us, e2, _, w2⟩ := DataW.trod_int Tryz.underlying5 h2
    obtain ⟨n, e3, _, _⟩ := DataW.trod_int Tryz.underlying3 h3
    obtain ⟨ep, e4, _, _⟩ := DataW.trod_int Tryz.underlying3 h4
    obtain ⟨s0, e5, _, w5⟩ := DataW.trod_string Tryz.underlying9 g0
    obtain ⟨s1, e6, _, w6⟩ := DataW.trod_string Tryz.underlying9 g1
    simp at e0 e1 e2 e3 e4 e5 e6
    subst e0 e1 e2 e3 e4 e5 e6
    obtain ⟨kd, rfl, q0⟩ := u8_of w0
    obtain ⟨wh, rfl, q1⟩ := u8_of w1
    obtain ⟨us, rfl, q2⟩ := u8_of w2
    obtain ⟨l0, rfl⟩ := str_surj s0
    obtain ⟨l1, rfl⟩ := str_surj s1
    rw [str_size] at w5 w6
    exact ⟨kd, wh, us, n, ep, (l0, l1), rfl, q0, q1, q2, by unfold maxLen at w5; simp only; omega, by unfold maxLen at w6; simp only; omega⟩
end Go.Proofs.YtgonfcdmaoeboaaGreatDoor
