/- Contracts of functions on the way to the claim, proved for every input that their hypotheses let by; no condition of the claim. Joined of: K7. -/
import Derived.Test.YtgonfcdmaoeboaaGreatDoorG28
import Derived.Test.YtgonfcdmaoeboaaGreatDoorG31

/- A slice of bools as a parameter, opened. -/
namespace Go.Proofs.YtgonfcdmaoeboaaGreatDoor
open Go.ChangeShapes Go.WideShapes Go.ChangeAt Go.RowKit Go.Joins Go.Deep

set_option maxRecDepth 100000 in
theorem open_boolsQ {H : Type} {enc : TypeId × Value → H} {W : World} {v : Value} {d : DataW H} {ps : List MemPlace} {r : Reach} {b0 : Nat} (hv : Value.okWide Tryz.prog W r b0 38 v)
    (h : DataW.Trod enc Tryz.prog W 0 (fun _ => true) true 38 v d ps) : ∃ l, BoolsQ W v l := by
  obtain ⟨ao, len0, cap0, rfl⟩ := okWide_slice Tryz.underlying38 hv
  have hv' : Cell.okWide Tryz.prog W r b0 38 (.slice ao len0 cap0) := by simpa [Value.okWide, Tryz.underlying38] using hv
  obtain ⟨fuel, hf⟩ := h
  rcases open_slice Tryz.underlying38 hf with ⟨hcs, _⟩ | ⟨a, len, cap, m, n, D, Pl, hcs, _, hl, hm, hmm, _, hi⟩
  · simp [Value.cells] at hcs
    obtain ⟨rfl, rfl, rfl⟩ := hcs
    exact ⟨[], none, 0, rfl, Nat.le_refl _, fun i s h => by cases h⟩
  · simp [Value.cells] at hcs
    obtain ⟨rfl, rfl, rfl⟩ := hcs
    obtain ⟨hsp, hlt⟩ := slice_plainK Tryz.underlying38 hv'
    have each : ∀ i, i < len0 → ∃ s : Bool, W.cell? ⟨a.block, a.off + i, none⟩ = some (.bool s) := by
      intro i him
      have hmi : i < m := by rw [hmm]; simp; omega
      obtain ⟨cs, hc, ht⟩ := hi i hmi
      have hC : Tryz.prog.cellsOf 4 = 1 := by kernel_rfl
      rw [hC, Nat.mul_one] at hc
      obtain ⟨s, e3, _⟩ := DataW.trod_bool Tryz.underlying4 ht
      obtain ⟨_, hcl, hat⟩ := World.cells?_some hc
      have h0 := hat 0 (by omega)
      subst e3
      exact ⟨s, by rw [← add_plain hsp]; simpa [Addr.add] using h0⟩
    obtain ⟨l, hl2, hp⟩ := list_ofK _ len0 each
    subst hl2
    exact ⟨l, some a, cap0, rfl, hl, fun i s his => ⟨a.block, a.off, by rw [← hsp], hlt, hp i s his⟩⟩
end Go.Proofs.YtgonfcdmaoeboaaGreatDoor
