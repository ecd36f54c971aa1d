/- Contracts of functions on the way to the claim, proved for every input that their hypotheses let by; no condition of the claim. Joined of: K3. -/
import Derived.Deep.Slices
import Derived.Deep.Fields
import Derived.Test.YtjifejbibgimhaaGreatDoorG5
import Derived.Test.YtjifejbibgimhaaGreatDoorG16

/- Slices of strings and of bools, opened. -/
namespace Go.Proofs.YtjifejbibgimhaaGreatDoor
open Go.ChangeShapes Go.WideShapes Go.ChangeAt Go.RowKit Go.Joins Go.Deep

theorem list_of {α : Type} (P : Nat → α → Prop) : ∀ n, (∀ i, i < n → ∃ x, P i x) → ∃ l : List α, l.length = n ∧ ∀ i x, l[i]? = some x → P i x
  | 0, _ => ⟨[], rfl, fun i x h => by cases h⟩
  | n + 1, h => by
    obtain ⟨l, hl, hp⟩ := list_of P n (fun i hi => h i (by omega))
    obtain ⟨x, hx⟩ := h n (by omega)
    refine ⟨l ++ [x], by simp [hl], fun i y hy => ?_⟩
    by_cases hi : i < l.length
    · rw [List.getElem?_append_left hi] at hy; exact hp i y hy
    · rw [List.getElem?_append_right (by omega)] at hy
      have h0 : i - l.length = 0 := by
        cases hk : i - l.length with
        | zero => rfl
        | succ k => rw [hk] at hy; simp at hy
      rw [h0] at hy
      simp at hy
      have : i = n := by omega
      rw [this, ← hy]; exact hx
theorem cell_lt1 {w : World} {a : Addr} {v : Value} (h : w.cell? a = some v) : a.block < w.heap.size := by
  unfold World.cell? at h
  split at h
  · rename_i hh; exact (Array.getElem?_eq_some_iff.1 hh).1
  · cases h
theorem add_blk (a : Addr) (j : Nat) : (a.add j).block = a.block := by unfold Addr.add; split <;> rfl

set_option maxRecDepth 100000 in
theorem open_strs {H : Type} {enc : TypeId × Value → H} {W : World} {v : Value} {d : DataW H} {ps : List MemPlace} {r : Reach} {b0 : Nat} (hv : Value.okWide Tryz.prog W r b0 22 v)
    (h : DataW.Trod enc Tryz.prog W 0 (fun _ => true) true 22 v d ps) : ∃ l, StrsIs W v l := by
  obtain ⟨ao, len0, cap0, rfl⟩ := okWide_slice Tryz.underlying22 hv
  obtain ⟨fuel, hf⟩ := h
  rcases open_slice Tryz.underlying22 hf with ⟨hcs, _⟩ | ⟨a, len, cap, m, n, D, Pl, hcs, _, hl, hm, hmm, _, hi⟩
  · simp [Value.cells] at hcs
    obtain ⟨rfl, rfl, rfl⟩ := hcs
    exact ⟨[], none, 0, rfl, Nat.le_refl _, by omega, fun i s h => by cases h⟩
  · simp [Value.cells] at hcs
    obtain ⟨rfl, rfl, rfl⟩ := hcs
    have each : ∀ i, i < len0 → ∃ s : List UInt8, s.length ≤ 9223372036854775807 ∧ W.cell? (a.add i) = some (.string (str s)) := by
      intro i him
      have hmi : i < m := by rw [hmm]; simp; omega
      obtain ⟨cs, hc, ht⟩ := hi i hmi
      have hC : Tryz.prog.cellsOf 9 = 1 := by kernel_rfl
      rw [hC, Nat.mul_one] at hc
      obtain ⟨s, e3, _, ws⟩ := DataW.trod_string Tryz.underlying9 ht
      obtain ⟨_, hcl, hat⟩ := World.cells?_some hc
      have h0 := hat 0 (by omega)
      obtain ⟨l, rfl⟩ := str_surj s
      rw [str_size] at ws
      subst e3
      exact ⟨l, by unfold maxLen at ws; omega, by simpa [Addr.add] using h0⟩
    obtain ⟨l, hl2, hp⟩ := list_of _ len0 each
    subst hl2
    exact ⟨l, some a, cap0, rfl, hl, by unfold maxLen at hm; omega, fun i s his => ⟨(hp i s his).1, a, rfl, by have := cell_lt1 (hp i s his).2; rwa [add_blk] at this, (hp i s his).2⟩⟩

set_option maxRecDepth 100000 in
theorem open_bools {H : Type} {enc : TypeId × Value → H} {W : World} {v : Value} {d : DataW H} {ps : List MemPlace} {r : Reach} {b0 : Nat} (hv : Value.okWide Tryz.prog W r b0 23 v)
    (h : DataW.Trod enc Tryz.prog W 0 (fun _ => true) true 23 v d ps) : ∃ l, BoolsIs W v l := by
  obtain ⟨ao, len0, cap0, rfl⟩ := okWide_slice Tryz.underlying23 hv
  obtain ⟨fuel, hf⟩ := h
  rcases open_slice Tryz.underlying23 hf with ⟨hcs, _⟩ | ⟨a, len, cap, m, n, D, Pl, hcs, _, hl, hm, hmm, _, hi⟩
  · simp [Value.cells] at hcs
    obtain ⟨rfl, rfl, rfl⟩ := hcs
    exact ⟨[], none, 0, rfl, Nat.le_refl _, by omega, fun i s h => by cases h⟩
  · simp [Value.cells] at hcs
    obtain ⟨rfl, rfl, rfl⟩ := hcs
    have each : ∀ i, i < len0 → ∃ s : Bool, W.cell? (a.add i) = some (.bool s) := by
      intro i him
      have hmi : i < m := by rw [hmm]; simp; omega
      obtain ⟨cs, hc, ht⟩ := hi i hmi
      have hC : Tryz.prog.cellsOf 4 = 1 := by kernel_rfl
      rw [hC, Nat.mul_one] at hc
      obtain ⟨s, e3, _⟩ := DataW.trod_bool Tryz.underlying4 ht
      obtain ⟨_, hcl, hat⟩ := World.cells?_some hc
      have h0 := hat 0 (by omega)
      subst e3
      exact ⟨s, by simpa [Addr.add] using h0⟩
    obtain ⟨l, hl2, hp⟩ := list_of _ len0 each
    subst hl2
    exact ⟨l, some a, cap0, rfl, hl, by unfold maxLen at hm; omega, fun i s his => ⟨a, rfl, by have := cell_lt1 (hp i s his); rwa [add_blk] at this, hp i s his⟩⟩
end Go.Proofs.YtjifejbibgimhaaGreatDoor
