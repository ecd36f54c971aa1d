/- Contracts of functions on the way to the claim, proved for every input that their hypotheses let by; no condition of the claim. Joined of: K3 K4. -/
import Derived.Deep.Slices
import Derived.Deep.Fields
import Derived.Test.YtjifejbibgimhaaGreatDoorG5
import Derived.Test.YtjifejbibgimhaaGreatDoorG16
import Derived.Test.YtjifejbibgimhaaGreatDoorG13

/- Slices of strings and of bools, opened. -/
namespace Go.Proofs.YtjifejbibgimhaaGreatDoor
open Go.ChangeShapes Go.WideShapes Go.ChangeAt Go.RowKit Go.Joins Go.Deep

theorem list_of {α : Type} (P : Nat → α → Prop) : ∀ n, (∀ i, i < n → ∃ x, P i x) → ∃ l : List α, l.length = n ∧ ∀ i x, l[i]? = some x → P i x
  | 0, _ => ⟨[], rfl, fun i x h => by cases h⟩
  | n + 1, h => by
    obtain ⟨l, hl, hp⟩ := list_of P n (fun i hi => h i (by omega))
    obtain ⟨x, hx⟩ := h n (by omega)
    refine ⟨l ++ [x], by simp [hl], fun i y hy => ?_⟩
    by_cases hi : i < l.length
    · rw [List.getElem?_append_left hi] at hy; exact hp i y hy
    · rw [List.getElem?_append_right (by omega)] at hy
      have h0 : i - l.length = 0 := by
        cases hk : i - l.length with
        | zero => rfl
        | succ k => rw [hk] at hy; simp at hy
      rw [h0] at hy
      simp at hy
      have : i = n := by omega
      rw [this, ← hy]; exact hx
theorem cell_lt1 {w : World} {a : Addr} {v : Value} (h : w.cell? a = some v) : a.block < w.heap.size := by
  unfold World.cell? at h
  split at h
  · rename_i hh; exact (Array.getElem?_eq_some_iff.1 hh).1
  · cases h
theorem add_blk (a : Addr) (j : Nat) : (a.add j).block = a.block := by unfold Addr.add; split <;> rfl

set_option maxRecDepth 100000 in
theorem open_strs {H : Type} {enc : TypeId × Value → H} {W : World} {v : Value} {d : DataW H} {ps : List MemPlace} {r : Reach} {b0 : Nat} (hv : Value.okWide Tryz.prog W r b0 22 v)
    (h : DataW.Trod enc Tryz.prog W 0 (fun _ => true) true 22 v d ps) : ∃ l, StrsIs W v l := by
  obtain ⟨ao, len0, cap0, rfl⟩ := okWide_slice Tryz.underlying22 hv
  obtain ⟨fuel, hf⟩ := h
  rcases open_slice Tryz.underlying22 hf with ⟨hcs, _⟩ | ⟨a, len, cap, m, n, D, Pl, hcs, _, hl, hm, hmm, _, hi⟩
  · simp [Value.cells] at hcs
    obtain ⟨rfl, rfl, rfl⟩ := hcs
    exact ⟨[], none, 0, rfl, Nat.le_refl _, by omega, fun i s h => by cases h⟩
  · simp [Value.cells] at hcs
    obtain ⟨rfl, rfl, rfl⟩ := hcs
    have each : ∀ i, i < len0 → ∃ s : List UInt8, s.length ≤ 9223372036854775807 ∧ W.cell? (a.add i) = some (.string (str s)) := by
      intro i him
      have hmi : i < m := by rw [hmm]; simp; omega
      obtain ⟨cs, hc, ht⟩ := hi i hmi
      have hC : Tryz.prog.cellsOf 9 = 1 := by kernel_rfl
      rw [hC, Nat.mul_one] at hc
      obtain ⟨s, e3, _, ws⟩ := DataW.trod_string Tryz.underlying9 ht
      obtain ⟨_, hcl, hat⟩ := World.cells?_some hc
      have h0 := hat 0 (by omega)
      obtain ⟨l, rfl⟩ := str_surj s
      rw [str_size] at ws
      subst e3
      exact ⟨l, by unfold maxLen at ws; omega, by simpa [Addr.add] using h0⟩
    obtain ⟨l, hl2, hp⟩ := list_of _ len0 each
    subst hl2
    exact ⟨l, some a, cap0, rfl, hl, by unfold maxLen at hm; omega, fun i s his => ⟨(hp i s his).1, a, rfl, by have := cell_lt1 (hp i s his).2; rwa [add_blk] at this, (hp i s his).2⟩⟩

set_option maxRecDepth 100000 in
theorem open_bools {H : Type} {enc : TypeId × Value → H} {W : World} {v : Value} {d : DataW H} {ps : List MemPlace} {r : Reach} {b0 : Nat} (hv : Value.okWide Tryz.prog W r b0 23 v)
    (h : DataW.Trod enc Tryz.prog W 0 (fun _ => true) true 23 v d ps) : ∃ l, BoolsIs W v l := by
  obtain ⟨ao, len0, cap0, rfl⟩ := okWide_slice Tryz.underlying23 hv
  obtain ⟨fuel, hf⟩ := h
  rcases open_slice Tryz.underlying23 hf with ⟨hcs, _⟩ | ⟨a, len, cap, m, n, D, Pl, hcs, _, hl, hm, hmm, _, hi⟩
  · simp [Value.cells] at hcs
    obtain ⟨rfl, rfl, rfl⟩ := hcs
    exact ⟨[], none, 0, rfl, Nat.le_refl _, by omega, fun i s h => by cases h⟩
  · simp [Value.cells] at hcs
    obtain ⟨rfl, rfl, rfl⟩ := hcs
    have each : ∀ i, i < len0 → ∃ s : Bool, W.cell? (a.add i) = some (.bool s) := by
      intro i him
      have hmi : i < m := by rw [hmm]; simp; omega
      obtain ⟨cs, hc, ht⟩ := hi i hmi
      have hC : Tryz.prog.cellsOf 4 = 1 := by kernel_rfl
      rw [hC, Nat.mul_one] at hc
      obtain ⟨s, e3, _⟩ := DataW.trod_bool Tryz.underlying4 ht
      obtain ⟨_, hcl, hat⟩ := World.cells?_some hc
      have h0 := hat 0 (by omega)
      subst e3
      exact ⟨s, by simpa [Addr.add] using h0⟩
    obtain ⟨l, hl2, hp⟩ := list_of _ len0 each
    subst hl2
    exact ⟨l, some a, cap0, rfl, hl, by unfold maxLen at hm; omega, fun i s his => ⟨a, rfl, by have := cell_lt1 (hp i s his); rwa [add_blk] at this, hp i s his⟩⟩
end Go.Proofs.YtjifejbibgimhaaGreatDoor

/- Structs with a slice of strings, opened. -/
namespace Go.Proofs.YtjifejbibgimhaaGreatDoor
open Go.ChangeShapes Go.WideShapes Go.ChangeAt Go.RowKit Go.Joins Go.Deep

/-- a slice that came in lies at a plain address -/
theorem slice_plain {P : Program} {W : World} {r : Reach} {b0 : Nat} {t e : TypeId} {a : Addr} {len cap : Nat} (ht : P.underlying t = some (.slice e)) (h : Cell.okWide P W r b0 t (.slice (some a) len cap)) : a.spot = none ∧ a.block < W.heap.size := by
  simp only [Cell.okWide, ht, Cell.ok] at h
  obtain ⟨_, _, _, h2, row, cells, h3, _⟩ := h
  refine ⟨h2, ?_⟩
  unfold World.shape? at h3
  split at h3
  · rename_i hh; exact (Array.getElem?_eq_some_iff.1 hh).1
  · cases h3
theorem cell_okWide {P : Program} {W : World} {r : Reach} {b0 : Nat} {t u : TypeId} {fs : Array Field} {cs : Array Value} {ts : List TypeId} (h : Value.okWide P W r b0 t (.agg cs)) (ht : P.underlying t = some (.struct fs)) (hct : P.cellTypes P.depth t = some ts)
    {i : Nat} {v : Value} (hi : cs[i]? = some v) (hu : ts[i % ts.length]? = some u) : Cell.okWide P W r b0 u v := by
  simp only [Value.okWide, ht] at h
  obtain ⟨cs', hcs, _, ts', hts, _, hall⟩ := h
  cases hcs
  rw [hct] at hts
  cases hts
  obtain ⟨u', hu', hc⟩ := hall i v hi
  rw [hu] at hu'
  cases hu'
  exact hc

set_option maxRecDepth 100000 in
theorem strs_of {H : Type} {enc : TypeId × Value → H} {W : World} {v : Value} {fuel : Nat} {y : DataW H × List MemPlace} {r : Reach} {b0 : Nat} (hv : Cell.okWide Tryz.prog W r b0 22 v)
    (hf : DataW.trod enc Tryz.prog W 0 (fun _ => true) true fuel 22 [v] = some y) : ∃ l : List (List UInt8), Sees W 1 v l.length (l.map sv) ∧ l.length ≤ 9223372036854775807 ∧ ∀ s ∈ l, s.length ≤ 9223372036854775807 := by
  rcases open_slice Tryz.underlying22 hf with ⟨hcs, _⟩ | ⟨a, len, cap, m, n, D, Pl, hcs, _, hl, hm, hmm, _, hi⟩
  · simp at hcs
    subst hcs
    exact ⟨[], Sees.nil _ _, by simp, by simp⟩
  · simp at hcs
    subst hcs
    obtain ⟨hsp, hlt⟩ := slice_plain Tryz.underlying22 hv
    have each : ∀ i, i < len → ∃ s : List UInt8, s.length ≤ 9223372036854775807 ∧ W.cell? (a.add i) = some (.string (str s)) := by
      intro i him
      have hmi : i < m := by rw [hmm]; simp; omega
      obtain ⟨cs, hc, ht⟩ := hi i hmi
      have hC : Tryz.prog.cellsOf 9 = 1 := by kernel_rfl
      rw [hC, Nat.mul_one] at hc
      obtain ⟨s, e3, _, ws⟩ := DataW.trod_string Tryz.underlying9 ht
      obtain ⟨_, hcl, hat⟩ := World.cells?_some hc
      have h0 := hat 0 (by omega)
      obtain ⟨l, rfl⟩ := str_surj s
      rw [str_size] at ws
      subst e3
      exact ⟨l, by unfold maxLen at ws; omega, by simpa [Addr.add] using h0⟩
    obtain ⟨l, hl2, hp⟩ := list_of _ len each
    subst hl2
    refine ⟨l, ⟨by simp, some a, cap, rfl, hl, .inr ⟨a.block, a.off, ?_, hlt, ?_⟩⟩, by unfold maxLen at hm; omega, fun s hs => ?_⟩
    · rw [← hsp]
    · intro j u hj
      rw [List.getElem?_map] at hj
      cases hlj : l[j]? with
      | none => rw [hlj] at hj; cases hj
      | some s =>
        rw [hlj] at hj
        cases hj
        have h0 := (hp j s hlj).2
        have he : a.add j = ⟨a.block, a.off + j, none⟩ := by
          unfold Addr.add
          split
          · rename_i h0; subst h0; rw [← hsp]; rfl
          · rfl
        rw [he] at h0
        exact h0
    · obtain ⟨i, hi, rfl⟩ := List.getElem_of_mem hs
      exact (hp i _ (List.getElem?_eq_getElem hi)).1

set_option maxRecDepth 100000 in
theorem open_refT {H : Type} {enc : TypeId × Value → H} {W : World} {v : Value} {d : DataW H} {ps : List MemPlace} {r : Reach} {b0 : Nat} (hv : Value.okWide Tryz.prog W r b0 44 v)
    (h : DataW.Trod enc Tryz.prog W 0 (fun _ => true) true 44 v d ps) : ∃ (e : Int) (ses : List UInt8) (tv : Value) (l : List (List UInt8)) (scr : List UInt8), v = termV e ses tv scr ∧ Sees W 1 tv l.length (l.map sv) ∧ ses.length ≤ 9223372036854775807 ∧ scr.length ≤ 9223372036854775807 ∧ l.length ≤ 9223372036854775807 ∧ ∀ s ∈ l, s.length ≤ 9223372036854775807 := by
  obtain ⟨c0, c1, c2, c3, y0, y1, y2, y3, n, rfl, _, _, h0, h1, h2, h3⟩ := open_agg4 Tryz.underlying44 (by kernel_rfl) (by kernel_rfl) hv h
  have hc := cell_okWide (i := 2) (u := 22) hv Tryz.underlying44 (ts := [3, 9, 22, 9]) (by kernel_rfl) rfl rfl
  obtain ⟨e, e0, _, _⟩ := DataW.trod_int Tryz.underlying3 h0
  obtain ⟨s1, e1, _, w1⟩ := DataW.trod_string Tryz.underlying9 h1
  obtain ⟨s3, e3, _, w3⟩ := DataW.trod_string Tryz.underlying9 h3
  obtain ⟨l, hl, hll, hls⟩ := strs_of hc h2
  simp at e0 e1 e3
  subst e0 e1 e3
  obtain ⟨a, rfl⟩ := str_surj s1
  obtain ⟨b, rfl⟩ := str_surj s3
  rw [str_size] at w1 w3
  exact ⟨e, a, c2, l, b, rfl, hl, by unfold maxLen at w1; omega, by unfold maxLen at w3; omega, hll, hls⟩
end Go.Proofs.YtjifejbibgimhaaGreatDoor
