/- Contracts of functions on the way to the claim, proved for every input that their hypotheses let by; no condition of the claim. Joined of: K5. -/
import Derived.Deep.Slices
import Derived.Deep.Fields
import Derived.Test.YtgonfcdmaoeboaaGreatDoorG5
import Derived.Test.YtgonfcdmaoeboaaGreatDoorG19

/- Parameters opened: the kit's words joined (a field of a struct in a slice, a slice at a plain address), slices of packets, ports, slices of bools. -/
namespace Go.Proofs.YtgonfcdmaoeboaaGreatDoor
open Go.ChangeShapes Go.WideShapes Go.ChangeAt Go.RowKit Go.Joins Go.Deep

theorem list_ofK {α : Type} (P : Nat → α → Prop) : ∀ n, (∀ i, i < n → ∃ x, P i x) → ∃ l : List α, l.length = n ∧ ∀ i x, l[i]? = some x → P i x
  | 0, _ => ⟨[], rfl, fun i x h => by cases h⟩
  | n + 1, h => by
    obtain ⟨l, hl, hp⟩ := list_ofK P n (fun i hi => h i (by omega))
    obtain ⟨x, hx⟩ := h n (by omega)
    refine ⟨l ++ [x], by simp [hl], fun i y hy => ?_⟩
    by_cases hi : i < l.length
    · rw [List.getElem?_append_left hi] at hy; exact hp i y hy
    · rw [List.getElem?_append_right (by omega)] at hy
      have h0 : i - l.length = 0 := by
        cases hk : i - l.length with
        | zero => rfl
        | succ k => rw [hk] at hy; simp at hy
      rw [h0] at hy
      simp at hy
      have : i = n := by omega
      rw [this, ← hy]; exact hx
theorem slice_plainK {P : Program} {W : World} {r : Reach} {b0 : Nat} {t e : TypeId} {a : Addr} {len cap : Nat} (ht : P.underlying t = some (.slice e)) (h : Cell.okWide P W r b0 t (.slice (some a) len cap)) : a.spot = none ∧ a.block < W.heap.size := by
  simp only [Cell.okWide, ht, Cell.ok] at h
  obtain ⟨_, _, _, h2, row, cells, h3, _⟩ := h
  refine ⟨h2, ?_⟩
  unfold World.shape? at h3
  split at h3
  · rename_i hh; exact (Array.getElem?_eq_some_iff.1 hh).1
  · cases h3
theorem cell_okWideK {P : Program} {W : World} {r : Reach} {b0 : Nat} {t u : TypeId} {fs : Array Field} {cs : Array Value} {ts : List TypeId} (h : Value.okWide P W r b0 t (.agg cs)) (ht : P.underlying t = some (.struct fs)) (hct : P.cellTypes P.depth t = some ts)
    {i : Nat} {v : Value} (hi : cs[i]? = some v) (hu : ts[i % ts.length]? = some u) : Cell.okWide P W r b0 u v := by
  simp only [Value.okWide, ht] at h
  obtain ⟨cs', hcs, _, ts', hts, _, hall⟩ := h
  cases hcs
  rw [hct] at hts
  cases hts
  obtain ⟨u', hu', hc⟩ := hall i v hi
  rw [hu] at hu'
  cases hu'
  exact hc
theorem field_ofK {H : Type} {enc : TypeId × Value → H} {P : Program} {w : World} {base : Nat} {spare : Nat → Bool} {held : Bool} {e : TypeId} {fs : Array Field} {n : Nat} {cs : List Value} {x : DataW H × List MemPlace} {a : Addr}
    (he : P.underlying e = some (.struct fs)) (hone : oneCellFields P fs = true) (hC : P.cellsOf e = fs.size) (hc : w.cells? base a (P.cellsOf e) = some cs) (h : DataW.trod enc P w base spare held n e cs = some x)
    {j : Nat} {f : Field} (hj : fs[j]? = some f) : ∃ v y m, w.cell? (a.add j) = some v ∧ DataW.trod enc P w base spare held m f.type [v] = some y := by
  obtain ⟨ys, m, _, _, hlen, _, hf⟩ := DataW.trod_struct he h
  obtain ⟨_, hcl, hat⟩ := World.cells?_some hc
  obtain ⟨ho, hk⟩ := hone_of hone j f hj
  have hjl : j < fs.size := (Array.getElem?_eq_some_iff.1 hj).1
  have hjc : j < cs.length := by omega
  have hcell := hat j (by omega)
  rw [List.getElem?_eq_getElem hjc] at hcell
  have h1 := hf j f hj
  rw [ho, hk, show (cs.drop j).take 1 = [cs[j]] by rw [List.drop_eq_getElem_cons hjc]; rfl] at h1
  cases hy : ys[j]? with
  | none => rw [List.getElem?_eq_none_iff] at hy; omega
  | some y => rw [hy] at h1; exact ⟨_, y, m, hcell, h1⟩
theorem add_plain {a : Addr} (h : a.spot = none) (j : Nat) : a.add j = ⟨a.block, a.off + j, none⟩ := by
  unfold Addr.add
  split
  · rename_i h0; subst h0; rw [← h]; rfl
  · rfl

set_option maxRecDepth 100000 in
theorem pks_of {H : Type} {enc : TypeId × Value → H} {W : World} {v : Value} {fuel : Nat} {y : DataW H × List MemPlace} {r : Reach} {b0 : Nat} (hv : Cell.okWide Tryz.prog W r b0 23 v)
    (hf : DataW.trod enc Tryz.prog W 0 (fun _ => true) true fuel 23 [v] = some y) : ∃ l : List Pk, SeesP W v l ∧ l.length ≤ 9223372036854775807 ∧ ∀ p ∈ l, p.1.length ≤ 9223372036854775807 ∧ p.2.length ≤ 9223372036854775807 := by
  rcases open_slice Tryz.underlying23 hf with ⟨hcs, _⟩ | ⟨a, len, cap, m, n, D, Pl, hcs, _, hl, hm, hmm, _, hi⟩
  · simp at hcs
    subst hcs
    exact ⟨[], Sees.nil _ _, by simp, by simp⟩
  · simp at hcs
    subst hcs
    obtain ⟨hsp, hlt⟩ := slice_plainK Tryz.underlying23 hv
    have each : ∀ i, i < len → ∃ p : Pk, (p.1.length ≤ 9223372036854775807 ∧ p.2.length ≤ 9223372036854775807) ∧ W.cell? ⟨a.block, a.off + i * 2, none⟩ = some (sv p.1) ∧ W.cell? ⟨a.block, a.off + i * 2 + 1, none⟩ = some (sv p.2) := by
      intro i him
      have hmi : i < m := by rw [hmm]; simp; omega
      obtain ⟨cs, hc, ht⟩ := hi i hmi
      have hC : Tryz.prog.cellsOf 48 = 2 := by kernel_rfl
      rw [show a.add (i * Tryz.prog.cellsOf 48) = ⟨a.block, a.off + i * 2, none⟩ by rw [hC, add_plain hsp]] at hc
      obtain ⟨v0, y0, m0, c0, t0⟩ := field_ofK Tryz.underlying48 (by kernel_rfl) (by kernel_rfl) hc ht (j := 0) rfl
      obtain ⟨v1, y1, m1, c1, t1⟩ := field_ofK Tryz.underlying48 (by kernel_rfl) (by kernel_rfl) hc ht (j := 1) rfl
      obtain ⟨s0, e0, _, w0⟩ := DataW.trod_string Tryz.underlying9 t0
      obtain ⟨s1, e1, _, w1⟩ := DataW.trod_string Tryz.underlying9 t1
      simp at e0 e1
      subst e0 e1
      obtain ⟨l0, rfl⟩ := str_surj s0
      obtain ⟨l1, rfl⟩ := str_surj s1
      rw [str_size] at w0 w1
      rw [add_plain rfl] at c0 c1
      exact ⟨(l0, l1), ⟨by unfold maxLen at w0; simp only; omega, by unfold maxLen at w1; simp only; omega⟩, c0, c1⟩
    obtain ⟨l, hl2, hp⟩ := list_ofK _ len each
    subst hl2
    refine ⟨l, ⟨pkCells_len l, some a, cap, rfl, hl, .inr ⟨a.block, a.off, by rw [← hsp], hlt, ?_⟩⟩, by unfold maxLen at hm; omega, fun p hp' => ?_⟩
    · intro j u hj
      have hjl : j < l.length * 2 := by rw [← pkCells_len]; exact (List.getElem?_eq_some_iff.1 hj).1
      obtain ⟨p, hpj⟩ : ∃ p, l[j / 2]? = some p := ⟨_, List.getElem?_eq_getElem (by omega)⟩
      obtain ⟨g0, g1⟩ := pkCells_at l (j / 2) p hpj
      obtain ⟨_, k0, k1⟩ := hp (j / 2) p hpj
      have hcase : j = j / 2 * 2 ∨ j = j / 2 * 2 + 1 := by omega
      rcases hcase with h | h
      · rw [← h] at g0; rw [g0] at hj; cases hj; rw [show a.off + j = a.off + j / 2 * 2 by omega]; exact k0
      · rw [← h] at g1; rw [g1] at hj; cases hj; rw [show a.off + j = a.off + j / 2 * 2 + 1 by omega]; exact k1
    · obtain ⟨i, hi, rfl⟩ := List.getElem_of_mem hp'
      exact (hp i _ (List.getElem?_eq_getElem hi)).1
set_option maxRecDepth 100000 in
theorem open_pks {H : Type} {enc : TypeId × Value → H} {W : World} {v : Value} {d : DataW H} {ps : List MemPlace} {r : Reach} {b0 : Nat} (hv : Value.okWide Tryz.prog W r b0 23 v)
    (h : DataW.Trod enc Tryz.prog W 0 (fun _ => true) true 23 v d ps) : ∃ l : List Pk, SeesP W v l ∧ l.length ≤ 9223372036854775807 ∧ ∀ p ∈ l, p.1.length ≤ 9223372036854775807 ∧ p.2.length ≤ 9223372036854775807 := by
  obtain ⟨ao, len0, cap0, rfl⟩ := okWide_slice Tryz.underlying23 hv
  obtain ⟨fuel, hf⟩ := h
  exact pks_of (by simpa [Value.okWide, Tryz.underlying23] using hv) hf
set_option maxRecDepth 100000 in
theorem open_port {H : Type} {enc : TypeId × Value → H} {W : World} {v : Value} {d : DataW H} {ps : List MemPlace} {r : Reach} {b0 : Nat} (hv : Value.okWide Tryz.prog W r b0 25 v)
    (h : DataW.Trod enc Tryz.prog W 0 (fun _ => true) true 25 v d ps) : ∃ (own : List UInt8) (ep lost : Int) (qv : Value) (l : List Pk), v = portV own ep lost qv ∧ SeesP W qv l ∧ own.length ≤ 9223372036854775807 ∧ l.length ≤ 9223372036854775807 ∧ ∀ p ∈ l, p.1.length ≤ 9223372036854775807 ∧ p.2.length ≤ 9223372036854775807 := by
  obtain ⟨c0, c1, c2, c3, y0, y1, y2, y3, n, rfl, _, _, h0, h1, h2, h3⟩ := open_agg4 Tryz.underlying25 (by kernel_rfl) (by kernel_rfl) hv h
  have hc := cell_okWideK (i := 3) (u := 23) hv Tryz.underlying25 (ts := [22, 3, 3, 23]) (by kernel_rfl) rfl rfl
  obtain ⟨s0, e0, _, w0⟩ := DataW.trod_string Tryz.underlying22 h0
  obtain ⟨e, e1, _, _⟩ := DataW.trod_int Tryz.underlying3 h1
  obtain ⟨lo, e2, _, _⟩ := DataW.trod_int Tryz.underlying3 h2
  obtain ⟨l, hl, hll, hls⟩ := pks_of hc h3
  simp at e0 e1 e2
  subst e0 e1 e2
  obtain ⟨a, rfl⟩ := str_surj s0
  rw [str_size] at w0
  exact ⟨a, e, lo, c3, l, rfl, hl, by unfold maxLen at w0; omega, hll, hls⟩
end Go.Proofs.YtgonfcdmaoeboaaGreatDoor
