/- Contracts of functions on the way to the claim, proved for every input that their hypotheses let by; no condition of the claim. Joined of: R1. -/
import Derived.Test.YtgonfcdmaoeboaaGreatDoorG14
import Derived.Test.YtgonfcdmaoeboaaGreatDoorG1

/- Plain: terminals as values: what Check, Encode, Decode say. No program here. -/
namespace Go.Proofs.YtgonfcdmaoeboaaGreatDoor
open Go.RowKit

/-- a text with its length before it -/
def txt (s : List UInt8) : List UInt8 := natBytes s.length ++ s
def flat (l : List (List UInt8)) : List UInt8 := l.flatMap txt
theorem flat_cons (s : List UInt8) (l : List (List UInt8)) : flat (s :: l) = txt s ++ flat l := rfl
theorem flat_append (a b : List (List UInt8)) : flat (a ++ b) = flat a ++ flat b := by simp [flat]
theorem rdTxt_enc {most : Nat} (t rest : List UInt8) (h : t.length ≤ most) (h2 : t.length ≤ 16777216) : rdText most (txt t ++ rest) 0 = (t, rest, 0) := rdText_enc t rest h h2
theorem rdTxt_ok {most : Nat} {rest : List UInt8} {f : Nat} (h : (rdText most rest f).2.2 = 0) : f = 0 ∧ rest = txt (rdText most rest f).1 ++ (rdText most rest f).2.1 ∧ (rdText most rest f).1.length ≤ most := rdText_ok h

/-- k texts, one after another -/
def rdTexts (most : Nat) : Nat → List UInt8 → Nat → List (List UInt8) × List UInt8 × Nat
  | 0, rest, f => ([], rest, f)
  | k + 1, rest, f => ((rdTexts most k rest f).1 ++ [(rdText most (rdTexts most k rest f).2.1 (rdTexts most k rest f).2.2).1], (rdText most (rdTexts most k rest f).2.1 (rdTexts most k rest f).2.2).2.1, (rdText most (rdTexts most k rest f).2.1 (rdTexts most k rest f).2.2).2.2)
theorem rdTexts_len (most : Nat) : ∀ k rest f, (rdTexts most k rest f).1.length = k
  | 0, _, _ => rfl
  | k + 1, rest, f => by simp [rdTexts, rdTexts_len most k rest f]
theorem rdTexts_ok {most : Nat} : ∀ {k : Nat} {rest : List UInt8} {f : Nat}, (rdTexts most k rest f).2.2 = 0 → f = 0 ∧ rest = flat (rdTexts most k rest f).1 ++ (rdTexts most k rest f).2.1 ∧ ∀ s ∈ (rdTexts most k rest f).1, s.length ≤ most
  | 0, rest, f, h => ⟨h, by simp [rdTexts, flat], by simp [rdTexts]⟩
  | k + 1, rest, f, h => by
    obtain ⟨h1, h2, h3⟩ := rdTxt_ok (show (rdText most (rdTexts most k rest f).2.1 (rdTexts most k rest f).2.2).2.2 = 0 from h)
    obtain ⟨g1, g2, g3⟩ := rdTexts_ok (k := k) (rest := rest) (f := f) h1
    refine ⟨g1, ?_, ?_⟩
    · show rest = flat ((rdTexts most k rest f).1 ++ [_]) ++ _
      rw [flat_append, List.append_assoc]
      have e : flat [(rdText most (rdTexts most k rest f).2.1 (rdTexts most k rest f).2.2).1] = txt (rdText most (rdTexts most k rest f).2.1 (rdTexts most k rest f).2.2).1 := by simp [flat]
      rw [e]
      show rest = flat (rdTexts most k rest f).1 ++ (txt (rdText most (rdTexts most k rest f).2.1 (rdTexts most k rest f).2.2).1 ++ (rdText most (rdTexts most k rest f).2.1 (rdTexts most k rest f).2.2).2.1)
      rw [← h2]
      exact g2
    · intro s hs
      have hs' : s ∈ (rdTexts most k rest f).1 ++ [(rdText most (rdTexts most k rest f).2.1 (rdTexts most k rest f).2.2).1] := hs
      rcases List.mem_append.1 hs' with hs' | hs'
      · exact g3 s hs'
      · simp at hs'; rw [hs']; exact h3
theorem rdTexts_enc {most : Nat} (hm : most ≤ 16777216) (l : List (List UInt8)) (rest : List UInt8) (hl : ∀ s ∈ l, s.length ≤ most) : ∀ k, k ≤ l.length → rdTexts most k (flat l ++ rest) 0 = (l.take k, flat (l.drop k) ++ rest, 0)
  | 0, _ => by simp [rdTexts]
  | k + 1, hk => by
    have ih := rdTexts_enc hm l rest hl k (by omega)
    have hd : l.drop k = l[k] :: l.drop (k + 1) := List.drop_eq_getElem_cons (by omega)
    have ht : l.take (k + 1) = l.take k ++ [l[k]] := by rw [List.take_succ_eq_append_getElem (by omega)]
    have hmem : l[k] ∈ l := List.getElem_mem _
    have hx := hl _ hmem
    simp only [rdTexts, ih]
    rw [hd, flat_cons, List.append_assoc, rdTxt_enc _ _ hx (by omega), ht]

/-- may the byte not stand in a line? -/
def oddB (b : UInt8) : Bool := decide (b.toNat < 32) || decide (b.toNat = 127)
def lineE (s : List UInt8) : Nat := if 1024 < s.length then 5 else if s.any oddB = true then 6 else 0
def linesE : List (List UInt8) → Nat
  | [] => 0
  | s :: l => if lineE s = 0 then linesE l else lineE s
theorem linesE_ok : ∀ {l : List (List UInt8)}, linesE l = 0 ↔ ∀ s ∈ l, lineE s = 0
  | [] => by simp [linesE]
  | s :: l => by
    unfold linesE
    split
    · rename_i h
      rw [linesE_ok (l := l)]
      simp [h]
    · rename_i h
      simp [h]
theorem lineE_len {s : List UInt8} (h : lineE s = 0) : s.length ≤ 1024 := by
  unfold lineE at h
  split at h
  · cases h
  · omega
/-- the first error of a terminal -/
def termCheck (e : Int) (ses : List UInt8) (ty : List (List UInt8)) (n : Nat) : Nat :=
  if ¬ (0 ≤ e ∧ e ≤ 1073741824) then 2
  else if validName ses = false then 12
  else if 16 < ty.length then 9
  else if linesE ty ≠ 0 then linesE ty
  else if ses = [] ∧ ty ≠ [] then 10
  else if 2048 < n then 5 else 0
theorem termCheck_ok {e : Int} {ses : List UInt8} {ty : List (List UInt8)} {n : Nat} : termCheck e ses ty n = 0 ↔ (0 ≤ e ∧ e ≤ 1073741824) ∧ validName ses = true ∧ ty.length ≤ 16 ∧ linesE ty = 0 ∧ (ses = [] → ty = []) ∧ n ≤ 2048 := by
  unfold termCheck
  by_cases h1 : 0 ≤ e ∧ e ≤ 1073741824
  · rw [if_neg (by simp [h1])]
    by_cases h2 : validName ses = false
    · rw [if_pos h2]; simp [h2]
    · rw [if_neg h2]
      have h2' : validName ses = true := by simpa using h2
      by_cases h3 : 16 < ty.length
      · rw [if_pos h3]; simp; omega
      · rw [if_neg h3]
        by_cases h4 : linesE ty = 0
        · rw [if_neg (by simp [h4])]
          by_cases h5 : ses = [] ∧ ty ≠ []
          · rw [if_pos h5]; exact ⟨fun h => (by cases h), fun ⟨_, _, _, _, h, _⟩ => absurd (h h5.1) h5.2⟩
          · rw [if_neg h5]
            have h5' : ses = [] → ty = [] := fun hs => Classical.byContradiction fun ht => h5 ⟨hs, ht⟩
            by_cases h6 : 2048 < n
            · rw [if_pos h6]; simp; omega
            · rw [if_neg h6]; exact ⟨fun _ => ⟨h1, h2', by omega, h4, h5', by omega⟩, fun _ => rfl⟩
        · rw [if_pos h4]; exact ⟨fun h => absurd h h4, fun h => absurd h.2.2.2.1 h4⟩
  · rw [if_pos h1]; simp [h1]

theorem lineParts_le : ∀ (k a : Nat) (l : List UInt8), okParts (lineParts k a l) → l.length + 1 ≤ 7 * k
  | 0, a, l, h => by
    have := h _ (by simp [lineParts] : partOf 0 a l ∈ lineParts 0 a l)
    simp [partOf, partErr] at this
  | k + 1, a, l, h => by
    have h0 : partErr (k + 1) l = 0 := h _ (by simp [lineParts] : partOf (k + 1) a l ∈ lineParts (k + 1) a l)
    obtain ⟨_, _, _, hd⟩ := partErr_zero h0
    have hdl := digs_le l
    cases hr : l.drop (digs l) with
    | nil =>
      have := congrArg List.length hr
      simp at this
      omega
    | cons c r =>
      have hlen := congrArg List.length hr
      simp at hlen
      by_cases hc : c ≠ 46
      · have := h (0, a + digs l, 6) (by simp [lineParts, h0, hr, hc])
        simp at this
      · have ih := lineParts_le k (a + digs l + 1) r (fun p hp => h p (by simp only [lineParts, h0, hr]; simp [hc, hp]))
        omega
theorem valid_len {l : List UInt8} (h : validName l = true) : l.length ≤ 64 := by
  by_cases hl : l = []
  · simp [hl]
  · have ho : okParts (parts l) := by
      intro p hp
      unfold validName lineErr at h
      rw [Option.isNone_iff_eq_none, List.find?_eq_none] at h
      have := h p hp
      simpa using this
    unfold parts at ho
    rw [if_neg hl] at ho
    have := lineParts_le 8 0 l ho
    omega

def termBytes (e : Int) (ses : List UInt8) (ty : List (List UInt8)) (scr : List UInt8) : List UInt8 := natBytes e.toNat ++ (txt ses ++ (natBytes ty.length ++ (flat ty ++ txt scr)))
def termEnc (e : Int) (ses : List UInt8) (ty : List (List UInt8)) (scr : List UInt8) : List UInt8 := if termCheck e ses ty scr.length = 0 then termBytes e ses ty scr else []
/-- what Decode reads -/
def termRd (bs : List UInt8) : (Nat × List UInt8 × List (List UInt8) × List UInt8) × List UInt8 × Nat :=
  let a := rdNum 1073741824 bs 0
  let b := rdText 64 a.2.1 a.2.2
  let c := rdNum 16 b.2.1 b.2.2
  let d := rdTexts 1024 c.1 c.2.1 c.2.2
  let s := rdText 2048 d.2.1 d.2.2
  ((a.1, b.1, d.1, s.1), s.2.1, s.2.2)
def termDec (bs : List UInt8) : Option (Nat × List UInt8 × List (List UInt8) × List UInt8) :=
  if rdClose (termRd bs).2.1 (termRd bs).2.2 ≠ 0 ∨ termCheck (termRd bs).1.1 (termRd bs).1.2.1 (termRd bs).1.2.2.1 (termRd bs).1.2.2.2.length ≠ 0 then none else some (termRd bs).1
theorem termRd_enc {e : Nat} {ses : List UInt8} {ty : List (List UInt8)} {scr : List UInt8} (h : termCheck e ses ty scr.length = 0) : termRd (termBytes e ses ty scr) = ((e, ses, ty, scr), [], 0) := by
  obtain ⟨h1, h2, h3, h4, h5, h6⟩ := termCheck_ok.1 h
  have hs := valid_len h2
  have hl : ∀ s ∈ ty, s.length ≤ 1024 := fun s hs => lineE_len (linesE_ok.1 h4 s hs)
  have e4 : rdText 2048 (txt scr) 0 = (scr, [], 0) := by
    have := rdTxt_enc (most := 2048) scr [] h6 (by omega)
    rwa [List.append_nil] at this
  unfold termRd termBytes
  rw [Int.toNat_natCast, rdNum_enc _ (by omega) (by omega)]
  simp only
  rw [rdTxt_enc _ _ hs (by omega)]
  simp only
  rw [rdNum_enc _ h3 (by omega)]
  simp only
  rw [rdTexts_enc (by omega) ty _ hl _ (Nat.le_refl _)]
  simp only [List.take_length, List.drop_length, flat, List.flatMap_nil, List.nil_append]
  rw [e4]
theorem termDec_enc {e : Nat} {ses : List UInt8} {ty : List (List UInt8)} {scr : List UInt8} (h : termCheck e ses ty scr.length = 0) : termDec (termBytes e ses ty scr) = some (e, ses, ty, scr) := by
  unfold termDec
  rw [termRd_enc h]
  rw [if_neg (by simp [rdClose, h])]
theorem termRd_ok {bs : List UInt8} (h : rdClose (termRd bs).2.1 (termRd bs).2.2 = 0) : bs = termBytes (termRd bs).1.1 (termRd bs).1.2.1 (termRd bs).1.2.2.1 (termRd bs).1.2.2.2 := by
  obtain ⟨a, ha⟩ : ∃ a, a = rdNum 1073741824 bs 0 := ⟨_, rfl⟩
  obtain ⟨b, hb⟩ : ∃ b, b = rdText 64 a.2.1 a.2.2 := ⟨_, rfl⟩
  obtain ⟨c, hc⟩ : ∃ c, c = rdNum 16 b.2.1 b.2.2 := ⟨_, rfl⟩
  obtain ⟨d, hd⟩ : ∃ d, d = rdTexts 1024 c.1 c.2.1 c.2.2 := ⟨_, rfl⟩
  obtain ⟨s, hs⟩ : ∃ s, s = rdText 2048 d.2.1 d.2.2 := ⟨_, rfl⟩
  have hr : termRd bs = ((a.1, b.1, d.1, s.1), s.2.1, s.2.2) := by unfold termRd; simp only [hs, hd, hc, hb, ha]
  rw [hr] at h ⊢
  simp only at h ⊢
  obtain ⟨q1, q2⟩ := rdClose_ok h
  rw [hs] at q1
  obtain ⟨p1, p2, _⟩ := rdTxt_ok q1
  rw [hd] at p1
  obtain ⟨o1, o2, _⟩ := rdTexts_ok p1
  rw [hc] at o1
  obtain ⟨n1, n2, _⟩ := rdNum_ok o1
  rw [hb] at n1
  obtain ⟨m1, m2, _⟩ := rdTxt_ok n1
  rw [ha] at m1
  obtain ⟨l1, l2, _⟩ := rdNum_ok m1
  rw [← ha] at l2
  rw [← hb] at m2
  rw [← hc] at n2
  rw [← hd] at o2
  rw [← hs, q2, List.append_nil] at p2
  have hdl : d.1.length = c.1 := by rw [hd]; exact rdTexts_len _ _ _ _
  unfold termBytes
  rw [Int.toNat_natCast, hdl, ← p2, ← o2, ← n2, ← m2]
  exact l2
/-- Decode accepts just the values of terminals without error. -/
theorem termDec_some {bs : List UInt8} {e : Nat} {ses : List UInt8} {ty : List (List UInt8)} {scr : List UInt8} : termDec bs = some (e, ses, ty, scr) ↔ termCheck e ses ty scr.length = 0 ∧ bs = termBytes e ses ty scr := by
  constructor
  · intro h
    unfold termDec at h
    split at h
    · cases h
    · rename_i hc
      have h1 : rdClose (termRd bs).2.1 (termRd bs).2.2 = 0 := Classical.byContradiction fun hx => hc (.inl hx)
      have h2 : termCheck (termRd bs).1.1 (termRd bs).1.2.1 (termRd bs).1.2.2.1 (termRd bs).1.2.2.2.length = 0 := Classical.byContradiction fun hx => hc (.inr hx)
      have h3 := termRd_ok h1
      simp only [Option.some.injEq] at h
      rw [h] at h2 h3
      exact ⟨h2, h3⟩
  · rintro ⟨h, rfl⟩
    exact termDec_enc h
theorem flat_le : ∀ {l : List (List UInt8)} {m : Nat}, (∀ s ∈ l, s.length ≤ m) → m < 18446744073709551616 → (flat l).length ≤ l.length * (m + 10)
  | [], m, _, _ => by simp [flat]
  | s :: l, m, h, hm => by
    have h1 := h s (by simp)
    have h2 := natBytes_len64 (n := s.length) (by omega)
    have ih := flat_le (l := l) (m := m) (fun x hx => h x (by simp [hx])) hm
    rw [flat_cons, List.length_append, List.length_cons, Nat.succ_mul]
    unfold txt
    rw [List.length_append]
    omega
theorem termBytes_le {e : Int} {ses : List UInt8} {ty : List (List UInt8)} {scr : List UInt8} (h : termCheck e ses ty scr.length = 0) : (termBytes e ses ty scr).length ≤ 20000 := by
  obtain ⟨h1, h2, h3, h4, h5, h6⟩ := termCheck_ok.1 h
  have hs := valid_len h2
  have hl : ∀ s ∈ ty, s.length ≤ 1024 := fun s hs => lineE_len (linesE_ok.1 h4 s hs)
  have hf := flat_le hl (by omega)
  have l1 := natBytes_len64 (n := e.toNat) (by omega)
  have l2 := natBytes_len64 (n := ses.length) (by omega)
  have l3 := natBytes_len64 (n := ty.length) (by omega)
  have l4 := natBytes_len64 (n := scr.length) (by omega)
  have hm : ty.length * (1024 + 10) ≤ 16 * (1024 + 10) := Nat.mul_le_mul_right _ h3
  unfold termBytes txt
  simp only [List.length_append]
  omega
end Go.Proofs.YtgonfcdmaoeboaaGreatDoor
