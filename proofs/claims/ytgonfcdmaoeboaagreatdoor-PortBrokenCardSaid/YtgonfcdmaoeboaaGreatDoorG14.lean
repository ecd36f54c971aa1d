/- Contracts of functions on the way to the claim, proved for every input that their hypotheses let by; no condition of the claim. Joined of: Q1 Q2. -/
import Derived.Test.YtgonfcdmaoeboaaGreatDoorG1

/- Plain: pipes as values: what Check, Encode, Decode say. No program here. -/
namespace Go.Proofs.YtgonfcdmaoeboaaGreatDoor
open Go.RowKit

/-- is n from 0 to m? -/
def withinB (n m : Int) : Bool := decide (0 ≤ n ∧ n ≤ m)
theorem withinB_iff {n m : Int} : withinB n m = true ↔ 0 ≤ n ∧ n ≤ m := by simp [withinB]
theorem withinB_no {n m : Int} : withinB n m = false ↔ ¬ (0 ≤ n ∧ n ≤ m) := by simp [withinB]

/-- the first error of a pipe -/
def pipeCheck (e r w : Int) (n : Nat) : Nat :=
  if ¬ (0 ≤ e ∧ e ≤ 1073741824) ∨ ¬ (0 ≤ r ∧ r ≤ 64) ∨ ¬ (0 ≤ w ∧ w ≤ 64) then 2
  else if r + w = 0 then 1 else if 256 < n then 5 else 0
theorem pipeCheck_range {e r w : Int} {n : Nat} (h : pipeCheck e r w n = 0) : (0 ≤ e ∧ e ≤ 1073741824) ∧ (0 ≤ r ∧ r ≤ 64) ∧ (0 ≤ w ∧ w ≤ 64) ∧ r + w ≠ 0 ∧ n ≤ 256 := by
  unfold pipeCheck at h
  split at h
  · cases h
  · split at h
    · cases h
    · split at h
      · cases h
      · omega
/-- the value of a pipe without error -/
def pipeBytes (e r w : Int) (b : List UInt8) : List UInt8 := natBytes e.toNat ++ natBytes r.toNat ++ natBytes w.toNat ++ natBytes b.length ++ b
/-- what Encode returns -/
def pipeEnc (e r w : Int) (b : List UInt8) : List UInt8 := if pipeCheck e r w b.length = 0 then pipeBytes e r w b else []
end Go.Proofs.YtgonfcdmaoeboaaGreatDoor

/- Plain: decoding is the inverse of encoding. No program here. -/
namespace Go.Proofs.YtgonfcdmaoeboaaGreatDoor
open Go.RowKit

theorem groups_enc (rest : List UInt8) : ∀ (k n i u : Nat), n < 128 ^ (k + 1) → i + k ≤ 8 → (i = 0 ∨ 0 < n) → groupsFrom i u (natBytes n ++ rest) = (u + n * 128 ^ i, i + (natBytes n).length, 0)
  | k, n, i, u, hn, hk, hz => by
    by_cases h : n < 128
    · rw [natBytes_lt h]
      have e : (UInt8.ofNat n).toNat = n := by rw [UInt8.toNat_ofNat_of_lt' (by simp [UInt8.size]; omega)]
      simp only [List.cons_append, List.nil_append, groupsFrom, e]
      rw [if_neg (by omega), if_pos h, if_neg (by omega), Nat.mod_eq_of_lt h]
      simp
    · rw [natBytes_ge (by omega)]
      have e : (UInt8.ofNat (n % 128 + 128)).toNat = n % 128 + 128 := by rw [UInt8.toNat_ofNat_of_lt' (by simp [UInt8.size]; omega)]
      simp only [List.cons_append, groupsFrom, e]
      rw [if_neg (by omega), if_neg (by omega)]
      cases k with
      | zero => simp at hn; omega
      | succ k =>
        rw [groups_enc rest k (n / 128) (i + 1) _ (by rw [Nat.div_lt_iff_lt_mul (by decide)]; rw [Nat.pow_succ] at hn; exact hn) (by omega) (.inr (by omega))]
        have e2 : (n % 128 + 128) % 128 = n % 128 := by omega
        rw [e2]
        have e3 : u + n % 128 * 128 ^ i + n / 128 * 128 ^ (i + 1) = u + n * 128 ^ i := by
          rw [Nat.pow_succ, Nat.add_assoc, show n / 128 * (128 ^ i * 128) = n / 128 * 128 * 128 ^ i by rw [Nat.mul_comm (128 ^ i) 128, Nat.mul_assoc], ← Nat.add_mul]
          congr 2
          omega
        rw [e3]
        simp only [List.length_cons]
        congr 2
        omega
theorem groups_nat {n : Nat} (rest : List UInt8) (h : n < 9223372036854775808) : groupsFrom 0 0 (natBytes n ++ rest) = (n, (natBytes n).length, 0) := by
  rw [groups_enc rest 8 n 0 0 (by have : (128 : Nat) ^ (8 + 1) = 9223372036854775808 := by decide
                                  omega) (by omega) (.inl rfl)]
  simp

theorem groups_dec : ∀ (bs : List UInt8) (i u m k : Nat), groupsFrom i u bs = (m, k, 0) → ∃ n rest, bs = natBytes n ++ rest ∧ m = u + n * 128 ^ i ∧ k = i + (natBytes n).length ∧ (i = 0 ∨ 0 < n)
  | [], i, u, m, k, h => by unfold groupsFrom at h; split at h <;> simp at h
  | c :: r, i, u, m, k, h => by
    unfold groupsFrom at h
    split at h
    · simp at h
    · split at h
      · rename_i hc
        split at h
        · simp at h
        · rename_i hz
          simp only [Prod.mk.injEq, and_true] at h
          refine ⟨c.toNat, r, ?_, ?_, ?_, by omega⟩
          · rw [natBytes_lt hc]; simp
          · rw [← h.1, Nat.mod_eq_of_lt hc]
          · rw [natBytes_lt hc, ← h.2]; rfl
      · rename_i hc
        obtain ⟨n, rest, e1, e2, e3, e4⟩ := groups_dec r (i + 1) _ m k h
        have hn : 0 < n := by omega
        have hcl := c.toNat_lt
        have hge : 128 ≤ n * 128 + c.toNat % 128 := by omega
        refine ⟨n * 128 + c.toNat % 128, rest, ?_, ?_, ?_, .inr (by omega)⟩
        · rw [natBytes_ge hge, show (n * 128 + c.toNat % 128) % 128 = c.toNat % 128 by omega, show (n * 128 + c.toNat % 128) / 128 = n by omega, show c.toNat % 128 + 128 = c.toNat by omega, e1]
          simp
        · rw [e2, Nat.pow_succ, Nat.add_mul, show n * 128 * 128 ^ i = n * (128 ^ i * 128) by rw [Nat.mul_comm (128 ^ i) 128, Nat.mul_assoc]]
          omega
        · rw [natBytes_ge hge, show (n * 128 + c.toNat % 128) / 128 = n by omega, e3]
          simp; omega
theorem groups_ok {bs : List UInt8} {m k : Nat} (h : groupsFrom 0 0 bs = (m, k, 0)) : ∃ rest, bs = natBytes m ++ rest ∧ k = (natBytes m).length ∧ bs.drop k = rest := by
  obtain ⟨n, rest, e1, e2, e3, _⟩ := groups_dec bs 0 0 m k h
  simp at e2 e3
  subst e2
  exact ⟨rest, e1, e3, by rw [e1, e3]; simp⟩

/-- what pipe.Decode reads -/
def pipeDec (bs : List UInt8) : Option (Nat × Nat × Nat × List UInt8) :=
  let a := rdNum 1073741824 bs 0
  let b := rdNum 64 a.2.1 a.2.2
  let c := rdNum 64 b.2.1 b.2.2
  let d := rdText 256 c.2.1 c.2.2
  if rdClose d.2.1 d.2.2 ≠ 0 ∨ pipeCheck a.1 b.1 c.1 d.1.length ≠ 0 then none else some (a.1, b.1, c.1, d.1)

theorem rdNum_err {most : Nat} {rest : List UInt8} {f : Nat} (h : f ≠ 0) : (rdNum most rest f).2.2 = f := by unfold rdNum; rw [if_pos h]
theorem rdText_err {most : Nat} {rest : List UInt8} {f : Nat} (h : f ≠ 0) : (rdText most rest f).2.2 = f := by unfold rdText; rw [if_pos h]
theorem rdNum_ok {most : Nat} {rest : List UInt8} {f : Nat} (h : (rdNum most rest f).2.2 = 0) : f = 0 ∧ rest = natBytes (rdNum most rest f).1 ++ (rdNum most rest f).2.1 ∧ (rdNum most rest f).1 ≤ most := by
  by_cases hf : f = 0
  · subst hf
    unfold rdNum at h ⊢
    rw [if_neg (by decide)] at h ⊢
    by_cases hn : (numAt most rest).2.2 = 0
    · rw [if_neg (by simp [hn])] at h ⊢
      unfold numAt at hn ⊢
      by_cases hc : (groupsFrom 0 0 rest).2.2 = 0 ∧ most < (groupsFrom 0 0 rest).1
      · rw [if_pos hc] at hn; simp at hn
      · rw [if_neg hc] at hn ⊢
        have e : groupsFrom 0 0 rest = ((groupsFrom 0 0 rest).1, (groupsFrom 0 0 rest).2.1, 0) := Prod.ext rfl (Prod.ext rfl hn)
        obtain ⟨r, e1, e2, e3⟩ := groups_ok e
        refine ⟨rfl, ?_, by simp only; omega⟩
        simp only
        rw [e3]
        exact e1
    · rw [if_pos hn] at h
      exact absurd h hn
  · rw [rdNum_err hf] at h
    exact absurd h hf
theorem rdText_ok {most : Nat} {rest : List UInt8} {f : Nat} (h : (rdText most rest f).2.2 = 0) : f = 0 ∧ rest = natBytes (rdText most rest f).1.length ++ (rdText most rest f).1 ++ (rdText most rest f).2.1 ∧ (rdText most rest f).1.length ≤ most := by
  by_cases hf : f = 0
  · subst hf
    unfold rdText at h ⊢
    rw [if_neg (by decide)] at h ⊢
    by_cases hn : (textAt most rest).2.2 = 0
    · rw [if_neg (by simp [hn])] at h ⊢
      unfold textAt at hn ⊢
      by_cases h1 : (groupsFrom 0 0 rest).2.2 ≠ 0
      · rw [if_pos h1] at hn; exact absurd hn h1
      · rw [if_neg h1] at hn ⊢
        by_cases h2 : min most 16777216 < (groupsFrom 0 0 rest).1
        · rw [if_pos h2] at hn; simp at hn
        · rw [if_neg h2] at hn ⊢
          by_cases h3 : rest.length - (groupsFrom 0 0 rest).2.1 < (groupsFrom 0 0 rest).1
          · rw [if_pos h3] at hn; simp at hn
          · rw [if_neg h3]
            have e : groupsFrom 0 0 rest = ((groupsFrom 0 0 rest).1, (groupsFrom 0 0 rest).2.1, 0) := Prod.ext rfl (Prod.ext rfl (show (groupsFrom 0 0 rest).2.2 = 0 by omega))
            obtain ⟨r, e1, e2, e3⟩ := groups_ok e
            have hl : ((rest.drop (groupsFrom 0 0 rest).2.1).take (groupsFrom 0 0 rest).1).length = (groupsFrom 0 0 rest).1 := by rw [List.length_take, List.length_drop]; omega
            refine ⟨rfl, ?_, by simp only; rw [hl]; omega⟩
            simp only
            rw [hl, ← List.drop_drop, List.append_assoc, List.take_append_drop, e3]
            exact e1
    · rw [if_pos hn] at h
      exact absurd h hn
  · rw [rdText_err hf] at h
    exact absurd h hf
theorem rdNum_enc {most n : Nat} (rest : List UInt8) (h : n ≤ most) (h2 : n < 9223372036854775808) : rdNum most (natBytes n ++ rest) 0 = (n, rest, 0) := by
  unfold rdNum numAt
  rw [groups_nat rest h2]
  simp [show ¬ most < n by omega]
theorem rdText_enc {most : Nat} (t rest : List UInt8) (h : t.length ≤ most) (h2 : t.length ≤ 16777216) : rdText most (natBytes t.length ++ t ++ rest) 0 = (t, rest, 0) := by
  have e : textAt most (natBytes t.length ++ t ++ rest) = (t, (natBytes t.length).length + t.length, 0) := by
    unfold textAt
    rw [List.append_assoc, groups_nat (t ++ rest) (by omega)]
    rw [if_neg (by simp), if_neg (by simp only; omega), if_neg (by simp)]
    simp
  unfold rdText
  rw [e]
  simp
theorem rdClose_ok {rest : List UInt8} {f : Nat} (h : rdClose rest f = 0) : f = 0 ∧ rest = [] := by
  unfold rdClose at h
  split at h
  · cases h
  · rename_i hc
    refine ⟨h, ?_⟩
    by_cases hr : rest = []
    · exact hr
    · exact absurd ⟨h, hr⟩ hc

/-- Decode accepts just the values of pipes without error. -/
theorem pipeDec_some {bs : List UInt8} {e r w : Nat} {t : List UInt8} : pipeDec bs = some (e, r, w, t) ↔ pipeCheck e r w t.length = 0 ∧ bs = pipeBytes e r w t := by
  constructor
  · intro h
    unfold pipeDec at h
    simp only at h
    split at h
    · cases h
    · rename_i hc
      simp only [Option.some.injEq, Prod.mk.injEq] at h
      obtain ⟨h1, h2, h3, h4⟩ := h
      have hcl : rdClose (rdText 256 (rdNum 64 (rdNum 64 (rdNum 1073741824 bs 0).2.1 (rdNum 1073741824 bs 0).2.2).2.1 (rdNum 64 (rdNum 1073741824 bs 0).2.1 (rdNum 1073741824 bs 0).2.2).2.2).2.1 (rdNum 64 (rdNum 64 (rdNum 1073741824 bs 0).2.1 (rdNum 1073741824 bs 0).2.2).2.1 (rdNum 64 (rdNum 1073741824 bs 0).2.1 (rdNum 1073741824 bs 0).2.2).2.2).2.2).2.1 (rdText 256 (rdNum 64 (rdNum 64 (rdNum 1073741824 bs 0).2.1 (rdNum 1073741824 bs 0).2.2).2.1 (rdNum 64 (rdNum 1073741824 bs 0).2.1 (rdNum 1073741824 bs 0).2.2).2.2).2.1 (rdNum 64 (rdNum 64 (rdNum 1073741824 bs 0).2.1 (rdNum 1073741824 bs 0).2.2).2.1 (rdNum 64 (rdNum 1073741824 bs 0).2.1 (rdNum 1073741824 bs 0).2.2).2.2).2.2).2.2 = 0 := by
        by_cases hx : rdClose (rdText 256 (rdNum 64 (rdNum 64 (rdNum 1073741824 bs 0).2.1 (rdNum 1073741824 bs 0).2.2).2.1 (rdNum 64 (rdNum 1073741824 bs 0).2.1 (rdNum 1073741824 bs 0).2.2).2.2).2.1 (rdNum 64 (rdNum 64 (rdNum 1073741824 bs 0).2.1 (rdNum 1073741824 bs 0).2.2).2.1 (rdNum 64 (rdNum 1073741824 bs 0).2.1 (rdNum 1073741824 bs 0).2.2).2.2).2.2).2.1 (rdText 256 (rdNum 64 (rdNum 64 (rdNum 1073741824 bs 0).2.1 (rdNum 1073741824 bs 0).2.2).2.1 (rdNum 64 (rdNum 1073741824 bs 0).2.1 (rdNum 1073741824 bs 0).2.2).2.2).2.1 (rdNum 64 (rdNum 64 (rdNum 1073741824 bs 0).2.1 (rdNum 1073741824 bs 0).2.2).2.1 (rdNum 64 (rdNum 1073741824 bs 0).2.1 (rdNum 1073741824 bs 0).2.2).2.2).2.2).2.2 = 0
        · exact hx
        · exact absurd (.inl hx) hc
      have hck : pipeCheck (rdNum 1073741824 bs 0).1 _ _ _ = 0 := Classical.byContradiction fun hx => hc (.inr hx)
      rw [h1, h2, h3, h4] at hck
      obtain ⟨q1, q2⟩ := rdClose_ok hcl
      obtain ⟨p1, p2, _⟩ := rdText_ok q1
      obtain ⟨o1, o2, _⟩ := rdNum_ok p1
      obtain ⟨n1, n2, _⟩ := rdNum_ok o1
      obtain ⟨m1, m2, _⟩ := rdNum_ok n1
      refine ⟨hck, ?_⟩
      rw [h4, q2] at p2
      rw [h3, p2] at o2
      rw [h2, o2] at n2
      rw [h1, n2] at m2
      rw [m2]
      simp [pipeBytes]
  · rintro ⟨hck, rfl⟩
    obtain ⟨⟨he1, he2⟩, ⟨hr1, hr2⟩, ⟨hw1, hw2⟩, hz, hn⟩ := pipeCheck_range hck
    unfold pipeDec pipeBytes
    simp only [Int.toNat_natCast, List.append_assoc]
    rw [rdNum_enc _ (by omega) (by omega)]
    simp only
    rw [rdNum_enc _ (by omega) (by omega)]
    simp only
    rw [rdNum_enc _ (by omega) (by omega)]
    simp only
    have := rdText_enc (most := 256) t [] hn (by omega)
    rw [List.append_nil] at this
    rw [this]
    simp [rdClose, hck]

/-- the reference's take -/
def refTake (bs : List UInt8) : Int × List UInt8 :=
  if (groupsFrom 0 0 bs).2.2 ≠ 0 then (-1, []) else ((groupsFrom 0 0 bs).1, bs.drop (groupsFrom 0 0 bs).2.1)
/-- what the reference's Decode returns -/
def refDec (bs : List UInt8) : Option (Int × Int × Int × List UInt8) :=
  let a := refTake bs
  let b := refTake a.2
  let c := refTake b.2
  let d := refTake c.2
  if d.1 < 0 ∨ d.1 ≠ d.2.length then none
  else if pipeCheck a.1 b.1 c.1 d.2.length ≠ 0 ∨ pipeEnc a.1 b.1 c.1 d.2 ≠ bs then none else some (a.1, b.1, c.1, d.2)
theorem refTake_enc {n : Nat} (rest : List UInt8) (h : n < 9223372036854775808) : refTake (natBytes n ++ rest) = ((n : Int), rest) := by
  unfold refTake
  rw [groups_nat rest h]
  simp
theorem refDec_some {bs : List UInt8} {e r w : Int} {t : List UInt8} : refDec bs = some (e, r, w, t) ↔ pipeCheck e r w t.length = 0 ∧ bs = pipeBytes e r w t := by
  constructor
  · intro h
    unfold refDec at h
    simp only at h
    split at h
    · cases h
    · split at h
      · cases h
      · rename_i hc
        simp only [Option.some.injEq, Prod.mk.injEq] at h
        obtain ⟨h1, h2, h3, h4⟩ := h
        rw [h1, h2, h3, h4] at hc
        have hk : pipeCheck e r w t.length = 0 := Classical.byContradiction fun q => hc (.inl q)
        have hb : pipeEnc e r w t = bs := Classical.byContradiction fun q => hc (.inr q)
        unfold pipeEnc at hb
        rw [if_pos hk] at hb
        exact ⟨hk, hb.symm⟩
  · rintro ⟨hck, rfl⟩
    obtain ⟨⟨he1, he2⟩, ⟨hr1, hr2⟩, ⟨hw1, hw2⟩, hz, hn⟩ := pipeCheck_range hck
    unfold refDec
    have e0 : pipeBytes e r w t = natBytes e.toNat ++ (natBytes r.toNat ++ (natBytes w.toNat ++ (natBytes t.length ++ t))) := by simp [pipeBytes]
    rw [e0]
    rw [refTake_enc _ (by omega)]
    simp only
    rw [refTake_enc _ (by omega)]
    simp only
    rw [refTake_enc _ (by omega)]
    simp only
    rw [refTake_enc _ (by omega)]
    simp only
    rw [if_neg (by omega)]
    have q1 : (e.toNat : Int) = e := by omega
    have q2 : (r.toNat : Int) = r := by omega
    have q3 : (w.toNat : Int) = w := by omega
    rw [q1, q2, q3]
    have q4 : pipeEnc e r w t = natBytes e.toNat ++ (natBytes r.toNat ++ (natBytes w.toNat ++ (natBytes t.length ++ t))) := by unfold pipeEnc; rw [if_pos hck, e0]
    rw [q4, if_neg (by simp [hck])]
/-- the two decoders agree -/
theorem dec_eq (bs : List UInt8) : refDec bs = (pipeDec bs).map fun p => ((p.1 : Int), (p.2.1 : Int), (p.2.2.1 : Int), p.2.2.2) := by
  cases h : refDec bs with
  | none =>
    cases h2 : pipeDec bs with
    | none => rfl
    | some p =>
      obtain ⟨e, r, w, t⟩ := p
      have := pipeDec_some.1 h2
      rw [refDec_some.2 this] at h
      cases h
  | some p =>
    obtain ⟨e, r, w, t⟩ := p
    obtain ⟨hck, hb⟩ := refDec_some.1 h
    obtain ⟨⟨he1, he2⟩, ⟨hr1, hr2⟩, ⟨hw1, hw2⟩, hz, hn⟩ := pipeCheck_range hck
    obtain ⟨e', rfl⟩ := Int.eq_ofNat_of_zero_le he1
    obtain ⟨r', rfl⟩ := Int.eq_ofNat_of_zero_le hr1
    obtain ⟨w', rfl⟩ := Int.eq_ofNat_of_zero_le hw1
    rw [pipeDec_some.2 ⟨hck, hb⟩]
    rfl
theorem rdText_le (most : Nat) (rest : List UInt8) (f : Nat) : (rdText most rest f).1.length ≤ most := by
  by_cases h : (rdText most rest f).2.2 = 0
  · exact (rdText_ok h).2.2
  · unfold rdText at h ⊢
    split
    · simp
    · split
      · simp
      · rename_i h1 h2
        rw [if_neg h1, if_neg h2] at h
        exact absurd rfl h
end Go.Proofs.YtgonfcdmaoeboaaGreatDoor
