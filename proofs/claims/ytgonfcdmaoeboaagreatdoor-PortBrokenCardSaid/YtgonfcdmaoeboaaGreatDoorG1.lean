/- Contracts of functions on the way to the claim, proved for every input that their hypotheses let by; no condition of the claim. Joined of: P1 P2 P3 Q3 Q4 L1 L2 L3 L4 L5 L6 M1. -/
import Derived.WalkKit
import Derived.Laws.BitsAllLaws
import Derived.WalkSpells
import Derived.Handy
import Derived.Lib.ConvBytes
import Derived.Laws.IdiomStrings
import Derived.Deep.QuietTactic
import Derived.BigQuiet
import Derived.Maps.Keyed
import Derived.Maps.Own

/- Plain: the encoding of a natural number in groups of seven bits. No program here. -/
namespace Go.Proofs.YtgonfcdmaoeboaaGreatDoor
open Go.RowKit

/-- a byte as a value -/
def bval (b : UInt8) : Value := .int .u8 b.toNat
/-- a number's groups -/
def natBytes (n : Nat) : List UInt8 :=
  if _h : n < 128 then [UInt8.ofNat n] else UInt8.ofNat (n % 128 + 128) :: natBytes (n / 128)
termination_by n
decreasing_by omega

theorem natBytes_lt {n : Nat} (h : n < 128) : natBytes n = [UInt8.ofNat n] := by rw [natBytes]; simp [h]
theorem natBytes_ge {n : Nat} (h : 128 ≤ n) : natBytes n = UInt8.ofNat (n % 128 + 128) :: natBytes (n / 128) := by rw [natBytes]; simp [show ¬ n < 128 by omega]
theorem natBytes_len_pos (n : Nat) : 1 ≤ (natBytes n).length := by
  by_cases h : n < 128
  · rw [natBytes_lt h]; simp
  · rw [natBytes_ge (by omega)]; simp
theorem natBytes_len_le (k : Nat) : ∀ n, n < 128 ^ (k + 1) → (natBytes n).length ≤ k + 1 := by
  induction k with
  | zero => intro n h; rw [natBytes_lt (by omega)]; simp
  | succ k ih =>
    intro n h
    by_cases hn : n < 128
    · rw [natBytes_lt hn]; simp
    · rw [natBytes_ge (by omega)]
      have := ih (n / 128) (by rw [Nat.div_lt_iff_lt_mul (by decide)]; rw [Nat.pow_succ] at h; exact h)
      simp; omega
theorem natBytes_len64 {n : Nat} (h : n < 18446744073709551616) : (natBytes n).length ≤ 10 := by
  refine natBytes_len_le 9 n ?_
  have : (128:Nat)^(9+1) = 1180591620717411303424 := by decide
  omega
theorem natBytes_len63 {n : Nat} (h : n < 9223372036854775808) : (natBytes n).length ≤ 9 := by
  refine natBytes_len_le 8 n ?_
  have : (128:Nat)^(8+1) = 9223372036854775808 := by decide
  omega
theorem or128_fin : ∀ c : Fin 256, bits .or .u8 ((c.val : Nat) : Int) 128 = ((c.val % 128 + 128 : Nat) : Int) := by decide +kernel
theorem byte_or (n : Nat) : Value.int .u8 (bits .or .u8 ((n : Int) % 256) 128) = bval (UInt8.ofNat (n % 128 + 128)) := by
  have h := or128_fin ⟨n % 256, by omega⟩
  simp only at h
  have e : ((n : Int) % 256) = ((n % 256 : Nat) : Int) := by omega
  rw [e, h]
  unfold bval
  congr 1
  rw [UInt8.toNat_ofNat_of_lt' (by simp [UInt8.size]; omega)]
  omega
theorem byte_mod (n : Nat) : Value.int .u8 ((n : Int) % 256) = bval (UInt8.ofNat n) := by
  unfold bval
  congr 1
theorem byte_lt {n : Nat} (h : n < 128) : Value.int .u8 (n : Int) = bval (UInt8.ofNat n) := by
  rw [← byte_mod]
  congr 1
  omega
theorem bval_oneCell (b : UInt8) : (bval b).oneCell' = true := rfl
theorem bytes_oneCell (bs : List UInt8) : ∀ u ∈ bs.map bval, u.oneCell' = true := by
  intro u hu
  obtain ⟨b, _, rfl⟩ := List.mem_map.1 hu
  rfl
theorem map_snoc {α β : Type} (f : α → β) (l : List α) (x : α) : l.map f ++ [f x] = (l ++ [x]).map f := by simp
/-- a string from its bytes -/
def str (l : List UInt8) : ByteArray := ⟨l.toArray⟩
theorem str_size (l : List UInt8) : (str l).size = l.length := by simp [str, ByteArray.size]
theorem str_list (s : ByteArray) : s = str s.data.toList := by cases s; simp [str]
theorem str_toList (l : List UInt8) : (str l).toList = l := by unfold str; exact ByteArray.toList_mk l
theorem str_data (l : List UInt8) : (str l).data.toList = l := by simp [str]
theorem str_inj {a b : List UInt8} (h : str a = str b) : a = b := by have := congrArg (fun x => x.data.toList) h; simpa [str] using this
theorem str_surj (s : ByteArray) : ∃ l, s = str l := ⟨_, str_list s⟩
theorem str_extract (l : List UInt8) (a b : Nat) : (str l).extract a b = str ((l.drop a).take (b - a)) := ByteArray.extract_mk l a b

theorem str_get (l : List UInt8) (i : Nat) (h : i < (str l).size) : (str l)[i] = l[i]'(by rw [str_size] at h; exact h) := by
  simp [str, ByteArray.getElem_eq_getElem_data]
end Go.Proofs.YtgonfcdmaoeboaaGreatDoor

/- Plain: reading a number in groups of seven bits. No program here. -/
namespace Go.Proofs.YtgonfcdmaoeboaaGreatDoor
open Go.RowKit

/-- the reader of at most nine groups, byte by byte: i bytes are read, their value is u -/
def groupsFrom (i u : Nat) : List UInt8 → Nat × Nat × Nat
  | [] => if 9 ≤ i then (0, 0, 3) else (0, 0, 28)
  | c :: r => if i = 9 then (0, 0, 3) else
    if c.toNat < 128 then (if c.toNat = 0 ∧ 0 < i then (0, 0, 3) else (u + c.toNat % 128 * 128 ^ i, i + 1, 0))
    else groupsFrom (i + 1) (u + c.toNat % 128 * 128 ^ i) r

theorem pow128 (i : Nat) : (128 : Nat) ^ i = 2 ^ (7 * i) := by
  rw [Nat.pow_mul]
theorem pow128_le {i : Nat} (h : i ≤ 8) : (128 : Nat) ^ i ≤ 72057594037927936 := by
  have h1 : (128 : Nat) ^ i ≤ 128 ^ 8 := Nat.pow_le_pow_right (by decide) h
  have h2 : (128 : Nat) ^ 8 = 72057594037927936 := by decide
  omega
theorem step_lt {u i : Nat} (c : UInt8) (hu : u < 128 ^ i) : u + c.toNat % 128 * 128 ^ i < 128 ^ (i + 1) := by
  have hc : c.toNat % 128 ≤ 127 := by omega
  have h1 : c.toNat % 128 * 128 ^ i ≤ 127 * 128 ^ i := Nat.mul_le_mul_right _ hc
  rw [Nat.pow_succ]
  omega
theorem and127 (c : UInt8) : bits .and .u8 ((c.toNat : Nat) : Int) 127 = ((c.toNat % 128 : Nat) : Int) := by
  have h := u8_and_nat c.toNat 127 c.toNat_lt (by decide)
  rw [show ((127 : Nat) : Int) = (127 : Int) from rfl] at h
  rw [h]
  congr 1
  exact Nat.and_two_pow_sub_one_eq_mod c.toNat 7
theorem groups_or {u i : Nat} (c : UInt8) (hu : u < 128 ^ i) (hi : i ≤ 8) :
    bits .or .u64 (u : Int) (IntKind.u64.wrap (IntKind.u64.wrap (bits .and .u8 ((c.toNat : Nat) : Int) 127) * 2 ^ (7 * i))) = ((u + c.toNat % 128 * 128 ^ i : Nat) : Int) := by
  have hp := pow128_le hi
  have hc : c.toNat % 128 ≤ 127 := by omega
  have hm : c.toNat % 128 * 128 ^ i ≤ 127 * 72057594037927936 := Nat.mul_le_mul hc hp
  have e1 : IntKind.u64.wrap ((c.toNat % 128 : Nat) : Int) = ((c.toNat % 128 : Nat) : Int) := by rw [IntKind.wrap_u64]; omega
  have e2 : ((c.toNat % 128 : Nat) : Int) * 2 ^ (7 * i) = ((c.toNat % 128 * 128 ^ i : Nat) : Int) := by rw [pow128]; simp
  have e3 : IntKind.u64.wrap ((c.toNat % 128 * 128 ^ i : Nat) : Int) = ((c.toNat % 128 * 128 ^ i : Nat) : Int) := by
    generalize c.toNat % 128 * 128 ^ i = x at hm
    rw [IntKind.wrap_u64]; omega
  rw [and127, e1, e2, e3, u64_or_nat _ _ (by omega) (by omega)]
  congr 1
  rw [Nat.or_comm, nat_join (7 * i) _ _ (by rw [pow128]; exact Nat.mul_mod_left _ _) (by rw [← pow128]; exact hu)]
  omega

theorem groupsFrom_lt : ∀ (bs : List UInt8) (i u : Nat), i ≤ 9 → u < 128 ^ i → (groupsFrom i u bs).1 < 9223372036854775808
  | [], i, u, _, _ => by unfold groupsFrom; split <;> decide
  | c :: r, i, u, hi, hu => by
    unfold groupsFrom
    split
    · decide
    · have h1 := step_lt c hu
      split
      · split
        · decide
        · have h2 : (128 : Nat) ^ (i + 1) ≤ 128 ^ 9 := Nat.pow_le_pow_right (by decide) (by omega)
          have h3 : (128 : Nat) ^ 9 = 9223372036854775808 := by decide
          simp only
          omega
      · exact groupsFrom_lt r (i + 1) _ (by omega) h1
theorem groupsFrom_size : ∀ (bs : List UInt8) (i u : Nat), (groupsFrom i u bs).2.1 ≤ i + bs.length
  | [], i, u => by unfold groupsFrom; split <;> simp
  | c :: r, i, u => by
    unfold groupsFrom
    split
    · simp
    · split
      · split
        · simp
        · simp
      · have := groupsFrom_size r (i + 1) (u + c.toNat % 128 * 128 ^ i)
        simp; omega

theorem getD_of_lt {α : Type} (l : List α) (i : Nat) (d : α) (h : i < l.length) : l.getD i d = l[i] := by
  simp [List.getD, h]
/-- the value of the first k groups -/
def leSum : Nat → List UInt8 → Nat
  | 0, _ => 0
  | k + 1, bs => leSum k bs + (bs.getD k 0).toNat % 128 * 128 ^ k
theorem leSum_lt (bs : List UInt8) : ∀ k, leSum k bs < 128 ^ k
  | 0 => by simp [leSum]
  | k + 1 => step_lt _ (leSum_lt bs k)
theorem groupsFrom_run (bs : List UInt8) : ∀ e, e ≤ 9 → e ≤ bs.length → (∀ j (h : j < bs.length), j < e → 128 ≤ bs[j].toNat) → groupsFrom 0 0 bs = groupsFrom e (leSum e bs) (bs.drop e)
  | 0, _, _, _ => by simp [leSum]
  | e + 1, h9, hl, h => by
    rw [groupsFrom_run bs e (by omega) (by omega) (fun j hj hje => h j hj (by omega))]
    rw [List.drop_eq_getElem_cons (show e < bs.length by omega)]
    conv => lhs; unfold groupsFrom
    have hb := h e (by omega) (by omega)
    simp only [leSum, show ¬ e = 9 by omega, show ¬ bs[e].toNat < 128 by omega, if_false]
    rw [getD_of_lt _ _ _ (by omega)]
/-- what is read when the first byte below 128 stands at e -/
theorem groupsFrom_end (bs : List UInt8) (e : Nat) (h9 : e < 9) (hl : e < bs.length) (h : ∀ j (h : j < bs.length), j < e → 128 ≤ bs[j].toNat) (hb : bs[e].toNat < 128) :
    groupsFrom 0 0 bs = if bs[e].toNat = 0 ∧ 0 < e then (0, 0, 3) else (leSum (e + 1) bs, e + 1, 0) := by
  rw [groupsFrom_run bs e (by omega) (by omega) h, List.drop_eq_getElem_cons hl]
  conv => lhs; unfold groupsFrom
  simp only [leSum, show ¬ e = 9 by omega, hb, if_true, if_false]
  rw [getD_of_lt _ _ _ hl]
theorem groupsFrom_nine (bs : List UInt8) (hl : 9 ≤ bs.length) (h : ∀ j (h : j < bs.length), j < 9 → 128 ≤ bs[j].toNat) : groupsFrom 0 0 bs = (0, 0, 3) := by
  rw [groupsFrom_run bs 9 (by omega) (by omega) h]
  cases bs.drop 9 <;> simp [groupsFrom]
theorem groupsFrom_short (bs : List UInt8) (hl : bs.length < 9) (h : ∀ j (h : j < bs.length), 128 ≤ bs[j].toNat) : groupsFrom 0 0 bs = (0, 0, 28) := by
  rw [groupsFrom_run bs bs.length (by omega) (by omega) (fun j hj _ => h j hj)]
  simp [groupsFrom, show ¬ 9 ≤ bs.length by omega]
theorem leSum_step {bs : List UInt8} {m n t : Nat} (hm : m < bs.length) (h : leSum (m + 1) bs + n * 128 ^ (m + 1) = t) : leSum m bs + (128 * n + bs[m].toNat % 128) * 128 ^ m = t := by
  rw [← h]
  simp only [leSum, getD_of_lt _ _ _ hm, Nat.pow_succ, Nat.add_mul]
  rw [show n * (128 ^ m * 128) = 128 * n * 128 ^ m by rw [Nat.mul_comm (128 ^ m) 128, ← Nat.mul_assoc, Nat.mul_comm n 128]]
  omega
theorem digit_lt {x n k t e : Nat} (h : x + n * 128 ^ k = t) (ht : t < 128 ^ e) (hk : k ≤ e) : n < 128 ^ (e - k) := by
  have h1 : n * 128 ^ k < 128 ^ (e - k) * 128 ^ k := by rw [← Nat.pow_add, show e - k + k = e by omega]; omega
  exact Nat.lt_of_mul_lt_mul_right h1
end Go.Proofs.YtgonfcdmaoeboaaGreatDoor

/- Plain: what a reader of package codec does to what is left, and its error. No program here. -/
namespace Go.Proofs.YtgonfcdmaoeboaaGreatDoor
open Go.RowKit

/-- what Number's function returns -/
def numAt (most : Nat) (rest : List UInt8) : Nat × Nat × Nat :=
  if (groupsFrom 0 0 rest).2.2 = 0 ∧ most < (groupsFrom 0 0 rest).1 then (0, 0, 2) else groupsFrom 0 0 rest
/-- what Text's function returns -/
def textAt (most : Nat) (rest : List UInt8) : List UInt8 × Nat × Nat :=
  if (groupsFrom 0 0 rest).2.2 ≠ 0 then ([], 0, (groupsFrom 0 0 rest).2.2)
  else if min most 16777216 < (groupsFrom 0 0 rest).1 then ([], 0, 5)
  else if rest.length - (groupsFrom 0 0 rest).2.1 < (groupsFrom 0 0 rest).1 then ([], 0, 28)
  else ((rest.drop (groupsFrom 0 0 rest).2.1).take (groupsFrom 0 0 rest).1, (groupsFrom 0 0 rest).2.1 + (groupsFrom 0 0 rest).1, 0)
/-- a read: the value, what is left, the error -/
def rdNum (most : Nat) (rest : List UInt8) (f : Nat) : Nat × List UInt8 × Nat :=
  if f ≠ 0 then (0, rest, f) else if (numAt most rest).2.2 ≠ 0 then (0, rest, (numAt most rest).2.2) else ((numAt most rest).1, rest.drop (numAt most rest).2.1, 0)
def rdText (most : Nat) (rest : List UInt8) (f : Nat) : List UInt8 × List UInt8 × Nat :=
  if f ≠ 0 then ([], rest, f) else if (textAt most rest).2.2 ≠ 0 then ([], rest, (textAt most rest).2.2) else ((textAt most rest).1, rest.drop (textAt most rest).2.1, 0)
def rdClose (rest : List UInt8) (f : Nat) : Nat := if f = 0 ∧ rest ≠ [] then 5 else f

theorem groupsFrom_err : ∀ (bs : List UInt8) (i u : Nat), (groupsFrom i u bs).2.2 ≠ 0 → (groupsFrom i u bs).1 = 0 ∧ (groupsFrom i u bs).2.1 = 0
  | [], i, u => by unfold groupsFrom; split <;> simp
  | c :: r, i, u => by
    unfold groupsFrom
    split
    · simp
    · split
      · split <;> simp
      · exact groupsFrom_err r _ _
theorem groupsFrom_errs : ∀ (bs : List UInt8) (i u : Nat), (groupsFrom i u bs).2.2 ≤ 28
  | [], i, u => by unfold groupsFrom; split <;> simp
  | c :: r, i, u => by
    unfold groupsFrom
    split
    · simp
    · split
      · split <;> simp
      · exact groupsFrom_errs r _ _
theorem numAt_size (most : Nat) (rest : List UInt8) : (numAt most rest).2.1 ≤ rest.length := by
  unfold numAt
  split
  · simp
  · have := groupsFrom_size rest 0 0
    omega
theorem numAt_lt (most : Nat) (rest : List UInt8) : (numAt most rest).1 < 9223372036854775808 := by
  unfold numAt
  split
  · decide
  · exact groupsFrom_lt rest 0 0 (by omega) (by simp)
theorem textAt_size (most : Nat) (rest : List UInt8) : (textAt most rest).2.1 ≤ rest.length := by
  unfold textAt
  have := groupsFrom_size rest 0 0
  split
  · simp
  · split
    · simp
    · split
      · simp
      · simp only; omega
end Go.Proofs.YtgonfcdmaoeboaaGreatDoor

/- Plain: names of processes: which texts are names, and their ordinals. No program here. -/
namespace Go.Proofs.YtgonfcdmaoeboaaGreatDoor
open Go.RowKit

def isDigit (c : UInt8) : Bool := decide (48 ≤ c.toNat) && decide (c.toNat ≤ 57)
/-- the number that decimal digits write -/
def decOf (l : List UInt8) : Nat := l.foldl (fun a c => a * 10 + (c.toNat - 48)) 0
theorem decOf_snoc (l : List UInt8) (c : UInt8) : decOf (l ++ [c]) = decOf l * 10 + (c.toNat - 48) := by simp [decOf]
theorem dec_acc : ∀ (l : List UInt8) (a : Nat), (∀ c ∈ l, isDigit c = true) → l.foldl (fun a c => a * 10 + (c.toNat - 48)) a < (a + 1) * 10 ^ l.length
  | [], a, _ => by simp
  | c :: l, a, h => by
    have h1 := dec_acc l (a * 10 + (c.toNat - 48)) (fun x hx => h x (by simp [hx]))
    have h2 := h c (by simp)
    simp [isDigit] at h2
    simp only [List.foldl_cons, List.length_cons]
    refine Nat.lt_of_lt_of_le h1 ?_
    rw [Nat.pow_succ, Nat.mul_comm (10 ^ l.length) 10, ← Nat.mul_assoc]
    exact Nat.mul_le_mul_right _ (by omega)
theorem decOf_lt (l : List UInt8) (h : ∀ c ∈ l, isDigit c = true) : decOf l < 10 ^ l.length := by
  have := dec_acc l 0 h
  simpa [decOf] using this
theorem isDigit_iff {c : UInt8} : isDigit c = true ↔ 48 ≤ c.toNat ∧ c.toNat ≤ 57 := by simp [isDigit]
theorem decOf_take {l : List UInt8} {k : Nat} (h : k < l.length) : decOf (l.take (k + 1)) = decOf (l.take k) * 10 + (l[k].toNat - 48) := by
  rw [List.take_succ_eq_append_getElem h, decOf_snoc]
theorem decOf_take_lt {l : List UInt8} (k : Nat) (h6 : l.length ≤ 6) (h : ∀ c ∈ l, isDigit c = true) : decOf (l.take k) < 1000000 := by
  have h1 := decOf_lt (l.take k) (fun c hc => h c (List.mem_of_mem_take hc))
  have h2 : (10 : Nat) ^ (l.take k).length ≤ 10 ^ 6 := Nat.pow_le_pow_right (by decide) (by rw [List.length_take]; omega)
  have h3 : (10 : Nat) ^ 6 = 1000000 := by decide
  omega
end Go.Proofs.YtgonfcdmaoeboaaGreatDoor

/- Plain: the parts of a text that may be a process's name. -/
namespace Go.Proofs.YtgonfcdmaoeboaaGreatDoor
open Go.RowKit

/-- how many digits lead -/
def digs : List UInt8 → Nat
  | [] => 0
  | c :: l => if isDigit c then digs l + 1 else 0
theorem digs_le : ∀ l, digs l ≤ l.length
  | [] => by simp [digs]
  | c :: l => by have := digs_le l; simp only [digs, List.length_cons]; split <;> omega
theorem digs_is : ∀ (l : List UInt8) (k : Nat) (_ : k ≤ l.length), (∀ i (h : i < k), isDigit (l[i]'(by omega)) = true) → (∀ (h : k < l.length), isDigit l[k] = false) → digs l = k
  | [], k, hk, _, _ => by simp at hk; simp [digs, hk]
  | c :: l, 0, _, _, h2 => by have := h2 (by simp); simp at this; simp [digs, this]
  | c :: l, k + 1, hk, h1, h2 => by
    have hc := h1 0 (by omega)
    simp at hc
    have := digs_is l k (by simpa using hk) (fun i h => by have := h1 (i + 1) (by omega); simpa using this) (fun h => by have := h2 (by simp; omega); simpa using this)
    simp [digs, hc, this]
theorem digs_digit : ∀ (l : List UInt8), ∀ c ∈ l.take (digs l), isDigit c = true
  | [], c, h => by simp at h
  | d :: l, c, h => by
    simp only [digs] at h
    split at h
    · rename_i hd
      simp only [List.take_succ_cons, List.mem_cons] at h
      rcases h with rfl | h
      · exact hd
      · exact digs_digit l c h
    · simp at h

/-- a part: its number, its offset, its error -/
abbrev Part := Nat × Nat × Nat
def partErr (k : Nat) (l : List UInt8) : Nat :=
  if k = 0 then 9 else if l = [] then 4 else if digs l = 0 then 6 else if l.head? = some 48 then 3 else if digs l > 6 then 2 else 0
def partOf (k at_ : Nat) (l : List UInt8) : Part := (if partErr k l = 0 then decOf (l.take (digs l)) else 0, at_, partErr k l)
/-- the parts of a text from offset at_ on, of which l is left and k parts may yet come -/
def lineParts : Nat → Nat → List UInt8 → List Part
  | 0, at_, l => [partOf 0 at_ l]
  | k + 1, at_, l => partOf (k + 1) at_ l ::
    if partErr (k + 1) l ≠ 0 then [] else
      match l.drop (digs l) with
      | [] => []
      | c :: r => if c ≠ 46 then [(0, at_ + digs l, 6)] else lineParts k (at_ + digs l + 1) r
def parts (l : List UInt8) : List Part := if l = [] then [] else lineParts 8 0 l

theorem parts_length : ∀ k at_ l, (lineParts k at_ l).length ≤ k + 2
  | 0, _, _ => by simp [lineParts]
  | k + 1, at_, l => by
    simp only [lineParts]
    split
    · simp
    · split
      · simp
      · split
        · simp
        · have := parts_length k (at_ + digs l + 1) ‹_›
          simp; omega

/-- a part that is no error has one to six digits -/
theorem partErr_zero {k : Nat} {l : List UInt8} (h : partErr k l = 0) : k ≠ 0 ∧ l ≠ [] ∧ 1 ≤ digs l ∧ digs l ≤ 6 := by
  unfold partErr at h
  repeat' split at h
  all_goals first | omega | exact ⟨by assumption, by assumption, by omega, by omega⟩

/-- what the loop over the parts leaves: the numbers, or the first error -/
def okParts (ps : List Part) : Prop := ∀ p ∈ ps, p.2.2 = 0
instance (ps : List Part) : Decidable (okParts ps) := by unfold okParts; infer_instance
def lineErr (l : List UInt8) : Option Part := (parts l).find? (fun p => decide (p.2.2 ≠ 0))
def lineOrds (l : List UInt8) : List Nat := (parts l).map (·.1)
def validName (l : List UInt8) : Bool := (lineErr l).isNone

theorem lineErr_none {l : List UInt8} (h : okParts (parts l)) : lineErr l = none := by
  unfold lineErr
  rw [List.find?_eq_none]
  intro p hp
  simp [h p hp]
theorem lineErr_some {l : List UInt8} {pre : List Part} {x : Part} (hp : pre ++ [x] <+: parts l) (ho : okParts pre) (hx : x.2.2 ≠ 0) : lineErr l = some x := by
  obtain ⟨r, hr⟩ := hp
  unfold lineErr
  rw [← hr, List.append_assoc, List.find?_append]
  have : pre.find? (fun p => decide (p.2.2 ≠ 0)) = none := by
    rw [List.find?_eq_none]; intro p hp; simp [ho p hp]
  rw [this]
  simp [hx]
/-- every part's number is that of at most six digits -/
theorem parts_ord : ∀ k at_ l, ∀ p ∈ lineParts k at_ l, p.1 < 1000000
  | 0, at_, l, p, hp => by
    simp [lineParts, partOf, partErr] at hp
    subst hp; simp
  | k + 1, at_, l, p, hp => by
    simp only [lineParts, List.mem_cons] at hp
    rcases hp with rfl | hp
    · unfold partOf
      split
      · rename_i h
        have h6 := partErr_zero h
        have h1 := decOf_lt (l.take (digs l)) (digs_digit l)
        have h2 : (10 : Nat) ^ (l.take (digs l)).length ≤ 10 ^ 6 := Nat.pow_le_pow_right (by decide) (by rw [List.length_take]; omega)
        have h3 : (10 : Nat) ^ 6 = 1000000 := by decide
        simp only; omega
      · simp
    · split at hp
      · simp at hp
      · split at hp
        · simp at hp
        · split at hp
          · simp at hp; subst hp; simp
          · exact parts_ord k _ _ p hp
theorem digs_str (s : List UInt8) (i j : Nat) (hij : i + j ≤ s.length) (h1 : ∀ t, t < j → ∀ h : i + t < (str s).size, isDigit ((str s)[i + t]'h) = true)
    (h2 : ∀ h : i + j < (str s).size, isDigit ((str s)[i + j]'h) = false) : digs (s.drop i) = j := by
  refine digs_is _ j (by simp; omega) (fun t h => ?_) (fun h => ?_)
  · rw [List.getElem_drop]
    have h' : i + t < (str s).size := by rw [str_size]; omega
    have := h1 t h h'
    rwa [str_get] at this
  · rw [List.getElem_drop]
    simp only [List.length_drop] at h
    have h' : i + j < (str s).size := by rw [str_size]; omega
    have := h2 h'
    rwa [str_get] at this
theorem drop_str (s : List UInt8) (i : Nat) (h : i < (str s).size) : s.drop i = (str s)[i]'h :: s.drop (i + 1) := by
  rw [str_get]
  exact List.drop_eq_getElem_cons _
theorem line_err {K a e : Nat} {l : List UInt8} (h : partErr K l = e) (he : e ≠ 0) : lineParts K a l = [(0, a, e)] := by
  cases K with
  | zero => simp [lineParts, partOf, h, he]
  | succ k => simp [lineParts, partOf, h, he]
theorem line_end {K a : Nat} {l : List UInt8} (h : partErr K l = 0) (hd : l.drop (digs l) = []) : lineParts K a l = [(decOf (l.take (digs l)), a, 0)] := by
  cases K with
  | zero => simp [partErr] at h
  | succ k =>
    rw [lineParts, hd]
    simp [partOf, h]
theorem line_bad {K a : Nat} {l r : List UInt8} {c : UInt8} (h : partErr K l = 0) (hd : l.drop (digs l) = c :: r) (hc : c ≠ 46) : lineParts K a l = [(decOf (l.take (digs l)), a, 0), (0, a + digs l, 6)] := by
  cases K with
  | zero => simp [partErr] at h
  | succ k =>
    rw [lineParts, hd]
    simp [partOf, h, hc]
theorem line_dot {K a : Nat} {l r : List UInt8} (h : partErr K l = 0) (hd : l.drop (digs l) = 46 :: r) : lineParts K a l = (decOf (l.take (digs l)), a, 0) :: lineParts (K - 1) (a + digs l + 1) r := by
  cases K with
  | zero => simp [partErr] at h
  | succ k =>
    rw [lineParts, hd]
    simp [partOf, h]
theorem partErr_9 (l : List UInt8) : partErr 0 l = 9 := by simp [partErr]
theorem partErr_4 {K : Nat} (hK : K ≠ 0) : partErr K [] = 4 := by simp [partErr, hK]
theorem partErr_6 {K : Nat} {l : List UInt8} (hK : K ≠ 0) (hl : l ≠ []) (hd : digs l = 0) : partErr K l = 6 := by simp [partErr, hK, hl, hd]
theorem partErr_3 {K : Nat} {r : List UInt8} (hK : K ≠ 0) (hd : digs (48 :: r) ≠ 0) : partErr K (48 :: r) = 3 := by simp [partErr, hK, hd]
theorem partErr_2 {K : Nat} {c : UInt8} {r : List UInt8} (hK : K ≠ 0) (hc : c ≠ 48) (hd : 6 < digs (c :: r)) : partErr K (c :: r) = 2 := by
  have : digs (c :: r) ≠ 0 := by omega
  simp [partErr, hK, hd, hc, this]
theorem partErr_0 {K : Nat} {c : UInt8} {r : List UInt8} (hK : K ≠ 0) (hc : c ≠ 48) (h1 : digs (c :: r) ≠ 0) (h6 : digs (c :: r) ≤ 6) : partErr K (c :: r) = 0 := by
  have : ¬ 6 < digs (c :: r) := by omega
  simp [partErr, hK, hc, h1, this]
example : validName [51, 46, 49] = true := by decide
example : lineOrds [51, 46, 49] = [3, 1] := by decide
example : validName [] = true := by decide
example : validName [51, 46] = false := by decide
end Go.Proofs.YtgonfcdmaoeboaaGreatDoor

/- Laws on slices, over any program: a slice that is only read ('sees'), and append, slicing and conversion on it. -/
namespace Go.Proofs.YtgonfcdmaoeboaaGreatDoor
open Go.RowKit

/-- THE SLICE VALUE v CAN BE READ: n elements, its cells are xs (size cells an element). Nothing is said of who owns it. -/
def Sees (w : World) (size : Nat) (v : Value) (n : Nat) (xs : List Value) : Prop :=
  xs.length = n * size ∧ ∃ ao c, v = .slice ao n c ∧ n ≤ c ∧ ((ao = none ∧ c = 0) ∨ ∃ b off, ao = some ⟨b, off, none⟩ ∧ (b < w.heap.size) ∧ ∀ j u, xs[j]? = some u → w.cell? ⟨b, off + j, none⟩ = some u)

theorem Sees.nil (w : World) (size : Nat) : Sees w size (.slice none 0 0) 0 [] := ⟨by simp, none, 0, rfl, Nat.le_refl _, .inl ⟨rfl, rfl⟩⟩

/-- All blocks below w's size are in w' as in w. -/
theorem Sees.below {w w' : World} {size : Nat} {v : Value} {n : Nat} {xs : List Value} (h : Sees w size v n xs) (hb : Below w.heap.size w w') : Sees w' size v n xs := by
  obtain ⟨h1, ao, c, rfl, hc, h2⟩ := h
  refine ⟨h1, ao, c, rfl, hc, ?_⟩
  rcases h2 with h2 | ⟨b, off, rfl, hlt, hcell⟩
  · exact .inl h2
  · exact .inr ⟨b, off, rfl, Nat.lt_of_lt_of_le hlt hb.size, fun j u hu => (hb.cell (p := ⟨b, off + j, none⟩) hlt).trans (hcell j u hu)⟩

/-- What lies below B stays. -/
def SeesBelow (B : Nat) (w : World) (size : Nat) (v : Value) (n : Nat) (xs : List Value) : Prop :=
  Sees w size v n xs ∧ ∀ k, v.ownBlock = some k → k < B

theorem Sees.kept {w w' : World} {size : Nat} {v : Value} {n : Nat} {xs : List Value} (h : Sees w size v n xs) (hs : w.heap.size ≤ w'.heap.size) (hb : ∀ k, v.ownBlock = some k → w'.heap[k]? = w.heap[k]?) : Sees w' size v n xs := by
  obtain ⟨h1, ao, c, rfl, hc, h2⟩ := h
  refine ⟨h1, ao, c, rfl, hc, ?_⟩
  rcases h2 with h2 | ⟨b, off, rfl, hlt, hcell⟩
  · exact .inl h2
  · exact .inr ⟨b, off, rfl, Nat.lt_of_lt_of_le hlt hs, fun j u hu => (World.cell?_of_block (w := w) (w' := w') (a := ⟨b, off + j, none⟩) (hb b rfl)).trans (hcell j u hu)⟩

theorem Sees.lt {w : World} {size : Nat} {v : Value} {n : Nat} {xs : List Value} (h : Sees w size v n xs) : ∀ k, v.ownBlock = some k → k < w.heap.size := by
  obtain ⟨_, ao, c, rfl, _, h2⟩ := h
  intro k hk
  rcases h2 with ⟨rfl, _⟩ | ⟨b, off, rfl, hlt, _⟩
  · simp [Value.ownBlock] at hk
  · simp [Value.ownBlock] at hk; omega

theorem Sees.belowB {w w' : World} {B size : Nat} {v : Value} {n : Nat} {xs : List Value} (h : Sees w size v n xs) (hv : ∀ k, v.ownBlock = some k → k < B) (hb : Below B w w') : Sees w' size v n xs :=
  h.kept hb.size (fun k hk => hb.block k (hv k hk))

/-- What is owned can be read. -/
theorem sees_of_owns {w : World} {base : Nat} {e : TypeId} {size : Nat} {v : Value} {n : Nat} {xs : List Value} (h : w.ownsRow base e size v n xs) : Sees w size v n xs := by
  refine ⟨h.1, ?_⟩
  rcases h.2 with ⟨rfl, rfl⟩ | ⟨g, cap, cur, rfl, hb, hg, hnc, hcm, hcs, ht⟩
  · exact ⟨none, 0, rfl, Nat.le_refl _, .inl ⟨rfl, rfl⟩⟩
  · refine ⟨_, cap, rfl, hnc, .inr ⟨g, 0, rfl, (Array.getElem?_eq_some_iff.1 hg).1, fun j u hu => ?_⟩⟩
    have := h.cells (g := g) rfl j u hu
    rw [Addr.add_lit] at this
    exact this

/-- A new row of cells, seen whole. -/
theorem sees_new (w : World) (C : Array Value) (e : TypeId) (f : Nat × Nat) (size n c : Nat) (hn : C.size = n * size) (hc : n ≤ c) : Sees (w.alloc (.cells C e f)) size (.slice (some ⟨w.heap.size, 0, none⟩) n c) n C.toList := by
  refine ⟨by simpa using hn, _, c, rfl, hc, .inr ⟨w.heap.size, 0, rfl, by simp, fun j u hu => ?_⟩⟩
  have : (w.alloc (.cells C e f)).heap[w.heap.size]? = some (.cells C e f) := by
    show (w.heap.push _)[w.heap.size]? = _
    simp
  unfold World.cell?
  simp only [this]
  simpa using hu

/-- append(s, x...), s the call's own, x any slice that can be read. -/
theorem wpList_append_sees {P : Program} (w : World) {ops : Array Oper} {rest : List Oper} {o : Oper} {a : Act} {Q : Exit → Act → World → Prop} (hgd : o.guard = none) (s x : Operand) (t : TypeId)
    (ho : o.op = .call { callee := .builtin .append, args := #[s, x], argTypes := #[t, t] })
    (base : Nat) (e : TypeId) (z : Value) (size bytes : Nat) (ht : P.underlying t = some (.slice e)) (hinfo : (P.info? e).map (fun i => (i.zero, i.size, i.bytes)) = some (some z, size, bytes))
    (hzs : z.cells.size = size) (hsz : 0 < size)
    {v : Value} {n : Nat} {xs : List Value} (hown : w.ownsRow base e size v n xs) (hs : a.eval s = v)
    {vx : Value} {m : Nat} {news : List Value} (hsee : Sees w size vx m news) (hx : a.eval x = vx) (h1 : ∀ u ∈ news, u.oneCell' = true)
    (h63 : n + m ≤ maxLen) (hbytes : (n + m) * bytes ≤ 140737488355328) (hbase : base ≤ w.heap.size)
    (h : ∀ v' w', w'.ownsRow base e size v' (n + m) (xs ++ news) → w.grownBy w' v.ownBlock → (v' = .slice none 0 0 ↔ v = .slice none 0 0 ∧ m = 0) → wpList P ops Q rest (a.put o.dst v') w') : wpList P ops Q (o :: rest) a w := by
  obtain ⟨i, hi, hz0, hz1, hz2⟩ := info_parts hinfo
  obtain ⟨hl, ao, c, rfl, hc, h2⟩ := hsee
  rcases h2 with ⟨rfl, rfl⟩ | ⟨b, off, rfl, hlt, hcell⟩
  · obtain rfl : m = 0 := by omega
    obtain rfl : news = [] := List.eq_nil_of_length_eq_zero (by simpa using hl)
    refine wpList_plain hgd fun K' hK' => ?_
    have hrun := run_append_owned_none (P := P) w base t o.type e i size ht hi _ n xs hown
    unfold Oper.wp
    simp [execOp, ho, resolve, invoke, builtin, hs, hx, hrun, Result.andThen]
    exact hK' _ _ (by simpa using h v w (by simpa using hown) (World.grownBy.refl _ _) (by simp))
  · exact wpList_append_own w hgd s x t ho base e i z size bytes ht hi hz0 hz1 hz2 hzs hsz v n xs hs hown ⟨b, off, none⟩ m c news hx hl (fun j u hu => by rw [Addr.add_lit]; exact hcell j u hu) h1 h63 hbytes hbase h

/-- append(s, x1, .., xm): the literal's row lies behind everything. -/
theorem wpList_append_lit {P : Program} (w0 : World) {ops : Array Oper} {rest : List Oper} {o : Oper} {a : Act} {Q : Exit → Act → World → Prop} (C : Array Value) (hgd : o.guard = none) (s x : Operand) (t : TypeId)
    (ho : o.op = .call { callee := .builtin .append, args := #[s, x], argTypes := #[t, t] })
    (base : Nat) (e : TypeId) (z : Value) (size bytes : Nat) (ht : P.underlying t = some (.slice e)) (hinfo : (P.info? e).map (fun i => (i.zero, i.size, i.bytes)) = some (some z, size, bytes))
    (hzs : z.cells.size = size) (hsz : 0 < size)
    {v : Value} {n : Nat} {xs : List Value} (hown : w0.ownsRow base e size v n xs) (hs : a.eval s = v)
    (m : Nat) (hx : a.eval x = .slice (some ⟨w0.heap.size, 0, none⟩) m m) (hm : C.size = m * size) (h1 : ∀ u ∈ C.toList, u.oneCell' = true)
    (h63 : n + m ≤ maxLen) (hbytes : (n + m) * bytes ≤ 140737488355328) (hbase : base ≤ w0.heap.size)
    (h : ∀ v' w', w'.ownsRow base e size v' (n + m) (xs ++ C.toList) → w0.grownBy w' v.ownBlock → (v' = .slice none 0 0 ↔ v = .slice none 0 0 ∧ m = 0) → wpList P ops Q rest (a.put o.dst v') w') : wpList P ops Q (o :: rest) a (w0.alloc (.cells C e)) := by
  refine wpList_append_sees (w0.alloc (.cells C e)) hgd s x t ho base e z size bytes ht hinfo hzs hsz (hown.alloc _) hs (sees_new w0 C e (0, 0) size m m hm (Nat.le_refl _)) hx h1 h63 hbytes (by simp; omega) ?_
  intro v' w' r1 r2 r3
  refine h v' w' r1 ⟨r2.os, r2.tape, r2.output, ?_, ?_⟩ r3
  · have := r2.size; simp at this; omega
  · intro k hk hne
    rw [r2.block k (by simp; omega) hne]
    exact Below.heap_alloc _ _ _ hk

end Go.Proofs.YtgonfcdmaoeboaaGreatDoor

/- Laws, over any program: a block known whole; append, and where its result lies. -/
namespace Go.Proofs.YtgonfcdmaoeboaaGreatDoor
open Go.RowKit

/-- block b is the row cs of type t, no cell frozen -/
def Blk (w : World) (b : Nat) (cs : Array Value) (t : TypeId) : Prop := w.heap[b]? = some (.cells cs t (0, 0))
section
variable {w w' : World} {b B : Nat} {cs : Array Value} {t : TypeId}
theorem Blk.lt (h : Blk w b cs t) : b < w.heap.size := (Array.getElem?_eq_some_iff.1 h).1
theorem Blk.cell (h : Blk w b cs t) (j : Nat) : w.cell? ⟨b, j, none⟩ = cs[j]? := cell_of_row w b j cs t (0, 0) h
theorem Blk.frozen (h : Blk w b cs t) (j : Nat) : w.frozen? ⟨b, j, none⟩ = false := frozen_of_row w b j cs t h
theorem Blk.new (w : World) (cs : Array Value) (t : TypeId) : Blk (w.alloc (.cells cs t)) w.heap.size cs t := by
  show (w.heap.push _)[w.heap.size]? = _
  simp
theorem Blk.alloc (h : Blk w b cs t) (o : Obj) : Blk (w.alloc o) b cs t := (Below.heap_alloc w o b h.lt).trans h
theorem Blk.drew (h : Blk w b cs t) : Blk w.drew b cs t := h
theorem Blk.set (h : Blk w b cs t) (j : Nat) (v : Value) : Blk (w.setCell ⟨b, j, none⟩ v) b (cs.setIfInBounds j v) t := heap_setCell_same w b j cs t v h
theorem Blk.setOther (h : Blk w b cs t) {a : Addr} (hne : b ≠ a.block) (v : Value) : Blk (w.setCell a v) b cs t := (heap_setCell_other w a b v hne).trans h
theorem Blk.below (h : Blk w b cs t) (hb : Below B w w') (hlt : b < B) : Blk w' b cs t := (hb.block b hlt).trans h
theorem Blk.grown (h : Blk w b cs t) {row : Option Nat} (hg : w.grownBy w' row) (hne : some b ≠ row) : Blk w' b cs t := (hg.block b h.lt hne).trans h
theorem Blk.congr {cs' : Array Value} (h : Blk w b cs t) (e : cs = cs') : Blk w b cs' t := e ▸ h
theorem Blk.inj {cs' : Array Value} {t' : TypeId} (h : Blk w b cs t) (h' : Blk w b cs' t') : cs = cs' ∧ t = t' := by
  have := h.symm.trans h'
  simp at this
  exact this
end

/-- the four facts that a walk wants of a block of two cells -/
theorem Blk.two {w : World} {b : Nat} {x y : Value} {t : TypeId} (h : Blk w b #[x, y] t) :
    w.cell? ⟨b, 0, none⟩ = some x ∧ w.cell? ⟨b, 1, none⟩ = some y ∧ w.frozen? ⟨b, 0, none⟩ = false ∧ w.frozen? ⟨b, 1, none⟩ = false :=
  ⟨by rw [h.cell]; rfl, by rw [h.cell]; rfl, h.frozen 0, h.frozen 1⟩
theorem Blk.three {w : World} {b : Nat} {x y z : Value} {t : TypeId} (h : Blk w b #[x, y, z] t) :
    w.cell? ⟨b, 0, none⟩ = some x ∧ w.cell? ⟨b, 1, none⟩ = some y ∧ w.cell? ⟨b, 2, none⟩ = some z ∧ w.frozen? ⟨b, 0, none⟩ = false ∧ w.frozen? ⟨b, 1, none⟩ = false ∧ w.frozen? ⟨b, 2, none⟩ = false :=
  ⟨by rw [h.cell]; rfl, by rw [h.cell]; rfl, by rw [h.cell]; rfl, h.frozen 0, h.frozen 1, h.frozen 2⟩

theorem owns_eq {w : World} {base : Nat} {e : TypeId} {size : Nat} {v : Value} {n n' : Nat} {xs xs' : List Value} (h : w.ownsRow base e size v n xs) (hn : n = n') (hx : xs = xs') : w.ownsRow base e size v n' xs' := by
  subst hn; subst hx; exact h
theorem sees_eq {w : World} {size : Nat} {v : Value} {n n' : Nat} {xs xs' : List Value} (h : Sees w size v n xs) (hn : n = n') (hx : xs = xs') : Sees w size v n' xs' := by
  subst hn; subst hx; exact h
theorem owns_mono {w : World} {base base' : Nat} {e : TypeId} {size : Nat} {v : Value} {n : Nat} {xs : List Value} (h : w.ownsRow base e size v n xs) (hb : base' ≤ base) : w.ownsRow base' e size v n xs := by
  refine ⟨h.1, ?_⟩
  rcases h.2 with h2 | ⟨g, cap, cur, h1, h2, h3⟩
  · exact .inl h2
  · exact .inr ⟨g, cap, cur, h1, Nat.le_trans hb h2, h3⟩
theorem owns_below {w w' : World} {base : Nat} {e : TypeId} {size : Nat} {v : Value} {n : Nat} {xs : List Value} (h : w.ownsRow base e size v n xs) (hb : Below w.heap.size w w') : w'.ownsRow base e size v n xs :=
  h.kept (row := none) ⟨hb.os, hb.tape, hb.output, hb.size, fun k hk _ => hb.block k hk⟩ (by cases hv : v.ownBlock <;> simp)
theorem owns_ne {w : World} {base : Nat} {e : TypeId} {size : Nat} {v : Value} {n : Nat} {xs : List Value} (h : w.ownsRow base e size v n xs) {b : Nat} (hb : b < base) : some b ≠ v.ownBlock := fun e => by
  have := (h.lt b e.symm).1
  omega
theorem owns_slice {w : World} {base : Nat} {e : TypeId} {size : Nat} {v : Value} {n : Nat} {xs : List Value} (h : w.ownsRow base e size v n xs) : ∃ a c, v = .slice a n c := by
  rcases h.2 with ⟨rfl, rfl⟩ | ⟨g, cap, cur, rfl, _⟩
  · exact ⟨_, _, rfl⟩
  · exact ⟨_, _, rfl⟩
theorem sees_slice {w : World} {size : Nat} {v : Value} {n : Nat} {xs : List Value} (h : Sees w size v n xs) : ∃ a c, v = .slice a n c := by
  obtain ⟨_, a, c, rfl, _⟩ := h
  exact ⟨a, c, rfl⟩

/-- append, and where its result lies: in the same row, or in a new one behind everything -/
theorem run_append_where {P : Program} (w : World) (base : Nat) (t ty e : TypeId) (z : Value) (size bytes : Nat) (ht : P.underlying t = some (.slice e))
    (hinfo : (P.info? e).map (fun i => (i.zero, i.size, i.bytes)) = some (some z, size, bytes)) (hzs : z.cells.size = size) (hsz : 0 < size)
    {v : Value} {n : Nat} {xs : List Value} (hown : w.ownsRow base e size v n xs) {vx : Value} {m : Nat} {news : List Value} (hsee : Sees w size vx m news) (h1 : ∀ u ∈ news, u.oneCell' = true)
    (h63 : n + m ≤ maxLen) (hbytes : (n + m) * bytes ≤ 140737488355328) (hbase : base ≤ w.heap.size) :
    ∃ v' w', (Builtin.append_ #[t, t] ty #[v, vx]).run P w = .ok v' w' ∧ w'.ownsRow base e size v' (n + m) (xs ++ news) ∧ w.grownBy w' v.ownBlock ∧
      (v'.ownBlock = v.ownBlock ∨ v'.ownBlock = some w.heap.size) ∧ (v' = .slice none 0 0 ↔ v = .slice none 0 0 ∧ m = 0) := by
  obtain ⟨i, hi, hz0, hz1, hz2⟩ := info_parts hinfo
  obtain ⟨hl, ao, c, rfl, hc, h2⟩ := hsee
  rcases h2 with ⟨rfl, rfl⟩ | ⟨b, off, rfl, hlt, hcell⟩
  · obtain rfl : m = 0 := by omega
    obtain rfl : news = [] := List.eq_nil_of_length_eq_zero (by simpa using hl)
    exact ⟨v, w, run_append_owned_none (P := P) w base t ty e i size ht hi _ n xs hown, by simpa using hown, World.grownBy.refl _ _, .inl rfl, by simp⟩
  · have hnews : ∀ j u, news[j]? = some u → w.cell? ((⟨b, off, none⟩ : Addr).add j) = some u := fun j u hu => by rw [Addr.add_lit]; exact hcell j u hu
    obtain ⟨v', w', hr, r1, r2, r3⟩ := run_append_own (P := P) w base t ty e i z size bytes ht hi hz0 hz1 hz2 hzs hsz v n xs hown ⟨b, off, none⟩ m c news hl hnews h1 h63 hbytes hbase
    refine ⟨v', w', hr, r1, r2, ?_, r3⟩
    subst hz1
    subst hz2
    have hsmall : n + m ≤ 9223372036854775807 := by simp only [maxLen] at h63; omega
    rcases hown.2 with ⟨rfl, rfl⟩ | ⟨g, cap, cur, rfl, hbg, hg, hnc, hcm, hcs, htake⟩
    · by_cases hm : m = 0
      · subst hm
        left
        have := r3.2 ⟨rfl, rfl⟩
        rw [this]
      · right
        have hr2 := run_append_nil (P := P) w t ty e i z ht hi hz0 ⟨b, off, none⟩ m c news hl hnews (by omega) (by omega) (by simp only [Nat.zero_add] at hbytes; omega)
        have e1 := hr.symm.trans hr2
        simp only [Result.ok.injEq] at e1
        rw [e1.1]
        rfl
    · by_cases hroom : n + m ≤ cap
      · left
        have hfit : n * i.size + news.length ≤ cur.size := by rw [hl, hcs, ← Nat.add_mul]; exact Nat.mul_le_mul_right _ hroom
        have hr2 := run_append_room (P := P) w t ty e i ht hi g n cap cur hg ⟨b, off, none⟩ m c news hl hnews h1 hroom hfit
        have e1 := hr.symm.trans hr2
        simp only [Result.ok.injEq] at e1
        rw [e1.1]
        rfl
      · right
        have holds := hown.cells (g := g) rfl
        have hr2 := run_append_grow (P := P) w t ty e i z ht hi hz0 ⟨g, 0, none⟩ n cap xs hown.1 holds ⟨b, off, none⟩ m c news hl hnews (by omega) (by omega) (growslice_fits (by omega) hbytes)
        have e1 := hr.symm.trans hr2
        simp only [Result.ok.injEq] at e1
        rw [e1.1]
        rfl

/-- append at the operation: what is appended may be any slice that can be read; the result's row is the old one or a new one. -/
theorem wpList_append_where {P : Program} (w : World) {ops : Array Oper} {rest : List Oper} {o : Oper} {a : Act} {Q : Exit → Act → World → Prop} (hgd : o.guard = none) (s x : Operand) (t : TypeId)
    (ho : o.op = .call { callee := .builtin .append, args := #[s, x], argTypes := #[t, t] })
    (base : Nat) (e : TypeId) (z : Value) (size bytes : Nat) (ht : P.underlying t = some (.slice e)) (hinfo : (P.info? e).map (fun i => (i.zero, i.size, i.bytes)) = some (some z, size, bytes))
    (hzs : z.cells.size = size) (hsz : 0 < size)
    {v : Value} {n : Nat} {xs : List Value} (hown : w.ownsRow base e size v n xs) (hs : a.eval s = v)
    {vx : Value} {m : Nat} {news : List Value} (hsee : Sees w size vx m news) (hx : a.eval x = vx) (h1 : ∀ u ∈ news, u.oneCell' = true)
    (h63 : n + m ≤ maxLen) (hbytes : (n + m) * bytes ≤ 140737488355328) (hbase : base ≤ w.heap.size)
    (h : ∀ v' w', w'.ownsRow base e size v' (n + m) (xs ++ news) → w.grownBy w' v.ownBlock → (v'.ownBlock = v.ownBlock ∨ v'.ownBlock = some w.heap.size) → (v' = .slice none 0 0 ↔ v = .slice none 0 0 ∧ m = 0) →
      wpList P ops Q rest (a.put o.dst v') w') : wpList P ops Q (o :: rest) a w := by
  refine wpList_plain hgd fun K' hK' => ?_
  obtain ⟨v', w', hr, r1, r2, r3, r4⟩ := run_append_where (P := P) w base t o.type e z size bytes ht hinfo hzs hsz hown hsee h1 h63 hbytes hbase
  unfold Oper.wp execOp
  simp only [ho, resolve, invoke, builtin, Sem.run_bind, Sem.run_pure, Result.andThen_ok, List.map_toArray, List.map_cons, List.map_nil, hs, hx, hr]
  exact hK' _ _ (h v' w' r1 r2 r3 r4)


/-- append inside a region that draws its order -/
theorem step_append_where {P : Program} (w : World) {o : Oper} {a : Act} {K : Act → World → Prop} {Q : Exit → Act → World → Prop} (s x : Operand) (t : TypeId)
    (ho : o.op = .call { callee := .builtin .append, args := #[s, x], argTypes := #[t, t] })
    (base : Nat) (e : TypeId) (z : Value) (size bytes : Nat) (ht : P.underlying t = some (.slice e)) (hinfo : (P.info? e).map (fun i => (i.zero, i.size, i.bytes)) = some (some z, size, bytes))
    (hzs : z.cells.size = size) (hsz : 0 < size)
    {v : Value} {n : Nat} {xs : List Value} (hown : w.ownsRow base e size v n xs) (hs : a.eval s = v)
    {vx : Value} {m : Nat} {news : List Value} (hsee : Sees w size vx m news) (hx : a.eval x = vx) (h1 : ∀ u ∈ news, u.oneCell' = true)
    (h63 : n + m ≤ maxLen) (hbytes : (n + m) * bytes ≤ 140737488355328) (hbase : base ≤ w.heap.size)
    (h : ∀ v' w', w'.ownsRow base e size v' (n + m) (xs ++ news) → w.grownBy w' v.ownBlock → (v'.ownBlock = v.ownBlock ∨ v'.ownBlock = some w.heap.size) → (v' = .slice none 0 0 ↔ v = .slice none 0 0 ∧ m = 0) →
      K (a.put o.dst v') w') : o.wp P a w K Q := by
  obtain ⟨v', w', hr, r1, r2, r3, r4⟩ := run_append_where (P := P) w base t o.type e z size bytes ht hinfo hzs hsz hown hsee h1 h63 hbytes hbase
  unfold Oper.wp execOp
  simp only [ho, resolve, invoke, builtin, Sem.run_bind, Sem.run_pure, Result.andThen_ok, List.map_toArray, List.map_cons, List.map_nil, hs, hx, hr]
  exact h v' w' r1 r2 r3 r4
end Go.Proofs.YtgonfcdmaoeboaaGreatDoor

/- Laws at the operation, over any program: conversions between strings and bytes; slicing a slice that can be read. -/
namespace Go.Proofs.YtgonfcdmaoeboaaGreatDoor
open Go.RowKit

theorem below_draw_alloc (w : World) (o : Obj) : Below w.heap.size w (w.drew.alloc o) := ((Below.refl _ w).drew).alloc (Nat.le_refl _) o

/-- '[]byte(s)' -/
theorem wpList_bytes_of_string {P : Program} (w : World) {ops : Array Oper} {rest : List Oper} {o : Oper} {a : Act} {Q : Exit → Act → World → Prop} (hgd : o.guard = none) (src dst e : TypeId) (x : Operand) (ho : o.op = .convert src dst x)
    (hs : P.underlying src = some .string) (hd : P.underlying dst = some (.slice e)) (he : P.underlying e = some (.int .u8)) (s : ByteArray) (hx : a.eval x = .string s)
    (h : ∀ cap w', s.size ≤ cap → Sees w' 1 (.slice (some ⟨w.heap.size, 0, none⟩) s.size cap) s.size (s.data.toList.map bval) → Below w.heap.size w w' → w.heap.size < w'.heap.size →
      wpList P ops Q rest (a.put o.dst (.slice (some ⟨w.heap.size, 0, none⟩) s.size cap)) w') : wpList P ops Q (o :: rest) a w := by
  refine wpList_plain hgd fun K' hK' => ?_
  have hrun := run_bytes_of_string (P := P) w src dst e s hs hd he
  have hge := grownCap_ge w s.size 0 e
  unfold Oper.wp
  simp [execOp, ho, hx, hrun, Result.andThen]
  refine hK' _ _ (h _ _ hge ?_ (below_draw_alloc _ _) (by simp))
  refine ⟨by simp, _, _, rfl, hge, .inr ⟨w.heap.size, 0, rfl, by simp, fun j u hu => ?_⟩⟩
  have hj : j < s.data.toList.length := by
    have := (List.getElem?_eq_some_iff.1 hu).1
    simpa using this
  have hc := World.cell?_alloc_mark w.drew (bytesRow s (grownCap w s.size 0 e)) e ((bytesRow s (grownCap w s.size 0 e)).size, (bytesRow s (grownCap w s.size 0 e)).size + 1) j
  have hz : w.drew.heap.size = w.heap.size := rfl
  rw [hz] at hc
  simp only [Nat.zero_add]
  rw [hc]
  have hj' : j < s.data.size := by simpa using hj
  simp only [bytesRow]
  rw [Array.getElem?_append_left (by simpa using hj')]
  rw [← hu]
  rw [← Array.getElem?_toList, Array.toList_map]
  rfl

/-- 'string(b)' -/
theorem wpList_string_of_bytes {P : Program} (w : World) {ops : Array Oper} {rest : List Oper} {o : Oper} {a : Act} {Q : Exit → Act → World → Prop} (hgd : o.guard = none) (src dst e : TypeId) (x : Operand) (ho : o.op = .convert src dst x)
    (hs : P.underlying src = some (.slice e)) (he : P.underlying e = some (.int .u8)) (hd : P.underlying dst = some .string) {v : Value} {n : Nat} {bs : List UInt8} (hsee : Sees w 1 v n (bs.map bval)) (hx : a.eval x = v)
    (h : wpList P ops Q rest (a.put o.dst (.string (str bs))) w) : wpList P ops Q (o :: rest) a w := by
  refine wpList_plain hgd fun K' hK' => ?_
  obtain ⟨hl, ao, c, rfl, hc, h2⟩ := hsee
  have hn : bs.length = n := by simpa using hl
  subst hn
  have hrun : (convert src dst (.slice ao bs.length c)).run P w = .ok (.string ⟨bs.toArray⟩) w := by
    rcases h2 with ⟨rfl, rfl⟩ | ⟨b, off, rfl, hlt, hcell⟩
    · have : bs = [] := List.eq_nil_of_length_eq_zero (by omega)
      subst this
      rw [run_convert_bytes_string w src dst e _ _ _ hs he hd]
      simp [Conv.bytesToString, Sem.run_pure]
      rfl
    · refine run_convert_bytes_back w src dst e ⟨b, off, none⟩ c bs hs he hd (fun j hj => ?_)
      rw [Addr.add_lit]
      exact hcell j _ (by simp [hj, bval])
  unfold Oper.wp
  simp [execOp, ho, hx, hrun, Result.andThen]
  exact hK' _ _ h

theorem sees_sliced {w : World} {size : Nat} {ao : Option Addr} {n c : Nat} {xs : List Value} (h : Sees w size (.slice ao n c) n xs) (l hi : Nat) (h1 : l ≤ hi) (h2 : hi ≤ n) :
    Sees w size (sliced ao l hi c size) (hi - l) ((xs.drop (l * size)).take ((hi - l) * size)) ∧ (sliced ao l hi c size).ownBlock = (Value.slice ao n c).ownBlock := by
  obtain ⟨hl, ao', c', e, hc, h3⟩ := h
  simp only [Value.slice.injEq, true_and] at e
  obtain ⟨rfl, rfl⟩ := e
  refine ⟨⟨?_, _, _, rfl, by omega, ?_⟩, ?_⟩
  · rw [List.length_take, List.length_drop, hl, ← Nat.mul_sub_right_distrib]
    have : (hi - l) * size ≤ (n - l) * size := Nat.mul_le_mul_right _ (by omega)
    omega
  · rcases h3 with ⟨rfl, rfl⟩ | ⟨b, off, rfl, hlt, hcell⟩
    · left
      exact ⟨by split <;> rfl, by omega⟩
    · right
      by_cases hml : c = l
      · refine ⟨b, off, by rw [if_pos hml], hlt, fun j u hu => ?_⟩
        have : (hi - l) * size = 0 := by rw [show hi - l = 0 by omega]; simp
        rw [this] at hu
        simp at hu
      · refine ⟨b, off + l * size, by rw [if_neg hml]; simp [Addr.add_lit], hlt, fun j u hu => ?_⟩
        rw [Nat.add_assoc]
        refine hcell (l * size + j) u ?_
        rw [List.getElem?_take] at hu
        split at hu
        · rw [List.getElem?_drop] at hu; exact hu
        · cases hu
  · unfold sliced Value.ownBlock
    by_cases hml : c = l
    · cases ao <;> simp [hml]
    · cases ao <;> simp [hml, Addr.add]
      split <;> simp

theorem sees_at {w : World} {size : Nat} {v : Value} {n : Nat} {xs : List Value} (h : Sees w size v n xs) : ∃ ao c, v = .slice ao n c ∧ n ≤ c := by
  obtain ⟨_, ao, c, rfl, hc, _⟩ := h
  exact ⟨ao, c, rfl, hc⟩

/-- 'x[lo:]' -/
theorem wpList_slice_from {P : Program} (w : World) {ops : Array Oper} {rest : List Oper} {o : Oper} {a : Act} {Q : Exit → Act → World → Prop} (hgd : o.guard = none) (t : TypeId) (x lo : Operand) (ho : o.op = .slice t x (some lo) none none)
    (ht : P.underlying t = some (.slice (P.elem t))) (size : Nat) (hsz : ∀ w, (sizeOf (P.elem t)).run P w = .ok size w) {v : Value} {n : Nat} {xs : List Value} (hsee : Sees w size v n xs) (hx : a.eval x = v) (k : IntKind) (l : Nat) (hlo : a.eval lo = .int k l) (hle : l ≤ n)
    (h : ∀ v', Sees w size v' (n - l) (xs.drop (l * size)) → v'.ownBlock = v.ownBlock → wpList P ops Q rest (a.put o.dst v') w) : wpList P ops Q (o :: rest) a w := by
  refine wpList_plain hgd fun K' hK' => ?_
  obtain ⟨ao, c, rfl, hc⟩ := sees_at hsee
  have h1 := sees_sliced hsee l n hle (Nat.le_refl _)
  have hrun : (Instr.sliceAt t (.slice ao n c) (some (.int k l)) none none).run P w = .ok (sliced ao l n c size) w := by
    rw [run_sliceAt_slice w t _ _ _ _ ht, run_slice_l (P := P) w t ao n c ht k l (by omega) (by omega), hsz w]
    simp [Result.andThen]
  have hl0 := hsee.1
  rw [List.take_of_length_le (by rw [List.length_drop, hl0, ← Nat.mul_sub_right_distrib]; exact Nat.le_refl _)] at h1
  unfold Oper.wp
  simp [execOp, ho, hx, hlo, hrun, Result.andThen]
  exact hK' _ _ (h _ h1.1 h1.2)

/-- 'x[:hi]' -/
theorem wpList_slice_to {P : Program} (w : World) {ops : Array Oper} {rest : List Oper} {o : Oper} {a : Act} {Q : Exit → Act → World → Prop} (hgd : o.guard = none) (t : TypeId) (x hi : Operand) (ho : o.op = .slice t x none (some hi) none)
    (ht : P.underlying t = some (.slice (P.elem t))) (size : Nat) (hsz : ∀ w, (sizeOf (P.elem t)).run P w = .ok size w) {v : Value} {n : Nat} {xs : List Value} (hsee : Sees w size v n xs) (hx : a.eval x = v) (k : IntKind) (l : Nat) (hlo : a.eval hi = .int k l) (hle : l ≤ n)
    (h : ∀ v', Sees w size v' l (xs.take (l * size)) → v'.ownBlock = v.ownBlock → wpList P ops Q rest (a.put o.dst v') w) : wpList P ops Q (o :: rest) a w := by
  refine wpList_plain hgd fun K' hK' => ?_
  obtain ⟨ao, c, rfl, hc⟩ := sees_at hsee
  have h1 := sees_sliced hsee 0 l (Nat.zero_le _) hle
  have hrun : (Instr.sliceAt t (.slice ao n c) none (some (.int k l)) none).run P w = .ok (sliced ao 0 l c size) w := by
    rw [run_sliceAt_slice w t _ _ _ _ ht, run_slice_h (P := P) w t ao n c ht k l (by omega) (by omega), hsz w]
    simp [Result.andThen]
  simp only [Nat.zero_mul, List.drop_zero, Nat.sub_zero] at h1
  unfold Oper.wp
  simp [execOp, ho, hx, hlo, hrun, Result.andThen]
  exact hK' _ _ (h _ h1.1 h1.2)

/-- 'x[lo:hi]' -/
theorem wpList_slice_mid {P : Program} (w : World) {ops : Array Oper} {rest : List Oper} {o : Oper} {a : Act} {Q : Exit → Act → World → Prop} (hgd : o.guard = none) (t : TypeId) (x lo hi : Operand) (ho : o.op = .slice t x (some lo) (some hi) none)
    (ht : P.underlying t = some (.slice (P.elem t))) (size : Nat) (hsz : ∀ w, (sizeOf (P.elem t)).run P w = .ok size w) {v : Value} {n : Nat} {xs : List Value} (hsee : Sees w size v n xs) (hx : a.eval x = v) (k k' : IntKind) (l m : Nat) (hlo : a.eval lo = .int k l) (hhi : a.eval hi = .int k' m)
    (h1 : l ≤ m) (hle : m ≤ n)
    (h : ∀ v', Sees w size v' (m - l) ((xs.drop (l * size)).take ((m - l) * size)) → v'.ownBlock = v.ownBlock → wpList P ops Q rest (a.put o.dst v') w) : wpList P ops Q (o :: rest) a w := by
  refine wpList_plain hgd fun K' hK' => ?_
  obtain ⟨ao, c, rfl, hc⟩ := sees_at hsee
  have h2 := sees_sliced hsee l m h1 hle
  have hrun : (Instr.sliceAt t (.slice ao n c) (some (.int k l)) (some (.int k' m)) none).run P w = .ok (sliced ao l m c size) w := by
    rw [run_sliceAt_slice w t _ _ _ _ ht, run_slice_lh (P := P) w t ao n c ht k k' l m (by omega) (by omega) (by omega), hsz w]
    simp [Result.andThen]
  unfold Oper.wp
  simp [execOp, ho, hx, hlo, hhi, hrun, Result.andThen]
  exact hK' _ _ (h _ h2.1 h2.2)

theorem quiet_of_eq {P : Program} {f : FuncId} {args : Array Value} {w : World} {n : Nat} {v : Value}
    (h : Calls P f args (w.drewN n) fun e w' => e = .returned v ∧ w.drewN n = w') : Calls P f args (w.drewN n) fun e w'' => e = .returned v ∧ ∃ m, w'' = w.drewN m :=
  h.mono fun _ _ ⟨he, hm⟩ => ⟨he, n, hm.symm⟩
theorem below_drewN (B : Nat) (w : World) (n : Nat) : Below B w (w.drewN n) := ⟨rfl, rfl, rfl, Nat.le_refl _, fun _ _ => rfl⟩

/-- 'x[lo:]' as an equation: for the walk's context. -/
theorem run_slice_from {P : Program} (t : TypeId) (ht : P.underlying t = some (.slice (P.elem t))) (size : Nat) (hsz : ∀ w, (sizeOf (P.elem t)).run P w = .ok size w) (ao : Option Addr) (n c l : Nat) (hle : l ≤ n) (w : World) :
    (Instr.sliceAt t (.slice ao n c) (some (.int .i64 l)) none none).run P w = .ok (sliced ao l n c size) w := by
  rw [run_sliceAt_slice w t _ _ _ _ ht, run_slice_l (P := P) w t ao n c ht .i64 l (by omega) (by omega), hsz w]
  simp [Result.andThen]
end Go.Proofs.YtgonfcdmaoeboaaGreatDoor

/- Cells are kept where the old blocks are: what a region that draws its order asks behind each call. -/
namespace Go.Proofs.YtgonfcdmaoeboaaGreatDoor
open Go.RowKit

theorem cell_keep {w w' : World} {a : Addr} {v : Value} (h : w.cell? a = some v) (hb : Below w.heap.size w w') : w'.cell? a = some v := by
  have hlt : a.block < w.heap.size := by
    unfold World.cell? at h
    split at h
    · rename_i hh; exact (Array.getElem?_eq_some_iff.1 hh).1
    · cases h
  rw [hb.cell hlt]; exact h
theorem keep2 {w w' : World} {a0 : Addr} {v0 : Value} {a1 : Addr} {v1 : Value} (hb : Below w.heap.size w w') (h : w.cell? a0 = some v0 ∧ w.cell? a1 = some v1) : w'.cell? a0 = some v0 ∧ w'.cell? a1 = some v1 := by
  obtain ⟨h0, h1⟩ := h
  exact ⟨cell_keep h0 hb, cell_keep h1 hb⟩
theorem keep4 {w w' : World} {a0 : Addr} {v0 : Value} {a1 : Addr} {v1 : Value} {a2 : Addr} {v2 : Value} {a3 : Addr} {v3 : Value} (hb : Below w.heap.size w w') (h : w.cell? a0 = some v0 ∧ w.cell? a1 = some v1 ∧ w.cell? a2 = some v2 ∧ w.cell? a3 = some v3) : w'.cell? a0 = some v0 ∧ w'.cell? a1 = some v1 ∧ w'.cell? a2 = some v2 ∧ w'.cell? a3 = some v3 := by
  obtain ⟨h0, h1, h2, h3⟩ := h
  exact ⟨cell_keep h0 hb, cell_keep h1 hb, cell_keep h2 hb, cell_keep h3 hb⟩
theorem keep5 {w w' : World} {a0 : Addr} {v0 : Value} {a1 : Addr} {v1 : Value} {a2 : Addr} {v2 : Value} {a3 : Addr} {v3 : Value} {a4 : Addr} {v4 : Value} (hb : Below w.heap.size w w') (h : w.cell? a0 = some v0 ∧ w.cell? a1 = some v1 ∧ w.cell? a2 = some v2 ∧ w.cell? a3 = some v3 ∧ w.cell? a4 = some v4) : w'.cell? a0 = some v0 ∧ w'.cell? a1 = some v1 ∧ w'.cell? a2 = some v2 ∧ w'.cell? a3 = some v3 ∧ w'.cell? a4 = some v4 := by
  obtain ⟨h0, h1, h2, h3, h4⟩ := h
  exact ⟨cell_keep h0 hb, cell_keep h1 hb, cell_keep h2 hb, cell_keep h3 hb, cell_keep h4 hb⟩
theorem keep8 {w w' : World} {a0 : Addr} {v0 : Value} {a1 : Addr} {v1 : Value} {a2 : Addr} {v2 : Value} {a3 : Addr} {v3 : Value} {a4 : Addr} {v4 : Value} {a5 : Addr} {v5 : Value} {a6 : Addr} {v6 : Value} {a7 : Addr} {v7 : Value} (hb : Below w.heap.size w w') (h : w.cell? a0 = some v0 ∧ w.cell? a1 = some v1 ∧ w.cell? a2 = some v2 ∧ w.cell? a3 = some v3 ∧ w.cell? a4 = some v4 ∧ w.cell? a5 = some v5 ∧ w.cell? a6 = some v6 ∧ w.cell? a7 = some v7) : w'.cell? a0 = some v0 ∧ w'.cell? a1 = some v1 ∧ w'.cell? a2 = some v2 ∧ w'.cell? a3 = some v3 ∧ w'.cell? a4 = some v4 ∧ w'.cell? a5 = some v5 ∧ w'.cell? a6 = some v6 ∧ w'.cell? a7 = some v7 := by
  obtain ⟨h0, h1, h2, h3, h4, h5, h6, h7⟩ := h
  exact ⟨cell_keep h0 hb, cell_keep h1 hb, cell_keep h2 hb, cell_keep h3 hb, cell_keep h4 hb, cell_keep h5 hb, cell_keep h6 hb, cell_keep h7 hb⟩
theorem keep12 {w w' : World} {a0 : Addr} {v0 : Value} {a1 : Addr} {v1 : Value} {a2 : Addr} {v2 : Value} {a3 : Addr} {v3 : Value} {a4 : Addr} {v4 : Value} {a5 : Addr} {v5 : Value} {a6 : Addr} {v6 : Value} {a7 : Addr} {v7 : Value} {a8 : Addr} {v8 : Value} {a9 : Addr} {v9 : Value} {a10 : Addr} {v10 : Value} {a11 : Addr} {v11 : Value} (hb : Below w.heap.size w w') (h : w.cell? a0 = some v0 ∧ w.cell? a1 = some v1 ∧ w.cell? a2 = some v2 ∧ w.cell? a3 = some v3 ∧ w.cell? a4 = some v4 ∧ w.cell? a5 = some v5 ∧ w.cell? a6 = some v6 ∧ w.cell? a7 = some v7 ∧ w.cell? a8 = some v8 ∧ w.cell? a9 = some v9 ∧ w.cell? a10 = some v10 ∧ w.cell? a11 = some v11) : w'.cell? a0 = some v0 ∧ w'.cell? a1 = some v1 ∧ w'.cell? a2 = some v2 ∧ w'.cell? a3 = some v3 ∧ w'.cell? a4 = some v4 ∧ w'.cell? a5 = some v5 ∧ w'.cell? a6 = some v6 ∧ w'.cell? a7 = some v7 ∧ w'.cell? a8 = some v8 ∧ w'.cell? a9 = some v9 ∧ w'.cell? a10 = some v10 ∧ w'.cell? a11 = some v11 := by
  obtain ⟨h0, h1, h2, h3, h4, h5, h6, h7, h8, h9, h10, h11⟩ := h
  exact ⟨cell_keep h0 hb, cell_keep h1 hb, cell_keep h2 hb, cell_keep h3 hb, cell_keep h4 hb, cell_keep h5 hb, cell_keep h6 hb, cell_keep h7 hb, cell_keep h8 hb, cell_keep h9 hb, cell_keep h10 hb, cell_keep h11 hb⟩

/-- below B the world w is as a was, and it has more blocks than B -/
def Past (B : Nat) (a w : World) : Prop := Below B a w ∧ B ≤ w.heap.size
section
variable {B : Nat} {a w w' : World}
theorem Past.refl (w : World) : Past w.heap.size w w := ⟨Below.refl _ _, Nat.le_refl _⟩
theorem Past.at (h : B ≤ w.heap.size) : Past B w w := ⟨Below.refl _ _, h⟩
theorem Past.call (h : Past B a w) (h' : Below w.heap.size w w') : Past B a w' := ⟨h.1.trans (h'.mono h.2), Nat.le_trans h.2 h'.size⟩
theorem Past.next (h : Past B a w) (h' : Below B w w') : Past B a w' := ⟨h.1.trans h', Nat.le_trans h.2 h'.size⟩
theorem Past.alloc (h : Past B a w) (o : Obj) : Past B a (w.alloc o) := ⟨h.1.alloc h.2 o, by have := h.2; simp; omega⟩
theorem Past.set (h : Past B a w) {p : Addr} (hp : B ≤ p.block) (v : Value) : Past B a (w.setCell p v) := ⟨h.1.setCell hp v, by have := h.2; simpa [World.setCell] using this⟩
theorem Past.drew (h : Past B a w) : Past B a w.drew := ⟨h.1.drew, h.2⟩
theorem Past.drewN (h : Past B a w) (n : Nat) : Past B a (w.drewN n) := ⟨⟨h.1.os, h.1.tape, h.1.output, h.1.size, h.1.block⟩, h.2⟩
end
end Go.Proofs.YtgonfcdmaoeboaaGreatDoor

/- What a world keeps when only cells of some types have been written, and new blocks made. -/
namespace Go.Proofs.YtgonfcdmaoeboaaGreatDoor
open Go.RowKit

section
variable {w w' : World}
/-- what a world keeps when only cells of some types have been written, and new blocks made -/
def Only (ts : List TypeId) (w w' : World) : Prop := w.heap.size ≤ w'.heap.size ∧ ∀ (b : Nat) (o : Obj), w.heap[b]? = some o → (∀ cs t f, o = .cells cs t f → t ∉ ts) → w'.heap[b]? = some o
theorem Only.refl (ts : List TypeId) (w : World) : Only ts w w := ⟨Nat.le_refl _, fun _ _ h _ => h⟩
theorem Only.trans {ts : List TypeId} {a b c : World} (h : Only ts a b) (h' : Only ts b c) : Only ts a c := ⟨Nat.le_trans h.1 h'.1, fun k o hk ho => h'.2 k o (h.2 k o hk ho) ho⟩
theorem Only.of_below {ts : List TypeId} (h : Below w.heap.size w w') : Only ts w w' := ⟨h.size, fun b _ hb _ => (h.block b (Array.getElem?_eq_some_iff.1 hb).1).trans hb⟩
theorem Only.set {ts : List TypeId} {b j : Nat} {cs : Array Value} {t : TypeId} (h : Blk w b cs t) (ht : t ∈ ts) (v : Value) : Only ts w (w.setCell ⟨b, j, none⟩ v) := ⟨by simp [World.setCell], fun b' o hb ho => by
  have hne : b' ≠ b := fun e => by
    subst e
    rw [show w.heap[b']? = _ from h] at hb
    cases hb
    exact ho _ _ _ rfl ht
  exact (Below.heap_setCell w _ _ _ hne).trans hb⟩
theorem Only.blk {ts : List TypeId} {b : Nat} {cs : Array Value} {t : TypeId} (h : Only ts w w') (hb : Blk w b cs t) (ht : t ∉ ts) : Blk w' b cs t := h.2 b _ hb (fun _ _ _ e => by cases e; exact ht)
theorem Only.owns {ts : List TypeId} {bs : Nat} {e : TypeId} {size : Nat} {v : Value} {c : Nat} {xs : List Value} (h : Only ts w w') (ho : w.ownsRow bs e size v c xs) (he : e ∉ ts) : w'.ownsRow bs e size v c xs := by
  refine ⟨ho.1, ?_⟩
  rcases ho.2 with h2 | ⟨g, cap, cur, h1, h2, h3, h4⟩
  · exact .inl h2
  · exact .inr ⟨g, cap, cur, h1, h2, h.2 g _ h3 (fun _ _ _ e => by cases e; exact he), h4⟩
/-- a row that has grown: nothing else has turned -/
theorem Only.of_grown {bs : Nat} {e : TypeId} {size : Nat} {v : Value} {c : Nat} {xs : List Value} (ho : w.ownsRow bs e size v c xs) (hg : w.grownBy w' v.ownBlock) : Only [e] w w' := ⟨hg.size, fun b o hb ht => by
  refine (hg.block b (Array.getElem?_eq_some_iff.1 hb).1 (fun h => ?_)).trans hb
  rcases ho.2 with ⟨rfl, _⟩ | ⟨g, cap, cur, rfl, _, hgg, _⟩
  · simp [Value.ownBlock] at h
  · obtain rfl : b = g := by simpa [Value.ownBlock] using h
    rw [hgg] at hb
    cases hb
    exact ht _ _ _ rfl (by simp)⟩
end
end Go.Proofs.YtgonfcdmaoeboaaGreatDoor

/- append, its result written out as a slice. -/
namespace Go.Proofs.YtgonfcdmaoeboaaGreatDoor
open Go.RowKit

/-- .. its result written out as a slice -/
theorem step_append_slice {P : Program} (w : World) {o : Oper} {a : Act} {K : Act → World → Prop} {Q : Exit → Act → World → Prop} (s x : Operand) (t : TypeId)
    (ho : o.op = .call { callee := .builtin .append, args := #[s, x], argTypes := #[t, t] })
    (base : Nat) (e : TypeId) (z : Value) (size bytes : Nat) (ht : P.underlying t = some (.slice e)) (hinfo : (P.info? e).map (fun i => (i.zero, i.size, i.bytes)) = some (some z, size, bytes))
    (hzs : z.cells.size = size) (hsz : 0 < size)
    {v : Value} {n : Nat} {xs : List Value} (hown : w.ownsRow base e size v n xs) (hs : a.eval s = v)
    {vx : Value} {m : Nat} {news : List Value} (hsee : Sees w size vx m news) (hx : a.eval x = vx) (h1 : ∀ u ∈ news, u.oneCell' = true)
    (h63 : n + m ≤ maxLen) (hbytes : (n + m) * bytes ≤ 140737488355328) (hbase : base ≤ w.heap.size)
    (h : ∀ av cv w', w'.ownsRow base e size (.slice av (n + m) cv) (n + m) (xs ++ news) → w.grownBy w' v.ownBlock → K (a.put o.dst (.slice av (n + m) cv)) w') : o.wp P a w K Q := by
  refine step_append_where w s x t ho base e z size bytes ht hinfo hzs hsz hown hs hsee hx h1 h63 hbytes hbase ?_
  intro v' w' r1 r2 _ _
  obtain ⟨av, cv, rfl⟩ := owns_slice r1
  exact h av cv w' r1 r2
/-- .. at the operation -/
theorem wpList_append_slice {P : Program} (w : World) {ops : Array Oper} {rest : List Oper} {o : Oper} {a : Act} {Q : Exit → Act → World → Prop} (hgd : o.guard = none) (s x : Operand) (t : TypeId)
    (ho : o.op = .call { callee := .builtin .append, args := #[s, x], argTypes := #[t, t] })
    (base : Nat) (e : TypeId) (z : Value) (size bytes : Nat) (ht : P.underlying t = some (.slice e)) (hinfo : (P.info? e).map (fun i => (i.zero, i.size, i.bytes)) = some (some z, size, bytes))
    (hzs : z.cells.size = size) (hsz : 0 < size)
    {v : Value} {n : Nat} {xs : List Value} (hown : w.ownsRow base e size v n xs) (hs : a.eval s = v)
    {vx : Value} {m : Nat} {news : List Value} (hsee : Sees w size vx m news) (hx : a.eval x = vx) (h1 : ∀ u ∈ news, u.oneCell' = true)
    (h63 : n + m ≤ maxLen) (hbytes : (n + m) * bytes ≤ 140737488355328) (hbase : base ≤ w.heap.size)
    (h : ∀ av cv w', w'.ownsRow base e size (.slice av (n + m) cv) (n + m) (xs ++ news) → w.grownBy w' v.ownBlock → wpList P ops Q rest (a.put o.dst (.slice av (n + m) cv)) w') : wpList P ops Q (o :: rest) a w := by
  refine wpList_append_where w hgd s x t ho base e z size bytes ht hinfo hzs hsz hown hs hsee hx h1 h63 hbytes hbase ?_
  intro v' w' r1 r2 _ _
  obtain ⟨av, cv, rfl⟩ := owns_slice r1
  exact h av cv w' r1 r2
end Go.Proofs.YtgonfcdmaoeboaaGreatDoor

/- Laws, over any program: a map's block as a list of its entries, keys and elements as they are (whatever the elements hold). -/
namespace Go.Proofs.YtgonfcdmaoeboaaGreatDoor
open Go.RowKit
open Go.WideElems (Fit rd rg pl rd_key rd_val rg_of)
open Go.Maps (Keyed)
open Go.ChangeMaps (setBlock heap_setBlock_same heap_setBlock_other)

/-- an element reads as itself -/
def asIs (v : Value) : Option (DataW Value × List MemPlace) := some (.held v, [])

section
variable {P : Program} {k e t : TypeId} {w w' : World} {b : Nat} {L : List (Value × Value)} {key val : Value} {kl : Lit}

/-- block b is a map whose entries are those of L, in some order -/
def MapAs (w : World) (P : Program) (k : TypeId) (b : Nat) (L : List (Value × Value)) : Prop :=
  ∃ es clock, w.heap[b]? = some (.map es clock) ∧ Fit P k asIs es clock ∧ (es.toList.map fun x => (x.key, x.val)).Perm L

theorem MapAs.lt (h : MapAs w P k b L) : b < w.heap.size := by
  obtain ⟨es, clock, hb, _⟩ := h
  exact (Array.getElem?_eq_some_iff.1 hb).1
theorem MapAs.congr (h : MapAs w P k b L) (e : w'.heap[b]? = w.heap[b]?) : MapAs w' P k b L := by
  obtain ⟨es, clock, hb, F, hp⟩ := h
  exact ⟨es, clock, e.trans hb, F, hp⟩
theorem MapAs.below {B : Nat} (h : MapAs w P k b L) (hb : Below B w w') (hlt : b < B) : MapAs w' P k b L := h.congr (hb.block b hlt)
theorem MapAs.grown {row : Option Nat} (h : MapAs w P k b L) (hg : w.grownBy w' row) (hne : some b ≠ row) : MapAs w' P k b L := h.congr (hg.block b h.lt hne)
theorem MapAs.alloc (h : MapAs w P k b L) (o : Obj) : MapAs (w.alloc o) P k b L := h.congr (Below.heap_alloc w o b h.lt)
theorem MapAs.drew (h : MapAs w P k b L) : MapAs w.drew P k b L := h
theorem MapAs.made (w : World) (P : Program) (k : TypeId) : MapAs (w.alloc (.map #[] 0)) P k w.heap.size [] :=
  ⟨#[], 0, (MapKept.heap_alloc w _).1, ⟨by simp, MapKept.stamped_empty 0, by simp⟩, by simp⟩
theorem MapAs.perm {L' : List (Value × Value)} (h : MapAs w P k b L) (hp : L.Perm L') : MapAs w P k b L' := by
  obtain ⟨es, clock, hb, F, h1⟩ := h
  exact ⟨es, clock, hb, F, h1.trans hp⟩
theorem MapAs.keys (h : MapAs w P k b L) : L.Pairwise (fun p q => p.1 ≠ q.1) := by
  obtain ⟨es, clock, hb, F, hp⟩ := h
  have hn : es.toList.Pairwise (fun x y => x.key ≠ y.key) := ((MapKept.stamped_iff es clock).1 F.stamped).2.2
  have h1 : (es.toList.map fun x => (x.key, x.val)).Pairwise (fun p q => p.1 ≠ q.1) := by
    rw [List.pairwise_map]; exact hn
  exact (hp.pairwise_iff (fun {a b} (h : a.1 ≠ b.1) => h.symm)).1 h1

theorem MapAs.look_none (h : MapAs w P k b L) (K : Keyed P k) (ht : P.underlying t = some (.map k e)) {z : Value} (hz : (zeroValue e).run P w = .ok z w) (hkey : keyOf P k key = some kl) (hL : ∀ p ∈ L, p.1 ≠ key) :
    (Instr.lookup t (.map (some b)) key true).run P w = .ok (.tuple #[z, .bool false]) w := by
  obtain ⟨es, clock, hb, F, hp⟩ := h
  rcases Maps.fit_look true K ht hz hb F hkey with ⟨hrun, _, _⟩ | ⟨e0, y, h0, hk0, hrun, _⟩
  · simpa using hrun
  · exact absurd hk0 (hL (e0.key, e0.val) (hp.mem_iff.1 (List.mem_map.2 ⟨e0, h0, rfl⟩)))
theorem MapAs.look_some (h : MapAs w P k b L) (K : Keyed P k) (ht : P.underlying t = some (.map k e)) {z : Value} (hz : (zeroValue e).run P w = .ok z w) (hkey : keyOf P k key = some kl) (hL : (key, val) ∈ L) :
    (Instr.lookup t (.map (some b)) key true).run P w = .ok (.tuple #[val, .bool true]) w := by
  have hkeys := h.keys
  obtain ⟨es, clock, hb, F, hp⟩ := h
  obtain ⟨x, hx, hxe⟩ := List.mem_map.1 (hp.mem_iff.2 hL)
  simp only [Prod.mk.injEq] at hxe
  rcases Maps.fit_look true K ht hz hb F hkey with ⟨_, hno, _⟩ | ⟨e0, y, h0, hk0, hrun, _⟩
  · exact absurd hxe.1 (hno x hx)
  · have hv : e0.val = val := by
      have hn : es.toList.Pairwise (fun x y => x.key ≠ y.key) := ((MapKept.stamped_iff es clock).1 F.stamped).2.2
      have key_unique : ∀ l : List MapEntry, l.Pairwise (fun x y => x.key ≠ y.key) → e0 ∈ l → x ∈ l → e0 = x := by
        intro l
        induction l with
        | nil => intro _ h; simp at h
        | cons a l ih =>
          intro hp h1 h2
          obtain ⟨p1, p2⟩ := List.pairwise_cons.1 hp
          rcases List.mem_cons.1 h1 with h1' | h1' <;> rcases List.mem_cons.1 h2 with h2' | h2'
          · rw [h1', h2']
          · exact absurd (hk0.trans hxe.1.symm) (by rw [h1']; exact p1 x h2')
          · exact absurd (hxe.1.trans hk0.symm) (by rw [h2']; exact p1 e0 h1')
          · exact ih p2 h1' h2'
      have := key_unique _ hn h0 hx
      rw [this, hxe.2]
    rw [hrun, hv]; rfl

theorem nodup_of_keys {L : List (Value × Value)} (h : L.Pairwise (fun p q => p.1 ≠ q.1)) : L.Nodup := h.imp fun h e => h (by rw [e])

open Classical in
theorem MapAs.update (h : MapAs w P k b L) (K : Keyed P k) (ht : P.underlying t = some (.map k e)) (hn : L.length < maxLen) (hkey : keyOf P k key = some kl) :
    ∃ w', (Instr.mapUpdate t (.map (some b)) key val).run P w = .ok () w' ∧ MapAs w' P k b ((key, val) :: L.filter (fun p => decide (p.1 ≠ key))) ∧ w.grownBy w' (some b) := by
  have hL := h.keys
  obtain ⟨es, clock, hb, F, hp⟩ := h
  have hsz : es.size = L.length := by simpa using hp.length_eq
  obtain ⟨es', clock', hrun, F', hput, _, _, hwho⟩ := Maps.fit_store (R := asIs) (R' := asIs) (yv := (.held val, [])) K ht hb F (by omega) (fun _ _ _ _ hz => hz) hkey rfl
  refine ⟨_, hrun, ⟨es', clock', heap_setBlock_same hb _, F', ?_⟩, ⟨rfl, rfl, rfl, by simp [setBlock], fun i _ hi => heap_setBlock_other hb _ (fun e => hi (by rw [e]))⟩⟩
  have hn' : es'.toList.Pairwise (fun x y => x.key ≠ y.key) := ((MapKept.stamped_iff es' clock').1 F'.stamped).2.2
  have k1 : (es'.toList.map fun x => (x.key, x.val)).Pairwise (fun p q => p.1 ≠ q.1) := by rw [List.pairwise_map]; exact hn'
  have k2 : ((key, val) :: L.filter (fun p => decide (p.1 ≠ key))).Pairwise (fun p q => p.1 ≠ q.1) :=
    List.pairwise_cons.2 ⟨fun q hq => by have := (List.mem_filter.1 hq).2; simp at this; exact fun e => this e.symm, hL.filter _⟩
  refine (List.perm_ext_iff_of_nodup (nodup_of_keys k1) (nodup_of_keys k2)).2 fun p => ⟨fun hpm => ?_, fun hpm => ?_⟩
  · obtain ⟨x, hx, rfl⟩ := List.mem_map.1 hpm
    rcases hwho x hx with ⟨h1, h2⟩ | ⟨h1, h2⟩
    · exact List.mem_cons_of_mem _ (List.mem_filter.2 ⟨hp.mem_iff.1 (List.mem_map.2 ⟨x, h1, rfl⟩), by simpa using h2⟩)
    · rw [h1, h2]; simp
  · have hmem : ∀ q : Lit × DataW Value, q ∈ (es'.toList.map (rg P k asIs)) ↔ q ∈ ChangeMaps.putKey kl (.held val) ((es.toList.map (rg P k asIs)).foldr DataW.insert []) := fun q => by
      rw [← hput]; exact (WideShapes.sorted_perm _).mem_iff.symm
    have hback : ∀ (k0 v0 : Value) (l0 : Lit), keyOf P k k0 = some l0 → (l0, DataW.held v0) ∈ (es'.toList.map (rg P k asIs)) → (k0, v0) ∈ es'.toList.map fun x => (x.key, x.val) := by
      intro k0 v0 l0 hk0 hq
      obtain ⟨x, hx, hxe⟩ := List.mem_map.1 hq
      obtain ⟨y, hy⟩ := F'.reads x hx
      obtain ⟨z, hz, hz2⟩ := rd_val hy
      have hyk := rd_key hy
      rw [rg_of hy] at hxe
      subst hxe
      simp only [asIs, Option.some.injEq] at hz
      subst hz
      simp only [DataW.held.injEq] at hz2
      exact List.mem_map.2 ⟨x, hx, by rw [K.inj hyk hk0, hz2]⟩
    rcases List.mem_cons.1 hpm with rfl | hpm
    · exact hback key val kl hkey ((hmem _).2 (ChangeMaps.mem_insert_iff.2 (.inl rfl)))
    · obtain ⟨h1, h2⟩ := List.mem_filter.1 hpm
      obtain ⟨x, hx, rfl⟩ := List.mem_map.1 (hp.mem_iff.2 h1)
      obtain ⟨y, hy⟩ := F.reads x hx
      obtain ⟨z, hz, hz2⟩ := rd_val hy
      have hyk := rd_key hy
      simp only [asIs, Option.some.injEq] at hz
      subst hz
      refine hback x.key x.val y.1 hyk ((hmem _).2 (ChangeMaps.mem_insert_iff.2 (.inr (List.mem_filter.2 ⟨(WideShapes.sorted_perm _).mem_iff.2 (List.mem_map.2 ⟨x, hx, ?_⟩), ?_⟩))))
      · rw [rg_of hy]
        exact Prod.ext rfl hz2
      · refine (Maps.notKey_iff (K.key hkey)).2 fun e => ?_
        simp at h2
        simp only at e
        rw [e] at hyk
        exact h2 (K.inj hyk hkey)
end
end Go.Proofs.YtgonfcdmaoeboaaGreatDoor
