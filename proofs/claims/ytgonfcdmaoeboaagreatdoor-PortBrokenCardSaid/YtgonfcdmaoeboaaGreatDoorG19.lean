/- Contracts of functions on the way to the claim, proved for every input that their hypotheses let by; no condition of the claim. Joined of: R3 A9 Y0 Y1 Y2. -/
import Derived.Lib.DecodeN
import Derived.Lib.SpaceUEq
import Derived.Lib.RuneCount
import Derived.Laws.RangeString
import Derived.Laws.Runes
import Derived.Deep.LoopGhost
import Derived.Lib.OthersKept
import Derived.Test.YtgonfcdmaoeboaaGreatDoorG12
import Derived.Test.YtgonfcdmaoeboaaGreatDoorG2
import Derived.Test.YtgonfcdmaoeboaaGreatDoorG1
import Derived.Test.YtgonfcdmaoeboaaGreatDoorG5
import Derived.Test.YtgonfcdmaoeboaaGreatDoorG11
import Derived.Test.YtgonfcdmaoeboaaGreatDoorG4

/- Plain: ports as values: what Check, Encode, Decode say. No program here. -/
namespace Go.Proofs.YtgonfcdmaoeboaaGreatDoor
open Go.RowKit

/-- may the byte not stand in a word? -/
def oddW (b : UInt8) : Bool := decide (b.toNat ≤ 32) || decide (126 < b.toNat) || decide (b.toNat = 47)
def wordB (s : List UInt8) : Bool := decide (s ≠ []) && (decide (s.length ≤ 32) && !s.any oddW)
theorem wordB_len {s : List UInt8} (h : wordB s = true) : s.length ≤ 32 := by
  unfold wordB at h
  simp only [Bool.and_eq_true, decide_eq_true_eq] at h
  exact h.2.1
/-- a packet: from where, and the bytes -/
abbrev Pk := List UInt8 × List UInt8
def pkE (p : Pk) : Nat := if wordB p.1 = false then 12 else if 512 < p.2.length then 5 else 0
def pksE : List Pk → Nat
  | [] => 0
  | p :: l => if pkE p = 0 then pksE l else pkE p
theorem pksE_ok : ∀ {l : List Pk}, pksE l = 0 ↔ ∀ p ∈ l, pkE p = 0
  | [] => by simp [pksE]
  | p :: l => by
    unfold pksE
    split
    · rename_i h
      rw [pksE_ok (l := l)]
      simp [h]
    · rename_i h
      simp [h]
theorem pkE_ok {p : Pk} : pkE p = 0 ↔ wordB p.1 = true ∧ p.2.length ≤ 512 := by
  unfold pkE
  cases h : wordB p.1 with
  | false => simp
  | true => by_cases h2 : 512 < p.2.length <;> simp [h2]; omega
theorem pkE_len {p : Pk} (h : pkE p = 0) : p.1.length ≤ 32 ∧ p.2.length ≤ 512 := ⟨wordB_len (pkE_ok.1 h).1, (pkE_ok.1 h).2⟩
/-- a port: whose it is, the epoch, how many packets were lost, and those that wait -/
structure PT where
  own : List UInt8
  ep : Int
  lost : Int
  q : List Pk
def inNum (n : Int) : Prop := 0 ≤ n ∧ n ≤ 1073741824
/-- the first error of a port -/
def PT.check (p : PT) : Nat :=
  if validName p.own = false then 12
  else if ¬ ((0 ≤ p.ep ∧ p.ep ≤ 1073741824) ∧ (0 ≤ p.lost ∧ p.lost ≤ 1073741824)) then 2
  else if 16 < p.q.length then 9
  else pksE p.q
theorem PT.check_ok {p : PT} : p.check = 0 ↔ validName p.own = true ∧ (0 ≤ p.ep ∧ p.ep ≤ 1073741824) ∧ (0 ≤ p.lost ∧ p.lost ≤ 1073741824) ∧ p.q.length ≤ 16 ∧ pksE p.q = 0 := by
  unfold PT.check
  cases h1 : validName p.own with
  | false => simp
  | true =>
    rw [if_neg (by simp)]
    by_cases h2 : (0 ≤ p.ep ∧ p.ep ≤ 1073741824) ∧ (0 ≤ p.lost ∧ p.lost ≤ 1073741824)
    · rw [if_neg (by simp [h2])]
      by_cases h3 : 16 < p.q.length
      · rw [if_pos h3]; simp; omega
      · rw [if_neg h3]
        exact ⟨fun h => ⟨rfl, h2.1, h2.2, by omega, h⟩, fun h => h.2.2.2.2⟩
    · rw [if_pos h2]
      exact ⟨fun h => (by cases h), fun h => absurd ⟨h.2.1, h.2.2.1⟩ h2⟩
def pkBytes (p : Pk) : List UInt8 := txt p.1 ++ txt p.2
def flatP (l : List Pk) : List UInt8 := l.flatMap pkBytes
theorem flatP_cons (p : Pk) (l : List Pk) : flatP (p :: l) = pkBytes p ++ flatP l := rfl
theorem flatP_append (a b : List Pk) : flatP (a ++ b) = flatP a ++ flatP b := by simp [flatP]
def PT.bytes (p : PT) : List UInt8 := txt p.own ++ (natBytes p.ep.toNat ++ (natBytes p.lost.toNat ++ (natBytes p.q.length ++ flatP p.q)))
def PT.enc (p : PT) : List UInt8 := if p.check = 0 then p.bytes else []

/-- k packets, one after another -/
def rdPks : Nat → List UInt8 → Nat → List Pk × List UInt8 × Nat
  | 0, rest, f => ([], rest, f)
  | k + 1, rest, f =>
    let r := rdPks k rest f
    let a := rdText 32 r.2.1 r.2.2
    let b := rdText 512 a.2.1 a.2.2
    (r.1 ++ [(a.1, b.1)], b.2.1, b.2.2)
theorem rdPks_len : ∀ k rest f, (rdPks k rest f).1.length = k
  | 0, _, _ => rfl
  | k + 1, rest, f => by simp [rdPks, rdPks_len k rest f]
theorem rdPks_le : ∀ k rest f, ∀ p ∈ (rdPks k rest f).1, p.1.length ≤ 32 ∧ p.2.length ≤ 512
  | 0, _, _, p, h => by simp [rdPks] at h
  | k + 1, rest, f, p, h => by
    simp only [rdPks, List.mem_append, List.mem_singleton] at h
    rcases h with h | h
    · exact rdPks_le k rest f p h
    · rw [h]; exact ⟨rdText_le _ _ _, rdText_le _ _ _⟩
theorem rdPks_ok : ∀ {k : Nat} {rest : List UInt8} {f : Nat}, (rdPks k rest f).2.2 = 0 → f = 0 ∧ rest = flatP (rdPks k rest f).1 ++ (rdPks k rest f).2.1
  | 0, rest, f, h => ⟨h, by simp [rdPks, flatP]⟩
  | k + 1, rest, f, h => by
    obtain ⟨r, hr⟩ : ∃ r, r = rdPks k rest f := ⟨_, rfl⟩
    obtain ⟨a, ha⟩ : ∃ a, a = rdText 32 r.2.1 r.2.2 := ⟨_, rfl⟩
    obtain ⟨b, hb⟩ : ∃ b, b = rdText 512 a.2.1 a.2.2 := ⟨_, rfl⟩
    have e : rdPks (k + 1) rest f = (r.1 ++ [(a.1, b.1)], b.2.1, b.2.2) := by simp only [rdPks, hb, ha, hr]
    rw [e] at h ⊢
    have hb0 : (rdText 512 a.2.1 a.2.2).2.2 = 0 := by rw [← hb]; exact h
    obtain ⟨b1, b2, _⟩ := rdTxt_ok hb0
    rw [← hb] at b2
    have ha0 : (rdText 32 r.2.1 r.2.2).2.2 = 0 := by rw [← ha]; exact b1
    obtain ⟨a1, a2, _⟩ := rdTxt_ok ha0
    rw [← ha] at a2
    have hr0 : (rdPks k rest f).2.2 = 0 := by rw [← hr]; exact a1
    obtain ⟨r1, r2⟩ := rdPks_ok hr0
    rw [← hr] at r2
    refine ⟨r1, ?_⟩
    show rest = flatP (r.1 ++ [(a.1, b.1)]) ++ b.2.1
    rw [flatP_append, List.append_assoc]
    have e2 : flatP [(a.1, b.1)] = txt a.1 ++ txt b.1 := by simp [flatP, pkBytes]
    rw [e2, List.append_assoc, ← b2, ← a2]
    exact r2
theorem rdPks_enc (l : List Pk) (rest : List UInt8) (hl : ∀ p ∈ l, p.1.length ≤ 32 ∧ p.2.length ≤ 512) : ∀ k, k ≤ l.length → rdPks k (flatP l ++ rest) 0 = (l.take k, flatP (l.drop k) ++ rest, 0)
  | 0, _ => by simp [rdPks]
  | k + 1, hk => by
    have ih := rdPks_enc l rest hl k (by omega)
    have hd : l.drop k = l[k] :: l.drop (k + 1) := List.drop_eq_getElem_cons (by omega)
    have ht : l.take (k + 1) = l.take k ++ [l[k]] := by rw [List.take_succ_eq_append_getElem (by omega)]
    have hx := hl _ (List.getElem_mem (by omega : k < l.length))
    simp only [rdPks, ih]
    rw [hd, flatP_cons, List.append_assoc]
    unfold pkBytes
    rw [List.append_assoc, rdTxt_enc _ _ hx.1 (by omega)]
    simp only
    rw [rdTxt_enc _ _ hx.2 (by omega), ht]

/-- what Decode reads -/
def portRd (bs : List UInt8) : PT × List UInt8 × Nat :=
  let a := rdText 64 bs 0
  let b := rdNum 1073741824 a.2.1 a.2.2
  let c := rdNum 1073741824 b.2.1 b.2.2
  let d := rdNum 16 c.2.1 c.2.2
  let q := rdPks d.1 d.2.1 d.2.2
  (⟨a.1, b.1, c.1, q.1⟩, q.2.1, q.2.2)
/-- the error of Decode, and the port -/
def portDecE (bs : List UInt8) : Nat := if rdClose (portRd bs).2.1 (portRd bs).2.2 ≠ 0 then rdClose (portRd bs).2.1 (portRd bs).2.2 else (portRd bs).1.check
def portDec (bs : List UInt8) : PT := if portDecE bs = 0 then (portRd bs).1 else ⟨[], 0, 0, []⟩
theorem portRd_enc {p : PT} (h : p.check = 0) : portRd p.bytes = (p, [], 0) := by
  obtain ⟨h1, h2, h3, h4, h5⟩ := PT.check_ok.1 h
  obtain ⟨own, ep, lost, q⟩ := p
  simp only at h1 h2 h3 h4 h5
  have hs := valid_len h1
  have hl : ∀ p ∈ q, p.1.length ≤ 32 ∧ p.2.length ≤ 512 := fun p hp => pkE_len (pksE_ok.1 h5 p hp)
  obtain ⟨e, rfl⟩ := Int.eq_ofNat_of_zero_le h2.1
  obtain ⟨lo, rfl⟩ := Int.eq_ofNat_of_zero_le h3.1
  unfold portRd PT.bytes
  simp only [Int.toNat_natCast]
  rw [rdTxt_enc _ _ hs (by omega)]
  simp only
  rw [rdNum_enc _ (by omega) (by omega)]
  simp only
  rw [rdNum_enc _ (by omega) (by omega)]
  simp only
  rw [rdNum_enc _ h4 (by omega)]
  simp only
  have := rdPks_enc q [] hl _ (Nat.le_refl _)
  rw [List.append_nil] at this
  rw [this]
  simp [flatP]
theorem portDecE_enc {p : PT} (h : p.check = 0) : portDecE p.bytes = 0 ∧ portDec p.bytes = p := by
  have e : portDecE p.bytes = 0 := by
    unfold portDecE
    rw [portRd_enc h]
    simp [rdClose, h]
  refine ⟨e, ?_⟩
  unfold portDec
  rw [if_pos e, portRd_enc h]
theorem portDecE_ok {bs : List UInt8} (h : portDecE bs = 0) : (portDec bs).check = 0 ∧ bs = (portDec bs).bytes := by
  have hd : portDec bs = (portRd bs).1 := by unfold portDec; rw [if_pos h]
  rw [hd]
  unfold portDecE at h
  split at h
  · rename_i hx; exact absurd h hx
  · rename_i hx
    refine ⟨h, ?_⟩
    have hc : rdClose (portRd bs).2.1 (portRd bs).2.2 = 0 := Classical.byContradiction hx
    clear h hx hd
    obtain ⟨a, ha⟩ : ∃ a, a = rdText 64 bs 0 := ⟨_, rfl⟩
    obtain ⟨b, hb⟩ : ∃ b, b = rdNum 1073741824 a.2.1 a.2.2 := ⟨_, rfl⟩
    obtain ⟨c, hcc⟩ : ∃ c, c = rdNum 1073741824 b.2.1 b.2.2 := ⟨_, rfl⟩
    obtain ⟨d, hd⟩ : ∃ d, d = rdNum 16 c.2.1 c.2.2 := ⟨_, rfl⟩
    obtain ⟨q, hq⟩ : ∃ q, q = rdPks d.1 d.2.1 d.2.2 := ⟨_, rfl⟩
    have hr : portRd bs = (⟨a.1, b.1, c.1, q.1⟩, q.2.1, q.2.2) := by unfold portRd; simp only [hq, hd, hcc, hb, ha]
    rw [hr] at hc ⊢
    simp only at hc ⊢
    obtain ⟨q1, q2⟩ := rdClose_ok hc
    rw [hq] at q1
    obtain ⟨p1, p2⟩ := rdPks_ok q1
    rw [hd] at p1
    obtain ⟨n1, n2, _⟩ := rdNum_ok p1
    rw [hcc] at n1
    obtain ⟨m1, m2, _⟩ := rdNum_ok n1
    rw [hb] at m1
    obtain ⟨l1, l2, _⟩ := rdNum_ok m1
    rw [ha] at l1
    obtain ⟨k1, k2, _⟩ := rdTxt_ok l1
    rw [← ha] at k2
    rw [← hb] at l2
    rw [← hcc] at m2
    rw [← hd] at n2
    rw [← hq, q2, List.append_nil] at p2
    have hdl : q.1.length = d.1 := by rw [hq]; exact rdPks_len _ _ _
    unfold PT.bytes
    simp only [Int.toNat_natCast]
    rw [hdl, ← p2, ← n2, ← m2, ← l2]
    exact k2
theorem flatP_le : ∀ {l : List Pk}, (∀ p ∈ l, p.1.length ≤ 32 ∧ p.2.length ≤ 512) → (flatP l).length ≤ l.length * 600
  | [], _ => by simp [flatP]
  | p :: l, h => by
    have h1 := h p (by simp)
    have n1 := natBytes_len64 (n := p.1.length) (by omega)
    have n2 := natBytes_len64 (n := p.2.length) (by omega)
    have ih := flatP_le (l := l) (fun x hx => h x (by simp [hx]))
    rw [flatP_cons, List.length_append, List.length_cons, Nat.succ_mul]
    unfold pkBytes txt
    simp only [List.length_append]
    omega
theorem PT.len {p : PT} (h : p.check = 0) : p.bytes.length ≤ 20000 := by
  obtain ⟨h1, h2, h3, h4, h5⟩ := PT.check_ok.1 h
  have hs := valid_len h1
  have hl : ∀ x ∈ p.q, x.1.length ≤ 32 ∧ x.2.length ≤ 512 := fun x hx => pkE_len (pksE_ok.1 h5 x hx)
  have hf := flatP_le hl
  have l1 := natBytes_len64 (n := p.own.length) (by omega)
  have l2 := natBytes_len64 (n := p.ep.toNat) (by omega)
  have l3 := natBytes_len64 (n := p.lost.toNat) (by omega)
  have l4 := natBytes_len64 (n := p.q.length) (by omega)
  have hm : p.q.length * 600 ≤ 16 * 600 := Nat.mul_le_mul_right _ h4
  unfold PT.bytes txt
  simp only [List.length_append]
  omega
end Go.Proofs.YtgonfcdmaoeboaaGreatDoor

/- codec.Writer: write and Text, and what they leave alone besides. -/
namespace Go.Proofs.YtgonfcdmaoeboaaGreatDoor
open Go.RowKit

theorem Only.more {ts ts' : List TypeId} {w w' : World} (h : Only ts w w') (hs : ∀ t, t ∈ ts → t ∈ ts') : Only ts' w w' := ⟨h.1, fun b o hb ho => h.2 b o hb (fun cs t f e hm => ho cs t f e (hs t hm))⟩

set_option maxRecDepth 100000 in
set_option maxHeartbeats 800000 in
theorem write_only (B C wb : Nat) (out : List UInt8) (pb : Nat) (ps : List (Value × List UInt8)) (w : World) (v0 : Value) (hBw : B ≤ wb) (hblk : Blk w wb #[v0, .int .i64 0] 173) (hwC : wb < C) (_ : B ≤ C)
    (hown : w.ownsRow B 5 1 v0 out.length (out.map bval)) (hne : v0.ownBlock ≠ some wb) (hvC : ∀ k, v0.ownBlock = some k → k < C)
    (hpb : Blk w pb (ps.map (·.1)).toArray 112) (hCp : C ≤ pb) (hps : Parts w ps) (hCs : ∀ p ∈ ps, ∀ k, p.1.ownBlock = some k → C ≤ k)
    (hlen : (out ++ ps.flatMap (·.2)).length ≤ 1000000000) (hpl : ps.length ≤ 1000) :
    Calls Tryz.prog 103 #[.pointer (some ⟨wb, 0, none⟩), .int .i64 0, .slice (some ⟨pb, 0, none⟩) ps.length ps.length] w fun e w' =>
      e = .returned (.tuple #[]) ∧ WriterIs B w' wb (out ++ ps.flatMap (·.2)) ∧ Below B w w' ∧ Only [173, 5] w w' := by
  obtain ⟨c0, c1, f0, f1⟩ := hblk.two
  have Hps := Lib.hid hps; clear hps
  have HCs := Lib.hid hCs; clear hCs
  have HvC := Lib.hid hvC; clear hvC
  have Hne := Lib.hid hne; clear hne
  have Hlen := Lib.hid hlen; clear hlen
  go_enter Tryz.func103, Tryz.ntmps103
  go_wp2_with fail
  go_loopw [25] (fun i wr => ∃ k : Nat, i = .int .i64 k ∧ k ≤ ps.length ∧ Hid (Writing B C wb out ps w wr k ∧ Only [173, 5] w wr)) (fun i _ => ps.length - (intOf i).toNat)
  case atStart =>
    refine ⟨0, rfl, by simp, ⟨(Below.refl _ _).setCell hBw _, ⟨v0, (hblk.set 1 _).congr rfl, ?_, Hne.out, fun g hg => .inl (HvC.out g hg)⟩, ?_⟩, Only.set hblk (by simp) _⟩
    · refine World.ownsRow.kept (row := some wb) (owns_eq hown (by simp) (by simp)) ⟨rfl, rfl, rfl, by simp, fun j _ hj => heap_setCell_other w _ j _ (fun e => hj (by rw [e]))⟩ (.inr Hne.out)
    · intro j hj _
      exact heap_setCell_other w _ j _ (by simp; omega)
  case round =>
    obtain ⟨k, rfl, hk, hW⟩ := hrel
    by_cases hlt : k < ps.length
    · obtain ⟨hb, ⟨v, hblkr, hownr, hner, hCr⟩, hkeep⟩ := hW.out.1
      obtain ⟨d0, d1, g0, g1⟩ := hblkr.two
      have hpr : Blk wr pb (ps.map (·.1)).toArray 112 := (hkeep pb hCp hpb.lt).trans hpb
      have hcell : wr.cell? ⟨pb, k, none⟩ = some ps[k].1 := by rw [hpr.cell]; simp [hlt]
      have hmem : ps[k] ∈ ps := List.getElem_mem hlt
      have hs0 := Hps.out ps[k] hmem
      have hsee : Sees wr 1 ps[k].1 ps[k].2.length (ps[k].2.map bval) := hs0.kept hb.size (fun j hj => hkeep j (HCs.out _ hmem j hj) (hs0.lt j hj))
      have hlk : (out ++ (ps.take k).flatMap (·.2)).length + ps[k].2.length ≤ 1000000000 := by
        have h1 := Hlen.out
        have e2 : ps.flatMap (·.2) = (ps.take k).flatMap (·.2) ++ (ps[k].2 ++ (ps.drop (k + 1)).flatMap (·.2)) := by
          conv => lhs; rw [← List.take_append_drop k ps, List.drop_eq_getElem_cons hlt]
          rw [List.flatMap_append, List.flatMap_cons]
        rw [e2] at h1
        simp only [List.length_append] at h1 ⊢
        omega
      have hBr : B ≤ wr.heap.size := Nat.le_trans hBw (Nat.le_of_lt hblkr.lt)
      have Hkeep := Lib.hid hkeep; clear hkeep
      have HCr := Lib.hid hCr; clear hCr
      have Hner := Lib.hid hner; clear hner
      have Hlk := Lib.hid hlk; clear hlk
      obtain ⟨p, hp⟩ : ∃ p, p = ps[k] := ⟨_, rfl⟩
      rw [← hp] at hcell hsee
      have Hp := Lib.hid hp; clear hp
      obtain ⟨dn, hdn⟩ : ∃ dn, dn = out ++ (ps.take k).flatMap (·.2) := ⟨_, rfl⟩
      rw [← hdn] at hownr
      have Hdn := Lib.hid hdn; clear hdn
      go_wp2_with (at_builtin; go_loud (refine wpList_append_where wr rfl _ _ 112 rfl B 5 (.int .u8 0) 1 1 Tryz.underlying112 Tryz.info5 rfl (by decide) hownr rfl hsee rfl (bytes_oneCell _) ?c1 ?c2 hBr ?_))
      case c1 => have := Hlk.out; rw [← Hp.out, ← Hdn.out] at this; unfold maxLen; omega
      case c2 => have := Hlk.out; rw [← Hp.out, ← Hdn.out] at this; omega
      · intro v' w1 hown1 hg1 hwh _
        obtain ⟨a', c', rfl⟩ := owns_slice hown1
        have hblk1 := hblkr.grown hg1 (fun e => Hner.out e.symm)
        obtain ⟨e0, e1, h0, h1⟩ := hblk1.two
        have hstep := writing_step hlt hBw hwC hW.out.1 hblkr (by rw [← Hp.out, ← Hdn.out]; exact hown1) hg1 hwh
        have hon : ∀ v, Only [173, 5] w (w1.setCell ⟨wb, 0, none⟩ v) := fun v => (hW.out.2.trans (((Only.of_grown hownr hg1).more (by simp)).trans (Only.set (ts := [173, 5]) hblk1 (by simp) v)))
        have Hon := Lib.hid hon; clear hon
        --(hW.out.2.trans ((Only.of_grown hownr hg1).trans (Only.set (ts := [173, 5]) hblk1 (by simp) (j := 0) (.slice a' ((dn ++ p.2).length) c'))))
        have Hstep := Lib.hid hstep; clear hstep
        have Hwh := Lib.hid hwh; clear hwh
        go_wp2
        go_roundw
        case rel => exact ⟨k + 1, by go_num, by omega, Hstep.out, Hon.out _⟩
        case measure => simp [intOf]; try omega
    · obtain rfl : k = ps.length := by omega
      go_wp2
      go_end0
      obtain ⟨⟨hb, ⟨v, hblkr, hownr, hner, _⟩, _⟩, hon⟩ := hW.out
      rw [List.take_of_length_le (Nat.le_refl _)] at hownr
      exact ⟨rfl, ⟨hBw, v, hblkr, hownr, hner⟩, hb, hon⟩
set_option maxRecDepth 100000 in
set_option maxHeartbeats 800000 in
theorem text_only (B wb : Nat) (out : List UInt8) (s : ByteArray) (hs : s.size ≤ 1000000) (w : World) (hw : WriterIs B w wb out) (hlen : out.length ≤ 100000000) :
    Calls Tryz.prog 57 #[.pointer (some ⟨wb, 0, none⟩), .string s] w fun e w' =>
      e = .returned (.tuple #[]) ∧ WriterIs B w' wb (out ++ natBytes s.size ++ s.data.toList) ∧ Below B w w' ∧ Only [173, 5] w w' := by
  have hnl := natBytes_len64 (n := s.size) (by omega)
  have Hw := Lib.hid hw; clear hw
  go_enter Tryz.func57, Tryz.ntmps57
  go_wp2_with (first | (go_at_call 104; refine (natural_any s.size (by omega) _).mono ?_; rintro e w1 ⟨v1, rfl, hown1, hb1⟩; obtain ⟨a1, c1, rfl⟩ := owns_slice hown1) | (with_reducible refine wpList_bytes_of_string (o := ⟨some 15, _, _, _, _, _⟩) _ rfl _ _ 5 _ rfl Tryz.underlying9 Tryz.underlying112 Tryz.underlying5 s rfl ?_))
  intro cap w2 hcap hsee2 hb2 hsz2
  go_wp2_with fail
  have hb12 : Below w.heap.size w w2 := hb1.trans (hb2.mono hb1.size)
  have hw2 := Hw.out.kept hb12
  have hlt := Hw.out.lt
  have hle := Hw.out.le
  have hs1 := (sees_of_owns hown1).below hb2
  obtain ⟨hB, v0, hblk, hown, hne⟩ := hw2.kept (below_alloc _ (.cells #[.slice a1 (natBytes s.size).length c1, .slice (some ⟨w1.heap.size, 0, none⟩) s.size cap] 112))
  have h0 : ∀ k, v0.ownBlock = some k → k < w.heap.size := by
    obtain ⟨_, v00, hblk0, hown0, _⟩ := Hw.out
    obtain rfl : v00 = v0 := by
      have h2 := ((hblk0.below hb12 hblk0.lt).alloc (.cells #[.slice a1 (natBytes s.size).length c1, .slice (some ⟨w1.heap.size, 0, none⟩) s.size cap] 112)).inj hblk
      simpa using h2.1
    exact fun k hk => (hown0.lt k hk).2
  refine (write_only B w.heap.size wb out w2.heap.size [(.slice a1 (natBytes s.size).length c1, natBytes s.size), (.slice (some ⟨w1.heap.size, 0, none⟩) s.size cap, s.data.toList)] _ v0 hB hblk hlt hle hown hne h0 (Blk.new _ _ _) hb12.size ?_ ?_ ?_ (by simp)).mono ?_
  · intro p hp
    have hp2 : p = (.slice a1 (natBytes s.size).length c1, natBytes s.size) ∨ p = (.slice (some ⟨w1.heap.size, 0, none⟩) s.size cap, s.data.toList) := by simpa using hp
    rcases hp2 with rfl | rfl
    · exact hs1.below (below_alloc _ _)
    · exact hsee2.below (below_alloc _ _)
  · intro p hp k hk
    have hp2 : p = (.slice a1 (natBytes s.size).length c1, natBytes s.size) ∨ p = (.slice (some ⟨w1.heap.size, 0, none⟩) s.size cap, s.data.toList) := by simpa using hp
    rcases hp2 with rfl | rfl
    · exact (hown1.lt k hk).1
    · have := hb1.size
      simp [Value.ownBlock] at hk
      omega
  · have : s.data.size = s.size := rfl
    simp; omega
  · rintro e w3 ⟨rfl, hw3, hb3, ho3⟩
    go_wp2
    go_end0
    refine ⟨rfl, by simpa using hw3, ((hb12.mono hle).alloc (Nat.le_trans hle hb12.size) _).trans hb3, ((Only.of_below hb12).trans (Only.of_below (below_alloc w2 _))).trans ho3⟩

end Go.Proofs.YtgonfcdmaoeboaaGreatDoor

/- Rows of packets. -/
namespace Go.Proofs.YtgonfcdmaoeboaaGreatDoor
open Go.RowKit

theorem str_empty {l : List UInt8} (h : l = []) : (str l).toList.isEmpty = true := by rw [str_toList, h]; rfl
theorem str_full {l : List UInt8} (h : l ≠ []) : (str l).toList.isEmpty = false := by rw [str_toList]; simpa using h
/-- a text, as a value -/
def sv (s : List UInt8) : Value := .string (str s)
/-- the cells of packets -/
def pkCells : List Pk → List Value
  | [] => []
  | p :: l => sv p.1 :: sv p.2 :: pkCells l
theorem pkCells_len : ∀ l : List Pk, (pkCells l).length = l.length * 2
  | [] => rfl
  | p :: l => by simp only [pkCells, List.length_cons, pkCells_len l]; omega
theorem pkCells_append : ∀ a b : List Pk, pkCells (a ++ b) = pkCells a ++ pkCells b
  | [], b => rfl
  | p :: a, b => by simp only [pkCells, List.cons_append, pkCells_append a b]
theorem pkCells_oneCell : ∀ l : List Pk, ∀ u ∈ pkCells l, u.oneCell' = true
  | [], u, h => by simp [pkCells] at h
  | p :: l, u, h => by
    simp only [pkCells, List.mem_cons] at h
    rcases h with rfl | rfl | h
    · rfl
    · rfl
    · exact pkCells_oneCell l u h
theorem pkCells_at : ∀ (l : List Pk) (i : Nat) (p : Pk), l[i]? = some p → (pkCells l)[i * 2]? = some (sv p.1) ∧ (pkCells l)[i * 2 + 1]? = some (sv p.2)
  | [], i, p, h => by simp at h
  | q :: l, 0, p, h => by
    simp at h
    subst h
    exact ⟨rfl, rfl⟩
  | q :: l, i + 1, p, h => by
    have ih := pkCells_at l i p (by simpa using h)
    rw [show (i + 1) * 2 = i * 2 + 2 by omega]
    exact ih
theorem pkCells_drop : ∀ (l : List Pk) (k : Nat), (pkCells l).drop (k * 2) = pkCells (l.drop k)
  | l, 0 => by simp
  | [], k + 1 => by simp [pkCells]
  | p :: l, k + 1 => by
    rw [show (k + 1) * 2 = k * 2 + 2 by omega]
    show ((sv p.1 :: sv p.2 :: pkCells l).drop (k * 2 + 2)) = _
    rw [List.drop_succ_cons, List.drop_succ_cons]
    exact pkCells_drop l k
/-- packets in memory -/
def SeesP (w : World) (v : Value) (l : List Pk) : Prop := Sees w 2 v l.length (pkCells l)
def OwnsP (w : World) (B : Nat) (v : Value) (l : List Pk) : Prop := w.ownsRow B 48 2 v l.length (pkCells l)
theorem OwnsP.sees {w : World} {B : Nat} {v : Value} {l : List Pk} (h : OwnsP w B v l) : SeesP w v l := sees_of_owns h
theorem SeesP.below {w w' : World} {v : Value} {l : List Pk} (h : SeesP w v l) (hb : Below w.heap.size w w') : SeesP w' v l := Sees.below h hb
theorem OwnsP.below {w w' : World} {B : Nat} {v : Value} {l : List Pk} (h : OwnsP w B v l) (hb : Below w.heap.size w w') : OwnsP w' B v l := owns_below h hb
theorem OwnsP.nil (w : World) (B : Nat) : OwnsP w B (.slice none 0 0) [] := World.ownsRow_nil _ _ _ _
theorem OwnsP.slice {w : World} {B : Nat} {v : Value} {l : List Pk} (h : OwnsP w B v l) : ∃ a c, v = .slice a l.length c := owns_slice h
/-- a packet's cells -/
theorem SeesP.at {w : World} {v : Value} {l : List Pk} (h : SeesP w v l) : ∃ ao c, v = .slice ao l.length c ∧ l.length ≤ c ∧ ∀ i p, l[i]? = some p → ∃ b off, ao = some ⟨b, off, none⟩ ∧ b < w.heap.size ∧ w.cell? ⟨b, off + i * 2, none⟩ = some (.string (str p.1)) ∧ w.cell? ⟨b, off + i * 2 + 1, none⟩ = some (.string (str p.2)) := by
  obtain ⟨h1, ao, c, rfl, hc, h2⟩ := h
  refine ⟨ao, c, rfl, hc, fun i p hp => ?_⟩
  obtain ⟨hi, _⟩ := List.getElem?_eq_some_iff.1 hp
  obtain ⟨e1, e2⟩ := pkCells_at l i p hp
  rcases h2 with ⟨rfl, h0⟩ | ⟨b, off, rfl, hlt, hcell⟩
  · omega
  · exact ⟨b, off, rfl, hlt, hcell _ _ e1, by have := hcell _ _ e2; rwa [← Nat.add_assoc] at this⟩
end Go.Proofs.YtgonfcdmaoeboaaGreatDoor

/- object.Word, port.counts, port.Packet.Check, and the law's checkPacket, number. -/
namespace Go.Proofs.YtgonfcdmaoeboaaGreatDoor
open Go.RowKit

def oddR (R : Nat) : Bool := decide (R ≤ 32) || decide (126 < R) || decide (R = 47)
/-- the rune at a place, and the byte there -/
theorem dec_odd (s : List UInt8) (pos : Nat) (b : UInt8) (hb : s[pos]? = some b) : oddR (Utf8.decode (str s) pos).1 = oddW b ∧ (oddW b = false → (Utf8.decode (str s) pos).2 = 1) := by
  obtain ⟨hi, hbe⟩ := List.getElem?_eq_some_iff.1 hb
  have hi' : pos < (str s).size := by rw [str_size]; exact hi
  have hget : ((str s).get! pos).toNat = b.toNat := by
    have h1 : (str s).get! pos = (str s)[pos] := by
      show (str s).data[pos]! = _
      rw [getElem!_pos (str s).data pos hi']
      rfl
    rw [h1, (str_get s pos hi').trans hbe]
  rw [Lib.decode_at]
  rw [hget]
  rcases Lib.decodeN_cases ((str s).size - pos) b.toNat ((str s).get! (pos + 1)).toNat ((str s).get! (pos + 2)).toNat ((str s).get! (pos + 3)).toNat with ⟨h, e⟩ | ⟨h1, _, _, h2, e⟩ | ⟨h1, _, _, _, h2, e⟩ | ⟨h1, _⟩ | e
  · rw [e]; exact ⟨rfl, fun _ => rfl⟩
  · have hw : oddW b = true := by unfold oddW; simp; omega
    rw [hw]
    refine ⟨?_, fun h => by cases h⟩
    rw [e]; unfold oddR; simp; omega
  · have hw : oddW b = true := by unfold oddW; simp; omega
    rw [hw]
    refine ⟨?_, fun h => by cases h⟩
    rw [e]; unfold oddR; simp; omega
  · by_cases hb128 : b.toNat < 128
    · have e : Lib.decodeN ((str s).size - pos) b.toNat ((str s).get! (pos + 1)).toNat ((str s).get! (pos + 2)).toNat ((str s).get! (pos + 3)).toNat = (b.toNat, 1) := by unfold Lib.decodeN; rw [if_pos hb128]
      rw [e]; exact ⟨rfl, fun _ => rfl⟩
    · have hw : oddW b = true := by unfold oddW; simp; omega
      rw [hw]
      refine ⟨?_, fun h => by cases h⟩
      unfold oddR; simp; omega
  · by_cases hb128 : b.toNat < 128
    · have e : Lib.decodeN ((str s).size - pos) b.toNat ((str s).get! (pos + 1)).toNat ((str s).get! (pos + 2)).toNat ((str s).get! (pos + 3)).toNat = (b.toNat, 1) := by unfold Lib.decodeN; rw [if_pos hb128]
      rw [e]; exact ⟨rfl, fun _ => rfl⟩
    · have hw : oddW b = true := by unfold oddW; simp; omega
      rw [hw]
      refine ⟨?_, fun h => by cases h⟩
      rw [e]; rfl

set_option maxRecDepth 100000 in
set_option maxHeartbeats 400000 in
theorem oddRune_any (R : Nat) (w : World) : Calls Tryz.prog 112 #[.int .i32 R] w fun e w' => e = .returned (.bool (oddR R)) ∧ w = w' := by
  by_cases h1 : R ≤ 32
  · have e : oddR R = true := by unfold oddR; simp [h1]
    rw [e]; clear e
    go_enter Tryz.func112, Tryz.ntmps112
    go_wp2
    go_ret
    exact ⟨rfl, rfl⟩
  · by_cases h2 : 126 < R
    · have e : oddR R = true := by unfold oddR; simp [h2]
      rw [e]; clear e
      have q1 : decide ((R : Int) ≤ 32) = false := by simp; omega
      have q2 : (126 : Int) < R := by omega
      clear h1
      go_enter Tryz.func112, Tryz.ntmps112
      go_wp2
      go_ret
      exact ⟨rfl, rfl⟩
    · have q1 : decide ((R : Int) ≤ 32) = false := by simp; omega
      have q2 : decide ((126 : Int) < R) = false := by simp; omega
      by_cases h3 : R = 47
      · have e : oddR R = true := by unfold oddR; simp [h3]
        have q3 : ((R : Int) == 47) = true := by simp [h3]
        rw [e]; clear e h1 h2 h3
        go_enter Tryz.func112, Tryz.ntmps112
        go_wp2
        go_ret
        exact ⟨rfl, rfl⟩
      · have e : oddR R = false := by unfold oddR; simp [h3]; omega
        have q3 : ((R : Int) == 47) = false := by simp; omega
        rw [e]; clear e h1 h2 h3
        go_enter Tryz.func112, Tryz.ntmps112
        go_wp2
        go_ret
        exact ⟨rfl, rfl⟩

set_option maxRecDepth 100000 in
set_option maxHeartbeats 800000 in
theorem idxOdd_any (s : List UInt8) (lb : Array Value) (hlb : lb = #[]) (w : World) (_ : s.length ≤ 9223372036854775807) :
    Calls Tryz.prog 162 #[.string (str s), .func (.func 112) #[] lb, .bool true] w fun e w' => (∃ r : Int, e = .returned (.int .i64 r) ∧ decide (0 ≤ r) = s.any oddW) ∧ Below w.heap.size w w' := by
  subst hlb
  have hsz := str_size s
  have hent : ∀ args w, (callFunc 112 args).run Tryz.prog w = .ok (.enter 112 args) w := enters_of Tryz.func112 (by kernel_rfl) rfl
  go_enter Tryz.func162, Tryz.ntmps162
  go_wp2
  go_loopg [] s.length (fun g wx => ∃ pos : Nat, pos ≤ s.length ∧ g = s.length - pos ∧ wx.heap[w.heap.size]? = some (.stringIter (str s) pos) ∧ Hid ((s.take pos).any oddW = false) ∧ Below w.heap.size w wx)
  case atStart => exact ⟨0, Nat.zero_le _, rfl, World.iter_heap w (str s) 0, Lib.hid (by simp), (Below.refl _ w).alloc (Nat.le_refl _) _⟩
  case round =>
    obtain ⟨pos, hp, rfl, hit, hno, hbw⟩ := hrel
    by_cases hps : pos < s.length
    · obtain ⟨b, hb⟩ : ∃ b, s[pos]? = some b := ⟨_, List.getElem?_eq_getElem hps⟩
      obtain ⟨ho, hw⟩ := dec_odd s pos b hb
      have hps' : pos < (str s).size := by rw [hsz]; exact hps
      have hnx : ∀ ty, (Instr.next (.pointer (some ⟨w.heap.size, 0, none⟩)) true ty).run Tryz.prog wr = _ := fun ty => Lib.run_next_any_at wr w.heap.size (str s) pos ty hit hps'
      obtain ⟨R, hR⟩ : ∃ R, (Utf8.decode (str s) pos).1 = R := ⟨_, rfl⟩
      obtain ⟨K, hK⟩ : ∃ K, (Utf8.decode (str s) pos).2 = K := ⟨_, rfl⟩
      rw [hR, hK] at hnx
      rw [hR] at ho
      rw [hK] at hw
      have hit2 := Lib.iterAt_heap wr w.heap.size (str s) pos (pos + K) hit
      have hbw2 := Lib.below_iterAt hbw (k := w.heap.size) (Nat.le_refl _) (str s) (pos + K)
      obtain ⟨W, hWd⟩ : ∃ W, wr.iterAt w.heap.size (str s) (pos + K) = W := ⟨_, rfl⟩
      rw [hWd] at hnx hit2 hbw2
      have cS := oddRune_any R W
      rw [ho] at cS
      have hstep : (s.take (pos + 1)).any oddW = oddW b := by
        obtain ⟨hi, hbe⟩ := List.getElem?_eq_some_iff.1 hb
        rw [List.take_succ_eq_append_getElem hi, hbe, List.any_append, hno.out]; simp
      have hin : oddW b = true → s.any oddW = true := fun h => by rw [List.any_eq_true]; exact ⟨b, List.mem_of_getElem? hb, h⟩
      have Hst := Lib.hid hstep; clear hstep
      have Hin := Lib.hid hin; clear hin
      clear hb ho hR hK hWd hit hbw
      cases hod : oddW b with
      | true =>
        have hf := Lib.hid (Hin.out hod)
        rw [hod] at cS
        have CS := Lib.hid cS; clear cS hod hw Hst Hin
        go_wp2_with (go_at_call 112; refine CS.out.mono ?_; rintro e w6 ⟨rfl, rfl⟩)
        go_ret
        exact ⟨⟨(pos : Int), rfl, by rw [hf.out]; simp⟩, hbw2⟩
      | false =>
        have hK1 := hw hod
        subst hK1
        rw [hod] at cS
        have hn : Hid ((s.take (pos + 1)).any oddW = false) := by show _ = _; rw [Hst.out, hod]
        have CS := Lib.hid cS; clear cS hod hw Hst Hin
        go_wp2_with (go_at_call 112; refine CS.out.mono ?_; rintro e w6 ⟨rfl, rfl⟩)
        go_roundg (s.length - (pos + 1))
        case measure => omega
        case rel => exact ⟨pos + 1, by omega, rfl, hit2, hn, hbw2⟩
    · have hnx : ∀ ty, (Instr.next (.pointer (some ⟨w.heap.size, 0, none⟩)) true ty).run Tryz.prog wr = _ := fun ty => Lib.run_next_end_at wr w.heap.size (str s) pos ty hit (by rw [hsz]; exact hps)
      have hf : Hid (s.any oddW = false) := by
        show _ = _
        have := hno.out
        rwa [List.take_of_length_le (by omega)] at this
      go_wp2
      go_ret
      exact ⟨⟨-1, rfl, by rw [hf.out]; simp⟩, hbw⟩

set_option maxRecDepth 100000 in
set_option maxHeartbeats 800000 in
theorem contOdd_any (s : List UInt8) (w : World) (hs : s.length ≤ 9223372036854775807) :
    Calls Tryz.prog 113 #[.string (str s), .func (.func 112) #[] #[]] w fun e w' => e = .returned (.bool (s.any oddW)) ∧ Below w.heap.size w w' := by
  have cI : ∀ w, Calls Tryz.prog 143 #[.string (str s), .func (.func 112) #[] #[]] w fun e w' => (∃ r : Int, e = .returned (.int .i64 r) ∧ decide (0 ≤ r) = s.any oddW) ∧ Below w.heap.size w w' := by
    intro w
    have c := idxOdd_any s #[] rfl w hs
    have C := Lib.hid c; clear c
    go_enter Tryz.func143, Tryz.ntmps143
    go_wp2_with (go_at_call 162; refine C.out.mono ?_; rintro e w' ⟨⟨r, rfl, hr⟩, hb⟩)
    go_ret
    exact ⟨⟨r, rfl, hr⟩, hb⟩
  have C := Lib.hid (cI w); clear cI
  go_enter Tryz.func113, Tryz.ntmps113
  go_wp2_with (go_at_call 143; refine C.out.mono ?_; rintro e w' ⟨⟨r, rfl, hr⟩, hb⟩)
  go_ret
  exact ⟨by rw [← hr] <;> rfl, hb⟩

set_option maxRecDepth 100000 in
set_option maxHeartbeats 800000 in
theorem word_any (s : List UInt8) (w : World) (hs : s.length ≤ 9223372036854775807) :
    Calls Tryz.prog 73 #[.string (str s)] w fun e w' => e = .returned (.bool (wordB s)) ∧ Below w.heap.size w w' := by
  have hsz := str_size s
  by_cases h0 : s = []
  · have e : wordB s = false := by rw [h0]; rfl
    have q := str_empty h0
    rw [e]; clear e h0
    go_enter Tryz.func73, Tryz.ntmps73
    go_wp2
    go_ret
    exact ⟨rfl, Below.refl _ _⟩
  · have q := str_full h0
    by_cases h1 : s.length ≤ 32
    · have e : wordB s = !s.any oddW := by unfold wordB; simp [h0, h1]
      have C := Lib.hid (fun w => contOdd_any s w hs)
      have q1 : (s.length : Int) ≤ 32 := by omega
      rw [e]; clear e h0
      cases ho : s.any oddW with
      | true =>
        rw [ho] at C
        clear ho
        go_enter Tryz.func73, Tryz.ntmps73
        go_wp2_with (go_at_call 113; refine (C.out _).mono ?_; rintro e w' ⟨rfl, hb⟩)
        go_ret
        exact ⟨rfl, hb⟩
      | false =>
        rw [ho] at C
        clear ho
        go_enter Tryz.func73, Tryz.ntmps73
        go_wp2_with (go_at_call 113; refine (C.out _).mono ?_; rintro e w' ⟨rfl, hb⟩)
        go_ret
        exact ⟨rfl, hb⟩
    · have e : wordB s = false := by unfold wordB; simp [h1]
      have q1 : decide ((s.length : Int) ≤ 32) = false := by simp; omega
      rw [e]; clear e h0 h1
      go_enter Tryz.func73, Tryz.ntmps73
      go_wp2
      go_ret
      exact ⟨rfl, Below.refl _ _⟩
end Go.Proofs.YtgonfcdmaoeboaaGreatDoor

/- Check of packets and ports, in the package and in the law. -/
namespace Go.Proofs.YtgonfcdmaoeboaaGreatDoor
open Go.RowKit

/-- a port, as a value -/
def portV (own : List UInt8) (ep lost : Int) (qv : Value) : Value := .agg #[.string (str own), .int .i64 ep, .int .i64 lost, qv]
theorem pksE_take {l : List Pk} {k : Nat} {p : Pk} (hp : l[k]? = some p) (h0 : pksE (l.take k) = 0) : pksE (l.take (k + 1)) = pkE p ∧ (pkE p ≠ 0 → pksE l = pkE p) := by
  induction l generalizing k with
  | nil => simp at hp
  | cons s l ih =>
    cases k with
    | zero =>
      simp at hp
      subst hp
      simp only [List.take_succ_cons, List.take_zero, pksE]
      constructor
      · split <;> simp_all
      · intro h; rw [if_neg h]
    | succ k =>
      simp only [List.take_succ_cons, pksE] at h0 ⊢
      split at h0
      · rename_i hs
        have := ih (k := k) (by simpa using hp) h0
        rw [if_pos hs, if_pos hs]
        exact this
      · rename_i hs; exact absurd h0 hs

set_option maxRecDepth 100000 in
set_option maxHeartbeats 400000 in
theorem counts_any (n : Int) (w : World) : Calls Tryz.prog 61 #[.int .i64 n] w fun e w' => e = .returned (.bool (withinB n 1073741824)) ∧ w = w' := by
  by_cases h0 : 0 ≤ n
  · by_cases h1 : n ≤ 1073741824
    · rw [withinB_iff.2 ⟨h0, h1⟩]
      go_enter Tryz.func61, Tryz.ntmps61
      go_wp2
      go_ret
      exact ⟨rfl, rfl⟩
    · rw [withinB_no.2 (fun h => h1 h.2)]
      have h3 : decide (n ≤ 1073741824) = false := by simp [h1]
      have h2 : 1073741824 < n := by omega
      clear h1
      go_enter Tryz.func61, Tryz.ntmps61
      go_wp2
      go_ret
      exact ⟨rfl, rfl⟩
  · rw [withinB_no.2 (fun h => h0 h.1)]
    have h2 : n < 0 := by omega
    clear h0
    go_enter Tryz.func61, Tryz.ntmps61
    go_wp2
    go_ret
    exact ⟨rfl, rfl⟩

set_option maxRecDepth 100000 in
set_option maxHeartbeats 400000 in
theorem lawNumber_any (n : Int) (w : World) : Calls Tryz.prog 60 #[.int .i64 n] w fun e w' => e = .returned (.bool (withinB n 1073741824)) ∧ w = w' := by
  by_cases h0 : 0 ≤ n
  · by_cases h1 : n ≤ 1073741824
    · rw [withinB_iff.2 ⟨h0, h1⟩]
      go_enter Tryz.func60, Tryz.ntmps60
      go_wp2
      go_ret
      exact ⟨rfl, rfl⟩
    · rw [withinB_no.2 (fun h => h1 h.2)]
      have h3 : decide (n ≤ 1073741824) = false := by simp [h1]
      have h2 : 1073741824 < n := by omega
      clear h1
      go_enter Tryz.func60, Tryz.ntmps60
      go_wp2
      go_ret
      exact ⟨rfl, rfl⟩
  · rw [withinB_no.2 (fun h => h0 h.1)]
    have h2 : n < 0 := by omega
    clear h0
    go_enter Tryz.func60, Tryz.ntmps60
    go_wp2
    go_ret
    exact ⟨rfl, rfl⟩

set_option maxRecDepth 100000 in
set_option maxHeartbeats 400000 in
theorem pkCheck_any (p : Pk) (w : World) (h1 : p.1.length ≤ 9223372036854775807) (h2 : p.2.length ≤ 9223372036854775807) : Calls Tryz.prog 62 #[.agg #[.string (str p.1), .string (str p.2)]] w fun e w' => e = .returned (.int .i64 (pkE p)) ∧ Below w.heap.size w w' := by
  obtain ⟨a, b⟩ := p
  simp only at h1 h2
  have hk := Blk.new w #[.string (str a), .string (str b)] 48
  have hP := (Past.refl w).alloc (.cells #[.string (str a), .string (str b)] 48)
  obtain ⟨k0, k1, _, _⟩ := hk.two
  have hsz := str_size b
  have hw := fun w => word_any a w h1
  cases hv : wordB a with
  | false =>
    have e : pkE (a, b) = 12 := by unfold pkE; rw [if_pos hv]
    rw [hv] at hw
    have Hw := Lib.hid hw; clear hw hv
    rw [e]; clear e
    go_enter Tryz.func62, Tryz.ntmps62
    go_wp2_with (go_at_call 73; refine (Hw.out _).mono ?_; rintro x w2 ⟨rfl, hb2⟩)
    go_ret
    exact ⟨rfl, (hP.call hb2).1⟩
  | true =>
    rw [hv] at hw
    have Hw := Lib.hid hw; clear hw
    by_cases h512 : 512 < b.length
    · have e : pkE (a, b) = 5 := by unfold pkE; rw [if_neg (by simp [hv]), if_pos h512]
      have q : (512 : Int) < b.length := by omega
      rw [e]; clear e hv
      go_enter Tryz.func62, Tryz.ntmps62
      go_wp2_with (go_at_call 73; refine (Hw.out _).mono ?_; rintro x w2 ⟨rfl, hb2⟩; have hk2 := hk.below hb2 hk.lt; clear k0 k1; obtain ⟨k0, k1, _, _⟩ := hk2.two)
      go_ret
      exact ⟨rfl, (hP.call hb2).1⟩
    · have e : pkE (a, b) = 0 := by unfold pkE; rw [if_neg (by simp [hv]), if_neg h512]
      have q : ¬ ((512 : Int) < b.length) := by omega
      rw [e]; clear e hv
      go_enter Tryz.func62, Tryz.ntmps62
      go_wp2_with (go_at_call 73; refine (Hw.out _).mono ?_; rintro x w2 ⟨rfl, hb2⟩; have hk2 := hk.below hb2 hk.lt; clear k0 k1; obtain ⟨k0, k1, _, _⟩ := hk2.two)
      go_ret
      exact ⟨rfl, (hP.call hb2).1⟩

set_option maxRecDepth 100000 in
set_option maxHeartbeats 400000 in
theorem pkCheckL_any (p : Pk) (w : World) (h1 : p.1.length ≤ 9223372036854775807) (h2 : p.2.length ≤ 9223372036854775807) : Calls Tryz.prog 27 #[.agg #[.string (str p.1), .string (str p.2)]] w fun e w' => e = .returned (.int .i64 (pkE p)) ∧ Below w.heap.size w w' := by
  obtain ⟨a, b⟩ := p
  simp only at h1 h2
  have hk := Blk.new w #[.string (str a), .string (str b)] 48
  have hP := (Past.refl w).alloc (.cells #[.string (str a), .string (str b)] 48)
  obtain ⟨k0, k1, _, _⟩ := hk.two
  have hsz := str_size b
  have hw := fun w => word_any a w h1
  cases hv : wordB a with
  | false =>
    have e : pkE (a, b) = 12 := by unfold pkE; rw [if_pos hv]
    rw [hv] at hw
    have Hw := Lib.hid hw; clear hw hv
    rw [e]; clear e
    go_enter Tryz.func27, Tryz.ntmps27
    go_wp2_with (go_at_call 73; refine (Hw.out _).mono ?_; rintro x w2 ⟨rfl, hb2⟩)
    go_ret
    exact ⟨rfl, (hP.call hb2).1⟩
  | true =>
    rw [hv] at hw
    have Hw := Lib.hid hw; clear hw
    by_cases h512 : 512 < b.length
    · have e : pkE (a, b) = 5 := by unfold pkE; rw [if_neg (by simp [hv]), if_pos h512]
      have q : (512 : Int) < b.length := by omega
      rw [e]; clear e hv
      go_enter Tryz.func27, Tryz.ntmps27
      go_wp2_with (go_at_call 73; refine (Hw.out _).mono ?_; rintro x w2 ⟨rfl, hb2⟩; have hk2 := hk.below hb2 hk.lt; clear k0 k1; obtain ⟨k0, k1, _, _⟩ := hk2.two)
      go_ret
      exact ⟨rfl, (hP.call hb2).1⟩
    · have e : pkE (a, b) = 0 := by unfold pkE; rw [if_neg (by simp [hv]), if_neg h512]
      have q : ¬ ((512 : Int) < b.length) := by omega
      rw [e]; clear e hv
      go_enter Tryz.func27, Tryz.ntmps27
      go_wp2_with (go_at_call 73; refine (Hw.out _).mono ?_; rintro x w2 ⟨rfl, hb2⟩; have hk2 := hk.below hb2 hk.lt; clear k0 k1; obtain ⟨k0, k1, _, _⟩ := hk2.two)
      go_ret
      exact ⟨rfl, (hP.call hb2).1⟩

set_option maxRecDepth 100000 in
set_option maxHeartbeats 3200000 in
theorem portCheck_any (own : List UInt8) (ep lost : Int) (qv : Value) (q : List Pk) (w : World) (hq : SeesP w qv q) (ho : own.length ≤ 1000000000) (hl : q.length ≤ 9223372036854775807) (hls : ∀ p ∈ q, p.1.length ≤ 9223372036854775807 ∧ p.2.length ≤ 9223372036854775807) :
    Calls Tryz.prog 18 #[portV own ep lost qv] w fun x w' => x = .returned (.int .i64 (PT.check ⟨own, ep, lost, q⟩)) ∧ Below w.heap.size w w' := by
  obtain ⟨ao, c, rfl, hc, hget⟩ := hq.at
  have fin : ∀ (r : Nat), PT.check ⟨own, ep, lost, q⟩ = r → ∀ (w' : World), Below w.heap.size w w' → (Ending.returned (.int .i64 (r : Int)) = .returned (.int .i64 (PT.check ⟨own, ep, lost, q⟩)) ∧ Below w.heap.size w w') := fun r hr w' hb => by rw [hr]; exact ⟨rfl, hb⟩
  have Fin := Lib.hid fin; clear fin
  have Hget := Lib.hid hget; clear hget hq
  have Hls := Lib.hid hls; clear hls
  have hbx := Blk.new w #[.string (str own), .int .i64 ep, .int .i64 lost, .slice ao q.length c] 25
  obtain ⟨b0, b1, b2, b3, _, _, _, _⟩ := hbx.quad
  have hP := (Past.refl w).alloc (.cells #[.string (str own), .int .i64 ep, .int .i64 lost, .slice ao q.length c] 25)
  unfold portV
  cases hv : validName own with
  | false =>
    have Hf := Lib.hid (Fin.out 12 (by unfold PT.check; rw [if_pos hv]))
    go_enter Tryz.func18, Tryz.ntmps18
    go_wp2_with (go_at_call 32; refine (valid_any own _ ho).mono ?_; rw [hv]; rintro x w2 ⟨rfl, hb2⟩)
    go_ret
    exact Hf.out _ (hP.call hb2).1
  | true =>
    by_cases h1 : 0 ≤ ep ∧ ep ≤ 1073741824
    · have w1 := withinB_iff.2 h1
      by_cases h2 : 0 ≤ lost ∧ lost ≤ 1073741824
      · have w3 := withinB_iff.2 h2
        by_cases h3 : 16 < q.length
        · have Hf := Lib.hid (Fin.out 9 (by unfold PT.check; rw [if_neg (by simp [hv]), if_neg (by simp [h1, h2]), if_pos h3]))
          have k3 : (16 : Int) < q.length := by omega
          go_enter Tryz.func18, Tryz.ntmps18
          go_wp2_with (first
        | (go_at_call 32; refine (valid_any own _ ho).mono ?_; rw [hv]; rintro x w2 ⟨rfl, hb2⟩; have hx2 := hbx.below hb2 hbx.lt; clear b0 b1 b2 b3; obtain ⟨b0, b1, b2, b3, _, _, _, _⟩ := hx2.quad)
        | (go_at_call 61; refine (counts_any _ _).mono ?_; (first | rw [w1] | rw [w3]); rintro x w3 ⟨rfl, rfl⟩))
          go_ret
          exact Hf.out _ (hP.call hb2).1
        · have k3 : ¬ ((16 : Int) < q.length) := by omega
          have hq16 : q.length ≤ 16 := by omega
          have Hv := Lib.hid hv
          go_enter Tryz.func18, Tryz.ntmps18
          go_wp2_with (first
        | (go_at_call 32; refine (valid_any own _ ho).mono ?_; rw [hv]; rintro x w2 ⟨rfl, hb2⟩; have hx2 := hbx.below hb2 hbx.lt; clear b0 b1 b2 b3; obtain ⟨b0, b1, b2, b3, _, _, _, _⟩ := hx2.quad)
        | (go_at_call 61; refine (counts_any _ _).mono ?_; (first | rw [w1] | rw [w3]); rintro x w3 ⟨rfl, rfl⟩))
          have hP2 := hP.call hb2
          clear hv hb2 b0 b1 b2 b3 h3 hP w1 w3
          go_loopg [30] q.length (fun g t wr => ∃ k : Nat, k ≤ q.length ∧ g = q.length - k ∧ t = .int .i64 k ∧ Hid (pksE (q.take k) = 0) ∧ Past w.heap.size w wr ∧ Blk wr w.heap.size #[.string (str own), .int .i64 ep, .int .i64 lost, .slice ao q.length c] 25)
          case atStart => exact ⟨0, Nat.zero_le _, rfl, rfl, Lib.hid rfl, hP2, hx2⟩
          case round =>
            obtain ⟨k, hk, rfl, rfl, hok, hPr, hxr⟩ := hrel
            clear hx2 hP2 hbx
            obtain ⟨b0, b1, b2, b3, _, _, _, _⟩ := hxr.quad
            by_cases hlt : k < q.length
            · obtain ⟨p, hp⟩ : ∃ p, q[k]? = some p := ⟨_, List.getElem?_eq_getElem hlt⟩
              obtain ⟨b, off, rfl, hbl, c1, c2⟩ := Hget.out k p hp
              have d1 : wr.cell? ⟨b, off + k * 2, none⟩ = some (.string (str p.1)) := (hPr.1.cell (p := ⟨b, off + k * 2, none⟩) hbl).trans c1
              have d2 : wr.cell? ⟨b, off + k * 2 + 1, none⟩ = some (.string (str p.2)) := (hPr.1.cell (p := ⟨b, off + k * 2 + 1, none⟩) hbl).trans c2
              have q0 : (k : Int) < q.length := by omega
              obtain ⟨g1, g2⟩ := pksE_take hp hok.out
              have hpl := Hls.out p (List.mem_of_getElem? hp)
              have hpc := fun w => pkCheck_any p w hpl.1 hpl.2
              clear c1 c2 hp
              by_cases hz : pkE p = 0
              · have hn : Hid (pksE (q.take (k + 1)) = 0) := by show _ = _; rw [g1, hz]
                rw [hz] at hpc
                have Hpc := Lib.hid hpc; clear hpc g1 g2 hz
                go_wp2_with (go_at_call 62; refine (Hpc.out _).mono ?_; rintro x w5 ⟨rfl, hb5⟩)
                go_roundg (q.length - (k + 1))
                case measure => omega
                case rel => exact ⟨k + 1, by omega, rfl, by go_num, hn, (hPr.alloc _).call hb5, (hxr.alloc _).below hb5 (by have := hxr.lt; simp; omega)⟩
              · have Hf := Lib.hid (Fin.out (pkE p) (by unfold PT.check; rw [if_neg (by simp [Hv.out]), if_neg (by simp [h1, h2]), if_neg (by show ¬ 16 < q.length; omega)]; exact g2 hz))
                obtain ⟨E, hE⟩ : ∃ E, E = pkE p := ⟨_, rfl⟩
                rw [← hE] at hpc hz Hf
                have Hpc := Lib.hid hpc; clear hpc g1 g2 hE
                have q1 : ((E : Int) == 0) = false := by simp; omega
                have q2 : ((E : Int) != 0) = true := by simp; omega
                go_wp2_with (go_at_call 62; refine (Hpc.out _).mono ?_; rintro x w5 ⟨rfl, hb5⟩)
                go_ret
                exact Hf.out _ ((hPr.alloc _).call hb5).1
            · obtain rfl : k = q.length := by omega
              have q0 : decide ((q.length : Int) < (q.length : Int)) = false := by simp
              have Hf := Lib.hid (Fin.out 0 (by unfold PT.check; rw [if_neg (by simp [Hv.out]), if_neg (by simp [h1, h2]), if_neg (by show ¬ 16 < q.length; omega)]; have := hok.out; rwa [List.take_length] at this))
              go_wp2
              go_ret
              exact Hf.out _ hPr.1
      · have w3 := withinB_no.2 h2
        have Hf := Lib.hid (Fin.out 2 (by unfold PT.check; rw [if_neg (by simp [hv]), if_pos (fun h => h2 h.2)]))
        go_enter Tryz.func18, Tryz.ntmps18
        go_wp2_with (first
        | (go_at_call 32; refine (valid_any own _ ho).mono ?_; rw [hv]; rintro x w2 ⟨rfl, hb2⟩; have hx2 := hbx.below hb2 hbx.lt; clear b0 b1 b2 b3; obtain ⟨b0, b1, b2, b3, _, _, _, _⟩ := hx2.quad)
        | (go_at_call 61; refine (counts_any _ _).mono ?_; (first | rw [w1] | rw [w3]); rintro x w3 ⟨rfl, rfl⟩))
        go_ret
        exact Hf.out _ (hP.call hb2).1
    · have w1 := withinB_no.2 h1
      have w3 := w1
      have Hf := Lib.hid (Fin.out 2 (by unfold PT.check; rw [if_neg (by simp [hv]), if_pos (fun h => h1 h.1)]))
      go_enter Tryz.func18, Tryz.ntmps18
      go_wp2_with (first
        | (go_at_call 32; refine (valid_any own _ ho).mono ?_; rw [hv]; rintro x w2 ⟨rfl, hb2⟩; have hx2 := hbx.below hb2 hbx.lt; clear b0 b1 b2 b3; obtain ⟨b0, b1, b2, b3, _, _, _, _⟩ := hx2.quad)
        | (go_at_call 61; refine (counts_any _ _).mono ?_; (first | rw [w1] | rw [w3]); rintro x w3 ⟨rfl, rfl⟩))
      go_ret
      exact Hf.out _ (hP.call hb2).1

set_option maxRecDepth 100000 in
set_option maxHeartbeats 3200000 in
theorem portCheckL_any (own : List UInt8) (ep lost : Int) (qv : Value) (q : List Pk) (w : World) (hq : SeesP w qv q) (ho : own.length ≤ 1000000000) (hl : q.length ≤ 9223372036854775807) (hls : ∀ p ∈ q, p.1.length ≤ 9223372036854775807 ∧ p.2.length ≤ 9223372036854775807) :
    Calls Tryz.prog 17 #[portV own ep lost qv] w fun x w' => x = .returned (.int .i64 (PT.check ⟨own, ep, lost, q⟩)) ∧ Below w.heap.size w w' := by
  obtain ⟨ao, c, rfl, hc, hget⟩ := hq.at
  have fin : ∀ (r : Nat), PT.check ⟨own, ep, lost, q⟩ = r → ∀ (w' : World), Below w.heap.size w w' → (Ending.returned (.int .i64 (r : Int)) = .returned (.int .i64 (PT.check ⟨own, ep, lost, q⟩)) ∧ Below w.heap.size w w') := fun r hr w' hb => by rw [hr]; exact ⟨rfl, hb⟩
  have Fin := Lib.hid fin; clear fin
  have Hget := Lib.hid hget; clear hget hq
  have Hls := Lib.hid hls; clear hls
  have hbx := Blk.new w #[.string (str own), .int .i64 ep, .int .i64 lost, .slice ao q.length c] 25
  obtain ⟨b0, b1, b2, b3, _, _, _, _⟩ := hbx.quad
  have hP := (Past.refl w).alloc (.cells #[.string (str own), .int .i64 ep, .int .i64 lost, .slice ao q.length c] 25)
  unfold portV
  cases hv : validName own with
  | false =>
    have Hf := Lib.hid (Fin.out 12 (by unfold PT.check; rw [if_pos hv]))
    go_enter Tryz.func17, Tryz.ntmps17
    go_wp2_with (go_at_call 32; refine (valid_any own _ ho).mono ?_; rw [hv]; rintro x w2 ⟨rfl, hb2⟩)
    go_ret
    exact Hf.out _ (hP.call hb2).1
  | true =>
    by_cases h1 : 0 ≤ ep ∧ ep ≤ 1073741824
    · have w1 := withinB_iff.2 h1
      by_cases h2 : 0 ≤ lost ∧ lost ≤ 1073741824
      · have w3 := withinB_iff.2 h2
        by_cases h3 : 16 < q.length
        · have Hf := Lib.hid (Fin.out 9 (by unfold PT.check; rw [if_neg (by simp [hv]), if_neg (by simp [h1, h2]), if_pos h3]))
          have k3 : (16 : Int) < q.length := by omega
          go_enter Tryz.func17, Tryz.ntmps17
          go_wp2_with (first
        | (go_at_call 32; refine (valid_any own _ ho).mono ?_; rw [hv]; rintro x w2 ⟨rfl, hb2⟩; have hx2 := hbx.below hb2 hbx.lt; clear b0 b1 b2 b3; obtain ⟨b0, b1, b2, b3, _, _, _, _⟩ := hx2.quad)
        | (go_at_call 60; refine (lawNumber_any _ _).mono ?_; (first | rw [w1] | rw [w3]); rintro x w3 ⟨rfl, rfl⟩))
          go_ret
          exact Hf.out _ (hP.call hb2).1
        · have k3 : ¬ ((16 : Int) < q.length) := by omega
          have hq16 : q.length ≤ 16 := by omega
          have Hv := Lib.hid hv
          go_enter Tryz.func17, Tryz.ntmps17
          go_wp2_with (first
        | (go_at_call 32; refine (valid_any own _ ho).mono ?_; rw [hv]; rintro x w2 ⟨rfl, hb2⟩; have hx2 := hbx.below hb2 hbx.lt; clear b0 b1 b2 b3; obtain ⟨b0, b1, b2, b3, _, _, _, _⟩ := hx2.quad)
        | (go_at_call 60; refine (lawNumber_any _ _).mono ?_; (first | rw [w1] | rw [w3]); rintro x w3 ⟨rfl, rfl⟩))
          have hP2 := hP.call hb2
          clear hv hb2 b0 b1 b2 b3 h3 hP w1 w3
          go_loopg [3] q.length (fun g t wr => ∃ k : Nat, k ≤ q.length ∧ g = q.length - k ∧ t = .int .i64 k ∧ Hid (pksE (q.take k) = 0) ∧ Past w.heap.size w wr ∧ Blk wr w.heap.size #[.string (str own), .int .i64 ep, .int .i64 lost, .slice ao q.length c] 25)
          case atStart => exact ⟨0, Nat.zero_le _, rfl, rfl, Lib.hid rfl, hP2, hx2⟩
          case round =>
            obtain ⟨k, hk, rfl, rfl, hok, hPr, hxr⟩ := hrel
            clear hx2 hP2 hbx
            obtain ⟨b0, b1, b2, b3, _, _, _, _⟩ := hxr.quad
            by_cases hlt : k < q.length
            · obtain ⟨p, hp⟩ : ∃ p, q[k]? = some p := ⟨_, List.getElem?_eq_getElem hlt⟩
              obtain ⟨b, off, rfl, hbl, c1, c2⟩ := Hget.out k p hp
              have d1 : wr.cell? ⟨b, off + k * 2, none⟩ = some (.string (str p.1)) := (hPr.1.cell (p := ⟨b, off + k * 2, none⟩) hbl).trans c1
              have d2 : wr.cell? ⟨b, off + k * 2 + 1, none⟩ = some (.string (str p.2)) := (hPr.1.cell (p := ⟨b, off + k * 2 + 1, none⟩) hbl).trans c2
              have q0 : (k : Int) < q.length := by omega
              obtain ⟨g1, g2⟩ := pksE_take hp hok.out
              have hpl := Hls.out p (List.mem_of_getElem? hp)
              have hpc := fun w => pkCheckL_any p w hpl.1 hpl.2
              clear c1 c2 hp
              by_cases hz : pkE p = 0
              · have hn : Hid (pksE (q.take (k + 1)) = 0) := by show _ = _; rw [g1, hz]
                rw [hz] at hpc
                have Hpc := Lib.hid hpc; clear hpc g1 g2 hz
                go_wp2_with (go_at_call 27; refine (Hpc.out _).mono ?_; rintro x w5 ⟨rfl, hb5⟩)
                go_roundg (q.length - (k + 1))
                case measure => omega
                case rel => exact ⟨k + 1, by omega, rfl, by go_num, hn, hPr.call hb5, hxr.below hb5 hxr.lt⟩
              · have Hf := Lib.hid (Fin.out (pkE p) (by unfold PT.check; rw [if_neg (by simp [Hv.out]), if_neg (by simp [h1, h2]), if_neg (by show ¬ 16 < q.length; omega)]; exact g2 hz))
                obtain ⟨E, hE⟩ : ∃ E, E = pkE p := ⟨_, rfl⟩
                rw [← hE] at hpc hz Hf
                have Hpc := Lib.hid hpc; clear hpc g1 g2 hE
                have q1 : ((E : Int) == 0) = false := by simp; omega
                have q2 : ((E : Int) != 0) = true := by simp; omega
                go_wp2_with (go_at_call 27; refine (Hpc.out _).mono ?_; rintro x w5 ⟨rfl, hb5⟩)
                go_ret
                exact Hf.out _ (hPr.call hb5).1
            · obtain rfl : k = q.length := by omega
              have q0 : decide ((q.length : Int) < (q.length : Int)) = false := by simp
              have Hf := Lib.hid (Fin.out 0 (by unfold PT.check; rw [if_neg (by simp [Hv.out]), if_neg (by simp [h1, h2]), if_neg (by show ¬ 16 < q.length; omega)]; have := hok.out; rwa [List.take_length] at this))
              go_wp2
              go_ret
              exact Hf.out _ hPr.1
      · have w3 := withinB_no.2 h2
        have Hf := Lib.hid (Fin.out 2 (by unfold PT.check; rw [if_neg (by simp [hv]), if_pos (fun h => h2 h.2)]))
        go_enter Tryz.func17, Tryz.ntmps17
        go_wp2_with (first
        | (go_at_call 32; refine (valid_any own _ ho).mono ?_; rw [hv]; rintro x w2 ⟨rfl, hb2⟩; have hx2 := hbx.below hb2 hbx.lt; clear b0 b1 b2 b3; obtain ⟨b0, b1, b2, b3, _, _, _, _⟩ := hx2.quad)
        | (go_at_call 60; refine (lawNumber_any _ _).mono ?_; (first | rw [w1] | rw [w3]); rintro x w3 ⟨rfl, rfl⟩))
        go_ret
        exact Hf.out _ (hP.call hb2).1
    · have w1 := withinB_no.2 h1
      have w3 := w1
      have Hf := Lib.hid (Fin.out 2 (by unfold PT.check; rw [if_neg (by simp [hv]), if_pos (fun h => h1 h.1)]))
      go_enter Tryz.func17, Tryz.ntmps17
      go_wp2_with (first
        | (go_at_call 32; refine (valid_any own _ ho).mono ?_; rw [hv]; rintro x w2 ⟨rfl, hb2⟩; have hx2 := hbx.below hb2 hbx.lt; clear b0 b1 b2 b3; obtain ⟨b0, b1, b2, b3, _, _, _, _⟩ := hx2.quad)
        | (go_at_call 60; refine (lawNumber_any _ _).mono ?_; (first | rw [w1] | rw [w3]); rintro x w3 ⟨rfl, rfl⟩))
      go_ret
      exact Hf.out _ (hP.call hb2).1
end Go.Proofs.YtgonfcdmaoeboaaGreatDoor
