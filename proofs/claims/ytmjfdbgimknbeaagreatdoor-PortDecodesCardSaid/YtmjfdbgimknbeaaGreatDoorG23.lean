/- Contracts of functions on the way to the claim, proved for every input that their hypotheses let by; no condition of the claim. Joined of: Y14. -/
import Derived.Deep.RegionHeld3
import Derived.Test.YtmjfdbgimknbeaaGreatDoorG22
import Derived.Test.YtmjfdbgimknbeaaGreatDoorG21

/- replevinlaw37.PortDecodes. -/
namespace Go.Proofs.YtmjfdbgimknbeaaGreatDoor
open Go.RowKit

theorem portDec_small (bs : List UInt8) : (portDec bs).q.length ≤ 16 := by
  by_cases h : portDecE bs = 0
  · exact (PT.check_ok.1 (portDecE_ok h).1).2.2.2.1
  · unfold portDec; rw [if_neg h]; exact Nat.zero_le _
theorem decodes_str {l : List UInt8} (n : Nat) (h : n ≤ 2000) : ∃ X : List UInt8, (str l).extract 0 n = str X ∧ X.length ≤ 2000 := ⟨l.take n, by rw [str_extract]; rfl, by rw [List.length_take]; omega⟩
theorem k8 {w w' : World} {a0 a1 a2 a3 a4 a5 a6 a7 : Addr} {v0 v1 v2 v3 v4 v5 v6 v7 : Value} (hb : Below w.heap.size w w') (h : w.cell? a0 = some v0 ∧ w.cell? a1 = some v1 ∧ w.cell? a2 = some v2 ∧ w.cell? a3 = some v3 ∧ w.cell? a4 = some v4 ∧ w.cell? a5 = some v5 ∧ w.cell? a6 = some v6 ∧ w.cell? a7 = some v7) : w'.cell? a0 = some v0 ∧ w'.cell? a1 = some v1 ∧ w'.cell? a2 = some v2 ∧ w'.cell? a3 = some v3 ∧ w'.cell? a4 = some v4 ∧ w'.cell? a5 = some v5 ∧ w'.cell? a6 = some v6 ∧ w'.cell? a7 = some v7 := by
  obtain ⟨h0, h1, h2, h3, h4, h5, h6, h7⟩ := h
  exact ⟨cell_keep h0 hb, cell_keep h1 hb, cell_keep h2 hb, cell_keep h3 hb, cell_keep h4 hb, cell_keep h5 hb, cell_keep h6 hb, cell_keep h7 hb⟩

set_option maxRecDepth 100000 in
set_option maxHeartbeats 3200000 in
theorem portDecodes_any (l : List UInt8) (w : World) (hl : l.length ≤ 9223372036854775807) :
    Calls Tryz.prog 4 #[.string (str l)] w fun x w' => x = .returned (.bool true) ∧ Below w.heap.size w w' := by
  have l1 := str_size l
  go_enter Tryz.func4, Tryz.ntmps4
  go_wp2_with fail
  all_goals
    first
      | (obtain ⟨X, hXe, hXl⟩ := decodes_str (l := l) 2000 (by omega)
         rw [hXe]
         clear hXe)
      | (obtain ⟨X, hXe, hXl⟩ := decodes_str (l := l) l.length (by omega)
         rw [hXe]
         clear hXe)
    have hED : portDecE X = 0 → X = (portDec X).bytes ∧ (portDec X).check = 0 := fun h => ⟨(portDecE_ok h).2, (portDecE_ok h).1⟩
    have H1 := fun w => portDecode_any X w (by omega)
    have H2 := fun w => portDecodeL_any X w (by omega)
    unfold PDecPost portV at H1 H2
    have hq16 := portDec_small X
    generalize portDec X = D at H1 H2 hED hq16
    generalize portDecE X = E at H1 H2 hED
    refine (H1 _).mono ?_
    rintro x w2 ⟨hb2, qv, rfl, ho2⟩
    obtain ⟨a2, c2, rfl⟩ := ho2.slice
    have hs2 := ho2.sees
    have hP2 := ((Past.refl w).call hb2).alloc (.cells #[.string (str D.own), .int .i64 D.ep, .int .i64 D.lost, .slice a2 D.q.length c2] 25)
    have hx2 := Blk.new w2 #[.string (str D.own), .int .i64 D.ep, .int .i64 D.lost, .slice a2 D.q.length c2] 25
    have hs2 := hs2.below (below_alloc w2 (.cells #[.string (str D.own), .int .i64 D.ep, .int .i64 D.lost, .slice a2 D.q.length c2] 25))
    clear ho2 hb2
    go_wp2_with fail
    refine (H2 _).mono ?_
    rintro x w4 ⟨hb4, qv, rfl, ho4⟩
    obtain ⟨a4, c4, rfl⟩ := ho4.slice
    have hs4 := ho4.sees
    have hP4 := (hP2.call hb4).alloc (.cells #[.string (str D.own), .int .i64 D.ep, .int .i64 D.lost, .slice a4 D.q.length c4] 25)
    have hx4 := (hx2.below hb4 hx2.lt).alloc (.cells #[.string (str D.own), .int .i64 D.ep, .int .i64 D.lost, .slice a4 D.q.length c4] 25)
    have hy4 := Blk.new w4 #[.string (str D.own), .int .i64 D.ep, .int .i64 D.lost, .slice a4 D.q.length c4] 25
    have hba := below_alloc w4 (.cells #[.string (str D.own), .int .i64 D.ep, .int .i64 D.lost, .slice a4 D.q.length c4] 25)
    have hs2 := (hs2.below hb4).below hba
    have hs4 := hs4.below hba
    clear ho4 hb4 hx2 hP2 hba H1 H2
    have Hk := Lib.hid pknown_any
    have He := Lib.hid (fun w (h : SeesP w (.slice a2 D.q.length c2) D.q) => portEncodeL_any D.own D.ep D.lost (.slice a2 D.q.length c2) D.q w h)
    have z1 : ((E : Int) == (E : Int)) = true := by simp
    have z2 : ((str X).toList == (str X).toList) = true := by simp
    by_cases h0 : E = 0
    · obtain ⟨hXe, hck⟩ := hED h0
      obtain ⟨hv, _, _, h16, hpk⟩ := PT.check_ok.1 hck
      have hvl := valid_len hv
      have hpl : ∀ p ∈ D.q, p.1.length ≤ 9223372036854775807 ∧ p.2.length ≤ 9223372036854775807 := fun p hp => by have := pkE_len (pksE_ok.1 hpk p hp); omega
      have hEn : ∀ w, SeesP w (.slice a2 D.q.length c2) D.q → Calls Tryz.prog 19 #[.agg #[.string (str D.own), .int .i64 D.ep, .int .i64 D.lost, .slice a2 D.q.length c2]] w fun x w' => x = .returned (.string (str X)) ∧ Below w.heap.size w w' := fun w h => by
        rw [show str X = str (PT.bytes ⟨D.own, D.ep, D.lost, D.q⟩) from congrArg str hXe]
        exact He.out w h (by omega) (by omega) hpl hck
      have HEn := Lib.hid hEn
      have z3 : ((E : Int) != 0) = false := by simp [h0]
      clear hEn He hXe hck hv h16 hpk hpl h0 hED
      go_wp2_with fail
      refine (Hk.out _).mono ?_
      rintro z wK ⟨rfl, hbK⟩
      have hs2 := hs2.below hbK
      have hs4 := hs4.below hbK
      have hP4 := hP4.call hbK
      have hx4 := hx4.below hbK hx4.lt
      have hy4 := hy4.below hbK hy4.lt
      obtain ⟨x0, x1, x2, x3, _, _, _, _⟩ := hx4.quad
      obtain ⟨y0, y1, y2, y3, _, _, _, _⟩ := hy4.quad
      go_wp2_with fail
      refine (portEqual_any D.own D.ep D.lost _ D.q D.own D.ep D.lost _ D.q _ hs2 hs4 (by omega)).mono ?_
      rw [samePB_refl]
      rintro z wN ⟨rfl, hbN⟩
      have hs2 := hs2.below hbN
      have hP4 := hP4.call hbN
      have hx4 := hx4.below hbN hx4.lt
      clear x0 x1 x2 x3 y0 y1 y2 y3
      obtain ⟨x0, x1, x2, x3, _, _, _, _⟩ := hx4.quad
      go_wp2_with fail
      refine (HEn.out _ hs2).mono ?_
      rintro z wE ⟨rfl, hbE⟩
      have hP4 := hP4.call hbE
      go_wp2
      go_ret
      exact ⟨rfl, hP4.1⟩
    · have z3 : ((E : Int) != 0) = true := by simp; omega
      clear He hED h0
      go_wp2_with fail
      refine (Hk.out _).mono ?_
      rintro z wK ⟨rfl, hbK⟩
      have hs2 := hs2.below hbK
      have hs4 := hs4.below hbK
      have hP4 := hP4.call hbK
      have hx4 := hx4.below hbK hx4.lt
      have hy4 := hy4.below hbK hy4.lt
      obtain ⟨x0, x1, x2, x3, _, _, _, _⟩ := hx4.quad
      obtain ⟨y0, y1, y2, y3, _, _, _, _⟩ := hy4.quad
      go_wp2_with fail
      refine (portEqual_any D.own D.ep D.lost _ D.q D.own D.ep D.lost _ D.q _ hs2 hs4 (by omega)).mono ?_
      rw [samePB_refl]
      rintro z wN ⟨rfl, hbN⟩
      have hs2 := hs2.below hbN
      have hP4 := hP4.call hbN
      have hx4 := hx4.below hbN hx4.lt
      clear x0 x1 x2 x3 y0 y1 y2 y3
      obtain ⟨x0, x1, x2, x3, _, _, _, _⟩ := hx4.quad
      go_wp2
      go_ret
      exact ⟨rfl, hP4.1⟩
end Go.Proofs.YtmjfdbgimknbeaaGreatDoor
