/- Contracts of functions on the way to the claim, proved for every input that their hypotheses let by; no condition of the claim. Joined of: R5 Y15 Y16 Y19. -/
import Derived.Deep.RegionHeld3
import Derived.Deep.LoopGhost
import Derived.Deep.DeepCutAuto
import Derived.Deep.Cut
import Derived.Deep.CutRange
import Derived.Test.YtgonfcdmaoeboaaGreatDoorG22
import Derived.Test.YtgonfcdmaoeboaaGreatDoorG21
import Derived.Test.YtgonfcdmaoeboaaGreatDoorG5

/- Plain: what the operations of a port answer at an open port, and at none. No program here. -/
namespace Go.Proofs.YtgonfcdmaoeboaaGreatDoor
open Go.RowKit

theorem rdPort_none (ep : Int) : rdPort none ep = (⟨[], 0, 0, []⟩, 8) := by
  unfold rdPort
  rw [if_neg]
  intro h
  exact absurd h.1 (by decide +kernel)
theorem rdPort_some {P : PT} (h : P.check = 0) (ep : Int) : rdPort (some P.bytes) ep = if P.ep = ep then (P, 0) else (⟨[], 0, 0, []⟩, 8) := by
  obtain ⟨h1, h2⟩ := portDecE_enc h
  unfold rdPort
  simp only [Option.getD_some, h1, h2, true_and]
theorem rdPort_is {P : PT} (h : P.check = 0) : rdPort (some P.bytes) P.ep = (P, 0) := by rw [rdPort_some h, if_pos rfl]
theorem rdPort_other {P : PT} (h : P.check = 0) {ep : Int} (he : P.ep ≠ ep) : rdPort (some P.bytes) ep = (⟨[], 0, 0, []⟩, 8) := by rw [rdPort_some h, if_neg he]

/-- Close -/
def closeE (who : List UInt8) (n ep : Int) (cur : Option (List UInt8)) : Nat :=
  if portBeg who n ep ≠ 0 then portBeg who n ep else if (rdPort cur ep).2 ≠ 0 then 8 else if (rdPort cur ep).1.own ≠ who then 14 else 0
def closeC (who : List UInt8) (n ep : Int) (cur : Option (List UInt8)) : Option (List UInt8) := if closeE who n ep cur = 0 then none else cur

theorem valid_digit1 : validName [49] = true ∧ validName [50] = true ∧ validName [49, 46, 50] = true := ⟨by decide +kernel, by decide +kernel, by decide +kernel⟩
theorem openE_free {who : List UInt8} {us n ep : Int} {cur : Option (List UInt8)} (hv : validName who = true) (hn : 1 ≤ n ∧ n ≤ 9999) (he : 0 ≤ ep ∧ ep ≤ 1073741824) (h9 : ¬ (n ≤ 99 ∧ us ≠ 0)) (hr : (rdPort cur ep).2 ≠ 0) :
    openE who us n ep cur = 0 ∧ openC who us n ep cur = some (PT.bytes ⟨who, ep, 0, []⟩) := by
  have h0 : portBeg who n ep = 0 := portBeg_zero.2 ⟨hv, hn, he⟩
  have e : openE who us n ep cur = 0 := by unfold openE; rw [if_neg (by simp [h0]), if_neg h9, if_neg hr]
  exact ⟨e, by unfold openC; rw [if_pos e]⟩
theorem openE_busy {who : List UInt8} {us n ep : Int} {cur : Option (List UInt8)} (hv : validName who = true) (hn : 1 ≤ n ∧ n ≤ 9999) (he : 0 ≤ ep ∧ ep ≤ 1073741824) (h9 : ¬ (n ≤ 99 ∧ us ≠ 0)) (hr : (rdPort cur ep).2 = 0) :
    openE who us n ep cur = 19 ∧ openC who us n ep cur = cur := by
  have h0 : portBeg who n ep = 0 := portBeg_zero.2 ⟨hv, hn, he⟩
  have e : openE who us n ep cur = 19 := by unfold openE; rw [if_neg (by simp [h0]), if_neg h9, if_pos hr]
  exact ⟨e, by unfold openC; rw [if_neg (by omega)]⟩

/-- PortEpochs: what the seven calls answer -/
structure EpochFacts (n a b : Int) (c1 c2 : Option (List UInt8)) : Prop where
  open1 : openE [49] 1 n a none = 0 ∧ openC [49] 1 n a none = c1
  open2 : openE [50] 2 n b c1 = (if a = b then 19 else 0) ∧ openC [50] 2 n b c1 = c2
  get1 : a = b → portGetR n a c2 = (⟨[49], a, 0, []⟩, 0)
  get1' : a ≠ b → portGetR n a c2 = (⟨[], 0, 0, []⟩, 8)
  get2 : a ≠ b → portGetR n b c2 = (⟨[50], b, 0, []⟩, 0)
  close1 : a ≠ b → closeE [49] n a c2 = 8 ∧ closeC [49] n a c2 = c2
  close2 : a ≠ b → closeE [49] n b c2 = 14 ∧ closeC [49] n b c2 = c2
  close3 : a ≠ b → closeE [50] n b c2 = 0 ∧ closeC [50] n b c2 = none
  l1 : (c1.getD []).length ≤ 1000000000
  l2 : (c2.getD []).length ≤ 1000000000
theorem epoch_facts {n a b : Int} (hn : 100 ≤ n ∧ n ≤ 9999) (ha : 0 ≤ a ∧ a ≤ 999) (hb : 0 ≤ b ∧ b ≤ 999) : ∃ c1 c2, EpochFacts n a b c1 c2 := by
  obtain ⟨v1, v2, _⟩ := valid_digit1
  have k1 : PT.check ⟨[49], a, 0, []⟩ = 0 := new_port_ok v1 (by omega)
  have k2 : PT.check ⟨[50], b, 0, []⟩ = 0 := new_port_ok v2 (by omega)
  have o1 := openE_free (who := [49]) (us := 1) (n := n) (ep := a) (cur := none) v1 (by omega) (by omega) (by omega) (by rw [rdPort_none]; decide)
  have b0 : portBeg [] n a = 0 := portBeg_zero.2 ⟨valid_nil0, by omega, by omega⟩
  have b0' : portBeg [] n b = 0 := portBeg_zero.2 ⟨valid_nil0, by omega, by omega⟩
  have b1 : portBeg [49] n a = 0 := portBeg_zero.2 ⟨v1, by omega, by omega⟩
  have b1' : portBeg [49] n b = 0 := portBeg_zero.2 ⟨v1, by omega, by omega⟩
  have b2' : portBeg [50] n b = 0 := portBeg_zero.2 ⟨v2, by omega, by omega⟩
  have q1 := PT.len k1
  have q2 := PT.len k2
  by_cases hab : a = b
  · subst hab
    have o2 := openE_busy (who := [50]) (us := 2) (n := n) (ep := a) (cur := some (PT.bytes ⟨[49], a, 0, []⟩)) v2 (by omega) (by omega) (by omega) (by rw [rdPort_is (P := ⟨[49], a, 0, []⟩) k1])
    refine ⟨_, _, ⟨o1, ⟨by rw [if_pos rfl]; exact o2.1, o2.2⟩, fun _ => ?_, fun h => absurd rfl h, fun h => absurd rfl h, fun h => absurd rfl h, fun h => absurd rfl h, fun h => absurd rfl h, ?_, ?_⟩⟩
    · unfold portGetR
      rw [if_neg (by simp [b0]), rdPort_is (P := ⟨[49], a, 0, []⟩) k1]
    · simp only [Option.getD_some]; omega
    · simp only [Option.getD_some]; omega
  · have o2 := openE_free (who := [50]) (us := 2) (n := n) (ep := b) (cur := some (PT.bytes ⟨[49], a, 0, []⟩)) v2 (by omega) (by omega) (by omega) (by rw [rdPort_other (P := ⟨[49], a, 0, []⟩) k1 (by simpa using hab)]; decide)
    have hba : b ≠ a := fun h => hab h.symm
    have r1 := rdPort_other (P := ⟨[50], b, 0, []⟩) k2 (ep := a) (by simpa using hba)
    have r2 : rdPort (some (PT.bytes ⟨[50], b, 0, []⟩)) b = (⟨[50], b, 0, []⟩, 0) := rdPort_is (P := ⟨[50], b, 0, []⟩) k2
    have e1 : closeE [49] n a (some (PT.bytes ⟨[50], b, 0, []⟩)) = 8 := by unfold closeE; rw [if_neg (by simp [b1]), r1, if_pos (by decide)]
    have e2 : closeE [49] n b (some (PT.bytes ⟨[50], b, 0, []⟩)) = 14 := by unfold closeE; rw [if_neg (by simp [b1']), r2, if_neg (by simp), if_pos (by simp)]
    have e3 : closeE [50] n b (some (PT.bytes ⟨[50], b, 0, []⟩)) = 0 := by unfold closeE; rw [if_neg (by simp [b2']), r2, if_neg (by simp), if_neg (by simp)]
    refine ⟨_, _, ⟨o1, ⟨by rw [if_neg hab]; exact o2.1, o2.2⟩, fun h => absurd h hab, fun _ => ?_, fun _ => ?_, fun _ => ⟨e1, ?_⟩, fun _ => ⟨e2, ?_⟩, fun _ => ⟨e3, ?_⟩, ?_, ?_⟩⟩
    · unfold portGetR
      rw [if_neg (by simp [b0]), r1]
    · unfold portGetR
      rw [if_neg (by simp [b0']), r2]
    · unfold closeC; rw [if_neg (by omega)]
    · unfold closeC; rw [if_neg (by omega)]
    · unfold closeC; rw [if_pos e3]
    · simp only [Option.getD_some]; omega
    · simp only [Option.getD_some]; omega
end Go.Proofs.YtgonfcdmaoeboaaGreatDoor

/- replevinlaw37.small, short. -/
namespace Go.Proofs.YtgonfcdmaoeboaaGreatDoor
open Go.RowKit

def smallP (p : Pk) : Pk := (p.1.take 60, p.2.take 600)
theorem take_str {l : List UInt8} {n : Nat} (_ : n < l.length) : (str l).extract 0 n = str (l.take n) := by rw [str_extract]; rfl
theorem take_all {l : List UInt8} {n : Nat} (h : ¬ n < l.length) : (str l).extract 0 l.length = str (l.take n) := by rw [str_extract]; show str (List.take _ (List.drop 0 l)) = _; rw [List.drop_zero, List.take_of_length_le (by omega), List.take_of_length_le (by omega)]

set_option maxRecDepth 100000 in
set_option maxHeartbeats 1600000 in
theorem small_any (p : Pk) (w : World) (h1 : p.1.length ≤ 9223372036854775807) (h2 : p.2.length ≤ 9223372036854775807) :
    Calls Tryz.prog 25 #[.agg #[.string (str p.1), .string (str p.2)]] w fun x w' => x = .returned (.agg #[.string (str (smallP p).1), .string (str (smallP p).2)]) ∧ Below w.heap.size w w' := by
  obtain ⟨a, b⟩ := p
  have l1 := str_size a
  have l2 := str_size b
  have hk := (Blk.new w #[.string (str a), .string (str b)] 48).alloc (.cells #[.string ⟨#[]⟩, .string ⟨#[]⟩] 48)
  have hr0 := Blk.new (w.alloc (.cells #[.string (str a), .string (str b)] 48)) #[.string ⟨#[]⟩, .string ⟨#[]⟩] 48
  rw [World.size_alloc] at hr0
  have hr := hr0.below (Below.refl _ _).drew hr0.lt
  obtain ⟨x0, x1, _, _⟩ := hk.two
  obtain ⟨y0, y1, f0, f1⟩ := hr0.two
  have hP := ((Past.refl w).alloc (.cells #[.string (str a), .string (str b)] 48)).alloc (.cells #[.string ⟨#[]⟩, .string ⟨#[]⟩] 48)
  obtain ⟨A, hA⟩ : ∃ A, A = a.take 60 := ⟨_, rfl⟩
  obtain ⟨C, hC⟩ : ∃ C, C = b.take 600 := ⟨_, rfl⟩
  obtain ⟨r0, r1, r2, hor, hor2⟩ := hr.stores2 (.string (str A)) (.string (str C))
  have hps := (hP.drew.set (p := ⟨w.heap.size + 1, 0, none⟩) (by simp) (.string (str A))).set (p := ⟨w.heap.size + 1, 1, none⟩) (by simp) (.string (str C))
  show Calls _ _ #[.agg #[.string (str a), .string (str b)]] w fun x w' => x = .returned (.agg #[.string (str (a.take 60)), .string (str (b.take 600))]) ∧ _
  rw [← hA, ← hC]
  by_cases ha : 60 < a.length <;> by_cases hb : 600 < b.length
  all_goals
    have qa : (str a).extract 0 (if 60 < a.length then 60 else a.length) = str A := by
      rw [hA]; first | (rw [if_pos ha]; exact take_str ha) | (rw [if_neg ha]; exact take_all ha)
    have qb : (str b).extract 0 (if 600 < b.length then 600 else b.length) = str C := by
      rw [hC]; first | (rw [if_pos hb]; exact take_str hb) | (rw [if_neg hb]; exact take_all hb)
    clear hA hC
    first | rw [if_pos ha] at qa | rw [if_neg ha] at qa
    first | rw [if_pos hb] at qb | rw [if_neg hb] at qb
    go_enter Tryz.func25, Tryz.ntmps25
    first | have pa : (60 : Int) < a.length := (by omega) | have pa : ((60 : Int) < a.length) = False := eq_false (by omega)
    first | have pb : (600 : Int) < b.length := (by omega) | have pb : ((600 : Int) < b.length) = False := eq_false (by omega)
    have pa3 : ¬ ((a.length : Int) < a.length) := by omega
    have pb3 : ¬ ((b.length : Int) < b.length) := by omega
    have pz : (0 : Int) ≤ (a.length : Int) := by omega
    have pz2 : (0 : Int) ≤ (b.length : Int) := by omega
    have pz3 : (a.length : Int) ≤ (a.length : Int) := by omega
    have pz4 : (b.length : Int) ≤ (b.length : Int) := by omega
    (try have pa2 : (60 : Int) ≤ a.length := (by omega))
    (try have pb2 : (600 : Int) ≤ b.length := (by omega))
    clear ha hb
    have hq := Blk.new (w.alloc (.cells #[.string (str a), .string (str b)] 48)) #[.string (str A), .string (str C)] 48
    rw [World.size_alloc] at hq
    obtain ⟨r0, r1, _, _⟩ := (hq.below (Below.refl _ _).drew hq.lt).two
    go_wp2
    go_region_held3 (fun w' => w'.cell? ⟨w.heap.size, 0, none⟩ = some (.string (str a)) ∧ w'.cell? ⟨w.heap.size, 1, none⟩ = some (.string (str b)))
      (first | exact keep2 (by assumption) (by assumption) | exact keep2 (by assumption) ⟨x0, x1⟩ | go_keep)
      (fail)
    all_goals
      go_wp2
      exact bodyPost_ret (v := .agg #[.string (str A), .string (str C)]) (by simp [results, Tryz.results25, go_sem, r0, r1]) rfl ⟨rfl, ((((Past.refl w).alloc (.cells #[.string (str a), .string (str b)] 48)).alloc (.cells #[.string (str A), .string (str C)] 48)).drewN _).1⟩
end Go.Proofs.YtgonfcdmaoeboaaGreatDoor

/- port: Get, Close. -/
namespace Go.Proofs.YtgonfcdmaoeboaaGreatDoor
open Go.RowKit

section
variable {B : Nat} {vb : Nat} {base : Value} {n : Int} {cur : Option (List UInt8)} {k : Nat}
set_option maxRecDepth 100000 in
set_option maxHeartbeats 3200000 in
theorem portGet_any (w : World) (ep : Int) (hcl : (cur.getD []).length ≤ 1000000000) (hO : ObjIs B w vb base 16 [] n 0 [] cur k) (hk : k < 999990) :
    Calls Tryz.prog 29 #[.pointer (some ⟨vb, 0, none⟩), .int .i64 n, .int .i64 ep] w fun e w' => ∃ qv, e = .returned (.tuple #[portV (portGetR n ep cur).1.own (portGetR n ep cur).1.ep (portGetR n ep cur).1.lost qv, .int .i64 (portGetR n ep cur).2]) ∧ OwnsP w' w.heap.size qv (portGetR n ep cur).1.q ∧ ObjIs B w' vb base 16 [] n 0 [] cur (k + 1) ∧ Below B w w' ∧ Cells [] w w' := by
  have hB := hO.le
  have hbg := fun w => portBegin_any ⟨vb, 0, none⟩ [] (by simp) n ep w
  have hz0 := Blk.new w #[.string ⟨#[]⟩, .int .i64 0, .int .i64 0, .slice none 0 0] 25
  have hO0 := hO.keep (below_alloc w (.cells #[.string ⟨#[]⟩, .int .i64 0, .int .i64 0, .slice none 0 0] 25))
  have hP0 := (Past.at (w := w) hB).alloc (.cells #[.string ⟨#[]⟩, .int .i64 0, .int .i64 0, .slice none 0 0] 25)
  have hPw := (Past.refl w).alloc (.cells #[.string ⟨#[]⟩, .int .i64 0, .int .i64 0, .slice none 0 0] 25)
  have fin : ∀ (w5 : World) (D : PT) (E : Nat) (av : Option Addr) (cv : Nat), portGetR n ep cur = (D, E) → Blk w5 w.heap.size #[.string ⟨#[]⟩, .int .i64 0, .int .i64 0, .slice none 0 0] 25 → ObjIs B w5 vb base 16 [] n 0 [] cur (k + 1) → Past B w w5 → Cells [] w w5 → OwnsP w5 w.heap.size (.slice av D.q.length cv) D.q → w.heap.size < w5.heap.size → True := fun _ _ _ _ _ _ _ _ _ _ _ _ => trivial
  by_cases hb0 : portBeg [] n ep = 0
  · obtain ⟨hv, ⟨hn1, hn2⟩, hep⟩ := portBeg_zero.1 hb0
    obtain ⟨n', rfl⟩ := Int.eq_ofNat_of_zero_le (by omega : 0 ≤ n)
    have hbg' : ∀ w, Calls Tryz.prog 68 #[.pointer (some ⟨vb, 0, none⟩), .string ⟨#[]⟩, .int .i64 (n' : Int), .int .i64 ep] w fun e w' => e = .returned (.int .i64 (0 : Nat)) ∧ Below w.heap.size w w' := by rw [hb0] at hbg; exact hbg
    have Hbg := Lib.hid hbg'; clear hbg hbg'
    have hrd := fun w (h : ObjIs B w vb base 16 [] (n' : Int) 0 [] cur k) => portRead_any w ep (by omega) hcl h (by omega)
    unfold portV at hrd
    obtain ⟨R, hR⟩ : ∃ R, R = rdPort cur ep := ⟨_, rfl⟩
    have hG : portGetR n' ep cur = R := by unfold portGetR; rw [if_neg (by simp [hb0]), hR]
    rw [← hR] at hrd
    rw [hG]
    have Hrd := Lib.hid hrd; clear hrd hR hG hb0 fin
    go_enter Tryz.func29, Tryz.ntmps29
    go_wp2_with fail
    refine (Hbg.out _).mono ?_
    rintro x w2 ⟨rfl, hb2⟩
    have hz2 := hz0.below hb2 hz0.lt
    have hO2 := hO0.keep hb2
    have hP2 := hP0.call hb2
    have hPw2 := hPw.call hb2
    clear hz0 hO0 hP0 hPw hb2
    go_wp2_with fail
    refine (Hrd.out _ hO2).mono ?_
    rintro x w4 ⟨qv, rfl, hown4, hO4, hb4, hc4⟩
    obtain ⟨av, cv, rfl⟩ := hown4.slice
    have hz4 := hc4.blk hz2 (by simp)
    have hP4 := hP2.next hb4
    have hC4 := (Cells.of_below hPw2.1).trans hc4
    have hlt : w.heap.size < w4.heap.size := hz4.lt
    have hsz : w.heap.size ≤ w2.heap.size := hPw2.2
    clear hz2 hO2 hP2 hPw2 hb4 hc4
    obtain ⟨_, _, _, _, f0, f1, f2, f3⟩ := hz4.quad
    obtain ⟨q0, q1, q2, q3, hq, hoq⟩ := hz4.stores4 (.string (str R.1.own)) (.int .i64 R.1.ep) (.int .i64 R.1.lost) (.slice av R.1.q.length cv)
    have hq' := hq.quad
    obtain ⟨s0, s1, s2, s3, _, _, _, _⟩ := hq'
    have hown7 : OwnsP _ w.heap.size (.slice av R.1.q.length cv) R.1.q := owns_mono (hoq.owns hown4 (by decide)) hsz
    have hb6 := (Past.at (w := w4) hO4.le).stores4 (b := w.heap.size) hB (.string (str R.1.own)) (.int .i64 R.1.ep) (.int .i64 R.1.lost) (.slice av R.1.q.length cv)
    have hbw := (Past.at (B := w.heap.size) (w := w4) (by omega)).stores4 (b := w.heap.size) (Nat.le_refl _) (.string (str R.1.own)) (.int .i64 R.1.ep) (.int .i64 R.1.lost) (.slice av R.1.q.length cv)
    go_wp2
    refine bodyPost_ret (v := .tuple #[portV R.1.own R.1.ep R.1.lost (.slice av R.1.q.length cv), .int .i64 R.2]) (by simp [results, Tryz.results29, go_sem, s0, s1, s2, s3, portV]) rfl ⟨.slice av R.1.q.length cv, rfl, hown7, hO4.only hoq hb6.1 (by decide) (by decide), (hP4.next hb6.1).1, hC4.new hoq hbw.1⟩
  · obtain ⟨E, hE⟩ : ∃ E, E = portBeg [] n ep := ⟨_, rfl⟩
    have hG : portGetR n ep cur = (⟨[], 0, 0, []⟩, E) := by unfold portGetR; rw [if_pos hb0, hE]
    rw [← hE] at hbg hb0
    have hbg' : ∀ w, Calls Tryz.prog 68 #[.pointer (some ⟨vb, 0, none⟩), .string ⟨#[]⟩, .int .i64 n, .int .i64 ep] w fun e w' => e = .returned (.int .i64 (E : Int)) ∧ Below w.heap.size w w' := hbg
    have Hbg := Lib.hid hbg'; clear hbg hbg'
    have q1 : ((E : Int) == 0) = false := by simp; omega
    have q2 : ((E : Int) != 0) = true := by simp; omega
    rw [hG]; clear hG hE fin
    go_enter Tryz.func29, Tryz.ntmps29
    go_wp2_with fail
    refine (Hbg.out _).mono ?_
    rintro x w2 ⟨rfl, hb2⟩
    have hz2 := hz0.below hb2 hz0.lt
    have hO2 := hO0.keep hb2
    have hP2 := hP0.call hb2
    have hPw2 := hPw.call hb2
    have hlt : w.heap.size < w2.heap.size := hz2.lt
    clear hz0 hO0 hP0 hPw hb2
    obtain ⟨_, _, _, _, f0, f1, f2, f3⟩ := hz2.quad
    obtain ⟨q0, q1, q2, q3, hq, hoq⟩ := hz2.stores4 (.string ⟨#[]⟩) (.int .i64 0) (.int .i64 0) (.slice none 0 0)
    obtain ⟨s0, s1, s2, s3, _, _, _, _⟩ := hq.quad
    have hb6 := (Past.at (w := w2) hO2.le).stores4 (b := w.heap.size) hB (.string ⟨#[]⟩) (.int .i64 0) (.int .i64 0) (.slice none 0 0)
    have hbw := (Past.at (B := w.heap.size) (w := w2) (by omega)).stores4 (b := w.heap.size) (Nat.le_refl _) (.string ⟨#[]⟩) (.int .i64 0) (.int .i64 0) (.slice none 0 0)
    go_wp2
    refine bodyPost_ret (v := .tuple #[portV [] 0 0 (.slice none 0 0), .int .i64 (E : Int)]) (by simp [results, Tryz.results29, go_sem, s0, s1, s2, s3, portV]; rfl) rfl ⟨.slice none 0 0, rfl, OwnsP.nil _ _, (hO2.only hoq hb6.1 (by decide) (by decide)).more (by omega), (hP2.next hb6.1).1, (Cells.of_below hPw2.1).new hoq hbw.1⟩

set_option maxRecDepth 100000 in
set_option maxHeartbeats 3200000 in
theorem portClose_any (w : World) (who : List UInt8) (hwl : who.length ≤ 1000000000) (ep : Int) (hcl : (cur.getD []).length ≤ 1000000000) (hO : ObjIs B w vb base 16 [] n 0 [] cur k) (hk : k < 999990) :
    Calls Tryz.prog 30 #[.pointer (some ⟨vb, 0, none⟩), .string (str who), .int .i64 n, .int .i64 ep] w fun e w' => e = .returned (.int .i64 (closeE who n ep cur)) ∧ ObjIs B w' vb base 16 [] n 0 [] (closeC who n ep cur) (k + 2) ∧ Below B w w' ∧ Cells [131] w w' := by
  have hB := hO.le
  have hbg := fun w => portBegin_any ⟨vb, 0, none⟩ who hwl n ep w
  have hP0 := (Past.at (w := w) hB)
  have hPw := (Past.refl w)
  by_cases hb0 : portBeg who n ep = 0
  · obtain ⟨hv, ⟨hn1, hn2⟩, hep⟩ := portBeg_zero.1 hb0
    obtain ⟨n', rfl⟩ := Int.eq_ofNat_of_zero_le (by omega : 0 ≤ n)
    rw [hb0] at hbg
    have Hbg := Lib.hid hbg; clear hbg
    have hrd := fun w (h : ObjIs B w vb base 16 [] (n' : Int) 0 [] cur k) => portRead_any w ep (by omega) hcl h (by omega)
    unfold portV at hrd
    obtain ⟨R, hR⟩ : ∃ R, R = rdPort cur ep := ⟨_, rfl⟩
    rw [← hR] at hrd
    have Hrd := Lib.hid hrd; clear hrd
    have Ho := Lib.hid (fun w => ofPort_any (n' : Int) w)
    have HN := Lib.hid (nameOk_port (n := (n' : Int)) hn1 hn2)
    have hcE : closeE who n' ep cur = if R.2 ≠ 0 then 8 else if R.1.own ≠ who then 14 else 0 := by unfold closeE; rw [if_neg (by simp [hb0]), ← hR]
    have key : (R.2 ≠ 0 ∧ closeE who n' ep cur = 8 ∧ closeC who n' ep cur = cur) ∨ (R.2 = 0 ∧ R.1.own ≠ who ∧ closeE who n' ep cur = 14 ∧ closeC who n' ep cur = cur) ∨ (R.2 = 0 ∧ R.1.own = who ∧ closeE who n' ep cur = 0 ∧ closeC who n' ep cur = none) := by
      by_cases h2 : R.2 ≠ 0
      · have e1 : closeE who n' ep cur = 8 := by rw [hcE, if_pos h2]
        exact .inl ⟨h2, e1, by unfold closeC; rw [if_neg (by omega)]⟩
      · by_cases h3 : R.1.own = who
        · have e1 : closeE who n' ep cur = 0 := by rw [hcE, if_neg h2, if_neg (by simp [h3])]
          exact .inr (.inr ⟨by omega, h3, e1, by unfold closeC; rw [if_pos e1]⟩)
        · have e1 : closeE who n' ep cur = 14 := by rw [hcE, if_neg h2, if_pos h3]
          exact .inr (.inl ⟨by omega, h3, e1, by unfold closeC; rw [if_neg (by omega)]⟩)
    have hR8 := rdPort_or cur ep
    rw [← hR] at hR8
    clear hcE hR
    rcases key with ⟨h2, e1, e2⟩ | ⟨h2, h3, e1, e2⟩ | ⟨h2, h3, e1, e2⟩
    · have hRe : R = (⟨[], 0, 0, []⟩, 8) := hR8.resolve_left h2
      subst hRe
      rw [e1, e2]; clear e1 e2 hb0 hR8 h2
      go_enter Tryz.func30, Tryz.ntmps30
      go_wp2_with (first
        | (go_at_call 68; refine (Hbg.out _).mono ?_; rintro x w2 ⟨rfl, hb2⟩; have hO2 := hO.keep hb2; have hP2 := hP0.call hb2; have hPw2 := hPw.call hb2)
        | (go_at_call 69; refine (Hrd.out _ hO2).mono ?_; rintro x w4 ⟨qv, rfl, hown4, hO4, hb4, hc4⟩; obtain ⟨av, cv, rfl⟩ := hown4.slice))
      go_ret
      exact ⟨rfl, (hO4.keep (below_alloc w4 _)).more (by omega), (hP2.next hb4).1.alloc hO4.le _, (((Cells.of_below hPw2.1).trans hc4).trans (Cells.of_below (below_alloc w4 _))).more (by simp)⟩
    · have k1 : ((R.2 : Int) == 0) = true := by simp [h2]
      have k1' : ((R.2 : Int) != 0) = false := by simp [h2]
      have k2 : ((str R.1.own).toList == (str who).toList) = false := by rw [str_toList, str_toList]; simpa using h3
      have k2' : ((str R.1.own).toList != (str who).toList) = true := by rw [str_toList, str_toList]; simpa using h3
      rw [e1, e2]; clear e1 e2 hb0 hR8 h2 h3
      go_enter Tryz.func30, Tryz.ntmps30
      go_wp2_with (first
        | (go_at_call 68; refine (Hbg.out _).mono ?_; rintro x w2 ⟨rfl, hb2⟩; have hO2 := hO.keep hb2; have hP2 := hP0.call hb2; have hPw2 := hPw.call hb2)
        | (go_at_call 69; refine (Hrd.out _ hO2).mono ?_; rintro x w4 ⟨qv, rfl, hown4, hO4, hb4, hc4⟩; obtain ⟨av, cv, rfl⟩ := hown4.slice))
      go_ret
      exact ⟨rfl, (hO4.keep (below_alloc w4 _)).more (by omega), (hP2.next hb4).1.alloc hO4.le _, (((Cells.of_below hPw2.1).trans hc4).trans (Cells.of_below (below_alloc w4 _))).more (by simp)⟩
    · have k1 : ((R.2 : Int) == 0) = true := by simp [h2]
      have k1' : ((R.2 : Int) != 0) = false := by simp [h2]
      have k2 : ((str R.1.own).toList == (str who).toList) = true := by rw [h3]; simp
      have k2' : ((str R.1.own).toList != (str who).toList) = false := by rw [h3]; simp
      rw [e1, e2]; clear e1 e2 hb0 hR8 h2 h3
      go_enter Tryz.func30, Tryz.ntmps30
      go_wp2_with (first
        | (go_at_call 68; refine (Hbg.out _).mono ?_; rintro x w2 ⟨rfl, hb2⟩; have hO2 := hO.keep hb2; have hP2 := hP0.call hb2; have hPw2 := hPw.call hb2)
        | (go_at_call 69; refine (Hrd.out _ hO2).mono ?_; rintro x w4 ⟨qv, rfl, hown4, hO4, hb4, hc4⟩; obtain ⟨av, cv, rfl⟩ := hown4.slice; have hO5 := hO4.keep (below_alloc w4 (.cells #[.string (str R.1.own), .int .i64 R.1.ep, .int .i64 R.1.lost, .slice av R.1.q.length cv] 25)); have hP5 := (hP2.next hb4).alloc (.cells #[.string (str R.1.own), .int .i64 R.1.ep, .int .i64 R.1.lost, .slice av R.1.q.length cv] 25); have hc5 := ((Cells.of_below hPw2.1).trans hc4).trans (Cells.of_below (below_alloc w4 (.cells #[.string (str R.1.own), .int .i64 R.1.ep, .int .i64 R.1.lost, .slice av R.1.q.length cv] 25))))
        | (go_at_call 34; refine (Ho.out _).mono ?_; rintro x w8 ⟨rfl, hb8⟩; have hO8 := hO5.keep hb8; have hP8 := hP5.call hb8; have hc8 := hc5.trans (Cells.of_below hb8))
        | (go_at_call 75; refine (objDelete HN.out hO8 (by omega)).mono ?_; rintro x w10 ⟨rfl, hO10, hb10, hc10⟩))
      go_ret
      exact ⟨rfl, hO10, (hP8.next hb10).1, (hc8.more (by simp)).trans hc10⟩
  · obtain ⟨E, hE⟩ : ∃ E, E = portBeg who n ep := ⟨_, rfl⟩
    have e1 : closeE who n ep cur = E := by unfold closeE; rw [if_pos hb0, hE]
    have e2 : closeC who n ep cur = cur := by unfold closeC; rw [if_neg (by rw [e1, hE]; exact hb0)]
    rw [← hE] at hbg hb0
    have Hbg := Lib.hid hbg; clear hbg
    have q1 : ((E : Int) == 0) = false := by simp; omega
    have q2 : ((E : Int) != 0) = true := by simp; omega
    rw [e1, e2]; clear e1 e2 hE
    go_enter Tryz.func30, Tryz.ntmps30
    go_wp2_with (go_at_call 68; refine (Hbg.out _).mono ?_; rintro x w2 ⟨rfl, hb2⟩)
    go_ret
    exact ⟨rfl, (hO.keep hb2).more (by omega), (hP0.call hb2).1, Cells.of_below (hPw.call hb2).1⟩
end
end Go.Proofs.YtgonfcdmaoeboaaGreatDoor

/- replevinlaw37.short. -/
namespace Go.Proofs.YtgonfcdmaoeboaaGreatDoor
open Go.RowKit

theorem own_take {own : List UInt8} : ∃ X : List UInt8, X = own.take 100 ∧ (¬ own.length ≤ 100 → (str own).extract 0 100 = str X) ∧ (own.length ≤ 100 → (str own).extract 0 own.length = str X) :=
  ⟨_, rfl, fun _ => by rw [str_extract]; rfl, fun h => by rw [str_extract, List.drop_zero, List.take_of_length_le (by omega), List.take_of_length_le h]⟩
theorem map_take_succ {l : List Pk} {i : Nat} {p : Pk} (h : l[i]? = some p) : (l.take (i + 1)).map smallP = (l.take i).map smallP ++ [smallP p] := by
  obtain ⟨hi, e⟩ := List.getElem?_eq_some_iff.1 h
  rw [List.take_succ_eq_append_getElem hi, e, List.map_append]
  rfl
def shortQ (q : List Pk) : List Pk := (q.take 20).map smallP
theorem shortQ_at {q : List Pk} {i : Nat} (h : i = 20 ∨ (i = q.length ∧ i ≤ 20)) : shortQ q = (q.take i).map smallP := by
  unfold shortQ
  rcases h with rfl | ⟨rfl, h⟩
  · rfl
  · rw [List.take_of_length_le h, List.take_of_length_le (Nat.le_refl _)]
def ShortPost (own : List UInt8) (ep lost : Int) (q : List Pk) (w : World) (x : Ending) (w' : World) : Prop :=
  ∃ av cv, x = .returned (portV (own.take 100) ep lost (.slice av (shortQ q).length cv)) ∧ OwnsP w' w.heap.size (.slice av (shortQ q).length cv) (shortQ q) ∧ Below w.heap.size w w'

set_option maxRecDepth 100000 in
set_option maxHeartbeats 3200000 in
theorem short_any (own : List UInt8) (ep lost : Int) (qv : Value) (q : List Pk) (w : World) (hq : SeesP w qv q) (ho : own.length ≤ 9223372036854775807) (_ : q.length ≤ 9223372036854775807) (hls : ∀ p ∈ q, p.1.length ≤ 9223372036854775807 ∧ p.2.length ≤ 9223372036854775807) :
    Calls Tryz.prog 14 #[portV own ep lost qv] w (ShortPost own ep lost q w) := by
  obtain ⟨ao, c, rfl, hnc, hat⟩ := hq.at
  have Hat := Lib.hid hat; clear hat
  have Hls := Lib.hid hls; clear hls
  have l1 := str_size own
  obtain ⟨X, hX, hX1, hX2⟩ := own_take (own := own)
  unfold portV
  go_enter Tryz.func14, Tryz.ntmps14
  go_wp2_with fail
  all_goals
    first | rw [hX1 (by omega)] | rw [hX2 (by omega)]
    clear hX1 hX2
    have hH := (Blk.new w #[.string (str X), .int .i64 ep, .int .i64 lost, .slice ao q.length c] 25).alloc (.cells #[.string ⟨#[]⟩, .int .i64 0, .int .i64 0, .slice none 0 0] 25)
    have hR := Blk.new (w.alloc (.cells #[.string (str X), .int .i64 ep, .int .i64 lost, .slice ao q.length c] 25)) #[.string ⟨#[]⟩, .int .i64 0, .int .i64 0, .slice none 0 0] 25
    rw [World.size_alloc] at hR
    have hP := ((Past.refl w).alloc (.cells #[.string (str X), .int .i64 ep, .int .i64 lost, .slice ao q.length c] 25)).alloc (.cells #[.string ⟨#[]⟩, .int .i64 0, .int .i64 0, .slice none 0 0] 25)
    obtain ⟨W, hW⟩ : ∃ W, W = ((w.alloc (.cells #[.string (str X), .int .i64 ep, .int .i64 lost, .slice ao q.length c] 25)).alloc (.cells #[.string ⟨#[]⟩, .int .i64 0, .int .i64 0, .slice none 0 0] 25)) := ⟨_, rfl⟩
    rw [← hW] at hH hR hP ⊢
    clear hW
    have HX := Lib.hid hX; clear hX
    go_loopg [3, 4] (20 : Nat) (fun g s3 t wr => ∃ (i : Nat) (av : Option Addr) (cv : Nat), i ≤ q.length ∧ i ≤ 20 ∧ g = 20 - i ∧ s3 = .slice av i cv ∧ t = .int .i64 i ∧ wr.ownsRow (w.heap.size + 2) 48 2 (.slice av i cv) i (pkCells ((q.take i).map smallP)) ∧ Blk wr w.heap.size #[.string (str X), .int .i64 ep, .int .i64 lost, .slice ao q.length c] 25 ∧ Blk wr (w.heap.size + 1) #[.string ⟨#[]⟩, .int .i64 0, .int .i64 0, .slice none 0 0] 25 ∧ Past w.heap.size w wr ∧ w.heap.size + 2 ≤ wr.heap.size)
    case atStart => exact ⟨0, none, 0, Nat.zero_le _, Nat.zero_le _, rfl, rfl, rfl, World.ownsRow_nil _ _ _ _, hH, hR, hP, hR.lt⟩
    case round =>
      obtain ⟨i, av, cv, hi, hi20, rfl, rfl, rfl, hown, hH, hR, hP, hsz⟩ := hrel
      obtain ⟨x0, x1, x2, x3, f0, f1, f2, f3⟩ := hH.quad
      by_cases hiq : i < q.length
      · have q1 : (i : Int) < q.length := by omega
        by_cases h20 : i < 20
        · have q2 : (i : Int) < 20 := by omega
          obtain ⟨p, hp⟩ : ∃ p, q[i]? = some p := ⟨_, List.getElem?_eq_getElem hiq⟩
          obtain ⟨b, off, rfl, hb, hc0, hc1⟩ := Hat.out i p hp
          have hpl := Hls.out p (List.mem_of_getElem? hp)
          have hc0 := (hP.1.cell (p := ⟨b, off + i * 2, none⟩) hb).trans hc0
          have hc1 := (hP.1.cell (p := ⟨b, off + i * 2 + 1, none⟩) hb).trans hc1
          have Hts := Lib.hid (map_take_succ hp); clear hp
          have hlen := Lib.hid hown.1
          go_wp2_with fail
          refine (small_any p _ hpl.1 hpl.2).mono ?_
          rintro x w5 ⟨rfl, hb5⟩
          have A1 := owns_below (owns_below hown hb5) (below_alloc w5 (.cells #[.string (str (smallP p).1), .string (str (smallP p).2)] 48))
          have A2 := sees_new w5 #[.string (str (smallP p).1), .string (str (smallP p).2)] 48 (0, 0) 2 1 1 rfl (Nat.le_refl _)
          have hH5 := (hH.below hb5 hH.lt).alloc (.cells #[.string (str (smallP p).1), .string (str (smallP p).2)] 48)
          have hR5 := (hR.below hb5 hR.lt).alloc (.cells #[.string (str (smallP p).1), .string (str (smallP p).2)] 48)
          have hP5 := (hP.call hb5).alloc (.cells #[.string (str (smallP p).1), .string (str (smallP p).2)] 48)
          have hsz5 : w.heap.size + 2 ≤ w5.heap.size := Nat.le_trans hsz hb5.size
          clear hH hR hP hb5 hown x0 x1 x2 x3 f0 f1 f2 f3 hc0 hc1
          go_wp2_with (at_builtin; (refine wpList_append_slice _ rfl _ _ 23 rfl (w.heap.size + 2) 48 (.agg #[.string ⟨#[]⟩, .string ⟨#[]⟩]) 2 32 Tryz.underlying23 Tryz.infoPk rfl (by decide) A1 rfl A2 rfl ?q0 ?q1 ?q2 ?q3 ?_); (case q0 => (intro u hu; simp at hu; rcases hu with rfl | rfl <;> rfl)); (case q1 => unfold maxLen; omega); (case q2 => omega); (case q3 => simp; omega); intro av6 cv6 w6 hown6 hg6)
          go_roundg (20 - (i + 1))
          case measure => omega
          case rel => exact ⟨i + 1, av6, cv6, by omega, by omega, rfl, rfl, by go_num, owns_eq hown6 rfl (by rw [Hts.out, pkCells_append]; rfl), hH5.grown hg6 (owns_ne A1 (by omega)), hR5.grown hg6 (owns_ne A1 (by omega)), hP5.grown hg6 (owns_mono A1 (by omega)), by have := hg6.size; simp at this; omega⟩
        · have q2 : decide ((i : Int) < 20) = false := by simp; omega
          have hQ := Lib.hid (shortQ_at (q := q) (i := i) (.inl (by omega)))
          have hlen : ((q.take i).map smallP).length = i := by rw [List.length_map, List.length_take]; omega
          have Hlen := Lib.hid hlen; clear hlen
          have hR' := hR.setOther (a := ⟨w.heap.size, 3, none⟩) (by simp) (.slice av i cv)
          have hH' := (hH.set 3 (.slice av i cv)).congr (cs' := #[.string (str X), .int .i64 ep, .int .i64 lost, .slice av i cv]) rfl
          obtain ⟨y0, y1, y2, y3, _, _, _, _⟩ := hH'.quad
          obtain ⟨_, _, _, _, g0, g1, g2, g3⟩ := hR'.quad
          obtain ⟨_, _, _, _, hz, hoz⟩ := hR'.stores4 (.string (str X)) (.int .i64 ep) (.int .i64 lost) (.slice av i cv)
          obtain ⟨s0, s1, s2, s3, _, _, _, _⟩ := hz.quad
          have hown7 := hoz.owns ((Only.set (j := 3) hH (by simp) (.slice av i cv) : Only [25] _ _).owns hown (by decide)) (by decide)
          have hP7 := (hP.set (p := ⟨w.heap.size, 3, none⟩) (by simp) (.slice av i cv)).stores4 (b := w.heap.size + 1) (by omega) (.string (str X)) (.int .i64 ep) (.int .i64 lost) (.slice av i cv)
          go_wp2
          refine bodyPost_ret (v := .agg #[.string (str X), .int .i64 ep, .int .i64 lost, .slice av i cv]) (by simp [results, Tryz.results14, go_sem, s0, s1, s2, s3]) rfl ?_
          unfold ShortPost portV
          rw [hQ.out, Hlen.out, ← HX.out]
          exact ⟨av, cv, rfl, owns_eq (owns_mono hown7 (by omega)) Hlen.out.symm rfl, hP7.1⟩
      · have q1 : decide ((i : Int) < q.length) = false := by simp; omega
        have hQ := Lib.hid (shortQ_at (q := q) (i := i) (.inr ⟨by omega, hi20⟩))
        have hlen : ((q.take i).map smallP).length = i := by rw [List.length_map, List.length_take]; omega
        have Hlen := Lib.hid hlen; clear hlen
        have hR' := hR.setOther (a := ⟨w.heap.size, 3, none⟩) (by simp) (.slice av i cv)
        have hH' := (hH.set 3 (.slice av i cv)).congr (cs' := #[.string (str X), .int .i64 ep, .int .i64 lost, .slice av i cv]) rfl
        obtain ⟨y0, y1, y2, y3, _, _, _, _⟩ := hH'.quad
        obtain ⟨_, _, _, _, g0, g1, g2, g3⟩ := hR'.quad
        obtain ⟨_, _, _, _, hz, hoz⟩ := hR'.stores4 (.string (str X)) (.int .i64 ep) (.int .i64 lost) (.slice av i cv)
        obtain ⟨s0, s1, s2, s3, _, _, _, _⟩ := hz.quad
        have hown7 := hoz.owns ((Only.set (j := 3) hH (by simp) (.slice av i cv) : Only [25] _ _).owns hown (by decide)) (by decide)
        have hP7 := (hP.set (p := ⟨w.heap.size, 3, none⟩) (by simp) (.slice av i cv)).stores4 (b := w.heap.size + 1) (by omega) (.string (str X)) (.int .i64 ep) (.int .i64 lost) (.slice av i cv)
        go_wp2
        refine bodyPost_ret (v := .agg #[.string (str X), .int .i64 ep, .int .i64 lost, .slice av i cv]) (by simp [results, Tryz.results14, go_sem, s0, s1, s2, s3]) rfl ?_
        unfold ShortPost portV
        rw [hQ.out, Hlen.out, ← HX.out]
        exact ⟨av, cv, rfl, owns_eq (owns_mono hown7 (by omega)) Hlen.out.symm rfl, hP7.1⟩
end Go.Proofs.YtgonfcdmaoeboaaGreatDoor
