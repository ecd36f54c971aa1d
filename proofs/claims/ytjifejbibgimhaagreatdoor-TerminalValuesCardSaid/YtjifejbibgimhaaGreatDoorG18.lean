/- Contracts of functions on the way to the claim, proved for every input that their hypotheses let by; no condition of the claim. Joined of: X1 X2 X3 R4 X4 X5 X6 X7 X8. -/
import Derived.Deep.LoopGhost
import Derived.Deep.DeepCutAuto
import Derived.Deep.Cut
import Derived.Deep.CutRange
import Derived.Deep.CutBlock
import Derived.Deep.RegionLaw
import Derived.Deep.RegionHeld3
import Derived.Test.YtjifejbibgimhaaGreatDoorG13
import Derived.Test.YtjifejbibgimhaaGreatDoorG1
import Derived.Test.YtjifejbibgimhaaGreatDoorG12
import Derived.Test.YtjifejbibgimhaaGreatDoorG16

/- replevinref03: Parse, Valid. -/
namespace Go.Proofs.YtjifejbibgimhaaGreatDoor
open Go.RowKit

theorem Tryz.infoInt : (Tryz.prog.info? 3).map (fun i => (i.zero, i.size, i.bytes)) = some (some (.int .i64 0), 1, 8) := by kernel_rfl
/-- how many digits are looked at -/
def digs7 (l : List UInt8) : Nat := min (digs l) 7
theorem digs_lt : ∀ (l : List UInt8) (j : Nat) (c : UInt8), l[j]? = some c → j < digs l → isDigit c = true
  | [], j, c, h, _ => by simp at h
  | d :: l, 0, c, h, hj => by
    simp at h
    subst h
    simp only [digs] at hj
    split at hj
    · assumption
    · omega
  | d :: l, j + 1, c, h, hj => by
    simp only [digs] at hj
    split at hj
    · exact digs_lt l j c (by simpa using h) (by omega)
    · omega
theorem digs_at : ∀ (l : List UInt8) (c : UInt8), l[digs l]? = some c → isDigit c = false
  | [], c, h => by simp at h
  | d :: l, c, h => by
    simp only [digs] at h
    split at h
    · rename_i hd
      exact digs_at l c (by simpa using h)
    · rename_i hd
      simp at h
      subst h
      simpa using hd
theorem str_at (s : List UInt8) (i : Nat) (b : UInt8) (hib : s[i]? = some b) : ∃ h : i < (str s).size, (str s)[i].toNat = b.toNat := by
  obtain ⟨hi, hbe⟩ := List.getElem?_eq_some_iff.1 hib
  have hi' : i < (str s).size := by rw [str_size]; exact hi
  exact ⟨hi', by rw [(str_get s i hi').trans hbe]⟩

/-- what Parse of the reference returns -/
def Parse3Post (s : List UInt8) (w : World) (e : Ending) (w' : World) : Prop :=
  Below w.heap.size w w' ∧ ((∃ p, lineErr s = some p ∧ e = .returned (.tuple #[.slice none 0 0, .int .i64 p.2.1, .int .i64 p.2.2])) ∨
    (lineErr s = none ∧ ∃ v, e = .returned (.tuple #[v, .int .i64 0, .int .i64 0]) ∧ w'.ownsRow w.heap.size 3 1 v (lineOrds s).length ((lineOrds s).map nv)))

set_option maxRecDepth 100000 in
set_option maxHeartbeats 3200000 in
theorem parse3_any (s : List UInt8) (w : World) (hlen : s.length ≤ 1000000000) : Calls Tryz.prog 91 #[.string (str s)] w (Parse3Post s w) := by
  have hsz := str_size s
  by_cases hs0 : s = []
  · have q := str_empty hs0
    have hpost : ∀ w' : World, Below w.heap.size w w' → Parse3Post s w (.returned (.tuple #[.slice none 0 0, .int .i64 0, .int .i64 0])) w' := fun w' h => ⟨h, .inr ⟨by rw [hs0]; rfl, _, rfl, by rw [hs0]; exact World.ownsRow_nil _ _ _ _⟩⟩
    have Hpost := Lib.hid hpost; clear hpost hs0
    go_enter Tryz.func91, Tryz.ntmps91
    go_wp2
    go_ret3
    exact Hpost.out _ (Below.refl _ _)
  · have q := str_full hs0
    have hps : parts s = [] ++ lineParts 8 0 (s.drop 0) := by unfold parts; rw [if_neg hs0]; rfl
    have Hps := Lib.hid hps; clear hps hs0
    have hfail : ∀ (pre : List Part) (x : Part) (w' : World), pre ++ [x] <+: parts s → okParts pre → x.2.2 ≠ 0 → Below w.heap.size w w' → Parse3Post s w (.returned (.tuple #[.slice none 0 0, .int .i64 x.2.1, .int .i64 x.2.2])) w' := fun pre x w' h1 h2 h3 h4 => ⟨h4, .inl ⟨x, lineErr_some h1 h2 h3, rfl⟩⟩
    have Hfail := Lib.hid hfail; clear hfail
    go_enter Tryz.func91, Tryz.ntmps91
    go_wp2
    go_loopg [5, 6] 8 (fun g ov t wr => ∃ (p : Nat) (pre : List Part), g + pre.length = 8 ∧ p ≤ s.length ∧ t = .int .i64 p ∧ wr.ownsRow w.heap.size 3 1 ov pre.length ((pre.map (·.1)).map nv) ∧ Hid (parts s = pre ++ lineParts g p (s.drop p)) ∧ Hid (okParts pre) ∧ Past w.heap.size w wr)
    case atStart => exact ⟨0, [], rfl, Nat.zero_le _, rfl, World.ownsRow_nil _ _ _ _, Hps, Lib.hid (fun _ h => by cases h), Past.refl w⟩
    case round =>
      obtain ⟨p, pre, hK, hp, rfl, hown, hpa, hok, hP⟩ := hrel
      obtain ⟨av, cv, rfl⟩ := owns_slice hown
      clear Hps
      have fail_at : ∀ (e : Nat) (w' : World), partErr gk (s.drop p) = e → e ≠ 0 → Below w.heap.size w w' → Parse3Post s w (.returned (.tuple #[.slice none 0 0, .int .i64 p, .int .i64 e])) w' := fun e w' h1 h2 hb => Hfail.out pre (0, p, e) w' (by rw [hpa.out, line_err h1 h2]; exact List.prefix_refl _) hok.out h2 hb
      have Hfa := Lib.hid fail_at; clear fail_at
      by_cases hg0 : gk = 0
      · have q1 : ((pre.length : Int) == 8) = true := by simp; omega
        have Hf := Lib.hid (Hfa.out 9 wr (by rw [hg0]; exact partErr_9 _) (by decide) hP.1)
        clear Hfa Hfail hown
        go_wp2
        go_ret3
        exact Hf.out
      · have q1 : ((pre.length : Int) == 8) = false := by simp; omega
        by_cases hpl : p = s.length
        · have q2 : ((p : Int) == (s.length : Int)) = true := by simp [hpl]
          have Hf := Lib.hid (Hfa.out 4 wr (by rw [hpl, List.drop_length]; exact partErr_4 hg0) (by decide) hP.1)
          clear Hfa Hfail hown hpl
          go_wp2
          go_ret3
          exact Hf.out
        · have q2 : ((p : Int) == (s.length : Int)) = false := by simp; omega
          obtain ⟨c, hc⟩ : ∃ c, s[p]? = some c := ⟨_, List.getElem?_eq_getElem (by omega)⟩
          have hdr : s.drop p = c :: s.drop (p + 1) := by
            obtain ⟨h1, h2⟩ := List.getElem?_eq_some_iff.1 hc
            rw [List.drop_eq_getElem_cons h1, h2]
          obtain ⟨hps, hcv⟩ := str_at s p c hc
          obtain ⟨N, hN⟩ : ∃ N, N = c.toNat := ⟨_, rfl⟩
          rw [← hN] at hcv
          have hne : s.drop p ≠ [] := by rw [hdr]; simp
          have Hdr := Lib.hid hdr; clear hdr
          have Hc := Lib.hid hc; clear hc
          have HN := Lib.hid hN; clear hN
          have Hne := Lib.hid hne; clear hne
          by_cases hdig : 48 ≤ N ∧ N ≤ 57
          · obtain ⟨hd1, hd2⟩ := hdig
            by_cases h48 : N = 48
            · have q3 : ((N : Int) == 48) = true := by simp [h48]
              have q4 : ¬ ((N : Int) < 48) := by omega
              have q5 : ¬ (57 < (N : Int)) := by omega
              have Hf := Lib.hid (Hfa.out 3 wr (by
                have hc48 : c = 48 := UInt8.toNat_inj.1 (by rw [← HN.out, h48]; rfl)
                rw [Hdr.out, hc48]
                exact partErr_3 hg0 (by simp [digs, isDigit])) (by decide) hP.1)
              clear Hfa Hfail hown h48
              go_wp2
              go_ret3
              exact Hf.out
            · have q3 : ((N : Int) == 48) = false := by simp; omega
              have q4 : ¬ ((N : Int) < 48) := by omega
              have q5 : ¬ (57 < (N : Int)) := by omega
              obtain ⟨D, hD⟩ : ∃ D, D = digs7 (s.drop p) := ⟨_, rfl⟩
              have hD7 : D ≤ 7 := by rw [hD]; unfold digs7; omega
              have hDl : p + D ≤ s.length := by have := digs_le (s.drop p); rw [List.length_drop] at this; rw [hD]; unfold digs7; omega
              have hin : ∀ j, j < D → ∃ x : UInt8, s[p + j]? = some x ∧ 48 ≤ x.toNat ∧ x.toNat ≤ 57 ∧ decOf ((s.drop p).take (j + 1)) = decOf ((s.drop p).take j) * 10 + (x.toNat - 48) := by
                intro j hj
                have hjl : p + j < s.length := by omega
                have hx : s[p + j]? = some s[p + j] := List.getElem?_eq_getElem hjl
                have hx2 : (s.drop p)[j]? = some s[p + j] := by rw [List.getElem?_drop]; exact hx
                have hdj : j < digs (s.drop p) := by have : D ≤ digs (s.drop p) := by { rw [hD]; unfold digs7; omega }
                                                     omega
                have h1 := isDigit_iff.1 (digs_lt _ _ _ hx2 hdj)
                refine ⟨_, hx, h1.1, h1.2, ?_⟩
                have hj2 : j < (s.drop p).length := by rw [List.length_drop]; omega
                have e2 : (s.drop p)[j] = s[p + j] := by rw [List.getElem_drop]
                rw [decOf_take hj2, e2]
              have hstop : D < 7 → ∀ x, s[p + D]? = some x → ¬ (48 ≤ x.toNat ∧ x.toNat ≤ 57) := by
                intro h7 x hx hd
                have hDd : D = digs (s.drop p) := by rw [hD] at h7 ⊢; unfold digs7 at h7 ⊢; omega
                have hx2 : (s.drop p)[digs (s.drop p)]? = some x := by rw [List.getElem?_drop, ← hDd]; exact hx
                have := digs_at _ _ hx2
                rw [isDigit_iff.2 hd] at this
                cases this
              have hbig : ∀ j, j ≤ 7 → decOf ((s.drop p).take j) ≤ 100000000 ∨ D < j := by
                intro j hj
                by_cases hjD : j ≤ D
                · left
                  have hall : ∀ c ∈ (s.drop p).take j, isDigit c = true := by
                    intro c hc
                    obtain ⟨i, hi, rfl⟩ := List.getElem_of_mem hc
                    rw [List.length_take] at hi
                    rw [List.getElem_take]
                    exact digs_lt (s.drop p) i _ (List.getElem?_eq_getElem (by omega)) (by have : D ≤ digs (s.drop p) := by { rw [hD]; unfold digs7; omega }
                                                                                           omega)
                  have h1 := decOf_lt _ hall
                  have h2 : (10 : Nat) ^ ((s.drop p).take j).length ≤ 10 ^ 7 := Nat.pow_le_pow_right (by decide) (by rw [List.length_take]; omega)
                  have h3 : (10 : Nat) ^ 7 = 10000000 := by decide
                  omega
                · right; omega
              have HD := Lib.hid hD; clear hD
              have Hin := Lib.hid hin; clear hin
              have Hstop := Lib.hid hstop; clear hstop
              have Hbig := Lib.hid hbig; clear hbig
              go_upto_block 2 with fail
              go_cut [7, 8] (fun s7 s8 wx => wr = wx ∧ s7 = .int .i64 (decOf ((s.drop p).take D)) ∧ s8 = .int .i64 ((p + D : Nat)))
              case first =>
                go_wp2_with fail
                go_loopg [7, 8] 7 (fun g tn tt wx => wr = wx ∧ ∃ j : Nat, g + j = 7 ∧ j ≤ D ∧ tn = .int .i64 (decOf ((s.drop p).take j)) ∧ tt = .int .i64 ((p + j : Nat)))
                case atStart => exact ⟨rfl, 0, rfl, Nat.zero_le _, by simp [decOf], rfl⟩
                case round =>
                  obtain ⟨rfl, j, hgj, hjD, rfl, rfl⟩ := hrel
                  by_cases hj : j < D
                  · obtain ⟨x, hx, hx1, hx2, hde⟩ := Hin.out j hj
                    obtain ⟨hi, hv⟩ := str_at s (p + j) x hx
                    obtain ⟨M, hM⟩ : ∃ M, M = x.toNat := ⟨_, rfl⟩
                    rw [← hM] at hv hx1 hx2 hde
                    obtain ⟨V, hV⟩ : ∃ V, V = decOf ((s.drop p).take j) := ⟨_, rfl⟩
                    rw [← hV] at hde ⊢
                    have hVb : V ≤ 100000000 := by
                      have := Hbig.out j (by omega)
                      rw [← hV] at this
                      omega
                    have k1 : ((p + j : Nat) : Int) < s.length := by omega
                    have k2 : ¬ ((M : Int) < 48) := by omega
                    have k3 : (M : Int) ≤ 57 := by omega
                    have k4 : (48 : Int) ≤ M := by omega
                    have k5 : ((p + j : Nat) : Int) < (p : Int) + 7 := by omega
                    have Hde := Lib.hid hde; clear hde hM hV hx
                    go_wp2
                    go_roundg (7 - (j + 1))
                    case measure => omega
                    case rel => exact ⟨rfl, j + 1, by omega, by omega, by rw [Hde.out]; go_num, by go_num⟩
                  · obtain rfl : j = D := by omega
                    by_cases hend : p + j = s.length
                    · have k1 : decide ((p : Int) + (j : Int) < s.length) = false := by simp; omega
                      clear hend
                      go_wp2
                      go_meet
                      exact ⟨rfl, rfl, rfl⟩
                    · have k1 : ((p + j : Nat) : Int) < s.length := by omega
                      obtain ⟨x, hx⟩ : ∃ x, s[p + j]? = some x := ⟨_, List.getElem?_eq_getElem (by omega)⟩
                      obtain ⟨hi, hv⟩ := str_at s (p + j) x hx
                      obtain ⟨M, hM⟩ : ∃ M, M = x.toNat := ⟨_, rfl⟩
                      rw [← hM] at hv
                      have hst : j < 7 → ¬ (48 ≤ M ∧ M ≤ 57) := fun h7 => by rw [hM]; exact Hstop.out h7 x hx
                      clear hM hx
                      by_cases h1 : 48 ≤ M
                      · by_cases h2 : M ≤ 57
                        · have h7 : j = 7 := by
                            by_cases h : j < 7
                            · exact absurd ⟨h1, h2⟩ (hst h)
                            · omega
                          have k2 : (48 : Int) ≤ M := by omega
                          have k3 : (M : Int) ≤ 57 := by omega
                          have k5 : decide ((p : Int) + (j : Int) < (p : Int) + 7) = false := by simp; omega
                          have k6 : ¬ ((j : Int) < 7) := by omega
                          clear hst h7
                          go_wp2
                          go_meet
                          exact ⟨rfl, rfl, rfl⟩
                        · have k2 : (48 : Int) ≤ M := by omega
                          have k3 : decide ((M : Int) ≤ 57) = false := by simp; omega
                          clear hst
                          go_wp2
                          go_meet
                          exact ⟨rfl, rfl, rfl⟩
                      · have k2 : decide ((48 : Int) ≤ M) = false := by simp; omega
                        clear hst
                        go_wp2
                        go_meet
                        exact ⟨rfl, rfl, rfl⟩
              case rest =>
                obtain ⟨rfl, rfl, rfl⟩ := hcut
                have hdD : D < 7 → D = digs (s.drop p) := fun h => by have := HD.out; unfold digs7 at this; omega
                have hD1 : 1 ≤ digs (s.drop p) := by rw [Hdr.out]; simp only [digs]; rw [if_pos (isDigit_iff.2 (by rw [← HN.out]; exact ⟨hd1, hd2⟩))]; omega
                by_cases hD7e : D = 7
                · have k5 : ((p : Int) + (D : Int) == (p : Int) + 7) = true := by simp; omega
                  have Hf := Lib.hid (Hfa.out 2 wr (by
                    have h6 : 6 < digs (s.drop p) := by have := HD.out; unfold digs7 at this; omega
                    rw [Hdr.out] at h6 ⊢
                    exact partErr_2 hg0 (fun h => h48 (by rw [HN.out, h]; rfl)) h6) (by decide) hP.1)
                  clear Hfa Hfail hown hdD hD7e
                  go_wp2
                  go_ret3
                  exact Hf.out
                · have k5 : ((p : Int) + (D : Int) == (p : Int) + 7) = false := by simp; omega
                  have hDd := hdD (by omega)
                  have hpe : partErr gk (s.drop p) = 0 := by
                    have h6 : digs (s.drop p) ≤ 6 := by omega
                    rw [Hdr.out] at h6 hD1 ⊢
                    exact partErr_0 hg0 (fun h => h48 (by rw [HN.out, h]; rfl)) (by omega) h6
                  have A1 := owns_below hown (below_alloc wr (.cells #[nv (decOf ((s.drop p).take D))] 3))
                  have A2 := sees_new wr #[nv (decOf ((s.drop p).take D))] 3 (0, 0) 1 1 1 rfl (Nat.le_refl _)
                  have hP1 := hP.alloc (.cells #[nv (decOf ((s.drop p).take D))] 3)
                  have hpl8 : pre.length ≤ 8 := by omega
                  have Hpe := Lib.hid hpe; clear hpe
                  have HDd := Lib.hid hDd; clear hDd hdD hown
                  unfold nv at A1 A2 hP1
                  by_cases hend : p + D = s.length
                  · have k6 : ((p : Int) + (D : Int) == (s.length : Int)) = true := by simp; omega
                    have hd : (s.drop p).drop (digs (s.drop p)) = [] := by rw [← HDd.out, List.drop_drop, hend, List.drop_length]
                    have hpe2 : Hid (parts s = pre ++ [(decOf ((s.drop p).take D), p, 0)]) := by show _ = _; rw [hpa.out, line_end Hpe.out hd, ← HDd.out]
                    clear Hfa Hfail hend hd
                    go_wp2_with (at_builtin; (refine wpList_append_where _ rfl _ _ 100 rfl w.heap.size 3 (.int .i64 0) 1 8 Tryz.underlying100 Tryz.infoInt rfl (by decide) A1 rfl A2 rfl (by simp [Value.oneCell']) ?q1 ?q2 ?q3 ?_); (case q1 => unfold maxLen; omega); (case q2 => omega); (case q3 => simp; have := hP.2; omega); intro v' w5 hown5 hg5 hwh5 hnil5; obtain ⟨av5, cv5, rfl⟩ := owns_slice hown5)
                    go_ret3
                    have hok2 : okParts (parts s) := by
                      rw [hpe2.out]
                      intro x hx
                      rcases List.mem_append.1 hx with hx | hx
                      · exact hok.out x hx
                      · simp at hx; rw [hx]
                    refine ⟨(hP1.grown hg5 A1).1, .inr ⟨lineErr_none hok2, _, rfl, ?_⟩⟩
                    have e : lineOrds s = pre.map (·.1) ++ [decOf ((s.drop p).take D)] := by unfold lineOrds; rw [hpe2.out]; simp
                    rw [e]
                    exact owns_eq hown5 (by simp) (by simp [nv])
                  · have k6 : ((p : Int) + (D : Int) == (s.length : Int)) = false := by simp; omega
                    obtain ⟨c2, hc2⟩ : ∃ c2, s[p + D]? = some c2 := ⟨_, List.getElem?_eq_getElem (by omega)⟩
                    have hdr2 : (s.drop p).drop (digs (s.drop p)) = c2 :: s.drop (p + D + 1) := by
                      obtain ⟨h1, h2⟩ := List.getElem?_eq_some_iff.1 hc2
                      rw [← HDd.out, List.drop_drop, List.drop_eq_getElem_cons h1, h2]
                    obtain ⟨hi2, hv2⟩ := str_at s (p + D) c2 hc2
                    obtain ⟨M, hM⟩ : ∃ M, M = c2.toNat := ⟨_, rfl⟩
                    rw [← hM] at hv2
                    by_cases h46 : M = 46
                    · have k7 : ((M : Int) == 46) = true := by simp [h46]
                      have hc46 : c2 = 46 := UInt8.toNat_inj.1 (by rw [← hM, h46]; rfl)
                      rw [hc46] at hdr2
                      have hpe2 : Hid (parts s = (pre ++ [(decOf ((s.drop p).take D), p, 0)]) ++ lineParts (gk - 1) (p + D + 1) (s.drop (p + D + 1))) := by show _ = _; rw [hpa.out, line_dot Hpe.out hdr2, ← HDd.out]; simp
                      have hlt2 : p + D + 1 ≤ s.length := by omega
                      clear Hfa Hfail hend hM hc46 h46 hdr2 hc2
                      go_wp2_with (at_builtin; (refine wpList_append_where _ rfl _ _ 100 rfl w.heap.size 3 (.int .i64 0) 1 8 Tryz.underlying100 Tryz.infoInt rfl (by decide) A1 rfl A2 rfl (by simp [Value.oneCell']) ?q1 ?q2 ?q3 ?_); (case q1 => unfold maxLen; omega); (case q2 => omega); (case q3 => simp; have := hP.2; omega); intro v' w5 hown5 hg5 hwh5 hnil5; obtain ⟨av5, cv5, rfl⟩ := owns_slice hown5)
                      go_roundg (gk - 1)
                      case measure => omega
                      case rel =>
                        refine ⟨p + D + 1, pre ++ [(decOf ((s.drop p).take D), p, 0)], by simp; omega, hlt2, by go_num, ?_, hpe2, ?_, hP1.grown hg5 A1⟩
                        · exact owns_eq hown5 (by simp) (by simp [nv])
                        · show okParts _
                          intro x hx
                          rcases List.mem_append.1 hx with hx | hx
                          · exact hok.out x hx
                          · simp at hx; rw [hx]
                    · have k7 : ((M : Int) == 46) = false := by simp; omega
                      have hpe2 : parts s = pre ++ [(decOf ((s.drop p).take D), p, 0), (0, p + D, 6)] := by
                        rw [hpa.out, line_bad Hpe.out hdr2 (fun h => h46 (by rw [hM, h]; rfl)), ← HDd.out]
                      have hff : ∀ w', Below w.heap.size w w' → Parse3Post s w (.returned (.tuple #[.slice none 0 0, .int .i64 ((p + D : Nat) : Int), .int .i64 ((6 : Nat) : Int)])) w' := fun w' hb => Hfail.out (pre ++ [(decOf ((s.drop p).take D), p, 0)]) (0, p + D, 6) w' (by rw [hpe2]; simp) (by
                        intro x hx
                        rcases List.mem_append.1 hx with hx | hx
                        · exact hok.out x hx
                        · simp at hx; rw [hx]) (by simp) hb
                      have Hff := Lib.hid hff; clear hff
                      clear Hfa Hfail hend hM h46 hdr2 hc2 hpe2
                      go_wp2_with (at_builtin; (refine wpList_append_where _ rfl _ _ 100 rfl w.heap.size 3 (.int .i64 0) 1 8 Tryz.underlying100 Tryz.infoInt rfl (by decide) A1 rfl A2 rfl (by simp [Value.oneCell']) ?q1 ?q2 ?q3 ?_); (case q1 => unfold maxLen; omega); (case q2 => omega); (case q3 => simp; have := hP.2; omega); intro v' w5 hown5 hg5 hwh5 hnil5; obtain ⟨av5, cv5, rfl⟩ := owns_slice hown5)
                      go_ret3
                      exact Hff.out _ (hP1.grown hg5 A1).1
          · have Hf := Lib.hid (Hfa.out 6 wr (by
              have : digs (s.drop p) = 0 := by
                rw [Hdr.out]
                have : isDigit c = false := by
                  cases hx : isDigit c with
                  | false => rfl
                  | true => exact absurd (by rw [HN.out]; exact isDigit_iff.1 hx) hdig
                simp [digs, this]
              exact partErr_6 hg0 Hne.out this) (by decide) hP.1)
            clear Hfa Hfail hown
            by_cases h48 : 48 ≤ N
            · have q4 : ¬ ((N : Int) < 48) := by omega
              have q5 : (57 < (N : Int)) := by omega
              clear hdig
              go_wp2
              go_ret3
              exact Hf.out
            · have q4 : ((N : Int) < 48) := by omega
              clear hdig
              go_wp2
              go_ret3
              exact Hf.out

set_option maxRecDepth 100000 in
set_option maxHeartbeats 400000 in
theorem valid3_any (s : List UInt8) (w : World) (hlen : s.length ≤ 1000000000) :
    Calls Tryz.prog 66 #[.string (str s)] w fun e w' => e = .returned (.bool (validName s)) ∧ Below w.heap.size w w' := by
  have hp := parse3_any s w hlen
  have Hp := Lib.hid hp; clear hp
  cases hl : lineErr s with
  | none =>
    have hv : validName s = true := by simp [validName, hl]
    have Hl := Lib.hid hl; clear hl
    rw [hv]; clear hv
    go_enter Tryz.func66, Tryz.ntmps66
    go_wp2_with fail
    refine (Hp.out).mono ?_
    rintro e w1 ⟨hb1, ⟨p, hp, rfl⟩ | ⟨hp, v, rfl, hr⟩⟩
    · rw [Hl.out] at hp; cases hp
    · obtain ⟨a, c, rfl⟩ := owns_slice hr
      clear hr hp
      go_wp2
      go_ret
      exact ⟨rfl, hb1⟩
  | some p =>
    have hv : validName s = false := by simp [validName, hl]
    have hne := lineErr_ne hl
    have q : ((p.2.2 : Int) == 0) = false := by simp; omega
    have Hq := Lib.hid q; clear q
    have Hl := Lib.hid hl; clear hl
    rw [hv]; clear hv
    go_enter Tryz.func66, Tryz.ntmps66
    go_wp2_with fail
    refine (Hp.out).mono ?_
    rintro e w1 ⟨hb1, ⟨p', hp, rfl⟩ | ⟨hp, v, rfl, hr⟩⟩
    · rw [Hl.out] at hp; cases hp
      go_wp2
      go_ret
      refine ⟨?_, hb1⟩
      show Ending.returned (.bool ((p.2.2 : Int) == 0)) = _
      rw [Hq.out]
    · rw [Hl.out] at hp; cases hp
end Go.Proofs.YtjifejbibgimhaaGreatDoor

/- replevinref36: CheckLine, Check. -/
namespace Go.Proofs.YtjifejbibgimhaaGreatDoor
open Go.RowKit

set_option maxRecDepth 100000 in
set_option maxHeartbeats 1600000 in
theorem refLine_any (s : List UInt8) (w : World) (hs : s.length ≤ 9223372036854775807) :
    Calls Tryz.prog 22 #[.string (str s)] w fun e w' => e = .returned (.int .i64 (lineE s)) ∧ Below w.heap.size w w' := by
  have hsz := str_size s
  by_cases h1 : 1024 < s.length
  · have hf : lineE s = 5 := by unfold lineE; rw [if_pos h1]
    rw [hf]; clear hf
    have h1' : (1024 : Int) < s.length := by omega
    go_enter Tryz.func22, Tryz.ntmps22
    go_wp2
    go_ret
    exact ⟨rfl, Below.refl _ _⟩
  · have h1' : ¬ (1024 < (s.length : Int)) := by omega
    have hle : s.length ≤ 1024 := by omega
    clear h1
    go_enter Tryz.func22, Tryz.ntmps22
    go_wp2
    go_loopg [3] s.length (fun g t wr => w = wr ∧ ∃ k : Nat, k ≤ s.length ∧ g = s.length - k ∧ t = .int .i64 k ∧ Hid ((s.take k).any oddB = false))
    case atStart => exact ⟨rfl, 0, Nat.zero_le _, rfl, rfl, Lib.hid (by simp)⟩
    case round =>
      obtain ⟨rfl, k, hk, rfl, rfl, hno⟩ := hrel
      by_cases hlt : k < s.length
      · obtain ⟨b, hbk⟩ : ∃ b, s[k]? = some b := ⟨_, List.getElem?_eq_getElem hlt⟩
        have hbe : s[k] = b := by rw [List.getElem?_eq_getElem hlt] at hbk; simpa using hbk
        obtain ⟨hi, hv⟩ := str_at s k b hbk
        obtain ⟨c, hc⟩ : ∃ c, c = b.toNat := ⟨_, rfl⟩
        rw [← hc] at hv
        have q0 : (k : Int) < s.length := by omega
        have ho : oddB b = (decide (c < 32) || decide (c = 127)) := by unfold oddB; rw [hc]
        have hstep : (s.take (k + 1)).any oddB = oddB b := by rw [any_take_succ _ _ _ hlt, hno.out, hbe]; rfl
        rw [ho] at hstep
        have hin : oddB b = true → lineE s = 6 := by
          intro h
          unfold lineE
          rw [if_neg (by omega), if_pos]
          rw [List.any_eq_true]
          exact ⟨b, hbe ▸ List.getElem_mem _, h⟩
        rw [ho] at hin
        have Hin := Lib.hid hin; clear hin
        have Hst := Lib.hid hstep; clear hstep
        clear hc hbe hbk ho
        by_cases h32 : c < 32
        · have hf := Lib.hid (Hin.out (by simp [h32]))
          have q1 : (c : Int) < 32 := by omega
          clear Hst Hin
          go_wp2
          go_ret
          exact ⟨by rw [hf.out]; rfl, Below.refl _ _⟩
        · have q1 : ¬ ((c : Int) < 32) := by omega
          by_cases h127 : c = 127
          · have hf := Lib.hid (Hin.out (by simp [h127]))
            have q2 : ((c : Int) == 127) = true := by simp [h127]
            clear Hst Hin h127
            go_wp2
            go_ret
            exact ⟨by rw [hf.out]; rfl, Below.refl _ _⟩
          · have hn : Hid ((s.take (k + 1)).any oddB = false) := by show _ = _; rw [Hst.out]; simp [h32, h127]
            have q2 : ((c : Int) == 127) = false := by simp; omega
            clear Hst Hin h127
            go_wp2
            go_roundg (s.length - (k + 1))
            case measure => omega
            case rel => exact ⟨rfl, k + 1, by omega, rfl, by go_num, hn⟩
      · have hf : Hid (lineE s = 0) := by
          show _ = _
          unfold lineE
          have h := hno.out
          rw [List.take_of_length_le (by omega)] at h
          rw [if_neg (by omega), h]; rfl
        have q0 : decide ((k : Int) < s.length) = false := by simp; omega
        go_wp2
        go_ret
        exact ⟨by rw [hf.out]; rfl, Below.refl _ _⟩

set_option maxRecDepth 100000 in
set_option maxHeartbeats 3200000 in
theorem refTermCheck_any (e : Int) (ses : List UInt8) (tv : Value) (ty : List (List UInt8)) (scr : List UInt8) (w : World) (hty : Sees w 1 tv ty.length (ty.map sv)) (hses : ses.length ≤ 1000000000) (hscr : scr.length ≤ 9223372036854775807) (htl : ty.length ≤ 9223372036854775807) (hls : ∀ s ∈ ty, s.length ≤ 9223372036854775807) :
    Calls Tryz.prog 29 #[termV e ses tv scr] w fun x w' => x = .returned (.int .i64 (termCheck e ses ty scr.length)) ∧ Below w.heap.size w w' := by
  obtain ⟨_, ao, c, rfl, hc, hget⟩ := sees_str hty
  have fin : ∀ (r : Nat), termCheck e ses ty scr.length = r → ∀ (w' : World), Below w.heap.size w w' → (Ending.returned (.int .i64 (r : Int)) = .returned (.int .i64 (termCheck e ses ty scr.length)) ∧ Below w.heap.size w w') := fun r hr w' hb => by rw [hr]; exact ⟨rfl, hb⟩
  have Fin := Lib.hid fin; clear fin
  have Hget := Lib.hid hget; clear hget
  have Hls := Lib.hid hls; clear hls
  have hbx := Blk.new w #[.int .i64 e, .string (str ses), .slice ao ty.length c, .string (str scr)] 44
  obtain ⟨b0, b1, b2, b3, _, _, _, _⟩ := hbx.quad
  have hP := (Past.refl w).alloc (.cells #[.int .i64 e, .string (str ses), .slice ao ty.length c, .string (str scr)] 44)
  have hsz := str_size scr
  have hses1 : (str ses).toList = ses := str_toList ses
  unfold termV
  by_cases h1 : 0 ≤ e ∧ e ≤ 1073741824
  · have w1 : ¬ (e < 0) := by omega
    have w2 : ¬ (1073741824 < e) := by omega
    cases hv : validName ses with
    | false =>
      have hf := Fin.out 12 (by unfold termCheck; rw [if_neg (by simp [h1]), if_pos hv])
      have Hf := Lib.hid hf; clear hf
      go_enter Tryz.func29, Tryz.ntmps29
      go_wp2_with (first
        | (go_at_call 66; refine (valid3_any ses _ hses).mono ?_; rw [hv]; rintro x w2 ⟨rfl, hb2⟩))
      go_ret
      exact Hf.out _ (hP.call hb2).1
    | true =>
      by_cases h3 : 16 < ty.length
      · have hf := Fin.out 9 (by unfold termCheck; rw [if_neg (by simp [h1]), if_neg (by simp [hv]), if_pos h3])
        have Hf := Lib.hid hf; clear hf
        go_enter Tryz.func29, Tryz.ntmps29
        go_wp2_with (first
          | (go_at_call 66; refine (valid3_any ses _ hses).mono ?_; rw [hv]; rintro x w2 ⟨rfl, hb2⟩; have hx2 := hbx.below hb2 hbx.lt; obtain ⟨c0, c1, c2, c3, _, _, _, _⟩ := hx2.quad))
        go_ret
        exact Hf.out _ (hP.call hb2).1
      · have h3' : ¬ (16 < (ty.length : Int)) := by omega
        have hty16 : ty.length ≤ 16 := by omega
        have Hv := Lib.hid hv
        go_enter Tryz.func29, Tryz.ntmps29
        go_wp2_with (first
          | (go_at_call 66; refine (valid3_any ses _ hses).mono ?_; rw [hv]; rintro x w2 ⟨rfl, hb2⟩; have hx2 := hbx.below hb2 hbx.lt; obtain ⟨c0, c1, c2, c3, _, _, _, _⟩ := hx2.quad))
        have hP2 := hP.call hb2
        have hl0 := hx2.lt
        clear hv hb2 b0 b1 b2 b3 c0 c1 c2 c3 h3 hP
        go_loopw [3] (fun t wr => ∃ k : Nat, k ≤ ty.length ∧ t = .int .i64 k ∧ Hid (linesE (ty.take k) = 0) ∧ Past w.heap.size w wr ∧ Blk wr w.heap.size #[.int .i64 e, .string (str ses), .slice ao ty.length c, .string (str scr)] 44) (fun t _ => ty.length - (intOf t).toNat)
        case atStart => exact ⟨0, Nat.zero_le _, rfl, Lib.hid rfl, hP2, hx2⟩
        case round =>
          obtain ⟨k, hk, rfl, hok, hPr, hxr⟩ := hrel
          obtain ⟨c0, c1, c2, c3, _, _, _, _⟩ := hxr.quad
          by_cases hlt : k < ty.length
          · obtain ⟨b, off, rfl, hbl, hcell⟩ := Hget.out k hlt hlt
            have hcr : wr.cell? ⟨b, off + k, none⟩ = some (.string (str ty[k])) := (hPr.1.cell (p := ⟨b, off + k, none⟩) hbl).trans hcell
            clear hcell
            obtain ⟨g1, g2⟩ := linesE_take hlt hok.out
            by_cases hz : lineE ty[k] = 0
            · have hn : Hid (linesE (ty.take (k + 1)) = 0) := by show _ = _; rw [g1, hz]
              have hcl := fun w => refLine_any ty[k] w (Hls.out _ (List.getElem_mem _))
              rw [hz] at hcl
              have Hcl := Lib.hid hcl; clear hcl g1 g2 hz
              go_wp2_with (go_at_call 22; refine (Hcl.out _).mono ?_; rintro x w3 ⟨rfl, hb3⟩)
              go_roundw
              case rel => exact ⟨k + 1, by omega, by go_num, hn, hPr.call hb3, hxr.below hb3 hxr.lt⟩
              case measure => simp [intOf]; omega
            · have hf := Fin.out (lineE ty[k]) (by unfold termCheck; rw [if_neg (by simp [h1]), if_neg (by simp [Hv.out]), if_neg (by omega), if_pos (by rw [g2 hz]; exact hz), g2 hz])
              have Hf := Lib.hid hf; clear hf
              have hcl := fun w => refLine_any ty[k] w (Hls.out _ (List.getElem_mem _))
              obtain ⟨E, hE⟩ : ∃ E, E = lineE ty[k] := ⟨_, rfl⟩
              rw [← hE] at hcl hz Hf
              have Hcl := Lib.hid hcl; clear hcl g1 g2 hE
              have q1 : ((E : Int) == 0) = false := by simp; omega
              have q2 : ((E : Int) != 0) = true := by simp; omega
              go_wp2_with (go_at_call 22; refine (Hcl.out _).mono ?_; rintro x w3 ⟨rfl, hb3⟩)
              go_ret
              exact Hf.out _ (hPr.call hb3).1
          · obtain rfl : k = ty.length := by omega
            have hall : Hid (linesE ty = 0) := by show _ = _; have := hok.out; rwa [List.take_length] at this
            clear hok hlt
            by_cases h5 : ses = [] ∧ ty ≠ []
            · obtain ⟨h5a, h5b⟩ := h5
              have hf := Fin.out 10 (by unfold termCheck; rw [if_neg (by simp [h1]), if_neg (by simp [Hv.out]), if_neg (by omega), if_neg (by simp [hall.out]), if_pos ⟨h5a, h5b⟩])
              have Hf := Lib.hid hf; clear hf
              have q1 : (str ses).toList.isEmpty = true := by rw [hses1, h5a]; rfl
              have q2 : 0 < ty.length := List.length_pos_iff.2 h5b
              clear h5a h5b hses1
              go_wp2
              all_goals go_ret
              all_goals exact Hf.out _ hPr.1
            · by_cases h6 : 2048 < scr.length
              · have hf := Fin.out 5 (by unfold termCheck; rw [if_neg (by simp [h1]), if_neg (by simp [Hv.out]), if_neg (by omega), if_neg (by simp [hall.out]), if_neg h5, if_pos h6])
                have Hf := Lib.hid hf; clear hf
                by_cases h7 : ses = []
                · have hty0 : ¬ 0 < ty.length := fun h => h5 ⟨h7, List.length_pos_iff.1 h⟩
                  have q1 : (str ses).toList.isEmpty = true := by rw [hses1, h7]; rfl
                  have q2 : ¬ (0 < (ty.length : Int)) := by omega
                  clear h5 h7 hses1
                  go_wp2
                  all_goals go_ret
                  all_goals exact Hf.out _ hPr.1
                · have q1 : (str ses).toList.isEmpty = false := by rw [hses1]; simpa using h7
                  clear h5 h7 hses1
                  go_wp2
                  all_goals go_ret
                  all_goals exact Hf.out _ hPr.1
              · have hf := Fin.out 0 (by unfold termCheck; rw [if_neg (by simp [h1]), if_neg (by simp [Hv.out]), if_neg (by omega), if_neg (by simp [hall.out]), if_neg h5, if_neg h6])
                have Hf := Lib.hid hf; clear hf
                by_cases h7 : ses = []
                · have hty0 : ¬ 0 < ty.length := fun h => h5 ⟨h7, List.length_pos_iff.1 h⟩
                  have q1 : (str ses).toList.isEmpty = true := by rw [hses1, h7]; rfl
                  have q2 : ¬ (0 < (ty.length : Int)) := by omega
                  clear h5 h7 hses1
                  go_wp2
                  all_goals go_ret
                  all_goals exact Hf.out _ hPr.1
                · have q1 : (str ses).toList.isEmpty = false := by rw [hses1]; simpa using h7
                  clear h5 h7 hses1
                  go_wp2
                  all_goals go_ret
                  all_goals exact Hf.out _ hPr.1
  · have hf := Fin.out 2 (by unfold termCheck; rw [if_pos h1]) _ hP.1
    have Hf := Lib.hid hf; clear hf
    by_cases hneg : e < 0
    · clear h1
      go_enter Tryz.func29, Tryz.ntmps29
      go_wp2
      go_ret
      exact Hf.out
    · have w2 : 1073741824 < e := by omega
      clear h1
      go_enter Tryz.func29, Tryz.ntmps29
      go_wp2
      go_ret
      exact Hf.out
end Go.Proofs.YtjifejbibgimhaaGreatDoor

/- replevinref36.Encode. -/
namespace Go.Proofs.YtjifejbibgimhaaGreatDoor
open Go.RowKit

set_option maxRecDepth 100000 in
set_option maxHeartbeats 3200000 in
theorem refTermEncode_any (e : Int) (ses : List UInt8) (tv : Value) (ty : List (List UInt8)) (scr : List UInt8) (w : World) (hty : Sees w 1 tv ty.length (ty.map sv)) (hses : ses.length ≤ 1000000000) (hscr : scr.length ≤ 9223372036854775807) (htl : ty.length ≤ 9223372036854775807) (hls : ∀ s ∈ ty, s.length ≤ 9223372036854775807) :
    Calls Tryz.prog 25 #[termV e ses tv scr] w fun x w' => x = .returned (.tuple #[.string (str (termEnc e ses ty scr)), .int .i64 (termCheck e ses ty scr.length)]) ∧ Below w.heap.size w w' := by
  obtain ⟨ao, c, rfl⟩ := sees_slice hty
  have hbx := Blk.new w #[.int .i64 e, .string (str ses), .slice ao ty.length c, .string (str scr)] 44
  have hP := (Past.refl w).alloc (.cells #[.int .i64 e, .string (str ses), .slice ao ty.length c, .string (str scr)] 44)
  have hty1 := hty.below (below_alloc w (.cells #[.int .i64 e, .string (str ses), .slice ao ty.length c, .string (str scr)] 44))
  have hck := refTermCheck_any e ses _ ty scr _ hty1 hses hscr htl hls
  unfold termV at *
  have Hck := Lib.hid hck; clear hck hty1
  obtain ⟨b0, b1, b2, b3, _, _, _, _⟩ := hbx.quad
  by_cases h0 : termCheck e ses ty scr.length = 0
  · obtain ⟨⟨he1, he2⟩, hv, hl16, hle, _, hs2⟩ := termCheck_ok.1 h0
    have hvl := valid_len hv
    have hll : ∀ s ∈ ty, s.length ≤ 1024 := fun s hs => lineE_len (linesE_ok.1 hle s hs)
    have hfl : ∀ k, (flat (ty.take k)).length ≤ 17000 := fun k => by
      have h1 := flat_take_le hll (by omega) k
      have h2 : ty.length * (1024 + 10) ≤ 16 * (1024 + 10) := Nat.mul_le_mul_right _ hl16
      omega
    obtain ⟨e', rfl⟩ := Int.eq_ofNat_of_zero_le he1
    have Hfin : Hid (termEnc e' ses ty scr = termBytes e' ses ty scr) := by show _ = _; unfold termEnc; rw [if_pos h0]
    have hl1 := natBytes_len64 (n := e') (by omega)
    have hl2 := natBytes_len64 (n := ses.length) (by omega)
    have hl3 := natBytes_len64 (n := ty.length) (by omega)
    have hl4 := natBytes_len64 (n := scr.length) (by omega)
    rw [h0] at Hck ⊢
    obtain ⟨_, ao', c', hvv, hc, hget⟩ := sees_str hty
    cases hvv
    have Hget := Lib.hid hget; clear hget hty
    have Hll := Lib.hid hll; clear hll
    have Hfl := Lib.hid hfl; clear hfl
    clear h0 hv hle
    have we : IntKind.u64.wrap (e' : Int) = (e' : Int) := by rw [IntKind.wrap_u64]; omega
    have wl : IntKind.u64.wrap (ty.length : Int) = (ty.length : Int) := by rw [IntKind.wrap_u64]; omega
    have htx := fun w => refText_any (str ses) (by rw [str_size]; omega) w
    rw [str_size, str_data] at htx
    have Htx := Lib.hid htx; clear htx
    have htx2 := fun w => refText_any (str scr) (by rw [str_size]; omega) w
    rw [str_size, str_data] at htx2
    have Htx2 := Lib.hid htx2; clear htx2
    go_enter Tryz.func25, Tryz.ntmps25
    go_wp2_with fail
    refine Hck.out.mono ?_
    rintro x w1 ⟨rfl, hb1⟩
    have hbk1 := hbx.below hb1 (by simp)
    have hP1 := hP.call hb1
    have hz1 : w.heap.size < w1.heap.size := hbk1.lt
    clear b0 b1 b2 b3
    obtain ⟨c10, c11, c12, c13, _, _, _, _⟩ := hbk1.quad
    go_wp2_with fail
    go_region_held3 (fun w' => w'.cell? ⟨w.heap.size, 0, none⟩ = some (.int .i64 e') ∧ w'.cell? ⟨w.heap.size, 1, none⟩ = some (.string (str ses)))
      (first | go_keep | exact ⟨hbk4.quad.1, hbk4.quad.2.1⟩ | exact ⟨hbk3.quad.1, hbk3.quad.2.1⟩ | exact ⟨hbk2.quad.1, hbk2.quad.2.1⟩)
      ((first
        | (go_at_call 58; refine (refNatural_any e' (by omega) _).mono ?_; rintro x w2 ⟨v2, rfl, hown2, hb2⟩; have hbk2 := hbk1.drew.below hb2 (by simpa using hz1))
        | (go_at_call 59; refine (Htx.out _).mono ?_; rintro x w3 ⟨v3, rfl, hown3, hb3⟩; have hz2 := hb2.size; have hbk3 := hbk2.below hb3 (by simp at hz2; omega))
        | (refine step_append_where _ _ _ 81 rfl (w.heap.size + 1) 5 (.int .u8 0) 1 1 Tryz.underlying81 Tryz.info5 rfl (by decide) (owns_mono (owns_below hown2 hb3) hz1) rfl (sees_of_owns hown3) rfl (bytes_oneCell _) ?q1 ?q2 ?q3 ?_; (unfold maxLen; simp; omega); (simp; omega); (have := hbk3.lt; omega); intro v4 w4 hown4 hg4 hwh4 _; have hbk4 := hbk3.grown hg4 (owns_ne hown2 (by simpa using hz1)))))
    have hbs : Past w.heap.size w w4 := by
      have q2 := (hP1.drew.call hb2).call hb3
      exact q2.grown hg4 (owns_mono (owns_below hown2 hb3) (Nat.le_of_lt hz1))
    obtain ⟨L4, hL4⟩ : ∃ L, L = natBytes e' ++ (natBytes ses.length ++ ses) := ⟨_, rfl⟩
    have hown4' : w4.ownsRow (w.heap.size + 1) 5 1 v4 L4.length (L4.map bval) := owns_eq hown4 (by rw [hL4]; simp) (by rw [hL4]; simp)
    have hL4l : L4.length ≤ 1000 := by rw [hL4]; simp; omega
    have HL4 := Lib.hid hL4; clear hL4
    obtain ⟨a4, c4, rfl⟩ := owns_slice hown4'
    clear hown4 hown3 hown2 hg4 hwh4 hb3 hb2 hbk3 hbk2 hbk1 we c10 c11 c12 c13 hP1 hb1 hP hbx
    have hz4 := hbk4.lt
    obtain ⟨c40, c41, c42, c43, _, _, _, _⟩ := hbk4.quad
    go_wp2_with (first
      | (go_at_call 58; refine (refNatural_any ty.length (by omega) _).mono ?_; rintro x w5 ⟨v5, rfl, hown5, hb5⟩; have hbk5 := hbk4.below hb5 hz4)
      | (at_builtin; go_loud (refine wpList_append_where w5 rfl _ _ 81 rfl (w.heap.size + 1) 5 (.int .u8 0) 1 1 Tryz.underlying81 Tryz.info5 rfl (by decide) (owns_below hown4' hb5) rfl (sees_of_owns hown5) rfl (bytes_oneCell _) ?c1 ?c2 ?c3 ?_); (case c1 => unfold maxLen; omega); (case c2 => omega); (case c3 => exact hbk5.lt); intro v6 w6 hown6 hg6 hwh6 _))
    have hbk6 := hbk5.grown hg6 (owns_ne hown4' (Nat.lt_succ_self _))
    have hP6 : Past w.heap.size w w6 := (hbs.call hb5).grown hg6 (owns_mono (owns_below hown4' hb5) (Nat.le_succ _))
    obtain ⟨L6, hL6⟩ : ∃ L, L = L4 ++ natBytes ty.length := ⟨_, rfl⟩
    have hown6' : w6.ownsRow (w.heap.size + 1) 5 1 v6 L6.length (L6.map bval) := owns_eq hown6 (by rw [hL6]; simp) (by rw [hL6]; simp)
    have hL6l : L6.length ≤ 2000 := by rw [hL6]; simp; omega
    have HL6 := Lib.hid hL6; clear hL6
    clear hown6 hown5 hg6 hwh6 hb5 hbk5 hbk4 c40 c41 c42 c43 hown4' hbs
    go_loopg [5, 6] ty.length (fun g s5 t wr => ∃ (k : Nat) (bv : Value), k ≤ ty.length ∧ g = ty.length - k ∧ t = .int .i64 k ∧ bv = s5 ∧ wr.ownsRow (w.heap.size + 1) 5 1 bv (L6 ++ flat (ty.take k)).length ((L6 ++ flat (ty.take k)).map bval) ∧ Past w.heap.size w wr ∧ Blk wr w.heap.size #[.int .i64 e', .string (str ses), .slice ao ty.length c, .string (str scr)] 44)
    case atStart => exact ⟨0, _, Nat.zero_le _, rfl, rfl, rfl, by simpa [flat] using hown6', hP6, hbk6⟩
    case round =>
      obtain ⟨k, bv, hk, rfl, rfl, rfl, hown, hPr, hxr⟩ := hrel
      clear hown6' hP6 hbk6
      have hlk := Hfl.out k
      obtain ⟨c0, c1, c2, c3, _, _, _, _⟩ := hxr.quad
      obtain ⟨LL, hLL⟩ : ∃ L, L = L6 ++ flat (ty.take k) := ⟨_, rfl⟩
      have hLLl : LL.length ≤ 20000 := by rw [hLL, List.length_append]; omega
      rw [← hLL] at hown
      by_cases hlt : k < ty.length
      · obtain ⟨b, off, rfl, hbl, hcell⟩ := Hget.out k hlt hlt
        have hcr : wr.cell? ⟨b, off + k, none⟩ = some (.string (str ty[k])) := (hPr.1.cell (p := ⟨b, off + k, none⟩) hbl).trans hcell
        have hLL2 : L6 ++ flat (ty.take (k + 1)) = LL ++ (natBytes ty[k].length ++ ty[k]) := by rw [flat_take_succ hlt, hLL]; simp
        have HLL2 := Lib.hid hLL2; clear hLL2 hLL
        obtain ⟨x, hx⟩ : ∃ x, x = ty[k] := ⟨_, rfl⟩
        have htk := Hll.out _ (List.getElem_mem hlt)
        rw [← hx] at hcr HLL2 htk
        have htn := natBytes_len64 (n := x.length) (by omega)
        have htx := fun w => refText_any (str x) (by rw [str_size]; omega) w
        rw [str_size, str_data] at htx
        have Htx3 := Lib.hid htx; clear htx hcell hx
        have q0 : (k : Int) < ty.length := by omega
        go_wp2_with (first
          | (go_at_call 59; refine (Htx3.out _).mono ?_; rintro x w7 ⟨v7, rfl, hown7, hb7⟩; have hown' := owns_below hown hb7; have hz7 := (hPr.call hb7).2; have hxlt := (hxr.below hb7 hxr.lt).lt)
          | (at_builtin; go_loud (refine wpList_append_where w7 rfl _ _ 81 rfl (w.heap.size + 1) 5 (.int .u8 0) 1 1 Tryz.underlying81 Tryz.info5 rfl (by decide) hown' rfl (sees_of_owns hown7) rfl (bytes_oneCell _) ?c1 ?c2 ?c3 ?_); (case c1 => unfold maxLen; simp; omega); (case c2 => simp; omega); (case c3 => omega); intro v8 w8 hown8 hg8 hwh8 _))
        go_roundg (ty.length - (k + 1))
        case measure => omega
        case rel =>
          refine ⟨k + 1, v8, by omega, rfl, by go_num, rfl, ?_, (hPr.call hb7).grown hg8 (owns_mono hown' (Nat.le_succ _)), (hxr.below hb7 hxr.lt).grown hg8 (owns_ne hown' (Nat.lt_succ_self _))⟩
          rw [HLL2.out]
          exact owns_eq hown8 (by simp) (by simp)
      · obtain rfl : k = ty.length := by omega
        have q0 : decide ((ty.length : Int) < (ty.length : Int)) = false := by simp
        rw [List.take_length] at hLL
        have HLL := Lib.hid hLL; clear hLL
        go_wp2_with (first
          | (go_at_call 59; refine (Htx2.out _).mono ?_; rintro x w7 ⟨v7, rfl, hown7, hb7⟩; have hown' := owns_below hown hb7; have hz7 := (hPr.call hb7).2; have hxlt := (hxr.below hb7 hxr.lt).lt)
          | (at_builtin; go_loud (refine wpList_append_where w7 rfl _ _ 81 rfl (w.heap.size + 1) 5 (.int .u8 0) 1 1 Tryz.underlying81 Tryz.info5 rfl (by decide) hown' rfl (sees_of_owns hown7) rfl (bytes_oneCell _) ?c1 ?c2 ?c3 ?_); (case c1 => unfold maxLen; simp; omega); (case c2 => simp; omega); (case c3 => omega); intro v8 w8 hown8 hg8 hwh8 _; have hsee8 := sees_of_owns (owns_eq (n' := (LL ++ (natBytes scr.length ++ scr)).length) (xs' := (LL ++ (natBytes scr.length ++ scr)).map bval) hown8 (by simp) (by simp)); obtain ⟨a8, c8, rfl⟩ := owns_slice hown8)
          | (with_reducible refine wpList_string_of_bytes (o := ⟨some 47, _, _, _, _, _⟩) _ rfl _ _ 5 _ rfl Tryz.underlying81 Tryz.underlying5 Tryz.underlying9 hsee8 rfl ?_))
        go_ret2
        refine ⟨?_, ((hPr.call hb7).grown hg8 (owns_mono hown' (Nat.le_succ _))).1⟩
        rw [Hfin.out]
        have e1 : termBytes (e' : Int) ses ty scr = LL ++ (natBytes scr.length ++ scr) := by rw [HLL.out, HL6.out, HL4.out]; simp [termBytes, txt]
        rw [e1]
        rfl
  · have h0' : ((termCheck e ses ty scr.length : Int) == 0) = false := by simp; omega
    have h0'' : ((termCheck e ses ty scr.length : Int) != 0) = true := by simp; omega
    have Hfin : Hid (termEnc e ses ty scr = []) := by show _ = _; unfold termEnc; rw [if_neg h0]
    go_enter Tryz.func25, Tryz.ntmps25
    go_wp2_with fail
    refine Hck.out.mono ?_
    rintro x w1 ⟨rfl, hb1⟩
    go_wp2
    go_ret2
    exact ⟨by rw [Hfin.out]; rfl, (hP.call hb1).1⟩
end Go.Proofs.YtjifejbibgimhaaGreatDoor

/- Plain: the reference's way to decode a terminal. No program here. -/
namespace Go.Proofs.YtjifejbibgimhaaGreatDoor
open Go.RowKit

def refPiece (bs : List UInt8) : List UInt8 × List UInt8 :=
  if (refTake bs).1 < 0 ∨ ((refTake bs).2.length : Int) < (refTake bs).1 then ([], []) else ((refTake bs).2.take (refTake bs).1.toNat, (refTake bs).2.drop (refTake bs).1.toNat)
theorem refPiece_enc (s rest : List UInt8) (h : s.length < 9223372036854775808) : refPiece (txt s ++ rest) = (s, rest) := by
  unfold refPiece txt
  rw [List.append_assoc, refTake_enc _ h]
  simp only
  rw [if_neg (by simp; omega)]
  simp
def refPieces : Nat → List UInt8 → List (List UInt8) × List UInt8
  | 0, rest => ([], rest)
  | k + 1, rest => ((refPieces k rest).1 ++ [(refPiece (refPieces k rest).2).1], (refPiece (refPieces k rest).2).2)
theorem refPieces_len : ∀ k rest, (refPieces k rest).1.length = k
  | 0, _ => rfl
  | k + 1, rest => by simp [refPieces, refPieces_len k rest]
theorem refPieces_enc (l : List (List UInt8)) (rest : List UInt8) (hl : ∀ s ∈ l, s.length < 9223372036854775808) : ∀ k, k ≤ l.length → refPieces k (flat l ++ rest) = (l.take k, flat (l.drop k) ++ rest)
  | 0, _ => by simp [refPieces]
  | k + 1, hk => by
    have ih := refPieces_enc l rest hl k (by omega)
    have hd : l.drop k = l[k] :: l.drop (k + 1) := List.drop_eq_getElem_cons (by omega)
    have ht : l.take (k + 1) = l.take k ++ [l[k]] := by rw [List.take_succ_eq_append_getElem (by omega)]
    have hx := hl _ (List.getElem_mem (by omega : k < l.length))
    simp only [refPieces, ih]
    rw [hd, flat_cons, List.append_assoc, refPiece_enc _ _ hx, ht]
theorem refPiece_len (bs : List UInt8) : (refPiece bs).1.length ≤ bs.length ∧ (refPiece bs).2.length ≤ bs.length := by
  have h1 : (refTake bs).2.length ≤ bs.length := by
    unfold refTake
    split
    · simp
    · simp
  unfold refPiece
  split
  · simp
  · simp only [List.length_take, List.length_drop]
    omega
theorem refPieces_le (bs : List UInt8) : ∀ k, (∀ s ∈ (refPieces k bs).1, s.length ≤ bs.length) ∧ (refPieces k bs).2.length ≤ bs.length
  | 0 => by simp [refPieces]
  | k + 1 => by
    obtain ⟨h1, h2⟩ := refPieces_le bs k
    have h3 := refPiece_len (refPieces k bs).2
    refine ⟨fun s hs => ?_, ?_⟩
    · simp only [refPieces, List.mem_append, List.mem_singleton] at hs
      rcases hs with hs | hs
      · exact h1 s hs
      · rw [hs]; omega
    · simp only [refPieces]; omega
/-- what the reference's Decode returns -/
def refTermDec (bs : List UInt8) : Option (Int × List UInt8 × List (List UInt8) × List UInt8) :=
  let a := refTake bs
  let b := refPiece a.2
  let n := refTake b.2
  let d := refPieces n.1.toNat n.2
  let s := refPiece d.2
  if n.1 < 0 ∨ 16 < n.1 then none
  else if termCheck a.1 b.1 d.1 s.1.length ≠ 0 ∨ termEnc a.1 b.1 d.1 s.1 ≠ bs ∨ s.2 ≠ [] then none else some (a.1, b.1, d.1, s.1)
theorem refTermDec_some {bs : List UInt8} {e : Int} {ses : List UInt8} {ty : List (List UInt8)} {scr : List UInt8} : refTermDec bs = some (e, ses, ty, scr) ↔ termCheck e ses ty scr.length = 0 ∧ bs = termBytes e ses ty scr := by
  constructor
  · intro h
    unfold refTermDec at h
    simp only at h
    split at h
    · cases h
    · split at h
      · cases h
      · rename_i hc
        simp only [Option.some.injEq, Prod.mk.injEq] at h
        obtain ⟨h1, h2, h3, h4⟩ := h
        rw [h1, h2, h3, h4] at hc
        have hk : termCheck e ses ty scr.length = 0 := Classical.byContradiction fun q => hc (.inl q)
        have hb : termEnc e ses ty scr = bs := Classical.byContradiction fun q => hc (.inr (.inl q))
        unfold termEnc at hb
        rw [if_pos hk] at hb
        exact ⟨hk, hb.symm⟩
  · rintro ⟨hck, rfl⟩
    obtain ⟨h1, h2, h3, h4, h5, h6⟩ := termCheck_ok.1 hck
    have hs := valid_len h2
    have hl : ∀ s ∈ ty, s.length ≤ 1024 := fun s hs => lineE_len (linesE_ok.1 h4 s hs)
    obtain ⟨e', rfl⟩ := Int.eq_ofNat_of_zero_le h1.1
    have q : termEnc e' ses ty scr = termBytes e' ses ty scr := by unfold termEnc; rw [if_pos hck]
    have e0 : termBytes e' ses ty scr = natBytes e' ++ (txt ses ++ (natBytes ty.length ++ (flat ty ++ (txt scr ++ [])))) := by simp [termBytes]
    unfold refTermDec
    rw [e0]
    rw [refTake_enc _ (by omega)]
    simp only
    rw [refPiece_enc _ _ (by omega)]
    simp only
    rw [refTake_enc _ (by omega)]
    simp only [Int.toNat_natCast]
    rw [refPieces_enc ty _ (fun s hs => by have := hl s hs; omega) _ (Nat.le_refl _)]
    simp only [List.take_length, List.drop_length]
    rw [show flat [] ++ (txt scr ++ []) = txt scr ++ [] from rfl, refPiece_enc _ _ (by omega)]
    simp only
    rw [if_neg (by omega), if_neg (by rw [q, e0]; simp [hck])]
theorem refTermDec_eq (bs : List UInt8) : refTermDec bs = (termDec bs).map fun p => ((p.1 : Int), p.2.1, p.2.2.1, p.2.2.2) := by
  cases h : refTermDec bs with
  | none =>
    cases h2 : termDec bs with
    | none => rfl
    | some p =>
      obtain ⟨e, r, w, t⟩ := p
      have := termDec_some.1 h2
      rw [refTermDec_some.2 this] at h
      cases h
  | some p =>
    obtain ⟨e, r, w, t⟩ := p
    obtain ⟨hck, hb⟩ := refTermDec_some.1 h
    obtain ⟨h1, _⟩ := termCheck_ok.1 hck
    obtain ⟨e', rfl⟩ := Int.eq_ofNat_of_zero_le h1.1
    rw [termDec_some.2 ⟨hck, hb⟩]
    rfl
end Go.Proofs.YtjifejbibgimhaaGreatDoor

/- replevinref36: take, piece, Decode. -/
namespace Go.Proofs.YtjifejbibgimhaaGreatDoor
open Go.RowKit

set_option maxRecDepth 100000 in
set_option maxHeartbeats 400000 in
theorem take36_any (l : List UInt8) (w : World) (hs : l.length ≤ 1000000000) :
    Calls Tryz.prog 64 #[.string (str l)] w fun x w' =>
      x = .returned (.tuple #[.int .i64 (refTake l).1, .string (str (refTake l).2)]) ∧ Below w.heap.size w w' := by
  have hsz := str_size l
  have hgs := groupsFrom_size l 0 0
  obtain ⟨g, hg⟩ : ∃ g, g = groupsFrom 0 0 l := ⟨_, rfl⟩
  have hp : ∀ v w', Sees w' 1 v l.length (l.map bval) → Calls Tryz.prog 90 #[v] w' fun e w'' => e = .returned (.tuple #[.int .i64 g.1, .int .i64 g.2.1, .int .i64 g.2.2]) ∧ w' = w'' := fun v w' h => by rw [hg]; exact refParse_any v l w' h hs
  have Hp := Lib.hid hp; clear hp
  rw [← hg] at hgs
  have Hg := Lib.hid hg; clear hg
  by_cases he : g.2.2 = 0
  · have hfin : refTake l = ((g.1 : Int), l.drop g.2.1) := by unfold refTake; rw [← Hg.out, if_neg (by simp [he])]
    have Hfin := Lib.hid hfin; clear hfin
    have he' : ((g.2.2 : Int) == 0) = true := by simp [he]
    have he'' : ((g.2.2 : Int) != 0) = false := by simp [he]
    have He := Lib.hid he; clear he
    go_enter Tryz.func64, Tryz.ntmps64
    go_wp2_with (with_reducible refine wpList_bytes_of_string (o := ⟨some 9, _, _, _, _, _⟩) _ rfl _ _ 5 _ rfl Tryz.underlying9 Tryz.underlying81 Tryz.underlying5 (str l) rfl ?_)
    intro cap w1 hcap hsee hb1 hsz1
    rw [str_data] at hsee
    go_wp2_with (go_at_call 90; refine (Hp.out _ _ hsee).mono ?_; rintro e w2 ⟨rfl, rfl⟩)
    go_quiet (fail)
    go_wp2
    go_ret2
    refine ⟨?_, hb1.trans (below_drewN _ _ _)⟩
    rw [Hfin.out]
    have e1 : (str l).extract g.2.1 l.length = str (l.drop g.2.1) := by rw [str_extract, List.take_of_length_le (by rw [List.length_drop]; exact Nat.le_refl _)]
    show Ending.returned (.tuple #[.int .i64 g.1, .string _]) = _
    rw [e1]
  · have hfin : refTake l = ((-1 : Int), []) := by unfold refTake; rw [← Hg.out, if_pos he]
    have Hfin := Lib.hid hfin; clear hfin
    have he' : ((g.2.2 : Int) == 0) = false := by simp; omega
    have he'' : ((g.2.2 : Int) != 0) = true := by simp; omega
    have He := Lib.hid he; clear he
    go_enter Tryz.func64, Tryz.ntmps64
    go_wp2_with (with_reducible refine wpList_bytes_of_string (o := ⟨some 9, _, _, _, _, _⟩) _ rfl _ _ 5 _ rfl Tryz.underlying9 Tryz.underlying81 Tryz.underlying5 (str l) rfl ?_)
    intro cap w1 hcap hsee hb1 hsz1
    rw [str_data] at hsee
    go_wp2_with (go_at_call 90; refine (Hp.out _ _ hsee).mono ?_; rintro e w2 ⟨rfl, rfl⟩)
    go_ret2
    refine ⟨?_, hb1⟩
    rw [Hfin.out]
    rfl


theorem refTake_le (bs : List UInt8) : (refTake bs).2.length ≤ bs.length := by
  unfold refTake; split
  · simp
  · simp

set_option maxRecDepth 100000 in
set_option maxHeartbeats 800000 in
theorem piece36_any (l : List UInt8) (w : World) (hs : l.length ≤ 1000000000) :
    Calls Tryz.prog 65 #[.string (str l)] w fun x w' => x = .returned (.tuple #[.string (str (refPiece l).1), .string (str (refPiece l).2)]) ∧ Below w.heap.size w w' := by
  have hta := fun w => take36_any l w hs
  obtain ⟨a, ha⟩ : ∃ a, a = refTake l := ⟨_, rfl⟩
  have hal : a.2.length ≤ 1000000000 := by rw [ha]; exact Nat.le_trans (refTake_le l) hs
  have hp : refPiece l = if a.1 < 0 ∨ (a.2.length : Int) < a.1 then ([], []) else (a.2.take a.1.toNat, a.2.drop a.1.toNat) := by unfold refPiece; rw [ha]
  rw [← ha] at hta
  obtain ⟨n, rest⟩ := a
  simp only at hta hal hp
  have Ht := Lib.hid hta; clear hta ha
  have hz := str_size rest
  by_cases h0 : n < 0
  · have hf : refPiece l = ([], []) := by rw [hp, if_pos (.inl h0)]
    have Hf := Lib.hid hf; clear hf hp
    go_enter Tryz.func65, Tryz.ntmps65
    go_wp2_with (go_at_call 64; refine (Ht.out _).mono ?_; rintro x w1 ⟨rfl, hb1⟩)
    go_ret2
    exact ⟨by rw [Hf.out] <;> rfl, hb1⟩
  · obtain ⟨N, rfl⟩ := Int.eq_ofNat_of_zero_le (by omega : 0 ≤ n)
    by_cases h1 : rest.length < N
    · have hf : refPiece l = ([], []) := by rw [hp, if_pos (.inr (by omega))]
      have Hf := Lib.hid hf; clear hf hp
      have q0 : decide ((N : Int) < 0) = false := decide_eq_false (by omega)
      have q1 : (rest.length : Int) < N := by omega
      clear h0
      go_enter Tryz.func65, Tryz.ntmps65
      go_wp2_with (go_at_call 64; refine (Ht.out _).mono ?_; rintro x w1 ⟨rfl, hb1⟩)
      go_ret2
      exact ⟨by rw [Hf.out] <;> rfl, hb1⟩
    · have hf : refPiece l = (rest.take N, rest.drop N) := by rw [hp, if_neg (by omega)]; rfl
      have Hf := Lib.hid hf; clear hf hp
      have q0 : decide ((N : Int) < 0) = false := decide_eq_false (by omega)
      have q1 : decide ((rest.length : Int) < N) = false := by simp; omega
      have q2 : (N : Int) ≤ rest.length := by omega
      have e1 : (str rest).extract 0 N = str (rest.take N) := by rw [str_extract]; rfl
      have e2 : (str rest).extract N rest.length = str (rest.drop N) := by rw [str_extract, List.take_of_length_le (by rw [List.length_drop]; exact Nat.le_refl _)]
      clear h0
      go_enter Tryz.func65, Tryz.ntmps65
      go_wp2_with (go_at_call 64; refine (Ht.out _).mono ?_; rintro x w1 ⟨rfl, hb1⟩)
      go_quiet (fail)
      go_wp2
      go_ret2
      exact ⟨by rw [Hf.out] <;> rfl, hb1.trans (below_drewN _ _ _)⟩

/-- the result's variable and the terminal, of a type -/
structure DBk (τ : TypeId) (H T : Nat) (w : World) (cs : Array Value) : Prop where
  out : Blk w H #[.int .i64 0, .string ⟨#[]⟩, .slice none 0 0, .string ⟨#[]⟩] τ
  tt : Blk w T cs τ
theorem DBk.only {τ : TypeId} {H T : Nat} {w w' : World} {cs : Array Value} {ts : List TypeId} (h : DBk τ H T w cs) (ho : Only ts w w') (ht : τ ∉ ts) : DBk τ H T w' cs := ⟨ho.blk h.out ht, ho.blk h.tt ht⟩
theorem DBk.below {τ : TypeId} {H T : Nat} {w w' : World} {cs : Array Value} (h : DBk τ H T w cs) (hb : Below w.heap.size w w') : DBk τ H T w' cs := ⟨h.out.below hb h.out.lt, h.tt.below hb h.tt.lt⟩
theorem DBk.set {τ : TypeId} {H T : Nat} {w : World} {cs : Array Value} (h : DBk τ H T w cs) (hne : H ≠ T) (j : Nat) (v : Value) : DBk τ H T (w.setCell ⟨T, j, none⟩ v) (cs.setIfInBounds j v) :=
  ⟨h.out.setOther (a := ⟨T, j, none⟩) hne v, h.tt.set j v⟩

/-- what the reference's Decode returns -/
def RefDecPost (l : List UInt8) (w : World) (x : Ending) (w' : World) : Prop :=
  Below w.heap.size w w' ∧
  match refTermDec l with
  | none => x = .returned (.tuple #[termV 0 [] (.slice none 0 0) [], .int .i64 3])
  | some q => ∃ tv, x = .returned (.tuple #[termV q.1 q.2.1 tv q.2.2.2, .int .i64 0]) ∧ w'.ownsRow w.heap.size 9 1 tv q.2.2.1.length (q.2.2.1.map sv)

set_option maxRecDepth 100000 in
set_option maxHeartbeats 3200000 in
theorem refTermDecode_any (l : List UInt8) (w : World) (hs : l.length ≤ 1000000000) : Calls Tryz.prog 27 #[.string (str l)] w (RefDecPost l w) := by
  obtain ⟨a, ha⟩ : ∃ a, a = refTake l := ⟨_, rfl⟩
  obtain ⟨b, hb⟩ : ∃ b, b = refPiece a.2 := ⟨_, rfl⟩
  obtain ⟨n, hn⟩ : ∃ n, n = refTake b.2 := ⟨_, rfl⟩
  obtain ⟨d, hd⟩ : ∃ d, d = refPieces n.1.toNat n.2 := ⟨_, rfl⟩
  obtain ⟨s, hse⟩ : ∃ s, s = refPiece d.2 := ⟨_, rfl⟩
  have hdec : refTermDec l = if n.1 < 0 ∨ 16 < n.1 then none else if termCheck a.1 b.1 d.1 s.1.length ≠ 0 ∨ termEnc a.1 b.1 d.1 s.1 ≠ l ∨ s.2 ≠ [] then none else some (a.1, b.1, d.1, s.1) := by
    unfold refTermDec; simp only [hse, hd, hn, hb, ha]
  have la : a.2.length ≤ 1000000000 := by rw [ha]; exact Nat.le_trans (refTake_le _) hs
  have lb := refPiece_len a.2
  rw [← hb] at lb
  have lb1 : b.1.length ≤ 1000000000 := Nat.le_trans lb.1 la
  have lb2 : b.2.length ≤ 1000000000 := Nat.le_trans lb.2 la
  have ln : n.2.length ≤ 1000000000 := by rw [hn]; exact Nat.le_trans (refTake_le _) lb2
  have ld := refPieces_le n.2
  have ldd := ld n.1.toNat
  rw [← hd] at ldd
  have ld1 : ∀ x ∈ d.1, x.length ≤ 9223372036854775807 := fun x hx => by have := ldd.1 x hx; omega
  have ld2 : d.2.length ≤ 1000000000 := Nat.le_trans ldd.2 ln
  have lds := refPiece_len d.2
  rw [← hse] at lds
  have ls1 : s.1.length ≤ 9223372036854775807 := by omega
  have hdn : d.1.length = n.1.toNat := by rw [hd]; exact refPieces_len _ _
  have ta := fun w => take36_any l w hs
  rw [← ha] at ta
  have tb := fun w => piece36_any a.2 w la
  rw [← hb] at tb
  have tn := fun w => take36_any b.2 w lb2
  rw [← hn] at tn
  have ts := fun w => piece36_any d.2 w ld2
  rw [← hse] at ts
  have Ta := Lib.hid ta; clear ta
  have Tb := Lib.hid tb; clear tb
  have Tn := Lib.hid tn; clear tn
  have Ts := Lib.hid ts; clear ts
  have Ha := Lib.hid ha; clear ha
  have Hb := Lib.hid hb; clear hb
  have Hn := Lib.hid hn; clear hn
  have Hd := Lib.hid hd; clear hd
  have Hse := Lib.hid hse; clear hse
  have Hdec := Lib.hid hdec; clear hdec
  have Hld := Lib.hid ld; clear ld
  have Hld1 := Lib.hid ld1; clear ld1
  have Hdn := Lib.hid hdn; clear hdn
  clear ldd lds lb
  have hz0 := Blk.new w #[.int .i64 0, .string ⟨#[]⟩, .slice none 0 0, .string ⟨#[]⟩] 44
  have hz1 : DBk 44 w.heap.size (w.heap.size + 1) ((w.alloc (.cells #[.int .i64 0, .string ⟨#[]⟩, .slice none 0 0, .string ⟨#[]⟩] 44)).alloc (.cells #[.int .i64 0, .string ⟨#[]⟩, .slice none 0 0, .string ⟨#[]⟩] 44)) #[.int .i64 0, .string ⟨#[]⟩, .slice none 0 0, .string ⟨#[]⟩] := by
    refine ⟨hz0.alloc _, ?_⟩
    have := Blk.new (w.alloc (.cells #[.int .i64 0, .string ⟨#[]⟩, .slice none 0 0, .string ⟨#[]⟩] 44)) #[.int .i64 0, .string ⟨#[]⟩, .slice none 0 0, .string ⟨#[]⟩] 44
    rwa [World.size_alloc] at this
  have hP1 := ((Past.refl w).alloc (.cells #[.int .i64 0, .string ⟨#[]⟩, .slice none 0 0, .string ⟨#[]⟩] 44)).alloc (.cells #[.int .i64 0, .string ⟨#[]⟩, .slice none 0 0, .string ⟨#[]⟩] 44)
  have hHT : w.heap.size < w.heap.size + 1 := Nat.lt_succ_self _
  have hsz := str_size l
  clear hz0
  go_enter Tryz.func27, Tryz.ntmps27
  go_wp2_with fail
  refine (Ta.out _).mono ?_
  rintro x w1 ⟨rfl, hb1⟩
  have hD1 := hz1.below hb1
  have hPa := hP1.call hb1
  obtain ⟨p0, p1, p2, p3, f0, f1, f2, f3⟩ := hD1.tt.quad
  have hD2 := hD1.set (Nat.ne_of_lt hHT) 0 (.int .i64 a.1)
  have hP2 := hPa.set (p := ⟨w.heap.size + 1, 0, none⟩) (Nat.le_of_lt hHT) (.int .i64 a.1)
  clear hz1 hP1 hD1 hPa hb1
  go_wp2_with fail
  refine (Tb.out _).mono ?_
  rintro x w2 ⟨rfl, hb2⟩
  clear p0 p1 p2 p3 f0 f1 f2 f3
  have hD3 := hD2.below hb2
  have hPb := hP2.call hb2
  obtain ⟨p0, p1, p2, p3, f0, f1, f2, f3⟩ := hD3.tt.quad
  have hD4 := hD3.set (Nat.ne_of_lt hHT) 1 (.string (str b.1))
  have hP4 := hPb.set (p := ⟨w.heap.size + 1, 1, none⟩) (Nat.le_of_lt hHT) (.string (str b.1))
  clear hD2 hP2 hD3 hPb hb2
  go_wp2_with fail
  refine (Tn.out _).mono ?_
  rintro x w3 ⟨rfl, hb3⟩
  clear p0 p1 p2 p3 f0 f1 f2 f3
  have hD5 := hD4.below hb3
  have hP5 := hP4.call hb3
  clear hD4 hP4 hb3
  have hzero : ∀ (w' : World), Past w.heap.size w w' → refTermDec l = none → RefDecPost l w (.returned (.tuple #[termV 0 [] (.slice none 0 0) [], .int .i64 3])) w' := fun w' h1 h2 => ⟨h1.1, by rw [h2]⟩
  have Hzero := Lib.hid hzero; clear hzero
  by_cases hbad : n.1 < 0 ∨ 16 < n.1
  · have hfin : refTermDec l = none := by rw [Hdec.out, if_pos hbad]
    have Hfin := Lib.hid hfin; clear hfin
    obtain ⟨z0, z1, z2, z3, f0, f1, f2, f3⟩ := hD5.out.quad
    obtain ⟨q0, q1, q2, q3, _⟩ := hD5.out.stores4 (.int .i64 0) (.string ⟨#[]⟩) (.slice none 0 0) (.string ⟨#[]⟩)
    by_cases h0 : n.1 < 0
    · have k0 : decide (n.1 < 0) = true := by simp [h0]
      clear hbad
      go_wp2
      refine bodyPost_ret (v := .tuple #[.agg #[.int .i64 0, .string ⟨#[]⟩, .slice none 0 0, .string ⟨#[]⟩], .int .i64 3]) (by simp [results, Tryz.results27, go_sem, q0, q1, q2, q3]) rfl ?_
      exact Hzero.out _ (hP5.stores4 (Nat.le_refl _) _ _ _ _) Hfin.out
    · have k0 : decide (n.1 < 0) = false := by simp; omega
      have k1 : (16 : Int) < n.1 := by omega
      clear hbad
      go_wp2
      refine bodyPost_ret (v := .tuple #[.agg #[.int .i64 0, .string ⟨#[]⟩, .slice none 0 0, .string ⟨#[]⟩], .int .i64 3]) (by simp [results, Tryz.results27, go_sem, q0, q1, q2, q3]) rfl ?_
      exact Hzero.out _ (hP5.stores4 (Nat.le_refl _) _ _ _ _) Hfin.out
  · obtain ⟨N, hN⟩ := Int.eq_ofNat_of_zero_le (by omega : 0 ≤ n.1)
    have hN16 : N ≤ 16 := by omega
    have hdec2 : refTermDec l = if termCheck a.1 b.1 d.1 s.1.length ≠ 0 ∨ termEnc a.1 b.1 d.1 s.1 ≠ l ∨ s.2 ≠ [] then none else some (a.1, b.1, d.1, s.1) := by rw [Hdec.out, if_neg hbad]
    have Hdec2 := Lib.hid hdec2; clear hdec2
    have hdN : d = refPieces N n.2 := by rw [Hd.out, hN]; rfl
    have HdN := Lib.hid hdN; clear hdN
    have hdnN : d.1.length = N := by rw [Hdn.out, hN]; rfl
    have HdnN := Lib.hid hdnN; clear hdnN
    have k0 : decide ((N : Int) < 0) = false := decide_eq_false (by omega)
    have k1 : decide ((16 : Int) < (N : Int)) = false := by simp; omega
    rw [hN]
    clear hbad hN
    go_wp2
    go_loopg [5, 7] N (fun g s5 t wr => ∃ (k : Nat) (tv : Value), k ≤ N ∧ g = N - k ∧ t = .int .i64 k ∧ s5 = .string (str (refPieces k n.2).2) ∧ DBk 44 w.heap.size (w.heap.size + 1) wr #[.int .i64 a.1, .string (str b.1), tv, .string ⟨#[]⟩] ∧ wr.ownsRow w.heap.size 9 1 tv k ((refPieces k n.2).1.map sv) ∧ Past w.heap.size w wr)
    case atStart => exact ⟨0, _, Nat.zero_le _, rfl, rfl, rfl, hD5, World.ownsRow_nil _ _ _ _, hP5⟩
    case round =>
      obtain ⟨k, tv, hk, rfl, rfl, rfl, hD, hown, hP⟩ := hrel
      clear hD5 hP5
      obtain ⟨X, hX⟩ : ∃ X, X = refPieces k n.2 := ⟨_, rfl⟩
      have hXl : X.1.length = k := by rw [hX]; exact refPieces_len _ _
      have hX2 : X.2.length ≤ 1000000000 := by rw [hX]; exact Nat.le_trans (Hld.out k).2 ln
      by_cases hlt : k < N
      · have q0 : (k : Int) < N := by omega
        obtain ⟨Y, hY⟩ : ∃ Y, Y = refPiece X.2 := ⟨_, rfl⟩
        have hXY : Hid (refPieces (k + 1) n.2 = (X.1 ++ [Y.1], Y.2)) := by show _ = _; simp only [refPieces, ← hX, hY]
        have hpi := fun w => piece36_any X.2 w hX2
        rw [← hY] at hpi
        rw [← hX] at hown ⊢
        have Hpi := Lib.hid hpi; clear hpi hX hY
        have HXl := Lib.hid hXl; clear hXl
        go_wp2_with (first
          | (go_at_call 65; refine (Hpi.out _).mono ?_; rintro x w6 ⟨rfl, hb6⟩; have hD6 := (hD.below hb6).below (below_alloc w6 (.cells #[.string (str Y.1)] 9)); have hown6 := owns_below (owns_below hown hb6) (below_alloc w6 (.cells #[.string (str Y.1)] 9)); have A2 := sees_new w6 #[.string (str Y.1)] 9 (0, 0) 1 1 1 rfl (Nat.le_refl _); obtain ⟨x0, x1, x2, x3, _, _, _, _⟩ := (hD.below hb6).tt.quad; have hP6 := (hP.call hb6).alloc (.cells #[.string (str Y.1)] 9); have hlt6 := hD6.tt.lt)
          | (at_builtin; (refine wpList_append_where _ rfl _ _ 22 rfl w.heap.size 9 (.string ⟨#[]⟩) 1 16 Tryz.underlying22 Tryz.infoStr rfl (by decide) hown6 rfl A2 rfl (by simp [Value.oneCell']) ?q1 ?q2 ?q3 ?_); (case q1 => unfold maxLen; omega); (case q2 => omega); (case q3 => have := hP6.2; omega); intro v7 w7 hown7 hg7 hwh7 hnil7; obtain ⟨av7, cv7, rfl⟩ := owns_slice hown7; have ho7 := Only.of_grown hown6 hg7; have hD7 := hD6.only ho7 (by decide); obtain ⟨y0, y1, y2, y3, fz0, fz1, fz2, fz3⟩ := hD7.tt.quad))
        go_roundg (N - (k + 1))
        case measure => omega
        case rel =>
          refine ⟨k + 1, .slice av7 (k + 1) cv7, by omega, rfl, by go_num, by rw [hXY.out], hD7.set (Nat.ne_of_lt hHT) 2 _, ?_, ?_⟩
          · rw [hXY.out]; simpa [sv] using owns_set hown7 hD7.tt (by decide) (.slice av7 (k + 1) cv7)
          · exact (hP6.grown hg7 hown6).set (Nat.le_of_lt hHT) _
      · obtain rfl : k = N := by omega
        have q0 : decide ((k : Int) < (k : Int)) = false := by simp
        rw [← HdN.out] at hX hown ⊢
        rw [hX] at hX2
        clear hX HdN
        obtain ⟨av, cv, rfl⟩ := owns_slice hown
        obtain ⟨tv0, tv1, tv2, tv3, _, _, _, _⟩ := hD.tt.quad
        go_wp2_with fail
        refine (Ts.out _).mono ?_
        rintro x w7 ⟨rfl, hb7⟩
        have hD7 := hD.below hb7
        have hown7 := owns_below hown hb7
        have hP7 := hP.call hb7
        clear tv0 tv1 tv2 tv3 hD hown hP hb7
        obtain ⟨y0, y1, y2, y3, fz0, fz1, fz2, fz3⟩ := hD7.tt.quad
        have hD8 : DBk 44 w.heap.size (w.heap.size + 1) (w7.setCell ⟨w.heap.size + 1, 3, none⟩ (.string (str s.1))) #[.int .i64 a.1, .string (str b.1), .slice av k cv, .string (str s.1)] := hD7.set (Nat.ne_of_lt hHT) 3 (.string (str s.1))
        have hown8 := owns_set hown7 hD7.tt (by decide) (j := 3) (.string (str s.1))
        have hP8 := hP7.set (p := ⟨w.heap.size + 1, 3, none⟩) (Nat.le_of_lt hHT) (.string (str s.1))
        obtain ⟨r0, r1, r2, r3, _, _, _, _⟩ := hD8.tt.quad
        have hen := refTermEncode_any a.1 b.1 (.slice av k cv) d.1 s.1 _ (by rw [HdnN.out]; exact sees_of_owns hown8) lb1 ls1 (by have := HdnN.out; omega) Hld1.out
        unfold termV at hen
        have Hen := Lib.hid hen; clear hen hD7 hown7 hP7
        go_wp2_with fail
        refine Hen.out.mono ?_
        rintro x w9 ⟨rfl, hb9⟩
        have hD9 := hD8.below hb9
        have hown9 := owns_below hown8 hb9
        have hP9 := hP8.call hb9
        clear hD8 hown8 hP8 hb9 y0 y1 y2 y3 fz0 fz1 fz2 fz3 r0 r1 r2 r3 Hen
        obtain ⟨p0, p1, p2, p3, _, _, _, _⟩ := hD9.tt.quad
        obtain ⟨z0, z1, z2, z3, f0, f1, f2, f3⟩ := hD9.out.quad
        obtain ⟨CK, hCK⟩ : ∃ c, c = termCheck a.1 b.1 d.1 s.1.length := ⟨_, rfl⟩
        obtain ⟨EN, hEN⟩ : ∃ c, c = termEnc a.1 b.1 d.1 s.1 := ⟨_, rfl⟩
        have hdec3 : refTermDec l = if CK ≠ 0 ∨ EN ≠ l ∨ s.2 ≠ [] then none else some (a.1, b.1, d.1, s.1) := by rw [hCK, hEN]; exact Hdec2.out
        rw [← hCK, ← hEN]
        have Hdec3 := Lib.hid hdec3; clear hdec3 hCK hEN
        have lz := str_size s.2
        by_cases hok : CK = 0 ∧ EN = l ∧ s.2 = []
        · obtain ⟨h1, h2, h3⟩ := hok
          have Hfin : Hid (refTermDec l = some (a.1, b.1, d.1, s.1)) := by show _ = _; rw [Hdec3.out, if_neg (by simp [h1, h2, h3])]
          have k2 : ((CK : Int) != 0) = false := by simp [h1]
          have k2' : ((CK : Int) == 0) = true := by simp [h1]
          have k3 : ((str EN).toList == (str l).toList) = true := by simp [h2]
          have k4 := str_empty h3
          obtain ⟨q0, q1, q2, q3, _, hoq⟩ := hD9.out.stores4 (.int .i64 a.1) (.string (str b.1)) (.slice av k cv) (.string (str s.1))
          have hownq := hoq.owns hown9 (by decide)
          clear h1 h2 h3
          go_wp2
          refine bodyPost_ret (v := .tuple #[termV a.1 b.1 (.slice av k cv) s.1, .int .i64 0]) (by simp [results, Tryz.results27, go_sem, q0, q1, q2, q3, termV]) rfl ⟨(hP9.stores4 (Nat.le_refl _) _ _ _ _).1, ?_⟩
          rw [Hfin.out]
          exact ⟨.slice av k cv, rfl, by rw [HdnN.out]; exact hownq⟩
        · have hfin : refTermDec l = none := by
            rw [Hdec3.out, if_pos]
            by_cases h1 : CK = 0
            · by_cases h2 : EN = l
              · exact .inr (.inr fun h3 => hok ⟨h1, h2, h3⟩)
              · exact .inr (.inl h2)
            · exact .inl h1
          have Hfin := Lib.hid hfin; clear hfin
          obtain ⟨q0, q1, q2, q3, _⟩ := hD9.out.stores4 (.int .i64 0) (.string ⟨#[]⟩) (.slice none 0 0) (.string ⟨#[]⟩)
          by_cases h1 : CK = 0
          · have k2 : ((CK : Int) != 0) = false := by simp [h1]
            have k2' : ((CK : Int) == 0) = true := by simp [h1]
            by_cases h2 : EN = l
            · have k3 : ((str EN).toList == (str l).toList) = true := by simp [h2]
              have k4 := str_full (fun h3 => hok ⟨h1, h2, h3⟩)
              clear hok h1 h2
              go_wp2
              refine bodyPost_ret (v := .tuple #[.agg #[.int .i64 0, .string ⟨#[]⟩, .slice none 0 0, .string ⟨#[]⟩], .int .i64 3]) (by simp [results, Tryz.results27, go_sem, q0, q1, q2, q3]) rfl ?_
              exact Hzero.out _ (hP9.stores4 (Nat.le_refl _) _ _ _ _) Hfin.out
            · have k3 : ((str EN).toList == (str l).toList) = false := by simp [str_toList, h2]
              clear hok h1 h2
              go_wp2
              refine bodyPost_ret (v := .tuple #[.agg #[.int .i64 0, .string ⟨#[]⟩, .slice none 0 0, .string ⟨#[]⟩], .int .i64 3]) (by simp [results, Tryz.results27, go_sem, q0, q1, q2, q3]) rfl ?_
              exact Hzero.out _ (hP9.stores4 (Nat.le_refl _) _ _ _ _) Hfin.out
          · have k2 : ((CK : Int) != 0) = true := by simp; omega
            have k2' : ((CK : Int) == 0) = false := by simp; omega
            clear hok h1
            go_wp2
            refine bodyPost_ret (v := .tuple #[.agg #[.int .i64 0, .string ⟨#[]⟩, .slice none 0 0, .string ⟨#[]⟩], .int .i64 3]) (by simp [results, Tryz.results27, go_sem, q0, q1, q2, q3]) rfl ?_
            exact Hzero.out _ (hP9.stores4 (Nat.le_refl _) _ _ _ _) Hfin.out
end Go.Proofs.YtjifejbibgimhaaGreatDoor

/- replevinref36.Same, terminal.Equal. -/
namespace Go.Proofs.YtjifejbibgimhaaGreatDoor
open Go.RowKit

/-- are two terminals alike? -/
def sameB (e1 : Int) (s1 c1 : List UInt8) (t1 : List (List UInt8)) (e2 : Int) (s2 c2 : List UInt8) (t2 : List (List UInt8)) : Bool := decide (e1 = e2 ∧ s1 = s2 ∧ c1 = c2 ∧ t1 = t2)
theorem sameB_iff {e1 : Int} {s1 c1 : List UInt8} {t1 : List (List UInt8)} {e2 : Int} {s2 c2 : List UInt8} {t2 : List (List UInt8)} : sameB e1 s1 c1 t1 e2 s2 c2 t2 = true ↔ e1 = e2 ∧ s1 = s2 ∧ c1 = c2 ∧ t1 = t2 := by unfold sameB; exact decide_eq_true_iff
theorem sameB_no {e1 : Int} {s1 c1 : List UInt8} {t1 : List (List UInt8)} {e2 : Int} {s2 c2 : List UInt8} {t2 : List (List UInt8)} (h : ¬ (e1 = e2 ∧ s1 = s2 ∧ c1 = c2 ∧ t1 = t2)) : sameB e1 s1 c1 t1 e2 s2 c2 t2 = false := by unfold sameB; exact decide_eq_false h
theorem take_eq_succ {l m : List (List UInt8)} {k : Nat} {x y : List UInt8} (h : l.take k = m.take k) (hx : l[k]? = some x) (hy : m[k]? = some y) (hxy : x = y) : l.take (k + 1) = m.take (k + 1) := by
  obtain ⟨h1, e1⟩ := List.getElem?_eq_some_iff.1 hx
  obtain ⟨h2, e2⟩ := List.getElem?_eq_some_iff.1 hy
  rw [List.take_succ_eq_append_getElem h1, List.take_succ_eq_append_getElem h2, h, e1, e2, hxy]

set_option maxRecDepth 100000 in
set_option maxHeartbeats 1600000 in
theorem refSame_any (e1 : Int) (s1 : List UInt8) (v1 : Value) (t1 : List (List UInt8)) (c1 : List UInt8) (e2 : Int) (s2 : List UInt8) (v2 : Value) (t2 : List (List UInt8)) (c2 : List UInt8) (w : World)
    (h1 : Sees w 1 v1 t1.length (t1.map sv)) (h2 : Sees w 1 v2 t2.length (t2.map sv)) (hl : t1.length ≤ 1000000) :
    Calls Tryz.prog 30 #[termV e1 s1 v1 c1, termV e2 s2 v2 c2] w fun x w' => x = .returned (.bool (sameB e1 s1 c1 t1 e2 s2 c2 t2)) ∧ Below w.heap.size w w' := by
  obtain ⟨_, a1, d1, rfl, _, g1⟩ := sees_str h1
  obtain ⟨_, a2, d2, rfl, _, g2⟩ := sees_str h2
  have hg1 : ∀ i x, t1[i]? = some x → ∃ b off, a1 = some ⟨b, off, none⟩ ∧ b < w.heap.size ∧ w.cell? ⟨b, off + i, none⟩ = some (.string (str x)) := fun i x hx => by
    obtain ⟨hi, e⟩ := List.getElem?_eq_some_iff.1 hx
    obtain ⟨b, off, r1, r2, r3⟩ := g1 i hi hi
    exact ⟨b, off, r1, r2, by rw [r3, e]⟩
  have hg2 : ∀ i x, t2[i]? = some x → ∃ b off, a2 = some ⟨b, off, none⟩ ∧ b < w.heap.size ∧ w.cell? ⟨b, off + i, none⟩ = some (.string (str x)) := fun i x hx => by
    obtain ⟨hi, e⟩ := List.getElem?_eq_some_iff.1 hx
    obtain ⟨b, off, r1, r2, r3⟩ := g2 i hi hi
    exact ⟨b, off, r1, r2, by rw [r3, e]⟩
  have Hg1 := Lib.hid hg1; clear hg1 g1 h1
  have Hg2 := Lib.hid hg2; clear hg2 g2 h2
  have fin : ∀ (b : Bool) (w' : World), (b = true ↔ (e1 = e2 ∧ s1 = s2 ∧ c1 = c2 ∧ t1 = t2)) → Below w.heap.size w w' → (Ending.returned (.bool b) = .returned (.bool (sameB e1 s1 c1 t1 e2 s2 c2 t2)) ∧ Below w.heap.size w w') := fun b w' h hb => ⟨by
    congr 2
    cases b with
    | true => exact (sameB_iff.2 (h.1 rfl)).symm
    | false => exact (sameB_no (fun hx => by have := h.2 hx; cases this)).symm, hb⟩
  have Fin := Lib.hid fin; clear fin
  have hk1 : Blk ((w.alloc (.cells #[.int .i64 e1, .string (str s1), .slice a1 t1.length d1, .string (str c1)] 44)).alloc (.cells #[.int .i64 e2, .string (str s2), .slice a2 t2.length d2, .string (str c2)] 44)) w.heap.size #[.int .i64 e1, .string (str s1), .slice a1 t1.length d1, .string (str c1)] 44 := (Blk.new w _ _).alloc _
  have hk2 : Blk ((w.alloc (.cells #[.int .i64 e1, .string (str s1), .slice a1 t1.length d1, .string (str c1)] 44)).alloc (.cells #[.int .i64 e2, .string (str s2), .slice a2 t2.length d2, .string (str c2)] 44)) (w.heap.size + 1) #[.int .i64 e2, .string (str s2), .slice a2 t2.length d2, .string (str c2)] 44 := by
    have := Blk.new (w.alloc (.cells #[.int .i64 e1, .string (str s1), .slice a1 t1.length d1, .string (str c1)] 44)) #[.int .i64 e2, .string (str s2), .slice a2 t2.length d2, .string (str c2)] 44
    rwa [World.size_alloc] at this
  have hP := ((Past.refl w).alloc (.cells #[.int .i64 e1, .string (str s1), .slice a1 t1.length d1, .string (str c1)] 44)).alloc (.cells #[.int .i64 e2, .string (str s2), .slice a2 t2.length d2, .string (str c2)] 44)
  obtain ⟨x0, x1, x2, x3, _, _, _, _⟩ := hk1.quad
  obtain ⟨y0, y1, y2, y3, _, _, _, _⟩ := hk2.quad
  unfold termV
  by_cases he : e1 = e2
  · have k0 : (e1 == e2) = true := by simp [he]
    have k0' : (e1 != e2) = false := by simp [he]
    by_cases hs : s1 = s2
    · have k1 : ((str s1).toList == (str s2).toList) = true := by simp [hs]
      by_cases hc : c1 = c2
      · have k2 : ((str c1).toList == (str c2).toList) = true := by simp [hc]
        by_cases hn : t1.length = t2.length
        · have k3 : ((t1.length : Int) == (t2.length : Int)) = true := by simp [hn]
          have k3' : ((t1.length : Int) != (t2.length : Int)) = false := by simp [hn]
          have heq : ∀ w', Below w.heap.size w w' → t1 = t2 → _ := fun w' hb h => Fin.out true w' (by simp [he, hs, hc, h]) hb
          have hne : ∀ w', Below w.heap.size w w' → t1 ≠ t2 → _ := fun w' hb h => Fin.out false w' (by simp [h]) hb
          have Heq := Lib.hid heq; clear heq
          have Hne := Lib.hid hne; clear hne
          have Hn := Lib.hid hn
          clear he hs hc Fin hn
          go_enter Tryz.func30, Tryz.ntmps30
          go_wp2
          go_loopg [5] t1.length (fun g t wr => ∃ k : Nat, k ≤ t1.length ∧ g = t1.length - k ∧ t = .int .i64 k ∧ Hid (t1.take k = t2.take k) ∧ Past w.heap.size w wr ∧ Blk wr w.heap.size #[.int .i64 e1, .string (str s1), .slice a1 t1.length d1, .string (str c1)] 44 ∧ Blk wr (w.heap.size + 1) #[.int .i64 e2, .string (str s2), .slice a2 t2.length d2, .string (str c2)] 44)
          case atStart => exact ⟨0, Nat.zero_le _, rfl, rfl, Lib.hid (by simp), hP, hk1, hk2⟩
          case round =>
            obtain ⟨k, hk, rfl, rfl, hpre, hPr, hr1, hr2⟩ := hrel
            clear x0 x1 x2 x3 y0 y1 y2 y3 hk1 hk2 hP
            obtain ⟨x0, x1, x2, x3, _, _, _, _⟩ := hr1.quad
            obtain ⟨y0, y1, y2, y3, _, _, _, _⟩ := hr2.quad
            by_cases hlt : k < t1.length
            · obtain ⟨x, hx⟩ := get_s hlt
              obtain ⟨y, hy⟩ : ∃ y, t2[k]? = some y := get_s (by have := Hn.out; omega)
              obtain ⟨bx, ox, rfl, hbx, cx⟩ := Hg1.out k x hx
              obtain ⟨bY, oy, rfl, hby, cy⟩ := Hg2.out k y hy
              have cx2 : wr.cell? ⟨bx, ox + k, none⟩ = some (.string (str x)) := (hPr.1.cell (p := ⟨bx, ox + k, none⟩) hbx).trans cx
              have cy2 : wr.cell? ⟨bY, oy + k, none⟩ = some (.string (str y)) := (hPr.1.cell (p := ⟨bY, oy + k, none⟩) hby).trans cy
              have q0 : (k : Int) < t1.length := by omega
              have q1 : (k : Int) < t2.length := by have := Hn.out; omega
              by_cases hxy : x = y
              · have hn := Lib.hid (take_eq_succ hpre.out hx hy hxy)
                have k5 : ((str x).toList == (str y).toList) = true := by simp [hxy]
                clear hx hy cx cy hxy
                go_wp2_with fail
                go_quiet (fail)
                go_wp2
                go_roundg (t1.length - (k + 1))
                case measure => omega
                case rel => exact ⟨k + 1, by omega, rfl, by go_num, hn, hPr.drewN _, hr1.below (below_drewN _ _ _) hr1.lt, hr2.below (below_drewN _ _ _) hr2.lt⟩
              · have hne2 : Hid (t1 ≠ t2) := Lib.hid (fun h => hxy (by rw [h] at hx; rw [hx] at hy; exact Option.some.inj hy))
                have k5 : ((str x).toList == (str y).toList) = false := by simp [str_toList, hxy]
                clear hx hy cx cy hxy
                go_wp2_with fail
                go_quiet (fail)
                go_wp2
                go_ret
                exact Hne.out _ (hPr.drewN _).1 hne2.out
            · have q0 : decide ((k : Int) < t1.length) = false := by simp; omega
              have hall : Hid (t1 = t2) := by
                show _ = _
                have h := hpre.out
                rwa [List.take_of_length_le (by omega), List.take_of_length_le (by have := Hn.out; omega)] at h
              go_wp2
              go_ret
              exact Heq.out _ hPr.1 hall.out
        · have k3 : ((t1.length : Int) == (t2.length : Int)) = false := by simp; omega
          have k3' : ((t1.length : Int) != (t2.length : Int)) = true := by simp; omega
          have Hf := Lib.hid (Fin.out false _ (by simp; intro _ _ _ h; exact hn (by rw [h])) hP.1)
          clear Fin he hs hc hn
          go_enter Tryz.func30, Tryz.ntmps30
          go_wp2
          go_ret
          exact Hf.out
      · have k2 : ((str c1).toList == (str c2).toList) = false := by simp [str_toList, hc]
        have Hf := Lib.hid (Fin.out false _ (by simp [hc]) hP.1)
        clear Fin he hs hc
        go_enter Tryz.func30, Tryz.ntmps30
        go_wp2
        go_ret
        exact Hf.out
    · have k1 : ((str s1).toList == (str s2).toList) = false := by simp [str_toList, hs]
      have Hf := Lib.hid (Fin.out false _ (by simp [hs]) hP.1)
      clear Fin he hs
      go_enter Tryz.func30, Tryz.ntmps30
      go_wp2
      go_ret
      exact Hf.out
  · have k0 : (e1 == e2) = false := by simp [he]
    have k0' : (e1 != e2) = true := by simp [he]
    have Hf := Lib.hid (Fin.out false _ (by simp [he]) hP.1)
    clear Fin he
    go_enter Tryz.func30, Tryz.ntmps30
    go_wp2
    go_ret
    exact Hf.out
set_option maxRecDepth 100000 in
set_option maxHeartbeats 1600000 in
theorem eqStrs_any (v1 : Value) (t1 : List (List UInt8)) (v2 : Value) (t2 : List (List UInt8)) (w : World) (h1 : Sees w 1 v1 t1.length (t1.map sv)) (h2 : Sees w 1 v2 t2.length (t2.map sv)) (hl : t1.length ≤ 1000000) :
    Calls Tryz.prog 67 #[v1, v2] w fun x w' => x = .returned (.bool (decide (t1 = t2))) ∧ Below w.heap.size w w' := by
  obtain ⟨_, a1, d1, rfl, _, g1⟩ := sees_str h1
  obtain ⟨_, a2, d2, rfl, _, g2⟩ := sees_str h2
  have hg1 : ∀ i x, t1[i]? = some x → ∃ b off, a1 = some ⟨b, off, none⟩ ∧ b < w.heap.size ∧ w.cell? ⟨b, off + i, none⟩ = some (.string (str x)) := fun i x hx => by
    obtain ⟨hi, e⟩ := List.getElem?_eq_some_iff.1 hx
    obtain ⟨b, off, r1, r2, r3⟩ := g1 i hi hi
    exact ⟨b, off, r1, r2, by rw [r3, e]⟩
  have hg2 : ∀ i x, t2[i]? = some x → ∃ b off, a2 = some ⟨b, off, none⟩ ∧ b < w.heap.size ∧ w.cell? ⟨b, off + i, none⟩ = some (.string (str x)) := fun i x hx => by
    obtain ⟨hi, e⟩ := List.getElem?_eq_some_iff.1 hx
    obtain ⟨b, off, r1, r2, r3⟩ := g2 i hi hi
    exact ⟨b, off, r1, r2, by rw [r3, e]⟩
  have Hg1 := Lib.hid hg1; clear hg1 g1 h1
  have Hg2 := Lib.hid hg2; clear hg2 g2 h2
  have hP := Past.refl w
  by_cases hn : t1.length = t2.length
  · have k3 : ((t1.length : Int) == (t2.length : Int)) = true := by simp [hn]
    have k3' : ((t1.length : Int) != (t2.length : Int)) = false := by simp [hn]
    have Hn := Lib.hid hn
    clear hn
    go_enter Tryz.func67, Tryz.ntmps67
    go_wp2
    go_loopg [13] t1.length (fun g t wr => ∃ k : Nat, k ≤ t1.length ∧ g = t1.length - k ∧ t = .int .i64 k ∧ Hid (t1.take k = t2.take k) ∧ Past w.heap.size w wr)
    case atStart => exact ⟨0, Nat.zero_le _, rfl, rfl, Lib.hid (by simp), hP⟩
    case round =>
      obtain ⟨k, hk, rfl, rfl, hpre, hPr⟩ := hrel
      clear hP
      by_cases hlt : k < t1.length
      · obtain ⟨x, hx⟩ := get_s hlt
        obtain ⟨y, hy⟩ : ∃ y, t2[k]? = some y := get_s (by have := Hn.out; omega)
        obtain ⟨bx, ox, rfl, hbx, cx⟩ := Hg1.out k x hx
        obtain ⟨bY, oy, rfl, hby, cy⟩ := Hg2.out k y hy
        have cx2 : wr.cell? ⟨bx, ox + k, none⟩ = some (.string (str x)) := (hPr.1.cell (p := ⟨bx, ox + k, none⟩) hbx).trans cx
        have cy2 : wr.cell? ⟨bY, oy + k, none⟩ = some (.string (str y)) := (hPr.1.cell (p := ⟨bY, oy + k, none⟩) hby).trans cy
        have q0 : (k : Int) < t1.length := by omega
        have q1 : (k : Int) < t2.length := by have := Hn.out; omega
        by_cases hxy : x = y
        · have hn := Lib.hid (take_eq_succ hpre.out hx hy hxy)
          have k5 : ((str x).toList == (str y).toList) = true := by simp [hxy]
          clear hx hy cx cy hxy
          go_wp2_with fail
          go_quiet (fail)
          go_wp2
          go_roundg (t1.length - (k + 1))
          case measure => omega
          case rel => exact ⟨k + 1, by omega, rfl, by go_num, hn, hPr.drewN _⟩
        · have hne2 : Hid (t1 ≠ t2) := Lib.hid (fun h => hxy (by rw [h] at hx; rw [hx] at hy; exact Option.some.inj hy))
          have k5 : ((str x).toList == (str y).toList) = false := by simp [str_toList, hxy]
          clear hx hy cx cy hxy
          go_wp2_with fail
          go_quiet (fail)
          go_wp2
          go_ret
          exact ⟨by rw [decide_eq_false hne2.out]; rfl, (hPr.drewN _).1⟩
      · have q0 : decide ((k : Int) < t1.length) = false := by simp; omega
        have hall : Hid (t1 = t2) := by
          show _ = _
          have h := hpre.out
          rwa [List.take_of_length_le (by omega), List.take_of_length_le (by have := Hn.out; omega)] at h
        go_wp2
        go_ret
        exact ⟨by rw [decide_eq_true hall.out]; rfl, hPr.1⟩
  · have k3 : ((t1.length : Int) == (t2.length : Int)) = false := by simp; omega
    have k3' : ((t1.length : Int) != (t2.length : Int)) = true := by simp; omega
    have hf : Hid (decide (t1 = t2) = false) := by show _ = _; simp; intro h; exact hn (by rw [h])
    clear hn
    go_enter Tryz.func67, Tryz.ntmps67
    go_wp2
    go_ret
    exact ⟨by rw [hf.out]; rfl, hP.1⟩

set_option maxRecDepth 100000 in
set_option maxHeartbeats 1600000 in
theorem termEqual_any (e1 : Int) (s1 : List UInt8) (v1 : Value) (t1 : List (List UInt8)) (c1 : List UInt8) (e2 : Int) (s2 : List UInt8) (v2 : Value) (t2 : List (List UInt8)) (c2 : List UInt8) (w : World)
    (h1 : Sees w 1 v1 t1.length (t1.map sv)) (h2 : Sees w 1 v2 t2.length (t2.map sv)) (hl : t1.length ≤ 1000000) :
    Calls Tryz.prog 32 #[termV e1 s1 v1 c1, termV e2 s2 v2 c2] w fun x w' => x = .returned (.bool (sameB e1 s1 c1 t1 e2 s2 c2 t2)) ∧ Below w.heap.size w w' := by
  have hk1 : Blk ((w.alloc (.cells #[.int .i64 e1, .string (str s1), v1, .string (str c1)] 36)).alloc (.cells #[.int .i64 e2, .string (str s2), v2, .string (str c2)] 36)) w.heap.size #[.int .i64 e1, .string (str s1), v1, .string (str c1)] 36 := (Blk.new w _ _).alloc _
  have hk2 : Blk ((w.alloc (.cells #[.int .i64 e1, .string (str s1), v1, .string (str c1)] 36)).alloc (.cells #[.int .i64 e2, .string (str s2), v2, .string (str c2)] 36)) (w.heap.size + 1) #[.int .i64 e2, .string (str s2), v2, .string (str c2)] 36 := by
    have := Blk.new (w.alloc (.cells #[.int .i64 e1, .string (str s1), v1, .string (str c1)] 36)) #[.int .i64 e2, .string (str s2), v2, .string (str c2)] 36
    rwa [World.size_alloc] at this
  have hP := ((Past.refl w).alloc (.cells #[.int .i64 e1, .string (str s1), v1, .string (str c1)] 36)).alloc (.cells #[.int .i64 e2, .string (str s2), v2, .string (str c2)] 36)
  have hb2 : Below w.heap.size w ((w.alloc (.cells #[.int .i64 e1, .string (str s1), v1, .string (str c1)] 36)).alloc (.cells #[.int .i64 e2, .string (str s2), v2, .string (str c2)] 36)) := hP.1
  have hq := eqStrs_any v1 t1 v2 t2 _ (h1.below hb2) (h2.below hb2) hl
  have Hq := Lib.hid hq; clear hq
  obtain ⟨x0, x1, x2, x3, _, _, _, _⟩ := hk1.quad
  obtain ⟨y0, y1, y2, y3, _, _, _, _⟩ := hk2.quad
  clear h1 h2 hb2 hk1 hk2
  unfold termV
  by_cases he : e1 = e2
  · have k0 : (e1 == e2) = true := by simp [he]
    by_cases hs : s1 = s2
    · have k1 : ((str s1).toList == (str s2).toList) = true := by simp [hs]
      by_cases hc : c1 = c2
      · have k2 : ((str c1).toList == (str c2).toList) = true := by simp [hc]
        have hf : Hid (sameB e1 s1 c1 t1 e2 s2 c2 t2 = decide (t1 = t2)) := by show _ = _; unfold sameB; simp [he, hs, hc]
        clear he hs hc
        go_enter Tryz.func32, Tryz.ntmps32
        go_wp2_with (go_at_call 67; refine Hq.out.mono ?_; rintro x w3 ⟨rfl, hb3⟩)
        all_goals go_ret
        all_goals exact ⟨by rw [hf.out] <;> simp_all, (hP.call hb3).1⟩
      · have k2 : ((str c1).toList == (str c2).toList) = false := by simp [str_toList, hc]
        have hf : Hid (sameB e1 s1 c1 t1 e2 s2 c2 t2 = false) := sameB_no (by simp [hc])
        clear he hs hc
        go_enter Tryz.func32, Tryz.ntmps32
        go_wp2
        go_ret
        exact ⟨by rw [hf.out]; rfl, hP.1⟩
    · have k1 : ((str s1).toList == (str s2).toList) = false := by simp [str_toList, hs]
      have hf : Hid (sameB e1 s1 c1 t1 e2 s2 c2 t2 = false) := sameB_no (by simp [hs])
      clear he hs
      go_enter Tryz.func32, Tryz.ntmps32
      go_wp2
      go_ret
      exact ⟨by rw [hf.out]; rfl, hP.1⟩
  · have k0 : (e1 == e2) = false := by simp [he]
    have hf : Hid (sameB e1 s1 c1 t1 e2 s2 c2 t2 = false) := sameB_no (by simp [he])
    clear he
    go_enter Tryz.func32, Tryz.ntmps32
    go_wp2
    go_ret
    exact ⟨by rw [hf.out]; rfl, hP.1⟩
end Go.Proofs.YtjifejbibgimhaaGreatDoor

/- replevinlaw36: To, Of. -/
namespace Go.Proofs.YtjifejbibgimhaaGreatDoor
open Go.RowKit
attribute [local go_sem ↓] Go.wp_at_zero Go.wp_at_succ

set_option maxRecDepth 100000 in
set_option maxHeartbeats 1600000 in
theorem to36_any (e : Int) (ses : List UInt8) (v : Value) (ty : List (List UInt8)) (scr : List UInt8) (w : World) (h : Sees w 1 v ty.length (ty.map sv)) (hl : ty.length ≤ 20) :
    Calls Tryz.prog 24 #[termV e ses v scr] w fun x w' => ∃ tv, x = .returned (termV e ses tv scr) ∧ w'.ownsRow w.heap.size 9 1 tv ty.length (ty.map sv) ∧ Below w.heap.size w w' := by
  obtain ⟨_, ao, c, rfl, hc, g1⟩ := sees_str h
  have hg1 : ∀ i x, ty[i]? = some x → ∃ b off, ao = some ⟨b, off, none⟩ ∧ b < w.heap.size ∧ w.cell? ⟨b, off + i, none⟩ = some (.string (str x)) := fun i x hx => by
    obtain ⟨hi, e⟩ := List.getElem?_eq_some_iff.1 hx
    obtain ⟨b, off, r1, r2, r3⟩ := g1 i hi hi
    exact ⟨b, off, r1, r2, by rw [r3, e]⟩
  have Hg := Lib.hid hg1; clear hg1 g1 h
  have hk0 := Blk.new w #[.int .i64 e, .string (str ses), .slice ao ty.length c, .string (str scr)] 44
  have hP := (((Past.refl w).alloc (.cells #[.int .i64 e, .string (str ses), .slice ao ty.length c, .string (str scr)] 44)).alloc (.cells #[.int .i64 0, .string ⟨#[]⟩, .slice none 0 0, .string ⟨#[]⟩] 36)).alloc (.cells #[.int .i64 e, .string (str ses), .slice none 0 0, .string (str scr)] 36)
  obtain ⟨b0, b1, b2, b3, _, _, _, _⟩ := hk0.quad
  have hk1 := (hk0.alloc (.cells #[.int .i64 0, .string ⟨#[]⟩, .slice none 0 0, .string ⟨#[]⟩] 36)).alloc (.cells #[.int .i64 e, .string (str ses), .slice none 0 0, .string (str scr)] 36)
  have hD : DBk 36 (w.heap.size + 1) (w.heap.size + 2) (((w.alloc (.cells #[.int .i64 e, .string (str ses), .slice ao ty.length c, .string (str scr)] 44)).alloc (.cells #[.int .i64 0, .string ⟨#[]⟩, .slice none 0 0, .string ⟨#[]⟩] 36)).alloc (.cells #[.int .i64 e, .string (str ses), .slice none 0 0, .string (str scr)] 36)) #[.int .i64 e, .string (str ses), .slice none 0 0, .string (str scr)] := by
    have h1 := Blk.new (w.alloc (.cells #[.int .i64 e, .string (str ses), .slice ao ty.length c, .string (str scr)] 44)) #[.int .i64 0, .string ⟨#[]⟩, .slice none 0 0, .string ⟨#[]⟩] 36
    have h2 := Blk.new ((w.alloc (.cells #[.int .i64 e, .string (str ses), .slice ao ty.length c, .string (str scr)] 44)).alloc (.cells #[.int .i64 0, .string ⟨#[]⟩, .slice none 0 0, .string ⟨#[]⟩] 36)) #[.int .i64 e, .string (str ses), .slice none 0 0, .string (str scr)] 36
    simp only [World.size_alloc] at h1 h2
    exact ⟨h1.alloc _, h2⟩
  have hHT : w.heap.size + 1 < w.heap.size + 2 := Nat.lt_succ_self _
  unfold termV
  go_enter Tryz.func24, Tryz.ntmps24
  go_wp2
  go_loopg [4] ty.length (fun g t wr => ∃ (k : Nat) (tv : Value), k ≤ ty.length ∧ g = ty.length - k ∧ t = .int .i64 k ∧ Blk wr w.heap.size #[.int .i64 e, .string (str ses), .slice ao ty.length c, .string (str scr)] 44 ∧ DBk 36 (w.heap.size + 1) (w.heap.size + 2) wr #[.int .i64 e, .string (str ses), tv, .string (str scr)] ∧ wr.ownsRow w.heap.size 9 1 tv k ((ty.take k).map sv) ∧ Past w.heap.size w wr)
  case atStart => exact ⟨0, _, Nat.zero_le _, rfl, rfl, hk1, hD, World.ownsRow_nil _ _ _ _, hP⟩
  case round =>
    obtain ⟨k, tv, hk, rfl, rfl, hkx, hDr, hown, hPr⟩ := hrel
    clear hD hP hk1 hk0 b0 b1 b2 b3
    obtain ⟨b0, b1, b2, b3, _, _, _, _⟩ := hkx.quad
    obtain ⟨t0, t1, t2, t3, _, _, f2, _⟩ := hDr.tt.quad
    by_cases hlt : k < ty.length
    · obtain ⟨x, hx⟩ := get_s hlt
      obtain ⟨bx, ox, rfl, hbx, cx⟩ := Hg.out k x hx
      have cx2 : wr.cell? ⟨bx, ox + k, none⟩ = some (.string (str x)) := (hPr.1.cell (p := ⟨bx, ox + k, none⟩) hbx).trans cx
      have q0 : (k : Int) < ty.length := by omega
      have q1 : (k : Int) < 20 := by omega
      have htk : ty.take (k + 1) = ty.take k ++ [x] := by
        obtain ⟨h1, h2⟩ := List.getElem?_eq_some_iff.1 hx
        rw [List.take_succ_eq_append_getElem h1, h2]
      have Htk := Lib.hid htk; clear htk hx cx
      have hDx := hDr.below (Below.refl _ wr).drew
      have hownx := owns_below hown (Below.refl _ wr).drew
      have hkx' := hkx.below (Below.refl _ wr).drew hkx.lt
      have hPx := hPr.drew
      have hD6 := hDx.below (below_alloc wr.drew (.cells #[.string (str x)] 9))
      have hown6 := owns_below hownx (below_alloc wr.drew (.cells #[.string (str x)] 9))
      have A2 := sees_new wr.drew #[.string (str x)] 9 (0, 0) 1 1 1 rfl (Nat.le_refl _)
      have hltB := hDr.tt.lt
      obtain ⟨avt, cvt, rfl⟩ := owns_slice hown
      go_wp2_with fail
      go_region_law ((refine step_append_slice _ _ _ 22 rfl w.heap.size 9 (.string ⟨#[]⟩) 1 16 Tryz.underlying22 Tryz.infoStr rfl (by decide) hown6 rfl A2 rfl (by simp [Value.oneCell']) (by unfold maxLen; omega) (by omega) (by simp; omega) ?_; intro av7 cv7 w7 hown7 hg7; have ho7 := Only.of_grown hown6 hg7; have hD7 := hD6.only ho7 (by decide); obtain ⟨y0, y1, y2, y3, fz0, fz1, fz2, fz3⟩ := hD7.tt.quad))
      all_goals go_wp2
      all_goals go_roundg (ty.length - (k + 1))
      all_goals first
        | (case measure => omega)
        | (case rel =>
            refine ⟨k + 1, .slice av7 (k + 1) cv7, by omega, rfl, by go_num, ?_, hD7.set (Nat.ne_of_lt hHT) 2 _, ?_, ?_⟩
            · exact (ho7.blk (hkx'.below (below_alloc wr.drew (.cells #[.string (str x)] 9)) hkx'.lt) (by decide)).setOther (a := ⟨w.heap.size + 2, 2, none⟩) (by simp) _
            · rw [Htk.out]; simpa [sv] using owns_set hown7 hD7.tt (by decide) (.slice av7 (k + 1) cv7)
            · exact ((hPx.alloc (.cells #[.string (str x)] 9)).grown hg7 hown6).set (by simp; omega) _)
    · obtain rfl : k = ty.length := by omega
      have q0 : decide ((ty.length : Int) < (ty.length : Int)) = false := by simp
      rw [List.take_length] at hown
      obtain ⟨av, cv, rfl⟩ := owns_slice hown
      obtain ⟨z0, z1, z2, z3, f0, f1, f2', f3⟩ := hDr.out.quad
      obtain ⟨r0, r1, r2, r3, _, hoq⟩ := hDr.out.stores4 (.int .i64 e) (.string (str ses)) (.slice av ty.length cv) (.string (str scr))
      have hownq := hoq.owns hown (by decide)
      go_wp2
      refine bodyPost_ret (v := .agg #[.int .i64 e, .string (str ses), .slice av ty.length cv, .string (str scr)]) (by simp [results, Tryz.results24, go_sem, r0, r1, r2, r3]) rfl ⟨.slice av ty.length cv, rfl, hownq, (hPr.stores4 (Nat.le_succ _) _ _ _ _).1⟩

set_option maxRecDepth 100000 in
set_option maxHeartbeats 1600000 in
theorem of36_any (e : Int) (ses : List UInt8) (v : Value) (ty : List (List UInt8)) (scr : List UInt8) (w : World) (h : Sees w 1 v ty.length (ty.map sv)) (hl : ty.length ≤ 20) :
    Calls Tryz.prog 31 #[termV e ses v scr] w fun x w' => ∃ tv, x = .returned (termV e ses tv scr) ∧ w'.ownsRow w.heap.size 9 1 tv ty.length (ty.map sv) ∧ Below w.heap.size w w' := by
  obtain ⟨_, ao, c, rfl, hc, g1⟩ := sees_str h
  have hg1 : ∀ i x, ty[i]? = some x → ∃ b off, ao = some ⟨b, off, none⟩ ∧ b < w.heap.size ∧ w.cell? ⟨b, off + i, none⟩ = some (.string (str x)) := fun i x hx => by
    obtain ⟨hi, e⟩ := List.getElem?_eq_some_iff.1 hx
    obtain ⟨b, off, r1, r2, r3⟩ := g1 i hi hi
    exact ⟨b, off, r1, r2, by rw [r3, e]⟩
  have Hg := Lib.hid hg1; clear hg1 g1 h
  have hk0 := Blk.new w #[.int .i64 e, .string (str ses), .slice ao ty.length c, .string (str scr)] 36
  have hP := (((Past.refl w).alloc (.cells #[.int .i64 e, .string (str ses), .slice ao ty.length c, .string (str scr)] 36)).alloc (.cells #[.int .i64 0, .string ⟨#[]⟩, .slice none 0 0, .string ⟨#[]⟩] 44)).alloc (.cells #[.int .i64 e, .string (str ses), .slice none 0 0, .string (str scr)] 44)
  obtain ⟨b0, b1, b2, b3, _, _, _, _⟩ := hk0.quad
  have hk1 := (hk0.alloc (.cells #[.int .i64 0, .string ⟨#[]⟩, .slice none 0 0, .string ⟨#[]⟩] 44)).alloc (.cells #[.int .i64 e, .string (str ses), .slice none 0 0, .string (str scr)] 44)
  have hD : DBk 44 (w.heap.size + 1) (w.heap.size + 2) (((w.alloc (.cells #[.int .i64 e, .string (str ses), .slice ao ty.length c, .string (str scr)] 36)).alloc (.cells #[.int .i64 0, .string ⟨#[]⟩, .slice none 0 0, .string ⟨#[]⟩] 44)).alloc (.cells #[.int .i64 e, .string (str ses), .slice none 0 0, .string (str scr)] 44)) #[.int .i64 e, .string (str ses), .slice none 0 0, .string (str scr)] := by
    have h1 := Blk.new (w.alloc (.cells #[.int .i64 e, .string (str ses), .slice ao ty.length c, .string (str scr)] 36)) #[.int .i64 0, .string ⟨#[]⟩, .slice none 0 0, .string ⟨#[]⟩] 44
    have h2 := Blk.new ((w.alloc (.cells #[.int .i64 e, .string (str ses), .slice ao ty.length c, .string (str scr)] 36)).alloc (.cells #[.int .i64 0, .string ⟨#[]⟩, .slice none 0 0, .string ⟨#[]⟩] 44)) #[.int .i64 e, .string (str ses), .slice none 0 0, .string (str scr)] 44
    simp only [World.size_alloc] at h1 h2
    exact ⟨h1.alloc _, h2⟩
  have hHT : w.heap.size + 1 < w.heap.size + 2 := Nat.lt_succ_self _
  unfold termV
  go_enter Tryz.func31, Tryz.ntmps31
  go_wp2
  go_loopg [4] ty.length (fun g t wr => ∃ (k : Nat) (tv : Value), k ≤ ty.length ∧ g = ty.length - k ∧ t = .int .i64 k ∧ Blk wr w.heap.size #[.int .i64 e, .string (str ses), .slice ao ty.length c, .string (str scr)] 36 ∧ DBk 44 (w.heap.size + 1) (w.heap.size + 2) wr #[.int .i64 e, .string (str ses), tv, .string (str scr)] ∧ wr.ownsRow w.heap.size 9 1 tv k ((ty.take k).map sv) ∧ Past w.heap.size w wr)
  case atStart => exact ⟨0, _, Nat.zero_le _, rfl, rfl, hk1, hD, World.ownsRow_nil _ _ _ _, hP⟩
  case round =>
    obtain ⟨k, tv, hk, rfl, rfl, hkx, hDr, hown, hPr⟩ := hrel
    clear hD hP hk1 hk0 b0 b1 b2 b3
    obtain ⟨b0, b1, b2, b3, _, _, _, _⟩ := hkx.quad
    obtain ⟨t0, t1, t2, t3, _, _, f2, _⟩ := hDr.tt.quad
    by_cases hlt : k < ty.length
    · obtain ⟨x, hx⟩ := get_s hlt
      obtain ⟨bx, ox, rfl, hbx, cx⟩ := Hg.out k x hx
      have cx2 : wr.cell? ⟨bx, ox + k, none⟩ = some (.string (str x)) := (hPr.1.cell (p := ⟨bx, ox + k, none⟩) hbx).trans cx
      have q0 : (k : Int) < ty.length := by omega
      have q1 : (k : Int) < 20 := by omega
      have htk : ty.take (k + 1) = ty.take k ++ [x] := by
        obtain ⟨h1, h2⟩ := List.getElem?_eq_some_iff.1 hx
        rw [List.take_succ_eq_append_getElem h1, h2]
      have Htk := Lib.hid htk; clear htk hx cx
      have hDx := hDr.below (Below.refl _ wr).drew
      have hownx := owns_below hown (Below.refl _ wr).drew
      have hkx' := hkx.below (Below.refl _ wr).drew hkx.lt
      have hPx := hPr.drew
      have hD6 := hDx.below (below_alloc wr.drew (.cells #[.string (str x)] 9))
      have hown6 := owns_below hownx (below_alloc wr.drew (.cells #[.string (str x)] 9))
      have A2 := sees_new wr.drew #[.string (str x)] 9 (0, 0) 1 1 1 rfl (Nat.le_refl _)
      have hltB := hDr.tt.lt
      obtain ⟨avt, cvt, rfl⟩ := owns_slice hown
      go_wp2_with fail
      go_region_law ((refine step_append_slice _ _ _ 22 rfl w.heap.size 9 (.string ⟨#[]⟩) 1 16 Tryz.underlying22 Tryz.infoStr rfl (by decide) hown6 rfl A2 rfl (by simp [Value.oneCell']) (by unfold maxLen; omega) (by omega) (by simp; omega) ?_; intro av7 cv7 w7 hown7 hg7; have ho7 := Only.of_grown hown6 hg7; have hD7 := hD6.only ho7 (by decide); obtain ⟨y0, y1, y2, y3, fz0, fz1, fz2, fz3⟩ := hD7.tt.quad))
      all_goals go_wp2
      all_goals go_roundg (ty.length - (k + 1))
      all_goals first
        | (case measure => omega)
        | (case rel =>
            refine ⟨k + 1, .slice av7 (k + 1) cv7, by omega, rfl, by go_num, ?_, hD7.set (Nat.ne_of_lt hHT) 2 _, ?_, ?_⟩
            · exact (ho7.blk (hkx'.below (below_alloc wr.drew (.cells #[.string (str x)] 9)) hkx'.lt) (by decide)).setOther (a := ⟨w.heap.size + 2, 2, none⟩) (by simp) _
            · rw [Htk.out]; simpa [sv] using owns_set hown7 hD7.tt (by decide) (.slice av7 (k + 1) cv7)
            · exact ((hPx.alloc (.cells #[.string (str x)] 9)).grown hg7 hown6).set (by simp; omega) _)
    · obtain rfl : k = ty.length := by omega
      have q0 : decide ((ty.length : Int) < (ty.length : Int)) = false := by simp
      rw [List.take_length] at hown
      obtain ⟨av, cv, rfl⟩ := owns_slice hown
      obtain ⟨z0, z1, z2, z3, f0, f1, f2', f3⟩ := hDr.out.quad
      obtain ⟨r0, r1, r2, r3, _, hoq⟩ := hDr.out.stores4 (.int .i64 e) (.string (str ses)) (.slice av ty.length cv) (.string (str scr))
      have hownq := hoq.owns hown (by decide)
      go_wp2
      refine bodyPost_ret (v := .agg #[.int .i64 e, .string (str ses), .slice av ty.length cv, .string (str scr)]) (by simp [results, Tryz.results31, go_sem, r0, r1, r2, r3]) rfl ⟨.slice av ty.length cv, rfl, hownq, (hPr.stores4 (Nat.le_succ _) _ _ _ _).1⟩
end Go.Proofs.YtjifejbibgimhaaGreatDoor

/- replevinlaw36.TerminalValues. -/
namespace Go.Proofs.YtjifejbibgimhaaGreatDoor
open Go.RowKit

/-- what Decode gives: a terminal, and the error -/
structure DO where
  e : Int
  ses : List UInt8
  ty : List (List UInt8)
  scr : List UInt8
  er : Nat
def decO (l : List UInt8) : DO :=
  match termDec l with
  | none => ⟨0, [], [], [], 3⟩
  | some q => ⟨q.1, q.2.1, q.2.2.1, q.2.2.2, 0⟩
theorem decO_any (l : List UInt8) (w : World) (hs : l.length ≤ 1000000000) :
    Calls Tryz.prog 26 #[.string (str l)] w fun x w' => ∃ v, x = .returned (.tuple #[termV (decO l).e (decO l).ses v (decO l).scr, .int .i64 (decO l).er]) ∧ Sees w' 1 v (decO l).ty.length ((decO l).ty.map sv) ∧ Below w.heap.size w w' := by
  refine (termDecode_any l w hs).mono ?_
  rintro x w' ⟨hb, h⟩
  unfold decO
  cases hd : termDec l with
  | none => rw [hd] at h; exact ⟨_, h, Sees.nil _ _, hb⟩
  | some q => rw [hd] at h; obtain ⟨v, h1, h2⟩ := h; exact ⟨v, h1, sees_of_owns h2, hb⟩
theorem refDecO_any (l : List UInt8) (w : World) (hs : l.length ≤ 1000000000) :
    Calls Tryz.prog 27 #[.string (str l)] w fun x w' => ∃ v, x = .returned (.tuple #[termV (decO l).e (decO l).ses v (decO l).scr, .int .i64 (decO l).er]) ∧ Sees w' 1 v (decO l).ty.length ((decO l).ty.map sv) ∧ Below w.heap.size w w' := by
  refine (refTermDecode_any l w hs).mono ?_
  rintro x w' ⟨hb, h⟩
  rw [refTermDec_eq] at h
  unfold decO
  cases hd : termDec l with
  | none => rw [hd] at h; exact ⟨_, h, Sees.nil _ _, hb⟩
  | some q => rw [hd] at h; obtain ⟨v, h1, h2⟩ := h; exact ⟨v, h1, sees_of_owns h2, hb⟩
theorem decO_len (l : List UInt8) : (decO l).ty.length ≤ 16 := by
  unfold decO
  cases hd : termDec l with
  | none => simp
  | some q =>
    obtain ⟨e, s, t, c⟩ := q
    exact (termCheck_ok.1 (termDec_some.1 hd).1).2.2.1
theorem decO_enc {e : Int} {ses : List UInt8} {ty : List (List UInt8)} {scr : List UInt8} (h : termCheck e ses ty scr.length = 0) : decO (termEnc e ses ty scr) = ⟨e, ses, ty, scr, 0⟩ := by
  obtain ⟨h1, _⟩ := termCheck_ok.1 h
  obtain ⟨e', rfl⟩ := Int.eq_ofNat_of_zero_le h1.1
  have q : termEnc e' ses ty scr = termBytes e' ses ty scr := by unfold termEnc; rw [if_pos h]
  unfold decO
  rw [q, termDec_enc h]
theorem termEnc_len (e : Int) (ses : List UInt8) (ty : List (List UInt8)) (scr : List UInt8) : (termEnc e ses ty scr).length ≤ 20000 := by
  unfold termEnc
  split
  · rename_i h; exact termBytes_le h
  · simp
theorem sameB_refl (e : Int) (s c : List UInt8) (t : List (List UInt8)) : sameB e s c t e s c t = true := sameB_iff.2 ⟨rfl, rfl, rfl, rfl⟩

/-- four rows of strings that can be read -/
structure Four (W : World) (w : World) (v1 : Value) (t1 : List (List UInt8)) (v2 : Value) (t2 : List (List UInt8)) (v3 : Value) (v4 : Value) (t3 : List (List UInt8)) : Prop where
  a : Sees w 1 v1 t1.length (t1.map sv)
  b : Sees w 1 v2 t2.length (t2.map sv)
  c : Sees w 1 v3 t3.length (t3.map sv)
  d : Sees w 1 v4 t3.length (t3.map sv)
  p : Past W.heap.size W w
theorem Four.below {W w w' : World} {v1 v2 v3 v4 : Value} {t1 t2 t3 : List (List UInt8)} (h : Four W w v1 t1 v2 t2 v3 v4 t3) (hb : Below w.heap.size w w') : Four W w' v1 t1 v2 t2 v3 v4 t3 := ⟨h.a.below hb, h.b.below hb, h.c.below hb, h.d.below hb, h.p.call hb⟩

set_option maxRecDepth 100000 in
set_option maxHeartbeats 3200000 in
theorem values_long (e1 : Int) (s1 : List UInt8) (v1 : Value) (t1 : List (List UInt8)) (c1 : List UInt8) (e2 : Int) (s2 : List UInt8) (v2 : Value) (t2 : List (List UInt8)) (c2 s : List UInt8) (w : World)
    (h1 : Sees w 1 v1 t1.length (t1.map sv)) (h2 : Sees w 1 v2 t2.length (t2.map sv)) (h : 20 < t1.length ∨ 20 < t2.length ∨ 2100 < c1.length ∨ 100 < s1.length ∨ 3000 < s.length) :
    Calls Tryz.prog 5 #[termV e1 s1 v1 c1, termV e2 s2 v2 c2, .string (str s)] w fun x w' => x = .returned (.bool true) ∧ Below w.heap.size w w' := by
  have Hkn := Lib.hid known_any
  obtain ⟨a1, d1, rfl⟩ := sees_slice h1
  obtain ⟨a2, d2, rfl⟩ := sees_slice h2
  clear h1 h2
  have l1 := str_size c1
  have l2 := str_size s1
  have l3 := str_size s
  have hk1 := Blk.new w #[.int .i64 e1, .string (str s1), .slice a1 t1.length d1, .string (str c1)] 44
  have hk2 := Blk.new (w.alloc (.cells #[.int .i64 e1, .string (str s1), .slice a1 t1.length d1, .string (str c1)] 44)) #[.int .i64 e2, .string (str s2), .slice a2 t2.length d2, .string (str c2)] 44
  rw [World.size_alloc] at hk2
  have hk1 := hk1.alloc (.cells #[.int .i64 e2, .string (str s2), .slice a2 t2.length d2, .string (str c2)] 44)
  have hP := ((Past.refl w).alloc (.cells #[.int .i64 e1, .string (str s1), .slice a1 t1.length d1, .string (str c1)] 44)).alloc (.cells #[.int .i64 e2, .string (str s2), .slice a2 t2.length d2, .string (str c2)] 44)
  unfold termV
  by_cases q1 : 20 < t1.length
  · have k1 : (20 : Int) < t1.length := by omega
    clear h
    go_enter Tryz.func5, Tryz.ntmps5
    go_wp2_with fail
    refine (Hkn.out _).mono ?_
    rintro x w2 ⟨rfl, hb2⟩
    have hx := hk1.below hb2 hk1.lt
    have hy := hk2.below hb2 hk2.lt
    obtain ⟨x0, x1, x2, x3, _, _, _, _⟩ := hx.quad
    obtain ⟨y0, y1, y2, y3, _, _, _, _⟩ := hy.quad
    have hP2 := hP.call hb2
    go_wp2_with fail
    refine (Hkn.out _).mono ?_
    rintro x w3 ⟨rfl, hb3⟩
    go_wp2
    go_ret
    exact ⟨rfl, (hP2.call hb3).1⟩
  · have k1 : decide ((20 : Int) < t1.length) = false := decide_eq_false (by omega)
    by_cases q2 : 20 < t2.length
    · have k2 : (20 : Int) < t2.length := by omega
      clear h
      go_enter Tryz.func5, Tryz.ntmps5
      go_wp2_with fail
      refine (Hkn.out _).mono ?_
      rintro x w2 ⟨rfl, hb2⟩
      have hx := hk1.below hb2 hk1.lt
      have hy := hk2.below hb2 hk2.lt
      obtain ⟨x0, x1, x2, x3, _, _, _, _⟩ := hx.quad
      obtain ⟨y0, y1, y2, y3, _, _, _, _⟩ := hy.quad
      have hP2 := hP.call hb2
      go_wp2_with fail
      refine (Hkn.out _).mono ?_
      rintro x w3 ⟨rfl, hb3⟩
      go_wp2
      go_ret
      exact ⟨rfl, (hP2.call hb3).1⟩
    · have k2 : decide ((20 : Int) < t2.length) = false := decide_eq_false (by omega)
      by_cases q3 : 2100 < c1.length
      · have k3 : (2100 : Int) < c1.length := by omega
        clear h
        go_enter Tryz.func5, Tryz.ntmps5
        go_wp2_with fail
        refine (Hkn.out _).mono ?_
        rintro x w2 ⟨rfl, hb2⟩
        have hx := hk1.below hb2 hk1.lt
        have hy := hk2.below hb2 hk2.lt
        obtain ⟨x0, x1, x2, x3, _, _, _, _⟩ := hx.quad
        obtain ⟨y0, y1, y2, y3, _, _, _, _⟩ := hy.quad
        have hP2 := hP.call hb2
        go_wp2_with fail
        refine (Hkn.out _).mono ?_
        rintro x w3 ⟨rfl, hb3⟩
        go_wp2
        go_ret
        exact ⟨rfl, (hP2.call hb3).1⟩
      · have k3 : decide ((2100 : Int) < c1.length) = false := decide_eq_false (by omega)
        by_cases q4 : 100 < s1.length
        · have k4 : (100 : Int) < s1.length := by omega
          clear h
          go_enter Tryz.func5, Tryz.ntmps5
          go_wp2_with fail
          refine (Hkn.out _).mono ?_
          rintro x w2 ⟨rfl, hb2⟩
          have hx := hk1.below hb2 hk1.lt
          have hy := hk2.below hb2 hk2.lt
          obtain ⟨x0, x1, x2, x3, _, _, _, _⟩ := hx.quad
          obtain ⟨y0, y1, y2, y3, _, _, _, _⟩ := hy.quad
          have hP2 := hP.call hb2
          go_wp2_with fail
          refine (Hkn.out _).mono ?_
          rintro x w3 ⟨rfl, hb3⟩
          go_wp2
          go_ret
          exact ⟨rfl, (hP2.call hb3).1⟩
        · have k4 : decide ((100 : Int) < s1.length) = false := decide_eq_false (by omega)
          have k5 : (3000 : Int) < s.length := by omega
          clear h
          go_enter Tryz.func5, Tryz.ntmps5
          go_wp2_with fail
          refine (Hkn.out _).mono ?_
          rintro x w2 ⟨rfl, hb2⟩
          have hx := hk1.below hb2 hk1.lt
          have hy := hk2.below hb2 hk2.lt
          obtain ⟨x0, x1, x2, x3, _, _, _, _⟩ := hx.quad
          obtain ⟨y0, y1, y2, y3, _, _, _, _⟩ := hy.quad
          have hP2 := hP.call hb2
          go_wp2_with fail
          refine (Hkn.out _).mono ?_
          rintro x w3 ⟨rfl, hb3⟩
          go_wp2
          go_ret
          exact ⟨rfl, (hP2.call hb3).1⟩
end Go.Proofs.YtjifejbibgimhaaGreatDoor

/- replevinlaw36.TerminalValues: within the bounds. -/
namespace Go.Proofs.YtjifejbibgimhaaGreatDoor
open Go.RowKit

/-- a terminal, as cells -/
abbrev aggT (e : Int) (s : List UInt8) (v : Value) (c : List UInt8) : Value := .agg #[.int .i64 e, .string (str s), v, .string (str c)]
theorem keep16 {w w' : World} {a0 a1 a2 a3 a4 a5 a6 a7 a8 a9 a10 a11 a12 a13 a14 a15 : Addr} {v0 v1 v2 v3 v4 v5 v6 v7 v8 v9 v10 v11 v12 v13 v14 v15 : Value} (hb : Below w.heap.size w w') (h : w.cell? a0 = some v0 ∧ w.cell? a1 = some v1 ∧ w.cell? a2 = some v2 ∧ w.cell? a3 = some v3 ∧ w.cell? a4 = some v4 ∧ w.cell? a5 = some v5 ∧ w.cell? a6 = some v6 ∧ w.cell? a7 = some v7 ∧ w.cell? a8 = some v8 ∧ w.cell? a9 = some v9 ∧ w.cell? a10 = some v10 ∧ w.cell? a11 = some v11 ∧ w.cell? a12 = some v12 ∧ w.cell? a13 = some v13 ∧ w.cell? a14 = some v14 ∧ w.cell? a15 = some v15) : w'.cell? a0 = some v0 ∧ w'.cell? a1 = some v1 ∧ w'.cell? a2 = some v2 ∧ w'.cell? a3 = some v3 ∧ w'.cell? a4 = some v4 ∧ w'.cell? a5 = some v5 ∧ w'.cell? a6 = some v6 ∧ w'.cell? a7 = some v7 ∧ w'.cell? a8 = some v8 ∧ w'.cell? a9 = some v9 ∧ w'.cell? a10 = some v10 ∧ w'.cell? a11 = some v11 ∧ w'.cell? a12 = some v12 ∧ w'.cell? a13 = some v13 ∧ w'.cell? a14 = some v14 ∧ w'.cell? a15 = some v15 := by
  obtain ⟨h0, h1, h2, h3, h4, h5, h6, h7, h8, h9, h10, h11, h12, h13, h14, h15⟩ := h
  exact ⟨cell_keep h0 hb, cell_keep h1 hb, cell_keep h2 hb, cell_keep h3 hb, cell_keep h4 hb, cell_keep h5 hb, cell_keep h6 hb, cell_keep h7 hb, cell_keep h8 hb, cell_keep h9 hb, cell_keep h10 hb, cell_keep h11 hb, cell_keep h12 hb, cell_keep h13 hb, cell_keep h14 hb, cell_keep h15 hb⟩
section
variable (e : Int) (s : List UInt8) (v : Value) (t : List (List UInt8)) (c : List UInt8) (w : World)
theorem toA (h : Sees w 1 v t.length (t.map sv)) (hl : t.length ≤ 20) : Calls Tryz.prog 24 #[.agg #[.int .i64 e, .string (str s), v, .string (str c)]] w fun x w' => ∃ av cv, x = .returned (.agg #[.int .i64 e, .string (str s), .slice av t.length cv, .string (str c)]) ∧ Sees w' 1 (.slice av t.length cv) t.length (t.map sv) ∧ Below w.heap.size w w' := by
  refine (to36_any e s v t c w h hl).mono ?_
  rintro x w' ⟨tv, rfl, h1, h2⟩
  obtain ⟨av, cv, rfl⟩ := owns_slice h1
  exact ⟨av, cv, rfl, sees_of_owns h1, h2⟩
theorem ofA (h : Sees w 1 v t.length (t.map sv)) (hl : t.length ≤ 20) : Calls Tryz.prog 31 #[.agg #[.int .i64 e, .string (str s), v, .string (str c)]] w fun x w' => ∃ av cv, x = .returned (.agg #[.int .i64 e, .string (str s), .slice av t.length cv, .string (str c)]) ∧ Sees w' 1 (.slice av t.length cv) t.length (t.map sv) ∧ Below w.heap.size w w' := by
  refine (of36_any e s v t c w h hl).mono ?_
  rintro x w' ⟨tv, rfl, h1, h2⟩
  obtain ⟨av, cv, rfl⟩ := owns_slice h1
  exact ⟨av, cv, rfl, sees_of_owns h1, h2⟩
end

set_option maxRecDepth 100000 in
set_option maxHeartbeats 6400000 in
theorem values_some (e1 : Int) (s1 : List UInt8) (v1 : Value) (t1 : List (List UInt8)) (c1 : List UInt8) (e2 : Int) (s2 : List UInt8) (v2 : Value) (t2 : List (List UInt8)) (c2 s : List UInt8) (w : World)
    (h1 : Sees w 1 v1 t1.length (t1.map sv)) (h2 : Sees w 1 v2 t2.length (t2.map sv)) (hl1 : t1.length ≤ 20) (hl2 : t2.length ≤ 20) (hc1 : c1.length ≤ 2100) (hs1 : s1.length ≤ 100) (hs : s.length ≤ 3000) (hls : ∀ x ∈ t1, x.length ≤ 9223372036854775807) :
    Calls Tryz.prog 5 #[termV e1 s1 v1 c1, termV e2 s2 v2 c2, .string (str s)] w fun x w' => x = .returned (.bool true) ∧ Below w.heap.size w w' := by
  have Hkn := Lib.hid known_any
  obtain ⟨a1, d1, rfl⟩ := sees_slice h1
  obtain ⟨a2, d2, rfl⟩ := sees_slice h2
  have l1 := str_size c1
  have l2 := str_size s1
  have l3 := str_size s
  have k1 : decide ((20 : Int) < t1.length) = false := decide_eq_false (by omega)
  have k2 : decide ((20 : Int) < t2.length) = false := decide_eq_false (by omega)
  have k3 : decide ((2100 : Int) < c1.length) = false := decide_eq_false (by omega)
  have k4 : decide ((100 : Int) < s1.length) = false := decide_eq_false (by omega)
  have k5 : decide ((3000 : Int) < s.length) = false := decide_eq_false (by omega)
  have hk1 := Blk.new w #[.int .i64 e1, .string (str s1), .slice a1 t1.length d1, .string (str c1)] 44
  have hk2 := Blk.new (w.alloc (.cells #[.int .i64 e1, .string (str s1), .slice a1 t1.length d1, .string (str c1)] 44)) #[.int .i64 e2, .string (str s2), .slice a2 t2.length d2, .string (str c2)] 44
  rw [World.size_alloc] at hk2
  have hk1 := hk1.alloc (.cells #[.int .i64 e2, .string (str s2), .slice a2 t2.length d2, .string (str c2)] 44)
  have hP := ((Past.refl w).alloc (.cells #[.int .i64 e1, .string (str s1), .slice a1 t1.length d1, .string (str c1)] 44)).alloc (.cells #[.int .i64 e2, .string (str s2), .slice a2 t2.length d2, .string (str c2)] 44)
  have hS1 := h1.below hP.1
  have hS2 := h2.below hP.1
  obtain ⟨_, a1', d1', hv1, _, g1⟩ := sees_str h1
  cases hv1
  have Hls := Lib.hid hls; clear hls
  have hg1 : ∀ i x, t1[i]? = some x → x.length ≤ 9223372036854775807 ∧ ∃ b off, a1 = some ⟨b, off, none⟩ ∧ b < w.heap.size ∧ w.cell? ⟨b, off + i, none⟩ = some (.string (str x)) := fun i x hx => by
    obtain ⟨hi, e⟩ := List.getElem?_eq_some_iff.1 hx
    obtain ⟨b, off, r1, r2, r3⟩ := g1 i hi hi
    exact ⟨Hls.out x (List.mem_of_getElem? hx), b, off, r1, r2, by rw [r3, e]⟩
  have Hg1 := Lib.hid hg1; clear hg1 g1 h1 h2
  unfold termV
  go_enter Tryz.func5, Tryz.ntmps5
  go_wp2_with fail
  refine (Hkn.out _).mono ?_
  rintro x w2 ⟨rfl, hb2⟩
  have hx2 := hk1.below hb2 hk1.lt
  have hy2 := hk2.below hb2 hk2.lt
  have hP2 := hP.call hb2
  have hS1 := hS1.below hb2
  have hS2 := hS2.below hb2
  obtain ⟨x0, x1, x2, x3, _, _, _, _⟩ := hx2.quad
  obtain ⟨y0, y1, y2, y3, _, _, _, _⟩ := hy2.quad
  clear hk1 hk2 hP hb2
  go_wp2
  clear x0 x1 x2 x3 y0 y1 y2 y3
  go_loopg [7] t1.length (fun g t wr => ∃ k : Nat, k ≤ t1.length ∧ g = t1.length - k ∧ t = .int .i64 k ∧ Past w2.heap.size w2 wr)
  case atStart => exact ⟨0, Nat.zero_le _, rfl, rfl, Past.refl _⟩
  case round =>
    obtain ⟨k, hk, rfl, rfl, hPr⟩ := hrel
    have hxr := hx2.below hPr.1 hx2.lt
    have hyr := hy2.below hPr.1 hy2.lt
    have hPw : Past w.heap.size w wr := hP2.next (hPr.1.mono hP2.2)
    obtain ⟨x0, x1, x2, x3, _, _, _, _⟩ := hxr.quad
    by_cases hlt : k < t1.length
    · obtain ⟨x, hx⟩ := get_s hlt
      obtain ⟨hxl, b, off, rfl, hbl, hcl⟩ := Hg1.out k x hx
      have cx : wr.cell? ⟨b, off + k, none⟩ = some (.string (str x)) := (hPw.1.cell (p := ⟨b, off + k, none⟩) hbl).trans hcl
      have lx := str_size x
      have q0 : (k : Int) < t1.length := by omega
      clear hx hcl
      by_cases hbig : 1100 < x.length
      · have q1 : (1100 : Int) < x.length := by omega
        go_wp2
        go_ret
        exact ⟨rfl, hPw.1⟩
      · have q1 : decide ((1100 : Int) < x.length) = false := decide_eq_false (by omega)
        have C1 := Lib.hid (fun w => checkLine_any x w hxl)
        have C2 := Lib.hid (fun w => refLine_any x w hxl)
        obtain ⟨E, hE⟩ : ∃ E, E = lineE x := ⟨_, rfl⟩
        rw [← hE] at C1 C2
        clear hE
        go_upto_region 8 with fail
        go_cut [76] (fun s76 wx => s76 = .bool false ∧ Past w2.heap.size w2 wx)
        case first =>
          go_wp2_with fail
          go_region_held3 (fun w' => w'.cell? ⟨w.heap.size, 2, none⟩ = some (.slice (some ⟨b, off, none⟩) t1.length d1) ∧ w'.cell? ⟨b, off + k, none⟩ = some (.string (str x)))
            (first | exact keep2 (by assumption) (by assumption) | exact keep2 (by assumption) ⟨x2, cx⟩ | go_keep)
            (first
              | (go_at_call 21; refine (C1.out _).mono ?_; rintro z w9 ⟨rfl, hb9⟩)
              | (go_at_call 22; refine (C2.out _).mono ?_; rintro z w9 ⟨rfl, hb9⟩))
          rename_i wA hA hH
          go_wp2_with fail
          go_meet
          exact ⟨by simp, ((hPr.drew).call hA).call hb9⟩
        case rest =>
          obtain ⟨rfl, hPc⟩ := hcut
          go_wp2
          go_roundg (t1.length - (k + 1))
          case measure => omega
          case rel => exact ⟨k + 1, by omega, rfl, by go_num, hPc⟩
    · obtain rfl : k = t1.length := by omega
      have q0 : decide ((t1.length : Int) < (t1.length : Int)) = false := by simp
      have hS1 := hS1.below hPr.1
      have hS2 := hS2.below hPr.1
      obtain ⟨CK, hCK⟩ : ∃ c, c = termCheck e1 s1 t1 c1.length := ⟨_, rfl⟩
      obtain ⟨EN, hEN⟩ : ∃ c, c = termEnc e1 s1 t1 c1 := ⟨_, rfl⟩
      have hENl : EN.length ≤ 20000 := by rw [hEN]; exact termEnc_len _ _ _ _
      have cEn := fun v w h => termEncode_any e1 s1 v t1 c1 w h (by omega) (by omega) (by omega) Hls.out
      have cREn := fun v w h => refTermEncode_any e1 s1 v t1 c1 w h (by omega) (by omega) (by omega) Hls.out
      have cCk := fun v w h => termCheck_any e1 s1 v t1 c1 w h (by omega) (by omega) (by omega) Hls.out
      have cRCk := fun v w h => refTermCheck_any e1 s1 v t1 c1 w h (by omega) (by omega) (by omega) Hls.out
      have cDe := fun w => decO_any s w (by omega)
      have cRDe := fun w => refDecO_any s w (by omega)
      have cDe2 := fun w => decO_any EN w (by omega)
      have hdE : CK = 0 → decO EN = ⟨e1, s1, t1, c1, 0⟩ := fun h => by rw [hEN]; exact decO_enc (by rw [← hCK]; exact h)
      obtain ⟨DS, hDS⟩ : ∃ d, d = decO s := ⟨_, rfl⟩
      have hDSl : DS.ty.length ≤ 20 := by rw [hDS]; have := decO_len s; omega
      rw [← hCK, ← hEN] at cEn cREn
      rw [← hCK] at cCk cRCk
      rw [← hDS] at cDe cRDe
      clear hDS hCK hEN
      unfold termV at cEn cREn cCk cRCk cDe cRDe cDe2
      have CEn := Lib.hid cEn; clear cEn
      have CREn := Lib.hid cREn; clear cREn
      have CCk := Lib.hid cCk; clear cCk
      have CRCk := Lib.hid cRCk; clear cRCk
      have CDe := Lib.hid cDe; clear cDe
      have CRDe := Lib.hid cRDe; clear cRDe
      have CDe2 := Lib.hid cDe2; clear cDe2
      have HdE := Lib.hid hdE; clear hdE
      go_wp2_with fail
      refine (toA e1 s1 _ t1 c1 _ hS1 hl1).mono ?_
      rintro x w5 ⟨a5, d5, rfl, hs5, hb5⟩
      have hx5 := hxr.below hb5 hxr.lt
      have hy5 := hyr.below hb5 hyr.lt
      have hP5 := hPw.call hb5
      have hS1 := hS1.below hb5
      have hS2 := hS2.below hb5
      clear x0 x1 x2 x3 hxr hyr hb5 hPr hPw
      go_wp2_with fail
      refine (CEn.out _ _ hs5).mono ?_
      rintro x w6 ⟨rfl, hb6⟩
      have hx6 := hx5.below hb6 hx5.lt
      have hy6 := hy5.below hb6 hy5.lt
      have hP6 := hP5.call hb6
      have hS1 := hS1.below hb6
      have hS2 := hS2.below hb6
      clear hx5 hy5 hP5 hb6 hs5
      obtain ⟨x0, x1, x2, x3, _, _, _, _⟩ := hx6.quad
      go_wp2_with fail
      refine (CREn.out _ _ hS1).mono ?_
      rintro x w7 ⟨rfl, hb7⟩
      have hx7 := hx6.below hb7 hx6.lt
      have hy7 := hy6.below hb7 hy6.lt
      have hP7 := hP6.call hb7
      have hS1 := hS1.below hb7
      have hS2 := hS2.below hb7
      clear hx6 hy6 hP6 hb7 x0 x1 x2 x3
      go_wp2_with fail
      refine (CDe.out _).mono ?_
      rintro x w8 ⟨vx, rfl, hs8, hb8⟩
      obtain ⟨a3, d3, rfl⟩ := sees_slice hs8
      have hp8 := Blk.new w8 #[.int .i64 DS.e, .string (str DS.ses), .slice a3 DS.ty.length d3, .string (str DS.scr)] 36
      have hx8 := (hx7.below hb8 hx7.lt).alloc (.cells #[.int .i64 DS.e, .string (str DS.ses), .slice a3 DS.ty.length d3, .string (str DS.scr)] 36)
      have hy8 := (hy7.below hb8 hy7.lt).alloc (.cells #[.int .i64 DS.e, .string (str DS.ses), .slice a3 DS.ty.length d3, .string (str DS.scr)] 36)
      have hP8 := (hP7.call hb8).alloc (.cells #[.int .i64 DS.e, .string (str DS.ses), .slice a3 DS.ty.length d3, .string (str DS.scr)] 36)
      have hS1 := (hS1.below hb8).below (below_alloc w8 (.cells #[.int .i64 DS.e, .string (str DS.ses), .slice a3 DS.ty.length d3, .string (str DS.scr)] 36))
      have hS2 := (hS2.below hb8).below (below_alloc w8 (.cells #[.int .i64 DS.e, .string (str DS.ses), .slice a3 DS.ty.length d3, .string (str DS.scr)] 36))
      have hS3 := hs8.below (below_alloc w8 (.cells #[.int .i64 DS.e, .string (str DS.ses), .slice a3 DS.ty.length d3, .string (str DS.scr)] 36))
      clear hx7 hy7 hP7 hb8 hs8
      go_wp2_with fail
      refine (CRDe.out _).mono ?_
      rintro x w9 ⟨vy, rfl, hs9, hb9⟩
      obtain ⟨a4, d4, rfl⟩ := sees_slice hs9
      have hp9 := (hp8.below hb9 hp8.lt).alloc (.cells #[.int .i64 DS.e, .string (str DS.ses), .slice a4 DS.ty.length d4, .string (str DS.scr)] 44)
      have hq9 := Blk.new w9 #[.int .i64 DS.e, .string (str DS.ses), .slice a4 DS.ty.length d4, .string (str DS.scr)] 44
      have hx9 := (hx8.below hb9 hx8.lt).alloc (.cells #[.int .i64 DS.e, .string (str DS.ses), .slice a4 DS.ty.length d4, .string (str DS.scr)] 44)
      have hy9 := (hy8.below hb9 hy8.lt).alloc (.cells #[.int .i64 DS.e, .string (str DS.ses), .slice a4 DS.ty.length d4, .string (str DS.scr)] 44)
      have hP9 := (hP8.call hb9).alloc (.cells #[.int .i64 DS.e, .string (str DS.ses), .slice a4 DS.ty.length d4, .string (str DS.scr)] 44)
      have hba := below_alloc w9 (.cells #[.int .i64 DS.e, .string (str DS.ses), .slice a4 DS.ty.length d4, .string (str DS.scr)] 44)
      have hF : Four w (w9.alloc (.cells #[.int .i64 DS.e, .string (str DS.ses), .slice a4 DS.ty.length d4, .string (str DS.scr)] 44)).drew (.slice a1 t1.length d1) t1 (.slice a2 t2.length d2) t2 (.slice a3 DS.ty.length d3) (.slice a4 DS.ty.length d4) DS.ty :=
        Four.below (w := w9.alloc (.cells #[.int .i64 DS.e, .string (str DS.ses), .slice a4 DS.ty.length d4, .string (str DS.scr)] 44)) ⟨(hS1.below hb9).below hba, (hS2.below hb9).below hba, (hS3.below hb9).below hba, hs9.below hba, hP9⟩ (Below.refl _ _).drew
      clear hx8 hy8 hP8 hb9 hs9 hp8 hS1 hS2 hS3 hba
      obtain ⟨x0, x1, x2, x3, _, _, _, _⟩ := hx9.quad
      obtain ⟨y0, y1, y2, y3, _, _, _, _⟩ := hy9.quad
      obtain ⟨p0, p1, p2, p3, _, _, _, _⟩ := hp9.quad
      obtain ⟨r0, r1, r2, r3, _, _, _, _⟩ := hq9.quad
      have z1 : ((str EN).toList == (str EN).toList) = true := by simp
      have z2 : ((CK : Int) == (CK : Int)) = true := by simp
      have z3 : ((DS.er : Int) == (DS.er : Int)) = true := by simp
      go_wp2_with fail
      go_region_held3 (fun w' => w'.cell? ⟨w.heap.size, 0, none⟩ = some (.int .i64 e1) ∧ w'.cell? ⟨w.heap.size, 1, none⟩ = some (.string (str s1)) ∧ w'.cell? ⟨w.heap.size, 2, none⟩ = some (.slice a1 t1.length d1) ∧ w'.cell? ⟨w.heap.size, 3, none⟩ = some (.string (str c1)) ∧ w'.cell? ⟨w.heap.size + 1, 0, none⟩ = some (.int .i64 e2) ∧ w'.cell? ⟨w.heap.size + 1, 1, none⟩ = some (.string (str s2)) ∧ w'.cell? ⟨w.heap.size + 1, 2, none⟩ = some (.slice a2 t2.length d2) ∧ w'.cell? ⟨w.heap.size + 1, 3, none⟩ = some (.string (str c2)) ∧ w'.cell? ⟨w8.heap.size, 0, none⟩ = some (.int .i64 DS.e) ∧ w'.cell? ⟨w8.heap.size, 1, none⟩ = some (.string (str DS.ses)) ∧ w'.cell? ⟨w8.heap.size, 2, none⟩ = some (.slice a3 DS.ty.length d3) ∧ w'.cell? ⟨w8.heap.size, 3, none⟩ = some (.string (str DS.scr)) ∧ w'.cell? ⟨w9.heap.size, 0, none⟩ = some (.int .i64 DS.e) ∧ w'.cell? ⟨w9.heap.size, 1, none⟩ = some (.string (str DS.ses)) ∧ w'.cell? ⟨w9.heap.size, 2, none⟩ = some (.slice a4 DS.ty.length d4) ∧ w'.cell? ⟨w9.heap.size, 3, none⟩ = some (.string (str DS.scr)))
        (first | exact keep16 (by assumption) (by assumption) | exact keep16 (by assumption) ⟨x0, x1, x2, x3, y0, y1, y2, y3, p0, p1, p2, p3, r0, r1, r2, r3⟩ | go_keep)
        (first
          | (go_at_call_of 24 (Value.agg #[.int .i64 e1, .string (str s1), .slice a1 t1.length d1, .string (str c1)]); refine (toA e1 s1 _ t1 c1 _ hF.a hl1).mono ?_; rintro z wN ⟨aN, dN, rfl, hsN, hbN⟩; have hF := hF.below hbN; (try have hqN := hsP.below hbN); have hsP := hsN)
          | (go_at_call_of 24 (Value.agg #[.int .i64 e2, .string (str s2), .slice a2 t2.length d2, .string (str c2)]); refine (toA e2 s2 _ t2 c2 _ hF.b hl2).mono ?_; rintro z wN ⟨aN, dN, rfl, hsN, hbN⟩; have hF := hF.below hbN; (try have hqN := hsP.below hbN); have hsP := hsN)
          | (go_at_call 28; refine (CCk.out _ _ hsP).mono ?_; rintro z wN ⟨rfl, hbN⟩; have hF := hF.below hbN)
          | (go_at_call 29; refine (CRCk.out _ _ hF.a).mono ?_; rintro z wN ⟨rfl, hbN⟩; have hF := hF.below hbN)
          | (go_at_call 31; refine (ofA DS.e DS.ses _ DS.ty DS.scr _ hF.c hDSl).mono ?_; rintro z wN ⟨aN, dN, rfl, hsO, hbN⟩; have hF := hF.below hbN)
          | (go_at_call_of 30 (Value.agg #[.int .i64 e1, .string (str s1), .slice a1 t1.length d1, .string (str c1)]); refine (refSame_any e1 s1 _ t1 c1 e2 s2 _ t2 c2 _ hF.a hF.b (by omega)).mono ?_; rintro z wN ⟨rfl, hbN⟩; have hF := hF.below hbN)
          | (go_at_call 30; refine (refSame_any DS.e DS.ses _ DS.ty DS.scr DS.e DS.ses _ DS.ty DS.scr _ hsO hF.d (by omega)).mono ?_; rw [sameB_refl]; rintro z wN ⟨rfl, hbN⟩; have hF := hF.below hbN)
          | (go_at_call 32; refine (termEqual_any _ _ _ _ _ _ _ _ _ _ _ hqN hsP (by omega)).mono ?_; (try rw [sameB_refl]); rintro z wN ⟨rfl, hbN⟩; have hF := hF.below hbN))
      rename_i hH
      obtain ⟨x0, x1, x2, x3, -⟩ := hH
      have hPe := hF.p
      have hSe := hF.a
      clear CEn CREn CCk CRCk CDe CRDe
      by_cases h0 : CK = 0
      · have z4 : ((CK : Int) == 0) = true := by simp [h0]
        have z5 : ((CK : Int) != 0) = false := by simp [h0]
        have cD := CDe2.out
        rw [HdE.out h0] at cD
        have CD := Lib.hid cD; clear cD h0
        go_wp2_with fail
        refine (CD.out _).mono ?_
        rintro x wA ⟨vb, rfl, hsb, hbb⟩
        obtain ⟨a6, d6, rfl⟩ := sees_slice hsb
        have hp6 := Blk.new wA #[.int .i64 e1, .string (str s1), .slice a6 t1.length d6, .string (str c1)] 36
        obtain ⟨b0, b1, b2, b3, _, _, _, _⟩ := hp6.quad
        have hba := below_alloc wA (.cells #[.int .i64 e1, .string (str s1), .slice a6 t1.length d6, .string (str c1)] 36)
        have x0 := cell_keep (cell_keep x0 hbb) hba
        have x1 := cell_keep (cell_keep x1 hbb) hba
        have x2 := cell_keep (cell_keep x2 hbb) hba
        have x3 := cell_keep (cell_keep x3 hbb) hba
        have hS6 : Sees (wA.alloc (.cells #[.int .i64 e1, .string (str s1), .slice a6 t1.length d6, .string (str c1)] 36)).drew 1 (.slice a6 t1.length d6) t1.length (t1.map sv) := (hsb.below hba).below (Below.refl _ _).drew
        have hSt : Sees (wA.alloc (.cells #[.int .i64 e1, .string (str s1), .slice a6 t1.length d6, .string (str c1)] 36)).drew 1 (.slice a1 t1.length d1) t1.length (t1.map sv) := ((hSe.below hbb).below hba).below (Below.refl _ _).drew
        have hPf := ((hPe.call hbb).call hba).drew
        clear hsb hSe hPe hbb hba hp6
        go_wp2_with fail
        go_region_held3 (fun w' => w'.cell? ⟨w.heap.size, 0, none⟩ = some (.int .i64 e1) ∧ w'.cell? ⟨w.heap.size, 1, none⟩ = some (.string (str s1)) ∧ w'.cell? ⟨w.heap.size, 2, none⟩ = some (.slice a1 t1.length d1) ∧ w'.cell? ⟨w.heap.size, 3, none⟩ = some (.string (str c1)) ∧ w'.cell? ⟨wA.heap.size, 0, none⟩ = some (.int .i64 e1) ∧ w'.cell? ⟨wA.heap.size, 1, none⟩ = some (.string (str s1)) ∧ w'.cell? ⟨wA.heap.size, 2, none⟩ = some (.slice a6 t1.length d6) ∧ w'.cell? ⟨wA.heap.size, 3, none⟩ = some (.string (str c1)))
          (first | exact keep8 (by assumption) (by assumption) | exact keep8 (by assumption) ⟨x0, x1, x2, x3, b0, b1, b2, b3⟩ | go_keep)
          (first
            | (go_at_call 31; refine (ofA e1 s1 _ t1 c1 _ hS6 hl1).mono ?_; rintro z wB ⟨aN, dN, rfl, hsO, hbB⟩; have hSt2 := hSt.below hbB)
            | (go_at_call 30; refine (refSame_any e1 s1 _ t1 c1 e1 s1 _ t1 c1 _ hsO hSt2 (by omega)).mono ?_; rw [sameB_refl]; rintro z wC ⟨rfl, hbC⟩))
        go_wp2
        go_ret
        exact ⟨rfl, ((hPf.call hbB).call hbC).1⟩
      · have z4 : ((CK : Int) == 0) = false := by simp; omega
        have z5 : ((CK : Int) != 0) = true := by simp; omega
        clear h0
        go_wp2_with fail
        refine (CDe2.out _).mono ?_
        rintro x wA ⟨vb, rfl, hsb, hbb⟩
        obtain ⟨a6, d6, rfl⟩ := sees_slice hsb
        go_wp2_with fail
        go_quiet (fail)
        go_wp2
        go_ret
        exact ⟨rfl, (((hPe.call hbb).alloc _).drewN _).1⟩

theorem values_any (e1 : Int) (s1 : List UInt8) (v1 : Value) (t1 : List (List UInt8)) (c1 : List UInt8) (e2 : Int) (s2 : List UInt8) (v2 : Value) (t2 : List (List UInt8)) (c2 s : List UInt8) (w : World)
    (h1 : Sees w 1 v1 t1.length (t1.map sv)) (h2 : Sees w 1 v2 t2.length (t2.map sv)) (hls : ∀ x ∈ t1, x.length ≤ 9223372036854775807) :
    Calls Tryz.prog 5 #[termV e1 s1 v1 c1, termV e2 s2 v2 c2, .string (str s)] w fun x w' => x = .returned (.bool true) ∧ Below w.heap.size w w' := by
  by_cases h : 20 < t1.length ∨ 20 < t2.length ∨ 2100 < c1.length ∨ 100 < s1.length ∨ 3000 < s.length
  · exact values_long e1 s1 v1 t1 c1 e2 s2 v2 t2 c2 s w h1 h2 h
  · exact values_some e1 s1 v1 t1 c1 e2 s2 v2 t2 c2 s w h1 h2 (by omega) (by omega) (by omega) (by omega) (by omega) hls
end Go.Proofs.YtjifejbibgimhaaGreatDoor
