/- Contracts of functions on the way to the claim, proved for every input that their hypotheses let by; no condition of the claim. Joined of: W1 W2 W3. -/
import Derived.Test.YtjifejbibgimhaaGreatDoorG13

/- replevinlaw36.TerminalSessions: names that are too long, or no names of sessions. -/
namespace Go.Proofs.YtjifejbibgimhaaGreatDoor
open Go.RowKit

theorem new_x : typeE (TT.new 0) [120] = 10 := by decide +kernel
theorem begin_bad {a : List UInt8} (h : validName a = false ∨ a = []) : beginE (getT none 0) a = 12 ∧ aft none (beginT (getT none 0) a) (beginE (getT none 0) a) = none := by
  have e : beginE (getT none 0) a = 12 := by unfold beginE; rw [if_pos h]
  exact ⟨e, by unfold aft; rw [if_neg (by omega)]⟩
theorem type_bad : typeE (getT none 0) [120] = 10 := new_x

set_option maxRecDepth 100000 in
set_option maxHeartbeats 1600000 in
theorem sessions_long (a b c : List UInt8) (w : World) (ha : a.length ≤ 9223372036854775807) (hb : b.length ≤ 9223372036854775807) (hc : c.length ≤ 9223372036854775807) (h : 100 < a.length ∨ 100 < b.length ∨ 100 < c.length) :
    Calls Tryz.prog 4 #[.string (str a), .string (str b), .string (str c)] w fun e w' => e = .returned (.bool true) ∧ Below w.heap.size w w' := by
  have la := str_size a
  have lb := str_size b
  have lc := str_size c
  have Hkn := Lib.hid known_any
  have fin : ∀ w2 w3 : World, Below w.heap.size w w2 → Below w2.heap.size w2 w3 → Below w.heap.size w w3 := fun w2 w3 h h' => h.trans (h'.mono h.size)
  by_cases h1 : 100 < a.length
  · have q1 : (100 : Int) < a.length := by omega
    go_enter Tryz.func4, Tryz.ntmps4
    go_wp2_with (go_at_call 11; refine (Hkn.out _).mono ?_; first | (rintro x w2 ⟨rfl, hb2⟩) | (rintro x w3 ⟨rfl, hb3⟩))
    go_ret
    exact ⟨rfl, fin _ _ (by assumption) (by assumption)⟩
  · have q1 : decide ((100 : Int) < a.length) = false := by simp; omega
    by_cases h2 : 100 < b.length
    · have q2 : (100 : Int) < b.length := by omega
      go_enter Tryz.func4, Tryz.ntmps4
      go_wp2_with (go_at_call 11; refine (Hkn.out _).mono ?_; first | (rintro x w2 ⟨rfl, hb2⟩) | (rintro x w3 ⟨rfl, hb3⟩))
      go_ret
      exact ⟨rfl, fin _ _ (by assumption) (by assumption)⟩
    · have q2 : decide ((100 : Int) < b.length) = false := by simp; omega
      have q3 : (100 : Int) < c.length := by omega
      go_enter Tryz.func4, Tryz.ntmps4
      go_wp2_with (go_at_call 11; refine (Hkn.out _).mono ?_; first | (rintro x w2 ⟨rfl, hb2⟩) | (rintro x w3 ⟨rfl, hb3⟩))
      go_ret
      exact ⟨rfl, fin _ _ (by assumption) (by assumption)⟩
end Go.Proofs.YtjifejbibgimhaaGreatDoor

/- replevinlaw36.TerminalSessions: no name of a session. -/
namespace Go.Proofs.YtjifejbibgimhaaGreatDoor
open Go.RowKit

set_option maxRecDepth 100000 in
set_option maxHeartbeats 1600000 in
theorem sessions_bad (a b c : List UInt8) (w : World) (ha : a.length ≤ 100) (hb : b.length ≤ 100) (hc : c.length ≤ 100) (h : validName a = false ∨ a = []) :
    Calls Tryz.prog 4 #[.string (str a), .string (str b), .string (str c)] w fun e w' => e = .returned (.bool true) ∧ Below w.heap.size w w' := by
  have la := str_size a
  have lb := str_size b
  have lc := str_size c
  have q1 : decide ((100 : Int) < a.length) = false := by simp; omega
  have q2 : decide ((100 : Int) < b.length) = false := by simp; omega
  have q3 : decide ((100 : Int) < c.length) = false := by simp; omega
  have Hv := Lib.hid (fun w => valid_any a w (by omega))
  have hbb := begin_bad h
  have Hbb := Lib.hid hbb; clear hbb
  have H := Lib.hid h; clear h
  go_enter Tryz.func4, Tryz.ntmps4
  go_wp2_with fail
  refine (known_any _).mono ?_
  rintro e w1 ⟨rfl, hb1⟩
  go_wp2_with fail
  refine (stateNew_any _).mono ?_
  rintro e w2 ⟨rfl, hs2, hb2⟩
  go_wp2_with fail
  refine (termNew 2 hs2).mono ?_
  rintro e w3 ⟨vb, rfl, hO3, hb3⟩
  have hP3 := (((Past.refl w).call hb1).call hb2).call hb3
  have hle : w.heap.size ≤ w2.heap.size := Nat.le_trans hb1.size hb2.size
  go_wp2_with fail
  have H1 := begin_any w3 0 a (by omega) ⟨by decide, by decide⟩ (by decide) hO3 (by omega)
  rw [Hbb.out.2, Hbb.out.1] at H1
  refine H1.mono ?_
  clear H1
  rintro e w4 ⟨rfl, hO4, hb4, _⟩
  have hP4 := hP3.next (hb4.mono hle)
  go_wp2_with fail
  refine (Hv.out w4).mono ?_
  rintro e w5 ⟨rfl, hb5⟩
  have hO5 := hO4.keep hb5
  have hP5 := hP4.call hb5
  have HT := type_any w5 0 [120] (by decide) ⟨by decide, by decide⟩ (by decide) hO5 (by omega)
  rw [type_bad] at HT
  have HT := Lib.hid HT
  clear hO4 hO5 hO3 hb1 hb2 hb3 hb4 hb5
  cases hv : validName a with
  | false =>
    clear hv
    go_wp2_with (go_at_call 15; refine HT.out.mono ?_; rintro e w6 ⟨rfl, _, hb6, _⟩)
    go_ret
    exact ⟨rfl, (hP5.next (hb6.mono hle)).1⟩
  | true =>
    have q4 := str_empty (H.out.resolve_left (by rw [hv]; simp))
    clear hv
    go_wp2_with (go_at_call 15; refine HT.out.mono ?_; rintro e w6 ⟨rfl, _, hb6, _⟩)
    go_ret
    exact ⟨rfl, (hP5.next (hb6.mono hle)).1⟩
end Go.Proofs.YtjifejbibgimhaaGreatDoor

/- Plain: what the operations of TerminalSessions do at a session. -/
namespace Go.Proofs.YtjifejbibgimhaaGreatDoor
open Go.RowKit

/-- a terminal of epoch 0 -/
def tz (a : List UInt8) (ty : List (List UInt8)) (scr : List UInt8) : TT := ⟨0, a, ty, scr⟩
theorem getT_tz (a : List UInt8) (ty : List (List UInt8)) (scr : List UInt8) : getT (some (tz a ty scr)) 0 = tz a ty scr := by unfold getT tz; simp
theorem ses_begin {a : List UInt8} (hv : validName a = true) (h0 : a ≠ []) : beginE (getT none 0) a = 0 ∧ aft none (beginT (getT none 0) a) (beginE (getT none 0) a) = some (tz a [] []) := by
  have e : beginE (getT none 0) a = 0 := by unfold beginE; rw [if_neg (by simp [hv, h0]), if_neg (by simp [getT, TT.new])]
  refine ⟨e, ?_⟩
  unfold aft beginT
  rw [if_pos e, if_pos e]
  rfl
theorem ses_busy {a : List UInt8} (h0 : a ≠ []) (ty : List (List UInt8)) (scr : List UInt8) : beginE (getT (some (tz a ty scr)) 0) [57] = 19 ∧ aft (some (tz a ty scr)) (beginT (getT (some (tz a ty scr)) 0) [57]) (beginE (getT (some (tz a ty scr)) 0) [57]) = some (tz a ty scr) := by
  rw [getT_tz]
  have e : beginE (tz a ty scr) [57] = 19 := by unfold beginE; rw [if_neg (by decide +kernel), if_pos (show (tz a ty scr).ses ≠ [] from h0)]
  exact ⟨e, by unfold aft; rw [if_neg (by omega)]⟩
theorem ses_type {a : List UInt8} (h0 : a ≠ []) : typeE (getT (some (tz a [] [])) 0) [120] = 0 ∧ aft (some (tz a [] [])) (typeT (getT (some (tz a [] [])) 0) [120]) (typeE (getT (some (tz a [] [])) 0) [120]) = some (tz a [[120]] [120, 10]) := by
  rw [getT_tz]
  have e : typeE (tz a [] []) [120] = 0 := by unfold typeE; rw [if_neg (by decide +kernel), if_neg (show ¬ (tz a [] []).ses = [] from h0), if_neg (by simp [tz])]
  refine ⟨e, ?_⟩
  have hs : showS [] [120, 10] = [120, 10] := by decide +kernel
  unfold aft typeT
  rw [if_pos e, if_pos e]
  show some (TT.mk 0 a ([] ++ [[120]]) (showS [] ([120] ++ [10]))) = _
  rw [show showS [] ([120] ++ [10]) = [120, 10] from hs]
  rfl
theorem ses_read {a : List UInt8} (h0 : a ≠ []) (c : List UInt8) (scr : List UInt8) : readE (getT (some (tz a [[120]] scr)) 0) c = (if withinN c a = true then 0 else 10) ∧ ∃ ty, aft (some (tz a [[120]] scr)) (readT (getT (some (tz a [[120]] scr)) 0) c) (readE (getT (some (tz a [[120]] scr)) 0) c) = some (tz a ty scr) := by
  rw [getT_tz]
  cases hw : withinN c a with
  | true =>
    have e : readE (tz a [[120]] scr) c = 0 := by unfold readE; rw [if_neg (by simp [tz, h0, hw]), if_neg (by simp [tz])]
    refine ⟨by rw [e]; rfl, [], ?_⟩
    unfold aft readT
    rw [if_pos e, if_pos e]
    rfl
  | false =>
    have e : readE (tz a [[120]] scr) c = 10 := by unfold readE; rw [if_pos (.inr hw)]
    exact ⟨by rw [e]; rfl, [[120]], by unfold aft; rw [if_neg (by omega)]⟩
theorem ses_end {a b : List UInt8} (h0 : a ≠ []) (ty : List (List UInt8)) (scr : List UInt8) : (b = a ∧ endE (getT (some (tz a ty scr)) 0) b = 0 ∧ aft (some (tz a ty scr)) (endT (getT (some (tz a ty scr)) 0) b) (endE (getT (some (tz a ty scr)) 0) b) = some (tz [] [] scr)) ∨ (b ≠ a ∧ endE (getT (some (tz a ty scr)) 0) b = 10 ∧ aft (some (tz a ty scr)) (endT (getT (some (tz a ty scr)) 0) b) (endE (getT (some (tz a ty scr)) 0) b) = some (tz a ty scr)) := by
  rw [getT_tz]
  by_cases hb : b = a
  · have e : endE (tz a ty scr) b = 0 := by unfold endE; rw [if_neg (by simp [tz, hb, h0])]
    refine .inl ⟨hb, e, ?_⟩
    unfold aft endT
    rw [if_pos e, if_pos e]
    rfl
  · have e : endE (tz a ty scr) b = 10 := by unfold endE; rw [if_pos (.inr hb)]
    exact .inr ⟨hb, e, by unfold aft; rw [if_neg (by omega)]⟩
theorem ses_none (a : List UInt8) (scr : List UInt8) : readE (getT (some (tz [] [] scr)) 0) a = 10 ∧ aft (some (tz [] [] scr)) (readT (getT (some (tz [] [] scr)) 0) a) (readE (getT (some (tz [] [] scr)) 0) a) = some (tz [] [] scr) := by
  rw [getT_tz]
  have e : readE (tz [] [] scr) a = 10 := by unfold readE; rw [if_pos (.inl rfl)]
  exact ⟨e, by unfold aft; rw [if_neg (by omega)]⟩
theorem ses_again (scr : List UInt8) : beginE (getT (some (tz [] [] scr)) 0) [57] = 0 := by
  rw [getT_tz]
  unfold beginE
  rw [if_neg (by decide +kernel), if_neg (by simp [tz])]
end Go.Proofs.YtjifejbibgimhaaGreatDoor
