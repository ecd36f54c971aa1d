/- Contracts of functions on the way to the claim, proved for every input that their hypotheses let by; no condition of the claim. Joined of: Y21 Y22. -/
import Derived.Test.YtgonfcdmaoeboaaGreatDoorG26
import Derived.Test.YtgonfcdmaoeboaaGreatDoorG24
import Derived.Test.YtgonfcdmaoeboaaGreatDoorG22

/- replevinlaw37.Op.call on a nil view: Receive, Get; any operation. -/
namespace Go.Proofs.YtgonfcdmaoeboaaGreatDoor
open Go.RowKit
attribute [local go_sem ↓] Go.wp_at_zero Go.wp_at_succ

set_option maxRecDepth 100000 in
set_option maxHeartbeats 3200000 in
theorem callNil_receive (w : World) (kd wh us : Nat) (hkd : (kd : Int) % 5 = 3) (hwh : wh ≤ 255) (n ep : Int) (p : Pk) :
    Calls Tryz.prog 31 #[.agg (opP kd wh us n ep p), .pointer none] w fun x w' => x = .returned (.agg #[.string ⟨#[]⟩, .string ⟨#[]⟩, .string ⟨#[]⟩, .int .i64 1]) ∧ Below w.heap.size w w' := by
  have hD := CBlks.new w (opP kd wh us n ep p)
  have hP := ((((Past.refl w).alloc (.cells (opP kd wh us n ep p) 60)).alloc (.cells zeroR 62)).alloc (.cells zeroR 62))
  unfold zeroR opP at *
  obtain ⟨W, hW⟩ : ∃ W, W = (((w.alloc (.cells #[.int .u8 kd, .int .u8 wh, .int .u8 us, .int .i64 n, .int .i64 ep, .string (str p.1), .string (str p.2)] 60)).alloc (.cells #[.string ⟨#[]⟩, .string ⟨#[]⟩, .string ⟨#[]⟩, .int .i64 0] 62)).alloc (.cells #[.string ⟨#[]⟩, .string ⟨#[]⟩, .string ⟨#[]⟩, .int .i64 0] 62)) := ⟨_, rfl⟩
  go_enter Tryz.func31, Tryz.ntmps31
  go_wp2_with fail
  rw [← hW] at hD hP ⊢
  clear hW hkd
  obtain ⟨u0, u1, u2, u3, u4, u5, u6⟩ := hD.op.sevens
  go_region_held3 (fun w' => w'.cell? ⟨w.heap.size, 1, none⟩ = some (.int .u8 wh) ∧ w'.cell? ⟨w.heap.size, 3, none⟩ = some (.int .i64 n) ∧ w'.cell? ⟨w.heap.size, 4, none⟩ = some (.int .i64 ep))
    (first | (simp only [cell_far2]; with_reducible exact ⟨ho6.2.1, ho6.2.2.2.1, ho6.2.2.2.2.1⟩) | with_reducible exact ⟨ho5.2.1, ho5.2.2.2.1, ho5.2.2.2.2.1⟩ | with_reducible exact ⟨ho6.2.1, ho6.2.2.2.1, ho6.2.2.2.2.1⟩ | go_keep)
    (first
      | (go_at_call 76; refine (whoL_any _ (by omega) _).mono ?_; rintro x w5 ⟨rfl, hb5⟩; have hB5 := ((Past.refl W).drew.call hb5).1; have hD5 := hD.below hB5; have ho5 := hD5.op.sevens)
      | (go_at_call 28; refine (portReceiveNil _ _ _ _).mono ?_; rintro x w6 ⟨rfl, hb6⟩; have hD6 := hD5.below hb6; have ho6 := hD6.op.sevens; obtain ⟨r0, r1, r2, r3, f0, f1, f2, f3⟩ := hD6.res.quad))
  all_goals (
    have hP6 := (hP.call hB5).call hb6
    have hD7 := ((hD6.set 0 (.string ⟨#[]⟩)).set 1 (.string ⟨#[]⟩)).set 3 (.int .i64 1)
    have hpw := ((hP6.set (p := ⟨w.heap.size + 1 + 1, 0, none⟩) (by show _ ≤ w.heap.size + 1 + 1; omega) (.string ⟨#[]⟩)).set (p := ⟨w.heap.size + 1 + 1, 1, none⟩) (by show _ ≤ w.heap.size + 1 + 1; omega) (.string ⟨#[]⟩)).set (p := ⟨w.heap.size + 1 + 1, 3, none⟩) (by show _ ≤ w.heap.size + 1 + 1; omega) (.int .i64 1)
    have hr7 := hD7.res.congr (cs' := #[.string ⟨#[]⟩, .string ⟨#[]⟩, .string ⟨#[]⟩, .int .i64 1]) rfl
    have ho7 := hD7.out
    unfold zeroR at ho7
    obtain ⟨W7, hW7⟩ : ∃ W7, W7 = (((w6.setCell ⟨w.heap.size + 1 + 1, 0, none⟩ (.string ⟨#[]⟩)).setCell ⟨w.heap.size + 1 + 1, 1, none⟩ (.string ⟨#[]⟩)).setCell ⟨w.heap.size + 1 + 1, 3, none⟩ (.int .i64 1)) := ⟨_, rfl⟩
    rw [← hW7] at hpw hr7 ho7 ⊢
    clear hW7 hD7 hD6 r0 r1 r2 r3 f0 f1 f2 f3 u0 u1 u2 u3 u4 u5 u6
    obtain ⟨r0, r1, r2, r3, _, _, _, _⟩ := hr7.quad
    obtain ⟨z0, z1, z2, z3, f0, f1, f2, f3⟩ := ho7.quad
    obtain ⟨q0, q1, q2, q3, hq, hoq⟩ := ho7.stores4 (.string ⟨#[]⟩) (.string ⟨#[]⟩) (.string ⟨#[]⟩) (.int .i64 1)
    obtain ⟨s0, s1, s2, s3, _, _, _, _⟩ := hq.quad
    have hps := hpw.stores4 (b := w.heap.size + 1) (by omega) (.string ⟨#[]⟩) (.string ⟨#[]⟩) (.string ⟨#[]⟩) (.int .i64 1)
    go_wp2
    exact bodyPost_ret (v := .agg #[.string ⟨#[]⟩, .string ⟨#[]⟩, .string ⟨#[]⟩, .int .i64 1]) (by simp [results, Tryz.results31, go_sem, s0, s1, s2, s3]) rfl ⟨rfl, hps.1⟩)

set_option maxRecDepth 100000 in
set_option maxHeartbeats 3200000 in
theorem callNil_get (w : World) (kd wh us : Nat) (hkd : (kd : Int) % 5 = 4) (n ep : Int) (p : Pk) :
    Calls Tryz.prog 31 #[.agg (opP kd wh us n ep p), .pointer none] w fun x w' => x = .returned (.agg #[.string ⟨#[]⟩, .string ⟨#[]⟩, .string ⟨#[]⟩, .int .i64 1]) ∧ Below w.heap.size w w' := by
  have hD := CBlks.new w (opP kd wh us n ep p)
  have hP := ((((Past.refl w).alloc (.cells (opP kd wh us n ep p) 60)).alloc (.cells zeroR 62)).alloc (.cells zeroR 62))
  unfold zeroR opP at *
  obtain ⟨W, hW⟩ : ∃ W, W = (((w.alloc (.cells #[.int .u8 kd, .int .u8 wh, .int .u8 us, .int .i64 n, .int .i64 ep, .string (str p.1), .string (str p.2)] 60)).alloc (.cells #[.string ⟨#[]⟩, .string ⟨#[]⟩, .string ⟨#[]⟩, .int .i64 0] 62)).alloc (.cells #[.string ⟨#[]⟩, .string ⟨#[]⟩, .string ⟨#[]⟩, .int .i64 0] 62)) := ⟨_, rfl⟩
  go_enter Tryz.func31, Tryz.ntmps31
  go_wp2_with fail
  rw [← hW] at hD hP ⊢
  clear hW hkd
  refine (portGetNil _ _ _).mono ?_
  rintro x w6 ⟨rfl, hb6⟩
  have hD6 := hD.below hb6
  have hP6 := hP.call hb6
  have hlt6 := hD6.res.lt
  have hlt5 := hD6.out.lt
  obtain ⟨r0, r1, r2, r3, f0, f1, f2, f3⟩ := hD6.res.quad
  have ho6 := hD6.out
  unfold zeroR at ho6
  obtain ⟨z0, z1, z2, z3, g0, g1, g2, g3⟩ := ho6.quad
  go_wp2
  have ho7 := ho6.setOther (a := ⟨w.heap.size + 1 + 1, 3, none⟩) (by simp) (.int .i64 1)
  obtain ⟨_, _, _, _, hq, _⟩ := ho7.stores4 (.string ⟨#[]⟩) (.string ⟨#[]⟩) (.string ⟨#[]⟩) (.int .i64 1)
  obtain ⟨s0, s1, s2, s3, _, _, _, _⟩ := (hq.alloc (.cells #[.string ⟨#[]⟩, .int .i64 0, .int .i64 0, .slice none 0 0] 25)).quad
  have hps := ((hP6.set (p := ⟨w.heap.size + 1 + 1, 3, none⟩) (by show _ ≤ w.heap.size + 1 + 1; omega) (.int .i64 1)).stores4 (b := w.heap.size + 1) (by omega) (.string ⟨#[]⟩) (.string ⟨#[]⟩) (.string ⟨#[]⟩) (.int .i64 1)).alloc (.cells #[.string ⟨#[]⟩, .int .i64 0, .int .i64 0, .slice none 0 0] 25)
  exact bodyPost_ret (v := .agg #[.string ⟨#[]⟩, .string ⟨#[]⟩, .string ⟨#[]⟩, .int .i64 1]) (by simp [results, Tryz.results31, go_sem, s0, s1, s2, s3]) rfl ⟨rfl, hps.1⟩

theorem callNil_any (w : World) (kd wh us : Nat) (hwh : wh ≤ 255) (hus : us ≤ 255) (n ep : Int) (p : Pk) (hp : p.1.length ≤ 9223372036854775807 ∧ p.2.length ≤ 9223372036854775807) :
    Calls Tryz.prog 31 #[.agg (opP kd wh us n ep p), .pointer none] w fun x w' => x = .returned (.agg #[.string ⟨#[]⟩, .string ⟨#[]⟩, .string ⟨#[]⟩, .int .i64 1]) ∧ Below w.heap.size w w' := by
  have h5 : (kd : Int) % 5 = 0 ∨ (kd : Int) % 5 = 1 ∨ (kd : Int) % 5 = 2 ∨ (kd : Int) % 5 = 3 ∨ (kd : Int) % 5 = 4 := by omega
  rcases h5 with h | h | h | h | h
  · exact callNil_open w kd wh us h hwh hus n ep p hp
  · exact callNil_close w kd wh us h hwh hus n ep p hp
  · exact callNil_arrive w kd wh us h hwh hus n ep p hp
  · exact callNil_receive w kd wh us h hwh n ep p
  · exact callNil_get w kd wh us h n ep p
end Go.Proofs.YtgonfcdmaoeboaaGreatDoor

/- replevinlaw37.PortNil. -/
namespace Go.Proofs.YtgonfcdmaoeboaaGreatDoor
open Go.RowKit

theorem openE_root {who : List UInt8} {n ep : Int} : openE who 0 n ep none = portBeg who n ep := by
  unfold openE
  by_cases h : portBeg who n ep = 0
  · rw [if_neg (by simp [h]), if_neg (by simp), rdPort_none, if_neg (by decide), h]
  · rw [if_pos h]
theorem name60 {l : List UInt8} : ∃ X : List UInt8, X.length ≤ 60 ∧ (60 < l.length → (str l).extract 0 60 = str X) ∧ (l.length ≤ 60 → (str l).extract 0 l.length = str X) :=
  ⟨l.take 60, by rw [List.length_take]; omega, fun _ => by rw [str_extract]; rfl, fun h => by rw [str_extract, List.drop_zero, List.take_of_length_le (by omega), List.take_of_length_le h]⟩

set_option maxRecDepth 100000 in
set_option maxHeartbeats 3200000 in
theorem portNil_any (w : World) (kd wh us : Nat) (hwh : wh ≤ 255) (hus : us ≤ 255) (n ep : Int) (p : Pk) (hp : p.1.length ≤ 9223372036854775807 ∧ p.2.length ≤ 9223372036854775807) (l : List UInt8) (hl : l.length ≤ 9223372036854775807) :
    Calls Tryz.prog 6 #[.agg (opP kd wh us n ep p), .string (str l)] w fun x w' => x = .returned (.bool true) ∧ Below w.heap.size w w' := by
  have Hk := Lib.hid pknown_any
  have Hc := Lib.hid (fun w => callNil_any w kd wh us hwh hus n ep p hp)
  have l1 := str_size l
  obtain ⟨X, hXl, hX1, hX2⟩ := name60 (l := l)
  have hH := Blk.new w (opP kd wh us n ep p) 60
  have hP := (Past.refl w).alloc (.cells (opP kd wh us n ep p) 60)
  have Hv := fun w => valid_any X w (by omega)
  have hEc : ∃ E, openE X 0 n ep none = E ∧ ((validName X = false ∧ E = 12) ∨ (validName X = true ∧ ¬ ((1 ≤ n ∧ n ≤ 9999) ∧ (0 ≤ ep ∧ ep ≤ 1073741824)) ∧ E = 2) ∨ (validName X = true ∧ (1 ≤ n ∧ n ≤ 9999) ∧ (0 ≤ ep ∧ ep ≤ 1073741824) ∧ E = 0)) := by
    refine ⟨_, openE_root, ?_⟩
    unfold portBeg
    cases hv : validName X with
    | false => exact .inl ⟨rfl, by rw [if_pos rfl]⟩
    | true =>
      right
      rw [if_neg (by simp)]
      by_cases h : (1 ≤ n ∧ n ≤ 9999) ∧ (0 ≤ ep ∧ ep ≤ 1073741824)
      · right; exact ⟨rfl, h.1, h.2, by rw [if_neg (by simp [h])]⟩
      · left; exact ⟨rfl, h, by rw [if_pos (by by_cases h1 : 1 ≤ n ∧ n ≤ 9999
                                               · exact .inr (fun h2 => h ⟨h1, h2⟩)
                                               · exact .inl h1)]⟩
  obtain ⟨E, hE, hcase⟩ := hEc
  have HE := Lib.hid hE; clear hE
  unfold opP at Hc hH hP ⊢
  have Hc2 := Lib.hid Hc; clear Hc
  obtain ⟨W, hW⟩ : ∃ W, W = w.alloc (.cells #[.int .u8 kd, .int .u8 wh, .int .u8 us, .int .i64 n, .int .i64 ep, .string (str p.1), .string (str p.2)] 60) := ⟨_, rfl⟩
  go_enter Tryz.func6, Tryz.ntmps6
  go_wp2_with fail
  rw [← hW] at hH hP ⊢
  clear hW
  refine (Hk.out _).mono ?_
  rintro x w1 ⟨rfl, hb1⟩
  have hH1 := hH.below hb1 hH.lt
  have hP1 := hP.call hb1
  clear hH hP hb1 Hk
  obtain ⟨x0, x1, x2, x3, x4, x5, x6⟩ := hH1.sevens
  go_wp2_with fail
  all_goals
    first | rw [hX1 (by omega)] | rw [hX2 (by omega)]
    clear hX1 hX2
    refine (Hc2.out.out _).mono ?_
    rintro x w2 ⟨rfl, hb2⟩
    have hH2 := (hH1.below hb2 hH1.lt).alloc (.cells #[.string ⟨#[]⟩, .string ⟨#[]⟩, .string ⟨#[]⟩, .int .i64 1] 62)
    have hR2 := Blk.new w2 #[.string ⟨#[]⟩, .string ⟨#[]⟩, .string ⟨#[]⟩, .int .i64 1] 62
    have hP2 := (hP1.call hb2).alloc (.cells #[.string ⟨#[]⟩, .string ⟨#[]⟩, .string ⟨#[]⟩, .int .i64 1] 62)
    clear hH1 hP1 hb2 Hc2 x0 x1 x2 x3 x4 x5 x6
    go_wp2_with fail
    refine (stateNew_any _).mono ?_
    rintro e w3 ⟨rfl, hs3, hb3⟩
    rw [World.size_alloc] at hs3
    have hH3 := hH2.below hb3 hH2.lt
    have hR3 := hR2.below hb3 hR2.lt
    have hP3 := hP2.call hb3
    clear hH2 hR2 hP2 hb3
    go_wp2_with fail
    refine (portNew n hs3).mono ?_
    rintro e w4 ⟨vb, rfl, hO4, hb4⟩
    have hH4 := hH3.below hb4 hH3.lt
    have hR4 := hR3.below hb4 hR3.lt
    have hP4 := hP3.call hb4
    have hle : w.heap.size ≤ w3.heap.size := hP3.2
    clear hH3 hR3 hP3 hb4 hs3
    obtain ⟨x0, x1, x2, x3, x4, x5, x6⟩ := hH4.sevens
    go_wp2_with fail
    have H := portOpen_any w4 X (by omega) 0 ep (.slice none 0 0) (by decide) hO4 (by omega)
    rw [HE.out] at H
    have HH := Lib.hid H; clear H
    refine HH.out.mono ?_
    rintro e w5 ⟨rfl, _, hb5, hc5⟩
    have hH5 := hc5.blk hH4 (by decide)
    have hR5 := hc5.blk hR4 (by decide)
    have hP5 := hP4.next (hb5.mono hle)
    clear HH hO4 hP4 hb5 hc5 hH4 hR4 x0 x1 x2 x3 x4 x5 x6
    go_wp2_with fail
    rcases hcase with ⟨hv, rfl⟩ | ⟨hv, hno, rfl⟩ | ⟨hv, hn, he, rfl⟩
    all_goals
      rw [hv] at Hv
      have Hv2 := Lib.hid Hv; clear Hv hv
      refine (Hv2.out _).mono ?_
      rintro e w6 ⟨rfl, hb6⟩
      have hH6 := hH5.below hb6 hH5.lt
      have hR6 := hR5.below hb6 hR5.lt
      have hP6 := hP5.call hb6
      clear hH5 hR5 hP5 hb6 Hv2
      obtain ⟨x0, x1, x2, x3, x4, x5, x6⟩ := hH6.sevens
      obtain ⟨y0, y1, y2, y3, _, _, _, _⟩ := hR6.quad
      first
        | (by_cases h1 : n < 1
           · go_wp2; go_ret; exact ⟨rfl, hP6.1⟩
           · by_cases h2 : 9999 < n
             · have g1 : decide (n < 1) = false := decide_eq_false h1
               go_wp2; go_ret; exact ⟨rfl, hP6.1⟩
             · by_cases h3 : ep < 0
               · have g1 : decide (n < 1) = false := decide_eq_false h1
                 have g2 : decide (9999 < n) = false := decide_eq_false h2
                 go_wp2; go_ret; exact ⟨rfl, hP6.1⟩
               · have h4 : 1073741824 < ep := by
                   clear x0 x1 x2 x3 x4 x5 x6 y0 y1 y2 y3
                   rcases Classical.em (1073741824 < ep) with h | h
                   · exact h
                   · exact absurd ⟨⟨by omega, by omega⟩, by omega, by omega⟩ hno
                 have g1 : decide (n < 1) = false := decide_eq_false h1
                 have g2 : decide (9999 < n) = false := decide_eq_false h2
                 have g3 : decide (ep < 0) = false := decide_eq_false h3
                 clear hno
                 go_wp2; go_ret; exact ⟨rfl, hP6.1⟩)
        | (have g1 : decide (n < 1) = false := decide_eq_false (by omega)
           have g2 : decide (9999 < n) = false := decide_eq_false (by omega)
           have g3 : decide (ep < 0) = false := decide_eq_false (by omega)
           have g4 : decide (1073741824 < ep) = false := decide_eq_false (by omega)
           go_wp2; go_ret; exact ⟨rfl, hP6.1⟩)
        | (go_wp2; go_ret; exact ⟨rfl, hP6.1⟩)
end Go.Proofs.YtgonfcdmaoeboaaGreatDoor
