/- Contracts of functions on the way to the claim, proved for every input that their hypotheses let by; no condition of the claim. Joined of: Y20. -/
import Derived.Test.YtgonfcdmaoeboaaGreatDoorG24
import Derived.Test.YtgonfcdmaoeboaaGreatDoorG21

/- replevinlaw37.PortEncodes. -/
namespace Go.Proofs.YtgonfcdmaoeboaaGreatDoor
open Go.RowKit

theorem shortQ_len (q : List Pk) : (shortQ q).length ≤ 20 ∧ ∀ p ∈ shortQ q, p.1.length ≤ 9223372036854775807 ∧ p.2.length ≤ 9223372036854775807 := by
  unfold shortQ
  refine ⟨by rw [List.length_map, List.length_take]; omega, fun p hp => ?_⟩
  obtain ⟨r, _, rfl⟩ := List.mem_map.1 hp
  unfold smallP
  simp only [List.length_take]
  omega
theorem SeesP.cells2 {ts : List TypeId} {w w' : World} {B : Nat} {v : Value} {l : List Pk} (h : OwnsP w B v l) (ho : Only ts w w') (ht : 48 ∉ ts) : OwnsP w' B v l := ho.owns h ht
theorem PT.enc_ok {p : PT} (h : p.check = 0) : p.enc = p.bytes := by unfold PT.enc; rw [if_pos h]
theorem PT.enc_no {p : PT} (h : p.check ≠ 0) : p.enc = [] := by unfold PT.enc; rw [if_neg h]

set_option maxRecDepth 100000 in
set_option maxHeartbeats 3200000 in
theorem portEncodes_any (own : List UInt8) (ep lost : Int) (qv : Value) (q : List Pk) (w : World) (hq : SeesP w qv q) (ho : own.length ≤ 9223372036854775807) (hl : q.length ≤ 9223372036854775807) (hls : ∀ p ∈ q, p.1.length ≤ 9223372036854775807 ∧ p.2.length ≤ 9223372036854775807) :
    Calls Tryz.prog 3 #[portV own ep lost qv] w fun x w' => x = .returned (.bool true) ∧ Below w.heap.size w w' := by
  have Hk := Lib.hid pknown_any
  have hS := fun w (h : SeesP w qv q) => short_any own ep lost qv q w h ho hl hls
  unfold ShortPost at hS
  obtain ⟨hQl, hQs⟩ := shortQ_len q
  have hol : (own.take 100).length ≤ 1000000000 := by rw [List.length_take]; omega
  obtain ⟨Q, hQ⟩ : ∃ Q, Q = shortQ q := ⟨_, rfl⟩
  obtain ⟨O, hO⟩ : ∃ O, O = own.take 100 := ⟨_, rfl⟩
  rw [← hQ, ← hO] at hS
  rw [← hQ] at hQl hQs
  rw [← hO] at hol
  clear hQ hO
  unfold portV at hS ⊢
  have HS := Lib.hid hS; clear hS
  have HQs := Lib.hid hQs; clear hQs hls
  obtain ⟨ao, c, rfl⟩ := sees_slice hq
  have hH := Blk.new w #[.string (str own), .int .i64 ep, .int .i64 lost, .slice ao q.length c] 25
  have hP := (Past.refl w).alloc (.cells #[.string (str own), .int .i64 ep, .int .i64 lost, .slice ao q.length c] 25)
  have hq1 := hq.below (below_alloc w (.cells #[.string (str own), .int .i64 ep, .int .i64 lost, .slice ao q.length c] 25))
  clear hq
  go_enter Tryz.func3, Tryz.ntmps3
  go_wp2_with fail
  refine (HS.out _ hq1).mono ?_
  rintro x w2 ⟨av, cv, rfl, hown2, hb2⟩
  have hH2 := hH.below hb2 hH.lt
  have hP2 := hP.call hb2
  have hlt2 := hH2.lt
  clear HS hH hP hb2 hq1
  obtain ⟨_, _, _, _, f0, f1, f2, f3⟩ := hH2.quad
  obtain ⟨_, _, _, _, hH3, hon3⟩ := hH2.stores4 (.string (str O)) (.int .i64 ep) (.int .i64 lost) (.slice av Q.length cv)
  have hown3 := hon3.owns hown2 (by decide)
  have hP3 := hP2.stores4 (b := w.heap.size) (Nat.le_refl _) (.string (str O)) (.int .i64 ep) (.int .i64 lost) (.slice av Q.length cv)
  obtain ⟨W, hW⟩ : ∃ W, W = ((((w2.setCell ⟨w.heap.size, 0, none⟩ (.string (str O))).setCell ⟨w.heap.size, 1, none⟩ (.int .i64 ep)).setCell ⟨w.heap.size, 2, none⟩ (.int .i64 lost)).setCell ⟨w.heap.size, 3, none⟩ (.slice av Q.length cv)) := ⟨_, rfl⟩
  have HW := Lib.hid hW
  rw [← hW] at hH3 hown3 hP3
  clear hW hH2 hP2 hon3 hown2
  have hs3 : SeesP W (.slice av Q.length cv) Q := sees_of_owns hown3
  clear hown3
  obtain ⟨x0, x1, x2, x3, _, _, _, _⟩ := hH3.quad
  have hen := fun w (h : SeesP w (.slice av Q.length cv) Q) => portEncode_any O ep lost (.slice av Q.length cv) Q w h hol (by omega) HQs.out
  have hck := fun w (h : SeesP w (.slice av Q.length cv) Q) => portCheck_any O ep lost (.slice av Q.length cv) Q w h hol (by omega) HQs.out
  have hcl := fun w (h : SeesP w (.slice av Q.length cv) Q) => portCheckL_any O ep lost (.slice av Q.length cv) Q w h hol (by omega) HQs.out
  have hel := fun w (h : SeesP w (.slice av Q.length cv) Q) => portEncodeL_any O ep lost (.slice av Q.length cv) Q w h hol (by omega) HQs.out
  have hok := @portDecE_enc ⟨O, ep, lost, Q⟩
  have hlen := @PT.len ⟨O, ep, lost, Q⟩
  have hyes := @PT.enc_ok ⟨O, ep, lost, Q⟩
  have hno := @PT.enc_no ⟨O, ep, lost, Q⟩
  obtain ⟨E, hE⟩ : ∃ E, E = PT.check ⟨O, ep, lost, Q⟩ := ⟨_, rfl⟩
  obtain ⟨X, hX⟩ : ∃ X, X = PT.enc ⟨O, ep, lost, Q⟩ := ⟨_, rfl⟩
  obtain ⟨Y, hY⟩ : ∃ Y, Y = PT.bytes ⟨O, ep, lost, Q⟩ := ⟨_, rfl⟩
  rw [← hE, ← hX] at hen
  rw [← hE] at hck hcl hel hok hlen hyes hno
  rw [← hX] at hyes hno
  rw [← hY] at hok hlen hyes hel
  clear hE hX hY
  unfold portV at hen hck hcl hel
  have Hen := Lib.hid hen; clear hen
  have Hck := Lib.hid hck; clear hck
  have Hcl := Lib.hid hcl; clear hcl
  have Hel := Lib.hid hel; clear hel
  have Hok := Lib.hid hok; clear hok
  have Hlen := Lib.hid hlen; clear hlen
  have Hyes := Lib.hid hyes; clear hyes
  have Hno := Lib.hid hno; clear hno
  go_wp2_with fail
  rw [← HW.out]
  refine (Hen.out _ hs3).mono ?_
  rintro x w4 ⟨rfl, hb4⟩
  have hH4 := hH3.below hb4 hH3.lt
  have hs4 := hs3.below hb4
  have hP4 := hP3.call hb4
  clear Hen hH3 hs3 hP3 hb4 x0 x1 x2 x3 f0 f1 f2 f3 HW
  obtain ⟨x0, x1, x2, x3, _, _, _, _⟩ := hH4.quad
  go_wp2_with fail
  refine (Hk.out _).mono ?_
  rintro x w5 ⟨rfl, hb5⟩
  have hH5 := hH4.below hb5 hH4.lt
  have hs5 := hs4.below hb5
  have hP5 := hP4.call hb5
  clear Hk hH4 hs4 hP4 hb5 x0 x1 x2 x3
  obtain ⟨x0, x1, x2, x3, _, _, _, _⟩ := hH5.quad
  have z1 : ((E : Int) != (E : Int)) = false := by simp
  go_wp2_with fail
  refine (Hcl.out _ hs5).mono ?_
  rintro x w6 ⟨rfl, hb6⟩
  have hH6 := hH5.below hb6 hH5.lt
  have hs6 := hs5.below hb6
  have hP6 := hP5.call hb6
  clear Hcl hH5 hs5 hP5 hb6 x0 x1 x2 x3
  obtain ⟨x0, x1, x2, x3, _, _, _, _⟩ := hH6.quad
  go_wp2_with fail
  refine (Hck.out _ hs6).mono ?_
  rintro x w7 ⟨rfl, hb7⟩
  have hH7 := hH6.below hb7 hH6.lt
  have hs7 := hs6.below hb7
  have hP7 := hP6.call hb7
  clear Hck hH6 hs6 hP6 hb7 x0 x1 x2 x3
  obtain ⟨x0, x1, x2, x3, _, _, _, _⟩ := hH7.quad
  by_cases h0 : E = 0
  · have z2 : ((E : Int) != 0) = false := by simp [h0]
    obtain ⟨d1, d2⟩ := Hok.out h0
    have hXY := Hyes.out h0
    subst hXY
    have hXl := Hlen.out h0
    have hdec := fun w => portDecode_any X w (by omega)
    unfold PDecPost portV at hdec
    rw [d1, d2] at hdec
    have Hdec := Lib.hid hdec; clear hdec d1 d2
    have Hel := Lib.hid (fun w h => Hel.out w h h0)
    clear h0 Hok Hlen Hyes Hno
    go_wp2_with fail
    refine (Hdec.out _).mono ?_
    rintro x w8 ⟨hb8, qv8, rfl, hown8⟩
    obtain ⟨a8, c8, rfl⟩ := hown8.slice
    have hH8 := (hH7.below hb8 hH7.lt).alloc (.cells #[.string (str O), .int .i64 ep, .int .i64 lost, .slice a8 Q.length c8] 25)
    have hs8 := (hs7.below hb8).below (below_alloc w8 (.cells #[.string (str O), .int .i64 ep, .int .i64 lost, .slice a8 Q.length c8] 25))
    have hu8 := hown8.sees.below (below_alloc w8 (.cells #[.string (str O), .int .i64 ep, .int .i64 lost, .slice a8 Q.length c8] 25))
    have hG8 := Blk.new w8 #[.string (str O), .int .i64 ep, .int .i64 lost, .slice a8 Q.length c8] 25
    have hP8 := (hP7.call hb8).alloc (.cells #[.string (str O), .int .i64 ep, .int .i64 lost, .slice a8 Q.length c8] 25)
    clear Hdec hH7 hs7 hP7 hb8 hown8 x0 x1 x2 x3
    obtain ⟨x0, x1, x2, x3, _, _, _, _⟩ := hH8.quad
    go_wp2_with fail
    refine (Hel.out _ hs8).mono ?_
    rintro x w9 ⟨rfl, hb9⟩
    have hH9 := hH8.below hb9 hH8.lt
    have hG9 := hG8.below hb9 hG8.lt
    have hs9 := hs8.below hb9
    have hu9 := hu8.below hb9
    have hP9 := hP8.call hb9
    clear Hel hH8 hG8 hs8 hu8 hP8 hb9 x0 x1 x2 x3
    obtain ⟨x0, x1, x2, x3, _, _, _, _⟩ := hH9.quad
    obtain ⟨y0, y1, y2, y3, _, _, _, _⟩ := hG9.quad
    have z3 : ((str X).toList == (str X).toList) = true := by simp
    go_wp2_with fail
    refine (portEqual_any O ep lost _ Q O ep lost _ Q _ hs9 hu9 (by omega)).mono ?_
    rw [samePB_refl]
    rintro x wA ⟨rfl, hbA⟩
    have hPA := hP9.call hbA
    clear hs9 hu9 hP9 hbA x0 x1 x2 x3 y0 y1 y2 y3
    go_wp2
    go_ret
    exact ⟨rfl, hPA.1⟩
  · have z2 : ((E : Int) != 0) = true := by simp; omega
    have hX0 := Hno.out h0
    subst hX0
    have z3 : (str []).toList = [] := str_toList _
    have z4 : (str []).toList.isEmpty = true := str_empty rfl
    clear h0 Hok Hlen Hyes Hno Hel
    go_wp2
    go_ret
    exact ⟨rfl, hP7.1⟩
end Go.Proofs.YtgonfcdmaoeboaaGreatDoor
