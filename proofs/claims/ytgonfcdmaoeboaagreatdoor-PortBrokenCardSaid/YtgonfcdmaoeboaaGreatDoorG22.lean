/- Contracts of functions on the way to the claim, proved for every input that their hypotheses let by; no condition of the claim. Joined of: Y10 Y11 Y12 Y13. -/
import Derived.Test.YtgonfcdmaoeboaaGreatDoorG21
import Derived.Test.YtgonfcdmaoeboaaGreatDoorG5

/- port: Open, Arrive, Receive, Get. -/
namespace Go.Proofs.YtgonfcdmaoeboaaGreatDoor
open Go.RowKit

theorem cells_back {ts : List TypeId} {w0 w1 w' : World} (h1 : Below w0.heap.size w0 w1) (h2 : Cells ts w1 w') : Cells ts w0 w' := (Cells.of_below h1).trans h2

/-- Open -/
def openE (who : List UInt8) (us n ep : Int) (cur : Option (List UInt8)) : Nat :=
  if portBeg who n ep ≠ 0 then portBeg who n ep else if n ≤ 99 ∧ us ≠ 0 then 14 else if (rdPort cur ep).2 = 0 then 19 else 0
def openC (who : List UInt8) (us n ep : Int) (cur : Option (List UInt8)) : Option (List UInt8) := if openE who us n ep cur = 0 then some (PT.bytes ⟨who, ep, 0, []⟩) else cur
theorem new_port_ok {who : List UInt8} {ep : Int} (hv : validName who = true) (he : 0 ≤ ep ∧ ep ≤ 1073741824) : PT.check ⟨who, ep, 0, []⟩ = 0 := PT.check_ok.2 ⟨hv, he, by simp, by simp, rfl⟩

section
variable {B : Nat} {vb : Nat} {base : Value} {n : Int} {cur : Option (List UInt8)} {k : Nat}
set_option maxRecDepth 100000 in
set_option maxHeartbeats 3200000 in
theorem portOpen_any (w : World) (who : List UInt8) (hwl : who.length ≤ 1000000000) (us ep : Int) (gv : Value) (hcl : (cur.getD []).length ≤ 1000000000) (hO : ObjIs B w vb base 16 [] n 0 [] cur k) (hk : k < 999990) :
    Calls Tryz.prog 24 #[.pointer (some ⟨vb, 0, none⟩), .string (str who), .agg #[.int .i64 us, gv], .int .i64 n, .int .i64 ep] w fun e w' => e = .returned (.int .i64 (openE who us n ep cur)) ∧ ObjIs B w' vb base 16 [] n 0 [] (openC who us n ep cur) (k + 2) ∧ Below B w w' ∧ Cells [131] w w' := by
  have hB := hO.le
  have hbg := fun w => portBegin_any ⟨vb, 0, none⟩ who hwl n ep w
  have hx0 := Blk.new w #[.int .i64 us, gv] 46
  have hO0 := hO.keep (below_alloc w (.cells #[.int .i64 us, gv] 46))
  have hP0 := (Past.at (w := w) hB).alloc (.cells #[.int .i64 us, gv] 46)
  have hPw := (Past.refl w).alloc (.cells #[.int .i64 us, gv] 46)
  by_cases hb0 : portBeg who n ep = 0
  · obtain ⟨hv, ⟨hn1, hn2⟩, hep⟩ := portBeg_zero.1 hb0
    obtain ⟨n', rfl⟩ := Int.eq_ofNat_of_zero_le (by omega : 0 ≤ n)
    rw [hb0] at hbg
    have Hbg := Lib.hid hbg; clear hbg
    by_cases h99 : (n' : Int) ≤ 99 ∧ us ≠ 0
    · obtain ⟨q1, q2⟩ := h99
      have e1 : openE who us n' ep cur = 14 := by unfold openE; rw [if_neg (by simp [hb0]), if_pos ⟨q1, q2⟩]
      have e2 : openC who us n' ep cur = cur := by unfold openC; rw [if_neg (by omega)]
      have q3 : (us == 0) = false := by simp [q2]
      have q3' : (us != 0) = true := by simp [q2]
      rw [e1, e2]; clear e1 e2 hb0 q2
      go_enter Tryz.func24, Tryz.ntmps24
      go_wp2_with (go_at_call 68; refine (Hbg.out _).mono ?_; rintro x w2 ⟨rfl, hb2⟩; have hx2 := hx0.below hb2 hx0.lt; obtain ⟨x0, x1, _, _⟩ := hx2.two)
      go_ret
      exact ⟨rfl, (hO0.keep hb2).more (by omega), (hP0.call hb2).1, Cells.of_below (hPw.call hb2).1⟩
    · have hrd := fun w (h : ObjIs B w vb base 16 [] (n' : Int) 0 [] cur k) => portRead_any w ep (by omega) hcl h (by omega)
      unfold portV at hrd
      obtain ⟨R, hR⟩ : ∃ R, R = rdPort cur ep := ⟨_, rfl⟩
      rw [← hR] at hrd
      have Hrd := Lib.hid hrd; clear hrd
      by_cases hr : R.2 = 0
      · have e1 : openE who us n' ep cur = 19 := by unfold openE; rw [if_neg (by simp [hb0]), if_neg h99, if_pos (by rw [← hR]; exact hr)]
        have e2 : openC who us n' ep cur = cur := by unfold openC; rw [if_neg (by omega)]
        have k1 : ((R.2 : Int) == 0) = true := by simp [hr]
        rw [e1, e2]; clear e1 e2 hb0 hR hr
        by_cases h9 : (n' : Int) ≤ 99
        · have q3 : (us == 0) = true := by
            by_cases hu : us = 0
            · simp [hu]
            · exact absurd ⟨h9, hu⟩ h99
          have q3' : (us != 0) = false := by simpa using q3
          clear h99
          go_enter Tryz.func24, Tryz.ntmps24
          go_wp2_with (first
            | (go_at_call 68; refine (Hbg.out _).mono ?_; rintro x w2 ⟨rfl, hb2⟩; have hx2 := hx0.below hb2 hx0.lt; obtain ⟨x0, x1, _, _⟩ := hx2.two; have hO2 := hO0.keep hb2; have hP2 := hP0.call hb2; have hPw2 := hPw.call hb2)
            | (go_at_call 69; refine (Hrd.out _ hO2).mono ?_; rintro x w4 ⟨qv, rfl, hown4, hO4, hb4, hc4⟩; obtain ⟨av, cv, rfl⟩ := hown4.slice))
          go_ret
          exact ⟨rfl, (hO4.keep (below_alloc w4 _)).more (by omega), (hP2.next hb4).1.alloc hO4.le _, (((Cells.of_below hPw2.1).trans hc4).trans (Cells.of_below (below_alloc w4 _))).more (by simp)⟩
        · have q9 : decide ((n' : Int) ≤ 99) = false := decide_eq_false h9
          clear h99 h9
          go_enter Tryz.func24, Tryz.ntmps24
          go_wp2_with (first
            | (go_at_call 68; refine (Hbg.out _).mono ?_; rintro x w2 ⟨rfl, hb2⟩; have hO2 := hO0.keep hb2; have hP2 := hP0.call hb2; have hPw2 := hPw.call hb2)
            | (go_at_call 69; refine (Hrd.out _ hO2).mono ?_; rintro x w4 ⟨qv, rfl, hown4, hO4, hb4, hc4⟩; obtain ⟨av, cv, rfl⟩ := hown4.slice))
          go_ret
          exact ⟨rfl, (hO4.keep (below_alloc w4 _)).more (by omega), (hP2.next hb4).1.alloc hO4.le _, (((Cells.of_below hPw2.1).trans hc4).trans (Cells.of_below (below_alloc w4 _))).more (by simp)⟩
      · have e1 : openE who us n' ep cur = 0 := by unfold openE; rw [if_neg (by simp [hb0]), if_neg h99, if_neg (by rw [← hR]; exact hr)]
        have e2 : openC who us n' ep cur = some (PT.bytes ⟨who, ep, 0, []⟩) := by unfold openC; rw [if_pos e1]
        have k1 : ((R.2 : Int) == 0) = false := by simp; omega
        have hck := new_port_ok hv hep
        have hen := fun w => portEncode_any who ep 0 (.slice none 0 0) [] w (OwnsP.nil w 0).sees hwl (by simp) (by simp)
        have e3 : PT.enc ⟨who, ep, 0, []⟩ = PT.bytes ⟨who, ep, 0, []⟩ := by unfold PT.enc; rw [if_pos hck]
        have hbl := PT.len hck
        rw [e3, hck] at hen
        obtain ⟨BY, hBY⟩ : ∃ b, b = PT.bytes ⟨who, ep, 0, []⟩ := ⟨_, rfl⟩
        rw [← hBY] at hen hbl
        rw [e1, e2, ← hBY]; clear e1 e2 e3 hb0 hR hr hck hBY
        unfold portV at hen
        have Hen := Lib.hid hen; clear hen
        have Ho := Lib.hid (fun w => ofPort_any (n' : Int) w)
        have HN := Lib.hid (nameOk_port (n := (n' : Int)) hn1 hn2)
        have tail : ∀ w4 : World, ObjIs B w4 vb base 16 [] (n' : Int) 0 [] cur (k + 1) → True := fun _ _ => trivial
        by_cases h9 : (n' : Int) ≤ 99
        · have q3 : (us == 0) = true := by
            by_cases hu : us = 0
            · simp [hu]
            · exact absurd ⟨h9, hu⟩ h99
          have q3' : (us != 0) = false := by simpa using q3
          clear h99 tail
          go_enter Tryz.func24, Tryz.ntmps24
          go_wp2_with (first
            | (go_at_call 68; refine (Hbg.out _).mono ?_; rintro x w2 ⟨rfl, hb2⟩; have hx2 := hx0.below hb2 hx0.lt; obtain ⟨x0, x1, _, _⟩ := hx2.two; have hO2 := hO0.keep hb2; have hP2 := hP0.call hb2; have hPw2 := hPw.call hb2)
            | (go_at_call 69; refine (Hrd.out _ hO2).mono ?_; rintro x w4 ⟨qv, rfl, hown4, hO4, hb4, hc4⟩; obtain ⟨av, cv, rfl⟩ := hown4.slice; have hO5 := hO4.keep (below_alloc w4 (.cells #[.string (str R.1.own), .int .i64 R.1.ep, .int .i64 R.1.lost, .slice av R.1.q.length cv] 25)); have hP5 := (hP2.next hb4).alloc (.cells #[.string (str R.1.own), .int .i64 R.1.ep, .int .i64 R.1.lost, .slice av R.1.q.length cv] 25); have hc5 := ((Cells.of_below hPw2.1).trans hc4).trans (Cells.of_below (below_alloc w4 (.cells #[.string (str R.1.own), .int .i64 R.1.ep, .int .i64 R.1.lost, .slice av R.1.q.length cv] 25))))
            | (go_at_call 15; refine (Hen.out _).mono ?_; rintro x w6 ⟨rfl, hb6⟩; have hO6 := hO5.keep hb6; have hP6 := hP5.call hb6; have hc6 := hc5.trans (Cells.of_below hb6))
            | (go_at_call 34; refine (Ho.out _).mono ?_; rintro x w8 ⟨rfl, hb8⟩; have hO8 := hO6.keep hb8; have hP8 := hP6.call hb8; have hc8 := hc6.trans (Cells.of_below hb8))
            | (go_at_call 70; refine (objSet HN.out hO8 (by omega) BY (by omega)).mono ?_; rintro x w10 ⟨rfl, hO10, hb10, hc10⟩))
          go_ret
          exact ⟨rfl, hO10, (hP8.next hb10).1, (hc8.more (by simp)).trans hc10⟩
        · have q9 : decide ((n' : Int) ≤ 99) = false := decide_eq_false h9
          clear h99 h9 tail
          go_enter Tryz.func24, Tryz.ntmps24
          go_wp2_with (first
            | (go_at_call 68; refine (Hbg.out _).mono ?_; rintro x w2 ⟨rfl, hb2⟩; have hO2 := hO0.keep hb2; have hP2 := hP0.call hb2; have hPw2 := hPw.call hb2)
            | (go_at_call 69; refine (Hrd.out _ hO2).mono ?_; rintro x w4 ⟨qv, rfl, hown4, hO4, hb4, hc4⟩; obtain ⟨av, cv, rfl⟩ := hown4.slice; have hO5 := hO4.keep (below_alloc w4 (.cells #[.string (str R.1.own), .int .i64 R.1.ep, .int .i64 R.1.lost, .slice av R.1.q.length cv] 25)); have hP5 := (hP2.next hb4).alloc (.cells #[.string (str R.1.own), .int .i64 R.1.ep, .int .i64 R.1.lost, .slice av R.1.q.length cv] 25); have hc5 := ((Cells.of_below hPw2.1).trans hc4).trans (Cells.of_below (below_alloc w4 (.cells #[.string (str R.1.own), .int .i64 R.1.ep, .int .i64 R.1.lost, .slice av R.1.q.length cv] 25))))
            | (go_at_call 15; refine (Hen.out _).mono ?_; rintro x w6 ⟨rfl, hb6⟩; have hO6 := hO5.keep hb6; have hP6 := hP5.call hb6; have hc6 := hc5.trans (Cells.of_below hb6))
            | (go_at_call 34; refine (Ho.out _).mono ?_; rintro x w8 ⟨rfl, hb8⟩; have hO8 := hO6.keep hb8; have hP8 := hP6.call hb8; have hc8 := hc6.trans (Cells.of_below hb8))
            | (go_at_call 70; refine (objSet HN.out hO8 (by omega) BY (by omega)).mono ?_; rintro x w10 ⟨rfl, hO10, hb10, hc10⟩))
          go_ret
          exact ⟨rfl, hO10, (hP8.next hb10).1, (hc8.more (by simp)).trans hc10⟩
  · obtain ⟨E, hE⟩ : ∃ E, E = portBeg who n ep := ⟨_, rfl⟩
    have e1 : openE who us n ep cur = E := by unfold openE; rw [if_pos hb0, hE]
    have e2 : openC who us n ep cur = cur := by unfold openC; rw [if_neg (by rw [e1, hE]; exact hb0)]
    rw [← hE] at hbg hb0
    have Hbg := Lib.hid hbg; clear hbg
    have q1 : ((E : Int) == 0) = false := by simp; omega
    have q2 : ((E : Int) != 0) = true := by simp; omega
    rw [e1, e2]; clear e1 e2 hE
    go_enter Tryz.func24, Tryz.ntmps24
    go_wp2_with (go_at_call 68; refine (Hbg.out _).mono ?_; rintro x w2 ⟨rfl, hb2⟩)
    go_ret
    exact ⟨rfl, (hO0.keep hb2).more (by omega), (hP0.call hb2).1, Cells.of_below (hPw.call hb2).1⟩
end
end Go.Proofs.YtgonfcdmaoeboaaGreatDoor

/- port: Arrive, Receive, Get. -/
namespace Go.Proofs.YtgonfcdmaoeboaaGreatDoor
open Go.RowKit

theorem valid_nil0 : validName [] = true := by decide
/-- Arrive -/
def arriveE (n ep : Int) (p : Pk) (cur : Option (List UInt8)) : Nat :=
  if portBeg [] n ep ≠ 0 then portBeg [] n ep else if pkE p ≠ 0 then pkE p else if (rdPort cur ep).2 ≠ 0 then 8 else arrE (rdPort cur ep).1
def arriveC (n ep : Int) (p : Pk) (cur : Option (List UInt8)) : Option (List UInt8) :=
  if portBeg [] n ep = 0 ∧ pkE p = 0 ∧ (rdPort cur ep).2 = 0 ∧ arrW (rdPort cur ep).1 = true then some (arrP (rdPort cur ep).1 p).bytes else cur
/-- Receive -/
def receiveE (who : List UInt8) (n ep : Int) (cur : Option (List UInt8)) : Nat :=
  if portBeg who n ep ≠ 0 then portBeg who n ep else if (rdPort cur ep).2 ≠ 0 then 8 else rcvE (rdPort cur ep).1 who
def receiveO (who : List UInt8) (n ep : Int) (cur : Option (List UInt8)) : Pk := if receiveE who n ep cur = 0 then rcvO (rdPort cur ep).1 who else ([], [])
def receiveC (who : List UInt8) (n ep : Int) (cur : Option (List UInt8)) : Option (List UInt8) := if receiveE who n ep cur = 0 then some (rcvP (rdPort cur ep).1 who).bytes else cur
/-- Get -/
def portGetR (n ep : Int) (cur : Option (List UInt8)) : PT × Nat := if portBeg [] n ep ≠ 0 then (⟨[], 0, 0, []⟩, portBeg [] n ep) else rdPort cur ep

section
variable {B : Nat} {vb : Nat} {base : Value} {n : Int} {cur : Option (List UInt8)} {k : Nat}
set_option maxRecDepth 100000 in
set_option maxHeartbeats 3200000 in
theorem portArrive_any (w : World) (ep : Int) (p : Pk) (hp1 : p.1.length ≤ 9223372036854775807) (hp2 : p.2.length ≤ 9223372036854775807) (hcl : (cur.getD []).length ≤ 1000000000) (hO : ObjIs B w vb base 16 [] n 0 [] cur k) (hk : k < 999990) :
    Calls Tryz.prog 26 #[.pointer (some ⟨vb, 0, none⟩), .int .i64 n, .int .i64 ep, .agg #[.string (str p.1), .string (str p.2)]] w fun e w' => e = .returned (.int .i64 (arriveE n ep p cur)) ∧ ObjIs B w' vb base 16 [] n 0 [] (arriveC n ep p cur) (k + 2) ∧ Below B w w' ∧ Cells [131] w w' := by
  have hB := hO.le
  have hbg := fun w => portBegin_any ⟨vb, 0, none⟩ [] (by simp) n ep w
  have hx0 := Blk.new w #[.string (str p.1), .string (str p.2)] 48
  have hO0 := hO.keep (below_alloc w (.cells #[.string (str p.1), .string (str p.2)] 48))
  have hP0 := (Past.at (w := w) hB).alloc (.cells #[.string (str p.1), .string (str p.2)] 48)
  have hPw := (Past.refl w).alloc (.cells #[.string (str p.1), .string (str p.2)] 48)
  by_cases hb0 : portBeg [] n ep = 0
  · obtain ⟨_, ⟨hn1, hn2⟩, hep⟩ := portBeg_zero.1 hb0
    obtain ⟨n', rfl⟩ := Int.eq_ofNat_of_zero_le (by omega : 0 ≤ n)
    rw [hb0] at hbg
    have hbg' : ∀ w, Calls Tryz.prog 68 #[.pointer (some ⟨vb, 0, none⟩), .string ⟨#[]⟩, .int .i64 n', .int .i64 ep] w fun e w' => e = .returned (.int .i64 ((0 : Nat) : Int)) ∧ Below w.heap.size w w' := hbg
    have Hbg := Lib.hid hbg'; clear hbg hbg'
    have Hpc := Lib.hid (fun w => pkCheck_any p w hp1 hp2)
    by_cases hpk : pkE p = 0
    · rw [hpk] at Hpc
      by_cases hr : (rdPort cur ep).2 = 0
      · have e1 : arriveE n' ep p cur = arrE (rdPort cur ep).1 := by unfold arriveE; rw [if_neg (by simp [hb0]), if_neg (by simp [hpk]), if_neg (by simp [hr])]
        have e2 : arriveC n' ep p cur = if arrW (rdPort cur ep).1 = true then some (arrP (rdPort cur ep).1 p).bytes else cur := by unfold arriveC; simp [hb0, hpk, hr]
        obtain ⟨hck, _⟩ := rdPort_ok hr
        obtain ⟨_, _, hlo, h16, _⟩ := PT.check_ok.1 hck
        have hent : ∀ args w, (callFunc 72 args).run Tryz.prog w = .ok (.enter 72 args) w := enters_of Tryz.func72 (by kernel_rfl) rfl
        have hch : ∀ w2 : World, ObjIs B w2 vb base 16 [] (n' : Int) 0 [] cur k → Blk w2 w.heap.size #[.string (str p.1), .string (str p.2)] 48 → Calls Tryz.prog 71 #[.pointer (some ⟨vb, 0, none⟩), .int .i64 (n' : Int), .int .i64 ep, .func (.func 72) #[] #[.pointer (some ⟨w.heap.size, 0, none⟩)]] w2 fun e w' => e = .returned (.int .i64 (arrE (rdPort cur ep).1)) ∧ ObjIs B w' vb base 16 [] (n' : Int) 0 [] (if arrW (rdPort cur ep).1 = true then some (arrP (rdPort cur ep).1 p).bytes else cur) (k + 2) ∧ Below B w2 w' ∧ True ∧ CellsX (fun _ => False) [131] w2 w' := by
          intro w2 hO2 hx2
          exact portChange_do (Post := fun _ => True) w2 ep 72 #[.pointer (some ⟨w.heap.size, 0, none⟩)] hent (arrP (rdPort cur ep).1 p) (arrW (rdPort cur ep).1) (arrE (rdPort cur ep).1) (fun w' => Blk w' w.heap.size #[.string (str p.1), .string (str p.2)] 48) (by omega) hcl hO2 (by omega) hr (arrP_ok hck hpk) (fun w' hc => hc.blk hx2 (by simp)) (fun _ _ _ _ => trivial) (fun _ => False) (arrive_turns h16 hlo)
        obtain ⟨AE, hAE⟩ : ∃ x, x = arrE (rdPort cur ep).1 := ⟨_, rfl⟩
        obtain ⟨AC, hAC⟩ : ∃ x, x = if arrW (rdPort cur ep).1 = true then some (arrP (rdPort cur ep).1 p).bytes else cur := ⟨_, rfl⟩
        rw [← hAE, ← hAC] at hch
        rw [e1, e2, ← hAE, ← hAC]
        have Hch := Lib.hid hch; clear hch hAE hAC
        clear e1 e2 hb0 hpk hr hck hlo h16
        go_enter Tryz.func26, Tryz.ntmps26
        go_wp2_with (first
          | (go_at_call 68; refine (Hbg.out _).mono ?_; rintro x w2 ⟨rfl, hb2⟩; have hx2 := hx0.below hb2 hx0.lt; obtain ⟨x0, x1, _, _⟩ := hx2.two; have hO2 := hO0.keep hb2; have hP2 := hP0.call hb2; have hPw2 := hPw.call hb2)
          | (go_at_call 62; refine (Hpc.out _).mono ?_; rintro x w3 ⟨rfl, hb3⟩; have hx3 := hx2.below hb3 hx2.lt; have hO3 := hO2.keep hb3; have hP3 := hP2.call hb3; have hPw3 := hPw2.call hb3)
          | (go_at_call 71; refine (Hch.out _ hO3 hx3).mono ?_; rintro x w4 ⟨rfl, hO4, hb4, _, hc4⟩))
        go_ret
        exact ⟨rfl, hO4, (hP3.next hb4).1, CellsX.cells (Cells.of_below hPw3.1) hc4 (fun _ _ h => h)⟩
      · have e1 : arriveE n' ep p cur = 8 := by unfold arriveE; rw [if_neg (by simp [hb0]), if_neg (by simp [hpk]), if_pos hr]
        have e2 : arriveC n' ep p cur = cur := by unfold arriveC; rw [if_neg (fun h => hr h.2.2.1)]
        have hch := fun w2 fv (hO2 : ObjIs B w2 vb base 16 [] (n' : Int) 0 [] cur k) => portChange_not w2 ep (by omega) hcl hO2 (by omega) hr fv
        have Hch := Lib.hid hch; clear hch
        rw [e1, e2]; clear e1 e2 hb0 hpk hr
        go_enter Tryz.func26, Tryz.ntmps26
        go_wp2_with (first
          | (go_at_call 68; refine (Hbg.out _).mono ?_; rintro x w2 ⟨rfl, hb2⟩; have hx2 := hx0.below hb2 hx0.lt; obtain ⟨x0, x1, _, _⟩ := hx2.two; have hO2 := hO0.keep hb2; have hP2 := hP0.call hb2; have hPw2 := hPw.call hb2)
          | (go_at_call 62; refine (Hpc.out _).mono ?_; rintro x w3 ⟨rfl, hb3⟩; have hO3 := hO2.keep hb3; have hP3 := hP2.call hb3; have hPw3 := hPw2.call hb3)
          | (go_at_call 71; refine (Hch.out _ _ hO3).mono ?_; rintro x w4 ⟨rfl, hO4, hb4, hc4⟩))
        go_ret
        exact ⟨rfl, hO4.more (by omega), (hP3.next hb4).1, ((Cells.of_below hPw3.1).trans hc4).more (by simp)⟩
    · obtain ⟨E, hE⟩ : ∃ E, E = pkE p := ⟨_, rfl⟩
      have e1 : arriveE n' ep p cur = E := by unfold arriveE; rw [if_neg (by simp [hb0]), if_pos hpk, hE]
      have e2 : arriveC n' ep p cur = cur := by unfold arriveC; rw [if_neg (fun h => hpk h.2.1)]
      rw [← hE] at Hpc hpk
      have q1 : ((E : Int) == 0) = false := by simp; omega
      have q2 : ((E : Int) != 0) = true := by simp; omega
      rw [e1, e2]; clear e1 e2 hb0 hE
      go_enter Tryz.func26, Tryz.ntmps26
      go_wp2_with (first
        | (go_at_call 68; refine (Hbg.out _).mono ?_; rintro x w2 ⟨rfl, hb2⟩; have hx2 := hx0.below hb2 hx0.lt; obtain ⟨x0, x1, _, _⟩ := hx2.two; have hO2 := hO0.keep hb2; have hP2 := hP0.call hb2; have hPw2 := hPw.call hb2)
        | (go_at_call 62; refine (Hpc.out _).mono ?_; rintro x w3 ⟨rfl, hb3⟩; have hO3 := hO2.keep hb3; have hP3 := hP2.call hb3; have hPw3 := hPw2.call hb3))
      go_ret
      exact ⟨rfl, hO3.more (by omega), hP3.1, Cells.of_below hPw3.1⟩
  · obtain ⟨E, hE⟩ : ∃ E, E = portBeg [] n ep := ⟨_, rfl⟩
    have e1 : arriveE n ep p cur = E := by unfold arriveE; rw [if_pos hb0, hE]
    have e2 : arriveC n ep p cur = cur := by unfold arriveC; rw [if_neg (fun h => hb0 h.1)]
    rw [← hE] at hbg hb0
    have hbg' : ∀ w, Calls Tryz.prog 68 #[.pointer (some ⟨vb, 0, none⟩), .string ⟨#[]⟩, .int .i64 n, .int .i64 ep] w fun e w' => e = .returned (.int .i64 (E : Int)) ∧ Below w.heap.size w w' := hbg
    have Hbg := Lib.hid hbg'; clear hbg hbg'
    have q1 : ((E : Int) == 0) = false := by simp; omega
    have q2 : ((E : Int) != 0) = true := by simp; omega
    rw [e1, e2]; clear e1 e2 hE
    go_enter Tryz.func26, Tryz.ntmps26
    go_wp2_with (go_at_call 68; refine (Hbg.out _).mono ?_; rintro x w2 ⟨rfl, hb2⟩)
    go_ret
    exact ⟨rfl, (hO0.keep hb2).more (by omega), (hP0.call hb2).1, Cells.of_below (hPw.call hb2).1⟩
end
end Go.Proofs.YtgonfcdmaoeboaaGreatDoor

/- port: Receive. -/
namespace Go.Proofs.YtgonfcdmaoeboaaGreatDoor
open Go.RowKit

/-- one block alone has turned -/
def Sets2 (b : Nat) (w w' : World) : Prop := w.heap.size ≤ w'.heap.size ∧ ∀ k, k ≠ b → w'.heap[k]? = w.heap[k]?
theorem Cells.keep1 {ts : List TypeId} {a b c : World} {q : Nat} (h : Cells ts a b) (hq : a.heap.size ≤ q) (hs : Sets2 q b c) : Cells ts a c := ⟨Nat.le_trans h.1 hs.1, fun k cs t f hk ht => (hs.2 k (by have := (Array.getElem?_eq_some_iff.1 hk).1; omega)).trans (h.2 k cs t f hk ht)⟩
theorem Blk.stores2 {w : World} {b : Nat} {x y : Value} {t : TypeId} (h : Blk w b #[x, y] t) (x' y' : Value) :
    (w.setCell ⟨b, 0, none⟩ x').cell? ⟨b, 0, none⟩ = some x' ∧ ((w.setCell ⟨b, 0, none⟩ x').setCell ⟨b, 1, none⟩ y').cell? ⟨b, 0, none⟩ = some x' ∧ ((w.setCell ⟨b, 0, none⟩ x').setCell ⟨b, 1, none⟩ y').cell? ⟨b, 1, none⟩ = some y' ∧ Only [t] w ((w.setCell ⟨b, 0, none⟩ x').setCell ⟨b, 1, none⟩ y') ∧ Sets2 b w ((w.setCell ⟨b, 0, none⟩ x').setCell ⟨b, 1, none⟩ y') := by
  have h1 := (h.set 0 x').congr (cs' := #[x', y]) rfl
  have h2 := (h1.set 1 y').congr (cs' := #[x', y']) rfl
  exact ⟨h1.two.1, h2.two.1, h2.two.2.1, (Only.set h (by simp) x').trans (Only.set h1 (by simp) y'), by simp [World.setCell], fun k hk => by rw [Below.heap_setCell _ _ _ _ hk, Below.heap_setCell _ _ _ _ hk]⟩

section
variable {B : Nat} {vb : Nat} {base : Value} {n : Int} {cur : Option (List UInt8)} {k : Nat}
set_option maxRecDepth 100000 in
set_option maxHeartbeats 3200000 in
theorem portReceive_any (w : World) (who : List UInt8) (hwl : who.length ≤ 1000000000) (ep : Int) (hcl : (cur.getD []).length ≤ 1000000000) (hO : ObjIs B w vb base 16 [] n 0 [] cur k) (hk : k < 999990) :
    Calls Tryz.prog 28 #[.pointer (some ⟨vb, 0, none⟩), .string (str who), .int .i64 n, .int .i64 ep] w fun e w' => e = .returned (.tuple #[.agg #[.string (str (receiveO who n ep cur).1), .string (str (receiveO who n ep cur).2)], .int .i64 (receiveE who n ep cur)]) ∧ ObjIs B w' vb base 16 [] n 0 [] (receiveC who n ep cur) (k + 2) ∧ Below B w w' ∧ Cells [131] w w' := by
  have hB := hO.le
  have hbg := fun w => portBegin_any ⟨vb, 0, none⟩ who hwl n ep w
  have hx0 := (Blk.new w #[.string (str who)] 22).alloc (.cells #[.string ⟨#[]⟩, .string ⟨#[]⟩] 48)
  have hy0 := Blk.new (w.alloc (.cells #[.string (str who)] 22)) #[.string ⟨#[]⟩, .string ⟨#[]⟩] 48
  rw [World.size_alloc] at hy0
  have hO0 := (hO.keep (below_alloc w (.cells #[.string (str who)] 22))).keep (below_alloc (w.alloc (.cells #[.string (str who)] 22)) (.cells #[.string ⟨#[]⟩, .string ⟨#[]⟩] 48))
  have hP0 := ((Past.at (w := w) hB).alloc (.cells #[.string (str who)] 22)).alloc (.cells #[.string ⟨#[]⟩, .string ⟨#[]⟩] 48)
  have hPw := ((Past.refl w).alloc (.cells #[.string (str who)] 22)).alloc (.cells #[.string ⟨#[]⟩, .string ⟨#[]⟩] 48)
  have u0 := hx0.cell 0
  by_cases hb0 : portBeg who n ep = 0
  · obtain ⟨_, ⟨hn1, hn2⟩, hep⟩ := portBeg_zero.1 hb0
    obtain ⟨n', rfl⟩ := Int.eq_ofNat_of_zero_le (by omega : 0 ≤ n)
    rw [hb0] at hbg
    have Hbg := Lib.hid hbg; clear hbg
    by_cases hr : (rdPort cur ep).2 = 0
    · obtain ⟨RE, hRE⟩ : ∃ x, x = rcvE (rdPort cur ep).1 who := ⟨_, rfl⟩
      obtain ⟨RO, hRO⟩ : ∃ x, x = rcvO (rdPort cur ep).1 who := ⟨_, rfl⟩
      have e1 : receiveE who n' ep cur = RE := by unfold receiveE; rw [if_neg (by simp [hb0]), if_neg (by simp [hr]), hRE]
      obtain ⟨RC, hRC⟩ : ∃ x, x = if decide (RE = 0) = true then some (rcvP (rdPort cur ep).1 who).bytes else cur := ⟨_, rfl⟩
      have e2 : receiveC who n' ep cur = RC := by unfold receiveC; rw [e1, hRC]; simp
      have e3 : receiveO who n' ep cur = RO := by
        unfold receiveO
        rw [e1, hRO, hRE]
        by_cases h : rcvE (rdPort cur ep).1 who = 0
        · rw [if_pos h]
        · rw [if_neg h]; unfold rcvO; rw [if_neg h]
      obtain ⟨hck, _⟩ := rdPort_ok hr
      obtain ⟨_, _, hlo, h16, _⟩ := PT.check_ok.1 hck
      have hent : ∀ args w, (callFunc 74 args).run Tryz.prog w = .ok (.enter 74 args) w := enters_of Tryz.func74 (by kernel_rfl) rfl
      have hch : ∀ (w2 : World) (ob : Nat), ObjIs B w2 vb base 16 [] (n' : Int) 0 [] cur k → Blk w2 w.heap.size #[.string (str who)] 22 → Blk w2 ob #[.string (str []), .string (str [])] 48 → Blk w2 (w.heap.size + 1) #[.string (str []), .string (str [])] 48 → w.heap.size + 1 ≠ ob → B ≤ ob → Calls Tryz.prog 71 #[.pointer (some ⟨vb, 0, none⟩), .int .i64 (n' : Int), .int .i64 ep, .func (.func 74) #[] #[.pointer (some ⟨w.heap.size, 0, none⟩), .pointer (some ⟨ob, 0, none⟩)]] w2 fun e w' => e = .returned (.int .i64 RE) ∧ ObjIs B w' vb base 16 [] (n' : Int) 0 [] RC (k + 2) ∧ Below B w2 w' ∧ (Blk w' ob #[.string (str RO.1), .string (str RO.2)] 48 ∧ Blk w' (w.heap.size + 1) #[.string (str []), .string (str [])] 48) ∧ CellsX (fun b => b = ob) [131] w2 w' := by
        intro w2 ob hO2 hx2 hy2 hr2 hne hob
        rw [hRC, hRE, hRO]
        exact portChange_do (Pre := fun w' => Blk w' w.heap.size #[.string (str who)] 22 ∧ Blk w' ob #[.string (str []), .string (str [])] 48 ∧ Blk w' (w.heap.size + 1) #[.string (str []), .string (str [])] 48) (Post := fun w' => Blk w' ob #[.string (str (rcvO (rdPort cur ep).1 who).1), .string (str (rcvO (rdPort cur ep).1 who).2)] 48 ∧ Blk w' (w.heap.size + 1) #[.string (str []), .string (str [])] 48) w2 ep 74 #[.pointer (some ⟨w.heap.size, 0, none⟩), .pointer (some ⟨ob, 0, none⟩)] hent (rcvP (rdPort cur ep).1 who) (decide (rcvE (rdPort cur ep).1 who = 0)) (rcvE (rdPort cur ep).1 who) (by omega) hcl hO2 (by omega) hr (fun _ => rcvP_ok hck) (fun w' hc => ⟨hc.blk hx2 (by simp), hc.blk hy2 (by simp), hc.blk hr2 (by simp)⟩) (fun _ _ h hc => ⟨hc.blk h.1 (by decide), hc.blk h.2 (by decide)⟩) (fun b => b = ob) (receive_turns hne h16 hob hy2.lt)
      have Hch := Lib.hid hch; clear hch
      rw [e1, e2, e3]; clear e1 e2 e3 hb0 hr hck hlo h16 hRE hRO hRC
      go_enter Tryz.func28, Tryz.ntmps28
      go_wp2_with fail
      refine (Hbg.out _).mono ?_
      rintro x w2 ⟨rfl, hb2⟩
      have hx2 := (hx0.below hb2 hx0.lt).alloc (.cells #[.string ⟨#[]⟩, .string ⟨#[]⟩] 48)
      have hy2 := (hy0.below hb2 hy0.lt).alloc (.cells #[.string ⟨#[]⟩, .string ⟨#[]⟩] 48)
      have hz2 := Blk.new w2 #[.string ⟨#[]⟩, .string ⟨#[]⟩] 48
      have hO2 := (hO0.keep hb2).keep (below_alloc w2 (.cells #[.string ⟨#[]⟩, .string ⟨#[]⟩] 48))
      have hP2 := (hP0.call hb2).alloc (.cells #[.string ⟨#[]⟩, .string ⟨#[]⟩] 48)
      have hPw2 := (hPw.call hb2).alloc (.cells #[.string ⟨#[]⟩, .string ⟨#[]⟩] 48)
      have hob : B ≤ w2.heap.size := (hP0.call hb2).2
      have hszw : w.heap.size ≤ w2.heap.size := (hPw.call hb2).2
      have hny : w.heap.size + 1 ≠ w2.heap.size := by have := (hy0.below hb2 hy0.lt).lt; omega
      clear hx0 hy0 hO0 hP0 hPw hb2 u0
      go_wp2_with fail
      refine (Hch.out _ w2.heap.size hO2 hx2 hz2 hy2 hny hob).mono ?_
      rintro x w4 ⟨rfl, hO4, hb4, ⟨hz4, hy4⟩, hc4⟩
      obtain ⟨z0, z1, _, _⟩ := hz4.two
      obtain ⟨y0, y1, f0, f1⟩ := hy4.two
      obtain ⟨r0, r1, r2, hor, hor2⟩ := hy4.stores2 (.string (str RO.1)) (.string (str RO.2))
      have hps := ((Past.at (B := B) (w := w4) hO4.le).set (p := ⟨w.heap.size + 1, 0, none⟩) (by simp; omega) (.string (str RO.1))).set (p := ⟨w.heap.size + 1, 1, none⟩) (by simp; omega) (.string (str RO.2))
      go_wp2
      refine bodyPost_ret (v := .tuple #[.agg #[.string (str RO.1), .string (str RO.2)], .int .i64 RE]) (by simp [results, Tryz.results28, go_sem, r1, r2]) rfl ⟨rfl, hO4.only hor hps.1 (by decide) (by decide), ((hP2.next hb4).next hps.1).1, (CellsX.cells (Cells.of_below hPw2.1) hc4 (fun k hk h => by omega)).keep1 (by omega) hor2⟩
    · have e1 : receiveE who n' ep cur = 8 := by unfold receiveE; rw [if_neg (by simp [hb0]), if_pos hr]
      have e2 : receiveC who n' ep cur = cur := by unfold receiveC; rw [if_neg (by omega)]
      have e3 : receiveO who n' ep cur = ([], []) := by unfold receiveO; rw [if_neg (by omega)]
      have hch := fun w2 fv (hO2 : ObjIs B w2 vb base 16 [] (n' : Int) 0 [] cur k) => portChange_not w2 ep (by omega) hcl hO2 (by omega) hr fv
      have Hch := Lib.hid hch; clear hch
      rw [e1, e2, e3]; clear e1 e2 e3 hb0 hr
      go_enter Tryz.func28, Tryz.ntmps28
      go_wp2_with fail
      refine (Hbg.out _).mono ?_
      rintro x w2 ⟨rfl, hb2⟩
      have hy2 := (hy0.below hb2 hy0.lt).alloc (.cells #[.string ⟨#[]⟩, .string ⟨#[]⟩] 48)
      have hz2 := Blk.new w2 #[.string ⟨#[]⟩, .string ⟨#[]⟩] 48
      have hO2 := (hO0.keep hb2).keep (below_alloc w2 (.cells #[.string ⟨#[]⟩, .string ⟨#[]⟩] 48))
      have hP2 := (hP0.call hb2).alloc (.cells #[.string ⟨#[]⟩, .string ⟨#[]⟩] 48)
      have hPw2 := (hPw.call hb2).alloc (.cells #[.string ⟨#[]⟩, .string ⟨#[]⟩] 48)
      clear hx0 hy0 hO0 hP0 hPw hb2 u0
      go_wp2_with fail
      refine (Hch.out _ _ hO2).mono ?_
      rintro x w4 ⟨rfl, hO4, hb4, hc4⟩
      have hz4 := hc4.blk hz2 (by simp)
      have hy4 := hc4.blk hy2 (by simp)
      obtain ⟨z0, z1, _, _⟩ := hz4.two
      obtain ⟨y0, y1, f0, f1⟩ := hy4.two
      obtain ⟨r0, r1, r2, hor, hor2⟩ := hy4.stores2 (.string ⟨#[]⟩) (.string ⟨#[]⟩)
      have hps := ((Past.at (B := B) (w := w4) hO4.le).set (p := ⟨w.heap.size + 1, 0, none⟩) (by simp; omega) (.string ⟨#[]⟩)).set (p := ⟨w.heap.size + 1, 1, none⟩) (by simp; omega) (.string ⟨#[]⟩)
      go_wp2
      refine bodyPost_ret (v := .tuple #[.agg #[.string (str []), .string (str [])], .int .i64 8]) (by simp [results, Tryz.results28, go_sem, r1, r2]; rfl) rfl ⟨rfl, (hO4.only hor hps.1 (by decide) (by decide)).more (by omega), ((hP2.next hb4).next hps.1).1, ((Cells.of_below hPw2.1).trans (hc4.more (by simp))).keep1 (by omega) hor2⟩
  · obtain ⟨E, hE⟩ : ∃ E, E = portBeg who n ep := ⟨_, rfl⟩
    have e1 : receiveE who n ep cur = E := by unfold receiveE; rw [if_pos hb0, hE]
    have e2 : receiveC who n ep cur = cur := by unfold receiveC; rw [if_neg (by rw [e1, hE]; exact hb0)]
    have e3 : receiveO who n ep cur = ([], []) := by unfold receiveO; rw [if_neg (by rw [e1, hE]; exact hb0)]
    rw [← hE] at hbg hb0
    have Hbg := Lib.hid hbg; clear hbg
    have q1 : ((E : Int) == 0) = false := by simp; omega
    have q2 : ((E : Int) != 0) = true := by simp; omega
    rw [e1, e2, e3]; clear e1 e2 e3 hE
    go_enter Tryz.func28, Tryz.ntmps28
    go_wp2_with fail
    refine (Hbg.out _).mono ?_
    rintro x w2 ⟨rfl, hb2⟩
    have hy2 := hy0.below hb2 hy0.lt
    obtain ⟨y0, y1, f0, f1⟩ := hy2.two
    obtain ⟨r0, r1, r2, hor, hor2⟩ := hy2.stores2 (.string ⟨#[]⟩) (.string ⟨#[]⟩)
    have hO2 := hO0.keep hb2
    have hps := ((Past.at (B := B) (w := w2) hO2.le).set (p := ⟨w.heap.size + 1, 0, none⟩) (by simp; omega) (.string ⟨#[]⟩)).set (p := ⟨w.heap.size + 1, 1, none⟩) (by simp; omega) (.string ⟨#[]⟩)
    go_wp2
    refine bodyPost_ret (v := .tuple #[.agg #[.string (str []), .string (str [])], .int .i64 E]) (by simp [results, Tryz.results28, go_sem, r1, r2]; rfl) rfl ⟨rfl, (hO2.only hor hps.1 (by decide) (by decide)).more (by omega), ((hP0.call hb2).next hps.1).1, (Cells.of_below (hPw.call hb2).1).keep1 (by omega) hor2⟩
end
end Go.Proofs.YtgonfcdmaoeboaaGreatDoor

/- replevinlaw37.known. -/
namespace Go.Proofs.YtgonfcdmaoeboaaGreatDoor
open Go.RowKit

theorem portNew {sb : Nat} {w : World} (n : Int) (h : Blk w sb #[.pointer none] 134) :
    Calls Tryz.prog 22 #[.pointer (some ⟨sb, 0, none⟩)] w fun e w' => ∃ vb, e = .returned (.pointer (some ⟨vb, 0, none⟩)) ∧ ObjIs w.heap.size w' vb (.pointer (some ⟨sb, 0, none⟩)) 16 [] n 0 [] none 0 ∧ Below w.heap.size w w' :=
  objNew sb 16 [] n 0 [] none w (baseSays_empty h h.lt 16 [] n 0 [])
def kpk : Pk := ([120], [97, 98])
def kc1 : Option (List UInt8) := openC [49] 0 80 0 none
def kc2 : Option (List UInt8) := arriveC 80 0 kpk kc1
def kc3 : Option (List UInt8) := receiveC [49] 80 0 kc2
theorem kn1 : openE [49] 0 80 0 none = 0 := by decide +kernel
theorem kn2 : arriveE 80 0 kpk kc1 = 0 := by decide +kernel
theorem kn3 : receiveE [50] 80 0 kc2 = 14 ∧ receiveC [50] 80 0 kc2 = kc2 := ⟨by decide +kernel, by decide +kernel⟩
theorem kn4 : receiveE [49] 80 0 kc2 = 0 ∧ receiveO [49] 80 0 kc2 = kpk := ⟨by decide +kernel, by decide +kernel⟩
theorem kn5 : receiveE [49] 80 0 kc3 = 19 ∧ receiveC [49] 80 0 kc3 = kc3 := ⟨by decide +kernel, by decide +kernel⟩
theorem kn6 : receiveE [49] 80 1 kc3 = 8 := by decide +kernel
theorem knl : (kc1.getD []).length ≤ 1000000000 ∧ (kc2.getD []).length ≤ 1000000000 ∧ (kc3.getD []).length ≤ 1000000000 := ⟨by decide +kernel, by decide +kernel, by decide +kernel⟩

set_option maxRecDepth 100000 in
set_option maxHeartbeats 1600000 in
theorem pknown_any (w : World) : Calls Tryz.prog 16 #[] w fun e w' => e = .returned (.bool true) ∧ Below w.heap.size w w' := by
  go_enter Tryz.func16, Tryz.ntmps16
  go_wp2_with fail
  refine (stateNew_any _).mono ?_
  rintro e w1 ⟨rfl, hs1, hb1⟩
  go_wp2_with fail
  refine (portNew 80 hs1).mono ?_
  rintro e w2 ⟨vb, rfl, hO2, hb2⟩
  have hP2 := (((Past.refl w).call hb1).call hb2)
  have hle := hb1.size
  have hq2 := Blk.new w2 #[.string (str [120]), .string (str [97, 98])] 48
  have hO3 := hO2.keep (below_alloc w2 (.cells #[.string (str [120]), .string (str [97, 98])] 48))
  have hP3 := hP2.alloc (.cells #[.string (str [120]), .string (str [97, 98])] 48)
  clear hO2 hP2 hb1 hb2 hs1
  go_wp2_with fail
  have H := portOpen_any (w2.alloc (.cells #[.string (str [120]), .string (str [97, 98])] 48)) [49] (by decide) 0 0 (.slice none 0 0) (by decide) hO3 (by omega)
  rw [kn1, show openC [49] 0 80 0 none = kc1 from rfl] at H
  refine H.mono ?_
  clear H
  rintro e w4 ⟨rfl, hO4, hb4, hc4⟩
  have hP4 := hP3.next (hb4.mono hle)
  have hq4 := hc4.blk hq2 (by decide)
  clear hO3 hP3 hb4 hc4 hq2
  obtain ⟨q0, q1, _, _⟩ := hq4.two
  go_wp2_with fail
  have H := portArrive_any w4 0 kpk (by decide) (by decide) knl.1 hO4 (by omega)
  rw [kn2, show arriveC 80 0 kpk kc1 = kc2 from rfl] at H
  refine H.mono ?_
  clear H
  rintro e w5 ⟨rfl, hO5, hb5, hc5⟩
  have hP5 := hP4.next (hb5.mono hle)
  have hq5 := hc5.blk hq4 (by decide)
  clear hO4 hP4 hb5 hc5 hq4 q0 q1
  go_wp2_with fail
  have H := portReceive_any w5 [50] (by decide) 0 knl.2.1 hO5 (by omega)
  rw [kn3.1, kn3.2] at H
  have HH := Lib.hid H; clear H
  refine HH.out.mono ?_
  rintro e w6 ⟨rfl, hO6, hb6, hc6⟩
  have hP6 := (hP5.next (hb6.mono hle))
  have hq6 := hc6.blk hq5 (by decide)
  clear HH hO5 hP5 hb6 hc6 hq5
  have hO7 := hO6.keep (below_alloc w6 (.cells #[.string (str (receiveO [50] 80 0 kc2).1), .string (str (receiveO [50] 80 0 kc2).2)] 48))
  have hP7 := hP6.alloc (.cells #[.string (str (receiveO [50] 80 0 kc2).1), .string (str (receiveO [50] 80 0 kc2).2)] 48)
  have hq7 := hq6.alloc (.cells #[.string (str (receiveO [50] 80 0 kc2).1), .string (str (receiveO [50] 80 0 kc2).2)] 48)
  clear hO6 hP6 hq6
  generalize (receiveO [50] 80 0 kc2) = o3 at *
  go_wp2_with fail
  have H := portReceive_any (w6.alloc (.cells #[.string (str o3.1), .string (str o3.2)] 48)) [49] (by decide) 0 knl.2.1 hO7 (by omega)
  rw [kn4.1, kn4.2, show receiveC [49] 80 0 kc2 = kc3 from rfl] at H
  have HH := Lib.hid H; clear H
  refine HH.out.mono ?_
  rintro e w8 ⟨rfl, hO8, hb8, hc8⟩
  have hP8 := (hP7.next (hb8.mono hle)).alloc (.cells #[.string (str [120]), .string (str [97, 98])] 48)
  have hq8 := (hc8.blk hq7 (by decide)).alloc (.cells #[.string (str [120]), .string (str [97, 98])] 48)
  have hr8 := Blk.new w8 #[.string (str [120]), .string (str [97, 98])] 48
  have hO9 := hO8.keep (below_alloc w8 (.cells #[.string (str [120]), .string (str [97, 98])] 48))
  clear HH hO7 hP7 hb8 hc8 hq7 hO8
  go_wp2_with fail
  have H := portReceive_any (w8.alloc (.cells #[.string (str [120]), .string (str [97, 98])] 48)) [49] (by decide) 0 knl.2.2 hO9 (by omega)
  rw [kn5.1, kn5.2] at H
  have HH := Lib.hid H; clear H
  refine HH.out.mono ?_
  rintro e w10 ⟨rfl, hO10, hb10, hc10⟩
  generalize (receiveO [49] 80 0 kc3) = o5 at *
  have hP10 := (hP8.next (hb10.mono hle)).alloc (.cells #[.string (str o5.1), .string (str o5.2)] 48)
  have hq10 := (hc10.blk hq8 (by decide)).alloc (.cells #[.string (str o5.1), .string (str o5.2)] 48)
  have hr10 := (hc10.blk hr8 (by decide)).alloc (.cells #[.string (str o5.1), .string (str o5.2)] 48)
  have hO11 := hO10.keep (below_alloc w10 (.cells #[.string (str o5.1), .string (str o5.2)] 48))
  clear HH hO9 hP8 hb10 hc10 hq8 hr8 hO10
  go_wp2_with fail
  have H := portReceive_any (w10.alloc (.cells #[.string (str o5.1), .string (str o5.2)] 48)) [49] (by decide) 1 knl.2.2 hO11 (by omega)
  rw [kn6] at H
  have HH := Lib.hid H; clear H
  refine HH.out.mono ?_
  rintro e w12 ⟨rfl, hO12, hb12, hc12⟩
  generalize (receiveO [49] 80 1 kc3) = o6 at *
  have hP12 := (hP10.next (hb12.mono hle)).alloc (.cells #[.string (str o6.1), .string (str o6.2)] 48)
  have hq12 := (hc12.blk hq10 (by decide)).alloc (.cells #[.string (str o6.1), .string (str o6.2)] 48)
  have hr12 := (hc12.blk hr10 (by decide)).alloc (.cells #[.string (str o6.1), .string (str o6.2)] 48)
  clear HH hO11 hP10 hb12 hc12 hq10 hr10 hO12
  obtain ⟨q0, q1, _, _⟩ := hq12.two
  obtain ⟨r0, r1, _, _⟩ := hr12.two
  have e1 : ((str [120]).toList == (str [120]).toList) = true := by simp
  have e2 : ((str [97, 98]).toList == (str [97, 98]).toList) = true := by simp
  go_wp2_with fail
  exact bodyPost_ret (v := .bool true) (by simp [results, Tryz.results16, go_sem]) rfl ⟨rfl, hP12.1⟩
end Go.Proofs.YtgonfcdmaoeboaaGreatDoor
