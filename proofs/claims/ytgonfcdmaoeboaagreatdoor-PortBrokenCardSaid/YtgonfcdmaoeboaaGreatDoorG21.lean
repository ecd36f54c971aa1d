/- Contracts of functions on the way to the claim, proved for every input that their hypotheses let by; no condition of the claim. Joined of: Y5 Y6 Y7 Y8 Y9. -/
import Derived.Test.YtgonfcdmaoeboaaGreatDoorG20
import Derived.Test.YtgonfcdmaoeboaaGreatDoorG5

/- slices.Equal of packets, port.Equal. -/
namespace Go.Proofs.YtgonfcdmaoeboaaGreatDoor
open Go.RowKit

theorem takeP_eq_succ {l m : List Pk} {k : Nat} {x y : Pk} (h : l.take k = m.take k) (hx : l[k]? = some x) (hy : m[k]? = some y) (hxy : x = y) : l.take (k + 1) = m.take (k + 1) := by
  obtain ⟨h1, e1⟩ := List.getElem?_eq_some_iff.1 hx
  obtain ⟨h2, e2⟩ := List.getElem?_eq_some_iff.1 hy
  rw [List.take_succ_eq_append_getElem h1, List.take_succ_eq_append_getElem h2, h, e1, e2, hxy]
/-- are two ports alike? -/
def samePB (p q : PT) : Bool := decide (p.own = q.own ∧ p.ep = q.ep ∧ p.lost = q.lost ∧ p.q = q.q)
theorem samePB_refl (p : PT) : samePB p p = true := by unfold samePB; exact decide_eq_true ⟨rfl, rfl, rfl, rfl⟩
theorem samePB_no {p q : PT} (h : ¬ (p.own = q.own ∧ p.ep = q.ep ∧ p.lost = q.lost ∧ p.q = q.q)) : samePB p q = false := by unfold samePB; exact decide_eq_false h

set_option maxRecDepth 100000 in
set_option maxHeartbeats 1600000 in
theorem eqPks_any (v1 : Value) (t1 : List Pk) (v2 : Value) (t2 : List Pk) (w : World) (h1 : SeesP w v1 t1) (h2 : SeesP w v2 t2) (hl : t1.length ≤ 1000000) :
    Calls Tryz.prog 67 #[v1, v2] w fun x w' => x = .returned (.bool (decide (t1 = t2))) ∧ Below w.heap.size w w' := by
  obtain ⟨a1, d1, rfl, _, g1⟩ := h1.at
  obtain ⟨a2, d2, rfl, _, g2⟩ := h2.at
  have Hg1 := Lib.hid g1; clear g1 h1
  have Hg2 := Lib.hid g2; clear g2 h2
  have hP := Past.refl w
  by_cases hn : t1.length = t2.length
  · have k3 : ((t1.length : Int) == (t2.length : Int)) = true := by simp [hn]
    have k3' : ((t1.length : Int) != (t2.length : Int)) = false := by simp [hn]
    have Hn := Lib.hid hn
    clear hn
    go_enter Tryz.func67, Tryz.ntmps67
    go_wp2
    go_loopg [13] t1.length (fun g t wr => ∃ k : Nat, k ≤ t1.length ∧ g = t1.length - k ∧ t = .int .i64 k ∧ Hid (t1.take k = t2.take k) ∧ Past w.heap.size w wr)
    case atStart => exact ⟨0, Nat.zero_le _, rfl, rfl, Lib.hid (by simp), hP⟩
    case round =>
      obtain ⟨k, hk, rfl, rfl, hpre, hPr⟩ := hrel
      clear hP
      by_cases hlt : k < t1.length
      · obtain ⟨x, hx⟩ : ∃ x, t1[k]? = some x := ⟨_, List.getElem?_eq_getElem hlt⟩
        obtain ⟨y, hy⟩ : ∃ y, t2[k]? = some y := ⟨_, List.getElem?_eq_getElem (by have := Hn.out; omega)⟩
        obtain ⟨bx, ox, rfl, hbx, cx1, cx2⟩ := Hg1.out k x hx
        obtain ⟨bY, oy, rfl, hby, cy1, cy2⟩ := Hg2.out k y hy
        have dx1 : wr.cell? ⟨bx, ox + k * 2, none⟩ = some (.string (str x.1)) := (hPr.1.cell (p := ⟨bx, ox + k * 2, none⟩) hbx).trans cx1
        have dx2 : wr.cell? ⟨bx, ox + k * 2 + 1, none⟩ = some (.string (str x.2)) := (hPr.1.cell (p := ⟨bx, ox + k * 2 + 1, none⟩) hbx).trans cx2
        have dy1 : wr.cell? ⟨bY, oy + k * 2, none⟩ = some (.string (str y.1)) := (hPr.1.cell (p := ⟨bY, oy + k * 2, none⟩) hby).trans cy1
        have dy2 : wr.cell? ⟨bY, oy + k * 2 + 1, none⟩ = some (.string (str y.2)) := (hPr.1.cell (p := ⟨bY, oy + k * 2 + 1, none⟩) hby).trans cy2
        have q0 : (k : Int) < t1.length := by omega
        have q1 : (k : Int) < t2.length := by have := Hn.out; omega
        clear cx1 cx2 cy1 cy2
        by_cases hxy : x = y
        · have hn := Lib.hid (takeP_eq_succ hpre.out hx hy hxy)
          have k5 : ((str x.1).toList == (str y.1).toList) = true := by simp [hxy]
          have k6 : ((str x.2).toList == (str y.2).toList) = true := by simp [hxy]
          clear hx hy hxy
          go_wp2_with fail
          go_quiet (fail)
          go_wp2
          go_roundg (t1.length - (k + 1))
          case measure => omega
          case rel => exact ⟨k + 1, by omega, rfl, by go_num, hn, hPr.drewN _⟩
        · have hne2 : Hid (t1 ≠ t2) := Lib.hid (fun h => hxy (by rw [h] at hx; rw [hx] at hy; exact Option.some.inj hy))
          by_cases hx1 : x.1 = y.1
          · have hx2 : x.2 ≠ y.2 := fun h => hxy (Prod.ext hx1 h)
            have k5 : ((str x.1).toList == (str y.1).toList) = true := by simp [hx1]
            have k6 : ((str x.2).toList == (str y.2).toList) = false := by simp [str_toList, hx2]
            clear hx hy hxy hx1 hx2
            go_wp2_with fail
            go_quiet (fail)
            go_wp2
            go_ret
            exact ⟨by rw [decide_eq_false hne2.out]; rfl, (hPr.drewN _).1⟩
          · have k5 : ((str x.1).toList == (str y.1).toList) = false := by simp [str_toList, hx1]
            clear hx hy hxy hx1
            go_wp2_with fail
            go_quiet (fail)
            go_wp2
            go_ret
            exact ⟨by rw [decide_eq_false hne2.out]; rfl, (hPr.drewN _).1⟩
      · have q0 : decide ((k : Int) < t1.length) = false := decide_eq_false (by omega)
        have hall : Hid (t1 = t2) := by
          show _ = _
          have h := hpre.out
          rwa [List.take_of_length_le (by omega), List.take_of_length_le (by have := Hn.out; omega)] at h
        go_wp2
        go_ret
        exact ⟨by rw [decide_eq_true hall.out]; rfl, hPr.1⟩
  · have k3 : ((t1.length : Int) == (t2.length : Int)) = false := by simp; omega
    have k3' : ((t1.length : Int) != (t2.length : Int)) = true := by simp; omega
    have hf : Hid (decide (t1 = t2) = false) := by show _ = _; simp; intro h; exact hn (by rw [h])
    clear hn
    go_enter Tryz.func67, Tryz.ntmps67
    go_wp2
    go_ret
    exact ⟨by rw [hf.out]; rfl, hP.1⟩

set_option maxRecDepth 100000 in
set_option maxHeartbeats 1600000 in
theorem portEqual_any (o1 : List UInt8) (e1 l1 : Int) (v1 : Value) (t1 : List Pk) (o2 : List UInt8) (e2 l2 : Int) (v2 : Value) (t2 : List Pk) (w : World)
    (h1 : SeesP w v1 t1) (h2 : SeesP w v2 t2) (hl : t1.length ≤ 1000000) :
    Calls Tryz.prog 21 #[portV o1 e1 l1 v1, portV o2 e2 l2 v2] w fun x w' => x = .returned (.bool (samePB ⟨o1, e1, l1, t1⟩ ⟨o2, e2, l2, t2⟩)) ∧ Below w.heap.size w w' := by
  have hk1 : Blk ((w.alloc (.cells #[.string (str o1), .int .i64 e1, .int .i64 l1, v1] 25)).alloc (.cells #[.string (str o2), .int .i64 e2, .int .i64 l2, v2] 25)) w.heap.size #[.string (str o1), .int .i64 e1, .int .i64 l1, v1] 25 := (Blk.new w _ _).alloc _
  have hk2 : Blk ((w.alloc (.cells #[.string (str o1), .int .i64 e1, .int .i64 l1, v1] 25)).alloc (.cells #[.string (str o2), .int .i64 e2, .int .i64 l2, v2] 25)) (w.heap.size + 1) #[.string (str o2), .int .i64 e2, .int .i64 l2, v2] 25 := by
    have := Blk.new (w.alloc (.cells #[.string (str o1), .int .i64 e1, .int .i64 l1, v1] 25)) #[.string (str o2), .int .i64 e2, .int .i64 l2, v2] 25
    rwa [World.size_alloc] at this
  have hP := ((Past.refl w).alloc (.cells #[.string (str o1), .int .i64 e1, .int .i64 l1, v1] 25)).alloc (.cells #[.string (str o2), .int .i64 e2, .int .i64 l2, v2] 25)
  have hb2 : Below w.heap.size w ((w.alloc (.cells #[.string (str o1), .int .i64 e1, .int .i64 l1, v1] 25)).alloc (.cells #[.string (str o2), .int .i64 e2, .int .i64 l2, v2] 25)) := hP.1
  have hq := eqPks_any v1 t1 v2 t2 _ (h1.below hb2) (h2.below hb2) hl
  have Hq := Lib.hid hq; clear hq
  obtain ⟨x0, x1, x2, x3, _, _, _, _⟩ := hk1.quad
  obtain ⟨y0, y1, y2, y3, _, _, _, _⟩ := hk2.quad
  clear h1 h2 hb2 hk1 hk2
  unfold portV
  by_cases ho : o1 = o2
  · have k0 : ((str o1).toList == (str o2).toList) = true := by simp [ho]
    by_cases he : e1 = e2
    · have k1 : (e1 == e2) = true := by simp [he]
      by_cases hc : l1 = l2
      · have k2 : (l1 == l2) = true := by simp [hc]
        have hf : Hid (samePB ⟨o1, e1, l1, t1⟩ ⟨o2, e2, l2, t2⟩ = decide (t1 = t2)) := by show _ = _; unfold samePB; simp [ho, he, hc]
        clear ho he hc
        go_enter Tryz.func21, Tryz.ntmps21
        go_wp2_with (go_at_call 67; refine Hq.out.mono ?_; rintro x w3 ⟨rfl, hb3⟩)
        all_goals go_ret
        all_goals exact ⟨by rw [hf.out] <;> simp_all, (hP.call hb3).1⟩
      · have k2 : (l1 == l2) = false := by simp [hc]
        have hf : Hid (samePB ⟨o1, e1, l1, t1⟩ ⟨o2, e2, l2, t2⟩ = false) := samePB_no (by simp [hc])
        clear ho he hc
        go_enter Tryz.func21, Tryz.ntmps21
        go_wp2
        go_ret
        exact ⟨by rw [hf.out]; rfl, hP.1⟩
    · have k1 : (e1 == e2) = false := by simp [he]
      have hf : Hid (samePB ⟨o1, e1, l1, t1⟩ ⟨o2, e2, l2, t2⟩ = false) := samePB_no (by simp [he])
      clear ho he
      go_enter Tryz.func21, Tryz.ntmps21
      go_wp2
      go_ret
      exact ⟨by rw [hf.out]; rfl, hP.1⟩
  · have k0 : ((str o1).toList == (str o2).toList) = false := by simp [str_toList, ho]
    have hf : Hid (samePB ⟨o1, e1, l1, t1⟩ ⟨o2, e2, l2, t2⟩ = false) := samePB_no (by simp [ho])
    clear ho
    go_enter Tryz.func21, Tryz.ntmps21
    go_wp2
    go_ret
    exact ⟨by rw [hf.out]; rfl, hP.1⟩
end Go.Proofs.YtgonfcdmaoeboaaGreatDoor

/- port: OfPort, begin, read. -/
namespace Go.Proofs.YtgonfcdmaoeboaaGreatDoor
open Go.RowKit

set_option maxRecDepth 100000 in
theorem idxPort (w : World) : (Instr.index 197 (.agg usesCells) (.int .i64 (16 : Nat))).run Tryz.prog w = .ok (.agg #[.string (str [112, 111, 114, 116]), .bool false, .bool true, .bool false, .int .i64 (-1)]) w := by kernel_rfl
theorem nameOk_port {n : Int} (h0 : 1 ≤ n) (h1 : n ≤ 9999) : NameOk 16 [] n 0 [] :=
  ⟨⟨by decide, by simp, by omega, by decide, by simp⟩, fun w => by
    have h := numCheck_any 16 (by decide) (by decide) _ idxPort n w
    have e : numErr n = 0 := by unfold numErr; rw [if_pos (by simp; omega)]
    rwa [e] at h⟩

set_option maxRecDepth 100000 in
set_option maxHeartbeats 800000 in
theorem ofPort_any (n : Int) (w : World) : Calls Tryz.prog 34 #[.int .i64 n] w fun e w' => e = .returned (nameV 16 [] n 0 []) ∧ Below w.heap.size w w' := by
  unfold nameV
  have hn := Blk.new w #[.int .i64 16, .string ⟨#[]⟩, .int .i64 n, .int .i64 0, .string ⟨#[]⟩] 69
  obtain ⟨k0, k1, k2, k3, k4⟩ := hn.five
  go_enter Tryz.func34, Tryz.ntmps34
  go_wp2
  refine bodyPost_ret (v := .agg #[.int .i64 16, .string ⟨#[]⟩, .int .i64 n, .int .i64 0, .string ⟨#[]⟩]) (by simp [results, Tryz.results34, go_sem, k0, k1, k2, k3, k4]) rfl ⟨rfl, ?_⟩
  exact below_alloc w _

/-- the error of begin at a view -/
def portBeg (who : List UInt8) (n ep : Int) : Nat := if validName who = false then 12 else if ¬ (1 ≤ n ∧ n ≤ 9999) ∨ ¬ (0 ≤ ep ∧ ep ≤ 1073741824) then 2 else 0
theorem portBeg_zero {who : List UInt8} {n ep : Int} : portBeg who n ep = 0 ↔ validName who = true ∧ (1 ≤ n ∧ n ≤ 9999) ∧ (0 ≤ ep ∧ ep ≤ 1073741824) := by
  unfold portBeg
  cases hv : validName who with
  | false => simp
  | true =>
    rw [if_neg (by simp)]
    by_cases h : (1 ≤ n ∧ n ≤ 9999) ∧ (0 ≤ ep ∧ ep ≤ 1073741824)
    · rw [if_neg (by simp [h])]; simp [h]
    · rw [if_pos (by by_cases h1 : 1 ≤ n ∧ n ≤ 9999
                     · exact .inr (fun h2 => h ⟨h1, h2⟩)
                     · exact .inl h1)]
      constructor
      · intro h2; cases h2
      · intro h2; exact absurd h2.2 h

set_option maxRecDepth 100000 in
set_option maxHeartbeats 800000 in
theorem portBegin_any (a : Addr) (who : List UInt8) (hw : who.length ≤ 1000000000) (n ep : Int) (w : World) :
    Calls Tryz.prog 68 #[.pointer (some a), .string (str who), .int .i64 n, .int .i64 ep] w fun e w' => e = .returned (.int .i64 (portBeg who n ep)) ∧ Below w.heap.size w w' := by
  have hv := fun w => valid_any who w hw
  cases hv0 : validName who with
  | false =>
    have e : portBeg who n ep = 12 := by unfold portBeg; rw [if_pos hv0]
    rw [hv0] at hv
    have Hv := Lib.hid hv; clear hv hv0
    rw [e]; clear e
    go_enter Tryz.func68, Tryz.ntmps68
    go_wp2_with (go_at_call 32; refine (Hv.out _).mono ?_; rintro x w2 ⟨rfl, hb2⟩)
    go_ret
    exact ⟨rfl, hb2⟩
  | true =>
    rw [hv0] at hv
    have Hv := Lib.hid hv; clear hv
    have hc := fun w => counts_any ep w
    by_cases h1 : 1 ≤ n
    · have k1 : ¬ (n < 1) := by omega
      by_cases h2 : n ≤ 9999
      · have k2 : ¬ (9999 < n) := by omega
        by_cases h3 : 0 ≤ ep ∧ ep ≤ 1073741824
        · have e : portBeg who n ep = 0 := portBeg_zero.2 ⟨hv0, ⟨h1, h2⟩, h3⟩
          rw [withinB_iff.2 h3] at hc
          have Hc := Lib.hid hc; clear hc hv0
          rw [e]; clear e
          go_enter Tryz.func68, Tryz.ntmps68
          go_wp2_with (first | (go_at_call 32; refine (Hv.out _).mono ?_; rintro x w2 ⟨rfl, hb2⟩) | (go_at_call 61; refine (Hc.out _).mono ?_; rintro x w3 ⟨rfl, rfl⟩))
          go_ret
          exact ⟨rfl, hb2⟩
        · have e : portBeg who n ep = 2 := by unfold portBeg; rw [if_neg (by simp [hv0]), if_pos (.inr h3)]
          rw [withinB_no.2 h3] at hc
          have Hc := Lib.hid hc; clear hc hv0
          rw [e]; clear e
          go_enter Tryz.func68, Tryz.ntmps68
          go_wp2_with (first | (go_at_call 32; refine (Hv.out _).mono ?_; rintro x w2 ⟨rfl, hb2⟩) | (go_at_call 61; refine (Hc.out _).mono ?_; rintro x w3 ⟨rfl, rfl⟩))
          go_ret
          exact ⟨rfl, hb2⟩
      · have e : portBeg who n ep = 2 := by unfold portBeg; rw [if_neg (by simp [hv0]), if_pos (.inl (by omega))]
        have k2 : 9999 < n := by omega
        rw [e]; clear e hv0
        go_enter Tryz.func68, Tryz.ntmps68
        go_wp2_with (first | (go_at_call 32; refine (Hv.out _).mono ?_; rintro x w2 ⟨rfl, hb2⟩))
        go_ret
        exact ⟨rfl, hb2⟩
    · have e : portBeg who n ep = 2 := by unfold portBeg; rw [if_neg (by simp [hv0]), if_pos (.inl (by omega))]
      have k1 : n < 1 := by omega
      rw [e]; clear e hv0
      go_enter Tryz.func68, Tryz.ntmps68
      go_wp2_with (first | (go_at_call 32; refine (Hv.out _).mono ?_; rintro x w2 ⟨rfl, hb2⟩))
      go_ret
      exact ⟨rfl, hb2⟩

/-- what read makes of an object: a port and the error -/
def rdPort (cur : Option (List UInt8)) (ep : Int) : PT × Nat := if portDecE (cur.getD []) = 0 ∧ (portDec (cur.getD [])).ep = ep then (portDec (cur.getD []), 0) else (⟨[], 0, 0, []⟩, 8)
theorem Cells.new {w0 w w' : World} {t : TypeId} (h : Cells [] w0 w) (ho : Only [t] w w') (hb : Below w0.heap.size w w') : Cells [] w0 w' := ⟨Nat.le_trans h.1 ho.1, fun b cs t f hk _ => (hb.block b (Array.getElem?_eq_some_iff.1 hk).1).trans (h.2 b cs t f hk (by simp))⟩

section
variable {B : Nat} {vb : Nat} {base : Value} {n : Nat} {cur : Option (List UInt8)} {k : Nat}
set_option maxRecDepth 100000 in
set_option maxHeartbeats 3200000 in
theorem portRead_any (w : World) (ep : Int) (hn : 1 ≤ n ∧ n ≤ 9999) (hcl : (cur.getD []).length ≤ 1000000000) (hO : ObjIs B w vb base 16 [] n 0 [] cur k) (hk : k < 1000000) :
    Calls Tryz.prog 69 #[.pointer (some ⟨vb, 0, none⟩), .int .i64 n, .int .i64 ep] w fun e w' => ∃ qv, e = .returned (.tuple #[portV (rdPort cur ep).1.own (rdPort cur ep).1.ep (rdPort cur ep).1.lost qv, .int .i64 (rdPort cur ep).2]) ∧ OwnsP w' w.heap.size qv (rdPort cur ep).1.q ∧ ObjIs B w' vb base 16 [] n 0 [] cur (k + 1) ∧ Below B w w' ∧ Cells [] w w' := by
  have hB := hO.le
  have hN := nameOk_port (n := n) (by omega) (by omega)
  have HN := Lib.hid hN; clear hN
  have Ho := Lib.hid (fun w => ofPort_any n w)
  obtain ⟨bs, hbs⟩ : ∃ bs, bs = cur.getD [] := ⟨_, rfl⟩
  have hg := fun w (h : ObjIs B w vb base 16 [] n 0 [] cur k) => objGet HN.out h hk
  unfold retV at hg
  have hde := fun w => portDecode_any bs w (by rw [hbs]; exact hcl)
  have hrd : rdPort cur ep = if portDecE bs = 0 ∧ (portDec bs).ep = ep then (portDec bs, 0) else (⟨[], 0, 0, []⟩, 8) := by unfold rdPort; rw [hbs]
  rw [hrd]; clear hrd
  rw [← hbs] at hg
  have Hg := Lib.hid hg; clear hg hbs hcl
  unfold PDecPost at hde
  obtain ⟨D, hD⟩ : ∃ D, D = portDec bs := ⟨_, rfl⟩
  obtain ⟨E, hE⟩ : ∃ E, E = portDecE bs := ⟨_, rfl⟩
  rw [← hD, ← hE] at hde ⊢
  unfold portV at hde
  have Hde := Lib.hid hde; clear hde hD hE
  obtain ⟨R, hR⟩ : ∃ R, R = if E = 0 ∧ D.ep = ep then (D, 0) else ((⟨[], 0, 0, []⟩ : PT), 8) := ⟨_, rfl⟩
  rw [← hR]
  have HR := Lib.hid hR; clear hR
  have hz0 := Blk.new w #[.string ⟨#[]⟩, .int .i64 0, .int .i64 0, .slice none 0 0] 25
  have hO0 := hO.keep (below_alloc w (.cells #[.string ⟨#[]⟩, .int .i64 0, .int .i64 0, .slice none 0 0] 25))
  have hP0 := (Past.at (w := w) hB).alloc (.cells #[.string ⟨#[]⟩, .int .i64 0, .int .i64 0, .slice none 0 0] 25)
  have hPw := (Past.refl w).alloc (.cells #[.string ⟨#[]⟩, .int .i64 0, .int .i64 0, .slice none 0 0] 25)
  clear hO
  go_enter Tryz.func69, Tryz.ntmps69
  go_wp2_with fail
  refine (Ho.out _).mono ?_
  rintro e w3 ⟨rfl, hb3⟩
  have hz3 := hz0.below hb3 hz0.lt
  have hO3 := hO0.keep hb3
  have hP3 := hP0.call hb3
  have hPw3 := hPw.call hb3
  clear hz0 hO0 hP0 hPw hb3
  go_wp2_with fail
  refine (Hg.out _ hO3).mono ?_
  rintro e w4 ⟨rfl, hO4, hb4, hc4⟩
  have hz4 := hc4.blk hz3 (by simp)
  have hP4 := hP3.next hb4
  have hC4 := (Cells.of_below hPw3.1).trans hc4
  clear hz3 hO3 hP3 hPw3 hb4 hc4
  go_wp2_with fail
  refine (Hde.out _).mono ?_
  rintro e w5 ⟨hb5, qv, rfl, hown5⟩
  obtain ⟨av, cv, rfl⟩ := hown5.slice
  have hle4 := hz4.lt
  have hz5 := (hz4.below hb5 hz4.lt).alloc (.cells #[.string (str D.own), .int .i64 D.ep, .int .i64 D.lost, .slice av D.q.length cv] 25)
  have hO5 := (hO4.keep hb5).keep (below_alloc w5 (.cells #[.string (str D.own), .int .i64 D.ep, .int .i64 D.lost, .slice av D.q.length cv] 25))
  have hP5 := (hP4.call hb5).alloc (.cells #[.string (str D.own), .int .i64 D.ep, .int .i64 D.lost, .slice av D.q.length cv] 25)
  have hC5 := (hC4.trans (Cells.of_below hb5)).trans (Cells.of_below (below_alloc w5 (.cells #[.string (str D.own), .int .i64 D.ep, .int .i64 D.lost, .slice av D.q.length cv] 25)))
  have hown6 := OwnsP.below hown5 (below_alloc w5 (.cells #[.string (str D.own), .int .i64 D.ep, .int .i64 D.lost, .slice av D.q.length cv] 25))
  have hT5 := Blk.new w5 #[.string (str D.own), .int .i64 D.ep, .int .i64 D.lost, .slice av D.q.length cv] 25
  have hsz5 : w.heap.size ≤ w5.heap.size := Nat.le_trans (Nat.le_of_lt hle4) hb5.size
  clear hz4 hO4 hP4 hb5 hC4 hown5
  obtain ⟨t0, t1, t2, t3, _, _, _, _⟩ := hT5.quad
  obtain ⟨z0, z1, z2, z3, f0, f1, f2, f3⟩ := hz5.quad
  by_cases h1 : E = 0
  · have k1 : ((E : Int) == 0) = true := by simp [h1]
    have k1' : ((E : Int) != 0) = false := by simp [h1]
    by_cases h2 : D.ep = ep
    · have k2 : (D.ep == ep) = true := by simp [h2]
      have k2' : (D.ep != ep) = false := by simp [h2]
      have hRe := Lib.hid (HR.out.trans (if_pos ⟨h1, h2⟩))
      clear h1 h2
      obtain ⟨q0, q1, q2, q3, _, hoq⟩ := hz5.stores4 (.string (str D.own)) (.int .i64 D.ep) (.int .i64 D.lost) (.slice av D.q.length cv)
      have hown7 : OwnsP _ w.heap.size (.slice av D.q.length cv) D.q := owns_mono (hoq.owns hown6 (by decide)) (Nat.le_of_lt hle4)
      have hb6 := (Past.at (w := w5.alloc (.cells #[.string (str D.own), .int .i64 D.ep, .int .i64 D.lost, .slice av D.q.length cv] 25)) hO5.le).stores4 (b := w.heap.size) hB (.string (str D.own)) (.int .i64 D.ep) (.int .i64 D.lost) (.slice av D.q.length cv)
      have hbw := (Past.at (B := w.heap.size) (w := w5.alloc (.cells #[.string (str D.own), .int .i64 D.ep, .int .i64 D.lost, .slice av D.q.length cv] 25)) (by simp; omega)).stores4 (b := w.heap.size) (Nat.le_refl _) (.string (str D.own)) (.int .i64 D.ep) (.int .i64 D.lost) (.slice av D.q.length cv)
      go_wp2
      refine bodyPost_ret (v := .tuple #[portV D.own D.ep D.lost (.slice av D.q.length cv), .int .i64 0]) (by simp [results, Tryz.results69, go_sem, q0, q1, q2, q3, portV]) rfl ⟨.slice av D.q.length cv, by rw [hRe.out]; rfl, by rw [hRe.out]; exact hown7, hO5.only hoq hb6.1 (by decide) (by decide), (hP5.next hb6.1).1, hC5.new hoq hbw.1⟩
    · have k2 : (D.ep == ep) = false := by simp [h2]
      have k2' : (D.ep != ep) = true := by simp [h2]
      have hRe := Lib.hid (HR.out.trans (if_neg (fun h => h2 h.2)))
      clear h1 h2
      obtain ⟨q0, q1, q2, q3, _, hoq⟩ := hz5.stores4 (.string ⟨#[]⟩) (.int .i64 0) (.int .i64 0) (.slice none 0 0)
      have hb6 := (Past.at (w := w5.alloc (.cells #[.string (str D.own), .int .i64 D.ep, .int .i64 D.lost, .slice av D.q.length cv] 25)) hO5.le).stores4 (b := w.heap.size) hB (.string ⟨#[]⟩) (.int .i64 0) (.int .i64 0) (.slice none 0 0)
      have hbw := (Past.at (B := w.heap.size) (w := w5.alloc (.cells #[.string (str D.own), .int .i64 D.ep, .int .i64 D.lost, .slice av D.q.length cv] 25)) (by simp; omega)).stores4 (b := w.heap.size) (Nat.le_refl _) (.string ⟨#[]⟩) (.int .i64 0) (.int .i64 0) (.slice none 0 0)
      go_wp2
      refine bodyPost_ret (v := .tuple #[portV [] 0 0 (.slice none 0 0), .int .i64 8]) (by simp [results, Tryz.results69, go_sem, q0, q1, q2, q3, portV]; rfl) rfl ⟨.slice none 0 0, by rw [hRe.out]; rfl, by rw [hRe.out]; exact OwnsP.nil _ _, hO5.only hoq hb6.1 (by decide) (by decide), (hP5.next hb6.1).1, hC5.new hoq hbw.1⟩
  · have k1 : ((E : Int) == 0) = false := by simp; omega
    have k1' : ((E : Int) != 0) = true := by simp; omega
    have hRe := Lib.hid (HR.out.trans (if_neg (fun h => h1 h.1)))
    clear h1
    obtain ⟨q0, q1, q2, q3, _, hoq⟩ := hz5.stores4 (.string ⟨#[]⟩) (.int .i64 0) (.int .i64 0) (.slice none 0 0)
    have hb6 := (Past.at (w := w5.alloc (.cells #[.string (str D.own), .int .i64 D.ep, .int .i64 D.lost, .slice av D.q.length cv] 25)) hO5.le).stores4 (b := w.heap.size) hB (.string ⟨#[]⟩) (.int .i64 0) (.int .i64 0) (.slice none 0 0)
    have hbw := (Past.at (B := w.heap.size) (w := w5.alloc (.cells #[.string (str D.own), .int .i64 D.ep, .int .i64 D.lost, .slice av D.q.length cv] 25)) (by simp; omega)).stores4 (b := w.heap.size) (Nat.le_refl _) (.string ⟨#[]⟩) (.int .i64 0) (.int .i64 0) (.slice none 0 0)
    go_wp2
    refine bodyPost_ret (v := .tuple #[portV [] 0 0 (.slice none 0 0), .int .i64 8]) (by simp [results, Tryz.results69, go_sem, q0, q1, q2, q3, portV]; rfl) rfl ⟨.slice none 0 0, by rw [hRe.out]; rfl, by rw [hRe.out]; exact OwnsP.nil _ _, hO5.only hoq hb6.1 (by decide) (by decide), (hP5.next hb6.1).1, hC5.new hoq hbw.1⟩
end
end Go.Proofs.YtgonfcdmaoeboaaGreatDoor

/- port.change, and the changes of Arrive and Receive. -/
namespace Go.Proofs.YtgonfcdmaoeboaaGreatDoor
open Go.RowKit

/-- what a change's function does: it makes P' of the port P at block pb, and returns wr and er -/
def PTurns (B S : Nat) (ex : Nat → Prop) (fn : Nat) (cap : Array Value) (P P' : PT) (wr : Bool) (er : Nat) (Pre Post : World → Prop) : Prop :=
  ∀ (w1 : World) (pb : Nat) (qv : Value), Pre w1 → B ≤ S → S ≤ pb → S ≤ w1.heap.size → Blk w1 pb #[.string (str P.own), .int .i64 P.ep, .int .i64 P.lost, qv] 25 → OwnsP w1 S qv P.q →
    Calls Tryz.prog fn (#[.pointer (some ⟨pb, 0, none⟩)] ++ cap) w1 fun x w2 => x = .returned (.tuple #[.bool wr, .int .i64 er]) ∧ ∃ av cv, Blk w2 pb #[.string (str P'.own), .int .i64 P'.ep, .int .i64 P'.lost, .slice av P'.q.length cv] 25 ∧ SeesP w2 (.slice av P'.q.length cv) P'.q ∧ Below B w1 w2 ∧ Only [25, 48] w1 w2 ∧ (∀ b, b < S → ¬ ex b → w2.heap[b]? = w1.heap[b]?) ∧ Post w2

/-- the cells of all types but some are as they were, but for some blocks -/
def CellsX (ex : Nat → Prop) (ts : List TypeId) (w w' : World) : Prop := w.heap.size ≤ w'.heap.size ∧ ∀ (b : Nat) (cs : Array Value) (t : TypeId) (f : Nat × Nat), w.heap[b]? = some (.cells cs t f) → t ∉ ts → ¬ ex b → w'.heap[b]? = some (.cells cs t f)
theorem CellsX.step {ex : Nat → Prop} {ts : List TypeId} {a b c : World} (h : Cells ts a b) (hs : b.heap.size ≤ c.heap.size) (hx : ∀ k, k < a.heap.size → ¬ ex k → c.heap[k]? = b.heap[k]?) : CellsX ex ts a c := ⟨Nat.le_trans h.1 hs, fun k cs t f hk ht hn => (hx k (Array.getElem?_eq_some_iff.1 hk).1 hn).trans (h.2 k cs t f hk ht)⟩
theorem CellsX.then {ex : Nat → Prop} {ts : List TypeId} {a b c : World} (h : CellsX ex ts a b) (h' : Cells ts b c) : CellsX ex ts a c := ⟨Nat.le_trans h.1 h'.1, fun k cs t f hk ht hn => h'.2 k cs t f (h.2 k cs t f hk ht hn) ht⟩
theorem CellsX.cells {ex : Nat → Prop} {ts : List TypeId} {a b c : World} (h : Cells ts a b) (h' : CellsX ex ts b c) (hx : ∀ k, k < a.heap.size → ¬ ex k) : Cells ts a c := ⟨Nat.le_trans h.1 h'.1, fun k cs t f hk ht => h'.2 k cs t f (h.2 k cs t f hk ht) ht (hx k (Array.getElem?_eq_some_iff.1 hk).1)⟩
theorem Only.cells {ts : List TypeId} {w w' : World} (h : Only ts w w') : Cells ts w w' := ⟨h.1, fun b cs t f hb ht => h.2 b _ hb (fun _ _ _ e => by cases e; exact ht)⟩
theorem rdPort_ok {cur : Option (List UInt8)} {ep : Int} (h : (rdPort cur ep).2 = 0) : (rdPort cur ep).1.check = 0 ∧ (rdPort cur ep).1.ep = ep := by
  have hh := @portDecE_ok (cur.getD [])
  unfold rdPort at h ⊢
  generalize portDecE (cur.getD []) = E at h hh ⊢
  generalize portDec (cur.getD []) = D at h hh ⊢
  by_cases hc : E = 0 ∧ D.ep = ep
  · rw [if_pos hc]; exact ⟨(hh hc.1).1, hc.2⟩
  · rw [if_neg hc] at h; cases h
theorem rdPort_or (cur : Option (List UInt8)) (ep : Int) : (rdPort cur ep).2 = 0 ∨ rdPort cur ep = (⟨[], 0, 0, []⟩, 8) := by
  unfold rdPort
  generalize portDecE (cur.getD []) = E
  generalize portDec (cur.getD []) = D
  by_cases hc : E = 0 ∧ D.ep = ep
  · rw [if_pos hc]; exact .inl rfl
  · rw [if_neg hc]; exact .inr rfl

section
variable {B : Nat} {vb : Nat} {base : Value} {n : Nat} {cur : Option (List UInt8)} {k : Nat}
set_option maxRecDepth 100000 in
set_option maxHeartbeats 1600000 in
theorem portChange_not (w : World) (ep : Int) (hn : 1 ≤ n ∧ n ≤ 9999) (hcl : (cur.getD []).length ≤ 1000000000) (hO : ObjIs B w vb base 16 [] n 0 [] cur k) (hk : k < 1000000) (hr : (rdPort cur ep).2 ≠ 0) (fv : Value) :
    Calls Tryz.prog 71 #[.pointer (some ⟨vb, 0, none⟩), .int .i64 n, .int .i64 ep, fv] w fun e w' => e = .returned (.int .i64 8) ∧ ObjIs B w' vb base 16 [] n 0 [] cur (k + 1) ∧ Below B w w' ∧ Cells [] w w' := by
  have hrd := portRead_any w ep hn hcl hO hk
  rw [(rdPort_or cur ep).resolve_left hr] at hrd
  unfold portV at hrd
  dsimp only at hrd
  have Hrd := Lib.hid hrd; clear hrd hO hr
  go_enter Tryz.func71, Tryz.ntmps71
  go_wp2_with fail
  refine (Hrd.out).mono ?_
  rintro e w2 ⟨qv, rfl, hown, hO2, hb2, hc2⟩
  obtain ⟨av, cv, rfl⟩ := hown.slice
  go_wp2
  go_ret
  exact ⟨rfl, hO2.keep (below_alloc w2 _), hb2.alloc hO2.le _, hc2.trans (Cells.of_below (below_alloc w2 _))⟩

set_option maxRecDepth 100000 in
set_option maxHeartbeats 3200000 in
theorem portChange_do (w : World) (ep : Int) (fn : Nat) (cap : Array Value) (hent : ∀ args w, (callFunc fn args).run Tryz.prog w = .ok (.enter fn args) w) (P' : PT) (wr : Bool) (er : Nat) (Pre Post : World → Prop)
    (hn : 1 ≤ n ∧ n ≤ 9999) (hcl : (cur.getD []).length ≤ 1000000000) (hO : ObjIs B w vb base 16 [] n 0 [] cur k) (hk : k < 999999) (hr : (rdPort cur ep).2 = 0) (hck : wr = true → P'.check = 0)
    (hpre : ∀ w', Cells [] w w' → Pre w') (hpost : ∀ a c, Post a → Cells [131] a c → Post c) (ex : Nat → Prop) (hf : PTurns B w.heap.size ex fn cap (rdPort cur ep).1 P' wr er Pre Post) :
    Calls Tryz.prog 71 #[.pointer (some ⟨vb, 0, none⟩), .int .i64 n, .int .i64 ep, .func (.func fn) #[] cap] w fun e w' => e = .returned (.int .i64 er) ∧ ObjIs B w' vb base 16 [] n 0 [] (if wr = true then some P'.bytes else cur) (k + 2) ∧ Below B w w' ∧ Post w' ∧ CellsX ex [131] w w' := by
  have hB := hO.le
  have hrd := portRead_any w ep hn hcl hO (by omega)
  obtain ⟨P, hP⟩ : ∃ P, P = (rdPort cur ep).1 := ⟨_, rfl⟩
  rw [hr, ← hP] at hrd
  rw [← hP] at hf
  unfold portV at hrd
  have Hrd := Lib.hid hrd; clear hrd hO hr hP
  have Ho := Lib.hid (fun w => ofPort_any n w)
  have HN := Lib.hid (nameOk_port (n := n) (by omega) (by omega))
  have Hf := Lib.hid hf; clear hf
  have Hpre := Lib.hid hpre; clear hpre
  have Hpost := Lib.hid hpost; clear hpost
  cases wr with
  | false =>
    clear hck
    go_enter Tryz.func71, Tryz.ntmps71
    go_wp2_with fail
    refine (Hrd.out).mono ?_
    rintro e w2 ⟨qv, rfl, hown, hO2, hb2, hc2⟩
    obtain ⟨av, cv, rfl⟩ := hown.slice
    have hk2 := Blk.new w2 #[.string (str P.own), .int .i64 P.ep, .int .i64 P.lost, .slice av P.q.length cv] 25
    have hO3 := hO2.keep (below_alloc w2 (.cells #[.string (str P.own), .int .i64 P.ep, .int .i64 P.lost, .slice av P.q.length cv] 25))
    have hb3 := hb2.alloc hO2.le (.cells #[.string (str P.own), .int .i64 P.ep, .int .i64 P.lost, .slice av P.q.length cv] 25)
    have hc3 := hc2.trans (Cells.of_below (below_alloc w2 (.cells #[.string (str P.own), .int .i64 P.ep, .int .i64 P.lost, .slice av P.q.length cv] 25)))
    have hF := Hf.out _ w2.heap.size (.slice av P.q.length cv) (Hpre.out _ hc3) hB hc2.1 (Nat.le_trans hc2.1 (by simp)) hk2 (OwnsP.below hown (below_alloc w2 _))
    have HF := Lib.hid hF; clear hF hk2 hown hc2 hb2 hO2
    go_wp2_with fail
    refine HF.out.mono ?_
    rintro e w4 ⟨rfl, av4, cv4, hk4, hs4, hb4, ho4, hx4, hp4⟩
    have hO4 := hO3.only ho4 hb4 (by decide) (by decide)
    have hb5 := hb3.trans hb4
    have hc4 : CellsX ex [131] w w4 := CellsX.step (hc3.more (by simp)) ho4.1 hx4
    clear HF hO3 hb3 hb4 ho4 hc3 hx4
    go_wp2
    go_ret
    exact ⟨rfl, hO4.more (by omega), hb5, hp4, hc4⟩
  | true =>
    have HCK := Lib.hid (hck rfl); clear hck
    go_enter Tryz.func71, Tryz.ntmps71
    go_wp2_with fail
    refine (Hrd.out).mono ?_
    rintro e w2 ⟨qv, rfl, hown, hO2, hb2, hc2⟩
    obtain ⟨av, cv, rfl⟩ := hown.slice
    have hk2 := Blk.new w2 #[.string (str P.own), .int .i64 P.ep, .int .i64 P.lost, .slice av P.q.length cv] 25
    have hO3 := hO2.keep (below_alloc w2 (.cells #[.string (str P.own), .int .i64 P.ep, .int .i64 P.lost, .slice av P.q.length cv] 25))
    have hb3 := hb2.alloc hO2.le (.cells #[.string (str P.own), .int .i64 P.ep, .int .i64 P.lost, .slice av P.q.length cv] 25)
    have hc3 := hc2.trans (Cells.of_below (below_alloc w2 (.cells #[.string (str P.own), .int .i64 P.ep, .int .i64 P.lost, .slice av P.q.length cv] 25)))
    have hF := Hf.out _ w2.heap.size (.slice av P.q.length cv) (Hpre.out _ hc3) hB hc2.1 (Nat.le_trans hc2.1 (by simp)) hk2 (OwnsP.below hown (below_alloc w2 _))
    have HF := Lib.hid hF; clear hF hk2 hown hc2 hb2 hO2
    go_wp2_with fail
    refine HF.out.mono ?_
    rintro e w4 ⟨rfl, av4, cv4, hk4, hs4, hb4, ho4, hx4, hp4⟩
    have hO4 := hO3.only ho4 hb4 (by decide) (by decide)
    have hb5 := hb3.trans hb4
    have hc4 : CellsX ex [131] w w4 := CellsX.step (hc3.more (by simp)) ho4.1 hx4
    clear HF hO3 hb3 hb4 ho4 hc3 hx4
    have hck := HCK.out
    have hen := portEncode_any P'.own P'.ep P'.lost (.slice av4 P'.q.length cv4) P'.q w4 hs4 (by have := valid_len (PT.check_ok.1 hck).1; omega) (by have := (PT.check_ok.1 hck).2.2.2.1; omega) (fun p hp => by have := pkE_len (pksE_ok.1 (PT.check_ok.1 hck).2.2.2.2 p hp); omega)
    have e1 : PT.enc ⟨P'.own, P'.ep, P'.lost, P'.q⟩ = P'.bytes := by unfold PT.enc; rw [if_pos hck]
    have e2 : PT.check ⟨P'.own, P'.ep, P'.lost, P'.q⟩ = 0 := hck
    rw [e1, e2] at hen
    have hbl := PT.len hck
    unfold portV at hen
    have Hen := Lib.hid hen; clear hen e1 e2 hck
    obtain ⟨t0, t1, t2, t3, _, _, _, _⟩ := hk4.quad
    go_wp2_with fail
    refine Hen.out.mono ?_
    rintro e w6 ⟨rfl, hb6⟩
    have hO6 := hO4.keep hb6
    have hb7 := hb5.trans (hb6.mono hO4.le)
    have hc6 := hc4.then (Cells.of_below hb6)
    have hp6 := Hpost.out _ _ hp4 (Cells.of_below hb6)
    clear Hen hO4 hb5 hb6 hc4 hp4 t0 t1 t2 t3 hk4 hs4
    go_wp2_with fail
    refine (Ho.out _).mono ?_
    rintro e w8 ⟨rfl, hb8⟩
    have hO8 := hO6.keep hb8
    have hb9 := hb7.trans (hb8.mono hO6.le)
    have hc8 := hc6.then (Cells.of_below hb8)
    have hp8 := Hpost.out _ _ hp6 (Cells.of_below hb8)
    clear hO6 hb7 hb8 hc6 hp6
    go_wp2_with fail
    refine (objSet HN.out hO8 (by omega) P'.bytes (by omega)).mono ?_
    rintro e w10 ⟨rfl, hO10, hb10, hc10⟩
    go_wp2
    go_ret
    exact ⟨rfl, hO10, hb9.trans hb10, Hpost.out _ _ hp8 hc10, hc8.then hc10⟩
end
end Go.Proofs.YtgonfcdmaoeboaaGreatDoor

/- port: what the changes of Arrive and Receive do. -/
namespace Go.Proofs.YtgonfcdmaoeboaaGreatDoor
open Go.RowKit
attribute [local go_sem ↓] Go.wp_at_zero Go.wp_at_succ

def arrP (P : PT) (p : Pk) : PT := if P.q.length = 16 then (if P.lost < 1073741824 then ⟨P.own, P.ep, P.lost + 1, P.q⟩ else P) else ⟨P.own, P.ep, P.lost, P.q ++ [p]⟩
def arrW (P : PT) : Bool := if P.q.length = 16 then decide (P.lost < 1073741824) else true
def arrE (P : PT) : Nat := if P.q.length = 16 then 9 else 0
theorem arrP_ok {P : PT} {p : Pk} (h : P.check = 0) (hp : pkE p = 0) : arrW P = true → (arrP P p).check = 0 := by
  intro hw
  obtain ⟨h1, h2, h3, h4, h5⟩ := PT.check_ok.1 h
  unfold arrW at hw
  unfold arrP
  by_cases h16 : P.q.length = 16
  · rw [if_pos h16] at hw ⊢
    have hl : P.lost < 1073741824 := by simpa using hw
    rw [if_pos hl]
    exact PT.check_ok.2 ⟨h1, h2, by simp only; omega, h4, h5⟩
  · rw [if_neg h16]
    refine PT.check_ok.2 ⟨h1, h2, h3, by simp only [List.length_append, List.length_singleton]; omega, ?_⟩
    rw [pksE_ok]
    intro x hx
    rcases List.mem_append.1 hx with hx | hx
    · exact pksE_ok.1 h5 x hx
    · simp at hx; rw [hx]; exact hp

set_option maxRecDepth 100000 in
set_option maxHeartbeats 3200000 in
theorem arrive_turns {B S qb : Nat} {P : PT} {p : Pk} (hP16 : P.q.length ≤ 16) (hlo : 0 ≤ P.lost ∧ P.lost ≤ 1073741824) :
    PTurns B S (fun _ => False) 72 #[.pointer (some ⟨qb, 0, none⟩)] P (arrP P p) (arrW P) (arrE P) (fun w => Blk w qb #[.string (str p.1), .string (str p.2)] 48) (fun _ => True) := by
  intro w1 pb qv hpre hBS hSp hS1 hk hown'
  have hBp : B ≤ pb := Nat.le_trans hBS hSp
  have hB1 : B ≤ w1.heap.size := Nat.le_trans hBS hS1
  have hrow : ∀ k, qv.ownBlock = some k → S ≤ k := fun k hk => (hown'.lt k hk).1
  have hown : OwnsP w1 B qv P.q := owns_mono hown' hBS
  have Hrow := Lib.hid hrow; clear hrow hown'
  obtain ⟨av, cv, rfl⟩ := hown.slice
  obtain ⟨p0, p1, p2, p3, f0, f1, f2, f3⟩ := hk.quad
  obtain ⟨x0, x1, _, _⟩ := hpre.two
  by_cases h16 : P.q.length = 16
  · have q1 : ((P.q.length : Int) == 16) = true := by simp [h16]
    have e2 : arrE P = 9 := by unfold arrE; rw [if_pos h16]
    by_cases hl : P.lost < 1073741824
    · have e1 : arrP P p = ⟨P.own, P.ep, P.lost + 1, P.q⟩ := by unfold arrP; rw [if_pos h16, if_pos hl]
      have e3 : arrW P = true := by unfold arrW; rw [if_pos h16]; simp [hl]
      rw [e1, e2, e3]; clear e1 e2 e3 h16
      have hk2 : Blk (w1.setCell ⟨pb, 2, none⟩ (.int .i64 (P.lost + 1))) pb #[.string (str P.own), .int .i64 P.ep, .int .i64 (P.lost + 1), .slice av P.q.length cv] 25 := (hk.set 2 _).congr rfl
      have ho2 : Only [25, 48] w1 (w1.setCell ⟨pb, 2, none⟩ (.int .i64 (P.lost + 1))) := Only.set hk (by simp) _
      have hown2 : OwnsP (w1.setCell ⟨pb, 2, none⟩ (.int .i64 (P.lost + 1))) B (.slice av P.q.length cv) P.q := owns_set hown hk (by decide) _
      have hP2 := (Past.at (w := w1) hB1).set (p := ⟨pb, 2, none⟩) hBp (.int .i64 (P.lost + 1))
      obtain ⟨hlo1, hlo2⟩ := hlo
      go_enter Tryz.func72, Tryz.ntmps72
      go_wp2
      go_ret2
      exact ⟨rfl, av, cv, hk2, hown2.sees, hP2.1, ho2, fun b hb _ => Below.heap_setCell _ _ _ _ (by show b ≠ pb; omega), trivial⟩
    · have e1 : arrP P p = P := by unfold arrP; rw [if_pos h16, if_neg hl]
      have e3 : arrW P = false := by unfold arrW; rw [if_pos h16]; simp [hl]
      have q2 : decide (P.lost < 1073741824) = false := by simp [hl]
      rw [e1, e2, e3]; clear e1 e2 e3 h16 hl
      go_enter Tryz.func72, Tryz.ntmps72
      go_wp2
      go_ret2
      exact ⟨rfl, av, cv, hk, hown.sees, Below.refl _ _, Only.refl _ _, fun _ _ _ => rfl, trivial⟩
  · have q1 : ((P.q.length : Int) == 16) = false := by simp; omega
    have e1 : arrP P p = ⟨P.own, P.ep, P.lost, P.q ++ [p]⟩ := by unfold arrP; rw [if_neg h16]
    have e2 : arrE P = 0 := by unfold arrE; rw [if_neg h16]
    have e3 : arrW P = true := by unfold arrW; rw [if_neg h16]
    rw [e1, e2, e3]; clear e1 e2 e3 h16
    have hkd := (hk.below (Below.refl _ w1).drew hk.lt).alloc (.cells #[.string (str p.1), .string (str p.2)] 48)
    have hownd : OwnsP (w1.drew.alloc (.cells #[.string (str p.1), .string (str p.2)] 48)) B (.slice av P.q.length cv) P.q := (OwnsP.below hown (Below.refl _ w1).drew).below (below_alloc w1.drew _)
    have hplt := hk.lt
    have hqlt := hpre.lt
    have A2 := sees_new w1.drew #[.string (str p.1), .string (str p.2)] 48 (0, 0) 2 1 1 rfl (Nat.le_refl _)
    have hPd := ((Past.at (w := w1) hB1).drew).alloc (.cells #[.string (str p.1), .string (str p.2)] 48)
    have hod : Only [25, 48] w1 (w1.drew.alloc (.cells #[.string (str p.1), .string (str p.2)] 48)) := Only.of_below (((Below.refl _ w1).drew).trans (below_alloc w1.drew _))
    go_enter Tryz.func72, Tryz.ntmps72
    go_wp2_with fail
    go_region_law ((refine step_append_slice _ _ _ 23 rfl B 48 (.agg #[.string ⟨#[]⟩, .string ⟨#[]⟩]) 2 32 Tryz.underlying23 Tryz.infoPk rfl (by decide) hownd rfl A2 rfl (by simp [Value.oneCell']) (by unfold maxLen; omega) (by omega) (by simp; omega) ?_; intro av8 cv8 w8 hown8 hg8; have ho8 := Only.of_grown hownd hg8; have hk8 := ho8.blk hkd (by decide); obtain ⟨y0, y1, y2, y3, fz0, fz1, fz2, fz3⟩ := hk8.quad))
    all_goals go_wp2
    all_goals go_ret2
    all_goals (
      have hk9 : Blk (w8.setCell ⟨pb, 3, none⟩ (.slice av8 (P.q.length + 1) cv8)) pb #[.string (str P.own), .int .i64 P.ep, .int .i64 P.lost, .slice av8 (P.q.length + 1) cv8] 25 := (hk8.set 3 _).congr rfl
      have hown9 := owns_set hown8 hk8 (by decide) (j := 3) (.slice av8 (P.q.length + 1) cv8)
      have hl9 : (P.q ++ [p]).length = P.q.length + 1 := by simp
      refine ⟨rfl, av8, cv8, by rw [hl9]; exact hk9, ?_, ((hPd.grown hg8 hownd).set (p := ⟨pb, 3, none⟩) hBp _).1, (hod.trans (ho8.more (by simp))).trans (Only.set hk8 (by simp) _), fun b hb _ => ?_, trivial⟩
      · unfold SeesP
        rw [hl9]
        have h9 := sees_of_owns hown9
        exact sees_eq h9 rfl (by rw [pkCells_append]; rfl)
      · have hbl : b < w1.heap.size := by omega
        rw [Below.heap_setCell _ _ _ _ (by show b ≠ pb; omega), hg8.block b (by simp; omega) (fun e => by have := Hrow.out b e.symm; omega)]
        exact Below.heap_alloc w1 _ _ hbl)
end Go.Proofs.YtgonfcdmaoeboaaGreatDoor

/- port: what the change of Receive does. -/
namespace Go.Proofs.YtgonfcdmaoeboaaGreatDoor
open Go.RowKit
attribute [local go_sem ↓] Go.wp_at_zero Go.wp_at_succ

def rcvE (P : PT) (who : List UInt8) : Nat := if P.own ≠ who then 14 else if P.q = [] then 19 else 0
def rcvP (P : PT) (who : List UInt8) : PT := if rcvE P who = 0 then ⟨P.own, P.ep, P.lost, P.q.drop 1⟩ else P
def rcvO (P : PT) (who : List UInt8) : Pk := if rcvE P who = 0 then P.q.headD ([], []) else ([], [])
theorem rcvP_ok {P : PT} {who : List UInt8} (h : P.check = 0) : (rcvP P who).check = 0 := by
  obtain ⟨h1, h2, h3, h4, h5⟩ := PT.check_ok.1 h
  unfold rcvP
  split
  · refine PT.check_ok.2 ⟨h1, h2, h3, by simp only [List.length_drop]; omega, ?_⟩
    rw [pksE_ok]
    intro x hx
    exact pksE_ok.1 h5 x (List.mem_of_mem_drop hx)
  · exact h
theorem size_elemP (w : World) : (sizeOf (Tryz.prog.elem 23)).run Tryz.prog w = .ok 2 w := by kernel_rfl
theorem underP : Tryz.prog.underlying 23 = some (.slice (Tryz.prog.elem 23)) := by kernel_rfl
theorem slice_oneP {b n c : Nat} (hn : 1 ≤ n) (hc : n ≤ c) : ∃ off, (off = 2 ∨ n = 1) ∧ ∀ w', (Instr.sliceAt 23 (.slice (some ⟨b, 0, none⟩) n c) (some (.int .i64 1)) none none).run Tryz.prog w' = .ok (.slice (some ⟨b, off, none⟩) (n - 1) (c - 1)) w' := by
  by_cases h : c = 1
  · refine ⟨0, .inr (by omega), fun w' => ?_⟩
    rw [show (Value.int .i64 1) = .int .i64 ((1 : Nat) : Int) from rfl, run_slice_from _ underP 2 size_elemP _ _ _ _ hn]
    simp [sliced, h]
  · refine ⟨2, .inl rfl, fun w' => ?_⟩
    rw [show (Value.int .i64 1) = .int .i64 ((1 : Nat) : Int) from rfl, run_slice_from _ underP 2 size_elemP _ _ _ _ hn]
    simp [sliced, h, Addr.add_lit]
theorem seesP_tail {w : World} {b n c off : Nat} {s : Pk} {rest : List Pk} (h : Sees w 2 (.slice (some ⟨b, 0, none⟩) n c) n (pkCells (s :: rest))) (hoff : off = 2 ∨ n = 1) : SeesP w (.slice (some ⟨b, off, none⟩) (n - 1) (c - 1)) rest ∧ w.cell? ⟨b, 0, none⟩ = some (.string (str s.1)) ∧ w.cell? ⟨b, 1, none⟩ = some (.string (str s.2)) ∧ b < w.heap.size := by
  obtain ⟨h1, ao, c', e, hc, h2⟩ := h
  cases e
  rw [pkCells_len] at h1
  simp only [List.length_cons] at h1
  rcases h2 with ⟨e, _⟩ | ⟨b', off', e, hlt, hcell⟩
  · cases e
  · cases e
    refine ⟨⟨by rw [pkCells_len], _, _, by rw [show n - 1 = rest.length by omega], by omega, .inr ⟨b, off, rfl, hlt, fun j u hu => ?_⟩⟩, hcell 0 _ rfl, hcell 1 _ rfl, hlt⟩
    rcases hoff with rfl | hoff
    · have := hcell (j + 2) u (by simpa [pkCells] using hu)
      rw [← this]; congr 2; omega
    · have hl : rest.length = 0 := by omega
      have : rest = [] := List.eq_nil_of_length_eq_zero hl
      subst this
      simp [pkCells] at hu

set_option maxRecDepth 100000 in
set_option maxHeartbeats 3200000 in
theorem receive_turns {B S wb ob yb : Nat} {P : PT} {who : List UInt8} (hyo : yb ≠ ob) (_ : P.q.length ≤ 16) (hob : B ≤ ob) (hobS : ob < S) :
    PTurns B S (fun b => b = ob) 74 #[.pointer (some ⟨wb, 0, none⟩), .pointer (some ⟨ob, 0, none⟩)] P (rcvP P who) (decide (rcvE P who = 0)) (rcvE P who) (fun w => Blk w wb #[.string (str who)] 22 ∧ Blk w ob #[.string (str []), .string (str [])] 48 ∧ Blk w yb #[.string (str []), .string (str [])] 48) (fun w => Blk w ob #[.string (str (rcvO P who).1), .string (str (rcvO P who).2)] 48 ∧ Blk w yb #[.string (str []), .string (str [])] 48) := by
  intro w1 pb qv hpre hBS hSp hS1 hk hown
  have hBp : B ≤ pb := Nat.le_trans hBS hSp
  have hB1 : B ≤ w1.heap.size := Nat.le_trans hBS hS1
  obtain ⟨hw, ho, hy⟩ := hpre
  obtain ⟨p0, p1, p2, p3, f0, f1, f2, f3⟩ := hk.quad
  obtain ⟨x0, x1, g0, g1⟩ := ho.two
  have u0 := hw.cell 0
  by_cases h1 : P.own = who
  · have k1 : ((str P.own).toList == (str who).toList) = true := by simp [h1]
    cases hq : P.q with
    | nil =>
      have e1 : rcvE P who = 19 := by unfold rcvE; rw [if_neg (by simp [h1]), if_pos hq]
      have e2 : rcvP P who = P := by unfold rcvP; rw [e1, if_neg (by decide)]
      have e3 : rcvO P who = ([], []) := by unfold rcvO; rw [e1, if_neg (by decide)]
      obtain ⟨av, cv, rfl⟩ := hown.slice
      rw [e1, e2, e3]
      have q1 : ((P.q.length : Int) == 0) = true := by simp [hq]
      clear e1 e2 e3 h1 hq
      go_enter Tryz.func74, Tryz.ntmps74
      go_wp2_with fail
      go_quiet (fail)
      go_wp2
      go_ret2
      exact ⟨rfl, av, cv, hk.below (below_drewN _ _ _) hk.lt, hown.sees.below (below_drewN _ _ _), below_drewN _ _ _, Only.of_below (below_drewN _ _ _), fun _ _ _ => rfl, ho.below (below_drewN _ _ _) ho.lt, hy.below (below_drewN _ _ _) hy.lt⟩
    | cons s rest =>
      have e1 : rcvE P who = 0 := by unfold rcvE; rw [if_neg (by simp [h1]), if_neg (by rw [hq]; simp)]
      have e2 : rcvP P who = ⟨P.own, P.ep, P.lost, rest⟩ := by unfold rcvP; rw [if_pos e1, hq]; rfl
      have e3 : rcvO P who = s := by unfold rcvO; rw [if_pos e1, hq]; rfl
      rw [e1, e2, e3]; clear e1 e2 e3
      have hs : Sees w1 2 qv P.q.length (pkCells P.q) := hown.sees
      obtain ⟨g, cap, rfl, hnc⟩ : ∃ g cap, qv = .slice (some ⟨g, 0, none⟩) P.q.length cap ∧ P.q.length ≤ cap := by
        rcases hown.2 with ⟨_, h0⟩ | ⟨g, cap, cur, rfl, _, _, hn, _⟩
        · rw [hq] at h0; simp at h0
        · exact ⟨g, cap, rfl, hn⟩
      have hpos : 1 ≤ P.q.length := by rw [hq]; simp
      obtain ⟨off, hoff, hsl⟩ := slice_oneP (b := g) hpos hnc
      rw [show pkCells P.q = pkCells (s :: rest) by rw [hq]] at hs
      obtain ⟨htail, r0, r1, hgl⟩ := seesP_tail hs hoff
      have hrl : P.q.length - 1 = rest.length := by rw [hq]; simp
      have q1 : ((P.q.length : Int) == 0) = false := by rw [beq_eq_false_iff_ne]; omega
      have q2 : (0 : Int) < P.q.length := by omega
      have hgp : g ≠ pb := fun h => by
        subst h
        obtain ⟨_, hlt⟩ := hown.lt g rfl
        rcases hown.2 with ⟨h0, _⟩ | ⟨g', cap', cur, h0, _, hg, _⟩
        · cases h0
        · cases h0
          have hk' : w1.heap[g]? = some (.cells _ 25 (0, 0)) := hk
          rw [hg] at hk'
          cases hk'
      have hgo : g ≠ ob := fun h => by
        have := (hown.lt g rfl).1
        omega
      have hop : ob ≠ pb := fun h => by subst h; have := (ho.inj hk).2; revert this; decide
      clear hown hs hq h1
      have hob1 := ho.lt
      have hpb1 := hk.lt
      go_enter Tryz.func74, Tryz.ntmps74
      go_wp2_with fail
      go_quiet (fail)
      go_wp2_with fail
      go_region
      all_goals go_wp2
      go_ret2
      have hd := below_drewN w1.heap.size w1 (nq + 1)
      have hoa := ho.below hd hob1
      have hob' := (hoa.set 0 (.string (str s.1))).congr (cs' := #[.string (str s.1), .string (str [])]) rfl
      have hoc := (hob'.set 1 (.string (str s.2))).congr (cs' := #[.string (str s.1), .string (str s.2)]) rfl
      have hka := ((hk.below hd hpb1).setOther (a := ⟨ob, 0, none⟩) hop.symm (.string (str s.1))).setOther (a := ⟨ob, 1, none⟩) hop.symm (.string (str s.2))
      have hkc := (hka.set 3 (.slice (some ⟨g, off, none⟩) rest.length (cap - 1))).congr (cs' := #[.string (str P.own), .int .i64 P.ep, .int .i64 P.lost, .slice (some ⟨g, off, none⟩) rest.length (cap - 1)]) rfl
      have hyp : yb ≠ pb := fun h => by subst h; have := (hy.inj hk).2; revert this; decide
      have hye := (((hy.below hd hy.lt).setOther (a := ⟨ob, 0, none⟩) hyo (.string (str s.1))).setOther (a := ⟨ob, 1, none⟩) hyo (.string (str s.2))).setOther (a := ⟨pb, 3, none⟩) hyp (.slice (some ⟨g, off, none⟩) rest.length (cap - 1))
      have hod := hoc.setOther (a := ⟨pb, 3, none⟩) hop (.slice (some ⟨g, off, none⟩) rest.length (cap - 1))
      have hon : Only [25, 48] w1 _ := (((Only.of_below hd).trans (Only.set hoa (by simp) (j := 0) (.string (str s.1)))).trans (Only.set hob' (by simp) (j := 1) (.string (str s.2)))).trans (Only.set hka (by simp) (j := 3) (.slice (some ⟨g, off, none⟩) rest.length (cap - 1)))
      have hbe := ((((Past.at (w := w1) hB1).drewN (nq + 1)).set (p := ⟨ob, 0, none⟩) hob (.string (str s.1))).set (p := ⟨ob, 1, none⟩) hob (.string (str s.2))).set (p := ⟨pb, 3, none⟩) hBp (.slice (some ⟨g, off, none⟩) rest.length (cap - 1))
      have htl : SeesP _ (.slice (some ⟨g, off, none⟩) rest.length (cap - 1)) rest := Sees.kept (w' := (((w1.drewN (nq + 1)).setCell ⟨ob, 0, none⟩ (.string (str s.1))).setCell ⟨ob, 1, none⟩ (.string (str s.2))).setCell ⟨pb, 3, none⟩ (.slice (some ⟨g, off, none⟩) rest.length (cap - 1))) (by rw [hrl] at htail; exact htail) hon.1 (fun k hk2 => by
        obtain rfl : g = k := by simpa [Value.ownBlock] using hk2
        rw [Below.heap_setCell _ _ _ _ hgp, Below.heap_setCell _ _ _ _ hgo, Below.heap_setCell _ _ _ _ hgo]
        rfl)
      exact ⟨rfl, _, _, hkc, htl, hbe.1, hon, fun b hb hn => by
        rw [Below.heap_setCell _ _ _ _ (by show b ≠ pb; omega), Below.heap_setCell _ _ _ _ hn, Below.heap_setCell _ _ _ _ hn]
        rfl, hod, hye⟩
  · have k1 : ((str P.own).toList == (str who).toList) = false := by simp [str_toList, h1]
    have e1 : rcvE P who = 14 := by unfold rcvE; rw [if_pos h1]
    have e2 : rcvP P who = P := by unfold rcvP; rw [e1, if_neg (by decide)]
    have e3 : rcvO P who = ([], []) := by unfold rcvO; rw [e1, if_neg (by decide)]
    obtain ⟨av, cv, rfl⟩ := hown.slice
    rw [e1, e2, e3]
    clear e1 e2 e3 h1
    go_enter Tryz.func74, Tryz.ntmps74
    go_wp2_with fail
    go_quiet (fail)
    go_wp2
    go_ret2
    exact ⟨rfl, av, cv, hk.below (below_drewN _ _ _) hk.lt, hown.sees.below (below_drewN _ _ _), below_drewN _ _ _, Only.of_below (below_drewN _ _ _), fun _ _ _ => rfl, ho.below (below_drewN _ _ _) ho.lt, hy.below (below_drewN _ _ _) hy.lt⟩
end Go.Proofs.YtgonfcdmaoeboaaGreatDoor
