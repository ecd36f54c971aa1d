/- Contracts of functions on the way to the claim, proved for every input that their hypotheses let by; no condition of the claim. Joined of: Y3 Y4. -/
import Derived.Deep.RegionLaw
import Derived.Deep.DrawnRows
import Derived.Test.YtgonfcdmaoeboaaGreatDoorG19

/- Encode of a port, in the package and in the law. -/
namespace Go.Proofs.YtgonfcdmaoeboaaGreatDoor
open Go.RowKit

theorem flatP_take_succ {l : List Pk} {k : Nat} {p : Pk} (h : l[k]? = some p) : flatP (l.take (k + 1)) = flatP (l.take k) ++ (txt p.1 ++ txt p.2) := by
  obtain ⟨h1, h2⟩ := List.getElem?_eq_some_iff.1 h
  rw [List.take_succ_eq_append_getElem h1, flatP_append, h2]
  simp [flatP, pkBytes]

set_option maxRecDepth 100000 in
set_option maxHeartbeats 3200000 in
theorem portEncode_any (own : List UInt8) (ep lost : Int) (qv : Value) (q : List Pk) (w : World) (hq : SeesP w qv q) (ho : own.length ≤ 1000000000) (hl : q.length ≤ 9223372036854775807) (hls : ∀ p ∈ q, p.1.length ≤ 9223372036854775807 ∧ p.2.length ≤ 9223372036854775807) :
    Calls Tryz.prog 15 #[portV own ep lost qv] w fun x w' => x = .returned (.tuple #[.string (str (PT.enc ⟨own, ep, lost, q⟩)), .int .i64 (PT.check ⟨own, ep, lost, q⟩)]) ∧ Below w.heap.size w w' := by
  obtain ⟨ao, c, rfl⟩ := sees_slice hq
  have hbx := Blk.new w #[.string (str own), .int .i64 ep, .int .i64 lost, .slice ao q.length c] 25
  have hP := (Past.refl w).alloc (.cells #[.string (str own), .int .i64 ep, .int .i64 lost, .slice ao q.length c] 25)
  have hq1 := hq.below (below_alloc w (.cells #[.string (str own), .int .i64 ep, .int .i64 lost, .slice ao q.length c] 25))
  have hck := portCheck_any own ep lost _ q _ hq1 ho hl hls
  unfold portV at *
  have Hck := Lib.hid hck; clear hck hq1
  obtain ⟨b0, b1, b2, b3, _, _, _, _⟩ := hbx.quad
  by_cases h0 : PT.check ⟨own, ep, lost, q⟩ = 0
  · obtain ⟨hv, ⟨he1, he2⟩, ⟨hlo1, hlo2⟩, hl16, hpk⟩ := PT.check_ok.1 h0
    simp only at hv he1 he2 hlo1 hlo2 hl16 hpk
    have hvl := valid_len hv
    have hll : ∀ p ∈ q, p.1.length ≤ 32 ∧ p.2.length ≤ 512 := fun p hp => pkE_len (pksE_ok.1 hpk p hp)
    have hfl : ∀ k, (flatP (q.take k)).length ≤ 17000 := fun k => by
      have h1 := flatP_le (l := q.take k) (fun p hp => hll p (List.mem_of_mem_take hp))
      have h2 : (q.take k).length * 600 ≤ 16 * 600 := Nat.mul_le_mul_right _ (by rw [List.length_take]; omega)
      omega
    obtain ⟨e', rfl⟩ := Int.eq_ofNat_of_zero_le he1
    obtain ⟨lo', rfl⟩ := Int.eq_ofNat_of_zero_le hlo1
    have hl1 := natBytes_len64 (n := e') (by omega)
    have hl2 := natBytes_len64 (n := own.length) (by omega)
    have hl3 := natBytes_len64 (n := q.length) (by omega)
    have hl4 := natBytes_len64 (n := lo') (by omega)
    rw [h0] at Hck ⊢
    have Hfin : Hid (PT.enc ⟨own, e', lo', q⟩ = PT.bytes ⟨own, e', lo', q⟩) := by show _ = _; unfold PT.enc; rw [if_pos h0]
    obtain ⟨ao', c', hvv, hc, hget⟩ := hq.at
    cases hvv
    have Hget := Lib.hid hget; clear hget hq
    have Hll := Lib.hid hll; clear hll
    have Hfl := Lib.hid hfl; clear hfl
    clear h0 hv hpk
    go_enter Tryz.func15, Tryz.ntmps15
    go_wp2_with fail
    refine Hck.out.mono ?_
    rintro x w1 ⟨rfl, hb1⟩
    have hbk1 := hbx.below hb1 (by simp)
    have hP1 := hP.call hb1
    have hz1 : w.heap.size < w1.heap.size := hbk1.lt
    clear b0 b1 b2 b3
    go_wp2_with fail
    refine (newWriter_any _).mono ?_
    rintro x w2 ⟨rfl, hW2, hb2⟩
    have hbk2 := hbk1.below hb2 hz1
    have hP2 := hP1.call hb2
    obtain ⟨c20, c21, c22, c23, _, _, _, _⟩ := hbk2.quad
    go_wp2_with fail
    refine (text_ok w1.heap.size w1.heap.size [] (str own) (by rw [str_size]; omega) _ hW2 (by simp)).mono ?_
    rintro x w3 ⟨rfl, hW3, hb3⟩
    rw [str_size, str_data] at hW3
    have hbk3 := hbk2.below hb3 hz1
    have hP3 := hP2.next (hb3.mono (Nat.le_of_lt hz1))
    obtain ⟨c30, c31, c32, c33, _, _, _, _⟩ := hbk3.quad
    clear c20 c21 c22 c23
    go_wp2_with fail
    refine (number_ok w1.heap.size w1.heap.size _ e' (by omega) _ hW3 (by simp; omega)).mono ?_
    rintro x w4 ⟨rfl, hW4, hb4⟩
    have hbk4 := hbk3.below hb4 hz1
    have hP4 := hP3.next (hb4.mono (Nat.le_of_lt hz1))
    obtain ⟨c40, c41, c42, c43, _, _, _, _⟩ := hbk4.quad
    clear c30 c31 c32 c33
    go_wp2_with fail
    refine (number_ok w1.heap.size w1.heap.size _ lo' (by omega) _ hW4 (by simp; omega)).mono ?_
    rintro x w5 ⟨rfl, hW5, hb5⟩
    have hbk5 := hbk4.below hb5 hz1
    have hP5 := hP4.next (hb5.mono (Nat.le_of_lt hz1))
    obtain ⟨c50, c51, c52, c53, _, _, _, _⟩ := hbk5.quad
    clear c40 c41 c42 c43
    go_wp2_with fail
    refine (number_ok w1.heap.size w1.heap.size _ q.length (by omega) _ hW5 (by simp; omega)).mono ?_
    rintro x w6 ⟨rfl, hW6, hb6⟩
    have hbk6 := hbk5.below hb6 hz1
    have hP6 := hP5.next (hb6.mono (Nat.le_of_lt hz1))
    obtain ⟨c60, c61, c62, c63, _, _, _, _⟩ := hbk6.quad
    clear c50 c51 c52 c53
    obtain ⟨L, hL⟩ : ∃ L, L = [] ++ natBytes own.length ++ own ++ natBytes e' ++ natBytes lo' ++ natBytes q.length := ⟨_, rfl⟩
    rw [← hL] at hW6
    have hLl : L.length ≤ 1000 := by rw [hL]; simp; omega
    have HL := Lib.hid hL; clear hL
    clear hb2 hb3 hb4 hb5 hb6 hW2 hW3 hW4 hW5 hbk1 hbk2 hbk3 hbk4 hbk5 hP1 hP2 hP3 hP4 hP5
    go_wp2
    clear c60 c61 c62 c63
    go_loopg [36] q.length (fun g t wr => ∃ k : Nat, k ≤ q.length ∧ g = q.length - k ∧ t = .int .i64 k ∧ WriterIs w1.heap.size wr w1.heap.size (L ++ flatP (q.take k)) ∧ Past w.heap.size w wr ∧ Blk wr w.heap.size #[.string (str own), .int .i64 e', .int .i64 lo', .slice ao q.length c] 25)
    case atStart => exact ⟨0, Nat.zero_le _, rfl, rfl, by simpa [flatP] using hW6, hP6, hbk6⟩
    case round =>
      obtain ⟨k, hk, rfl, rfl, hW, hPr, hxr⟩ := hrel
      clear hW6 hP6 hbk6
      have hlk := Hfl.out k
      obtain ⟨x0, x1, x2, x3, _, _, _, _⟩ := hxr.quad
      by_cases hlt : k < q.length
      · obtain ⟨p, hp⟩ : ∃ p, q[k]? = some p := ⟨_, List.getElem?_eq_getElem hlt⟩
        obtain ⟨bb, off, rfl, hbl, hc1, hc2⟩ := Hget.out k p hp
        have htk := Hll.out p (List.mem_of_getElem? hp)
        have hfs : flatP (q.take (k + 1)) = flatP (q.take k) ++ (txt p.1 ++ txt p.2) := flatP_take_succ hp
        have Hfs := Lib.hid hfs; clear hfs hp
        obtain ⟨a, b⟩ := p
        simp only at hc1 hc2 htk
        have d1 : wr.cell? ⟨bb, off + k * 2, none⟩ = some (.string (str a)) := (hPr.1.cell (p := ⟨bb, off + k * 2, none⟩) hbl).trans hc1
        have d2 : wr.cell? ⟨bb, off + k * 2 + 1, none⟩ = some (.string (str b)) := (hPr.1.cell (p := ⟨bb, off + k * 2 + 1, none⟩) hbl).trans hc2
        have q0 : (k : Int) < q.length := by omega
        have hna := natBytes_len64 (n := a.length) (by omega)
        have hnb := natBytes_len64 (n := b.length) (by omega)
        have hW7 := hW.kept (below_alloc wr (.cells #[.string (str a), .string (str b)] 48))
        go_wp2_with fail
        refine (text_only w1.heap.size w1.heap.size _ (str a) (by rw [str_size]; omega) _ hW7 (by simp; omega)).mono ?_
        rintro x w7 ⟨rfl, hW8, hb7, ho7⟩
        rw [str_size, str_data] at hW8
        have hx7 := (hxr.alloc (.cells #[.string (str a), .string (str b)] 48)).below hb7 hz1
        have hP7 := (hPr.alloc (.cells #[.string (str a), .string (str b)] 48)).next (hb7.mono (Nat.le_of_lt hz1))
        have hpk7 := ho7.blk (Blk.new wr #[.string (str a), .string (str b)] 48) (by decide)
        obtain ⟨pk0, pk1, _, _⟩ := hpk7.two
        go_wp2_with fail
        refine (text_ok w1.heap.size w1.heap.size _ (str b) (by rw [str_size]; omega) _ hW8 (by simp; omega)).mono ?_
        rintro x w8 ⟨rfl, hW9, hb8⟩
        rw [str_size, str_data] at hW9
        have hW10 : WriterIs w1.heap.size w8 w1.heap.size (L ++ flatP (q.take (k + 1))) := by
          rw [Hfs.out]; simpa [txt] using hW9
        have hx8 := hx7.below hb8 hz1
        have hP8 := hP7.next (hb8.mono (Nat.le_of_lt hz1))
        clear hW9 hb8 hW8
        go_wp2
        go_roundg (q.length - (k + 1))
        case measure => omega
        case rel => exact ⟨k + 1, by omega, rfl, by go_num, hW10, hP8, hx8⟩
      · obtain rfl : k = q.length := by omega
        have q0 : decide ((q.length : Int) < (q.length : Int)) = false := by simp
        rw [List.take_length] at hW hlk
        obtain ⟨L6, hL6⟩ : ∃ L6, L6 = L ++ flatP q := ⟨_, rfl⟩
        rw [← hL6] at hW
        have hL6l : L6.length ≤ 100000000 := by rw [hL6]; simp; omega
        have HL6 := Lib.hid hL6; clear hL6 hlt
        go_wp2_with fail
        refine (bytes_ok w1.heap.size w1.heap.size _ _ hW hL6l).mono ?_
        rintro x w7 ⟨v7, rfl, hown7, hb7⟩
        have hle7 := hW.le
        obtain ⟨a7, c7, rfl⟩ := owns_slice hown7
        have hsee7 := sees_of_owns hown7
        go_wp2_with (with_reducible refine wpList_string_of_bytes (o := ⟨some 55, _, _, _, _, _⟩) _ rfl _ _ 5 _ rfl Tryz.underlying112 Tryz.underlying5 Tryz.underlying9 hsee7 rfl ?_)
        go_ret2
        refine ⟨?_, (hPr.call hb7).1⟩
        rw [Hfin.out]
        have e1 : PT.bytes ⟨own, (e' : Int), (lo' : Int), q⟩ = L6 := by rw [HL6.out, HL.out]; simp [PT.bytes, txt]
        rw [e1]
        rfl
  · have h0' : ((PT.check ⟨own, ep, lost, q⟩ : Int) == 0) = false := by simp; omega
    have h0'' : ((PT.check ⟨own, ep, lost, q⟩ : Int) != 0) = true := by simp; omega
    have Hfin : Hid (PT.enc ⟨own, ep, lost, q⟩ = []) := by show _ = _; unfold PT.enc; rw [if_neg h0]
    go_enter Tryz.func15, Tryz.ntmps15
    go_wp2_with fail
    refine Hck.out.mono ?_
    rintro x w1 ⟨rfl, hb1⟩
    go_wp2
    go_ret2
    exact ⟨by rw [Hfin.out]; rfl, (hP.call hb1).1⟩

set_option maxRecDepth 100000 in
set_option maxHeartbeats 3200000 in
theorem portEncodeL_any (own : List UInt8) (ep lost : Int) (qv : Value) (q : List Pk) (w : World) (hq : SeesP w qv q) (ho : own.length ≤ 1000000000) (hl : q.length ≤ 9223372036854775807) (_ : ∀ p ∈ q, p.1.length ≤ 9223372036854775807 ∧ p.2.length ≤ 9223372036854775807) (h0 : PT.check ⟨own, ep, lost, q⟩ = 0) :
    Calls Tryz.prog 20 #[portV own ep lost qv] w fun x w' => x = .returned (.string (str (PT.bytes ⟨own, ep, lost, q⟩))) ∧ Below w.heap.size w w' := by
  obtain ⟨ao, c, rfl⟩ := sees_slice hq
  have hbx := Blk.new w #[.string (str own), .int .i64 ep, .int .i64 lost, .slice ao q.length c] 25
  have hP := (Past.refl w).alloc (.cells #[.string (str own), .int .i64 ep, .int .i64 lost, .slice ao q.length c] 25)
  have hq1 := hq.below (below_alloc w (.cells #[.string (str own), .int .i64 ep, .int .i64 lost, .slice ao q.length c] 25))
  unfold portV
  clear hq1
  obtain ⟨b0, b1, b2, b3, _, _, _, _⟩ := hbx.quad
  have h0 := h0
  · obtain ⟨hv, ⟨he1, he2⟩, ⟨hlo1, hlo2⟩, hl16, hpk⟩ := PT.check_ok.1 h0
    simp only at hv he1 he2 hlo1 hlo2 hl16 hpk
    have hvl := valid_len hv
    have hll : ∀ p ∈ q, p.1.length ≤ 32 ∧ p.2.length ≤ 512 := fun p hp => pkE_len (pksE_ok.1 hpk p hp)
    have hfl : ∀ k, (flatP (q.take k)).length ≤ 17000 := fun k => by
      have h1 := flatP_le (l := q.take k) (fun p hp => hll p (List.mem_of_mem_take hp))
      have h2 : (q.take k).length * 600 ≤ 16 * 600 := Nat.mul_le_mul_right _ (by rw [List.length_take]; omega)
      omega
    obtain ⟨e', rfl⟩ := Int.eq_ofNat_of_zero_le he1
    obtain ⟨lo', rfl⟩ := Int.eq_ofNat_of_zero_le hlo1
    have hl1 := natBytes_len64 (n := e') (by omega)
    have hl2 := natBytes_len64 (n := own.length) (by omega)
    have hl3 := natBytes_len64 (n := q.length) (by omega)
    have hl4 := natBytes_len64 (n := lo') (by omega)
    obtain ⟨ao', c', hvv, hc, hget⟩ := hq.at
    cases hvv
    have Hget := Lib.hid hget; clear hget hq
    have Hll := Lib.hid hll; clear hll
    have Hfl := Lib.hid hfl; clear hfl
    clear h0 hv hpk
    go_enter Tryz.func20, Tryz.ntmps20
    have hz1 : w.heap.size < (w.alloc (.cells #[.string (str own), .int .i64 e', .int .i64 lo', .slice ao q.length c] 25)).heap.size := hbx.lt
    obtain ⟨w1, hw1⟩ : ∃ w1, w1 = w.alloc (.cells #[.string (str own), .int .i64 e', .int .i64 lo', .slice ao q.length c] 25) := ⟨_, rfl⟩
    have hbk1 := hbx
    have hP1 := hP
    clear b0 b1 b2 b3 hbx hP
    rw [← hw1] at hbk1 hP1 hz1
    go_wp2_with fail
    rw [← hw1]
    clear hw1
    skip
    refine (newWriter_any _).mono ?_
    rintro x w2 ⟨rfl, hW2, hb2⟩
    have hbk2 := hbk1.below hb2 hz1
    have hP2 := hP1.call hb2
    obtain ⟨c20, c21, c22, c23, _, _, _, _⟩ := hbk2.quad
    go_wp2_with fail
    refine (text_ok w1.heap.size w1.heap.size [] (str own) (by rw [str_size]; omega) _ hW2 (by simp)).mono ?_
    rintro x w3 ⟨rfl, hW3, hb3⟩
    rw [str_size, str_data] at hW3
    have hbk3 := hbk2.below hb3 hz1
    have hP3 := hP2.next (hb3.mono (Nat.le_of_lt hz1))
    obtain ⟨c30, c31, c32, c33, _, _, _, _⟩ := hbk3.quad
    clear c20 c21 c22 c23
    go_wp2_with fail
    refine (number_ok w1.heap.size w1.heap.size _ e' (by omega) _ hW3 (by simp; omega)).mono ?_
    rintro x w4 ⟨rfl, hW4, hb4⟩
    have hbk4 := hbk3.below hb4 hz1
    have hP4 := hP3.next (hb4.mono (Nat.le_of_lt hz1))
    obtain ⟨c40, c41, c42, c43, _, _, _, _⟩ := hbk4.quad
    clear c30 c31 c32 c33
    go_wp2_with fail
    refine (number_ok w1.heap.size w1.heap.size _ lo' (by omega) _ hW4 (by simp; omega)).mono ?_
    rintro x w5 ⟨rfl, hW5, hb5⟩
    have hbk5 := hbk4.below hb5 hz1
    have hP5 := hP4.next (hb5.mono (Nat.le_of_lt hz1))
    obtain ⟨c50, c51, c52, c53, _, _, _, _⟩ := hbk5.quad
    clear c40 c41 c42 c43
    go_wp2_with fail
    refine (number_ok w1.heap.size w1.heap.size _ q.length (by omega) _ hW5 (by simp; omega)).mono ?_
    rintro x w6 ⟨rfl, hW6, hb6⟩
    have hbk6 := hbk5.below hb6 hz1
    have hP6 := hP5.next (hb6.mono (Nat.le_of_lt hz1))
    obtain ⟨c60, c61, c62, c63, _, _, _, _⟩ := hbk6.quad
    clear c50 c51 c52 c53
    obtain ⟨L, hL⟩ : ∃ L, L = [] ++ natBytes own.length ++ own ++ natBytes e' ++ natBytes lo' ++ natBytes q.length := ⟨_, rfl⟩
    rw [← hL] at hW6
    have hLl : L.length ≤ 1000 := by rw [hL]; simp; omega
    have HL := Lib.hid hL; clear hL
    clear hb2 hb3 hb4 hb5 hb6 hW2 hW3 hW4 hW5 hbk1 hbk2 hbk3 hbk4 hbk5 hP1 hP2 hP3 hP4 hP5
    go_wp2
    clear c60 c61 c62 c63
    go_loopg [4] q.length (fun g t wr => ∃ k : Nat, k ≤ q.length ∧ g = q.length - k ∧ t = .int .i64 k ∧ WriterIs w1.heap.size wr w1.heap.size (L ++ flatP (q.take k)) ∧ Past w.heap.size w wr ∧ Blk wr w.heap.size #[.string (str own), .int .i64 e', .int .i64 lo', .slice ao q.length c] 25)
    case atStart => exact ⟨0, Nat.zero_le _, rfl, rfl, by simpa [flatP] using hW6, hP6, hbk6⟩
    case round =>
      obtain ⟨k, hk, rfl, rfl, hW, hPr, hxr⟩ := hrel
      clear hW6 hP6 hbk6
      have hlk := Hfl.out k
      obtain ⟨x0, x1, x2, x3, _, _, _, _⟩ := hxr.quad
      by_cases hlt : k < q.length
      · obtain ⟨p, hp⟩ : ∃ p, q[k]? = some p := ⟨_, List.getElem?_eq_getElem hlt⟩
        obtain ⟨bb, off, rfl, hbl, hc1, hc2⟩ := Hget.out k p hp
        have htk := Hll.out p (List.mem_of_getElem? hp)
        have hfs : flatP (q.take (k + 1)) = flatP (q.take k) ++ (txt p.1 ++ txt p.2) := flatP_take_succ hp
        have Hfs := Lib.hid hfs; clear hfs hp
        obtain ⟨a, b⟩ := p
        simp only at hc1 hc2 htk
        have d1 : wr.cell? ⟨bb, off + k * 2, none⟩ = some (.string (str a)) := (hPr.1.cell (p := ⟨bb, off + k * 2, none⟩) hbl).trans hc1
        have d2 : wr.cell? ⟨bb, off + k * 2 + 1, none⟩ = some (.string (str b)) := (hPr.1.cell (p := ⟨bb, off + k * 2 + 1, none⟩) hbl).trans hc2
        have q0 : (k : Int) < q.length := by omega
        have hna := natBytes_len64 (n := a.length) (by omega)
        have hnb := natBytes_len64 (n := b.length) (by omega)
        have hW7 := hW
        go_wp2_with fail
        refine (text_only w1.heap.size w1.heap.size _ (str a) (by rw [str_size]; omega) _ hW7 (by simp; omega)).mono ?_
        rintro x w7 ⟨rfl, hW8, hb7, ho7⟩
        rw [str_size, str_data] at hW8
        have hx7 := hxr.below hb7 hz1
        have hP7 := hPr.next (hb7.mono (Nat.le_of_lt hz1))
        obtain ⟨x0, x1, x2, x3, _, _, _, _⟩ := hx7.quad
        have d1 : w7.cell? ⟨bb, off + k * 2, none⟩ = some (.string (str a)) := (hP7.1.cell (p := ⟨bb, off + k * 2, none⟩) hbl).trans hc1
        have d2 : w7.cell? ⟨bb, off + k * 2 + 1, none⟩ = some (.string (str b)) := (hP7.1.cell (p := ⟨bb, off + k * 2 + 1, none⟩) hbl).trans hc2
        go_wp2_with fail
        refine (text_ok w1.heap.size w1.heap.size _ (str b) (by rw [str_size]; omega) _ hW8 (by simp; omega)).mono ?_
        rintro x w8 ⟨rfl, hW9, hb8⟩
        rw [str_size, str_data] at hW9
        have hW10 : WriterIs w1.heap.size w8 w1.heap.size (L ++ flatP (q.take (k + 1))) := by
          rw [Hfs.out]; simpa [txt] using hW9
        have hx8 := hx7.below hb8 hz1
        have hP8 := hP7.next (hb8.mono (Nat.le_of_lt hz1))
        clear hW9 hb8 hW8
        go_wp2
        go_roundg (q.length - (k + 1))
        case measure => omega
        case rel => exact ⟨k + 1, by omega, rfl, by go_num, hW10, hP8, hx8⟩
      · obtain rfl : k = q.length := by omega
        have q0 : decide ((q.length : Int) < (q.length : Int)) = false := by simp
        rw [List.take_length] at hW hlk
        obtain ⟨L6, hL6⟩ : ∃ L6, L6 = L ++ flatP q := ⟨_, rfl⟩
        rw [← hL6] at hW
        have hL6l : L6.length ≤ 100000000 := by rw [hL6]; simp; omega
        have HL6 := Lib.hid hL6; clear hL6 hlt
        go_wp2_with fail
        refine (bytes_ok w1.heap.size w1.heap.size _ _ hW hL6l).mono ?_
        rintro x w7 ⟨v7, rfl, hown7, hb7⟩
        have hle7 := hW.le
        obtain ⟨a7, c7, rfl⟩ := owns_slice hown7
        have hsee7 := sees_of_owns hown7
        go_wp2_with (with_reducible refine wpList_string_of_bytes (o := ⟨some 54, _, _, _, _, _⟩) _ rfl _ _ 5 _ rfl Tryz.underlying112 Tryz.underlying5 Tryz.underlying9 hsee7 rfl ?_)
        go_ret
        refine ⟨?_, (hPr.call hb7).1⟩
        have e1 : PT.bytes ⟨own, (e' : Int), (lo' : Int), q⟩ = L6 := by rw [HL6.out, HL.out]; simp [PT.bytes, txt]
        rw [e1]
        rfl
end Go.Proofs.YtgonfcdmaoeboaaGreatDoor

/- Decode of a port, in the package and in the law. -/
namespace Go.Proofs.YtgonfcdmaoeboaaGreatDoor
open Go.RowKit
attribute [local go_sem ↓] Go.wp_at_zero Go.wp_at_succ

theorem Tryz.infoPk : (Tryz.prog.info? 48).map (fun i => (i.zero, i.size, i.bytes)) = some (some (.agg #[.string ⟨#[]⟩, .string ⟨#[]⟩]), 2, 32) := by kernel_rfl
theorem rdNum_le (most : Nat) (rest : List UInt8) (f : Nat) : (rdNum most rest f).1 ≤ most := by
  by_cases h : (rdNum most rest f).2.2 = 0
  · exact (rdNum_ok h).2.2
  · unfold rdNum at h ⊢
    split
    · simp
    · split
      · simp
      · rename_i h1 h2
        rw [if_neg h1, if_neg h2] at h
        exact absurd rfl h
theorem Blk.stores4 {w : World} {b : Nat} {x y z u : Value} {t : TypeId} (h : Blk w b #[x, y, z, u] t) (x' y' z' u' : Value) :
    (w.setCell ⟨b, 0, none⟩ x').cell? ⟨b, 0, none⟩ = some x' ∧ ((w.setCell ⟨b, 0, none⟩ x').setCell ⟨b, 1, none⟩ y').cell? ⟨b, 1, none⟩ = some y' ∧
    (((w.setCell ⟨b, 0, none⟩ x').setCell ⟨b, 1, none⟩ y').setCell ⟨b, 2, none⟩ z').cell? ⟨b, 2, none⟩ = some z' ∧
    ((((w.setCell ⟨b, 0, none⟩ x').setCell ⟨b, 1, none⟩ y').setCell ⟨b, 2, none⟩ z').setCell ⟨b, 3, none⟩ u').cell? ⟨b, 3, none⟩ = some u' ∧
    Blk ((((w.setCell ⟨b, 0, none⟩ x').setCell ⟨b, 1, none⟩ y').setCell ⟨b, 2, none⟩ z').setCell ⟨b, 3, none⟩ u') b #[x', y', z', u'] t ∧
    Only [t] w ((((w.setCell ⟨b, 0, none⟩ x').setCell ⟨b, 1, none⟩ y').setCell ⟨b, 2, none⟩ z').setCell ⟨b, 3, none⟩ u') := by
  have h1 : Blk (w.setCell ⟨b, 0, none⟩ x') b #[x', y, z, u] t := (h.set 0 x').congr rfl
  have h2 := (h1.set 1 y').congr (cs' := #[x', y', z, u]) rfl
  have h3 := (h2.set 2 z').congr (cs' := #[x', y', z', u]) rfl
  have h4 := (h3.set 3 u').congr (cs' := #[x', y', z', u']) rfl
  refine ⟨h1.quad.1, h2.quad.2.1, h3.quad.2.2.1, h4.quad.2.2.2.1, h4, ?_⟩
  exact (((Only.set h (by simp) x').trans (Only.set h1 (by simp) y')).trans (Only.set h2 (by simp) z')).trans (Only.set h3 (by simp) u')
theorem Past.stores4 {B b : Nat} {W w : World} (h : Past B W w) (hb : B ≤ b) (x y z u : Value) :
    Past B W ((((w.setCell ⟨b, 0, none⟩ x).setCell ⟨b, 1, none⟩ y).setCell ⟨b, 2, none⟩ z).setCell ⟨b, 3, none⟩ u) := (((h.set hb _).set hb _).set hb _).set hb _
theorem Past.grown {B : Nat} {a w w' : World} {e : TypeId} {size : Nat} {v : Value} {n : Nat} {xs : List Value} (h : Past B a w) (hg : w.grownBy w' v.ownBlock) (ho : w.ownsRow B e size v n xs) : Past B a w' := ⟨h.1.grown hg h.2 (fun k hk => (ho.lt k hk).1), Nat.le_trans h.2 hg.size⟩
theorem owns_set {w : World} {base : Nat} {e : TypeId} {size : Nat} {v : Value} {n : Nat} {xs : List Value} (h : w.ownsRow base e size v n xs) {b j : Nat} {cs : Array Value} {t : TypeId} (hb : Blk w b cs t) (ht : e ≠ t) (u : Value) : (w.setCell ⟨b, j, none⟩ u).ownsRow base e size v n xs :=
  Only.owns (ts := [t]) (Only.set hb (by simp) u) h (by simpa using ht)

/-- the result's variable and the port of Decode -/
structure PBlks (H T : Nat) (w : World) (cs : Array Value) : Prop where
  out : Blk w H #[.string ⟨#[]⟩, .int .i64 0, .int .i64 0, .slice none 0 0] 25
  tt : Blk w T cs 25
theorem PBlks.only {H T : Nat} {w w' : World} {cs : Array Value} {ts : List TypeId} (h : PBlks H T w cs) (ho : Only ts w w') (ht : 25 ∉ ts) : PBlks H T w' cs := ⟨ho.blk h.out ht, ho.blk h.tt ht⟩
theorem PBlks.below {H T : Nat} {w w' : World} {cs : Array Value} (h : PBlks H T w cs) (hb : Below w.heap.size w w') : PBlks H T w' cs := ⟨h.out.below hb h.out.lt, h.tt.below hb h.tt.lt⟩
theorem PBlks.set {H T : Nat} {w : World} {cs : Array Value} (h : PBlks H T w cs) (hne : H ≠ T) (j : Nat) (v : Value) : PBlks H T (w.setCell ⟨T, j, none⟩ v) (cs.setIfInBounds j v) :=
  ⟨h.out.setOther (a := ⟨T, j, none⟩) hne v, h.tt.set j v⟩
/-- what Decode returns -/
def PDecPost (l : List UInt8) (w : World) (x : Ending) (w' : World) : Prop :=
  Below w.heap.size w w' ∧ ∃ qv, x = .returned (.tuple #[portV (portDec l).own (portDec l).ep (portDec l).lost qv, .int .i64 (portDecE l)]) ∧ OwnsP w' w.heap.size qv (portDec l).q

set_option maxRecDepth 100000 in
set_option maxHeartbeats 3200000 in
theorem portDecode_any (l : List UInt8) (w : World) (hs : l.length ≤ 1000000000) : Calls Tryz.prog 19 #[.string (str l)] w (PDecPost l w) := by
  obtain ⟨a, ha⟩ : ∃ a, a = rdText 64 l 0 := ⟨_, rfl⟩
  obtain ⟨b, hb⟩ : ∃ b, b = rdNum 1073741824 a.2.1 a.2.2 := ⟨_, rfl⟩
  obtain ⟨c, hc⟩ : ∃ c, c = rdNum 1073741824 b.2.1 b.2.2 := ⟨_, rfl⟩
  obtain ⟨d, hd⟩ : ∃ d, d = rdNum 16 c.2.1 c.2.2 := ⟨_, rfl⟩
  obtain ⟨q, hqe⟩ : ∃ q, q = rdPks d.1 d.2.1 d.2.2 := ⟨_, rfl⟩
  have hrd : portRd l = (⟨a.1, b.1, c.1, q.1⟩, q.2.1, q.2.2) := by unfold portRd; simp only [hqe, hd, hc, hb, ha]
  have hal : a.1.length ≤ 64 := by rw [ha]; exact rdText_le _ _ _
  have hdl : d.1 ≤ 16 := by rw [hd]; exact rdNum_le _ _ _
  have hqn : q.1.length = d.1 := by rw [hqe]; exact rdPks_len _ _ _
  have hqs : ∀ p ∈ q.1, p.1.length ≤ 32 ∧ p.2.length ≤ 512 := by rw [hqe]; exact rdPks_le _ _ _
  have Ha := Lib.hid ha; clear ha
  have Hb := Lib.hid hb; clear hb
  have Hc := Lib.hid hc; clear hc
  have Hd := Lib.hid hd; clear hd
  have Hqe := Lib.hid hqe; clear hqe
  have Hrd := Lib.hid hrd; clear hrd
  have Hqs := Lib.hid hqs; clear hqs
  have Hqn := Lib.hid hqn; clear hqn
  have hz0 := Blk.new w #[.string ⟨#[]⟩, .int .i64 0, .int .i64 0, .slice none 0 0] 25
  have hP0 := (Past.refl w).alloc (.cells #[.string ⟨#[]⟩, .int .i64 0, .int .i64 0, .slice none 0 0] 25)
  have hsz := str_size l
  go_enter Tryz.func19, Tryz.ntmps19
  go_wp2_with (with_reducible refine wpList_bytes_of_string (o := ⟨some 9, _, _, _, _, _⟩) _ rfl _ _ 5 _ rfl Tryz.underlying9 Tryz.underlying112 Tryz.underlying5 (str l) rfl ?_)
  intro cap w1 hcap hsee hb1 hsz1
  rw [str_data] at hsee
  have hz1 := hz0.below hb1 (by simp)
  have hP1 := hP0.next (hb1.mono (Nat.le_succ _))
  go_wp2_with fail
  refine (newReader_any _ l _ hsee hs).mono ?_
  rintro x w2 ⟨rb, rfl, hr2, hb2⟩
  have hz2 := hz1.below hb2 hz1.lt
  have hP2 := hP1.call hb2
  go_wp2_with fail
  refine (rdText_any _ rb l 0 64 _ hr2 (by omega)).mono ?_
  rintro x w3 ⟨rfl, hr3, hb3, ho3⟩
  rw [← Ha.out] at hr3 ⊢
  have hz3 := ho3.blk hz2 (by decide)
  have hle1 : w.heap.size ≤ w1.heap.size := hP1.2
  have hP3 := hP2.next (hb3.mono hle1)
  go_wp2_with fail
  refine (rdNumber_any _ rb _ _ 1073741824 _ hr3).mono ?_
  rintro x w4 ⟨rfl, hr4, hb4, ho4⟩
  rw [← Hb.out] at hr4 ⊢
  have hz4 := ho4.blk hz3 (by decide)
  have hP4 := hP3.next (hb4.mono hle1)
  go_wp2_with fail
  refine (rdNumber_any _ rb _ _ 1073741824 _ hr4).mono ?_
  rintro x w5 ⟨rfl, hr5, hb5, ho5⟩
  rw [← Hc.out] at hr5 ⊢
  have hz5 := ho5.blk hz4 (by decide)
  have hP5 := hP4.next (hb5.mono hle1)
  have hT5 := Blk.new w5 #[.string (str a.1), .int .i64 b.1, .int .i64 c.1, .slice none 0 0] 25
  have hr6 := hr5.kept (below_alloc w5 (.cells #[.string (str a.1), .int .i64 b.1, .int .i64 c.1, .slice none 0 0] 25))
  have hP6 := hP5.alloc (.cells #[.string (str a.1), .int .i64 b.1, .int .i64 c.1, .slice none 0 0] 25)
  have hD6 : PBlks w.heap.size w5.heap.size _ _ := ⟨hz5.alloc _, hT5⟩
  have hHT : w.heap.size < w5.heap.size := hz5.lt
  clear hz0 hz1 hz2 hz3 hz4 hz5 hP0 hP1 hP2 hP3 hP4 hP5 hb1 hb2 hb3 hb4 hb5 ho3 ho4 ho5 hr2 hr3 hr4 hr5 hsee hT5
  go_wp2_with fail
  refine (rdNumber_any _ rb _ _ 16 _ hr6).mono ?_
  rintro x w7 ⟨rfl, hr7, hb7, ho7⟩
  rw [← Hd.out] at hr7 ⊢
  have hD7 := hD6.only ho7 (by decide)
  have hP7 := hP6.next (hb7.mono hle1)
  clear hr6 hP6 hD6 hb7 ho7
  go_wp2
  go_loopg [20] d.1 (fun g t wr => ∃ (k : Nat) (tv : Value), k ≤ d.1 ∧ g = d.1 - k ∧ t = .int .i64 k ∧ PBlks w.heap.size w5.heap.size wr #[.string (str a.1), .int .i64 b.1, .int .i64 c.1, tv] ∧ wr.ownsRow w.heap.size 48 2 tv k (pkCells (rdPks k d.2.1 d.2.2).1) ∧ ReaderIs w1.heap.size wr rb (rdPks k d.2.1 d.2.2).2.1 (rdPks k d.2.1 d.2.2).2.2 ∧ Past w.heap.size w wr)
  case atStart => exact ⟨0, _, Nat.zero_le _, rfl, rfl, hD7, World.ownsRow_nil _ _ _ _, hr7, hP7⟩
  case round =>
    obtain ⟨k, tv, hk, rfl, rfl, hD, hown, hr, hP⟩ := hrel
    clear hD7 hr7 hP7
    by_cases hlt : k < d.1
    · have hrx := hr.kept (Below.refl _ wr).drew
      have hownx := owns_below hown (Below.refl _ wr).drew
      have hDx := hD.below (Below.refl _ wr).drew
      have q0 : (k : Int) < d.1 := by omega
      obtain ⟨tv0, tv1, tv2, tv3, _, _, _, _⟩ := hD.tt.quad
      obtain ⟨X, hX⟩ : ∃ X, X = rdPks k d.2.1 d.2.2 := ⟨_, rfl⟩
      obtain ⟨Y, hY⟩ : ∃ Y, Y = rdText 32 X.2.1 X.2.2 := ⟨_, rfl⟩
      obtain ⟨Z, hZ⟩ : ∃ Z, Z = rdText 512 Y.2.1 Y.2.2 := ⟨_, rfl⟩
      have hXY : Hid (rdPks (k + 1) d.2.1 d.2.2 = (X.1 ++ [(Y.1, Z.1)], Z.2.1, Z.2.2)) := by show _ = _; simp only [rdPks, ← hX, ← hY, hZ]
      have hXl : X.1.length = k := by rw [hX]; exact rdPks_len _ _ _
      rw [← hX] at hrx hownx
      have hrt := fun w h => rdText_any w1.heap.size rb X.2.1 X.2.2 32 w h (by omega)
      rw [← hY] at hrt
      have Hrt := Lib.hid hrt; clear hrt
      have hrt := fun w h => rdText_any w1.heap.size rb Y.2.1 Y.2.2 512 w h (by omega)
      rw [← hZ] at hrt
      have Hrs := Lib.hid hrt; clear hrt hX hY hZ hr hown
      have HXl := Lib.hid hXl; clear hXl
      go_wp2_with fail
      go_region_law (first
          | (refine step_append_slice _ _ _ 23 rfl w.heap.size 48 (.agg #[.string ⟨#[]⟩, .string ⟨#[]⟩]) 2 32 Tryz.underlying23 Tryz.infoPk rfl (by decide) hown7 rfl A2 rfl (by simp [Value.oneCell']) (by unfold maxLen; omega) (by omega) (by simp; omega) ?_; intro av8 cv8 w8 hown8 hg8; have ho8 := Only.of_grown hown7 hg8; have hD8 := hD7.only ho8 (by decide); obtain ⟨y0, y1, y2, y3, fz0, fz1, fz2, fz3⟩ := hD8.tt.quad)
          | (go_simp; go_at_call 64; refine (Hrt.out _ hrx).mono ?_; rintro x w6 ⟨rfl, hrA, hb6, ho6⟩; clear hrx; have hD6 := hDx.only ho6 (by decide); have hown6 := ho6.owns hownx (by decide); have hsz6 : w.heap.size ≤ w6.heap.size := Nat.le_trans hP.2 ho6.1; obtain ⟨x0, x1, x2, x3, _, _, _, _⟩ := hD6.tt.quad)
          | (go_simp; go_at_call 64; refine (Hrs.out _ hrA).mono ?_; rintro x w7 ⟨rfl, hrB, hb7, ho7⟩; clear hrA; have hD7 := (hD6.only ho7 (by decide)).below (below_alloc w7 (.cells #[.string (str Y.1), .string (str Z.1)] 48)); have hown7 := (owns_below (ho7.owns hown6 (by decide)) (below_alloc w7 (.cells #[.string (str Y.1), .string (str Z.1)] 48))); have A2 := sees_new w7 #[.string (str Y.1), .string (str Z.1)] 48 (0, 0) 2 1 1 rfl (Nat.le_refl _); have hsz7 : w.heap.size ≤ w7.heap.size := Nat.le_trans hsz6 ho7.1; obtain ⟨x0, x1, x2, x3, _, _, _, _⟩ := (hD6.only ho7 (by decide)).tt.quad; have hlt7 := (hD6.only ho7 (by decide)).tt.lt))
      all_goals go_wp2
      all_goals go_roundg (d.1 - (k + 1))
      all_goals (try clear Hrt Hrs)
      all_goals first
        | (case measure => omega)
        | (case rel =>
            refine ⟨k + 1, .slice av8 (k + 1) cv8, by omega, rfl, by go_num, hD8.set (Nat.ne_of_lt hHT) 3 _, ?_, ?_, ?_⟩
            · rw [hXY.out]; simpa [pkCells_append, pkCells, sv] using owns_set hown8 hD8.tt (by decide) (.slice av8 (k + 1) cv8)
            · rw [hXY.out]; exact ((hrB.kept (below_alloc w7 _)).only ho8 (by decide) (by decide)).only (Only.set (ts := [25]) hD8.tt (by simp) _) (by decide) (by decide)
            · exact ((((hP.drew.next (hb6.mono hle1)).next (hb7.mono hle1)).alloc (.cells #[.string (str Y.1), .string (str Z.1)] 48)).grown hg8 hown7).set (Nat.le_of_lt hHT) _)
    · obtain rfl : k = d.1 := by omega
      have q0 : decide ((d.1 : Int) < (d.1 : Int)) = false := by simp
      rw [← Hqe.out] at hown hr
      obtain ⟨tv0, tv1, tv2, tv3, _, _, _, _⟩ := hD.tt.quad
      obtain ⟨av, cv, rfl⟩ := owns_slice hown
      obtain ⟨CL, hCL⟩ : ∃ c, c = rdClose q.2.1 q.2.2 := ⟨_, rfl⟩
      have hcl := close_any _ rb _ _ _ hr
      rw [← hCL] at hcl
      have Hcl := Lib.hid hcl; clear hcl hr
      go_wp2_with fail
      refine Hcl.out.mono ?_
      rintro x w9 ⟨rfl, hb9⟩
      have hD9 := hD.below hb9
      have hown9 := owns_below hown hb9
      have hP9 := hP.call hb9
      have hoz := hD9.out
      obtain ⟨p0, p1, p2, p3, _, _, _, _⟩ := hD9.tt.quad
      obtain ⟨z0, z1, z2, z3, f0, f1, f2, f3⟩ := hoz.quad
      clear tv0 tv1 tv2 tv3 hown hD hP Hcl
      have hzero : ∀ (E : Nat) (w' : World), Past w.heap.size w w' → portDecE l = E → E ≠ 0 → PDecPost l w (.returned (.tuple #[.agg #[.string ⟨#[]⟩, .int .i64 0, .int .i64 0, .slice none 0 0], .int .i64 E])) w' := fun E w' h1 h2 h3 => by
        refine ⟨h1.1, .slice none 0 0, ?_, ?_⟩
        · unfold portDec; rw [h2, if_neg h3]; rfl
        · unfold portDec; rw [h2, if_neg h3]; exact OwnsP.nil _ _
      have Hzero := Lib.hid hzero; clear hzero
      by_cases hcl : CL = 0
      · have hcl' : ((CL : Int) == 0) = true := by simp [hcl]
        have hcl'' : ((CL : Int) != 0) = false := by simp [hcl]
        obtain ⟨CK, hCK⟩ : ∃ r, r = PT.check ⟨a.1, b.1, c.1, q.1⟩ := ⟨_, rfl⟩
        have hE : portDecE l = CK := by
          unfold portDecE
          rw [Hrd.out]
          simp only
          rw [if_neg (by rw [← hCL]; simp [hcl]), hCK]
        have hck := portCheck_any a.1 b.1 c.1 (.slice av d.1 cv) q.1 w9 (by unfold SeesP; rw [Hqn.out]; exact sees_of_owns hown9) (by omega) (by have := Hqn.out; omega) (fun p hp => by have := Hqs.out p hp; omega)
        rw [← hCK] at hck
        unfold portV at hck
        have Hck := Lib.hid hck; clear hck hCK hCL hcl
        have HE := Lib.hid hE; clear hE
        go_wp2_with fail
        refine Hck.out.mono ?_
        rintro x w10 ⟨rfl, hb10⟩
        have hD10 := hD9.below hb10
        have hown10 := owns_below hown9 hb10
        have hP10 := hP9.call hb10
        clear p0 p1 p2 p3 z0 z1 z2 z3 f0 f1 f2 f3
        obtain ⟨p0, p1, p2, p3, _, _, _, _⟩ := hD10.tt.quad
        obtain ⟨z0, z1, z2, z3, f0, f1, f2, f3⟩ := hD10.out.quad
        by_cases hk0 : CK = 0
        · have hk' : ((CK : Int) == 0) = true := by simp [hk0]
          have hk'' : ((CK : Int) != 0) = false := by simp [hk0]
          have Hk0 := Lib.hid hk0; clear hk0
          obtain ⟨q0, q1, q2, q3, _, hoq⟩ := hD10.out.stores4 (.string (str a.1)) (.int .i64 b.1) (.int .i64 c.1) (.slice av d.1 cv)
          have hownq := hoq.owns hown10 (by decide)
          go_wp2
          refine bodyPost_ret (v := .tuple #[portV a.1 b.1 c.1 (.slice av d.1 cv), .int .i64 0]) (by simp [results, Tryz.results19, go_sem, q0, q1, q2, q3, portV]) rfl ⟨(hP10.stores4 (Nat.le_refl _) _ _ _ _).1, .slice av d.1 cv, ?_, ?_⟩
          · unfold portDec; rw [HE.out, if_pos Hk0.out, Hrd.out, Hk0.out]; rfl
          · unfold portDec; rw [HE.out, if_pos Hk0.out, Hrd.out]; unfold OwnsP; simp only; rw [Hqn.out]; exact hownq
        · have hk' : ((CK : Int) == 0) = false := by simp; omega
          have hk'' : ((CK : Int) != 0) = true := by simp; omega
          have Hk0 := Lib.hid hk0; clear hk0
          obtain ⟨q0, q1, q2, q3, _⟩ := hD10.out.stores4 (.string ⟨#[]⟩) (.int .i64 0) (.int .i64 0) (.slice none 0 0)
          go_wp2
          refine bodyPost_ret (v := .tuple #[.agg #[.string ⟨#[]⟩, .int .i64 0, .int .i64 0, .slice none 0 0], .int .i64 CK]) (by simp [results, Tryz.results19, go_sem, q0, q1, q2, q3]) rfl ?_
          exact Hzero.out CK _ (hP10.stores4 (Nat.le_refl _) _ _ _ _) HE.out Hk0.out
      · have hcl' : ((CL : Int) == 0) = false := by simp; omega
        have hcl'' : ((CL : Int) != 0) = true := by simp; omega
        have hE : portDecE l = CL := by
          unfold portDecE
          rw [Hrd.out]
          simp only
          rw [if_pos (by rw [← hCL]; exact hcl), hCL]
        have HE := Lib.hid hE; clear hE hCL
        have Hcl0 := Lib.hid hcl; clear hcl
        clear p0 p1 p2 p3
        obtain ⟨q0, q1, q2, q3, _⟩ := hoz.stores4 (.string ⟨#[]⟩) (.int .i64 0) (.int .i64 0) (.slice none 0 0)
        go_wp2
        refine bodyPost_ret (v := .tuple #[.agg #[.string ⟨#[]⟩, .int .i64 0, .int .i64 0, .slice none 0 0], .int .i64 CL]) (by simp [results, Tryz.results19, go_sem, q0, q1, q2, q3]) rfl ?_
        exact Hzero.out CL _ (hP9.stores4 (Nat.le_refl _) _ _ _ _) HE.out Hcl0.out

set_option maxRecDepth 100000 in
set_option maxHeartbeats 3200000 in
theorem portDecodeL_any (l : List UInt8) (w : World) (hs : l.length ≤ 1000000000) : Calls Tryz.prog 35 #[.string (str l)] w (PDecPost l w) := by
  obtain ⟨a, ha⟩ : ∃ a, a = rdText 64 l 0 := ⟨_, rfl⟩
  obtain ⟨b, hb⟩ : ∃ b, b = rdNum 1073741824 a.2.1 a.2.2 := ⟨_, rfl⟩
  obtain ⟨c, hc⟩ : ∃ c, c = rdNum 1073741824 b.2.1 b.2.2 := ⟨_, rfl⟩
  obtain ⟨d, hd⟩ : ∃ d, d = rdNum 16 c.2.1 c.2.2 := ⟨_, rfl⟩
  obtain ⟨q, hqe⟩ : ∃ q, q = rdPks d.1 d.2.1 d.2.2 := ⟨_, rfl⟩
  have hrd : portRd l = (⟨a.1, b.1, c.1, q.1⟩, q.2.1, q.2.2) := by unfold portRd; simp only [hqe, hd, hc, hb, ha]
  have hal : a.1.length ≤ 64 := by rw [ha]; exact rdText_le _ _ _
  have hdl : d.1 ≤ 16 := by rw [hd]; exact rdNum_le _ _ _
  have hqn : q.1.length = d.1 := by rw [hqe]; exact rdPks_len _ _ _
  have hqs : ∀ p ∈ q.1, p.1.length ≤ 32 ∧ p.2.length ≤ 512 := by rw [hqe]; exact rdPks_le _ _ _
  have Ha := Lib.hid ha; clear ha
  have Hb := Lib.hid hb; clear hb
  have Hc := Lib.hid hc; clear hc
  have Hd := Lib.hid hd; clear hd
  have Hqe := Lib.hid hqe; clear hqe
  have Hrd := Lib.hid hrd; clear hrd
  have Hqs := Lib.hid hqs; clear hqs
  have Hqn := Lib.hid hqn; clear hqn
  have hz0 := Blk.new w #[.string ⟨#[]⟩, .int .i64 0, .int .i64 0, .slice none 0 0] 25
  have hP0 := (Past.refl w).alloc (.cells #[.string ⟨#[]⟩, .int .i64 0, .int .i64 0, .slice none 0 0] 25)
  have hsz := str_size l
  go_enter Tryz.func35, Tryz.ntmps35
  go_wp2_with (with_reducible refine wpList_bytes_of_string (o := ⟨some 11, _, _, _, _, _⟩) _ rfl _ _ 5 _ rfl Tryz.underlying9 Tryz.underlying112 Tryz.underlying5 (str l) rfl ?_)
  intro cap w1 hcap hsee hb1 hsz1
  rw [str_data] at hsee
  have hz1 := hz0.below hb1 (by simp)
  have hP1 := hP0.next (hb1.mono (Nat.le_succ _))
  go_wp2_with fail
  refine (newReader_any _ l _ hsee hs).mono ?_
  rintro x w2 ⟨rb, rfl, hr2, hb2⟩
  have hz2 := hz1.below hb2 hz1.lt
  have hP2 := hP1.call hb2
  go_wp2_with fail
  refine (rdText_any _ rb l 0 64 _ hr2 (by omega)).mono ?_
  rintro x w3 ⟨rfl, hr3, hb3, ho3⟩
  rw [← Ha.out] at hr3 ⊢
  have hz3 := ho3.blk hz2 (by decide)
  have hle1 : w.heap.size ≤ w1.heap.size := hP1.2
  have hP3 := hP2.next (hb3.mono hle1)
  go_wp2_with fail
  refine (rdNumber_any _ rb _ _ 1073741824 _ hr3).mono ?_
  rintro x w4 ⟨rfl, hr4, hb4, ho4⟩
  rw [← Hb.out] at hr4 ⊢
  have hz4 := ho4.blk hz3 (by decide)
  have hP4 := hP3.next (hb4.mono hle1)
  go_wp2_with fail
  refine (rdNumber_any _ rb _ _ 1073741824 _ hr4).mono ?_
  rintro x w5 ⟨rfl, hr5, hb5, ho5⟩
  rw [← Hc.out] at hr5 ⊢
  have hz5 := ho5.blk hz4 (by decide)
  have hP5 := hP4.next (hb5.mono hle1)
  have hT5 := Blk.new w5 #[.string (str a.1), .int .i64 b.1, .int .i64 c.1, .slice none 0 0] 25
  have hr6 := hr5.kept (below_alloc w5 (.cells #[.string (str a.1), .int .i64 b.1, .int .i64 c.1, .slice none 0 0] 25))
  have hP6 := hP5.alloc (.cells #[.string (str a.1), .int .i64 b.1, .int .i64 c.1, .slice none 0 0] 25)
  have hD6 : PBlks w.heap.size w5.heap.size _ _ := ⟨hz5.alloc _, hT5⟩
  have hHT : w.heap.size < w5.heap.size := hz5.lt
  clear hz0 hz1 hz2 hz3 hz4 hz5 hP0 hP1 hP2 hP3 hP4 hP5 hb1 hb2 hb3 hb4 hb5 ho3 ho4 ho5 hr2 hr3 hr4 hr5 hsee hT5
  go_wp2_with fail
  refine (rdNumber_any _ rb _ _ 16 _ hr6).mono ?_
  rintro x w7 ⟨rfl, hr7, hb7, ho7⟩
  rw [← Hd.out] at hr7 ⊢
  have hD7 := hD6.only ho7 (by decide)
  have hP7 := hP6.next (hb7.mono hle1)
  clear hr6 hP6 hD6 hb7 ho7
  go_wp2
  go_loopg [7] d.1 (fun g t wr => ∃ (k : Nat) (tv : Value), k ≤ d.1 ∧ g = d.1 - k ∧ t = .int .i64 k ∧ PBlks w.heap.size w5.heap.size wr #[.string (str a.1), .int .i64 b.1, .int .i64 c.1, tv] ∧ wr.ownsRow w.heap.size 48 2 tv k (pkCells (rdPks k d.2.1 d.2.2).1) ∧ ReaderIs w1.heap.size wr rb (rdPks k d.2.1 d.2.2).2.1 (rdPks k d.2.1 d.2.2).2.2 ∧ Past w.heap.size w wr)
  case atStart => exact ⟨0, _, Nat.zero_le _, rfl, rfl, hD7, World.ownsRow_nil _ _ _ _, hr7, hP7⟩
  case round =>
    obtain ⟨k, tv, hk, rfl, rfl, hD, hown, hr, hP⟩ := hrel
    clear hD7 hr7 hP7
    by_cases hlt : k < d.1
    · have hrx := hr.kept (Below.refl _ wr).drew
      have hownx := owns_below hown (Below.refl _ wr).drew
      have hDx := hD.below (Below.refl _ wr).drew
      have q0 : (k : Int) < d.1 := by omega
      obtain ⟨tv0, tv1, tv2, tv3, _, _, _, _⟩ := hD.tt.quad
      obtain ⟨X, hX⟩ : ∃ X, X = rdPks k d.2.1 d.2.2 := ⟨_, rfl⟩
      obtain ⟨Y, hY⟩ : ∃ Y, Y = rdText 32 X.2.1 X.2.2 := ⟨_, rfl⟩
      obtain ⟨Z, hZ⟩ : ∃ Z, Z = rdText 512 Y.2.1 Y.2.2 := ⟨_, rfl⟩
      have hXY : Hid (rdPks (k + 1) d.2.1 d.2.2 = (X.1 ++ [(Y.1, Z.1)], Z.2.1, Z.2.2)) := by show _ = _; simp only [rdPks, ← hX, ← hY, hZ]
      have hXl : X.1.length = k := by rw [hX]; exact rdPks_len _ _ _
      rw [← hX] at hrx hownx
      have hrt := fun w h => rdText_any w1.heap.size rb X.2.1 X.2.2 32 w h (by omega)
      rw [← hY] at hrt
      have Hrt := Lib.hid hrt; clear hrt
      have hrt := fun w h => rdText_any w1.heap.size rb Y.2.1 Y.2.2 512 w h (by omega)
      rw [← hZ] at hrt
      have Hrs := Lib.hid hrt; clear hrt hX hY hZ hr hown
      have HXl := Lib.hid hXl; clear hXl
      go_wp2_with fail
      go_region_law (first
          | (refine step_append_slice _ _ _ 23 rfl w.heap.size 48 (.agg #[.string ⟨#[]⟩, .string ⟨#[]⟩]) 2 32 Tryz.underlying23 Tryz.infoPk rfl (by decide) hown7 rfl A2 rfl (by simp [Value.oneCell']) (by unfold maxLen; omega) (by omega) (by simp; omega) ?_; intro av8 cv8 w8 hown8 hg8; have ho8 := Only.of_grown hown7 hg8; have hD8 := hD7.only ho8 (by decide); obtain ⟨y0, y1, y2, y3, fz0, fz1, fz2, fz3⟩ := hD8.tt.quad)
          | (go_simp; go_at_call 64; refine (Hrt.out _ hrx).mono ?_; rintro x w6 ⟨rfl, hrA, hb6, ho6⟩; clear hrx; have hD6 := hDx.only ho6 (by decide); have hown6 := ho6.owns hownx (by decide); have hsz6 : w.heap.size ≤ w6.heap.size := Nat.le_trans hP.2 ho6.1; obtain ⟨x0, x1, x2, x3, _, _, _, _⟩ := hD6.tt.quad)
          | (go_simp; go_at_call 64; refine (Hrs.out _ hrA).mono ?_; rintro x w7 ⟨rfl, hrB, hb7, ho7⟩; clear hrA; have hD7 := (hD6.only ho7 (by decide)).below (below_alloc w7 (.cells #[.string (str Y.1), .string (str Z.1)] 48)); have hown7 := (owns_below (ho7.owns hown6 (by decide)) (below_alloc w7 (.cells #[.string (str Y.1), .string (str Z.1)] 48))); have A2 := sees_new w7 #[.string (str Y.1), .string (str Z.1)] 48 (0, 0) 2 1 1 rfl (Nat.le_refl _); have hsz7 : w.heap.size ≤ w7.heap.size := Nat.le_trans hsz6 ho7.1; obtain ⟨x0, x1, x2, x3, _, _, _, _⟩ := (hD6.only ho7 (by decide)).tt.quad; have hlt7 := (hD6.only ho7 (by decide)).tt.lt))
      all_goals go_wp2
      all_goals go_roundg (d.1 - (k + 1))
      all_goals (try clear Hrt Hrs)
      all_goals first
        | (case measure => omega)
        | (case rel =>
            refine ⟨k + 1, .slice av8 (k + 1) cv8, by omega, rfl, by go_num, hD8.set (Nat.ne_of_lt hHT) 3 _, ?_, ?_, ?_⟩
            · rw [hXY.out]; simpa [pkCells_append, pkCells, sv] using owns_set hown8 hD8.tt (by decide) (.slice av8 (k + 1) cv8)
            · rw [hXY.out]; exact ((hrB.kept (below_alloc w7 _)).only ho8 (by decide) (by decide)).only (Only.set (ts := [25]) hD8.tt (by simp) _) (by decide) (by decide)
            · exact ((((hP.drew.next (hb6.mono hle1)).next (hb7.mono hle1)).alloc (.cells #[.string (str Y.1), .string (str Z.1)] 48)).grown hg8 hown7).set (Nat.le_of_lt hHT) _)
    · obtain rfl : k = d.1 := by omega
      have q0 : decide ((d.1 : Int) < (d.1 : Int)) = false := by simp
      rw [← Hqe.out] at hown hr
      obtain ⟨tv0, tv1, tv2, tv3, _, _, _, _⟩ := hD.tt.quad
      obtain ⟨av, cv, rfl⟩ := owns_slice hown
      obtain ⟨CL, hCL⟩ : ∃ c, c = rdClose q.2.1 q.2.2 := ⟨_, rfl⟩
      have hcl := close_any _ rb _ _ _ hr
      rw [← hCL] at hcl
      have Hcl := Lib.hid hcl; clear hcl hr
      go_wp2_with fail
      refine Hcl.out.mono ?_
      rintro x w9 ⟨rfl, hb9⟩
      have hD9 := hD.below hb9
      have hown9 := owns_below hown hb9
      have hP9 := hP.call hb9
      have hoz := hD9.out
      obtain ⟨p0, p1, p2, p3, _, _, _, _⟩ := hD9.tt.quad
      obtain ⟨z0, z1, z2, z3, f0, f1, f2, f3⟩ := hoz.quad
      clear tv0 tv1 tv2 tv3 hown hD hP Hcl
      have hzero : ∀ (E : Nat) (w' : World), Past w.heap.size w w' → portDecE l = E → E ≠ 0 → PDecPost l w (.returned (.tuple #[.agg #[.string ⟨#[]⟩, .int .i64 0, .int .i64 0, .slice none 0 0], .int .i64 E])) w' := fun E w' h1 h2 h3 => by
        refine ⟨h1.1, .slice none 0 0, ?_, ?_⟩
        · unfold portDec; rw [h2, if_neg h3]; rfl
        · unfold portDec; rw [h2, if_neg h3]; exact OwnsP.nil _ _
      have Hzero := Lib.hid hzero; clear hzero
      by_cases hcl : CL = 0
      · have hcl' : ((CL : Int) == 0) = true := by simp [hcl]
        have hcl'' : ((CL : Int) != 0) = false := by simp [hcl]
        obtain ⟨CK, hCK⟩ : ∃ r, r = PT.check ⟨a.1, b.1, c.1, q.1⟩ := ⟨_, rfl⟩
        have hE : portDecE l = CK := by
          unfold portDecE
          rw [Hrd.out]
          simp only
          rw [if_neg (by rw [← hCL]; simp [hcl]), hCK]
        have hck := portCheckL_any a.1 b.1 c.1 (.slice av d.1 cv) q.1 w9 (by unfold SeesP; rw [Hqn.out]; exact sees_of_owns hown9) (by omega) (by have := Hqn.out; omega) (fun p hp => by have := Hqs.out p hp; omega)
        rw [← hCK] at hck
        unfold portV at hck
        have Hck := Lib.hid hck; clear hck hCK hCL hcl
        have HE := Lib.hid hE; clear hE
        go_wp2_with fail
        refine Hck.out.mono ?_
        rintro x w10 ⟨rfl, hb10⟩
        have hD10 := hD9.below hb10
        have hown10 := owns_below hown9 hb10
        have hP10 := hP9.call hb10
        clear p0 p1 p2 p3 z0 z1 z2 z3 f0 f1 f2 f3
        obtain ⟨p0, p1, p2, p3, _, _, _, _⟩ := hD10.tt.quad
        obtain ⟨z0, z1, z2, z3, f0, f1, f2, f3⟩ := hD10.out.quad
        by_cases hk0 : CK = 0
        · have hk' : ((CK : Int) == 0) = true := by simp [hk0]
          have hk'' : ((CK : Int) != 0) = false := by simp [hk0]
          have Hk0 := Lib.hid hk0; clear hk0
          obtain ⟨q0, q1, q2, q3, _, hoq⟩ := hD10.out.stores4 (.string (str a.1)) (.int .i64 b.1) (.int .i64 c.1) (.slice av d.1 cv)
          have hownq := hoq.owns hown10 (by decide)
          go_wp2
          refine bodyPost_ret (v := .tuple #[portV a.1 b.1 c.1 (.slice av d.1 cv), .int .i64 0]) (by simp [results, Tryz.results35, go_sem, q0, q1, q2, q3, portV]) rfl ⟨(hP10.stores4 (Nat.le_refl _) _ _ _ _).1, .slice av d.1 cv, ?_, ?_⟩
          · unfold portDec; rw [HE.out, if_pos Hk0.out, Hrd.out, Hk0.out]; rfl
          · unfold portDec; rw [HE.out, if_pos Hk0.out, Hrd.out]; unfold OwnsP; simp only; rw [Hqn.out]; exact hownq
        · have hk' : ((CK : Int) == 0) = false := by simp; omega
          have hk'' : ((CK : Int) != 0) = true := by simp; omega
          have Hk0 := Lib.hid hk0; clear hk0
          obtain ⟨q0, q1, q2, q3, _⟩ := hD10.out.stores4 (.string ⟨#[]⟩) (.int .i64 0) (.int .i64 0) (.slice none 0 0)
          go_wp2
          refine bodyPost_ret (v := .tuple #[.agg #[.string ⟨#[]⟩, .int .i64 0, .int .i64 0, .slice none 0 0], .int .i64 CK]) (by simp [results, Tryz.results35, go_sem, q0, q1, q2, q3]) rfl ?_
          exact Hzero.out CK _ (hP10.stores4 (Nat.le_refl _) _ _ _ _) HE.out Hk0.out
      · have hcl' : ((CL : Int) == 0) = false := by simp; omega
        have hcl'' : ((CL : Int) != 0) = true := by simp; omega
        have hE : portDecE l = CL := by
          unfold portDecE
          rw [Hrd.out]
          simp only
          rw [if_pos (by rw [← hCL]; exact hcl), hCL]
        have HE := Lib.hid hE; clear hE hCL
        have Hcl0 := Lib.hid hcl; clear hcl
        clear p0 p1 p2 p3
        obtain ⟨q0, q1, q2, q3, _⟩ := hoz.stores4 (.string ⟨#[]⟩) (.int .i64 0) (.int .i64 0) (.slice none 0 0)
        go_wp2
        refine bodyPost_ret (v := .tuple #[.agg #[.string ⟨#[]⟩, .int .i64 0, .int .i64 0, .slice none 0 0], .int .i64 CL]) (by simp [results, Tryz.results35, go_sem, q0, q1, q2, q3]) rfl ?_
        exact Hzero.out CL _ (hP9.stores4 (Nat.le_refl _) _ _ _ _) HE.out Hcl0.out
end Go.Proofs.YtgonfcdmaoeboaaGreatDoor
