/- Contracts of functions on the way to the claim, proved for every input that their hypotheses let by; no condition of the claim. Joined of: S21 S22. -/
import Derived.Test.YtoefldeoioagmaaGreatDoorG6

/- Write and Read at a pipe without error; Mark. -/
namespace Go.Proofs.YtoefldeoioagmaaGreatDoor
open Go.RowKit

theorem wrCount_le (b s : List UInt8) : wrCount b s ≤ s.length ∧ wrCount b s ≤ 256 - b.length := by unfold wrCount; omega
theorem more_len (b s : List UInt8) : (b ++ s.take (wrCount b s)).length = b.length + wrCount b s := by
  have := (wrCount_le b s).1
  rw [List.length_append, List.length_take]; omega
theorem write_busy {e r wr : Nat} {b s : List UInt8} (h : pipeCheck e r wr b.length = 0) (hr : r ≠ 0) (hs : s ≠ []) (hb : 256 ≤ b.length) :
    writeErr (pp e r wr b) e s = 19 ∧ writeN (pp e r wr b) e s = 0 ∧ writeCur (pp e r wr b) e s = pp e r wr b := by
  obtain ⟨h1, h2, h3, h4, h5⟩ := pipeCheck_range h
  have hw := within_nat (e := e) (by omega)
  have hx : write1Err b s r = some 19 := by unfold write1Err; rw [if_neg hs, if_neg hr, if_pos hb]
  refine ⟨?_, ?_, ?_⟩
  · unfold writeErr; rw [if_pos hw, pp_get h]; simp only [hx]
  · unfold writeN; rw [if_pos hw, pp_get h]; simp only [hx]
  · unfold writeCur; rw [if_pos hw, pp_get h]; simp only [hx]
theorem write_ok_pp {e r wr : Nat} {b s : List UInt8} (h : pipeCheck e r wr b.length = 0) (hr : r ≠ 0) (hs : s ≠ []) (hb : b.length < 256) :
    writeErr (pp e r wr b) e s = 0 ∧ writeN (pp e r wr b) e s = wrCount b s ∧ writeCur (pp e r wr b) e s = pp e r wr (b ++ s.take (wrCount b s)) ∧ pipeCheck e r wr (b ++ s.take (wrCount b s)).length = 0 := by
  obtain ⟨h1, h2, h3, h4, h5⟩ := pipeCheck_range h
  have hw := within_nat (e := e) (by omega)
  have hx : write1Err b s r = none := by unfold write1Err; rw [if_neg hs, if_neg hr, if_neg (by omega)]
  have hl := more_len b s
  have hc := (wrCount_le b s).2
  have hk : pipeCheck e r wr (b ++ s.take (wrCount b s)).length = 0 := pp_ok (by omega) (by omega) (by omega) (by omega) (by omega)
  refine ⟨?_, ?_, ?_, hk⟩
  · unfold writeErr; rw [if_pos hw, pp_get h]; simp only [hx]
    exact pipeWriteErr_ok (by omega) (by omega) (by omega) (by omega)
  · unfold writeN; rw [if_pos hw, pp_get h]; simp only [hx]
  · unfold writeCur; rw [if_pos hw, pp_get h]; simp only [hx]
    unfold pipeWriteCur
    rw [if_neg (by omega), if_pos hk]
    rfl
theorem read_busy {e r wr : Nat} {most : Int} (h : pipeCheck e r wr ([] : List UInt8).length = 0) (hm : 1 ≤ most) (hwr : wr ≠ 0) :
    readErr (pp e r wr []) e most = 19 ∧ readS (pp e r wr []) e most = [] ∧ readCur (pp e r wr []) e most = pp e r wr [] := by
  obtain ⟨h1, h2, h3, h4, h5⟩ := pipeCheck_range h
  have hw := within_nat (e := e) (by omega)
  have hx : read1Err [] wr most = some 19 := by unfold read1Err; rw [if_neg (by omega), if_neg (by omega), if_pos ⟨rfl, by omega⟩]
  refine ⟨?_, ?_, ?_⟩
  · unfold readErr; rw [if_pos hw, pp_get h]; simp only [hx]
  · unfold readS; rw [if_pos hw, pp_get h]; simp only [hx]
  · unfold readCur; rw [if_pos hw, pp_get h]; simp only [hx]
theorem read_ok_pp {e r wr : Nat} {b : List UInt8} {n : Nat} (h : pipeCheck e r wr b.length = 0) (hn : 1 ≤ n) (hb : b ≠ [] ∨ wr = 0) :
    readErr (pp e r wr b) e n = 0 ∧ readS (pp e r wr b) e n = b.take (rdCount b n) ∧ readCur (pp e r wr b) e n = pp e r wr (b.drop (rdCount b n)) ∧ pipeCheck e r wr (b.drop (rdCount b n)).length = 0 := by
  obtain ⟨h1, h2, h3, h4, h5⟩ := pipeCheck_range h
  have hw := within_nat (e := e) (by omega)
  have hx : read1Err b wr n = none := by
    unfold read1Err
    rw [if_neg (by omega), if_neg (by omega), if_neg (fun hh => ?_)]
    rcases hb with hb | hb
    · exact hb hh.1
    · omega
  have hd : (b.drop (rdCount b n)).length ≤ 256 := by rw [List.length_drop]; omega
  have hk : pipeCheck e r wr (b.drop (rdCount b n)).length = 0 := pp_ok (by omega) (by omega) (by omega) (by omega) hd
  refine ⟨?_, ?_, ?_, hk⟩
  · unfold readErr; rw [if_pos hw, pp_get h]; simp only [hx, Int.toNat_natCast]
    split
    · rfl
    · exact pipeWriteErr_ok (by omega) (by omega) (by omega) hd
  · unfold readS; rw [if_pos hw, pp_get h]; simp only [hx, Int.toNat_natCast]
  · unfold readCur; rw [if_pos hw, pp_get h]; simp only [hx, Int.toNat_natCast]
    split
    · rename_i h0
      rw [h0]; rfl
    · unfold pipeWriteCur
      rw [if_neg (by omega), if_pos hk]
      rfl

/-- the view's own block, and how many calls it counts -/
def MarkIs (w : World) (vb c : Nat) : Prop := ∃ x y z a cap, Blk w vb #[x, y, .slice a c cap, z] 99
theorem PipeIs.mark {B : Nat} {w : World} {vb : Nat} {base : Value} {cur : Option (List UInt8)} {k : Nat} (h : PipeIs B w vb base cur k) : ∃ c, c ≤ k ∧ MarkIs w vb c := by
  obtain ⟨R, c, N, bc, h1, h2, h3, h4, h5, h6, h7⟩ := h
  obtain ⟨br, bn, cv, a1, a2, a3, a4, a5, a6, a7, cs, a8, a9⟩ := h1.ex
  obtain ⟨a, cap, rfl⟩ := owns_slice a8
  exact ⟨c, h4, _, _, _, _, _, a1⟩
theorem MarkIs.cells {w w' : World} {vb c : Nat} (h : MarkIs w vb c) (hc : Cells [] w w') : MarkIs w' vb c := by
  obtain ⟨x, y, z, a, cap, h⟩ := h
  exact ⟨x, y, z, a, cap, hc.blk h (by simp)⟩
theorem MarkIs.below {w w' : World} {vb c : Nat} (h : MarkIs w vb c) (hb : Below w.heap.size w w') : MarkIs w' vb c := by
  obtain ⟨x, y, z, a, cap, h⟩ := h
  exact ⟨x, y, z, a, cap, h.below hb h.lt⟩
set_option maxRecDepth 100000 in
set_option maxHeartbeats 400000 in
theorem mark_any (vb c : Nat) (w : World) (h : MarkIs w vb c) : Calls Tryz.prog 21 #[.pointer (some ⟨vb, 0, none⟩)] w fun e w' => e = .returned (.int .i64 c) ∧ w = w' := by
  obtain ⟨x, y, z, a, cap, h⟩ := h
  obtain ⟨v0, v1, v2, v3, _, _, _, _⟩ := h.quad
  clear h
  go_enter Tryz.func21, Tryz.ntmps21
  go_wp2
  go_ret
  exact ⟨rfl, rfl⟩
end Go.Proofs.YtoefldeoioagmaaGreatDoor

/- replevinlaw32.PipeBusy. -/
namespace Go.Proofs.YtoefldeoioagmaaGreatDoor
open Go.RowKit

theorem ret_same {a b : Int} (h : a = b) : Ending.returned (.bool (a == b)) = .returned (.bool true) := by rw [h]; simp
/-- the pipe of epoch 0 with one end a side -/
def p0 (b : List UInt8) : Option (List UInt8) := pp 0 1 1 b
theorem p0_ok {b : List UInt8} (hb : b.length ≤ 256) : pipeCheck (0 : Nat) (1 : Nat) (1 : Nat) b.length = 0 := pp_ok (by decide) (by decide) (by decide) (by decide) hb
theorem p0_len {b : List UInt8} (hb : b.length ≤ 256) : ((p0 b).getD []).length ≤ 1000000000 := pp_len (p0_ok hb)
theorem p0_make : makeErr none 0 = 0 ∧ makeCur none 0 = p0 [] := es_make true
theorem p0_writeBusy {b s : List UInt8} (hs : s ≠ []) (hb : b.length = 256) : writeErr (p0 b) 0 s = 19 ∧ writeN (p0 b) 0 s = 0 ∧ writeCur (p0 b) 0 s = p0 b := write_busy (p0_ok (by omega)) (by decide) hs (by omega)
theorem p0_write {b s : List UInt8} (hs : s ≠ []) (hb : b.length < 256) : writeErr (p0 b) 0 s = 0 ∧ writeN (p0 b) 0 s = wrCount b s ∧ writeCur (p0 b) 0 s = p0 (b ++ s.take (wrCount b s)) :=
  have h := write_ok_pp (p0_ok (by omega)) (by decide) hs hb
  ⟨h.1, h.2.1, h.2.2.1⟩
theorem p0_readBusy {n : Nat} (hn : 1 ≤ n) : readErr (p0 []) 0 n = 19 ∧ readS (p0 []) 0 n = [] ∧ readCur (p0 []) 0 n = p0 [] := read_busy (p0_ok (by simp)) (by omega) (by decide)
theorem p0_read {b : List UInt8} {n : Nat} (hn : 1 ≤ n) (hb : b ≠ []) (hl : b.length ≤ 256) : readErr (p0 b) 0 n = 0 ∧ readS (p0 b) 0 n = b.take (rdCount b n) ∧ readCur (p0 b) 0 n = p0 (b.drop (rdCount b n)) :=
  have h := read_ok_pp (p0_ok hl) hn (.inl hb)
  ⟨h.1, h.2.1, h.2.2.1⟩

set_option maxRecDepth 100000 in
set_option maxHeartbeats 3200000 in
theorem pipeBusy_other (s : List UInt8) (m : Nat) (w : World) (hl : s.length ≤ 9223372036854775807) (h : s = [] ∨ 600 < s.length) :
    Calls Tryz.prog 4 #[.string (str s), .int .u16 m] w fun x w' => x = .returned (.bool true) ∧ Below w.heap.size w w' := by
  have hlz := str_size s
  have Hkn := Lib.hid known_any
  by_cases h0 : s = []
  · have h1 : (str s).toList.isEmpty = true := by rw [str_toList]; simp [h0]
    clear h0 h
    go_enter Tryz.func4, Tryz.ntmps4
    go_wp2_with (first
      | (go_at_call 9; refine (Hkn.out _).mono ?_; rintro x w2 ⟨rfl, hb2⟩))
    go_ret
    exact ⟨rfl, by first | exact (((Past.refl w).call ‹Below w.heap.size w _›).call hb2).1⟩
  · have h2 : 600 < s.length := h.resolve_left h0
    have h1 : (str s).toList.isEmpty = false := by rw [str_toList]; simpa using h0
    clear h0 h
    go_enter Tryz.func4, Tryz.ntmps4
    go_wp2_with (first
      | (go_at_call 9; refine (Hkn.out _).mono ?_; rintro x w2 ⟨rfl, hb2⟩))
    go_ret
    exact ⟨rfl, by first | exact (((Past.refl w).call ‹Below w.heap.size w _›).call hb2).1⟩

set_option maxRecDepth 100000 in
set_option maxHeartbeats 3200000 in
theorem pipeBusy_main (s : List UInt8) (m : Nat) (hm : m < 65536) (w : World) (hs : s ≠ []) (hl : s.length ≤ 600) :
    Calls Tryz.prog 4 #[.string (str s), .int .u16 m] w fun x w' => x = .returned (.bool true) ∧ Below w.heap.size w w' := by
  have hlz := str_size s
  have Hkn := Lib.hid known_any
  have h1 : (str s).toList.isEmpty = false := by rw [str_toList]; simpa using hs
  have h2 : decide (600 < (s.length : Int)) = false := by simp; omega
  have Hs := Lib.hid hs; clear hs
  obtain ⟨n, hn, hn1, hn3⟩ : ∃ n : Nat, 1 + (m : Int) % 300 = (n : Int) ∧ 1 ≤ n ∧ n ≤ 300 := ⟨1 + m % 300, by omega, by omega, by omega⟩
  go_enter Tryz.func4, Tryz.ntmps4
  go_wp2_with (first
    | (go_at_call 9; refine (Hkn.out _).mono ?_; rintro e w0 ⟨rfl, hb0⟩)
    | (go_at_call 18; refine (stateNew_any _).mono ?_; rintro e w1 ⟨rfl, hs1, hb1⟩)
    | (go_at_call 17; refine (oNew hs1).mono ?_; rintro e w2 ⟨vb, rfl, hO, hb2⟩)
    | (go_at_call 20; refine (oOne _).mono ?_; rintro e w3 ⟨rfl, hb3⟩))
  have hP : Past w.heap.size w w3 := (((((Past.refl w).call hb0).call hb1).call hb2).call hb3)
  have hO := hO.keep hb3
  have hB1 : w.heap.size ≤ w1.heap.size := (((Past.refl w).call hb0).call hb1).2
  have H := oMake hO (by omega) 0
  rw [p0_make.1, p0_make.2] at H
  refine H.mono ?_
  rintro e w4 ⟨rfl, hO, hb4, _⟩
  have hP := hP.next (hb4.mono hB1)
  obtain ⟨c, hck, hM⟩ := hO.mark
  clear H hb0 hb1 hb2 hb3 hb4 hs1
  go_wp2_with (first
    | (go_at_call 21; refine (mark_any vb c _ hM).mono ?_; rintro e w5 ⟨rfl, rfl⟩)
    | (go_at_call 20; refine (oOne _).mono ?_; rintro e w3 ⟨rfl, hb3⟩))
  have hO := hO.keep hb3
  have hM := hM.below hb3
  have Hn := Lib.hid hn; clear hn
  have H := oRead hO (by omega) (by simp [p0_len]) 0 n (by omega)
  rw [(p0_readBusy hn1).1, (p0_readBusy hn1).2.1, (p0_readBusy hn1).2.2] at H
  refine H.mono ?_
  rintro e w4 ⟨rfl, hO, hb4, hc4⟩
  have hP := (hP.call hb3).next (hb4.mono hB1)
  have hM := hM.cells (hc4.2 (by decide))
  clear H hb3 hb4 hc4
  go_wp2_with (first
    | (go_at_call 21; refine (mark_any vb c _ hM).mono ?_; rintro e w5 ⟨rfl, rfl⟩)
    | (go_at_call 20; refine (oOne _).mono ?_; rintro e w3 ⟨rfl, hb3⟩))
  have hO := hO.keep hb3
  have H := oWrite hO (by omega) (by simp [p0_len]) 0 s (by omega)
  have hq := p0_write (b := []) Hs.out (by simp)
  rw [hq.1, hq.2.1, hq.2.2, List.nil_append] at H
  obtain ⟨A, hA⟩ : ∃ A, A = wrCount [] s := ⟨_, rfl⟩
  rw [← hA] at H
  have hA1 : A ≤ s.length ∧ A ≤ 256 ∧ 1 ≤ A ∧ (A = s.length ∨ A = 256) := by
    have := List.length_pos_iff.2 Hs.out
    rw [hA]; unfold wrCount; simp; omega
  clear hA hq
  refine H.mono ?_
  rintro e w4 ⟨rfl, hO, hb4, hc4⟩
  have hP := (hP.call hb3).next (hb4.mono hB1)
  clear H hb3 hb4 hc4 hM
  go_wp2
  go_loopw [13, 12] (fun t f wr => ∃ (i : Nat) (fv : Int) (b : List UInt8), i ≤ 3 ∧ t = .int .i64 i ∧ f = .int .i64 fv ∧ b.length ≤ 256 ∧ ((fv = 0 ∧ 1 ≤ b.length) ∨ (fv = 19 ∧ b.length = 256)) ∧ PipeIs w1.heap.size wr vb (.pointer (some ⟨w0.heap.size, 0, none⟩)) (p0 b) (100 + 2 * i) ∧ Past w.heap.size w wr) (fun t _ _ => 3 - (intOf t).toNat)
  case atStart => exact ⟨0, 0, s.take A, by omega, rfl, rfl, by rw [List.length_take]; omega, .inl ⟨rfl, by rw [List.length_take]; omega⟩, hO.more (by omega), hP⟩
  case round =>
    obtain ⟨i, fv, b, hi, rfl, rfl, hbl, hf, hO, hP⟩ := hrel
    by_cases hgo : i < 3 ∧ fv = 0
    · obtain ⟨hi3, rfl⟩ := hgo
      have hb1 : 1 ≤ b.length := by omega
      go_wp2_with (first
        | (go_at_call 20; refine (oOne _).mono ?_; rintro e w3 ⟨rfl, hb3⟩))
      have hO := hO.keep hb3
      have H := oWrite hO (by omega) (p0_len hbl) 0 s (by omega)
      by_cases hfull : b.length = 256
      · have hq := p0_writeBusy (b := b) Hs.out hfull
        rw [hq.1, hq.2.1, hq.2.2] at H
        clear hq
        refine H.mono ?_
        rintro e w4 ⟨rfl, hO, hb4, hc4⟩
        have hP := (hP.call hb3).next (hb4.mono hB1)
        clear H hb3 hb4 hc4
        have Hfull := Lib.hid hfull; clear hfull
        go_wp2
        go_roundw
        (case rel => exact ⟨i + 1, 19, b, by omega, by go_num, rfl, hbl, .inr ⟨rfl, Hfull.out⟩, hO.more (by omega), hP⟩)
        (case measure => simp [intOf]; omega)
      · have hq := p0_write (b := b) Hs.out (by omega)
        rw [hq.1, hq.2.1, hq.2.2] at H
        clear hq
        refine H.mono ?_
        rintro e w4 ⟨rfl, hO, hb4, hc4⟩
        have hP := (hP.call hb3).next (hb4.mono hB1)
        clear H hb3 hb4 hc4
        have hml := more_len b s
        have hwl := wrCount_le b s
        have Hml := Lib.hid hml; clear hml
        go_wp2
        go_roundw
        (case rel => exact ⟨i + 1, 0, _, by omega, by go_num, rfl, by rw [Hml.out]; omega, .inl ⟨rfl, by rw [Hml.out]; omega⟩, hO.more (by omega), hP⟩)
        (case measure => simp [intOf]; omega)
    · have hgo2 : 3 ≤ i ∨ (i < 3 ∧ fv = 19 ∧ b.length = 256) := by omega
      clear hgo
      rcases hgo2 with h3 | ⟨h3, rfl, hfull⟩
      · have Hf := True.intro
        go_wp2
        go_loopw [14, 12] (fun t f wr => ∃ (i : Nat) (fv : Int) (b : List UInt8), i ≤ 600 ∧ t = .int .i64 i ∧ f = .int .i64 fv ∧ b.length ≤ 256 ∧ ((fv = 0 ∧ i + 1 ≤ b.length) ∨ (fv = 19 ∧ b.length = 256)) ∧ PipeIs w1.heap.size wr vb (.pointer (some ⟨w0.heap.size, 0, none⟩)) (p0 b) (200 + 2 * i) ∧ Past w.heap.size w wr) (fun t _ _ => 600 - (intOf t).toNat)
        (case atStart => exact ⟨0, _, b, by omega, rfl, rfl, hbl, by first | exact hf | exact .inr ⟨rfl, Hf.out⟩, hO.more (by omega), hP⟩)
        (case round =>
          obtain ⟨i, fv, b, hi, rfl, rfl, hbl, hf, hO, hP⟩ := hrel
          by_cases hgo : i < 600 ∧ fv = 0
          · obtain ⟨hi3, rfl⟩ := hgo
            have hb1 : i + 1 ≤ b.length := by omega
            go_wp2_with (first
              | (go_at_call 20; refine (oOne _).mono ?_; rintro e w3 ⟨rfl, hb3⟩))
            have hO := hO.keep hb3
            have H := oWrite hO (by omega) (p0_len hbl) 0 s (by omega)
            by_cases hfull : b.length = 256
            · have hq := p0_writeBusy (b := b) Hs.out hfull
              rw [hq.1, hq.2.1, hq.2.2] at H
              clear hq
              refine H.mono ?_
              rintro e w4 ⟨rfl, hO, hb4, hc4⟩
              have hP := (hP.call hb3).next (hb4.mono hB1)
              clear H hb3 hb4 hc4
              have Hfull := Lib.hid hfull; clear hfull
              go_wp2
              go_roundw
              (case rel => exact ⟨i + 1, 19, b, by omega, by go_num, rfl, hbl, .inr ⟨rfl, Hfull.out⟩, hO.more (by omega), hP⟩)
              (case measure => simp [intOf]; omega)
            · have hq := p0_write (b := b) Hs.out (by omega)
              rw [hq.1, hq.2.1, hq.2.2] at H
              clear hq
              refine H.mono ?_
              rintro e w4 ⟨rfl, hO, hb4, hc4⟩
              have hP := (hP.call hb3).next (hb4.mono hB1)
              clear H hb3 hb4 hc4
              have hml := more_len b s
              have hwl := wrCount_le b s
              have hw1 : 1 ≤ wrCount b s := by have := List.length_pos_iff.2 Hs.out; unfold wrCount; omega
              have Hml := Lib.hid hml; clear hml
              go_wp2
              go_roundw
              (case rel => exact ⟨i + 1, 0, _, by omega, by go_num, rfl, by rw [Hml.out]; omega, .inl ⟨rfl, by rw [Hml.out]; omega⟩, hO.more (by omega), hP⟩)
              (case measure => simp [intOf]; omega)
          · have hf2 : fv = 19 ∧ b.length = 256 := by omega
            obtain ⟨rfl, hfull⟩ := hf2
            clear hf hgo
            obtain ⟨c, hck, hM⟩ := hO.mark
            have Hfull := Lib.hid hfull; clear hfull
            by_cases hi6 : i < 600
            all_goals (
              go_wp2_with (first
                | (go_at_call 21; refine (mark_any vb c _ hM).mono ?_; rintro e w5 ⟨rfl, rfl⟩)
                | (go_at_call 20; refine (oOne _).mono ?_; rintro e w3 ⟨rfl, hb3⟩))
              have hO := hO.keep hb3
              have hM := hM.below hb3
              have hq := p0_writeBusy (b := b) Hs.out Hfull.out
              have H := oWrite hO (by omega) (p0_len hbl) 0 s (by omega)
              rw [hq.1, hq.2.1, hq.2.2] at H
              refine H.mono ?_
              rintro e w4 ⟨rfl, hO, hb4, hc4⟩
              have hP := (hP.call hb3).next (hb4.mono hB1)
              have hM := hM.cells (hc4.2 (by decide))
              clear H hb3 hb4 hc4 hq
              go_wp2_with (first
                | (go_at_call 21; refine (mark_any vb c _ hM).mono ?_; rintro e w5 ⟨rfl, rfl⟩)
                | (go_at_call 20; refine (oOne _).mono ?_; rintro e w3 ⟨rfl, hb3⟩))
              have hO := hO.keep hb3
              have hbne : b ≠ [] := fun h => by have := Hfull.out; rw [h] at this; simp at this
              have H := oRead hO (by omega) (p0_len hbl) 0 n (by omega)
              have hq := p0_read (b := b) hn1 hbne hbl
              rw [hq.1, hq.2.1, hq.2.2] at H
              obtain ⟨C, hC⟩ : ∃ C, C = rdCount b n := ⟨_, rfl⟩
              rw [← hC] at H
              have hC1 : C ≤ n ∧ C ≤ 256 ∧ 1 ≤ C ∧ (C = n ∨ C = 256) := by
                have := Hfull.out
                rw [hC]; unfold rdCount; omega
              clear hC hq hbne
              refine H.mono ?_
              rintro e w4 ⟨rfl, hO, hb4, hc4⟩
              have hP := (hP.call hb3).next (hb4.mono hB1)
              clear H hb3 hb4 hc4 hM
              go_wp2_with (first
                | (go_at_call 20; refine (oOne _).mono ?_; rintro e w3 ⟨rfl, hb3⟩))
              have hO := hO.keep hb3
              have hdl : (b.drop C).length = 256 - C := by rw [List.length_drop, Hfull.out]
              have H := oWrite hO (by omega) (p0_len (by omega)) 0 s (by omega)
              have hq := p0_write (b := b.drop C) Hs.out (by omega)
              rw [hq.1, hq.2.1, hq.2.2] at H
              obtain ⟨D, hD⟩ : ∃ D, D = wrCount (b.drop C) s := ⟨_, rfl⟩
              rw [← hD] at H
              have hD1 : D ≤ s.length ∧ D ≤ C ∧ (D = s.length ∨ D = C) := by
                rw [hD]; unfold wrCount; omega
              clear hD hq hdl
              have htl : (b.take C).length = C := by rw [List.length_take]; have := Hfull.out; omega
              have hts : (str (b.take C)).size = C := by rw [str_size]; exact htl
              clear htl
              refine H.mono ?_
              rintro e w4 ⟨rfl, hO, hb4, hc4⟩
              have hP := (hP.call hb3).next (hb4.mono hB1)
              clear H hb3 hb4 hc4
              have e1 : (if 256 < (s.length : Int) then 256 else (s.length : Int)) = (A : Int) := by split <;> omega
              have e2 : (if 256 < (n : Int) then 256 else (n : Int)) = (C : Int) := by split <;> omega
              have e3 : (if (C : Int) < (s.length : Int) then (C : Int) else (s.length : Int)) = (D : Int) := by split <;> omega
              go_wp2
              all_goals (go_ret; exact ⟨ret_same (by omega), hP.1⟩)))
      · have Hf := Lib.hid hfull; clear hfull hf
        go_wp2
        go_loopw [14, 12] (fun t f wr => ∃ (i : Nat) (fv : Int) (b : List UInt8), i ≤ 600 ∧ t = .int .i64 i ∧ f = .int .i64 fv ∧ b.length ≤ 256 ∧ ((fv = 0 ∧ i + 1 ≤ b.length) ∨ (fv = 19 ∧ b.length = 256)) ∧ PipeIs w1.heap.size wr vb (.pointer (some ⟨w0.heap.size, 0, none⟩)) (p0 b) (200 + 2 * i) ∧ Past w.heap.size w wr) (fun t _ _ => 600 - (intOf t).toNat)
        (case atStart => exact ⟨0, _, b, by omega, rfl, rfl, hbl, by first | exact hf | exact .inr ⟨rfl, Hf.out⟩, hO.more (by omega), hP⟩)
        (case round =>
          obtain ⟨i, fv, b, hi, rfl, rfl, hbl, hf, hO, hP⟩ := hrel
          by_cases hgo : i < 600 ∧ fv = 0
          · obtain ⟨hi3, rfl⟩ := hgo
            have hb1 : i + 1 ≤ b.length := by omega
            go_wp2_with (first
              | (go_at_call 20; refine (oOne _).mono ?_; rintro e w3 ⟨rfl, hb3⟩))
            have hO := hO.keep hb3
            have H := oWrite hO (by omega) (p0_len hbl) 0 s (by omega)
            by_cases hfull : b.length = 256
            · have hq := p0_writeBusy (b := b) Hs.out hfull
              rw [hq.1, hq.2.1, hq.2.2] at H
              clear hq
              refine H.mono ?_
              rintro e w4 ⟨rfl, hO, hb4, hc4⟩
              have hP := (hP.call hb3).next (hb4.mono hB1)
              clear H hb3 hb4 hc4
              have Hfull := Lib.hid hfull; clear hfull
              go_wp2
              go_roundw
              (case rel => exact ⟨i + 1, 19, b, by omega, by go_num, rfl, hbl, .inr ⟨rfl, Hfull.out⟩, hO.more (by omega), hP⟩)
              (case measure => simp [intOf]; omega)
            · have hq := p0_write (b := b) Hs.out (by omega)
              rw [hq.1, hq.2.1, hq.2.2] at H
              clear hq
              refine H.mono ?_
              rintro e w4 ⟨rfl, hO, hb4, hc4⟩
              have hP := (hP.call hb3).next (hb4.mono hB1)
              clear H hb3 hb4 hc4
              have hml := more_len b s
              have hwl := wrCount_le b s
              have hw1 : 1 ≤ wrCount b s := by have := List.length_pos_iff.2 Hs.out; unfold wrCount; omega
              have Hml := Lib.hid hml; clear hml
              go_wp2
              go_roundw
              (case rel => exact ⟨i + 1, 0, _, by omega, by go_num, rfl, by rw [Hml.out]; omega, .inl ⟨rfl, by rw [Hml.out]; omega⟩, hO.more (by omega), hP⟩)
              (case measure => simp [intOf]; omega)
          · have hf2 : fv = 19 ∧ b.length = 256 := by omega
            obtain ⟨rfl, hfull⟩ := hf2
            clear hf hgo
            obtain ⟨c, hck, hM⟩ := hO.mark
            have Hfull := Lib.hid hfull; clear hfull
            by_cases hi6 : i < 600
            all_goals (
              go_wp2_with (first
                | (go_at_call 21; refine (mark_any vb c _ hM).mono ?_; rintro e w5 ⟨rfl, rfl⟩)
                | (go_at_call 20; refine (oOne _).mono ?_; rintro e w3 ⟨rfl, hb3⟩))
              have hO := hO.keep hb3
              have hM := hM.below hb3
              have hq := p0_writeBusy (b := b) Hs.out Hfull.out
              have H := oWrite hO (by omega) (p0_len hbl) 0 s (by omega)
              rw [hq.1, hq.2.1, hq.2.2] at H
              refine H.mono ?_
              rintro e w4 ⟨rfl, hO, hb4, hc4⟩
              have hP := (hP.call hb3).next (hb4.mono hB1)
              have hM := hM.cells (hc4.2 (by decide))
              clear H hb3 hb4 hc4 hq
              go_wp2_with (first
                | (go_at_call 21; refine (mark_any vb c _ hM).mono ?_; rintro e w5 ⟨rfl, rfl⟩)
                | (go_at_call 20; refine (oOne _).mono ?_; rintro e w3 ⟨rfl, hb3⟩))
              have hO := hO.keep hb3
              have hbne : b ≠ [] := fun h => by have := Hfull.out; rw [h] at this; simp at this
              have H := oRead hO (by omega) (p0_len hbl) 0 n (by omega)
              have hq := p0_read (b := b) hn1 hbne hbl
              rw [hq.1, hq.2.1, hq.2.2] at H
              obtain ⟨C, hC⟩ : ∃ C, C = rdCount b n := ⟨_, rfl⟩
              rw [← hC] at H
              have hC1 : C ≤ n ∧ C ≤ 256 ∧ 1 ≤ C ∧ (C = n ∨ C = 256) := by
                have := Hfull.out
                rw [hC]; unfold rdCount; omega
              clear hC hq hbne
              refine H.mono ?_
              rintro e w4 ⟨rfl, hO, hb4, hc4⟩
              have hP := (hP.call hb3).next (hb4.mono hB1)
              clear H hb3 hb4 hc4 hM
              go_wp2_with (first
                | (go_at_call 20; refine (oOne _).mono ?_; rintro e w3 ⟨rfl, hb3⟩))
              have hO := hO.keep hb3
              have hdl : (b.drop C).length = 256 - C := by rw [List.length_drop, Hfull.out]
              have H := oWrite hO (by omega) (p0_len (by omega)) 0 s (by omega)
              have hq := p0_write (b := b.drop C) Hs.out (by omega)
              rw [hq.1, hq.2.1, hq.2.2] at H
              obtain ⟨D, hD⟩ : ∃ D, D = wrCount (b.drop C) s := ⟨_, rfl⟩
              rw [← hD] at H
              have hD1 : D ≤ s.length ∧ D ≤ C ∧ (D = s.length ∨ D = C) := by
                rw [hD]; unfold wrCount; omega
              clear hD hq hdl
              have htl : (b.take C).length = C := by rw [List.length_take]; have := Hfull.out; omega
              have hts : (str (b.take C)).size = C := by rw [str_size]; exact htl
              clear htl
              refine H.mono ?_
              rintro e w4 ⟨rfl, hO, hb4, hc4⟩
              have hP := (hP.call hb3).next (hb4.mono hB1)
              clear H hb3 hb4 hc4
              have e1 : (if 256 < (s.length : Int) then 256 else (s.length : Int)) = (A : Int) := by split <;> omega
              have e2 : (if 256 < (n : Int) then 256 else (n : Int)) = (C : Int) := by split <;> omega
              have e3 : (if (C : Int) < (s.length : Int) then (C : Int) else (s.length : Int)) = (D : Int) := by split <;> omega
              go_wp2
              all_goals (go_ret; exact ⟨ret_same (by omega), hP.1⟩)))

theorem pipeBusy_any (s : List UInt8) (m : Nat) (hm : m < 65536) (w : World) (hl : s.length ≤ 9223372036854775807) :
    Calls Tryz.prog 4 #[.string (str s), .int .u16 m] w fun x w' => x = .returned (.bool true) ∧ Below w.heap.size w w' := by
  by_cases h : s = [] ∨ 600 < s.length
  · exact pipeBusy_other s m w hl h
  · exact pipeBusy_main s m hm w (fun hs => h (.inl hs)) (by omega)
end Go.Proofs.YtoefldeoioagmaaGreatDoor
