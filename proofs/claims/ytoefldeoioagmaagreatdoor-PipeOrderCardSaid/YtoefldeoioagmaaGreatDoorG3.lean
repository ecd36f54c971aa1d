/- Contracts of functions on the way to the claim, proved for every input that their hypotheses let by; no condition of the claim. Joined of: Q1 B1 B2 B3 B4 Q2 B5 B6. -/
import Derived.Deep.RegionHeld3
import Derived.Test.YtoefldeoioagmaaGreatDoorG1
import Derived.Test.YtoefldeoioagmaaGreatDoorG2

/- Plain: pipes as values: what Check, Encode, Decode say. No program here. -/
namespace Go.Proofs.YtoefldeoioagmaaGreatDoor
open Go.RowKit

/-- is n from 0 to m? -/
def withinB (n m : Int) : Bool := decide (0 ≤ n ∧ n ≤ m)
theorem withinB_iff {n m : Int} : withinB n m = true ↔ 0 ≤ n ∧ n ≤ m := by simp [withinB]
theorem withinB_no {n m : Int} : withinB n m = false ↔ ¬ (0 ≤ n ∧ n ≤ m) := by simp [withinB]

/-- the first error of a pipe -/
def pipeCheck (e r w : Int) (n : Nat) : Nat :=
  if ¬ (0 ≤ e ∧ e ≤ 1073741824) ∨ ¬ (0 ≤ r ∧ r ≤ 64) ∨ ¬ (0 ≤ w ∧ w ≤ 64) then 2
  else if r + w = 0 then 1 else if 256 < n then 5 else 0
theorem pipeCheck_range {e r w : Int} {n : Nat} (h : pipeCheck e r w n = 0) : (0 ≤ e ∧ e ≤ 1073741824) ∧ (0 ≤ r ∧ r ≤ 64) ∧ (0 ≤ w ∧ w ≤ 64) ∧ r + w ≠ 0 ∧ n ≤ 256 := by
  unfold pipeCheck at h
  split at h
  · cases h
  · split at h
    · cases h
    · split at h
      · cases h
      · omega
/-- the value of a pipe without error -/
def pipeBytes (e r w : Int) (b : List UInt8) : List UInt8 := natBytes e.toNat ++ natBytes r.toNat ++ natBytes w.toNat ++ natBytes b.length ++ b
/-- what Encode returns -/
def pipeEnc (e r w : Int) (b : List UInt8) : List UInt8 := if pipeCheck e r w b.length = 0 then pipeBytes e r w b else []
end Go.Proofs.YtoefldeoioagmaaGreatDoor

/- Package pipe and its reference: within, Check, To. -/
namespace Go.Proofs.YtoefldeoioagmaaGreatDoor
open Go.RowKit

set_option maxRecDepth 100000 in
set_option maxHeartbeats 400000 in
theorem pipeWithin_any (n m : Int) (w : World) :
    Calls Tryz.prog 46 #[.int .i64 n, .int .i64 m] w fun e w' => e = .returned (.bool (withinB n m)) ∧ w = w' := by
  by_cases h : 0 ≤ n
  · have hfin : withinB n m = decide (n ≤ m) := by simp [withinB, h]
    have Hfin := Lib.hid hfin; clear hfin
    go_enter Tryz.func46, Tryz.ntmps46
    go_wp2
    go_ret
    exact ⟨by rw [Hfin.out]; rfl, rfl⟩
  · have h' : decide (0 ≤ n) = false := by simpa using h
    have hfin : withinB n m = false := by simp [withinB, h]
    have Hfin := Lib.hid hfin; clear hfin
    go_enter Tryz.func46, Tryz.ntmps46
    go_wp2
    go_ret
    exact ⟨by rw [Hfin.out]; rfl, rfl⟩

theorem check_yes {e m : Int} (h : 0 ≤ e ∧ e ≤ m) : withinB e m = true := withinB_iff.2 h
theorem check_no {e m : Int} (h : ¬ (0 ≤ e ∧ e ≤ m)) : withinB e m = false := withinB_no.2 h

set_option maxRecDepth 100000 in
set_option maxHeartbeats 800000 in
theorem pipeCheck_any (e r wr : Int) (s : ByteArray) (w : World) (hs : s.size ≤ 9223372036854775807) :
    Calls Tryz.prog 15 #[.agg #[.int .i64 e, .int .i64 r, .int .i64 wr, .string s]] w fun x w' => x = .returned (.int .i64 (pipeCheck e r wr s.size)) ∧ Below w.heap.size w w' := by
  have fin : ∀ c : Nat, pipeCheck e r wr s.size = c → (Ending.returned (.int .i64 (c : Int)) = .returned (.int .i64 (pipeCheck e r wr s.size)) ∧ Below w.heap.size w (w.alloc (.cells #[.int .i64 e, .int .i64 r, .int .i64 wr, .string s] 28))) := fun c hc => by
    rw [hc]; exact ⟨rfl, below_alloc _ _⟩
  have Fin := Lib.hid fin; clear fin
  by_cases he : 0 ≤ e ∧ e ≤ 1073741824
  · have he' := check_yes he
    by_cases hr : 0 ≤ r ∧ r ≤ 64
    · have hr' := check_yes hr
      by_cases hw : 0 ≤ wr ∧ wr ≤ 64
      · have hw' := check_yes hw
        obtain ⟨hr1, hr2⟩ := hr
        obtain ⟨hw1, hw2⟩ := hw
        by_cases hz : r + wr = 0
        · have hz' : (r + wr == 0) = true := by simp [hz]
          have hfin := Fin.out 1 (by unfold pipeCheck; rw [if_neg (by omega), if_pos hz])
          have Hfin := Lib.hid hfin; clear hfin
          have Hz := Lib.hid hz; clear hz
          have He := Lib.hid he; clear he
          go_enter Tryz.func15, Tryz.ntmps15
          go_wp2_with (go_at_call 46; refine (pipeWithin_any _ _ _).mono ?_; rintro e w1 ⟨rfl, rfl⟩)
          go_ret
          exact Hfin.out
        · have hz' : (r + wr == 0) = false := by simp; omega
          have He := Lib.hid he; clear he
          by_cases hn : 256 < s.size
          · have hfin := Fin.out 5 (by unfold pipeCheck; rw [if_neg (by have := He.out; omega), if_neg hz, if_pos hn])
            have Hfin := Lib.hid hfin; clear hfin
            go_enter Tryz.func15, Tryz.ntmps15
            go_wp2_with (go_at_call 46; refine (pipeWithin_any _ _ _).mono ?_; rintro e w1 ⟨rfl, rfl⟩)
            go_ret
            exact Hfin.out
          · have hfin := Fin.out 0 (by unfold pipeCheck; rw [if_neg (by have := He.out; omega), if_neg hz, if_neg hn])
            have Hfin := Lib.hid hfin; clear hfin
            go_enter Tryz.func15, Tryz.ntmps15
            go_wp2_with (go_at_call 46; refine (pipeWithin_any _ _ _).mono ?_; rintro e w1 ⟨rfl, rfl⟩)
            go_ret
            exact Hfin.out
      · have hw' := check_no hw
        have hfin := Fin.out 2 (by unfold pipeCheck; rw [if_pos (.inr (.inr hw))])
        have Hfin := Lib.hid hfin; clear hfin
        clear hw hr he
        go_enter Tryz.func15, Tryz.ntmps15
        go_wp2_with (go_at_call 46; refine (pipeWithin_any _ _ _).mono ?_; rintro e w1 ⟨rfl, rfl⟩)
        go_ret
        exact Hfin.out
    · have hr' := check_no hr
      have hfin := Fin.out 2 (by unfold pipeCheck; rw [if_pos (.inr (.inl hr))])
      have Hfin := Lib.hid hfin; clear hfin
      clear hr he
      go_enter Tryz.func15, Tryz.ntmps15
      go_wp2_with (go_at_call 46; refine (pipeWithin_any _ _ _).mono ?_; rintro e w1 ⟨rfl, rfl⟩)
      go_ret
      exact Hfin.out
  · have he' := check_no he
    have hfin := Fin.out 2 (by unfold pipeCheck; rw [if_pos (.inl he)])
    have Hfin := Lib.hid hfin; clear hfin
    clear he
    go_enter Tryz.func15, Tryz.ntmps15
    go_wp2_with (go_at_call 46; refine (pipeWithin_any _ _ _).mono ?_; rintro e w1 ⟨rfl, rfl⟩)
    go_ret
    exact Hfin.out
end Go.Proofs.YtoefldeoioagmaaGreatDoor

/- The reference's Check; To; Encode in both packages. -/
namespace Go.Proofs.YtoefldeoioagmaaGreatDoor
open Go.RowKit

set_option maxRecDepth 100000 in
set_option maxHeartbeats 1600000 in
theorem refCheck_any (e r wr : Int) (s : ByteArray) (w : World) (hs : s.size ≤ 9223372036854775807) :
    Calls Tryz.prog 16 #[.agg #[.int .i64 e, .int .i64 r, .int .i64 wr, .string s]] w fun x w' => x = .returned (.int .i64 (pipeCheck e r wr s.size)) ∧ Below w.heap.size w w' := by
  have fin : ∀ c : Nat, pipeCheck e r wr s.size = c → (Ending.returned (.int .i64 (c : Int)) = .returned (.int .i64 (pipeCheck e r wr s.size)) ∧ Below w.heap.size w (w.alloc (.cells #[.int .i64 e, .int .i64 r, .int .i64 wr, .string s] 23))) := fun c hc => by
    rw [hc]; exact ⟨rfl, below_alloc _ _⟩
  have Fin := Lib.hid fin; clear fin
  by_cases h : ¬ (0 ≤ e ∧ e ≤ 1073741824) ∨ ¬ (0 ≤ r ∧ r ≤ 64) ∨ ¬ (0 ≤ wr ∧ wr ≤ 64)
  · have hfin := Fin.out 2 (by unfold pipeCheck; rw [if_pos h])
    have Hfin := Lib.hid hfin; clear hfin
    have H := Lib.hid h; clear h
    by_cases h1 : e < 0
    · go_enter Tryz.func16, Tryz.ntmps16
      go_wp2_with fail
      go_ret
      exact Hfin.out
    · have h1' : decide (e < 0) = false := by simp; omega
      by_cases h2 : 1073741824 < e
      · go_enter Tryz.func16, Tryz.ntmps16
        go_wp2_with fail
        go_ret
        exact Hfin.out
      · have h2' : decide (1073741824 < e) = false := by simp; omega
        by_cases h3 : r < 0
        · go_enter Tryz.func16, Tryz.ntmps16
          go_wp2_with fail
          go_ret
          exact Hfin.out
        · have h3' : decide (r < 0) = false := by simp; omega
          by_cases h4 : 64 < r
          · go_enter Tryz.func16, Tryz.ntmps16
            go_wp2_with fail
            go_ret
            exact Hfin.out
          · have h4' : decide (64 < r) = false := by simp; omega
            by_cases h5 : wr < 0
            · go_enter Tryz.func16, Tryz.ntmps16
              go_wp2_with fail
              go_ret
              exact Hfin.out
            · have h5' : decide (wr < 0) = false := by simp; omega
              have h6 : 64 < wr := by have := H.out; omega
              go_enter Tryz.func16, Tryz.ntmps16
              go_wp2_with fail
              go_ret
              exact Hfin.out
  · have h1 : 0 ≤ e := by omega
    have h2 : e ≤ 1073741824 := by omega
    have h3 : 0 ≤ r := by omega
    have h4 : r ≤ 64 := by omega
    have h5 : 0 ≤ wr := by omega
    have h6 : wr ≤ 64 := by omega
    have h1' : decide (e < 0) = false := by simp; omega
    have h2' : decide (1073741824 < e) = false := by simp; omega
    have h3' : decide (r < 0) = false := by simp; omega
    have h4' : decide (64 < r) = false := by simp; omega
    have h5' : decide (wr < 0) = false := by simp; omega
    have h6' : decide (64 < wr) = false := by simp; omega
    have H := Lib.hid h; clear h
    by_cases hz : r + wr = 0
    · have hfin := Fin.out 1 (by unfold pipeCheck; rw [if_neg H.out, if_pos hz])
      have Hfin := Lib.hid hfin; clear hfin
      have z1 : (r == 0) = true := by simp; omega
      have z2 : (wr == 0) = true := by simp; omega
      have Hz := Lib.hid hz; clear hz
      go_enter Tryz.func16, Tryz.ntmps16
      go_wp2_with fail
      go_ret
      exact Hfin.out
    · by_cases hn : 256 < s.size
      · have hfin := Fin.out 5 (by unfold pipeCheck; rw [if_neg H.out, if_neg hz, if_pos hn])
        have Hfin := Lib.hid hfin; clear hfin
        by_cases hr : r = 0
        · subst hr
          have z2 : (wr == 0) = false := by simp; omega
          clear h1' h2' h4' h5' h6'
          go_enter Tryz.func16, Tryz.ntmps16
          go_wp2_with fail
          go_ret
          exact Hfin.out
        · have z1 : (r == 0) = false := by simp; omega
          go_enter Tryz.func16, Tryz.ntmps16
          go_wp2_with fail
          go_ret
          exact Hfin.out
      · have hfin := Fin.out 0 (by unfold pipeCheck; rw [if_neg H.out, if_neg hz, if_neg hn])
        have Hfin := Lib.hid hfin; clear hfin
        by_cases hr : r = 0
        · subst hr
          have z2 : (wr == 0) = false := by simp; omega
          clear h1' h2' h4' h5' h6'
          go_enter Tryz.func16, Tryz.ntmps16
          go_wp2_with fail
          go_ret
          exact Hfin.out
        · have z1 : (r == 0) = false := by simp; omega
          go_enter Tryz.func16, Tryz.ntmps16
          go_wp2_with fail
          go_ret
          exact Hfin.out

set_option maxRecDepth 100000 in
set_option maxHeartbeats 400000 in
theorem to_any (e r wr : Int) (s : ByteArray) (w : World) :
    Calls Tryz.prog 11 #[.agg #[.int .i64 e, .int .i64 r, .int .i64 wr, .string s]] w fun x w' => x = .returned (.agg #[.int .i64 e, .int .i64 r, .int .i64 wr, .string s]) ∧ Below w.heap.size w w' := by
  go_enter Tryz.func11, Tryz.ntmps11
  go_wp2
  go_returns
  refine ⟨rfl, ?_⟩
  go_show
  go_grown
end Go.Proofs.YtoefldeoioagmaaGreatDoor

/- pipe.Encode. -/
namespace Go.Proofs.YtoefldeoioagmaaGreatDoor
open Go.RowKit

theorem Blk.four {w : World} {b : Nat} {x y z u : Value} {t : TypeId} (h : Blk w b #[x, y, z, u] t) :
    w.cell? ⟨b, 0, none⟩ = some x ∧ w.cell? ⟨b, 1, none⟩ = some y ∧ w.cell? ⟨b, 2, none⟩ = some z ∧ w.cell? ⟨b, 3, none⟩ = some u ∧ w.frozen? ⟨b, 0, none⟩ = false ∧ w.frozen? ⟨b, 1, none⟩ = false ∧ w.frozen? ⟨b, 2, none⟩ = false ∧ w.frozen? ⟨b, 3, none⟩ = false :=
  ⟨by rw [h.cell]; rfl, by rw [h.cell]; rfl, by rw [h.cell]; rfl, by rw [h.cell]; rfl, h.frozen 0, h.frozen 1, h.frozen 2, h.frozen 3⟩

/-- what four stores leave in a block of four cells -/
theorem Blk.stores4 {w : World} {b : Nat} {x y z u : Value} {t : TypeId} (h : Blk w b #[x, y, z, u] t) (x' y' z' u' : Value) :
    (w.setCell ⟨b, 0, none⟩ x').cell? ⟨b, 0, none⟩ = some x' ∧ ((w.setCell ⟨b, 0, none⟩ x').setCell ⟨b, 1, none⟩ y').cell? ⟨b, 1, none⟩ = some y' ∧
    (((w.setCell ⟨b, 0, none⟩ x').setCell ⟨b, 1, none⟩ y').setCell ⟨b, 2, none⟩ z').cell? ⟨b, 2, none⟩ = some z' ∧
    ((((w.setCell ⟨b, 0, none⟩ x').setCell ⟨b, 1, none⟩ y').setCell ⟨b, 2, none⟩ z').setCell ⟨b, 3, none⟩ u').cell? ⟨b, 3, none⟩ = some u' ∧
    Blk ((((w.setCell ⟨b, 0, none⟩ x').setCell ⟨b, 1, none⟩ y').setCell ⟨b, 2, none⟩ z').setCell ⟨b, 3, none⟩ u') b #[x', y', z', u'] t := by
  have h1 : Blk (w.setCell ⟨b, 0, none⟩ x') b #[x', y, z, u] t := (h.set 0 x').congr rfl
  have h2 := (h1.set 1 y').congr (cs' := #[x', y', z, u]) rfl
  have h3 := (h2.set 2 z').congr (cs' := #[x', y', z', u]) rfl
  have h4 := (h3.set 3 u').congr (cs' := #[x', y', z', u']) rfl
  exact ⟨h1.four.1, h2.four.2.1, h3.four.2.2.1, h4.four.2.2.2.1, h4⟩
theorem below_stores4 {B b : Nat} {W w : World} (h : Below B W w) (hb : B ≤ b) (x y z u : Value) :
    Below B W ((((w.setCell ⟨b, 0, none⟩ x).setCell ⟨b, 1, none⟩ y).setCell ⟨b, 2, none⟩ z).setCell ⟨b, 3, none⟩ u) := (((h.setCell hb _).setCell hb _).setCell hb _).setCell hb _

set_option maxRecDepth 100000 in
set_option maxHeartbeats 1600000 in
theorem pipeEncode_any (e r wr : Int) (l : List UInt8) (w : World) (hs : l.length ≤ 1000000000) :
    Calls Tryz.prog 10 #[.agg #[.int .i64 e, .int .i64 r, .int .i64 wr, .string (str l)]] w fun x w' =>
      x = .returned (.tuple #[.string (str (pipeEnc e r wr l)), .int .i64 (pipeCheck e r wr l.length)]) ∧ Below w.heap.size w w' := by
  have hbk := Blk.new w #[.int .i64 e, .int .i64 r, .int .i64 wr, .string (str l)] 28
  have hck := pipeCheck_any e r wr (str l) (w.alloc (.cells #[.int .i64 e, .int .i64 r, .int .i64 wr, .string (str l)] 28)) (by rw [str_size]; omega)
  rw [str_size] at hck
  have Hck := Lib.hid hck; clear hck
  have Hbk := Lib.hid hbk; clear hbk
  by_cases h0 : pipeCheck e r wr l.length = 0
  · have hrng := pipeCheck_range h0
    obtain ⟨⟨he1, he2⟩, ⟨hr1, hr2⟩, ⟨hw1, hw2⟩, hz, hn⟩ := hrng
    have Hfin : Hid (pipeEnc e r wr l = pipeBytes e r wr l) := by show _ = _; unfold pipeEnc; rw [if_pos h0]
    have h0' : ((pipeCheck e r wr l.length : Int) == 0) = true := by simp [h0]
    have h0'' : ((pipeCheck e r wr l.length : Int) != 0) = false := by simp [h0]
    obtain ⟨e', rfl⟩ := Int.eq_ofNat_of_zero_le he1
    obtain ⟨r', rfl⟩ := Int.eq_ofNat_of_zero_le hr1
    obtain ⟨wr', rfl⟩ := Int.eq_ofNat_of_zero_le hw1
    have H0 := Lib.hid h0; clear h0
    have Hz := Lib.hid hz; clear hz
    have hl1 := natBytes_len64 (n := e') (by omega)
    have hl2 := natBytes_len64 (n := r') (by omega)
    have hl3 := natBytes_len64 (n := wr') (by omega)
    have hl4 := natBytes_len64 (n := l.length) (by omega)
    go_enter Tryz.func10, Tryz.ntmps10
    go_wp2_with fail
    refine Hck.out.mono ?_
    rintro x w1 ⟨rfl, hb1⟩
    have hbk1 := Hbk.out.below hb1 (by simp)
    have hz1 : w.heap.size < w1.heap.size := by have := hb1.size; simp at this; omega
    have hB1 : Below w.heap.size w w1 := (below_alloc w _).trans (hb1.mono (by simp))
    go_wp2_with fail
    refine (newWriter_any _).mono ?_
    rintro x w2 ⟨rfl, hW2, hb2⟩
    have hbk2 := hbk1.below hb2 hz1
    obtain ⟨c20, c21, c22, c23, _, _, _, _⟩ := hbk2.four
    go_wp2_with fail
    refine (number_ok w1.heap.size w1.heap.size [] e' (by omega) _ hW2 (by simp)).mono ?_
    rintro x w3 ⟨rfl, hW3, hb3⟩
    have hbk3 := hbk2.below hb3 hz1
    obtain ⟨c30, c31, c32, c33, _, _, _, _⟩ := hbk3.four
    clear c20 c21 c22 c23
    go_wp2_with fail
    refine (number_ok w1.heap.size w1.heap.size _ r' (by omega) _ hW3 (by simp; omega)).mono ?_
    rintro x w4 ⟨rfl, hW4, hb4⟩
    have hbk4 := hbk3.below hb4 hz1
    obtain ⟨c40, c41, c42, c43, _, _, _, _⟩ := hbk4.four
    clear c30 c31 c32 c33
    go_wp2_with fail
    refine (number_ok w1.heap.size w1.heap.size _ wr' (by omega) _ hW4 (by simp; omega)).mono ?_
    rintro x w5 ⟨rfl, hW5, hb5⟩
    have hbk5 := hbk4.below hb5 hz1
    obtain ⟨c50, c51, c52, c53, _, _, _, _⟩ := hbk5.four
    clear c40 c41 c42 c43
    go_wp2_with fail
    refine (text_ok w1.heap.size w1.heap.size _ (str l) (by rw [str_size]; omega) _ hW5 (by simp; omega)).mono ?_
    rintro x w6 ⟨rfl, hW6, hb6⟩
    clear c50 c51 c52 c53
    rw [str_size, str_data] at hW6
    obtain ⟨L, hL⟩ : ∃ L, L = [] ++ natBytes e' ++ natBytes r' ++ natBytes wr' ++ natBytes l.length ++ l := ⟨_, rfl⟩
    rw [← hL] at hW6
    have hLl : L.length ≤ 100000000 := by rw [hL]; simp; omega
    have HL := Lib.hid hL; clear hL
    go_wp2_with fail
    refine (bytes_ok w1.heap.size w1.heap.size _ _ hW6 hLl).mono ?_
    rintro x w7 ⟨v7, rfl, hown7, hb7⟩
    have hle7 := hW6.le
    obtain ⟨a7, c7, rfl⟩ := owns_slice hown7
    have hsee7 := sees_of_owns hown7
    go_wp2_with (with_reducible refine wpList_string_of_bytes (o := ⟨some 36, _, _, _, _, _⟩) _ rfl _ _ 5 _ rfl Tryz.underlying84 Tryz.underlying5 Tryz.underlying9 hsee7 rfl ?_)
    go_ret2
    refine ⟨?_, hB1.trans (((((((hb2.trans hb3).trans hb4).trans hb5).trans hb6).trans (hb7.mono hle7))).mono (Nat.le_of_lt hz1))⟩
    rw [Hfin.out, H0.out]
    have e1 : pipeBytes (e' : Int) (r' : Int) (wr' : Int) l = L := by rw [HL.out]; simp [pipeBytes]
    rw [e1]
    rfl
  · have h0' : ((pipeCheck e r wr l.length : Int) == 0) = false := by simp; omega
    have h0'' : ((pipeCheck e r wr l.length : Int) != 0) = true := by simp; omega
    have Hfin : Hid (pipeEnc e r wr l = []) := by show _ = _; unfold pipeEnc; rw [if_neg h0]
    go_enter Tryz.func10, Tryz.ntmps10
    go_wp2_with fail
    refine Hck.out.mono ?_
    rintro x w1 ⟨rfl, hb1⟩
    have hB1 : Below w.heap.size w w1 := (below_alloc w _).trans (hb1.mono (by simp))
    go_wp2
    go_ret2
    exact ⟨by rw [Hfin.out]; rfl, hB1⟩
end Go.Proofs.YtoefldeoioagmaaGreatDoor

/- The reference's Encode. -/
namespace Go.Proofs.YtoefldeoioagmaaGreatDoor
open Go.RowKit

set_option maxRecDepth 100000 in
set_option maxHeartbeats 1600000 in
theorem refEncode_any (e r wr : Int) (l : List UInt8) (w : World) (hs : l.length ≤ 1000000000) :
    Calls Tryz.prog 12 #[.agg #[.int .i64 e, .int .i64 r, .int .i64 wr, .string (str l)]] w fun x w' =>
      x = .returned (.tuple #[.string (str (pipeEnc e r wr l)), .int .i64 (pipeCheck e r wr l.length)]) ∧ Below w.heap.size w w' := by
  have hbk := Blk.new w #[.int .i64 e, .int .i64 r, .int .i64 wr, .string (str l)] 23
  have hck := refCheck_any e r wr (str l) (w.alloc (.cells #[.int .i64 e, .int .i64 r, .int .i64 wr, .string (str l)] 23)) (by rw [str_size]; omega)
  rw [str_size] at hck
  have Hck := Lib.hid hck; clear hck
  have Hbk := Lib.hid hbk; clear hbk
  by_cases h0 : pipeCheck e r wr l.length = 0
  · have hrng := pipeCheck_range h0
    obtain ⟨⟨he1, he2⟩, ⟨hr1, hr2⟩, ⟨hw1, hw2⟩, hz, hn⟩ := hrng
    have Hfin : Hid (pipeEnc e r wr l = pipeBytes e r wr l) := by show _ = _; unfold pipeEnc; rw [if_pos h0]
    have h0' : ((pipeCheck e r wr l.length : Int) == 0) = true := by simp [h0]
    have h0'' : ((pipeCheck e r wr l.length : Int) != 0) = false := by simp [h0]
    obtain ⟨e', rfl⟩ := Int.eq_ofNat_of_zero_le he1
    obtain ⟨r', rfl⟩ := Int.eq_ofNat_of_zero_le hr1
    obtain ⟨wr', rfl⟩ := Int.eq_ofNat_of_zero_le hw1
    have H0 := Lib.hid h0; clear h0
    have Hz := Lib.hid hz; clear hz
    have hl1 := natBytes_len64 (n := e') (by omega)
    have hl2 := natBytes_len64 (n := r') (by omega)
    have hl3 := natBytes_len64 (n := wr') (by omega)
    have hl4 := natBytes_len64 (n := l.length) (by omega)
    go_enter Tryz.func12, Tryz.ntmps12
    go_wp2_with fail
    refine Hck.out.mono ?_
    rintro x w1 ⟨rfl, hb1⟩
    have hbk1 := Hbk.out.below hb1 (by simp)
    have hz1 : w.heap.size < w1.heap.size := by have := hb1.size; simp at this; omega
    have hB1 : Below w.heap.size w w1 := (below_alloc w _).trans (hb1.mono (by simp))
    have HB1 := Lib.hid hB1; clear hB1
    obtain ⟨c10, c11, c12, c13, _, _, _, _⟩ := hbk1.four
    have we : IntKind.u64.wrap (e' : Int) = (e' : Int) := by rw [IntKind.wrap_u64]; omega
    have wr1 : IntKind.u64.wrap (r' : Int) = (r' : Int) := by rw [IntKind.wrap_u64]; omega
    go_wp2_with fail
    go_region_held3 (fun w' => w'.cell? ⟨w.heap.size, 0, none⟩ = some (.int .i64 e') ∧ w'.cell? ⟨w.heap.size, 1, none⟩ = some (.int .i64 r'))
      (first | go_keep | exact ⟨hbk4.four.1, hbk4.four.2.1⟩ | exact ⟨hbk3.four.1, hbk3.four.2.1⟩ | exact ⟨hbk2.four.1, hbk2.four.2.1⟩)
      ((first
        | (go_at_call_of 39 (Value.int .u64 (e' : Int)); refine (refNatural_any e' (by omega) _).mono ?_; rintro x w2 ⟨v2, rfl, hown2, hb2⟩; have hbk2 := hbk1.drew.below hb2 (by simpa using hz1))
        | (go_at_call_of 39 (Value.int .u64 (r' : Int)); refine (refNatural_any r' (by omega) _).mono ?_; rintro x w3 ⟨v3, rfl, hown3, hb3⟩; have hz2 := hb2.size; have hbk3 := hbk2.below hb3 (by simp at hz2; omega))
        | (refine step_append_where _ _ _ 84 rfl (w.heap.size + 1) 5 (.int .u8 0) 1 1 Tryz.underlying84 Tryz.info5 rfl (by decide) (owns_mono (owns_below hown2 hb3) hz1) rfl (sees_of_owns hown3) rfl (bytes_oneCell _) ?q1 ?q2 ?q3 ?_; (unfold maxLen; omega); omega; (have := hbk3.lt; omega); intro v4 w4 hown4 hg4 hwh4 _; have hbk4 := hbk3.grown hg4 (owns_ne hown2 (by simpa using hz1)))))
    have hbs : Below w.heap.size w w4 := by
      have q2 : Below w.heap.size w1 w2 := (((Below.refl _ w1).drew).trans (hb2.mono (by simp; omega)))
      have q3 : Below w.heap.size w2 w3 := hb3.mono (by have := hb2.size; simp at this; omega)
      have q4 : Below w.heap.size w3 w4 := (Below.refl _ w3).grown hg4 (by have := hbk3.lt; omega) (fun k hk => by have := (hown2.lt k hk).1; simp at this; omega)
      exact ((HB1.out.trans q2).trans q3).trans q4
    obtain ⟨L4, hL4⟩ : ∃ L, L = natBytes e' ++ natBytes r' := ⟨_, rfl⟩
    have hown4' : w4.ownsRow (w.heap.size + 1) 5 1 v4 L4.length (L4.map bval) := owns_eq hown4 (by rw [hL4]; simp) (by rw [hL4]; simp)
    have hL4l : L4.length ≤ 20 := by rw [hL4]; simp; omega
    have HL4 := Lib.hid hL4; clear hL4
    have Hbs := Lib.hid hbs; clear hbs
    obtain ⟨a4, c4, rfl⟩ := owns_slice hown4'
    clear hown4 hown3 hown2 hg4 hwh4 hb3 hb2 hbk3 hbk2 hbk1 we wr1 c10 c11 c12 c13
    have hz4 := hbk4.lt
    obtain ⟨c40, c41, c42, c43, _, _, _, _⟩ := hbk4.four
    go_wp2_with fail
    refine (refNatural_any wr' (by omega) _).mono ?_
    rintro x w5 ⟨v5, rfl, hown5, hb5⟩
    have hbk5 := hbk4.below hb5 hz4
    go_wp2_with (at_builtin; go_loud (refine wpList_append_where w5 rfl _ _ 84 rfl (w.heap.size + 1) 5 (.int .u8 0) 1 1 Tryz.underlying84 Tryz.info5 rfl (by decide) (owns_below hown4' hb5) rfl (sees_of_owns hown5) rfl (bytes_oneCell _) ?c1 ?c2 ?c3 ?_))
    case c1 => unfold maxLen; omega
    case c2 => omega
    case c3 => exact hbk5.lt
    intro v6 w6 hown6 hg6 hwh6 _
    have hbk6 := hbk5.grown hg6 (owns_ne hown4' (Nat.lt_succ_self _))
    have hbs6 : Below w.heap.size w w6 := by
      have q5 : Below w.heap.size w4 w5 := hb5.mono (by omega)
      have q6 : Below w.heap.size w5 w6 := (Below.refl _ w5).grown hg6 (Nat.le_of_lt hbk5.lt) (fun k hk => by have := (hown4'.lt k hk).1; omega)
      exact (Hbs.out.trans q5).trans q6
    obtain ⟨L6, hL6⟩ : ∃ L, L = L4 ++ natBytes wr' := ⟨_, rfl⟩
    have hown6' : w6.ownsRow (w.heap.size + 1) 5 1 v6 L6.length (L6.map bval) := owns_eq hown6 (by rw [hL6]; simp) (by rw [hL6]; simp)
    have hL6l : L6.length ≤ 30 := by rw [hL6]; simp; omega
    have HL6 := Lib.hid hL6; clear hL6
    have Hbs6 := Lib.hid hbs6; clear hbs6
    obtain ⟨a6, c6, rfl⟩ := owns_slice hown6'
    clear hown6 hown5 hg6 hwh6 hb5 hbk5 hbk4 c40 c41 c42 c43 hown4'
    have hz6 := hbk6.lt
    obtain ⟨c60, c61, c62, c63, _, _, _, _⟩ := hbk6.four
    have htx := refText_any (str l) (by rw [str_size]; omega) w6
    rw [str_size, str_data] at htx
    have Htx := Lib.hid htx; clear htx
    go_wp2_with fail
    refine Htx.out.mono ?_
    rintro x w7 ⟨v7, rfl, hown7, hb7⟩
    obtain ⟨L7, hL7⟩ : ∃ L, L = natBytes l.length ++ l := ⟨_, rfl⟩
    rw [← hL7] at hown7
    have hL7l : L7.length ≤ 1000 := by rw [hL7]; simp; omega
    have HL7 := Lib.hid hL7; clear hL7
    have hz7 := hb7.size
    go_wp2_with (at_builtin; go_loud (refine wpList_append_where w7 rfl _ _ 84 rfl (w.heap.size + 1) 5 (.int .u8 0) 1 1 Tryz.underlying84 Tryz.info5 rfl (by decide) (owns_below hown6' hb7) rfl (sees_of_owns hown7) rfl (bytes_oneCell _) ?d1 ?d2 ?d3 ?_))
    case d1 => unfold maxLen; omega
    case d2 => omega
    case d3 => omega
    intro v8 w8 hown8 hg8 hwh8 _
    have hbs8 : Below w.heap.size w w8 := by
      have q5 : Below w.heap.size w6 w7 := hb7.mono (by omega)
      have q6 : Below w.heap.size w7 w8 := (Below.refl _ w7).grown hg8 (by omega) (fun k hk => by have := (hown6'.lt k hk).1; omega)
      exact (Hbs6.out.trans q5).trans q6
    obtain ⟨L8, hL8⟩ : ∃ L, L = L6 ++ L7 := ⟨_, rfl⟩
    have hown8' : w8.ownsRow (w.heap.size + 1) 5 1 v8 L8.length (L8.map bval) := owns_eq hown8 (by rw [hL8]; simp) (by rw [hL8]; simp)
    have HL8 := Lib.hid hL8; clear hL8
    clear hown8 hown7 hg8 hwh8 hb7 hown6'
    obtain ⟨a8, c8, rfl⟩ := owns_slice hown8'
    have hsee8 := sees_of_owns hown8'
    go_wp2_with (with_reducible refine wpList_string_of_bytes (o := ⟨some 31, _, _, _, _, _⟩) _ rfl _ _ 5 _ rfl Tryz.underlying84 Tryz.underlying5 Tryz.underlying9 hsee8 rfl ?_)
    go_ret2
    refine ⟨?_, hbs8⟩
    rw [Hfin.out, H0.out]
    have e1 : pipeBytes (e' : Int) (r' : Int) (wr' : Int) l = L8 := by rw [HL8.out, HL7.out, HL6.out, HL4.out]; simp [pipeBytes]
    rw [e1]
    rfl
  · have h0' : ((pipeCheck e r wr l.length : Int) == 0) = false := by simp; omega
    have h0'' : ((pipeCheck e r wr l.length : Int) != 0) = true := by simp; omega
    have Hfin : Hid (pipeEnc e r wr l = []) := by show _ = _; unfold pipeEnc; rw [if_neg h0]
    go_enter Tryz.func12, Tryz.ntmps12
    go_wp2_with fail
    refine Hck.out.mono ?_
    rintro x w1 ⟨rfl, hb1⟩
    have hB1 : Below w.heap.size w w1 := (below_alloc w _).trans (hb1.mono (by simp))
    go_wp2
    go_ret2
    exact ⟨by rw [Hfin.out]; rfl, hB1⟩
end Go.Proofs.YtoefldeoioagmaaGreatDoor

/- Plain: decoding is the inverse of encoding. No program here. -/
namespace Go.Proofs.YtoefldeoioagmaaGreatDoor
open Go.RowKit

theorem groups_enc (rest : List UInt8) : ∀ (k n i u : Nat), n < 128 ^ (k + 1) → i + k ≤ 8 → (i = 0 ∨ 0 < n) → groupsFrom i u (natBytes n ++ rest) = (u + n * 128 ^ i, i + (natBytes n).length, 0)
  | k, n, i, u, hn, hk, hz => by
    by_cases h : n < 128
    · rw [natBytes_lt h]
      have e : (UInt8.ofNat n).toNat = n := by rw [UInt8.toNat_ofNat_of_lt' (by simp [UInt8.size]; omega)]
      simp only [List.cons_append, List.nil_append, groupsFrom, e]
      rw [if_neg (by omega), if_pos h, if_neg (by omega), Nat.mod_eq_of_lt h]
      simp
    · rw [natBytes_ge (by omega)]
      have e : (UInt8.ofNat (n % 128 + 128)).toNat = n % 128 + 128 := by rw [UInt8.toNat_ofNat_of_lt' (by simp [UInt8.size]; omega)]
      simp only [List.cons_append, groupsFrom, e]
      rw [if_neg (by omega), if_neg (by omega)]
      cases k with
      | zero => simp at hn; omega
      | succ k =>
        rw [groups_enc rest k (n / 128) (i + 1) _ (by rw [Nat.div_lt_iff_lt_mul (by decide)]; rw [Nat.pow_succ] at hn; exact hn) (by omega) (.inr (by omega))]
        have e2 : (n % 128 + 128) % 128 = n % 128 := by omega
        rw [e2]
        have e3 : u + n % 128 * 128 ^ i + n / 128 * 128 ^ (i + 1) = u + n * 128 ^ i := by
          rw [Nat.pow_succ, Nat.add_assoc, show n / 128 * (128 ^ i * 128) = n / 128 * 128 * 128 ^ i by rw [Nat.mul_comm (128 ^ i) 128, Nat.mul_assoc], ← Nat.add_mul]
          congr 2
          omega
        rw [e3]
        simp only [List.length_cons]
        congr 2
        omega
theorem groups_nat {n : Nat} (rest : List UInt8) (h : n < 9223372036854775808) : groupsFrom 0 0 (natBytes n ++ rest) = (n, (natBytes n).length, 0) := by
  rw [groups_enc rest 8 n 0 0 (by have : (128 : Nat) ^ (8 + 1) = 9223372036854775808 := by decide
                                  omega) (by omega) (.inl rfl)]
  simp

theorem groups_dec : ∀ (bs : List UInt8) (i u m k : Nat), groupsFrom i u bs = (m, k, 0) → ∃ n rest, bs = natBytes n ++ rest ∧ m = u + n * 128 ^ i ∧ k = i + (natBytes n).length ∧ (i = 0 ∨ 0 < n)
  | [], i, u, m, k, h => by unfold groupsFrom at h; split at h <;> simp at h
  | c :: r, i, u, m, k, h => by
    unfold groupsFrom at h
    split at h
    · simp at h
    · split at h
      · rename_i hc
        split at h
        · simp at h
        · rename_i hz
          simp only [Prod.mk.injEq, and_true] at h
          refine ⟨c.toNat, r, ?_, ?_, ?_, by omega⟩
          · rw [natBytes_lt hc]; simp
          · rw [← h.1, Nat.mod_eq_of_lt hc]
          · rw [natBytes_lt hc, ← h.2]; rfl
      · rename_i hc
        obtain ⟨n, rest, e1, e2, e3, e4⟩ := groups_dec r (i + 1) _ m k h
        have hn : 0 < n := by omega
        have hcl := c.toNat_lt
        have hge : 128 ≤ n * 128 + c.toNat % 128 := by omega
        refine ⟨n * 128 + c.toNat % 128, rest, ?_, ?_, ?_, .inr (by omega)⟩
        · rw [natBytes_ge hge, show (n * 128 + c.toNat % 128) % 128 = c.toNat % 128 by omega, show (n * 128 + c.toNat % 128) / 128 = n by omega, show c.toNat % 128 + 128 = c.toNat by omega, e1]
          simp
        · rw [e2, Nat.pow_succ, Nat.add_mul, show n * 128 * 128 ^ i = n * (128 ^ i * 128) by rw [Nat.mul_comm (128 ^ i) 128, Nat.mul_assoc]]
          omega
        · rw [natBytes_ge hge, show (n * 128 + c.toNat % 128) / 128 = n by omega, e3]
          simp; omega
theorem groups_ok {bs : List UInt8} {m k : Nat} (h : groupsFrom 0 0 bs = (m, k, 0)) : ∃ rest, bs = natBytes m ++ rest ∧ k = (natBytes m).length ∧ bs.drop k = rest := by
  obtain ⟨n, rest, e1, e2, e3, _⟩ := groups_dec bs 0 0 m k h
  simp at e2 e3
  subst e2
  exact ⟨rest, e1, e3, by rw [e1, e3]; simp⟩

/-- what pipe.Decode reads -/
def pipeDec (bs : List UInt8) : Option (Nat × Nat × Nat × List UInt8) :=
  let a := rdNum 1073741824 bs 0
  let b := rdNum 64 a.2.1 a.2.2
  let c := rdNum 64 b.2.1 b.2.2
  let d := rdText 256 c.2.1 c.2.2
  if rdClose d.2.1 d.2.2 ≠ 0 ∨ pipeCheck a.1 b.1 c.1 d.1.length ≠ 0 then none else some (a.1, b.1, c.1, d.1)

theorem rdNum_err {most : Nat} {rest : List UInt8} {f : Nat} (h : f ≠ 0) : (rdNum most rest f).2.2 = f := by unfold rdNum; rw [if_pos h]
theorem rdText_err {most : Nat} {rest : List UInt8} {f : Nat} (h : f ≠ 0) : (rdText most rest f).2.2 = f := by unfold rdText; rw [if_pos h]
theorem rdNum_ok {most : Nat} {rest : List UInt8} {f : Nat} (h : (rdNum most rest f).2.2 = 0) : f = 0 ∧ rest = natBytes (rdNum most rest f).1 ++ (rdNum most rest f).2.1 ∧ (rdNum most rest f).1 ≤ most := by
  by_cases hf : f = 0
  · subst hf
    unfold rdNum at h ⊢
    rw [if_neg (by decide)] at h ⊢
    by_cases hn : (numAt most rest).2.2 = 0
    · rw [if_neg (by simp [hn])] at h ⊢
      unfold numAt at hn ⊢
      by_cases hc : (groupsFrom 0 0 rest).2.2 = 0 ∧ most < (groupsFrom 0 0 rest).1
      · rw [if_pos hc] at hn; simp at hn
      · rw [if_neg hc] at hn ⊢
        have e : groupsFrom 0 0 rest = ((groupsFrom 0 0 rest).1, (groupsFrom 0 0 rest).2.1, 0) := Prod.ext rfl (Prod.ext rfl hn)
        obtain ⟨r, e1, e2, e3⟩ := groups_ok e
        refine ⟨rfl, ?_, by simp only; omega⟩
        simp only
        rw [e3]
        exact e1
    · rw [if_pos hn] at h
      exact absurd h hn
  · rw [rdNum_err hf] at h
    exact absurd h hf
theorem rdText_ok {most : Nat} {rest : List UInt8} {f : Nat} (h : (rdText most rest f).2.2 = 0) : f = 0 ∧ rest = natBytes (rdText most rest f).1.length ++ (rdText most rest f).1 ++ (rdText most rest f).2.1 ∧ (rdText most rest f).1.length ≤ most := by
  by_cases hf : f = 0
  · subst hf
    unfold rdText at h ⊢
    rw [if_neg (by decide)] at h ⊢
    by_cases hn : (textAt most rest).2.2 = 0
    · rw [if_neg (by simp [hn])] at h ⊢
      unfold textAt at hn ⊢
      by_cases h1 : (groupsFrom 0 0 rest).2.2 ≠ 0
      · rw [if_pos h1] at hn; exact absurd hn h1
      · rw [if_neg h1] at hn ⊢
        by_cases h2 : min most 16777216 < (groupsFrom 0 0 rest).1
        · rw [if_pos h2] at hn; simp at hn
        · rw [if_neg h2] at hn ⊢
          by_cases h3 : rest.length - (groupsFrom 0 0 rest).2.1 < (groupsFrom 0 0 rest).1
          · rw [if_pos h3] at hn; simp at hn
          · rw [if_neg h3]
            have e : groupsFrom 0 0 rest = ((groupsFrom 0 0 rest).1, (groupsFrom 0 0 rest).2.1, 0) := Prod.ext rfl (Prod.ext rfl (show (groupsFrom 0 0 rest).2.2 = 0 by omega))
            obtain ⟨r, e1, e2, e3⟩ := groups_ok e
            have hl : ((rest.drop (groupsFrom 0 0 rest).2.1).take (groupsFrom 0 0 rest).1).length = (groupsFrom 0 0 rest).1 := by rw [List.length_take, List.length_drop]; omega
            refine ⟨rfl, ?_, by simp only; rw [hl]; omega⟩
            simp only
            rw [hl, ← List.drop_drop, List.append_assoc, List.take_append_drop, e3]
            exact e1
    · rw [if_pos hn] at h
      exact absurd h hn
  · rw [rdText_err hf] at h
    exact absurd h hf
theorem rdNum_enc {most n : Nat} (rest : List UInt8) (h : n ≤ most) (h2 : n < 9223372036854775808) : rdNum most (natBytes n ++ rest) 0 = (n, rest, 0) := by
  unfold rdNum numAt
  rw [groups_nat rest h2]
  simp [show ¬ most < n by omega]
theorem rdText_enc {most : Nat} (t rest : List UInt8) (h : t.length ≤ most) (h2 : t.length ≤ 16777216) : rdText most (natBytes t.length ++ t ++ rest) 0 = (t, rest, 0) := by
  have e : textAt most (natBytes t.length ++ t ++ rest) = (t, (natBytes t.length).length + t.length, 0) := by
    unfold textAt
    rw [List.append_assoc, groups_nat (t ++ rest) (by omega)]
    rw [if_neg (by simp), if_neg (by simp only; omega), if_neg (by simp)]
    simp
  unfold rdText
  rw [e]
  simp
theorem rdClose_ok {rest : List UInt8} {f : Nat} (h : rdClose rest f = 0) : f = 0 ∧ rest = [] := by
  unfold rdClose at h
  split at h
  · cases h
  · rename_i hc
    refine ⟨h, ?_⟩
    by_cases hr : rest = []
    · exact hr
    · exact absurd ⟨h, hr⟩ hc

/-- Decode accepts just the values of pipes without error. -/
theorem pipeDec_some {bs : List UInt8} {e r w : Nat} {t : List UInt8} : pipeDec bs = some (e, r, w, t) ↔ pipeCheck e r w t.length = 0 ∧ bs = pipeBytes e r w t := by
  constructor
  · intro h
    unfold pipeDec at h
    simp only at h
    split at h
    · cases h
    · rename_i hc
      simp only [Option.some.injEq, Prod.mk.injEq] at h
      obtain ⟨h1, h2, h3, h4⟩ := h
      have hcl : rdClose (rdText 256 (rdNum 64 (rdNum 64 (rdNum 1073741824 bs 0).2.1 (rdNum 1073741824 bs 0).2.2).2.1 (rdNum 64 (rdNum 1073741824 bs 0).2.1 (rdNum 1073741824 bs 0).2.2).2.2).2.1 (rdNum 64 (rdNum 64 (rdNum 1073741824 bs 0).2.1 (rdNum 1073741824 bs 0).2.2).2.1 (rdNum 64 (rdNum 1073741824 bs 0).2.1 (rdNum 1073741824 bs 0).2.2).2.2).2.2).2.1 (rdText 256 (rdNum 64 (rdNum 64 (rdNum 1073741824 bs 0).2.1 (rdNum 1073741824 bs 0).2.2).2.1 (rdNum 64 (rdNum 1073741824 bs 0).2.1 (rdNum 1073741824 bs 0).2.2).2.2).2.1 (rdNum 64 (rdNum 64 (rdNum 1073741824 bs 0).2.1 (rdNum 1073741824 bs 0).2.2).2.1 (rdNum 64 (rdNum 1073741824 bs 0).2.1 (rdNum 1073741824 bs 0).2.2).2.2).2.2).2.2 = 0 := by
        by_cases hx : rdClose (rdText 256 (rdNum 64 (rdNum 64 (rdNum 1073741824 bs 0).2.1 (rdNum 1073741824 bs 0).2.2).2.1 (rdNum 64 (rdNum 1073741824 bs 0).2.1 (rdNum 1073741824 bs 0).2.2).2.2).2.1 (rdNum 64 (rdNum 64 (rdNum 1073741824 bs 0).2.1 (rdNum 1073741824 bs 0).2.2).2.1 (rdNum 64 (rdNum 1073741824 bs 0).2.1 (rdNum 1073741824 bs 0).2.2).2.2).2.2).2.1 (rdText 256 (rdNum 64 (rdNum 64 (rdNum 1073741824 bs 0).2.1 (rdNum 1073741824 bs 0).2.2).2.1 (rdNum 64 (rdNum 1073741824 bs 0).2.1 (rdNum 1073741824 bs 0).2.2).2.2).2.1 (rdNum 64 (rdNum 64 (rdNum 1073741824 bs 0).2.1 (rdNum 1073741824 bs 0).2.2).2.1 (rdNum 64 (rdNum 1073741824 bs 0).2.1 (rdNum 1073741824 bs 0).2.2).2.2).2.2).2.2 = 0
        · exact hx
        · exact absurd (.inl hx) hc
      have hck : pipeCheck (rdNum 1073741824 bs 0).1 _ _ _ = 0 := Classical.byContradiction fun hx => hc (.inr hx)
      rw [h1, h2, h3, h4] at hck
      obtain ⟨q1, q2⟩ := rdClose_ok hcl
      obtain ⟨p1, p2, _⟩ := rdText_ok q1
      obtain ⟨o1, o2, _⟩ := rdNum_ok p1
      obtain ⟨n1, n2, _⟩ := rdNum_ok o1
      obtain ⟨m1, m2, _⟩ := rdNum_ok n1
      refine ⟨hck, ?_⟩
      rw [h4, q2] at p2
      rw [h3, p2] at o2
      rw [h2, o2] at n2
      rw [h1, n2] at m2
      rw [m2]
      simp [pipeBytes]
  · rintro ⟨hck, rfl⟩
    obtain ⟨⟨he1, he2⟩, ⟨hr1, hr2⟩, ⟨hw1, hw2⟩, hz, hn⟩ := pipeCheck_range hck
    unfold pipeDec pipeBytes
    simp only [Int.toNat_natCast, List.append_assoc]
    rw [rdNum_enc _ (by omega) (by omega)]
    simp only
    rw [rdNum_enc _ (by omega) (by omega)]
    simp only
    rw [rdNum_enc _ (by omega) (by omega)]
    simp only
    have := rdText_enc (most := 256) t [] hn (by omega)
    rw [List.append_nil] at this
    rw [this]
    simp [rdClose, hck]

/-- the reference's take -/
def refTake (bs : List UInt8) : Int × List UInt8 :=
  if (groupsFrom 0 0 bs).2.2 ≠ 0 then (-1, []) else ((groupsFrom 0 0 bs).1, bs.drop (groupsFrom 0 0 bs).2.1)
/-- what the reference's Decode returns -/
def refDec (bs : List UInt8) : Option (Int × Int × Int × List UInt8) :=
  let a := refTake bs
  let b := refTake a.2
  let c := refTake b.2
  let d := refTake c.2
  if d.1 < 0 ∨ d.1 ≠ d.2.length then none
  else if pipeCheck a.1 b.1 c.1 d.2.length ≠ 0 ∨ pipeEnc a.1 b.1 c.1 d.2 ≠ bs then none else some (a.1, b.1, c.1, d.2)
theorem refTake_enc {n : Nat} (rest : List UInt8) (h : n < 9223372036854775808) : refTake (natBytes n ++ rest) = ((n : Int), rest) := by
  unfold refTake
  rw [groups_nat rest h]
  simp
theorem refDec_some {bs : List UInt8} {e r w : Int} {t : List UInt8} : refDec bs = some (e, r, w, t) ↔ pipeCheck e r w t.length = 0 ∧ bs = pipeBytes e r w t := by
  constructor
  · intro h
    unfold refDec at h
    simp only at h
    split at h
    · cases h
    · split at h
      · cases h
      · rename_i hc
        simp only [Option.some.injEq, Prod.mk.injEq] at h
        obtain ⟨h1, h2, h3, h4⟩ := h
        rw [h1, h2, h3, h4] at hc
        have hk : pipeCheck e r w t.length = 0 := Classical.byContradiction fun q => hc (.inl q)
        have hb : pipeEnc e r w t = bs := Classical.byContradiction fun q => hc (.inr q)
        unfold pipeEnc at hb
        rw [if_pos hk] at hb
        exact ⟨hk, hb.symm⟩
  · rintro ⟨hck, rfl⟩
    obtain ⟨⟨he1, he2⟩, ⟨hr1, hr2⟩, ⟨hw1, hw2⟩, hz, hn⟩ := pipeCheck_range hck
    unfold refDec
    have e0 : pipeBytes e r w t = natBytes e.toNat ++ (natBytes r.toNat ++ (natBytes w.toNat ++ (natBytes t.length ++ t))) := by simp [pipeBytes]
    rw [e0]
    rw [refTake_enc _ (by omega)]
    simp only
    rw [refTake_enc _ (by omega)]
    simp only
    rw [refTake_enc _ (by omega)]
    simp only
    rw [refTake_enc _ (by omega)]
    simp only
    rw [if_neg (by omega)]
    have q1 : (e.toNat : Int) = e := by omega
    have q2 : (r.toNat : Int) = r := by omega
    have q3 : (w.toNat : Int) = w := by omega
    rw [q1, q2, q3]
    have q4 : pipeEnc e r w t = natBytes e.toNat ++ (natBytes r.toNat ++ (natBytes w.toNat ++ (natBytes t.length ++ t))) := by unfold pipeEnc; rw [if_pos hck, e0]
    rw [q4, if_neg (by simp [hck])]
/-- the two decoders agree -/
theorem dec_eq (bs : List UInt8) : refDec bs = (pipeDec bs).map fun p => ((p.1 : Int), (p.2.1 : Int), (p.2.2.1 : Int), p.2.2.2) := by
  cases h : refDec bs with
  | none =>
    cases h2 : pipeDec bs with
    | none => rfl
    | some p =>
      obtain ⟨e, r, w, t⟩ := p
      have := pipeDec_some.1 h2
      rw [refDec_some.2 this] at h
      cases h
  | some p =>
    obtain ⟨e, r, w, t⟩ := p
    obtain ⟨hck, hb⟩ := refDec_some.1 h
    obtain ⟨⟨he1, he2⟩, ⟨hr1, hr2⟩, ⟨hw1, hw2⟩, hz, hn⟩ := pipeCheck_range hck
    obtain ⟨e', rfl⟩ := Int.eq_ofNat_of_zero_le he1
    obtain ⟨r', rfl⟩ := Int.eq_ofNat_of_zero_le hr1
    obtain ⟨w', rfl⟩ := Int.eq_ofNat_of_zero_le hw1
    rw [pipeDec_some.2 ⟨hck, hb⟩]
    rfl
theorem rdText_le (most : Nat) (rest : List UInt8) (f : Nat) : (rdText most rest f).1.length ≤ most := by
  by_cases h : (rdText most rest f).2.2 = 0
  · exact (rdText_ok h).2.2
  · unfold rdText at h ⊢
    split
    · simp
    · split
      · simp
      · rename_i h1 h2
        rw [if_neg h1, if_neg h2] at h
        exact absurd rfl h
end Go.Proofs.YtoefldeoioagmaaGreatDoor

/- Decoding a pipe, in the package and in the reference. -/
namespace Go.Proofs.YtoefldeoioagmaaGreatDoor
open Go.RowKit

set_option maxRecDepth 100000 in
set_option maxHeartbeats 400000 in
theorem take_any (l : List UInt8) (w : World) (hs : l.length ≤ 1000000000) :
    Calls Tryz.prog 45 #[.string (str l)] w fun x w' =>
      x = .returned (.tuple #[.int .i64 (refTake l).1, .string (str (refTake l).2)]) ∧ Below w.heap.size w w' := by
  have hsz := str_size l
  have hgs := groupsFrom_size l 0 0
  obtain ⟨g, hg⟩ : ∃ g, g = groupsFrom 0 0 l := ⟨_, rfl⟩
  have hp : ∀ v w', Sees w' 1 v l.length (l.map bval) → Calls Tryz.prog 73 #[v] w' fun e w'' => e = .returned (.tuple #[.int .i64 g.1, .int .i64 g.2.1, .int .i64 g.2.2]) ∧ w' = w'' := fun v w' h => by rw [hg]; exact refParse_any v l w' h hs
  have Hp := Lib.hid hp; clear hp
  rw [← hg] at hgs
  have Hg := Lib.hid hg; clear hg
  by_cases he : g.2.2 = 0
  · have hfin : refTake l = ((g.1 : Int), l.drop g.2.1) := by unfold refTake; rw [← Hg.out, if_neg (by simp [he])]
    have Hfin := Lib.hid hfin; clear hfin
    have he' : ((g.2.2 : Int) == 0) = true := by simp [he]
    have he'' : ((g.2.2 : Int) != 0) = false := by simp [he]
    have He := Lib.hid he; clear he
    go_enter Tryz.func45, Tryz.ntmps45
    go_wp2_with (with_reducible refine wpList_bytes_of_string (o := ⟨some 9, _, _, _, _, _⟩) _ rfl _ _ 5 _ rfl Tryz.underlying9 Tryz.underlying84 Tryz.underlying5 (str l) rfl ?_)
    intro cap w1 hcap hsee hb1 hsz1
    rw [str_data] at hsee
    go_wp2_with (go_at_call 73; refine (Hp.out _ _ hsee).mono ?_; rintro e w2 ⟨rfl, rfl⟩)
    go_quiet (fail)
    go_wp2
    go_ret2
    refine ⟨?_, hb1.trans (below_drewN _ _ _)⟩
    rw [Hfin.out]
    have e1 : (str l).extract g.2.1 l.length = str (l.drop g.2.1) := by rw [str_extract, List.take_of_length_le (by rw [List.length_drop]; exact Nat.le_refl _)]
    show Ending.returned (.tuple #[.int .i64 g.1, .string _]) = _
    rw [e1]
  · have hfin : refTake l = ((-1 : Int), []) := by unfold refTake; rw [← Hg.out, if_pos he]
    have Hfin := Lib.hid hfin; clear hfin
    have he' : ((g.2.2 : Int) == 0) = false := by simp; omega
    have he'' : ((g.2.2 : Int) != 0) = true := by simp; omega
    have He := Lib.hid he; clear he
    go_enter Tryz.func45, Tryz.ntmps45
    go_wp2_with (with_reducible refine wpList_bytes_of_string (o := ⟨some 9, _, _, _, _, _⟩) _ rfl _ _ 5 _ rfl Tryz.underlying9 Tryz.underlying84 Tryz.underlying5 (str l) rfl ?_)
    intro cap w1 hcap hsee hb1 hsz1
    rw [str_data] at hsee
    go_wp2_with (go_at_call 73; refine (Hp.out _ _ hsee).mono ?_; rintro e w2 ⟨rfl, rfl⟩)
    go_ret2
    refine ⟨?_, hb1⟩
    rw [Hfin.out]
    rfl

/-- what pipe.Decode returns, as a value -/
def decVal (o : Option (Nat × Nat × Nat × List UInt8)) : Value :=
  match o with
  | some (e, r, wr, t) => .tuple #[.agg #[.int .i64 e, .int .i64 r, .int .i64 wr, .string (str t)], .int .i64 0]
  | none => .tuple #[.agg #[.int .i64 0, .int .i64 0, .int .i64 0, .string (str [])], .int .i64 3]

set_option maxRecDepth 100000 in
set_option maxHeartbeats 1600000 in
theorem pipeDecode_any (l : List UInt8) (w : World) (hs : l.length ≤ 1000000000) :
    Calls Tryz.prog 13 #[.string (str l)] w fun x w' => x = .returned (decVal (pipeDec l)) ∧ Below w.heap.size w w' := by
  obtain ⟨a, ha⟩ : ∃ a, a = rdNum 1073741824 l 0 := ⟨_, rfl⟩
  obtain ⟨b, hb⟩ : ∃ b, b = rdNum 64 a.2.1 a.2.2 := ⟨_, rfl⟩
  obtain ⟨c, hc⟩ : ∃ c, c = rdNum 64 b.2.1 b.2.2 := ⟨_, rfl⟩
  obtain ⟨d, hd⟩ : ∃ d, d = rdText 256 c.2.1 c.2.2 := ⟨_, rfl⟩
  have hdec : pipeDec l = if rdClose d.2.1 d.2.2 ≠ 0 ∨ pipeCheck a.1 b.1 c.1 d.1.length ≠ 0 then none else some (a.1, b.1, c.1, d.1) := by
    unfold pipeDec; simp only [hd, hc, hb, ha]
  have hdl : d.1.length ≤ 9223372036854775807 := by
    rw [hd]
    have h1 := rdText_le 256 c.2.1 c.2.2
    omega
  have Ha := Lib.hid ha; clear ha
  have Hb := Lib.hid hb; clear hb
  have Hc := Lib.hid hc; clear hc
  have Hd := Lib.hid hd; clear hd
  have Hdec := Lib.hid hdec; clear hdec
  have hzb : Blk (w.alloc (.cells #[.int .i64 0, .int .i64 0, .int .i64 0, .string ⟨#[]⟩] 28)) w.heap.size #[.int .i64 0, .int .i64 0, .int .i64 0, .string ⟨#[]⟩] 28 := Blk.new _ _ _
  have Hzb := Lib.hid hzb; clear hzb
  go_enter Tryz.func13, Tryz.ntmps13
  go_wp2_with (with_reducible refine wpList_bytes_of_string (o := ⟨some 7, _, _, _, _, _⟩) _ rfl _ _ 5 _ rfl Tryz.underlying9 Tryz.underlying84 Tryz.underlying5 (str l) rfl ?_)
  intro cap w1 hcap hsee hb1 hsz1
  rw [str_data, str_size] at hsee
  have hbk1 := Hzb.out.below hb1 (by simp)
  have hz1 : w.heap.size < w1.heap.size := hbk1.lt
  have hB1 : Below w.heap.size w w1 := (below_alloc w _).trans (hb1.mono (by simp))
  have HB1 := Lib.hid hB1; clear hB1
  have hsz := str_size l
  go_wp2_with fail
  refine (newReader_any _ l _ hsee hs).mono ?_
  rintro x w2 ⟨rb, rfl, hr2, hb2⟩
  have hbk2 := hbk1.below hb2 hz1
  go_wp2_with fail
  refine (rdNumber_any _ rb l 0 1073741824 _ hr2).mono ?_
  rintro x w3 ⟨rfl, hr3, hb3⟩
  rw [← Ha.out] at hr3 ⊢
  have hbk3 := hbk2.below hb3 hz1
  go_wp2_with fail
  refine (rdNumber_any _ rb _ _ 64 _ hr3).mono ?_
  rintro x w4 ⟨rfl, hr4, hb4⟩
  rw [← Hb.out] at hr4 ⊢
  have hbk4 := hbk3.below hb4 hz1
  go_wp2_with fail
  refine (rdNumber_any _ rb _ _ 64 _ hr4).mono ?_
  rintro x w5 ⟨rfl, hr5, hb5⟩
  rw [← Hc.out] at hr5 ⊢
  have hbk5 := hbk4.below hb5 hz1
  go_wp2_with fail
  refine (rdText_any _ rb _ _ 256 _ hr5 (by omega)).mono ?_
  rintro x w6 ⟨rfl, hr6, hb6⟩
  rw [← Hd.out] at hr6 ⊢
  have hbk6 := hbk5.below hb6 hz1
  go_wp2_with fail
  have hbk6' := hbk6.alloc (.cells #[.int .i64 a.1, .int .i64 b.1, .int .i64 c.1, .string (str d.1)] 28)
  have hbp := Blk.new w6 #[.int .i64 a.1, .int .i64 b.1, .int .i64 c.1, .string (str d.1)] 28
  have hr6' := hr6.kept (below_alloc w6 (.cells #[.int .i64 a.1, .int .i64 b.1, .int .i64 c.1, .string (str d.1)] 28))
  have hle6 := hr6.le
  have hsz6 : w.heap.size < w6.heap.size := hbk6.lt
  have hB6 : Below w.heap.size w w6 := HB1.out.trans (((((hb2.trans hb3).trans hb4).trans hb5).trans hb6).mono (Nat.le_of_lt hz1))
  have HB6 := Lib.hid hB6; clear hB6
  clear hb2 hb3 hb4 hb5 hb6 hbk1 hbk2 hbk3 hbk4 hbk5 hbk6 hr2 hr3 hr4 hr5 hr6
  refine (close_any _ rb _ _ _ hr6').mono ?_
  rintro x w7 ⟨rfl, hb7⟩
  have hbp7 := hbp.below hb7 (by simp)
  have hbk7 := hbk6'.below hb7 (by simp; omega)
  have hsz7 : w6.heap.size < w7.heap.size := hbp7.lt
  have hB7 : Below w.heap.size w w7 := (HB6.out.alloc (by omega) _).trans (hb7.mono (by simp; omega))
  have HB7 := Lib.hid hB7; clear hB7
  obtain ⟨p0, p1, p2, p3, _, _, _, _⟩ := hbp7.four
  by_cases hcl : rdClose d.2.1 d.2.2 = 0
  · have hcl' : ((rdClose d.2.1 d.2.2 : Int) == 0) = true := by simp [hcl]
    have hcl'' : ((rdClose d.2.1 d.2.2 : Int) != 0) = false := by simp [hcl]
    have hck := pipeCheck_any a.1 b.1 c.1 (str d.1) w7 (by rw [str_size]; exact hdl)
    rw [str_size] at hck
    have Hck := Lib.hid hck; clear hck
    by_cases hk0 : pipeCheck a.1 b.1 c.1 d.1.length = 0
    · have hk' : ((pipeCheck a.1 b.1 c.1 d.1.length : Int) == 0) = true := by simp [hk0]
      have hk'' : ((pipeCheck a.1 b.1 c.1 d.1.length : Int) != 0) = false := by simp [hk0]
      have Hfin : Hid (decVal (pipeDec l) = .tuple #[.agg #[.int .i64 a.1, .int .i64 b.1, .int .i64 c.1, .string (str d.1)], .int .i64 0]) := by
        show _ = _; rw [Hdec.out, if_neg (by simp [hcl, hk0])]; rfl
      have Hcl := Lib.hid hcl; clear hcl
      have Hk0 := Lib.hid hk0; clear hk0
      go_wp2_with fail
      refine Hck.out.mono ?_
      rintro x w8 ⟨rfl, hb8⟩
      have hbp8 := hbp7.below hb8 hsz7
      have hbk8 := hbk7.below hb8 (by omega)
      clear p0 p1 p2 p3
      obtain ⟨p0, p1, p2, p3, _, _, _, _⟩ := hbp8.four
      obtain ⟨z0, z1, z2, z3, f0, f1, f2, f3⟩ := hbk8.four
      obtain ⟨q0, q1, q2, q3, _⟩ := hbk8.stores4 (.int .i64 a.1) (.int .i64 b.1) (.int .i64 c.1) (.string (str d.1))
      go_wp2
      refine bodyPost_ret (v := .tuple #[.agg #[.int .i64 a.1, .int .i64 b.1, .int .i64 c.1, .string (str d.1)], .int .i64 0]) (by simp [results, Tryz.results13, go_sem, q0, q1, q2, q3]) rfl ⟨by rw [Hfin.out], ?_⟩
      exact below_stores4 (HB7.out.trans (hb8.mono (by omega))) (Nat.le_refl _) _ _ _ _
    · have hk' : ((pipeCheck a.1 b.1 c.1 d.1.length : Int) == 0) = false := by simp; omega
      have hk'' : ((pipeCheck a.1 b.1 c.1 d.1.length : Int) != 0) = true := by simp; omega
      have Hfin : Hid (decVal (pipeDec l) = .tuple #[.agg #[.int .i64 0, .int .i64 0, .int .i64 0, .string ⟨#[]⟩], .int .i64 3]) := by
        show _ = _; rw [Hdec.out, if_pos (.inr hk0)]; rfl
      have Hcl := Lib.hid hcl; clear hcl
      have Hk0 := Lib.hid hk0; clear hk0
      go_wp2_with fail
      refine Hck.out.mono ?_
      rintro x w8 ⟨rfl, hb8⟩
      have hbk8 := hbk7.below hb8 (by omega)
      obtain ⟨z0, z1, z2, z3, f0, f1, f2, f3⟩ := hbk8.four
      clear p0 p1 p2 p3
      obtain ⟨q0, q1, q2, q3, _⟩ := hbk8.stores4 (.int .i64 0) (.int .i64 0) (.int .i64 0) (.string ⟨#[]⟩)
      go_wp2
      refine bodyPost_ret (v := .tuple #[.agg #[.int .i64 0, .int .i64 0, .int .i64 0, .string ⟨#[]⟩], .int .i64 3]) (by simp [results, Tryz.results13, go_sem, q0, q1, q2, q3]) rfl ⟨by rw [Hfin.out], ?_⟩
      exact below_stores4 (HB7.out.trans (hb8.mono (by omega))) (Nat.le_refl _) _ _ _ _
  · have hcl' : ((rdClose d.2.1 d.2.2 : Int) == 0) = false := by simp; omega
    have hcl'' : ((rdClose d.2.1 d.2.2 : Int) != 0) = true := by simp; omega
    have Hfin : Hid (decVal (pipeDec l) = .tuple #[.agg #[.int .i64 0, .int .i64 0, .int .i64 0, .string ⟨#[]⟩], .int .i64 3]) := by
      show _ = _; rw [Hdec.out, if_pos (.inl hcl)]; rfl
    have Hcl := Lib.hid hcl; clear hcl
    obtain ⟨z0, z1, z2, z3, f0, f1, f2, f3⟩ := hbk7.four
    clear p0 p1 p2 p3
    obtain ⟨q0, q1, q2, q3, _⟩ := hbk7.stores4 (.int .i64 0) (.int .i64 0) (.int .i64 0) (.string ⟨#[]⟩)
    go_wp2
    refine bodyPost_ret (v := .tuple #[.agg #[.int .i64 0, .int .i64 0, .int .i64 0, .string ⟨#[]⟩], .int .i64 3]) (by simp [results, Tryz.results13, go_sem, q0, q1, q2, q3]) rfl ⟨by rw [Hfin.out], ?_⟩
    exact below_stores4 HB7.out (Nat.le_refl _) _ _ _ _
end Go.Proofs.YtoefldeoioagmaaGreatDoor

/- The reference's Decode. -/
namespace Go.Proofs.YtoefldeoioagmaaGreatDoor
open Go.RowKit

/-- what the reference's Decode returns, as a value -/
def refDecVal (o : Option (Int × Int × Int × List UInt8)) : Value :=
  match o with
  | some (e, r, wr, t) => .tuple #[.agg #[.int .i64 e, .int .i64 r, .int .i64 wr, .string (str t)], .int .i64 0]
  | none => .tuple #[.agg #[.int .i64 0, .int .i64 0, .int .i64 0, .string (str [])], .int .i64 3]

theorem refTake_len (bs : List UInt8) : (refTake bs).2.length ≤ bs.length := by
  unfold refTake; split
  · simp
  · simp

set_option maxRecDepth 100000 in
set_option maxHeartbeats 3200000 in
theorem refDecode_any (l : List UInt8) (w : World) (hs : l.length ≤ 1000000000) :
    Calls Tryz.prog 14 #[.string (str l)] w fun x w' => x = .returned (refDecVal (refDec l)) ∧ Below w.heap.size w w' := by
  obtain ⟨a, ha⟩ : ∃ a, a = refTake l := ⟨_, rfl⟩
  obtain ⟨b, hb⟩ : ∃ b, b = refTake a.2 := ⟨_, rfl⟩
  obtain ⟨c, hc⟩ : ∃ c, c = refTake b.2 := ⟨_, rfl⟩
  obtain ⟨d, hd⟩ : ∃ d, d = refTake c.2 := ⟨_, rfl⟩
  have hdec : refDec l = if d.1 < 0 ∨ d.1 ≠ d.2.length then none else if pipeCheck a.1 b.1 c.1 d.2.length ≠ 0 ∨ pipeEnc a.1 b.1 c.1 d.2 ≠ l then none else some (a.1, b.1, c.1, d.2) := by
    unfold refDec; simp only [hd, hc, hb, ha]
  have la : a.2.length ≤ 1000000000 := by rw [ha]; exact Nat.le_trans (refTake_len _) hs
  have lb : b.2.length ≤ 1000000000 := by rw [hb]; exact Nat.le_trans (refTake_len _) la
  have lc : c.2.length ≤ 1000000000 := by rw [hc]; exact Nat.le_trans (refTake_len _) lb
  have ld : d.2.length ≤ 1000000000 := by rw [hd]; exact Nat.le_trans (refTake_len _) lc
  have Ha := Lib.hid ha; clear ha
  have Hb := Lib.hid hb; clear hb
  have Hc := Lib.hid hc; clear hc
  have Hd := Lib.hid hd; clear hd
  have Hdec := Lib.hid hdec; clear hdec
  have hz0 : Blk ((w.alloc (.cells #[.int .i64 0, .int .i64 0, .int .i64 0, .string ⟨#[]⟩] 23)).alloc (.cells #[.int .i64 0, .int .i64 0, .int .i64 0, .string ⟨#[]⟩] 23)) w.heap.size #[.int .i64 0, .int .i64 0, .int .i64 0, .string ⟨#[]⟩] 23 := (Blk.new _ _ _).alloc _
  have hp0 : Blk ((w.alloc (.cells #[.int .i64 0, .int .i64 0, .int .i64 0, .string ⟨#[]⟩] 23)).alloc (.cells #[.int .i64 0, .int .i64 0, .int .i64 0, .string ⟨#[]⟩] 23)) (w.heap.size + 1) #[.int .i64 0, .int .i64 0, .int .i64 0, .string ⟨#[]⟩] 23 := by
    have := Blk.new (w.alloc (.cells #[.int .i64 0, .int .i64 0, .int .i64 0, .string ⟨#[]⟩] 23)) #[.int .i64 0, .int .i64 0, .int .i64 0, .string ⟨#[]⟩] 23
    rwa [World.size_alloc] at this
  have Hz0 := Lib.hid hz0; clear hz0
  have Hp0 := Lib.hid hp0; clear hp0
  have hsz := str_size d.2
  have ta := take_any l ((w.alloc (.cells #[.int .i64 0, .int .i64 0, .int .i64 0, .string ⟨#[]⟩] 23)).alloc (.cells #[.int .i64 0, .int .i64 0, .int .i64 0, .string ⟨#[]⟩] 23)) hs
  rw [← Ha.out] at ta
  have Ta := Lib.hid ta; clear ta
  have tb : ∀ w', Calls Tryz.prog 45 #[.string (str a.2)] w' fun x w'' => x = .returned (.tuple #[.int .i64 b.1, .string (str b.2)]) ∧ Below w'.heap.size w' w'' := fun w' => by rw [Hb.out]; exact take_any a.2 w' la
  have Tb := Lib.hid tb; clear tb
  have tc : ∀ w', Calls Tryz.prog 45 #[.string (str b.2)] w' fun x w'' => x = .returned (.tuple #[.int .i64 c.1, .string (str c.2)]) ∧ Below w'.heap.size w' w'' := fun w' => by rw [Hc.out]; exact take_any b.2 w' lb
  have Tc := Lib.hid tc; clear tc
  have td : ∀ w', Calls Tryz.prog 45 #[.string (str c.2)] w' fun x w'' => x = .returned (.tuple #[.int .i64 d.1, .string (str d.2)]) ∧ Below w'.heap.size w' w'' := fun w' => by rw [Hd.out]; exact take_any c.2 w' lc
  have Td := Lib.hid td; clear td
  go_enter Tryz.func14, Tryz.ntmps14
  go_wp2_with fail
  refine Ta.out.mono ?_
  rintro x w1 ⟨rfl, hb1⟩
  have hz1 := Hz0.out.below hb1 (by simp; omega)
  have hp1 := Hp0.out.below hb1 (by simp)
  have hB1 : Below w.heap.size w w1 := ((below_alloc w _).alloc (by simp) _).trans (hb1.mono (by simp; omega))
  have hs1 := hp1.lt
  obtain ⟨p0, p1, p2, p3, f0, f1, f2, f3⟩ := hp1.four
  have hp1' : Blk (w1.setCell ⟨w.heap.size + 1, 0, none⟩ (.int .i64 a.1)) (w.heap.size + 1) #[.int .i64 a.1, .int .i64 0, .int .i64 0, .string ⟨#[]⟩] 23 := (hp1.set 0 _).congr rfl
  have hz1' := hz1.setOther (a := ⟨w.heap.size + 1, 0, none⟩) (by simp) (.int .i64 a.1)
  have hB1' := hB1.setCell (p := ⟨w.heap.size + 1, 0, none⟩) (by simp) (.int .i64 a.1)
  clear hb1 hz1 hB1 hp1
  go_wp2_with fail
  refine (Tb.out _).mono ?_
  rintro x w2 ⟨rfl, hb2⟩
  have hz2 := hz1'.below hb2 (by simp; omega)
  have hp2 := hp1'.below hb2 (by simpa using hs1)
  have hB2 : Below w.heap.size w w2 := hB1'.trans (hb2.mono (by simp; omega))
  have hs2 := hp2.lt
  clear p0 p1 p2 p3 f0 f1 f2 f3 hp1' hz1' hB1' hb2 hs1
  obtain ⟨p0, p1, p2, p3, f0, f1, f2, f3⟩ := hp2.four
  have hp2' : Blk (w2.setCell ⟨w.heap.size + 1, 1, none⟩ (.int .i64 b.1)) (w.heap.size + 1) #[.int .i64 a.1, .int .i64 b.1, .int .i64 0, .string ⟨#[]⟩] 23 := (hp2.set 1 _).congr rfl
  have hz2' := hz2.setOther (a := ⟨w.heap.size + 1, 1, none⟩) (by simp) (.int .i64 b.1)
  have hB2' := hB2.setCell (p := ⟨w.heap.size + 1, 1, none⟩) (by simp) (.int .i64 b.1)
  clear hz2 hB2 hp2
  go_wp2_with fail
  refine (Tc.out _).mono ?_
  rintro x w3 ⟨rfl, hb3⟩
  have hz3 := hz2'.below hb3 (by simp; omega)
  have hp3 := hp2'.below hb3 (by simpa using hs2)
  have hB3 : Below w.heap.size w w3 := hB2'.trans (hb3.mono (by simp; omega))
  have hs3 := hp3.lt
  clear p0 p1 p2 p3 f0 f1 f2 f3 hp2' hz2' hB2' hb3 hs2
  obtain ⟨p0, p1, p2, p3, f0, f1, f2, f3⟩ := hp3.four
  have hp3' : Blk (w3.setCell ⟨w.heap.size + 1, 2, none⟩ (.int .i64 c.1)) (w.heap.size + 1) #[.int .i64 a.1, .int .i64 b.1, .int .i64 c.1, .string ⟨#[]⟩] 23 := (hp3.set 2 _).congr rfl
  have hz3' := hz3.setOther (a := ⟨w.heap.size + 1, 2, none⟩) (by simp) (.int .i64 c.1)
  have hB3' := hB3.setCell (p := ⟨w.heap.size + 1, 2, none⟩) (by simp) (.int .i64 c.1)
  clear hz3 hB3 hp3
  go_wp2_with fail
  refine (Td.out _).mono ?_
  rintro x w4 ⟨rfl, hb4⟩
  have hz4 := hz3'.below hb4 (by simp; omega)
  have hp4 := hp3'.below hb4 (by simpa using hs3)
  have hB4 : Below w.heap.size w w4 := hB3'.trans (hb4.mono (by simp; omega))
  have hs4 := hp4.lt
  clear p0 p1 p2 p3 f0 f1 f2 f3 hp3' hz3' hB3' hb4 hs3
  obtain ⟨p0, p1, p2, p3, f0, f1, f2, f3⟩ := hp4.four
  obtain ⟨z0, z1, z2, z3, g0, g1, g2, g3⟩ := hz4.four
  have HB4 := Lib.hid hB4; clear hB4
  by_cases hn : d.1 < 0
  · have hn' : decide (d.1 < 0) = true := by simp [hn]
    have Hfin : Hid (refDecVal (refDec l) = .tuple #[.agg #[.int .i64 0, .int .i64 0, .int .i64 0, .string ⟨#[]⟩], .int .i64 3]) := by
      show _ = _; rw [Hdec.out, if_pos (.inl hn)]; rfl
    obtain ⟨q0, q1, q2, q3, _⟩ := hz4.stores4 (.int .i64 0) (.int .i64 0) (.int .i64 0) (.string ⟨#[]⟩)
    go_wp2
    refine bodyPost_ret (v := .tuple #[.agg #[.int .i64 0, .int .i64 0, .int .i64 0, .string ⟨#[]⟩], .int .i64 3]) (by simp [results, Tryz.results14, go_sem, q0, q1, q2, q3]) rfl ⟨by rw [Hfin.out], ?_⟩
    exact below_stores4 HB4.out (Nat.le_refl _) _ _ _ _
  · have hn' : decide (d.1 < 0) = false := by simpa using hn
    have hn2 : 0 ≤ d.1 := by omega
    by_cases he : d.1 = d.2.length
    · have he1 : (d.1 == (d.2.length : Int)) = true := by simp [he]
      have he2 : (d.1 != (d.2.length : Int)) = false := by simp [he]
      have hd4 : refDec l = if pipeCheck a.1 b.1 c.1 d.2.length ≠ 0 ∨ pipeEnc a.1 b.1 c.1 d.2 ≠ l then none else some (a.1, b.1, c.1, d.2) := by
        rw [Hdec.out, if_neg (by omega)]
      have Hd4 := Lib.hid hd4; clear hd4
      have He := Lib.hid he; clear he
      have hp5 : Blk (w4.setCell ⟨w.heap.size + 1, 3, none⟩ (.string (str d.2))) (w.heap.size + 1) #[.int .i64 a.1, .int .i64 b.1, .int .i64 c.1, .string (str d.2)] 23 := (hp4.set 3 _).congr rfl
      have hz5 := hz4.setOther (a := ⟨w.heap.size + 1, 3, none⟩) (by simp) (.string (str d.2))
      have hB5 := HB4.out.setCell (p := ⟨w.heap.size + 1, 3, none⟩) (by simp) (.string (str d.2))
      have HB5 := Lib.hid hB5; clear hB5
      obtain ⟨r0, r1, r2, r3, _, _, _, _⟩ := hp5.four
      go_wp2_with fail
      refine (refEncode_any a.1 b.1 c.1 d.2 _ ld).mono ?_
      rintro x w6 ⟨rfl, hb6⟩
      have hz6 := hz5.below hb6 (by simp; omega)
      have hp6 := hp5.below hb6 (by simpa using hs4)
      have hB6 : Below w.heap.size w w6 := HB5.out.trans (hb6.mono (by simp; omega))
      have HB6 := Lib.hid hB6; clear hB6
      clear p0 p1 p2 p3 f0 f1 f2 f3 z0 z1 z2 z3 g0 g1 g2 g3 r0 r1 r2 r3 hp5 hz5 hb6 hp4 hz4
      obtain ⟨p0, p1, p2, p3, f0, f1, f2, f3⟩ := hp6.four
      obtain ⟨z0, z1, z2, z3, g0, g1, g2, g3⟩ := hz6.four
      by_cases hk : pipeCheck a.1 b.1 c.1 d.2.length = 0
      · have hk1 : ((pipeCheck a.1 b.1 c.1 d.2.length : Int) == 0) = true := by simp [hk]
        have hk2 : ((pipeCheck a.1 b.1 c.1 d.2.length : Int) != 0) = false := by simp [hk]
        by_cases heq : pipeEnc a.1 b.1 c.1 d.2 = l
        · have hq1 : ((str (pipeEnc a.1 b.1 c.1 d.2)).toList == (str l).toList) = true := by simp [heq]
          have Hfin : Hid (refDecVal (refDec l) = .tuple #[.agg #[.int .i64 a.1, .int .i64 b.1, .int .i64 c.1, .string (str d.2)], .int .i64 0]) := by
            show _ = _; rw [Hd4.out, if_neg (by simp [hk, heq])]; rfl
          have Heq := Lib.hid heq; clear heq
          have Hk := Lib.hid hk; clear hk
          obtain ⟨q0, q1, q2, q3, _⟩ := hz6.stores4 (.int .i64 a.1) (.int .i64 b.1) (.int .i64 c.1) (.string (str d.2))
          go_wp2
          refine bodyPost_ret (v := .tuple #[.agg #[.int .i64 a.1, .int .i64 b.1, .int .i64 c.1, .string (str d.2)], .int .i64 0]) (by simp [results, Tryz.results14, go_sem, q0, q1, q2, q3]) rfl ⟨by rw [Hfin.out], ?_⟩
          exact below_stores4 HB6.out (Nat.le_refl _) _ _ _ _
        · have hq1 : ((str (pipeEnc a.1 b.1 c.1 d.2)).toList == (str l).toList) = false := by simp [str_toList, heq]
          have Hfin : Hid (refDecVal (refDec l) = .tuple #[.agg #[.int .i64 0, .int .i64 0, .int .i64 0, .string ⟨#[]⟩], .int .i64 3]) := by
            show _ = _; rw [Hd4.out, if_pos (.inr heq)]; rfl
          have Heq := Lib.hid heq; clear heq
          have Hk := Lib.hid hk; clear hk
          obtain ⟨q0, q1, q2, q3, _⟩ := hz6.stores4 (.int .i64 0) (.int .i64 0) (.int .i64 0) (.string ⟨#[]⟩)
          go_wp2
          refine bodyPost_ret (v := .tuple #[.agg #[.int .i64 0, .int .i64 0, .int .i64 0, .string ⟨#[]⟩], .int .i64 3]) (by simp [results, Tryz.results14, go_sem, q0, q1, q2, q3]) rfl ⟨by rw [Hfin.out], ?_⟩
          exact below_stores4 HB6.out (Nat.le_refl _) _ _ _ _
      · have hk1 : ((pipeCheck a.1 b.1 c.1 d.2.length : Int) == 0) = false := by simp; omega
        have hk2 : ((pipeCheck a.1 b.1 c.1 d.2.length : Int) != 0) = true := by simp; omega
        have Hfin : Hid (refDecVal (refDec l) = .tuple #[.agg #[.int .i64 0, .int .i64 0, .int .i64 0, .string ⟨#[]⟩], .int .i64 3]) := by
          show _ = _; rw [Hd4.out, if_pos (.inl hk)]; rfl
        have Hk := Lib.hid hk; clear hk
        obtain ⟨q0, q1, q2, q3, _⟩ := hz6.stores4 (.int .i64 0) (.int .i64 0) (.int .i64 0) (.string ⟨#[]⟩)
        go_wp2
        refine bodyPost_ret (v := .tuple #[.agg #[.int .i64 0, .int .i64 0, .int .i64 0, .string ⟨#[]⟩], .int .i64 3]) (by simp [results, Tryz.results14, go_sem, q0, q1, q2, q3]) rfl ⟨by rw [Hfin.out], ?_⟩
        exact below_stores4 HB6.out (Nat.le_refl _) _ _ _ _
    · have he1 : (d.1 == (d.2.length : Int)) = false := by simpa using he
      have he2 : (d.1 != (d.2.length : Int)) = true := by simpa using he
      have Hfin : Hid (refDecVal (refDec l) = .tuple #[.agg #[.int .i64 0, .int .i64 0, .int .i64 0, .string ⟨#[]⟩], .int .i64 3]) := by
        show _ = _; rw [Hdec.out, if_pos (.inr he)]; rfl
      have He := Lib.hid he; clear he
      obtain ⟨q0, q1, q2, q3, _⟩ := hz4.stores4 (.int .i64 0) (.int .i64 0) (.int .i64 0) (.string ⟨#[]⟩)
      go_wp2
      refine bodyPost_ret (v := .tuple #[.agg #[.int .i64 0, .int .i64 0, .int .i64 0, .string ⟨#[]⟩], .int .i64 3]) (by simp [results, Tryz.results14, go_sem, q0, q1, q2, q3]) rfl ⟨by rw [Hfin.out], ?_⟩
      exact below_stores4 HB4.out (Nat.le_refl _) _ _ _ _
end Go.Proofs.YtoefldeoioagmaaGreatDoor
