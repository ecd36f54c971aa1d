/- Contracts of functions on the way to the claim, proved for every input that their hypotheses let by; no condition of the claim. Joined of: S15 S16. -/
import Derived.Deep.RegionHeld3
import Derived.BigQuiet
import Derived.Deep.QuietTactic
import Derived.Test.YtoefldeoioagmaaGreatDoorG6
import Derived.Test.YtoefldeoioagmaaGreatDoorG1

/- replevinlaw32.PipeValues. -/
namespace Go.Proofs.YtoefldeoioagmaaGreatDoor
open Go.RowKit

theorem dec_shape (s : List UInt8) : ∃ (E R W : Int) (T : ByteArray) (G : Int), decVal (pipeDec s) = .tuple #[.agg #[.int .i64 E, .int .i64 R, .int .i64 W, .string T], .int .i64 G] ∧ refDecVal (refDec s) = .tuple #[.agg #[.int .i64 E, .int .i64 R, .int .i64 W, .string T], .int .i64 G] := by
  rw [dec_eq]
  cases pipeDec s with
  | none => exact ⟨_, _, _, _, _, rfl, rfl⟩
  | some q => obtain ⟨e, r, wr, b⟩ := q; exact ⟨_, _, _, _, _, rfl, rfl⟩

set_option maxRecDepth 100000 in
set_option maxHeartbeats 3200000 in
theorem pipeValues_long (e r wr : Int) (l s : List UInt8) (w : World) (hl : l.length ≤ 9223372036854775807) (hs : s.length ≤ 9223372036854775807) (hls : 400 < l.length ∨ 400 < s.length) :
    Calls Tryz.prog 3 #[.agg #[.int .i64 e, .int .i64 r, .int .i64 wr, .string (str l)], .string (str s)] w fun x w' => x = .returned (.bool true) ∧ Below w.heap.size w w' := by
  have hbx := Blk.new w #[.int .i64 e, .int .i64 r, .int .i64 wr, .string (str l)] 23
  obtain ⟨b0, b1, b2, b3, _, _, _, _⟩ := hbx.quad
  have hl0 := hbx.lt
  have hlz := str_size l
  have hsz := str_size s
  have Hkn := Lib.hid known_any
  by_cases h1 : 400 < l.length
  · go_enter Tryz.func3, Tryz.ntmps3
    go_wp2_with (first
      | (go_at_call 9; refine (Hkn.out _).mono ?_; rintro x w2 ⟨rfl, hb2⟩; have hx2 := hbx.below hb2 hl0; have hl2 := hx2.lt; obtain ⟨c0, c1, c2, c3, _, _, _, _⟩ := hx2.quad; have hB2 := (below_alloc w _).trans (hb2.mono (by simp)); clear hb2 hx2)
      | (go_at_call 9; refine (Hkn.out _).mono ?_; rintro x w3 ⟨rfl, hb3⟩))
    go_ret
    exact ⟨rfl, hB2.trans (hb3.mono (Nat.le_of_lt hl2))⟩
  · by_cases h2 : 400 < s.length
    · have h1' : decide (400 < (l.length : Int)) = false := by simp; omega
      go_enter Tryz.func3, Tryz.ntmps3
      go_wp2_with (first
      | (go_at_call 9; refine (Hkn.out _).mono ?_; rintro x w2 ⟨rfl, hb2⟩; have hx2 := hbx.below hb2 hl0; have hl2 := hx2.lt; obtain ⟨c0, c1, c2, c3, _, _, _, _⟩ := hx2.quad; have hB2 := (below_alloc w _).trans (hb2.mono (by simp)); clear hb2 hx2)
      | (go_at_call 9; refine (Hkn.out _).mono ?_; rintro x w3 ⟨rfl, hb3⟩))
      go_ret
      exact ⟨rfl, hB2.trans (hb3.mono (Nat.le_of_lt hl2))⟩
    · exact absurd h2 (by omega)
end Go.Proofs.YtoefldeoioagmaaGreatDoor

/- replevinlaw32.PipeValues, at short texts. -/
namespace Go.Proofs.YtoefldeoioagmaaGreatDoor
open Go.RowKit

theorem dec_enc {e r wr : Int} {l : List UInt8} (h : pipeCheck e r wr l.length = 0) : decVal (pipeDec (pipeEnc e r wr l)) = .tuple #[.agg #[.int .i64 e, .int .i64 r, .int .i64 wr, .string (str l)], .int .i64 0] := by
  obtain ⟨h1, h2, h3, _, _⟩ := pipeCheck_range h
  obtain ⟨a, rfl⟩ := Int.eq_ofNat_of_zero_le h1.1
  obtain ⟨b, rfl⟩ := Int.eq_ofNat_of_zero_le h2.1
  obtain ⟨c, rfl⟩ := Int.eq_ofNat_of_zero_le h3.1
  unfold pipeEnc
  rw [if_pos h, pipeDec_some.2 ⟨h, rfl⟩]
  rfl
theorem pipeEnc_le {e r wr : Int} {l : List UInt8} : (pipeEnc e r wr l).length ≤ 1000000000 := by
  unfold pipeEnc
  split
  · exact Nat.le_trans (pipeBytes_le (by assumption)) (by decide)
  · simp
theorem cell_lt {w : World} {b j : Nat} {v : Value} (h : w.cell? ⟨b, j, none⟩ = some v) : b < w.heap.size := by
  unfold World.cell? at h
  split at h
  · rename_i hh; exact (Array.getElem?_eq_some_iff.1 hh).1
  · cases h

set_option maxRecDepth 100000 in
set_option maxHeartbeats 3200000 in
theorem pipeValues_short (e r wr : Int) (l s : List UInt8) (w : World) (h1 : ¬ 400 < l.length) (h2 : ¬ 400 < s.length) :
    Calls Tryz.prog 3 #[.agg #[.int .i64 e, .int .i64 r, .int .i64 wr, .string (str l)], .string (str s)] w fun x w' => x = .returned (.bool true) ∧ Below w.heap.size w w' := by
  have hbx := Blk.new w #[.int .i64 e, .int .i64 r, .int .i64 wr, .string (str l)] 23
  obtain ⟨b0, b1, b2, b3, _, _, _, _⟩ := hbx.quad
  have hl0 := hbx.lt
  have hlz := str_size l
  have hsz := str_size s
  have Hkn := Lib.hid known_any
  have h1' : decide (400 < (l.length : Int)) = false := by simp; omega
  have h2' : decide (400 < (s.length : Int)) = false := by simp; omega
  have hE := fun w => pipeEncode_any e r wr l w (by omega)
  have HE := Lib.hid hE; clear hE
  have hRE := fun w => refEncode_any e r wr l w (by omega)
  have HRE := Lib.hid hRE; clear hRE
  obtain ⟨E, R, Wr, T, G, hs1, hs2⟩ := dec_shape s
  have hD := fun w => pipeDecode_any s w (by omega)
  rw [hs1] at hD
  have HD := Lib.hid hD; clear hD
  have hRD := fun w => refDecode_any s w (by omega)
  rw [hs2] at hRD
  clear hs1 hs2
  have HRD := Lib.hid hRD; clear hRD
  have hT := fun w => to_any e r wr (str l) w
  have HT := Lib.hid hT; clear hT
  go_enter Tryz.func3, Tryz.ntmps3
  go_wp2_with (first
    | (go_at_call 9; refine (Hkn.out _).mono ?_; rintro x w2 ⟨rfl, hb2⟩; have hx2 := hbx.below hb2 hl0; have hl2 := hx2.lt; obtain ⟨c0, c1, c2, c3, _, _, _, _⟩ := hx2.quad; have hB2 := (below_alloc w _).trans (hb2.mono (by simp)); clear hb2)
    | (go_at_call 11; refine (HT.out _).mono ?_; rintro x w3 ⟨rfl, hb3⟩; have hx3 := hx2.below hb3 hl2)
    | (go_at_call 10; refine (HE.out _).mono ?_; rintro x w4 ⟨rfl, hb4⟩; have hx4 := hx3.below hb4 hx3.lt; obtain ⟨d0, d1, d2, d3, _, _, _, _⟩ := hx4.quad)
    | (go_at_call 12; refine (HRE.out _).mono ?_; rintro x w5 ⟨rfl, hb5⟩; have hx5 := hx4.below hb5 hx4.lt)
    | (go_at_call 13; refine (HD.out _).mono ?_; rintro x w6 ⟨rfl, hb6⟩; have hx6 := hx5.below hb6 hx5.lt; have hp6 := Blk.new w6 #[.int .i64 E, .int .i64 R, .int .i64 Wr, .string T] 28)
    | (go_at_call 14; refine (HRD.out _).mono ?_; rintro x w7 ⟨rfl, hb7⟩; have hx7 := (hx6.alloc _).below hb7 (hx6.alloc _).lt; have hp7 := hp6.below hb7 hp6.lt))
  have hx8 := hx7.alloc (.cells #[.int .i64 E, .int .i64 R, .int .i64 Wr, .string T] 23)
  have hp8 := hp7.alloc (.cells #[.int .i64 E, .int .i64 R, .int .i64 Wr, .string T] 23)
  have hq8 := Blk.new w7 #[.int .i64 E, .int .i64 R, .int .i64 Wr, .string T] 23
  have hT2 := fun w => to_any E R Wr T w
  have HT2 := Lib.hid hT2; clear hT2
  have hC := fun w => pipeCheck_any e r wr (str l) w (by rw [hlz]; omega)
  have hRC := fun w => refCheck_any e r wr (str l) w (by rw [hlz]; omega)
  obtain ⟨C, hCC⟩ : ∃ C : Int, C = (pipeCheck e r wr (str l).size : Nat) := ⟨_, rfl⟩
  rw [← hCC] at hC hRC
  clear hCC
  have HC := Lib.hid hC; clear hC
  have HRC := Lib.hid hRC; clear hRC
  obtain ⟨x0, x1, x2, x3, _, _, _, _⟩ := hx8.quad
  obtain ⟨p0, p1, p2, p3, _, _, _, _⟩ := hp8.quad
  obtain ⟨q0, q1, q2, q3, _, _, _, _⟩ := hq8.quad
  obtain ⟨W8, hW8⟩ : ∃ W, W = w7.alloc (.cells #[.int .i64 E, .int .i64 R, .int .i64 Wr, .string T] 23) := ⟨_, rfl⟩
  rw [← hW8] at x0 x1 x2 x3 p0 p1 p2 p3 q0 q1 q2 q3 hx8 hp8 hq8
  rw [← hW8]
  have hP8 : Past w.heap.size w W8 := by rw [hW8]; exact ((((((((Past.at (Nat.le_refl _)).next hB2).call hb3).call hb4).call hb5).call hb6).alloc _).call hb7).alloc _
  clear hW8
  clear c0 c1 c2 c3 d0 d1 d2 d3
  go_region_held3 (fun w' => w'.cell? ⟨w.heap.size, 0, none⟩ = some (.int .i64 e) ∧ w'.cell? ⟨w.heap.size, 1, none⟩ = some (.int .i64 r) ∧ w'.cell? ⟨w.heap.size, 2, none⟩ = some (.int .i64 wr) ∧ w'.cell? ⟨w.heap.size, 3, none⟩ = some (.string (str l)) ∧ w'.cell? ⟨w6.heap.size, 0, none⟩ = some (.int .i64 E) ∧ w'.cell? ⟨w6.heap.size, 1, none⟩ = some (.int .i64 R) ∧ w'.cell? ⟨w6.heap.size, 2, none⟩ = some (.int .i64 Wr) ∧ w'.cell? ⟨w6.heap.size, 3, none⟩ = some (.string T) ∧ w'.cell? ⟨w7.heap.size, 0, none⟩ = some (.int .i64 E) ∧ w'.cell? ⟨w7.heap.size, 1, none⟩ = some (.int .i64 R) ∧ w'.cell? ⟨w7.heap.size, 2, none⟩ = some (.int .i64 Wr) ∧ w'.cell? ⟨w7.heap.size, 3, none⟩ = some (.string T))
    (first | exact keep12 (by assumption) (by assumption) | exact keep12 (by assumption) ⟨x0, x1, x2, x3, p0, p1, p2, p3, q0, q1, q2, q3⟩ | go_keep)
    (first
      | (go_at_call 11; refine (to_any _ _ _ _ _).mono ?_; rintro x w9 ⟨rfl, hb9⟩)
      | (go_at_call 15; refine (HC.out _).mono ?_; rintro x w9 ⟨rfl, hb9⟩)
      | (go_at_call 16; refine (HRC.out _).mono ?_; rintro x w9 ⟨rfl, hb9⟩))
  rename_i wA hA wB hB wC hC hH
  obtain ⟨z0, z1, z2, z3, -⟩ := hH
  have hP9 : Past w.heap.size w w9 := ((((hP8.drew).call hA).call hB).call hC).call hb9
  clear x0 x1 x2 x3 p0 p1 p2 p3 q0 q1 q2 q3 hx8 hp8 hq8 hA hB hC hb9 hx7 hp7 hx6 hp6 hx5 hx4 hx3 hx2 hb3 hb4 hb5 hb6 hb7 hB2 hP8
  have hlt9 : w.heap.size < w9.heap.size := cell_lt z0
  have hel : (pipeEnc e r wr l).length ≤ 1000000000 := pipeEnc_le
  by_cases hc : pipeCheck e r wr l.length = 0
  · have hD2 := fun w => pipeDecode_any (pipeEnc e r wr l) w hel
    rw [dec_enc hc] at hD2
    have HD2 := Lib.hid hD2; clear hD2
    have hnn : ((pipeCheck e r wr l.length : Nat) : Int) = 0 := by rw [hc]; rfl
    rw [hnn]
    clear hnn
    have Hc := Lib.hid hc; clear hc
    go_wp2_with (go_at_call 13; refine (HD2.out _).mono ?_; rintro x wD ⟨rfl, hbD⟩; have hx9 := keep4 hbD ⟨z0, z1, z2, z3⟩)
    obtain ⟨y0, y1, y2, y3⟩ := hx9
    have hbk := Blk.new wD #[.int .i64 e, .int .i64 r, .int .i64 wr, .string (str l)] 28
    have hPD : Past w.heap.size w (wD.alloc (.cells #[.int .i64 e, .int .i64 r, .int .i64 wr, .string (str l)] 28)) := (hP9.call hbD).alloc _
    obtain ⟨q0, q1, q2, q3, _, _, _, _⟩ := hbk.quad
    obtain ⟨v0, v1, v2, v3⟩ := keep4 (below_alloc wD (.cells #[.int .i64 e, .int .i64 r, .int .i64 wr, .string (str l)] 28)) ⟨y0, y1, y2, y3⟩
    obtain ⟨WA, hWA⟩ : ∃ W, W = wD.alloc (.cells #[.int .i64 e, .int .i64 r, .int .i64 wr, .string (str l)] 28) := ⟨_, rfl⟩
    rw [← hWA] at q0 q1 q2 q3 v0 v1 v2 v3 hPD
    rw [← hWA]
    clear hWA z0 z1 z2 z3 y0 y1 y2 y3 hbk hbD
    go_region_held3 (fun w' => w'.cell? ⟨w.heap.size, 0, none⟩ = some (.int .i64 e) ∧ w'.cell? ⟨w.heap.size, 1, none⟩ = some (.int .i64 r) ∧ w'.cell? ⟨w.heap.size, 2, none⟩ = some (.int .i64 wr) ∧ w'.cell? ⟨w.heap.size, 3, none⟩ = some (.string (str l)) ∧ w'.cell? ⟨wD.heap.size, 0, none⟩ = some (.int .i64 e) ∧ w'.cell? ⟨wD.heap.size, 1, none⟩ = some (.int .i64 r) ∧ w'.cell? ⟨wD.heap.size, 2, none⟩ = some (.int .i64 wr) ∧ w'.cell? ⟨wD.heap.size, 3, none⟩ = some (.string (str l)))
        (first | exact keep8 (by assumption) (by assumption) | exact keep8 (by assumption) ⟨v0, v1, v2, v3, q0, q1, q2, q3⟩ | go_keep)
        (first
          | (go_at_call 11; refine (to_any _ _ _ _ _).mono ?_; rintro x wE ⟨rfl, hbE⟩))
    all_goals go_wp2
    go_ret
    exact ⟨rfl, ((hPD.drew).call hbE).1⟩
  · have hnn : (((pipeCheck e r wr l.length : Nat) : Int) == 0) = false := by simp; omega
    have hnn2 : (((pipeCheck e r wr l.length : Nat) : Int) != 0) = true := by simp; omega
    obtain ⟨E2, R2, Wr2, T2, G2, hs3, -⟩ := dec_shape (pipeEnc e r wr l)
    have hD2 := fun w => pipeDecode_any (pipeEnc e r wr l) w hel
    rw [hs3] at hD2
    clear hs3
    have HD2 := Lib.hid hD2; clear hD2
    go_wp2_with (go_at_call 13; refine (HD2.out _).mono ?_; rintro x wD ⟨rfl, hbD⟩)
    go_quiet (fail)
    all_goals go_wp2
    go_ret
    exact ⟨rfl, (((hP9.call hbD).alloc _).drewN _).1⟩

theorem pipeValues_any (e r wr : Int) (l s : List UInt8) (w : World) (hl : l.length ≤ 9223372036854775807) (hs : s.length ≤ 9223372036854775807) :
    Calls Tryz.prog 3 #[.agg #[.int .i64 e, .int .i64 r, .int .i64 wr, .string (str l)], .string (str s)] w fun x w' => x = .returned (.bool true) ∧ Below w.heap.size w w' := by
  by_cases h1 : 400 < l.length
  · exact pipeValues_long e r wr l s w hl hs (.inl h1)
  · by_cases h2 : 400 < s.length
    · exact pipeValues_long e r wr l s w hl hs (.inr h2)
    · exact pipeValues_short e r wr l s w h1 h2
end Go.Proofs.YtoefldeoioagmaaGreatDoor
