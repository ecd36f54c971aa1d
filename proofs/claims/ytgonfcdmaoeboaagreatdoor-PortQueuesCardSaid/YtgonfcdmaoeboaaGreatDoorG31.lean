/- Contracts of functions on the way to the claim, proved for every input that their hypotheses let by; no condition of the claim. Joined of: Y23. -/
import Derived.Deep.LoopGhost
import Derived.Test.YtgonfcdmaoeboaaGreatDoorG24
import Derived.Test.YtgonfcdmaoeboaaGreatDoorG22
import Derived.Test.YtgonfcdmaoeboaaGreatDoorG21
import Derived.Test.YtgonfcdmaoeboaaGreatDoorG33

/- replevinlaw37.PortQueues. -/
namespace Go.Proofs.YtgonfcdmaoeboaaGreatDoor
open Go.RowKit

/-- a slice of bools that came in -/
def BoolsQ (W : World) (v : Value) (l : List Bool) : Prop := ∃ ao c, v = .slice ao l.length c ∧ l.length ≤ c ∧ ∀ i b, l[i]? = some b → ∃ k off, ao = some ⟨k, off, none⟩ ∧ k < W.heap.size ∧ W.cell? ⟨k, off + i, none⟩ = some (.bool b)
theorem slice_at0 {g off c : Nat} : ∀ w', (Instr.sliceAt 23 (.slice (some ⟨g, off, none⟩) 0 c) (some (.int .i64 0)) none none).run Tryz.prog w' = .ok (.slice (some ⟨g, off, none⟩) 0 c) w' := by
  intro w'
  rw [show (Value.int .i64 0) = .int .i64 ((0 : Nat) : Int) from rfl, run_slice_from _ underP 2 size_elemP _ _ _ _ (Nat.le_refl _)]
  unfold sliced
  simp [Addr.add]
theorem slice_at00 : ∀ w', (Instr.sliceAt 23 (.slice none 0 0) (some (.int .i64 0)) none none).run Tryz.prog w' = .ok (.slice none 0 0) w' := by
  intro w'
  rw [show (Value.int .i64 0) = .int .i64 ((0 : Nat) : Int) from rfl, run_slice_from _ underP 2 size_elemP _ _ _ _ (Nat.le_refl _)]
  unfold sliced
  simp
/-- the queue of the law -/
def QIs (B : Nat) (w : World) (v : Value) (q : List Pk) : Prop := OwnsQ w B 48 2 v q.length (pkCells q)
theorem own_zero {B : Nat} {w : World} {av : Option Addr} {cv : Nat} (h : OwnsQ w B 48 2 (.slice av 0 cv) 0 (pkCells [])) : ∀ w', (Instr.sliceAt 23 (.slice av 0 cv) (some (.int .i64 0)) none none).run Tryz.prog w' = .ok (.slice av 0 cv) w' := by
  rcases h.2 with ⟨e, _⟩ | ⟨g, off, cap, cur, e, _⟩
  · cases e; exact slice_at00
  · cases e; exact slice_at0
theorem own_tail {B : Nat} {w : World} {g off n m cv : Nat} {p : Pk} {q : List Pk} (h : OwnsQ w B 48 2 (.slice (some ⟨g, off, none⟩) n cv) n (pkCells (p :: q))) (hn : n = m + 1) : (cv = 1 → OwnsQ w B 48 2 (.slice (some ⟨g, off, none⟩) m 0) m (pkCells q)) ∧ (cv ≠ 1 → OwnsQ w B 48 2 (.slice (some ⟨g, off + 2, none⟩) m (cv - 1)) m (pkCells q)) := by
  subst hn
  obtain ⟨g', off', e, hc, ht⟩ := OwnsQ.tail (by decide) h (by omega)
  cases e
  refine ⟨fun h1 => ?_, fun h1 => ?_⟩
  · subst h1; exact ht
  · rw [if_neg h1] at ht; exact ht
theorem own_head {B : Nat} {w : World} {av : Option Addr} {n cv : Nat} {p : Pk} {q : List Pk} (h : OwnsQ w B 48 2 (.slice av n cv) n (pkCells (p :: q))) : ∃ g off, av = some ⟨g, off, none⟩ ∧ w.cell? ⟨g, off, none⟩ = some (.string (str p.1)) ∧ w.cell? ⟨g, off + 1, none⟩ = some (.string (str p.2)) := by
  have h1 := h.1
  rw [pkCells_len] at h1
  simp only [List.length_cons] at h1
  rcases h.2 with ⟨_, h0⟩ | ⟨g, off, cap, cur, e, _⟩
  · omega
  · cases e
    obtain ⟨_, ao, c, e, _, h2⟩ := OwnsQ.sees h
    cases e
    rcases h2 with ⟨e, _⟩ | ⟨b, off, e, _, hcell⟩
    · cases e
    · cases e
      exact ⟨g, off, rfl, hcell 0 _ rfl, hcell 1 _ rfl⟩
theorem QIs.of {B : Nat} {w : World} {av : Option Addr} {n cv : Nat} {q : List Pk} (h : OwnsQ w B 48 2 (.slice av n cv) n (pkCells q)) (hn : q.length = n) : QIs B w (.slice av q.length cv) q := by subst hn; exact h

set_option maxRecDepth 100000 in
set_option maxHeartbeats 6400000 in
theorem portQueues_any (v u : Value) (l : List Pk) (r : List Bool) (w : World) (hl : SeesP w v l) (hls : ∀ p ∈ l, p.1.length ≤ 9223372036854775807 ∧ p.2.length ≤ 9223372036854775807) (hr : BoolsQ w u r) :
    Calls Tryz.prog 4 #[v, u] w fun x w' => x = .returned (.bool true) ∧ Below w.heap.size w w' := by
  have Hk := Lib.hid pknown_any
  obtain ⟨ao, c, rfl, hnc, hat⟩ := hl.at
  obtain ⟨bo, d, rfl, hnd, hrs⟩ := hr
  have Hat := Lib.hid hat; clear hat
  have Hrs := Lib.hid hrs; clear hrs
  have Hls := Lib.hid hls; clear hls hl
  go_enter Tryz.func4, Tryz.ntmps4
  go_wp2_with fail
  refine (Hk.out _).mono ?_
  rintro e w1 ⟨rfl, hb1⟩
  go_wp2_with fail
  refine (stateNew_any _).mono ?_
  rintro e w2 ⟨rfl, hs2, hb2⟩
  go_wp2_with fail
  refine (portNew 100 hs2).mono ?_
  rintro e w3 ⟨vb, rfl, hO3, hb3⟩
  have hP3 := (((Past.refl w).call hb1).call hb2).call hb3
  have hle : w.heap.size ≤ w2.heap.size := Nat.le_trans hb1.size hb2.size
  clear hs2 hb1 hb2 hb3 Hk
  go_wp2_with fail
  have H1 := portOpen_any w3 [49, 46, 50] (by decide) 5 3 (.slice none 0 0) (by decide) hO3 (by omega)
  rw [qp_open.1, qp_open.2] at H1
  have HH := Lib.hid H1; clear H1
  refine HH.out.mono ?_
  rintro e w4 ⟨rfl, hO4, hb4, _⟩
  have hP4 := hP3.next (hb4.mono hle)
  have hz4 : w2.heap.size ≤ w4.heap.size := hO4.le
  clear HH hO3 hP3 hb4
  go_wp2
  go_loopg [6, 7, 8] (40 : Nat) (fun g s6 s7 t wr => ∃ (i lost : Nat) (q : List Pk) (av : Option Addr) (cv : Nat), i ≤ l.length ∧ i ≤ 40 ∧ g = 40 - i ∧ lost ≤ i ∧ QOk lost q ∧ s6 = .slice av q.length cv ∧ s7 = .int .i64 lost ∧ t = .int .i64 i ∧ QIs w2.heap.size wr (.slice av q.length cv) q ∧ ObjIs w2.heap.size wr vb (.pointer (some ⟨w1.heap.size, 0, none⟩)) 16 [] 100 0 [] (some (qp lost q).bytes) (2 + 4 * i) ∧ Past w.heap.size w wr)
  case atStart => exact ⟨0, 0, [], none, 0, Nat.zero_le _, Nat.zero_le _, rfl, Nat.le_refl _, ⟨by omega, by simp, by simp⟩, rfl, rfl, rfl, OwnsQ.nil _ _ _ _, hO4, hP4⟩
  case round =>
    obtain ⟨i, lost, q, av, cv, hi, hi40, rfl, hli, hQ, rfl, rfl, rfl, hq, hO, hP⟩ := hrel
    clear hO4 hP4
    have hz : w2.heap.size ≤ wr.heap.size := hO.le
    by_cases hil : i < l.length
    · by_cases h40 : i < 40
      · have q1 : (i : Int) < l.length := by omega
        have q2 : (i : Int) < 40 := by omega
        obtain ⟨p0, hp0⟩ : ∃ p, l[i]? = some p := ⟨_, List.getElem?_eq_getElem hil⟩
        obtain ⟨b0, off0, rfl, hb0, hc0, hc1⟩ := Hat.out i p0 hp0
        have hpl := Hls.out p0 (List.mem_of_getElem? hp0)
        have hc0 := (hP.1.cell (p := ⟨b0, off0 + i * 2, none⟩) hb0).trans hc0
        have hc1 := (hP.1.cell (p := ⟨b0, off0 + i * 2 + 1, none⟩) hb0).trans hc1
        clear hp0 Hat Hls
        go_wp2_with fail
        refine (small_any p0 _ hpl.1 hpl.2).mono ?_
        rintro x w5 ⟨rfl, hb5⟩
        have hsl : (smallP p0).1.length ≤ 9223372036854775807 ∧ (smallP p0).2.length ≤ 9223372036854775807 := by unfold smallP; simp only [List.length_take]; omega
        obtain ⟨p, hpe⟩ : ∃ p, p = smallP p0 := ⟨_, rfl⟩
        rw [← hpe] at hsl ⊢
        clear hpe hpl hc0 hc1
        have hq5 := (OwnsQ.below hq hb5).below (below_alloc w5 (.cells #[.string (str p.1), .string (str p.2)] 48))
        have hO5 := (hO.keep hb5).keep (below_alloc w5 (.cells #[.string (str p.1), .string (str p.2)] 48))
        have hP5 := (hP.call hb5).alloc (.cells #[.string (str p.1), .string (str p.2)] 48)
        have hx5 := Blk.new w5 #[.string (str p.1), .string (str p.2)] 48
        have hz5 : w2.heap.size ≤ w5.heap.size := Nat.le_trans hz hb5.size
        clear hq hO hP hb5
        obtain ⟨x0, x1, _, _⟩ := hx5.two
        go_wp2_with fail
        have H1 := portArrive_any _ 3 p hsl.1 hsl.2 (qp_len hQ) hO5 (by omega)
        have hck := fun w => pkCheckL_any p w hsl.1 hsl.2
        have Hck := Lib.hid hck; clear hck
        rcases qp_arrive hQ p with ⟨hE, g1, g2⟩ | ⟨hE, h16, g1, g2⟩ | ⟨hE, h16, g1, g2⟩
        · rw [g1, g2] at H1
          have HH := Lib.hid H1; clear H1 g1 g2
          refine HH.out.mono ?_
          rintro e w6 ⟨rfl, hO6, hb6, hc6⟩
          have hq6 := OwnsQ.cells hq5 hc6 (by decide)
          have hP6 := hP5.next (hb6.mono hle)
          have hx6 := hc6.blk hx5 (by decide)
          clear HH hO5 hq5 hP5 hb6 hc6 hx5 x0 x1
          obtain ⟨x0, x1, _, _⟩ := hx6.two
          go_wp2_with fail
          refine (Hck.out _).mono ?_
          rintro e w7 ⟨rfl, hb7⟩
          have hO7 := hO6.keep hb7
          have hq7 := OwnsQ.below hq6 hb7
          have hP7 := hP6.call hb7
          have hx7 := hx6.below hb7 hx6.lt
          clear hO6 hq6 hP6 hb7 hx6 x0 x1
          obtain ⟨x0, x1, _, _⟩ := hx7.two
          obtain ⟨E, hEe⟩ : ∃ E, E = pkE p := ⟨_, rfl⟩
          rw [← hEe] at hE Hck ⊢
          have z1 : ((E : Int) != 0) = true := by simp; omega
          have z2 : ((E : Int) != (E : Int)) = false := by simp
          have z1' : ((E : Int) == 0) = false := by simp; omega
          clear hEe hE
          go_wp2_with fail
          refine (Hck.out _).mono ?_
          rintro e w8 ⟨rfl, hb8⟩
          have hO8 := hO7.keep hb8
          have hq8 := OwnsQ.below hq7 hb8
          have hP8 := hP7.call hb8
          have hl8 : lost ≤ i + 1 := by omega
          clear hO7 hq7 hP7 hb8 hx7 x0 x1 Hck
          by_cases hir : i < r.length
          · obtain ⟨b, hb⟩ : ∃ b, r[i]? = some b := ⟨_, List.getElem?_eq_getElem hir⟩
            obtain ⟨kb, ob, rfl, hkb, hcb⟩ := Hrs.out i b hb
            have hcb := (hP8.1.cell (p := ⟨kb, ob + i, none⟩) hkb).trans hcb
            have q4 : (i : Int) < r.length := by omega
            clear hb Hrs
            cases b with
            | true =>
              cases q with
              | nil =>
                have H2 := portReceive_any _ [49, 46, 50] (by decide) 3 (qp_len hQ) hO8 (by omega)
                obtain ⟨g1, g2, g3⟩ := qp_receive_none hQ
                rw [g1, g2, g3] at H2
                have HH := Lib.hid H2; clear H2 g1 g2 g3
                go_wp2_with fail
                refine HH.out.mono ?_
                rintro e w9 ⟨rfl, hO9, hb9, hc9⟩
                have hqa : OwnsQ _ w2.heap.size 48 2 (.slice av 0 cv) 0 (pkCells []) := (OwnsQ.cells hq8 hc9 (by decide)).below (below_alloc w9 (.cells #[.string (str []), .string (str [])] 48))
                have hs := own_zero hqa
                have hO9 := hO9.keep (below_alloc w9 (.cells #[.string (str []), .string (str [])] 48))
                have hP9 := (hP8.next (hb9.mono hle)).alloc (.cells #[.string (str []), .string (str [])] 48)
                have Hqk := Lib.hid hQ
                clear HH hO8 hP8 hq8 hb9 hc9 hQ
                go_wp2
                go_quiet (fail)
                go_wp2
                go_roundg (40 - (i + 1))
                case measure => omega
                case rel => exact ⟨i + 1, lost, [], av, cv, by omega, by omega, rfl, hl8, Hqk.out, rfl, by go_num, by go_num, OwnsQ.below hqa ((Past.refl _).drewN nq).1, (hO9.keep ((Past.refl _).drewN nq).1).more (by omega), hP9.drewN nq⟩
              | cons x rest =>
                go_wp2_with fail
                have H2 := portReceive_any _ [49, 46, 50] (by decide) 3 (qp_len hQ) hO8 (by omega)
                obtain ⟨g1, g2, g3⟩ := qp_receive hQ
                rw [g1, g2, g3] at H2
                have HH := Lib.hid H2; clear H2 g1 g2 g3
                refine HH.out.mono ?_
                rintro e w9 ⟨rfl, hO9, hb9, hc9⟩
                have hqa := (OwnsQ.cells hq8 hc9 (by decide)).below (below_alloc w9 (.cells #[.string (str x.1), .string (str x.2)] 48))
                obtain ⟨gh, oh, rfl, y0, y1⟩ := own_head hqa
                obtain ⟨hqx, hqy⟩ := own_tail (m := rest.length) hqa (by first | omega | simp)
                have Hqx := Lib.hid hqx
                have Hqy := Lib.hid hqy
                clear hqx hqy
                have hO9 := hO9.keep (below_alloc w9 (.cells #[.string (str x.1), .string (str x.2)] 48))
                have hP9 := (hP8.next (hb9.mono hle)).alloc (.cells #[.string (str x.1), .string (str x.2)] 48)
                obtain ⟨x0, x1, _, _⟩ := (Blk.new w9 #[.string (str x.1), .string (str x.2)] 48).two
                have t1 : ((str x.1).toList == (str x.1).toList) = true := by simp
                have t2 : ((str x.2).toList == (str x.2).toList) = true := by simp
                have z5 : (((rest.length : Nat) : Int) + 1 == 0) = false := by simp <;> omega
                have z6 : (0 : Int) < ((rest.length : Nat) : Int) + 1 := by omega
                have z7 : (((rest.length + 1 : Nat) : Int) == 0) = false := by simp <;> omega
                skip
                have Hqk := Lib.hid hQ.tail
                clear HH hO8 hP8 hq8 hqa hb9 hc9 hQ
                go_wp2
                go_quiet (fail)
                go_wp2
                all_goals
                  go_roundg (40 - (i + 1))
                  case measure => omega
                  case rel => first | exact ⟨i + 1, lost, rest, _, _, by omega, by omega, rfl, hl8, Hqk.out, rfl, by go_num, by go_num, (OwnsQ.below (Hqx.out (by assumption)) ((Past.refl _).drewN nq).1), (hO9.keep ((Past.refl _).drewN nq).1).more (by omega), hP9.drewN nq⟩ | exact ⟨i + 1, lost, rest, _, _, by omega, by omega, rfl, hl8, Hqk.out, rfl, by go_num, by go_num, (OwnsQ.below (Hqy.out (by assumption)) ((Past.refl _).drewN nq).1), (hO9.keep ((Past.refl _).drewN nq).1).more (by omega), hP9.drewN nq⟩
            | false =>
              go_wp2
              go_roundg (40 - (i + 1))
              case measure => omega
              case rel => exact ⟨i + 1, lost, q, av, cv, by omega, by omega, rfl, hl8, hQ, rfl, by go_num, by go_num, hq8, hO8.more (by omega), hP8⟩
          · have q4 : decide ((i : Int) < r.length) = false := by simp; omega
            go_wp2
            go_roundg (40 - (i + 1))
            case measure => omega
            case rel => exact ⟨i + 1, lost, q, av, cv, by omega, by omega, rfl, hl8, hQ, rfl, by go_num, by go_num, hq8, hO8.more (by omega), hP8⟩
        · have HL := Lib.hid h16
          have hq5 : OwnsQ (w5.alloc (.cells #[.string (str p.1), .string (str p.2)] 48)) w2.heap.size 48 2 (.slice av 16 cv) 16 (pkCells q) := by have := hq5; rw [h16] at this; exact this
          rw [h16]
          rw [g1, g2] at H1
          have HH := Lib.hid H1; clear H1 g1 g2
          refine HH.out.mono ?_
          rintro e w6 ⟨rfl, hO6, hb6, hc6⟩
          have hq6 := OwnsQ.cells hq5 hc6 (by decide)
          have hP6 := hP5.next (hb6.mono hle)
          have hx6 := hc6.blk hx5 (by decide)
          clear HH hO5 hq5 hP5 hb6 hc6 hx5 x0 x1
          obtain ⟨x0, x1, _, _⟩ := hx6.two
          go_wp2_with fail
          refine (Hck.out _).mono ?_
          rintro e w7 ⟨rfl, hb7⟩
          have hO7 := hO6.keep hb7
          have hq7 := OwnsQ.below hq6 hb7
          have hP7 := hP6.call hb7
          have hx7 := hx6.below hb7 hx6.lt
          clear hO6 hq6 hP6 hb7 hx6 x0 x1
          obtain ⟨x0, x1, _, _⟩ := hx7.two
          rw [hE]
          have hO8 := hO7
          have hq8 := hq7
          have hP8 := hP7
          have hQ : QOk (lost + 1) q := ⟨by omega, hQ.2.1, hQ.2.2⟩
          have hl8 : lost + 1 ≤ i + 1 := by omega
          clear hO7 hq7 hP7 hx7 x0 x1 Hck hE h16 hq5
          by_cases hir : i < r.length
          · obtain ⟨b, hb⟩ : ∃ b, r[i]? = some b := ⟨_, List.getElem?_eq_getElem hir⟩
            obtain ⟨kb, ob, rfl, hkb, hcb⟩ := Hrs.out i b hb
            have hcb := (hP8.1.cell (p := ⟨kb, ob + i, none⟩) hkb).trans hcb
            have q4 : (i : Int) < r.length := by omega
            clear hb Hrs
            cases b with
            | true =>
              obtain ⟨x, rest, rfl⟩ : ∃ x rest, q = x :: rest := by
                cases q with
                | nil => exact absurd HL.out (by simp)
                | cons x rest => exact ⟨x, rest, rfl⟩
              have HK : rest.length = 15 := by have := HL.out; simp at this; omega
              go_wp2_with fail
              have H2 := portReceive_any _ [49, 46, 50] (by decide) 3 (qp_len hQ) hO8 (by omega)
              obtain ⟨g1, g2, g3⟩ := qp_receive hQ
              rw [g1, g2, g3] at H2
              have HH := Lib.hid H2; clear H2 g1 g2 g3
              refine HH.out.mono ?_
              rintro e w9 ⟨rfl, hO9, hb9, hc9⟩
              have hqa := (OwnsQ.cells hq8 hc9 (by decide)).below (below_alloc w9 (.cells #[.string (str x.1), .string (str x.2)] 48))
              obtain ⟨gh, oh, rfl, y0, y1⟩ := own_head hqa
              obtain ⟨hqx, hqy⟩ := own_tail (m := 15) hqa (by first | omega | simp)
              have Hqx := Lib.hid hqx
              have Hqy := Lib.hid hqy
              clear hqx hqy
              have hO9 := hO9.keep (below_alloc w9 (.cells #[.string (str x.1), .string (str x.2)] 48))
              have hP9 := (hP8.next (hb9.mono hle)).alloc (.cells #[.string (str x.1), .string (str x.2)] 48)
              obtain ⟨x0, x1, _, _⟩ := (Blk.new w9 #[.string (str x.1), .string (str x.2)] 48).two
              have t1 : ((str x.1).toList == (str x.1).toList) = true := by simp
              have t2 : ((str x.2).toList == (str x.2).toList) = true := by simp
              have z5 : (((15 : Nat) : Int) + 1 == 0) = false := by simp <;> omega
              have z6 : (0 : Int) < ((15 : Nat) : Int) + 1 := by omega
              have z7 : (((15 + 1 : Nat) : Int) == 0) = false := by simp <;> omega
              have HLr := Lib.hid (show rest.length = 15 by omega)
              have Hqk := Lib.hid hQ.tail
              clear HH hO8 hP8 hq8 hqa hb9 hc9 hQ HL
              go_wp2
              go_quiet (fail)
              go_wp2
              all_goals
                go_roundg (40 - (i + 1))
                case measure => omega
                case rel => first | exact ⟨i + 1, lost + 1, rest, _, _, by omega, by omega, rfl, hl8, Hqk.out, by rw [HLr.out], by go_num, by go_num, QIs.of (OwnsQ.below (Hqx.out (by assumption)) ((Past.refl _).drewN nq).1) HLr.out, (hO9.keep ((Past.refl _).drewN nq).1).more (by omega), hP9.drewN nq⟩ | exact ⟨i + 1, lost + 1, rest, _, _, by omega, by omega, rfl, hl8, Hqk.out, by rw [HLr.out], by go_num, by go_num, QIs.of (OwnsQ.below (Hqy.out (by assumption)) ((Past.refl _).drewN nq).1) HLr.out, (hO9.keep ((Past.refl _).drewN nq).1).more (by omega), hP9.drewN nq⟩
            | false =>
              go_wp2
              go_roundg (40 - (i + 1))
              case measure => omega
              case rel => exact ⟨i + 1, lost + 1, q, av, cv, by omega, by omega, rfl, hl8, hQ, by rw [HL.out], by go_num, by go_num, QIs.of hq8 HL.out, hO8.more (by omega), hP8⟩
          · have q4 : decide ((i : Int) < r.length) = false := by simp; omega
            go_wp2
            go_roundg (40 - (i + 1))
            case measure => omega
            case rel => exact ⟨i + 1, lost + 1, q, av, cv, by omega, by omega, rfl, hl8, hQ, by rw [HL.out], by go_num, by go_num, QIs.of hq8 HL.out, hO8.more (by omega), hP8⟩
        · rw [g1, g2] at H1
          have HH := Lib.hid H1; clear H1 g1 g2
          refine HH.out.mono ?_
          rintro e w6 ⟨rfl, hO6, hb6, hc6⟩
          have hq6 := OwnsQ.cells hq5 hc6 (by decide)
          have hP6 := hP5.next (hb6.mono hle)
          have hx6 := hc6.blk hx5 (by decide)
          clear HH hO5 hq5 hP5 hb6 hc6 hx5 x0 x1
          obtain ⟨x0, x1, _, _⟩ := hx6.two
          go_wp2_with fail
          refine (Hck.out _).mono ?_
          rintro e w7 ⟨rfl, hb7⟩
          have hO7 := hO6.keep hb7
          have hq7 := OwnsQ.below hq6 hb7
          have hP7 := hP6.call hb7
          have hx7 := hx6.below hb7 hx6.lt
          clear hO6 hq6 hP6 hb7 hx6 x0 x1
          obtain ⟨x0, x1, _, _⟩ := hx7.two
          rw [hE]
          have z1 : ((q.length : Int) == 16) = false := by simp; omega
          have hQ := hQ.more hE h16
          have hl8 : lost ≤ i + 1 := by omega
          have hql : q.length ≤ 16 := by omega
          clear Hck hE h16
          have A1 := OwnsQ.below hq7 (below_alloc w7 (.cells #[.string (str p.1), .string (str p.2)] 48))
          have A2 := Blk.new w7 #[.string (str p.1), .string (str p.2)] 48
          have hO7 := hO7.keep (below_alloc w7 (.cells #[.string (str p.1), .string (str p.2)] 48))
          have hP7 := hP7.alloc (.cells #[.string (str p.1), .string (str p.2)] 48)
          have hcells : ∀ (j : Nat) (u : Value), [Value.string (str p.1), Value.string (str p.2)][j]? = some u → (w7.alloc (.cells #[.string (str p.1), .string (str p.2)] 48)).cell? ⟨w7.heap.size, 0 + j, none⟩ = some u := fun j u hu => by
            rw [A2.cell, Nat.zero_add]
            simpa using hu
          have Hcells := Lib.hid hcells; clear hcells
          have hz7 := hO7.le
          have HL := Lib.hid (show (q ++ [p]).length = q.length + 1 by simp)
          by_cases hir : i < r.length
          · obtain ⟨b, hb⟩ : ∃ b, r[i]? = some b := ⟨_, List.getElem?_eq_getElem hir⟩
            obtain ⟨kb, ob, rfl, hkb, hcb⟩ := Hrs.out i b hb
            have q4 : (i : Int) < r.length := by omega
            clear hb Hrs
            cases b with
            | true =>
              obtain ⟨x, rest, hxr⟩ : ∃ x rest, q ++ [p] = x :: rest := by
                cases q with
                | nil => exact ⟨_, _, rfl⟩
                | cons y t => exact ⟨_, _, rfl⟩
              have HK : rest.length = q.length := by have := congrArg List.length hxr; simp at this; omega
              rw [hxr] at hO7 hQ
              have Hxr := Lib.hid hxr; clear hxr
              go_wp2_with (at_builtin; (refine wpList_append_at _ rfl _ _ 23 rfl w2.heap.size 48 (.agg #[.string ⟨#[]⟩, .string ⟨#[]⟩]) 2 32 Tryz.underlying23 Tryz.infoPk rfl (by decide) A1 rfl (m := 1) (news := [.string (str p.1), .string (str p.2)]) rfl Hcells.out rfl ?q0 ?q1 ?q2 ?q3 ?_); (case q0 => (intro u hu; simp at hu; rcases hu with rfl | rfl <;> rfl)); (case q1 => unfold maxLen; omega); (case q2 => omega); (case q3 => exact hz7); intro av8 cv8 w8 hq8 hg8; have hO8 := hO7.only (OwnsQ.only A1 hg8) ((Past.at hz7).grownQ hg8 A1 (Nat.le_refl _)).1 (by decide) (by decide); have hP8 := hP7.grownQ hg8 A1 hle; have hcb := (hP8.1.cell (p := ⟨kb, ob + i, none⟩) hkb).trans hcb)
              have hq8 : OwnsQ w8 w2.heap.size 48 2 (.slice av8 (q.length + 1) cv8) (q.length + 1) (pkCells (q ++ [p])) := by rw [pkCells_append]; exact hq8
              rw [Hxr.out] at hq8
              have H2 := portReceive_any _ [49, 46, 50] (by decide) 3 (qp_len hQ) hO8 (by omega)
              obtain ⟨g1, g2, g3⟩ := qp_receive hQ
              rw [g1, g2, g3] at H2
              have HH := Lib.hid H2; clear H2 g1 g2 g3
              refine HH.out.mono ?_
              rintro e w9 ⟨rfl, hO9, hb9, hc9⟩
              have hqa := (OwnsQ.cells hq8 hc9 (by decide)).below (below_alloc w9 (.cells #[.string (str x.1), .string (str x.2)] 48))
              obtain ⟨gh, oh, rfl, y0, y1⟩ := own_head hqa
              obtain ⟨hqx, hqy⟩ := own_tail (m := q.length) hqa (by first | omega | simp)
              have Hqx := Lib.hid hqx
              have Hqy := Lib.hid hqy
              clear hqx hqy
              have hO9 := hO9.keep (below_alloc w9 (.cells #[.string (str x.1), .string (str x.2)] 48))
              have hP9 := (hP8.next (hb9.mono hle)).alloc (.cells #[.string (str x.1), .string (str x.2)] 48)
              obtain ⟨x0, x1, _, _⟩ := (Blk.new w9 #[.string (str x.1), .string (str x.2)] 48).two
              have t1 : ((str x.1).toList == (str x.1).toList) = true := by simp
              have t2 : ((str x.2).toList == (str x.2).toList) = true := by simp
              have z5 : (((q.length : Nat) : Int) + 1 == 0) = false := by simp <;> omega
              have z6 : (0 : Int) < ((q.length : Nat) : Int) + 1 := by omega
              have z7 : (((q.length + 1 : Nat) : Int) == 0) = false := by simp <;> omega
              have HLr := Lib.hid (show rest.length = q.length by omega)
              have Hqk := Lib.hid hQ.tail
              clear HH hO8 hP8 hq8 hqa hb9 hc9 hQ HL hO7 hP7 A1 A2 hg8
              go_wp2
              go_quiet (fail)
              go_wp2
              all_goals
                go_roundg (40 - (i + 1))
                case measure => omega
                case rel => first | exact ⟨i + 1, lost, rest, _, _, by omega, by omega, rfl, hl8, Hqk.out, by rw [HLr.out], by go_num, by go_num, QIs.of (OwnsQ.below (Hqx.out (by assumption)) ((Past.refl _).drewN nq).1) HLr.out, (hO9.keep ((Past.refl _).drewN nq).1).more (by omega), hP9.drewN nq⟩ | exact ⟨i + 1, lost, rest, _, _, by omega, by omega, rfl, hl8, Hqk.out, by rw [HLr.out], by go_num, by go_num, QIs.of (OwnsQ.below (Hqy.out (by assumption)) ((Past.refl _).drewN nq).1) HLr.out, (hO9.keep ((Past.refl _).drewN nq).1).more (by omega), hP9.drewN nq⟩
            | false =>
              go_wp2_with (at_builtin; (refine wpList_append_at _ rfl _ _ 23 rfl w2.heap.size 48 (.agg #[.string ⟨#[]⟩, .string ⟨#[]⟩]) 2 32 Tryz.underlying23 Tryz.infoPk rfl (by decide) A1 rfl (m := 1) (news := [.string (str p.1), .string (str p.2)]) rfl Hcells.out rfl ?q0 ?q1 ?q2 ?q3 ?_); (case q0 => (intro u hu; simp at hu; rcases hu with rfl | rfl <;> rfl)); (case q1 => unfold maxLen; omega); (case q2 => omega); (case q3 => exact hz7); intro av8 cv8 w8 hq8 hg8; have hO8 := hO7.only (OwnsQ.only A1 hg8) ((Past.at hz7).grownQ hg8 A1 (Nat.le_refl _)).1 (by decide) (by decide); have hP8 := hP7.grownQ hg8 A1 hle; have hcb := (hP8.1.cell (p := ⟨kb, ob + i, none⟩) hkb).trans hcb)
              have hq8 : OwnsQ w8 w2.heap.size 48 2 (.slice av8 (q.length + 1) cv8) (q.length + 1) (pkCells (q ++ [p])) := by rw [pkCells_append]; exact hq8
              go_roundg (40 - (i + 1))
              case measure => omega
              case rel => exact ⟨i + 1, lost, q ++ [p], av8, cv8, by omega, by omega, rfl, hl8, hQ, by rw [HL.out], by go_num, by go_num, QIs.of hq8 HL.out, hO8.more (by omega), hP8⟩
          · have q4 : decide ((i : Int) < r.length) = false := by simp; omega
            go_wp2_with (at_builtin; (refine wpList_append_at _ rfl _ _ 23 rfl w2.heap.size 48 (.agg #[.string ⟨#[]⟩, .string ⟨#[]⟩]) 2 32 Tryz.underlying23 Tryz.infoPk rfl (by decide) A1 rfl (m := 1) (news := [.string (str p.1), .string (str p.2)]) rfl Hcells.out rfl ?q0 ?q1 ?q2 ?q3 ?_); (case q0 => (intro u hu; simp at hu; rcases hu with rfl | rfl <;> rfl)); (case q1 => unfold maxLen; omega); (case q2 => omega); (case q3 => exact hz7); intro av8 cv8 w8 hq8 hg8; have hO8 := hO7.only (OwnsQ.only A1 hg8) ((Past.at hz7).grownQ hg8 A1 (Nat.le_refl _)).1 (by decide) (by decide); have hP8 := hP7.grownQ hg8 A1 hle)
            have hq8 : OwnsQ w8 w2.heap.size 48 2 (.slice av8 (q.length + 1) cv8) (q.length + 1) (pkCells (q ++ [p])) := by rw [pkCells_append]; exact hq8
            go_roundg (40 - (i + 1))
            case measure => omega
            case rel => exact ⟨i + 1, lost, q ++ [p], av8, cv8, by omega, by omega, rfl, hl8, hQ, by rw [HL.out], by go_num, by go_num, QIs.of hq8 HL.out, hO8.more (by omega), hP8⟩
      · have q1 : (i : Int) < l.length := by omega
        have q2 : decide ((i : Int) < 40) = false := by simp; omega
        clear Hat Hls Hrs
        go_wp2_with fail
        have H := portGet_any _ 3 (qp_len hQ) hO (by omega)
        rw [qp_get hQ] at H
        unfold portV qp at H
        have HH := Lib.hid H; clear H
        refine HH.out.mono ?_
        rintro e w5 ⟨qv, rfl, ho5, hO5, hb5, hc5⟩
        obtain ⟨a5, c5, rfl⟩ := OwnsP.slice ho5
        have hs5 := (OwnsP.sees ho5).below (below_alloc w5 (.cells #[.string (str [49, 46, 50]), .int .i64 3, .int .i64 lost, .slice a5 q.length c5] 25))
        have hu5 := (OwnsQ.sees (OwnsQ.cells hq hc5 (by decide))).below (below_alloc w5 (.cells #[.string (str [49, 46, 50]), .int .i64 3, .int .i64 lost, .slice a5 q.length c5] 25))
        have hP5 := (hP.next (hb5.mono hle)).alloc (.cells #[.string (str [49, 46, 50]), .int .i64 3, .int .i64 lost, .slice a5 q.length c5] 25)
        obtain ⟨x0, x1, x2, x3, _, _, _, _⟩ := (Blk.new w5 #[.string (str [49, 46, 50]), .int .i64 3, .int .i64 lost, .slice a5 q.length c5] 25).quad
        have hq16 : q.length ≤ 1000000 := by have := hQ.2.1; omega
        clear HH ho5 hO5 hb5 hc5 hO hP hq hQ
        go_wp2_with fail
        refine (portEqual_any [49, 46, 50] 3 lost _ q [49, 46, 50] 3 lost _ q _ hs5 hu5 hq16).mono ?_
        rw [samePB_refl]
        rintro x wA ⟨rfl, hbA⟩
        have hPA := hP5.call hbA
        clear hs5 hu5 hP5 hbA x0 x1 x2 x3
        go_wp2
        go_ret
        exact ⟨rfl, hPA.1⟩
    · have q1 : decide ((i : Int) < l.length) = false := by simp; omega
      clear Hat Hls Hrs
      go_wp2_with fail
      have H := portGet_any _ 3 (qp_len hQ) hO (by omega)
      rw [qp_get hQ] at H
      unfold portV qp at H
      have HH := Lib.hid H; clear H
      refine HH.out.mono ?_
      rintro e w5 ⟨qv, rfl, ho5, hO5, hb5, hc5⟩
      obtain ⟨a5, c5, rfl⟩ := OwnsP.slice ho5
      have hs5 := (OwnsP.sees ho5).below (below_alloc w5 (.cells #[.string (str [49, 46, 50]), .int .i64 3, .int .i64 lost, .slice a5 q.length c5] 25))
      have hu5 := (OwnsQ.sees (OwnsQ.cells hq hc5 (by decide))).below (below_alloc w5 (.cells #[.string (str [49, 46, 50]), .int .i64 3, .int .i64 lost, .slice a5 q.length c5] 25))
      have hP5 := (hP.next (hb5.mono hle)).alloc (.cells #[.string (str [49, 46, 50]), .int .i64 3, .int .i64 lost, .slice a5 q.length c5] 25)
      obtain ⟨x0, x1, x2, x3, _, _, _, _⟩ := (Blk.new w5 #[.string (str [49, 46, 50]), .int .i64 3, .int .i64 lost, .slice a5 q.length c5] 25).quad
      have hq16 : q.length ≤ 1000000 := by have := hQ.2.1; omega
      clear HH ho5 hO5 hb5 hc5 hO hP hq hQ
      go_wp2_with fail
      refine (portEqual_any [49, 46, 50] 3 lost _ q [49, 46, 50] 3 lost _ q _ hs5 hu5 hq16).mono ?_
      rw [samePB_refl]
      rintro x wA ⟨rfl, hbA⟩
      have hPA := hP5.call hbA
      clear hs5 hu5 hP5 hbA x0 x1 x2 x3
      go_wp2
      go_ret
      exact ⟨rfl, hPA.1⟩
end Go.Proofs.YtgonfcdmaoeboaaGreatDoor
