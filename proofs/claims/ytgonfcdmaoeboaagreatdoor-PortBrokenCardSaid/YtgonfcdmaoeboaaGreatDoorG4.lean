/- Contracts of functions on the way to the claim, proved for every input that their hypotheses let by; no condition of the claim. Joined of: C1 D1 D2 E1 D3 E2. -/
import Derived.RangeFuncNested
import Derived.RangeFuncBound
import Derived.RangeFuncCalls
import Derived.RangeFuncLeaves
import Derived.Shelf.Abstract
import Derived.Shelf.RegionOpen
import Derived.WalkKit
import Derived.OwnWalkIn
import Derived.TacticsInMore
import Derived.LoopNIn
import Derived.LoopIn
import Derived.Maps.AppendAt
import Derived.RangeFuncBox
import Derived.Deep.WholeRow
import Derived.Deep.RegionHeld3
import Derived.Test.YtgonfcdmaoeboaaGreatDoorG2
import Derived.Test.YtgonfcdmaoeboaaGreatDoorG1

/- strconv.Atoi at one to six digits. -/
namespace Go.Proofs.YtgonfcdmaoeboaaGreatDoor
open Go.RowKit

set_option maxRecDepth 100000 in
set_option maxHeartbeats 1600000 in
theorem atoi1_any (l : List UInt8) (w : World) (h1 : 1 ≤ l.length) (h6 : l.length ≤ 6) (hd : ∀ c ∈ l, isDigit c = true) :
    Calls Tryz.prog 163 #[.string (str l)] w fun x w' => x = .returned (.tuple #[.int .i64 (decOf l), .nilIface]) ∧ Below w.heap.size w w' := by
  have hsz := str_size l
  have hp : 0 < (str l).size := by rw [str_size]; omega
  have hd0 : 48 ≤ ((str l)[0]'hp).toNat ∧ ((str l)[0]'hp).toNat ≤ 57 := by
    rw [str_get l 0 hp]
    exact isDigit_iff.1 (hd _ (List.getElem_mem _))
  have q1 : ((((str l)[0]'hp).toNat : Int) == 45) = false := by simp; omega
  have q2 : ((((str l)[0]'hp).toNat : Int) == 43) = false := by simp; omega
  have Hd0 := Lib.hid hd0; clear hd0
  have Hd := Lib.hid hd; clear hd
  go_enter Tryz.func163, Tryz.ntmps163
  go_wp2_with (with_reducible refine wpList_bytes_of_string (o := ⟨some 47, _, _, _, _, _⟩) _ rfl _ _ 5 _ rfl Tryz.underlying9 Tryz.underlying112 Tryz.underlying5 (str l) rfl ?_)
  intro cap w1 hcap hsee hb1 hsz1
  rw [str_data] at hsee
  obtain ⟨_, ao, c0, e0, hc0, hh⟩ := hsee
  have hcell : ∀ j (hj : j < l.length), w1.cell? ⟨w.heap.size, j, none⟩ = some (.int .u8 (l[j].toNat : Nat)) := by
    simp only [Value.slice.injEq, true_and] at e0
    obtain ⟨rfl, rfl⟩ := e0
    rcases hh with ⟨h, _⟩ | ⟨b, off, hbo, _, hcl⟩
    · cases h
    · simp only [Option.some.injEq, Addr.mk.injEq, and_true] at hbo
      obtain ⟨rfl, rfl⟩ := hbo
      intro j hj
      have := hcl j (bval l[j]) (by simp [hj])
      rw [Nat.zero_add] at this
      exact this
  clear e0 hh hc0
  have Hcell := Lib.hid hcell; clear hcell
  go_wp2
  go_loop [6, 49] (fun x y => ∃ k : Nat, x = .int .i64 (decOf (l.take k)) ∧ y = .int .i64 k ∧ k ≤ l.length) (fun _ y => l.length - (intOf y).toNat)
  case atStart => exact ⟨0, rfl, rfl, by omega⟩
  case round =>
    obtain ⟨k, rfl, rfl, hk⟩ := hrel
    by_cases hlt : k < l.length
    · have hc := Hcell.out k hlt
      have hdk := isDigit_iff.1 (Hd.out l[k] (List.getElem_mem hlt))
      have hdec := decOf_take_lt k h6 Hd.out
      obtain ⟨d1, d2⟩ := hdk
      go_wp2
      go_round
      case rel => exact ⟨k + 1, by rw [decOf_take hlt]; go_num, by go_num, by omega⟩
      case measure => simp [intOf]; try omega
    · obtain rfl : k = l.length := by omega
      go_wp2
      go_ret2
      refine ⟨?_, hb1⟩
      rfl

set_option maxRecDepth 100000 in
set_option maxHeartbeats 400000 in
theorem atoi_any (l : List UInt8) (w : World) (h1 : 1 ≤ l.length) (h6 : l.length ≤ 6) (hd : ∀ c ∈ l, isDigit c = true) :
    Calls Tryz.prog 145 #[.string (str l)] w fun x w' => x = .returned (.tuple #[.int .i64 (decOf l), .nilIface]) ∧ Below w.heap.size w w' := by
  have hc := atoi1_any l w h1 h6 hd
  have Hc := Lib.hid hc; clear hc hd
  go_enter Tryz.func145, Tryz.ntmps145
  go_wp2_with (go_at_call 163; refine (Hc.out).mono ?_; rintro e w1 ⟨rfl, hb1⟩)
  go_ret2
  exact ⟨rfl, hb1⟩
end Go.Proofs.YtgonfcdmaoeboaaGreatDoor

/- lineage: the iterator over the parts of a text. -/
namespace Go.Proofs.YtgonfcdmaoeboaaGreatDoor
open Go.RowKit Go.Shelf
attribute [local go_sem] Oper.semAt_some

def encPart (p : Part) : Value := .agg #[.int .i64 p.1, .int .i64 p.2.1, .int .i64 p.2.2]

/-- what a round keeps: the blocks of the types t1 and t2 -/
def KeepsTypes (t1 t2 : TypeId) (W W' : World) : Prop := ∀ (b : Nat) (cs : Array Value) (t : TypeId) (o : Nat × Nat), W.heap[b]? = some (Obj.cells cs t o) → (t = t1 ∨ t = t2) → W'.heap[b]? = W.heap[b]?
theorem KeepsTypes.refl {t1 t2 : TypeId} (W : World) : KeepsTypes t1 t2 W W := fun _ _ _ _ _ _ => rfl
theorem KeepsTypes.trans {t1 t2 : TypeId} {A B C : World} (h : KeepsTypes t1 t2 A B) (k : KeepsTypes t1 t2 B C) : KeepsTypes t1 t2 A C := fun b cs t o hb ht =>
  (k b cs t o ((h b cs t o hb ht).trans hb) ht).trans (h b cs t o hb ht)
theorem KeepsTypes.putObj {t1 t2 : TypeId} (W : World) (l : Nat) (o o' : Obj) (h : W.heap[l]? = some o) (ho : o.isCells = false) : KeepsTypes t1 t2 W (W.putObj l o') := fun b cs t f hb _ =>
  (grownBy_putObj' W l o').block b (Array.getElem?_eq_some_iff.1 hb).1 (fun e => by cases e; rw [h] at hb; cases hb; cases ho)
theorem kept_new {t1 t2 t : TypeId} {w W' : World} {cs : Array Value} (h : KeepsTypes t1 t2 (w.alloc (.cells cs t)) W') (ht : t = t1 ∨ t = t2) : Blk W' w.heap.size cs t :=
  (h w.heap.size cs t (0, 0) (World.alloc_heap_new w _) ht).trans (World.alloc_heap_new w _)
theorem grown_of_below {W W' : World} (h : Below W.heap.size W W') : W.grownBy W' none := ⟨h.os, h.tape, h.output, h.size, fun k hk _ => h.block k hk⟩

set_option maxRecDepth 100000 in
set_option maxHeartbeats 8000000 in
theorem parts1_in (n l Bs : Nat) (hn : 1 ≤ n) (s : List UInt8) (hlen : s.length ≤ 1000000000) (J Jx : List Part → World → Prop)
    (hY : ∀ pre x W, J pre W → pre.length < 10 → YieldAt Fence.wide (n - 1) Tryz.prog l #[encPart x] W fun e W' =>
      (e = .returned (.bool true) ∧ J (pre ++ [x]) W' ∧ KeepsTypes 190 9 W W') ∨ (e = .returned (.bool false) ∧ Jx (pre ++ [x]) W'))
    (W : World) (hJ : AbidesFrom W.heap.size J) (hBs : Boxed W Bs 9 (.string (str s))) (h0 : J [] W) :
    CallsIn Fence.wide n Tryz.prog 144 #[.func (.yield l) #[] #[], .pointer (some ⟨Bs, 0, none⟩)] W fun e W' => (∃ v, e = .returned v) ∧
      ((∃ ys, ys = parts s ∧ J ys W') ∨ (∃ pre, pre <+: parts s ∧ Jx pre W')) := by
  have hc := hBs.cell
  refine callsIn_of_wp Tryz.func144 rfl trivial ?_ rfl
  simp only [Tryz.ntmps144, List.size_toArray, List.length_cons, List.length_nil, Nat.reduceAdd, Nat.reduceSub, Array.replicate_succ, Array.replicate_zero, List.push_toArray, List.append_toArray, List.nil_append, List.cons_append]
  gi_wp2
  gi_loopw [3, 4] (fun a m wr => ∃ (pre : List Part) (i k : Nat), a = .int .i64 i ∧ m = .int .i64 k ∧ i ≤ s.length ∧ k ≤ 8 ∧ pre.length = k ∧ Boxed wr Bs 9 (.string (str s)) ∧ J pre wr ∧ Hid (s ≠ [] → parts s = pre ++ lineParts (8 - k) i (s.drop i)) ∧ Hid (s = [] → pre = [])) (fun _ m _ => 9 - (intOf m).toNat)
  case atStart => exact ⟨[], 0, 0, rfl, rfl, by simp, by simp, rfl, hBs, h0, fun h => by simp [parts, h], fun _ => rfl⟩
  case round =>
    obtain ⟨pre, i, k, rfl, rfl, hi, hk, hpl, hBr, hJr, hp, hp0⟩ := hrel
    have hcr := hBr.cell
    have hBl := hBr.lt
    by_cases hs : s = []
    · have hq : (str s).toList.isEmpty = true := by simp [str_toList, hs]
      have hp0' := hp0.out hs
      have Hs := Lib.hid hs; clear hs
      gi_wp2
      go_end0
      refine ⟨⟨_, rfl⟩, .inl ⟨pre, ?_, hJr⟩⟩
      rw [hp0', Hs.out]; rfl
    · have hq : (str s).toList.isEmpty = false := by simp [str_toList, hs]
      have hp1 := Lib.hid (hp.out hs); clear hp hp0
      have Hs := Lib.hid hs; clear hs
      gi_wp2
      gi_loop [6] (fun d => ∃ j : Nat, d = .int .i64 j ∧ i + j ≤ s.length ∧ Hid (∀ t, t < j → ∀ h : i + t < (str s).size, isDigit ((str s)[i + t]'h) = true)) (fun d => s.length - (intOf d).toNat)
      case atStart => exact ⟨0, rfl, by omega, by intro t h; omega⟩
      case round =>
        obtain ⟨j, rfl, hij, hdj⟩ := hrel
        have hsz := str_size s
        by_cases hlt : i + j < s.length
        · have hpj : i + j < (str s).size := by rw [str_size]; exact hlt
          by_cases hd : isDigit ((str s)[i + j]'hpj) = true
          · have hd' := isDigit_iff.1 hd
            obtain ⟨d1, d2⟩ := hd'
            have Hd := Lib.hid hd; clear hd
            gi_wp2
            go_round
            case rel =>
              refine ⟨j + 1, by go_num, by omega, ?_⟩
              intro t h h'
              by_cases e : t = j
              · subst e; exact Hd.out
              · exact hdj.out t (by omega) h'
            case measure => simp [intOf]; try omega
          · have hdg : Hid (digs (s.drop i) = j) := digs_str s i j hij hdj.out (fun _ => by simpa using hd)
            have q10 : ((str s)[i + j]'hpj).toNat < 48 ∨ (48 ≤ ((str s)[i + j]'hpj).toNat ∧ 57 < ((str s)[i + j]'hpj).toNat) := by
              rcases Nat.lt_or_ge ((str s)[i + j]'hpj).toNat 48 with h | h
              · exact .inl h
              · exact .inr ⟨h, Nat.lt_of_not_le (fun h2 => hd (isDigit_iff.2 ⟨h, h2⟩))⟩
            clear hd
            have hi0 : i < s.length := by omega
            have hpi : i < (str s).size := by rw [str_size]; exact hi0
            have Hdr := Lib.hid (drop_str s i hpi)
            have Hdrj := Lib.hid (drop_str s (i + j) hpj)
            have Hdd : Hid ((s.drop i).drop (digs (s.drop i)) = s.drop (i + j)) := by rw [hdg.out, List.drop_drop]; rfl
            rcases Nat.lt_or_ge k 8 with h8 | h8
            · rcases Nat.eq_zero_or_pos j with h0j | h0j
              · subst h0j
                have he : Hid (partErr (8 - k) (s.drop i) = 6) := partErr_6 (by omega) (by rw [Hdr.out]; simp) hdg.out
                simp only [Nat.add_zero] at q10
                rcases q10 with q10 | ⟨q10, q11⟩
                · have hJ1 : J pre (wr.alloc (.cells #[.int .i64 0, .int .i64 i, .int .i64 6] 190)) := hJ pre wr _ none hJr (World.grownBy_alloc wr _ none) (fun r e => by cases e)
                  obtain ⟨fn, tmps, assign, body, hy0, hR⟩ := hY pre (0, i, 6) _ hJ1 (by omega)
                  have hy : (Instr.yield l #[.agg #[.int .i64 0, .int .i64 i, .int .i64 6]]).run Tryz.prog (wr.alloc (.cells #[.int .i64 0, .int .i64 i, .int .i64 6] 190)) = .ok (.round l fn tmps assign body) (wr.alloc (.cells #[.int .i64 0, .int .i64 i, .int .i64 6] 190)) := hy0
                  clear hy0
                  have HR := Lib.hid hR; clear hR
                  gi_wp2
                  refine HR.out.mono ?_
                  rintro e W3 (⟨rfl, hJ3, hk3⟩ | ⟨rfl, hJx3⟩)
                  · have hb3 := kept_new hk3 (.inl rfl)
                    have hc3 : W3.cell? ⟨wr.heap.size, 2, none⟩ = some (.int .i64 6) := by rw [hb3.cell]; rfl
                    clear hk3
                    gi_wp2
                    refine bodyPost_ret (results_none rfl _ _ _) rfl ?_
                    exact ⟨⟨_, rfl⟩, .inl ⟨pre ++ [(0, i, 6)], by rw [hp1.out, line_err he.out (by decide)], hJ3⟩⟩
                  · gi_wp2
                    refine bodyPost_ret (results_none rfl _ _ _) rfl ?_
                    exact ⟨⟨_, rfl⟩, .inr ⟨pre ++ [(0, i, 6)], by rw [hp1.out, line_err he.out (by decide)]; exact List.prefix_rfl, hJx3⟩⟩
                · have hJ1 : J pre (wr.alloc (.cells #[.int .i64 0, .int .i64 i, .int .i64 6] 190)) := hJ pre wr _ none hJr (World.grownBy_alloc wr _ none) (fun r e => by cases e)
                  obtain ⟨fn, tmps, assign, body, hy0, hR⟩ := hY pre (0, i, 6) _ hJ1 (by omega)
                  have hy : (Instr.yield l #[.agg #[.int .i64 0, .int .i64 i, .int .i64 6]]).run Tryz.prog (wr.alloc (.cells #[.int .i64 0, .int .i64 i, .int .i64 6] 190)) = .ok (.round l fn tmps assign body) (wr.alloc (.cells #[.int .i64 0, .int .i64 i, .int .i64 6] 190)) := hy0
                  clear hy0
                  have HR := Lib.hid hR; clear hR
                  gi_wp2
                  refine HR.out.mono ?_
                  rintro e W3 (⟨rfl, hJ3, hk3⟩ | ⟨rfl, hJx3⟩)
                  · have hb3 := kept_new hk3 (.inl rfl)
                    have hc3 : W3.cell? ⟨wr.heap.size, 2, none⟩ = some (.int .i64 6) := by rw [hb3.cell]; rfl
                    clear hk3
                    gi_wp2
                    refine bodyPost_ret (results_none rfl _ _ _) rfl ?_
                    exact ⟨⟨_, rfl⟩, .inl ⟨pre ++ [(0, i, 6)], by rw [hp1.out, line_err he.out (by decide)], hJ3⟩⟩
                  · gi_wp2
                    refine bodyPost_ret (results_none rfl _ _ _) rfl ?_
                    exact ⟨⟨_, rfl⟩, .inr ⟨pre ++ [(0, i, 6)], by rw [hp1.out, line_err he.out (by decide)]; exact List.prefix_rfl, hJx3⟩⟩
              · by_cases h48 : (str s)[i]'hpi = 48
                · have he : Hid (partErr (8 - k) (s.drop i) = 3) := by rw [Hdr.out, h48]; exact partErr_3 (by omega) (by rw [← h48, ← Hdr.out, hdg.out]; omega)
                  have q0 : ((str s)[i]'hpi).toNat = 48 := by rw [h48]; rfl
                  have H48 := Lib.hid h48; clear h48
                  rcases q10 with q10 | ⟨q10, q11⟩
                  · have hJ1 : J pre (wr.alloc (.cells #[.int .i64 0, .int .i64 i, .int .i64 3] 190)) := hJ pre wr _ none hJr (World.grownBy_alloc wr _ none) (fun r e => by cases e)
                    obtain ⟨fn, tmps, assign, body, hy0, hR⟩ := hY pre (0, i, 3) _ hJ1 (by omega)
                    have hy : (Instr.yield l #[.agg #[.int .i64 0, .int .i64 i, .int .i64 3]]).run Tryz.prog (wr.alloc (.cells #[.int .i64 0, .int .i64 i, .int .i64 3] 190)) = .ok (.round l fn tmps assign body) (wr.alloc (.cells #[.int .i64 0, .int .i64 i, .int .i64 3] 190)) := hy0
                    clear hy0
                    have HR := Lib.hid hR; clear hR
                    gi_wp2
                    refine HR.out.mono ?_
                    rintro e W3 (⟨rfl, hJ3, hk3⟩ | ⟨rfl, hJx3⟩)
                    · have hb3 := kept_new hk3 (.inl rfl)
                      have hc3 : W3.cell? ⟨wr.heap.size, 2, none⟩ = some (.int .i64 3) := by rw [hb3.cell]; rfl
                      clear hk3
                      gi_wp2
                      refine bodyPost_ret (results_none rfl _ _ _) rfl ?_
                      exact ⟨⟨_, rfl⟩, .inl ⟨pre ++ [(0, i, 3)], by rw [hp1.out, line_err he.out (by decide)], hJ3⟩⟩
                    · gi_wp2
                      refine bodyPost_ret (results_none rfl _ _ _) rfl ?_
                      exact ⟨⟨_, rfl⟩, .inr ⟨pre ++ [(0, i, 3)], by rw [hp1.out, line_err he.out (by decide)]; exact List.prefix_rfl, hJx3⟩⟩
                  · have hJ1 : J pre (wr.alloc (.cells #[.int .i64 0, .int .i64 i, .int .i64 3] 190)) := hJ pre wr _ none hJr (World.grownBy_alloc wr _ none) (fun r e => by cases e)
                    obtain ⟨fn, tmps, assign, body, hy0, hR⟩ := hY pre (0, i, 3) _ hJ1 (by omega)
                    have hy : (Instr.yield l #[.agg #[.int .i64 0, .int .i64 i, .int .i64 3]]).run Tryz.prog (wr.alloc (.cells #[.int .i64 0, .int .i64 i, .int .i64 3] 190)) = .ok (.round l fn tmps assign body) (wr.alloc (.cells #[.int .i64 0, .int .i64 i, .int .i64 3] 190)) := hy0
                    clear hy0
                    have HR := Lib.hid hR; clear hR
                    gi_wp2
                    refine HR.out.mono ?_
                    rintro e W3 (⟨rfl, hJ3, hk3⟩ | ⟨rfl, hJx3⟩)
                    · have hb3 := kept_new hk3 (.inl rfl)
                      have hc3 : W3.cell? ⟨wr.heap.size, 2, none⟩ = some (.int .i64 3) := by rw [hb3.cell]; rfl
                      clear hk3
                      gi_wp2
                      refine bodyPost_ret (results_none rfl _ _ _) rfl ?_
                      exact ⟨⟨_, rfl⟩, .inl ⟨pre ++ [(0, i, 3)], by rw [hp1.out, line_err he.out (by decide)], hJ3⟩⟩
                    · gi_wp2
                      refine bodyPost_ret (results_none rfl _ _ _) rfl ?_
                      exact ⟨⟨_, rfl⟩, .inr ⟨pre ++ [(0, i, 3)], by rw [hp1.out, line_err he.out (by decide)]; exact List.prefix_rfl, hJx3⟩⟩
                · have q0 : ((str s)[i]'hpi).toNat ≠ 48 := fun h => h48 (UInt8.toNat_inj.1 (by rw [h]; rfl))
                  have H48 := Lib.hid h48; clear h48
                  rcases Nat.lt_or_ge 6 j with h6 | h6
                  · have he : Hid (partErr (8 - k) (s.drop i) = 2) := by rw [Hdr.out]; exact partErr_2 (by omega) H48.out (by rw [← Hdr.out, hdg.out]; omega)
                    rcases q10 with q10 | ⟨q10, q11⟩
                    · have hJ1 : J pre (wr.alloc (.cells #[.int .i64 0, .int .i64 i, .int .i64 2] 190)) := hJ pre wr _ none hJr (World.grownBy_alloc wr _ none) (fun r e => by cases e)
                      obtain ⟨fn, tmps, assign, body, hy0, hR⟩ := hY pre (0, i, 2) _ hJ1 (by omega)
                      have hy : (Instr.yield l #[.agg #[.int .i64 0, .int .i64 i, .int .i64 2]]).run Tryz.prog (wr.alloc (.cells #[.int .i64 0, .int .i64 i, .int .i64 2] 190)) = .ok (.round l fn tmps assign body) (wr.alloc (.cells #[.int .i64 0, .int .i64 i, .int .i64 2] 190)) := hy0
                      clear hy0
                      have HR := Lib.hid hR; clear hR
                      gi_wp2
                      refine HR.out.mono ?_
                      rintro e W3 (⟨rfl, hJ3, hk3⟩ | ⟨rfl, hJx3⟩)
                      · have hb3 := kept_new hk3 (.inl rfl)
                        have hc3 : W3.cell? ⟨wr.heap.size, 2, none⟩ = some (.int .i64 2) := by rw [hb3.cell]; rfl
                        clear hk3
                        gi_wp2
                        refine bodyPost_ret (results_none rfl _ _ _) rfl ?_
                        exact ⟨⟨_, rfl⟩, .inl ⟨pre ++ [(0, i, 2)], by rw [hp1.out, line_err he.out (by decide)], hJ3⟩⟩
                      · gi_wp2
                        refine bodyPost_ret (results_none rfl _ _ _) rfl ?_
                        exact ⟨⟨_, rfl⟩, .inr ⟨pre ++ [(0, i, 2)], by rw [hp1.out, line_err he.out (by decide)]; exact List.prefix_rfl, hJx3⟩⟩
                    · have hJ1 : J pre (wr.alloc (.cells #[.int .i64 0, .int .i64 i, .int .i64 2] 190)) := hJ pre wr _ none hJr (World.grownBy_alloc wr _ none) (fun r e => by cases e)
                      obtain ⟨fn, tmps, assign, body, hy0, hR⟩ := hY pre (0, i, 2) _ hJ1 (by omega)
                      have hy : (Instr.yield l #[.agg #[.int .i64 0, .int .i64 i, .int .i64 2]]).run Tryz.prog (wr.alloc (.cells #[.int .i64 0, .int .i64 i, .int .i64 2] 190)) = .ok (.round l fn tmps assign body) (wr.alloc (.cells #[.int .i64 0, .int .i64 i, .int .i64 2] 190)) := hy0
                      clear hy0
                      have HR := Lib.hid hR; clear hR
                      gi_wp2
                      refine HR.out.mono ?_
                      rintro e W3 (⟨rfl, hJ3, hk3⟩ | ⟨rfl, hJx3⟩)
                      · have hb3 := kept_new hk3 (.inl rfl)
                        have hc3 : W3.cell? ⟨wr.heap.size, 2, none⟩ = some (.int .i64 2) := by rw [hb3.cell]; rfl
                        clear hk3
                        gi_wp2
                        refine bodyPost_ret (results_none rfl _ _ _) rfl ?_
                        exact ⟨⟨_, rfl⟩, .inl ⟨pre ++ [(0, i, 2)], by rw [hp1.out, line_err he.out (by decide)], hJ3⟩⟩
                      · gi_wp2
                        refine bodyPost_ret (results_none rfl _ _ _) rfl ?_
                        exact ⟨⟨_, rfl⟩, .inr ⟨pre ++ [(0, i, 2)], by rw [hp1.out, line_err he.out (by decide)]; exact List.prefix_rfl, hJx3⟩⟩
                  · have he : Hid (partErr (8 - k) (s.drop i) = 0) := by rw [Hdr.out]; exact partErr_0 (by omega) H48.out (by rw [← Hdr.out, hdg.out]; omega) (by rw [← Hdr.out, hdg.out]; omega)
                    by_cases h46 : (str s)[i + j]'hpj = 46
                    · have q46 : ((str s)[i + j]'hpj).toNat = 46 := by rw [h46]; rfl
                      have Hd46 : Hid ((s.drop i).drop (digs (s.drop i)) = 46 :: s.drop (i + j + 1)) := by rw [Hdd.out, Hdrj.out, h46]; rfl
                      clear h46 q10
                      have hlt' : j ≤ (s.drop i).length := by rw [List.length_drop]; omega
                      have hx : (str s).extract i (i + j) = str ((s.drop i).take j) := by rw [str_extract]; congr 2; omega
                      have hat := atoi_any ((s.drop i).take j) (wr.alloc (.cells #[.int .i64 0, .int .i64 i, .int .i64 0] 190)) (by rw [List.length_take]; omega) (by rw [List.length_take]; omega) (by have := digs_digit (s.drop i); rwa [hdg.out] at this)
                      obtain ⟨V, hV⟩ : ∃ V, decOf ((s.drop i).take j) = V := ⟨_, rfl⟩
                      rw [hV] at hat
                      have hV' : Hid (decOf ((s.drop i).take (digs (s.drop i))) = V) := by rw [hdg.out]; exact hV
                      clear hV
                      have Hat := Lib.hid hat; clear hat
                      gi_wp2_with (refine ⟨trivial, ?_⟩; gi_at_call 145; refine (callsIn_wide.2 Hat.out).mono ?_; rintro e w1 ⟨rfl, hb1⟩; have bk1 := (Blk.new wr #[.int .i64 0, .int .i64 i, .int .i64 0] 190).below hb1 (by simp); obtain ⟨c0, c1, c2, f0, f1, f2⟩ := bk1.three; have bk2 : Blk (w1.setCell ⟨wr.heap.size, 0, none⟩ (.int .i64 V)) wr.heap.size #[.int .i64 V, .int .i64 i, .int .i64 0] 190 := (bk1.set 0 _).congr rfl; obtain ⟨e0, e1, e2, g0, g1, g2⟩ := bk2.three; have hbb : Below wr.heap.size wr (w1.setCell ⟨wr.heap.size, 0, none⟩ (.int .i64 V)) := (((Below.refl _ wr).alloc (Nat.le_refl _) _).trans (hb1.mono (by simp))).setCell (Nat.le_refl _) _; obtain ⟨fn, tmps, assign, body, hy0, hR⟩ := hY pre (V, i, 0) _ (hJ pre wr _ none hJr (grown_of_below hbb) (fun r e => by cases e)) (by omega); have hy : (Instr.yield l #[.agg #[.int .i64 V, .int .i64 i, .int .i64 0]]).run Tryz.prog (w1.setCell ⟨wr.heap.size, 0, none⟩ (.int .i64 V)) = .ok (.round l fn tmps assign body) (w1.setCell ⟨wr.heap.size, 0, none⟩ (.int .i64 V)) := hy0; clear hy0; have HR := Lib.hid hR; clear hR; clear hb1; have Hbb := Lib.hid hbb; clear hbb)
                      refine HR.out.mono ?_
                      have hBr2 : Boxed (w1.setCell ⟨wr.heap.size, 0, none⟩ (.int .i64 V)) Bs 9 (.string (str s)) := hBr.kept (grown_of_below Hbb.out) (by simp)
                      rintro e W3 (⟨rfl, hJ3, hk3⟩ | ⟨rfl, hJx3⟩)
                      · have hb3 : Blk W3 wr.heap.size #[.int .i64 V, .int .i64 i, .int .i64 0] 190 := (hk3 _ _ _ _ bk2 (.inl rfl)).trans bk2
                        have hB3 : Boxed W3 Bs 9 (.string (str s)) := (hk3 _ _ _ _ hBr2 (.inr rfl)).trans hBr2
                        have hc3 : W3.cell? ⟨wr.heap.size, 2, none⟩ = some (.int .i64 0) := by rw [hb3.cell]; rfl
                        have hcs3 := hB3.cell
                        clear hk3 bk1 bk2 c0 c1 c2 f0 f1 f2 e0 e1 e2 g0 g1 g2 hy
                        gi_wp2
                        go_roundw
                        case rel =>
                          refine ⟨pre ++ [(V, i, 0)], i + j + 1, k + 1, by go_num, by go_num, by omega, by omega, by simp; omega, hB3, hJ3, ?_, ?_⟩
                          · intro _
                            rw [hp1.out, line_dot he.out Hd46.out, hV'.out, hdg.out, List.append_assoc]
                            congr 3
                          · intro h; exact absurd h Hs.out
                        case measure => simp [intOf]; try omega
                      · gi_wp2
                        refine bodyPost_ret (results_none rfl _ _ _) rfl ?_
                        exact ⟨⟨_, rfl⟩, .inr ⟨pre ++ [(V, i, 0)], by rw [hp1.out, line_dot he.out Hd46.out, hV'.out]; exact ⟨_, by rw [List.append_assoc]; rfl⟩, hJx3⟩⟩
                    · have q46 : ((str s)[i + j]'hpj).toNat ≠ 46 := fun h => h46 (UInt8.toNat_inj.1 (by rw [h]; rfl))
                      have Hd46 : Hid ((s.drop i).drop (digs (s.drop i)) = (str s)[i + j]'hpj :: s.drop (i + j + 1)) := by rw [Hdd.out, Hdrj.out]; rfl
                      have H46 := Lib.hid h46
                      clear h46
                      rcases q10 with q10 | ⟨q10, q11⟩
                      · have hlt' : j ≤ (s.drop i).length := by rw [List.length_drop]; omega
                        have hx : (str s).extract i (i + j) = str ((s.drop i).take j) := by rw [str_extract]; congr 2; omega
                        have hat := atoi_any ((s.drop i).take j) (wr.alloc (.cells #[.int .i64 0, .int .i64 i, .int .i64 0] 190)) (by rw [List.length_take]; omega) (by rw [List.length_take]; omega) (by have := digs_digit (s.drop i); rwa [hdg.out] at this)
                        obtain ⟨V, hV⟩ : ∃ V, decOf ((s.drop i).take j) = V := ⟨_, rfl⟩
                        rw [hV] at hat
                        have hV' : Hid (decOf ((s.drop i).take (digs (s.drop i))) = V) := by rw [hdg.out]; exact hV
                        clear hV
                        have Hat := Lib.hid hat; clear hat
                        gi_wp2_with (refine ⟨trivial, ?_⟩; gi_at_call 145; refine (callsIn_wide.2 Hat.out).mono ?_; rintro e w1 ⟨rfl, hb1⟩; have bk1 := (Blk.new wr #[.int .i64 0, .int .i64 i, .int .i64 0] 190).below hb1 (by simp); obtain ⟨c0, c1, c2, f0, f1, f2⟩ := bk1.three; have bk2 : Blk (w1.setCell ⟨wr.heap.size, 0, none⟩ (.int .i64 V)) wr.heap.size #[.int .i64 V, .int .i64 i, .int .i64 0] 190 := (bk1.set 0 _).congr rfl; obtain ⟨e0, e1, e2, g0, g1, g2⟩ := bk2.three; have hbb : Below wr.heap.size wr (w1.setCell ⟨wr.heap.size, 0, none⟩ (.int .i64 V)) := (((Below.refl _ wr).alloc (Nat.le_refl _) _).trans (hb1.mono (by simp))).setCell (Nat.le_refl _) _; obtain ⟨fn, tmps, assign, body, hy0, hR⟩ := hY pre (V, i, 0) _ (hJ pre wr _ none hJr (grown_of_below hbb) (fun r e => by cases e)) (by omega); have hy : (Instr.yield l #[.agg #[.int .i64 V, .int .i64 i, .int .i64 0]]).run Tryz.prog (w1.setCell ⟨wr.heap.size, 0, none⟩ (.int .i64 V)) = .ok (.round l fn tmps assign body) (w1.setCell ⟨wr.heap.size, 0, none⟩ (.int .i64 V)) := hy0; clear hy0; have HR := Lib.hid hR; clear hR; clear hb1; have Hbb := Lib.hid hbb; clear hbb)
                        refine HR.out.mono ?_
                        have hBr2 : Boxed (w1.setCell ⟨wr.heap.size, 0, none⟩ (.int .i64 V)) Bs 9 (.string (str s)) := hBr.kept (grown_of_below Hbb.out) (by simp)
                        rintro e W3 (⟨rfl, hJ3, hk3⟩ | ⟨rfl, hJx3⟩)
                        · have hb3 : Blk W3 wr.heap.size #[.int .i64 V, .int .i64 i, .int .i64 0] 190 := (hk3 _ _ _ _ bk2 (.inl rfl)).trans bk2
                          have hB3 : Boxed W3 Bs 9 (.string (str s)) := (hk3 _ _ _ _ hBr2 (.inr rfl)).trans hBr2
                          have hc3 : W3.cell? ⟨wr.heap.size, 2, none⟩ = some (.int .i64 0) := by rw [hb3.cell]; rfl
                          have hcs3 := hB3.cell
                          clear hk3 bk1 bk2 c0 c1 c2 f0 f1 f2 e0 e1 e2 g0 g1 g2 hy
                          obtain ⟨fn2, tmps2, assign2, body2, hy02, hR2⟩ := hY (pre ++ [(V, i, 0)]) (0, i + j, 6) W3 hJ3 (by simp; omega)
                          have hy2 : (Instr.yield l #[.agg #[.int .i64 0, .int .i64 (↑i + ↑j), .int .i64 6]]).run Tryz.prog W3 = .ok (.round l fn2 tmps2 assign2 body2) W3 := hy02
                          clear hy02
                          have HR2 := Lib.hid hR2; clear hR2
                          gi_wp2
                          refine HR2.out.mono ?_
                          rintro e W4 (⟨rfl, hJ4, _⟩ | ⟨rfl, hJx4⟩)
                          · gi_wp2
                            refine bodyPost_ret (results_none rfl _ _ _) rfl ?_
                            exact ⟨⟨_, rfl⟩, .inl ⟨_, by rw [hp1.out, line_bad he.out Hd46.out H46.out, hV'.out, hdg.out, List.append_assoc]; rfl, hJ4⟩⟩
                          · gi_wp2
                            refine bodyPost_ret (results_none rfl _ _ _) rfl ?_
                            exact ⟨⟨_, rfl⟩, .inr ⟨_, by rw [hp1.out, line_bad he.out Hd46.out H46.out, hV'.out, hdg.out, List.append_assoc]; exact List.prefix_rfl, hJx4⟩⟩
                        · gi_wp2
                          refine bodyPost_ret (results_none rfl _ _ _) rfl ?_
                          exact ⟨⟨_, rfl⟩, .inr ⟨pre ++ [(V, i, 0)], by rw [hp1.out, line_bad he.out Hd46.out H46.out, hV'.out]; exact ⟨_, by rw [List.append_assoc]; rfl⟩, hJx3⟩⟩
                      · have hlt' : j ≤ (s.drop i).length := by rw [List.length_drop]; omega
                        have hx : (str s).extract i (i + j) = str ((s.drop i).take j) := by rw [str_extract]; congr 2; omega
                        have hat := atoi_any ((s.drop i).take j) (wr.alloc (.cells #[.int .i64 0, .int .i64 i, .int .i64 0] 190)) (by rw [List.length_take]; omega) (by rw [List.length_take]; omega) (by have := digs_digit (s.drop i); rwa [hdg.out] at this)
                        obtain ⟨V, hV⟩ : ∃ V, decOf ((s.drop i).take j) = V := ⟨_, rfl⟩
                        rw [hV] at hat
                        have hV' : Hid (decOf ((s.drop i).take (digs (s.drop i))) = V) := by rw [hdg.out]; exact hV
                        clear hV
                        have Hat := Lib.hid hat; clear hat
                        gi_wp2_with (refine ⟨trivial, ?_⟩; gi_at_call 145; refine (callsIn_wide.2 Hat.out).mono ?_; rintro e w1 ⟨rfl, hb1⟩; have bk1 := (Blk.new wr #[.int .i64 0, .int .i64 i, .int .i64 0] 190).below hb1 (by simp); obtain ⟨c0, c1, c2, f0, f1, f2⟩ := bk1.three; have bk2 : Blk (w1.setCell ⟨wr.heap.size, 0, none⟩ (.int .i64 V)) wr.heap.size #[.int .i64 V, .int .i64 i, .int .i64 0] 190 := (bk1.set 0 _).congr rfl; obtain ⟨e0, e1, e2, g0, g1, g2⟩ := bk2.three; have hbb : Below wr.heap.size wr (w1.setCell ⟨wr.heap.size, 0, none⟩ (.int .i64 V)) := (((Below.refl _ wr).alloc (Nat.le_refl _) _).trans (hb1.mono (by simp))).setCell (Nat.le_refl _) _; obtain ⟨fn, tmps, assign, body, hy0, hR⟩ := hY pre (V, i, 0) _ (hJ pre wr _ none hJr (grown_of_below hbb) (fun r e => by cases e)) (by omega); have hy : (Instr.yield l #[.agg #[.int .i64 V, .int .i64 i, .int .i64 0]]).run Tryz.prog (w1.setCell ⟨wr.heap.size, 0, none⟩ (.int .i64 V)) = .ok (.round l fn tmps assign body) (w1.setCell ⟨wr.heap.size, 0, none⟩ (.int .i64 V)) := hy0; clear hy0; have HR := Lib.hid hR; clear hR; clear hb1; have Hbb := Lib.hid hbb; clear hbb)
                        refine HR.out.mono ?_
                        have hBr2 : Boxed (w1.setCell ⟨wr.heap.size, 0, none⟩ (.int .i64 V)) Bs 9 (.string (str s)) := hBr.kept (grown_of_below Hbb.out) (by simp)
                        rintro e W3 (⟨rfl, hJ3, hk3⟩ | ⟨rfl, hJx3⟩)
                        · have hb3 : Blk W3 wr.heap.size #[.int .i64 V, .int .i64 i, .int .i64 0] 190 := (hk3 _ _ _ _ bk2 (.inl rfl)).trans bk2
                          have hB3 : Boxed W3 Bs 9 (.string (str s)) := (hk3 _ _ _ _ hBr2 (.inr rfl)).trans hBr2
                          have hc3 : W3.cell? ⟨wr.heap.size, 2, none⟩ = some (.int .i64 0) := by rw [hb3.cell]; rfl
                          have hcs3 := hB3.cell
                          clear hk3 bk1 bk2 c0 c1 c2 f0 f1 f2 e0 e1 e2 g0 g1 g2 hy
                          obtain ⟨fn2, tmps2, assign2, body2, hy02, hR2⟩ := hY (pre ++ [(V, i, 0)]) (0, i + j, 6) W3 hJ3 (by simp; omega)
                          have hy2 : (Instr.yield l #[.agg #[.int .i64 0, .int .i64 (↑i + ↑j), .int .i64 6]]).run Tryz.prog W3 = .ok (.round l fn2 tmps2 assign2 body2) W3 := hy02
                          clear hy02
                          have HR2 := Lib.hid hR2; clear hR2
                          gi_wp2
                          refine HR2.out.mono ?_
                          rintro e W4 (⟨rfl, hJ4, _⟩ | ⟨rfl, hJx4⟩)
                          · gi_wp2
                            refine bodyPost_ret (results_none rfl _ _ _) rfl ?_
                            exact ⟨⟨_, rfl⟩, .inl ⟨_, by rw [hp1.out, line_bad he.out Hd46.out H46.out, hV'.out, hdg.out, List.append_assoc]; rfl, hJ4⟩⟩
                          · gi_wp2
                            refine bodyPost_ret (results_none rfl _ _ _) rfl ?_
                            exact ⟨⟨_, rfl⟩, .inr ⟨_, by rw [hp1.out, line_bad he.out Hd46.out H46.out, hV'.out, hdg.out, List.append_assoc]; exact List.prefix_rfl, hJx4⟩⟩
                        · gi_wp2
                          refine bodyPost_ret (results_none rfl _ _ _) rfl ?_
                          exact ⟨⟨_, rfl⟩, .inr ⟨pre ++ [(V, i, 0)], by rw [hp1.out, line_bad he.out Hd46.out H46.out, hV'.out]; exact ⟨_, by rw [List.append_assoc]; rfl⟩, hJx3⟩⟩
            · obtain rfl : k = 8 := by omega
              have he : Hid (partErr (8 - 8) (s.drop i) = 9) := partErr_9 _
              rcases q10 with q10 | ⟨q10, q11⟩
              · have hJ1 : J pre (wr.alloc (.cells #[.int .i64 0, .int .i64 i, .int .i64 9] 190)) := hJ pre wr _ none hJr (World.grownBy_alloc wr _ none) (fun r e => by cases e)
                obtain ⟨fn, tmps, assign, body, hy0, hR⟩ := hY pre (0, i, 9) _ hJ1 (by omega)
                have hy : (Instr.yield l #[.agg #[.int .i64 0, .int .i64 i, .int .i64 9]]).run Tryz.prog (wr.alloc (.cells #[.int .i64 0, .int .i64 i, .int .i64 9] 190)) = .ok (.round l fn tmps assign body) (wr.alloc (.cells #[.int .i64 0, .int .i64 i, .int .i64 9] 190)) := hy0
                clear hy0
                have HR := Lib.hid hR; clear hR
                gi_wp2
                refine HR.out.mono ?_
                rintro e W3 (⟨rfl, hJ3, hk3⟩ | ⟨rfl, hJx3⟩)
                · have hb3 := kept_new hk3 (.inl rfl)
                  have hc3 : W3.cell? ⟨wr.heap.size, 2, none⟩ = some (.int .i64 9) := by rw [hb3.cell]; rfl
                  clear hk3
                  gi_wp2
                  refine bodyPost_ret (results_none rfl _ _ _) rfl ?_
                  exact ⟨⟨_, rfl⟩, .inl ⟨pre ++ [(0, i, 9)], by rw [hp1.out, line_err he.out (by decide)], hJ3⟩⟩
                · gi_wp2
                  refine bodyPost_ret (results_none rfl _ _ _) rfl ?_
                  exact ⟨⟨_, rfl⟩, .inr ⟨pre ++ [(0, i, 9)], by rw [hp1.out, line_err he.out (by decide)]; exact List.prefix_rfl, hJx3⟩⟩
              · have hJ1 : J pre (wr.alloc (.cells #[.int .i64 0, .int .i64 i, .int .i64 9] 190)) := hJ pre wr _ none hJr (World.grownBy_alloc wr _ none) (fun r e => by cases e)
                obtain ⟨fn, tmps, assign, body, hy0, hR⟩ := hY pre (0, i, 9) _ hJ1 (by omega)
                have hy : (Instr.yield l #[.agg #[.int .i64 0, .int .i64 i, .int .i64 9]]).run Tryz.prog (wr.alloc (.cells #[.int .i64 0, .int .i64 i, .int .i64 9] 190)) = .ok (.round l fn tmps assign body) (wr.alloc (.cells #[.int .i64 0, .int .i64 i, .int .i64 9] 190)) := hy0
                clear hy0
                have HR := Lib.hid hR; clear hR
                gi_wp2
                refine HR.out.mono ?_
                rintro e W3 (⟨rfl, hJ3, hk3⟩ | ⟨rfl, hJx3⟩)
                · have hb3 := kept_new hk3 (.inl rfl)
                  have hc3 : W3.cell? ⟨wr.heap.size, 2, none⟩ = some (.int .i64 9) := by rw [hb3.cell]; rfl
                  clear hk3
                  gi_wp2
                  refine bodyPost_ret (results_none rfl _ _ _) rfl ?_
                  exact ⟨⟨_, rfl⟩, .inl ⟨pre ++ [(0, i, 9)], by rw [hp1.out, line_err he.out (by decide)], hJ3⟩⟩
                · gi_wp2
                  refine bodyPost_ret (results_none rfl _ _ _) rfl ?_
                  exact ⟨⟨_, rfl⟩, .inr ⟨pre ++ [(0, i, 9)], by rw [hp1.out, line_err he.out (by decide)]; exact List.prefix_rfl, hJx3⟩⟩
        · have hje : s.length ≤ i + j := by omega
          have hdg : Hid (digs (s.drop i) = j) := digs_str s i j hij hdj.out (fun h => by rw [str_size] at h; omega)
          have Hdd : Hid ((s.drop i).drop (digs (s.drop i)) = []) := by rw [hdg.out, List.drop_drop, List.drop_eq_nil_of_le (by omega)]; rfl
          rcases Nat.lt_or_ge k 8 with h8 | h8
          · rcases Nat.eq_zero_or_pos j with h0j | h0j
            · subst h0j
              obtain rfl : i = s.length := by omega
              have he : Hid (partErr (8 - k) (s.drop s.length) = 4) := by rw [List.drop_length]; exact partErr_4 (by omega)
              have hJ1 : J pre (wr.alloc (.cells #[.int .i64 0, .int .i64 s.length, .int .i64 4] 190)) := hJ pre wr _ none hJr (World.grownBy_alloc wr _ none) (fun r e => by cases e)
              obtain ⟨fn, tmps, assign, body, hy0, hR⟩ := hY pre (0, s.length, 4) _ hJ1 (by omega)
              have hy : (Instr.yield l #[.agg #[.int .i64 0, .int .i64 s.length, .int .i64 4]]).run Tryz.prog (wr.alloc (.cells #[.int .i64 0, .int .i64 s.length, .int .i64 4] 190)) = .ok (.round l fn tmps assign body) (wr.alloc (.cells #[.int .i64 0, .int .i64 s.length, .int .i64 4] 190)) := hy0
              clear hy0
              have HR := Lib.hid hR; clear hR
              gi_wp2
              refine HR.out.mono ?_
              rintro e W3 (⟨rfl, hJ3, hk3⟩ | ⟨rfl, hJx3⟩)
              · have hb3 := kept_new hk3 (.inl rfl)
                have hc3 : W3.cell? ⟨wr.heap.size, 2, none⟩ = some (.int .i64 4) := by rw [hb3.cell]; rfl
                clear hk3
                gi_wp2
                refine bodyPost_ret (results_none rfl _ _ _) rfl ?_
                exact ⟨⟨_, rfl⟩, .inl ⟨pre ++ [(0, s.length, 4)], by rw [hp1.out, line_err he.out (by decide)], hJ3⟩⟩
              · gi_wp2
                refine bodyPost_ret (results_none rfl _ _ _) rfl ?_
                exact ⟨⟨_, rfl⟩, .inr ⟨pre ++ [(0, s.length, 4)], by rw [hp1.out, line_err he.out (by decide)]; exact List.prefix_rfl, hJx3⟩⟩
            · have hi0 : i < s.length := by omega
              have hpi : i < (str s).size := by rw [str_size]; exact hi0
              have Hdr := Lib.hid (drop_str s i hpi)
              by_cases h48 : (str s)[i]'hpi = 48
              · have he : Hid (partErr (8 - k) (s.drop i) = 3) := by rw [Hdr.out, h48]; exact partErr_3 (by omega) (by rw [← h48, ← Hdr.out, hdg.out]; omega)
                have q0 : ((str s)[i]'hpi).toNat = 48 := by rw [h48]; rfl
                have H48 := Lib.hid h48; clear h48
                have hJ1 : J pre (wr.alloc (.cells #[.int .i64 0, .int .i64 i, .int .i64 3] 190)) := hJ pre wr _ none hJr (World.grownBy_alloc wr _ none) (fun r e => by cases e)
                obtain ⟨fn, tmps, assign, body, hy0, hR⟩ := hY pre (0, i, 3) _ hJ1 (by omega)
                have hy : (Instr.yield l #[.agg #[.int .i64 0, .int .i64 i, .int .i64 3]]).run Tryz.prog (wr.alloc (.cells #[.int .i64 0, .int .i64 i, .int .i64 3] 190)) = .ok (.round l fn tmps assign body) (wr.alloc (.cells #[.int .i64 0, .int .i64 i, .int .i64 3] 190)) := hy0
                clear hy0
                have HR := Lib.hid hR; clear hR
                gi_wp2
                refine HR.out.mono ?_
                rintro e W3 (⟨rfl, hJ3, hk3⟩ | ⟨rfl, hJx3⟩)
                · have hb3 := kept_new hk3 (.inl rfl)
                  have hc3 : W3.cell? ⟨wr.heap.size, 2, none⟩ = some (.int .i64 3) := by rw [hb3.cell]; rfl
                  clear hk3
                  gi_wp2
                  refine bodyPost_ret (results_none rfl _ _ _) rfl ?_
                  exact ⟨⟨_, rfl⟩, .inl ⟨pre ++ [(0, i, 3)], by rw [hp1.out, line_err he.out (by decide)], hJ3⟩⟩
                · gi_wp2
                  refine bodyPost_ret (results_none rfl _ _ _) rfl ?_
                  exact ⟨⟨_, rfl⟩, .inr ⟨pre ++ [(0, i, 3)], by rw [hp1.out, line_err he.out (by decide)]; exact List.prefix_rfl, hJx3⟩⟩
              · have q0 : ((str s)[i]'hpi).toNat ≠ 48 := fun h => h48 (UInt8.toNat_inj.1 (by rw [h]; rfl))
                have H48 := Lib.hid h48; clear h48
                rcases Nat.lt_or_ge 6 j with h6 | h6
                · have he : Hid (partErr (8 - k) (s.drop i) = 2) := by rw [Hdr.out]; exact partErr_2 (by omega) H48.out (by rw [← Hdr.out, hdg.out]; omega)
                  have hJ1 : J pre (wr.alloc (.cells #[.int .i64 0, .int .i64 i, .int .i64 2] 190)) := hJ pre wr _ none hJr (World.grownBy_alloc wr _ none) (fun r e => by cases e)
                  obtain ⟨fn, tmps, assign, body, hy0, hR⟩ := hY pre (0, i, 2) _ hJ1 (by omega)
                  have hy : (Instr.yield l #[.agg #[.int .i64 0, .int .i64 i, .int .i64 2]]).run Tryz.prog (wr.alloc (.cells #[.int .i64 0, .int .i64 i, .int .i64 2] 190)) = .ok (.round l fn tmps assign body) (wr.alloc (.cells #[.int .i64 0, .int .i64 i, .int .i64 2] 190)) := hy0
                  clear hy0
                  have HR := Lib.hid hR; clear hR
                  gi_wp2
                  refine HR.out.mono ?_
                  rintro e W3 (⟨rfl, hJ3, hk3⟩ | ⟨rfl, hJx3⟩)
                  · have hb3 := kept_new hk3 (.inl rfl)
                    have hc3 : W3.cell? ⟨wr.heap.size, 2, none⟩ = some (.int .i64 2) := by rw [hb3.cell]; rfl
                    clear hk3
                    gi_wp2
                    refine bodyPost_ret (results_none rfl _ _ _) rfl ?_
                    exact ⟨⟨_, rfl⟩, .inl ⟨pre ++ [(0, i, 2)], by rw [hp1.out, line_err he.out (by decide)], hJ3⟩⟩
                  · gi_wp2
                    refine bodyPost_ret (results_none rfl _ _ _) rfl ?_
                    exact ⟨⟨_, rfl⟩, .inr ⟨pre ++ [(0, i, 2)], by rw [hp1.out, line_err he.out (by decide)]; exact List.prefix_rfl, hJx3⟩⟩
                · have he : Hid (partErr (8 - k) (s.drop i) = 0) := by rw [Hdr.out]; exact partErr_0 (by omega) H48.out (by rw [← Hdr.out, hdg.out]; omega) (by rw [← Hdr.out, hdg.out]; omega)
                  have hlt' : j ≤ (s.drop i).length := by rw [List.length_drop]; omega
                  have hx : (str s).extract i (i + j) = str ((s.drop i).take j) := by rw [str_extract]; congr 2; omega
                  have hat := atoi_any ((s.drop i).take j) (wr.alloc (.cells #[.int .i64 0, .int .i64 i, .int .i64 0] 190)) (by rw [List.length_take]; omega) (by rw [List.length_take]; omega) (by have := digs_digit (s.drop i); rwa [hdg.out] at this)
                  obtain ⟨V, hV⟩ : ∃ V, decOf ((s.drop i).take j) = V := ⟨_, rfl⟩
                  rw [hV] at hat
                  have hV' : Hid (decOf ((s.drop i).take (digs (s.drop i))) = V) := by rw [hdg.out]; exact hV
                  clear hV
                  have Hat := Lib.hid hat; clear hat
                  gi_wp2_with (refine ⟨trivial, ?_⟩; gi_at_call 145; refine (callsIn_wide.2 Hat.out).mono ?_; rintro e w1 ⟨rfl, hb1⟩; have bk1 := (Blk.new wr #[.int .i64 0, .int .i64 i, .int .i64 0] 190).below hb1 (by simp); obtain ⟨c0, c1, c2, f0, f1, f2⟩ := bk1.three; have bk2 : Blk (w1.setCell ⟨wr.heap.size, 0, none⟩ (.int .i64 V)) wr.heap.size #[.int .i64 V, .int .i64 i, .int .i64 0] 190 := (bk1.set 0 _).congr rfl; obtain ⟨e0, e1, e2, g0, g1, g2⟩ := bk2.three; have hbb : Below wr.heap.size wr (w1.setCell ⟨wr.heap.size, 0, none⟩ (.int .i64 V)) := (((Below.refl _ wr).alloc (Nat.le_refl _) _).trans (hb1.mono (by simp))).setCell (Nat.le_refl _) _; obtain ⟨fn, tmps, assign, body, hy0, hR⟩ := hY pre (V, i, 0) _ (hJ pre wr _ none hJr (grown_of_below hbb) (fun r e => by cases e)) (by omega); have hy : (Instr.yield l #[.agg #[.int .i64 V, .int .i64 i, .int .i64 0]]).run Tryz.prog (w1.setCell ⟨wr.heap.size, 0, none⟩ (.int .i64 V)) = .ok (.round l fn tmps assign body) (w1.setCell ⟨wr.heap.size, 0, none⟩ (.int .i64 V)) := hy0; clear hy0; have HR := Lib.hid hR; clear hR; clear hb1; have Hbb := Lib.hid hbb; clear hbb)
                  refine HR.out.mono ?_
                  have hBr2 : Boxed (w1.setCell ⟨wr.heap.size, 0, none⟩ (.int .i64 V)) Bs 9 (.string (str s)) := hBr.kept (grown_of_below Hbb.out) (by simp)
                  rintro e W3 (⟨rfl, hJ3, hk3⟩ | ⟨rfl, hJx3⟩)
                  · have hb3 : Blk W3 wr.heap.size #[.int .i64 V, .int .i64 i, .int .i64 0] 190 := (hk3 _ _ _ _ bk2 (.inl rfl)).trans bk2
                    have hB3 : Boxed W3 Bs 9 (.string (str s)) := (hk3 _ _ _ _ hBr2 (.inr rfl)).trans hBr2
                    have hc3 : W3.cell? ⟨wr.heap.size, 2, none⟩ = some (.int .i64 0) := by rw [hb3.cell]; rfl
                    have hcs3 := hB3.cell
                    clear hk3 bk1 bk2 c0 c1 c2 f0 f1 f2 e0 e1 e2 g0 g1 g2 hy
                    gi_wp2
                    refine bodyPost_ret (results_none rfl _ _ _) rfl ?_
                    exact ⟨⟨_, rfl⟩, .inl ⟨pre ++ [(V, i, 0)], by rw [hp1.out, line_end he.out Hdd.out, hV'.out], hJ3⟩⟩
                  · gi_wp2
                    refine bodyPost_ret (results_none rfl _ _ _) rfl ?_
                    exact ⟨⟨_, rfl⟩, .inr ⟨pre ++ [(V, i, 0)], by rw [hp1.out, line_end he.out Hdd.out, hV'.out]; exact List.prefix_rfl, hJx3⟩⟩
          · obtain rfl : k = 8 := by omega
            have he : Hid (partErr (8 - 8) (s.drop i) = 9) := partErr_9 _
            have hJ1 : J pre (wr.alloc (.cells #[.int .i64 0, .int .i64 i, .int .i64 9] 190)) := hJ pre wr _ none hJr (World.grownBy_alloc wr _ none) (fun r e => by cases e)
            obtain ⟨fn, tmps, assign, body, hy0, hR⟩ := hY pre (0, i, 9) _ hJ1 (by omega)
            have hy : (Instr.yield l #[.agg #[.int .i64 0, .int .i64 i, .int .i64 9]]).run Tryz.prog (wr.alloc (.cells #[.int .i64 0, .int .i64 i, .int .i64 9] 190)) = .ok (.round l fn tmps assign body) (wr.alloc (.cells #[.int .i64 0, .int .i64 i, .int .i64 9] 190)) := hy0
            clear hy0
            have HR := Lib.hid hR; clear hR
            gi_wp2
            refine HR.out.mono ?_
            rintro e W3 (⟨rfl, hJ3, hk3⟩ | ⟨rfl, hJx3⟩)
            · have hb3 := kept_new hk3 (.inl rfl)
              have hc3 : W3.cell? ⟨wr.heap.size, 2, none⟩ = some (.int .i64 9) := by rw [hb3.cell]; rfl
              clear hk3
              gi_wp2
              refine bodyPost_ret (results_none rfl _ _ _) rfl ?_
              exact ⟨⟨_, rfl⟩, .inl ⟨pre ++ [(0, i, 9)], by rw [hp1.out, line_err he.out (by decide)], hJ3⟩⟩
            · gi_wp2
              refine bodyPost_ret (results_none rfl _ _ _) rfl ?_
              exact ⟨⟨_, rfl⟩, .inr ⟨pre ++ [(0, i, 9)], by rw [hp1.out, line_err he.out (by decide)]; exact List.prefix_rfl, hJx3⟩⟩
end Go.Proofs.YtgonfcdmaoeboaaGreatDoor

/- lineage.parse. -/
namespace Go.Proofs.YtgonfcdmaoeboaaGreatDoor
open Go.RowKit Go.Shelf
attribute [local go_sem] Oper.semAt_some

set_option maxRecDepth 100000 in
set_option maxHeartbeats 400000 in
theorem parts_in (n : Nat) (s : List UInt8) (w : World) :
    CallsIn Fence.wide n Tryz.prog 114 #[.string (str s)] w fun e w' => e = .returned (.func (.func 144) #[] #[.pointer (some ⟨w.heap.size, 0, none⟩)]) ∧ w' = w.alloc (.cells #[.string (str s)] 9) := by
  refine callsIn_of_wp Tryz.func114 rfl trivial ?_ rfl
  simp only [Tryz.ntmps114, List.size_toArray, List.length_cons, List.length_nil, Nat.reduceAdd, Nat.reduceSub, Array.replicate_succ, Array.replicate_zero, List.push_toArray, List.append_toArray, List.nil_append, List.cons_append]
  gi_wp2
  go_ret
  exact ⟨rfl, rfl⟩

theorem parts_stops (n : Nat) (hn : 1 ≤ n) (Bn : Nat) (s : List UInt8) (hlen : s.length ≤ 1000000000) (w : World) (hBn : Boxed w Bn 9 (.string (str s))) :
    SeqStopsK Fence.wide n Tryz.prog 144 #[.pointer (some ⟨Bn, 0, none⟩)] (fun x : Part => #[encPart x]) (KeepsTypes 190 9) (fun ys => ys = parts s) (fun pre => pre <+: parts s) 10 w := fun l J Jx W hW hJ _ hY h0 =>
  parts1_in n l Bn hn s hlen J Jx hY W hJ ((hW.block Bn hBn.lt).trans hBn) h0

theorem boxed_kept {W W' : World} {row : Option Nat} {B B0 : Nat} {t : TypeId} {v : Value} (h : Boxed W B t v) (hg : W.grownBy W' row) (hr : ∀ r, row = some r → B0 ≤ r ∧ ∃ o : Obj, W.heap[r]? = some o ∧ o.isCells = false) : Boxed W' B t v :=
  h.kept hg (fun e' => by obtain ⟨_, o, ho, hc⟩ := hr B e'.symm; rw [show W.heap[B]? = _ from h] at ho; cases ho; cases hc)
theorem blk_kept {W W' : World} {row : Option Nat} {B B0 : Nat} {t : TypeId} {v : Array Value} (h : Blk W B v t) (hg : W.grownBy W' row) (hr : ∀ r, row = some r → B0 ≤ r ∧ ∃ o : Obj, W.heap[r]? = some o ∧ o.isCells = false) : Blk W' B v t :=
  h.grown hg (fun e' => by obtain ⟨_, o, ho, hc⟩ := hr B e'.symm; rw [show W.heap[B]? = _ from h] at ho; cases ho; cases hc)

theorem Tryz.info3 : (Tryz.prog.info? 3).map (fun i => (i.zero, i.size, i.bytes)) = some (some (.int .i64 0), 1, 8) := by kernel_rfl

theorem below_kept {B B0 : Nat} {w W W' : World} {row : Option Nat} (h : Below B w W) (hg : W.grownBy W' row) (hB : B ≤ w.heap.size) (hB0 : B ≤ B0) (hr : ∀ r, row = some r → B0 ≤ r ∧ ∃ o : Obj, W.heap[r]? = some o ∧ o.isCells = false) : Below B w W' :=
  ownFrom_below hB hB0 () W W' row h hg hr
theorem okParts_snoc {pre : List Part} {x : Part} (h : okParts pre) (hx : x.2.2 = 0) : okParts (pre ++ [x]) := by
  intro p hp
  rcases List.mem_append.1 hp with hp | hp
  · exact h p hp
  · simp at hp; subst hp; exact hx
theorem KeepsTypes.of {t1 t2 : TypeId} {W W' : World} {row : Option Nat} (hg : W.grownBy W' row) (hr : ∀ r cs t o, row = some r → W.heap[r]? = some (Obj.cells cs t o) → t ≠ t1 ∧ t ≠ t2) : KeepsTypes t1 t2 W W' := fun b cs t o hb ht =>
  hg.block b (Array.getElem?_eq_some_iff.1 hb).1 (fun e => by
    have := hr b cs t o e.symm hb
    rcases ht with ht | ht
    · exact this.1 ht
    · exact this.2 ht)
theorem KeepsTypes.setBox {t1 t2 t : TypeId} {W : World} {B : Nat} {v : Value} (h : Boxed W B t v) (h1 : t ≠ t1) (h2 : t ≠ t2) (u : Value) : KeepsTypes t1 t2 W (W.setCell ⟨B, 0, none⟩ u) :=
  KeepsTypes.of (grownBy_setCell' W B u) (fun r cs t' o e hb => by
    cases e
    rw [show W.heap[B]? = _ from h] at hb
    cases hb
    exact ⟨h1, h2⟩)

theorem app_all {W w1 : World} {n₀ B Bb : Nat} {t e t1 t2 : TypeId} {size k m : Nat} {v v' : Value} {xs ys : List Value} {tmp : Obj} (hv : Boxed W B t v) (hBn : B < n₀) (hBb : Bb ≤ B) (hBW : Bb ≤ W.heap.size)
    (hrow : W.ownsRow n₀ e size v k xs) (hown' : w1.ownsRow n₀ e size v' m ys) (hgrow : (W.alloc tmp).grownBy w1 v.ownBlock) (ht : t ≠ t1 ∧ t ≠ t2) (he : e ≠ t1 ∧ e ≠ t2) :
    Boxed w1 B t v ∧ Boxed (w1.setCell ⟨B, 0, none⟩ v') B t v' ∧ (w1.setCell ⟨B, 0, none⟩ v').ownsRow n₀ e size v' m ys ∧ KeepsOthers W (w1.setCell ⟨B, 0, none⟩ v') ∧ Below Bb W (w1.setCell ⟨B, 0, none⟩ v') ∧
    KeepsTypes t1 t2 W (w1.setCell ⟨B, 0, none⟩ v') ∧ ∀ b u tt, Boxed W b tt u → b < n₀ → b ≠ B → Boxed (w1.setCell ⟨B, 0, none⟩ v') b tt u := by
  have hv1 : Boxed w1 B t v := (hv.alloc tmp).kept hgrow (owns_ne hrow hBn)
  have hblk : ∀ j (o : Obj), v.ownBlock = some j → (W.alloc tmp).heap[j]? = some o → (∃ cs fr, o = .cells cs e fr) ∧ n₀ ≤ j := by
    intro j o ej hj
    rcases (hrow.alloc tmp).2 with ⟨rfl, _⟩ | ⟨g, cap, cur, rfl, hng, hgb, _⟩
    · simp [Value.ownBlock] at ej
    · obtain rfl : g = j := by simpa [Value.ownBlock] using ej
      rw [hgb] at hj; cases hj; exact ⟨⟨_, _, rfl⟩, hng⟩
  refine ⟨hv1, hv1.set v', hown'.kept (grownBy_setCell' w1 B v') (.inr (owns_ne hown' hBn).symm), ?_, ?_, ?_, ?_⟩
  · refine ((KeepsOthers.alloc W tmp).trans (KeepsOthers.of_grownBy hgrow fun j o ej hj => ?_)).trans (KeepsOthers.setCell _ _ _)
    obtain ⟨⟨cs, fr, rfl⟩, _⟩ := hblk j o ej hj
    rfl
  · refine (((Below.refl Bb W).alloc hBW tmp).grown hgrow (by simp; omega) fun j ej => ?_).setCell (p := ⟨B, 0, none⟩) hBb v'
    rcases hrow.2 with ⟨rfl, _⟩ | ⟨g, cap, cur, rfl, hng, hgb, _⟩
    · simp [Value.ownBlock] at ej
    · obtain rfl : g = j := by simpa [Value.ownBlock] using ej
      omega
  · refine ((KeepsTypes.of (World.grownBy_alloc W tmp none) (fun r _ _ _ e => by cases e)).trans (KeepsTypes.of hgrow fun j cs t' fr ej hj => ?_)).trans (KeepsTypes.setBox hv1 ht.1 ht.2 v')
    obtain ⟨⟨cs', fr', h⟩, _⟩ := hblk j _ ej hj
    cases h
    exact he
  · intro b u tt hb hbn hne
    exact ((hb.alloc tmp).kept hgrow (owns_ne hrow hbn)).other hne v'

def lineI (w : World) (pre : List Part) (W : World) : Prop :=
  okParts pre ∧ (∃ v, Boxed W (w.heap.size + 1 + 1 + 1) 44 v ∧ W.ownsRow (w.heap.size + 5) 3 1 v pre.length (pre.map fun p => Value.int .i64 p.1)) ∧
  Boxed W w.heap.size 44 (.slice none 0 0) ∧ Boxed W (w.heap.size + 1) 3 (.int .i64 0) ∧ Boxed W (w.heap.size + 1 + 1) 27 (.int .i64 0) ∧ Below w.heap.size w W
def lineIx (w : World) (c : Code) (pre : List Part) (W : World) : Prop :=
  c = .ret ∧ ∃ ini x, pre = ini ++ [x] ∧ okParts ini ∧ x.2.2 ≠ 0 ∧
  Boxed W w.heap.size 44 (.slice none 0 0) ∧ Boxed W (w.heap.size + 1) 3 (.int .i64 x.2.1) ∧ Boxed W (w.heap.size + 1 + 1) 27 (.int .i64 x.2.2) ∧ Below w.heap.size w W
theorem lineI_own (w : World) (B0 : Nat) (hB0 : w.heap.size ≤ B0) : OwnFrom B0 (lineI w) := by
  rintro pre W W' row ⟨h1, ⟨v, hv, hrow⟩, b1, b2, b3, hb⟩ hg hr
  refine ⟨h1, ?_, boxed_kept b1 hg hr, boxed_kept b2 hg hr, boxed_kept b3 hg hr, below_kept hb hg (Nat.le_refl _) hB0 hr⟩
  exact holdsRow_own (w.heap.size + 5) (w.heap.size + 1 + 1 + 1) 44 3 1 (fun pre : List Part => pre.length) (fun pre => pre.map fun p => Value.int .i64 p.1) (fun _ _ => True) pre W W' row ⟨v, hv, hrow, trivial⟩ hg (fun r e => (hr r e).2) |>.imp fun v h => ⟨h.1, h.2.1⟩
theorem lineIx_own (w : World) (B0 : Nat) (hB0 : w.heap.size ≤ B0) (c : Code) : OwnFrom B0 (lineIx w c) := by
  rintro pre W W' row ⟨h1, ini, x, h2, h3, h4, b1, b2, b3, hb⟩ hg hr
  exact ⟨h1, ini, x, h2, h3, h4, boxed_kept b1 hg hr, boxed_kept b2 hg hr, boxed_kept b3 hg hr, below_kept hb hg (Nat.le_refl _) hB0 hr⟩

theorem three_stores {w W : World} {xo xa xe : Nat} {pre : List Part} (h1 : okParts pre) (hx : xe ≠ 0) (c1 : Boxed W w.heap.size 44 (.slice none 0 0)) (c2 : Boxed W (w.heap.size + 1) 3 (.int .i64 0)) (c3 : Boxed W (w.heap.size + 1 + 1) 27 (.int .i64 0)) (hB : Below w.heap.size w W) (B0 : Nat) :
    KeepsFrom B0 W (((W.setCell ⟨w.heap.size, 0, none⟩ (.slice none 0 0)).setCell ⟨w.heap.size + 1, 0, none⟩ (.int .i64 xa)).setCell ⟨w.heap.size + 1 + 1, 0, none⟩ (.int .i64 xe)).drew ∧
    lineIx w .ret (pre ++ [(xo, xa, xe)]) (((W.setCell ⟨w.heap.size, 0, none⟩ (.slice none 0 0)).setCell ⟨w.heap.size + 1, 0, none⟩ (.int .i64 xa)).setCell ⟨w.heap.size + 1 + 1, 0, none⟩ (.int .i64 xe)).drew := by
  refine ⟨((((KeepsOthers.setCell W _ _).trans (KeepsOthers.setCell _ _ _)).trans (KeepsOthers.setCell _ _ _)).trans (KeepsOthers.drew _)).from _, rfl, pre, (xo, xa, xe), rfl, h1, hx, ?_, ?_, ?_, ?_⟩
  · exact ((c1.set _).other (by omega) _).other (by omega) _
  · exact ((c2.other (by omega) _).set _).other (by omega) _
  · exact ((c3.other (by omega) _).other (by omega) _).set _
  · exact (((hB.setCell (p := ⟨w.heap.size, 0, none⟩) (Nat.le_refl _) _).setCell (p := ⟨w.heap.size + 1, 0, none⟩) (by simp) _).setCell (p := ⟨w.heap.size + 1 + 1, 0, none⟩) (by simp; omega) _).drew

theorem done_stores {w W : World} {D k : Nat} {v u : Value} {xs : List Value} (hD : w.heap.size + 5 ≤ D) (c1 : Boxed W w.heap.size 44 u) (c2 : Boxed W (w.heap.size + 1) 3 (.int .i64 0)) (c3 : Boxed W (w.heap.size + 1 + 1) 27 (.int .i64 0)) (hB : Below w.heap.size w W)
    (hrow : W.ownsRow (w.heap.size + 5) 3 1 v k xs) (hK : W.heap[D]? = some (.deferred (some []))) :
    ∃ W3, W3 = ((W.setCell ⟨w.heap.size, 0, none⟩ v).setCell ⟨w.heap.size + 1, 0, none⟩ (.int .i64 0)).setCell ⟨w.heap.size + 1 + 1, 0, none⟩ (.int .i64 0) ∧ W3.heap[D]? = some (.deferred (some [])) ∧
      (W3.putObj D (.deferred none)).cell? ⟨w.heap.size, 0, none⟩ = some v ∧ (W3.putObj D (.deferred none)).cell? ⟨w.heap.size + 1, 0, none⟩ = some (.int .i64 0) ∧ (W3.putObj D (.deferred none)).cell? ⟨w.heap.size + 1 + 1, 0, none⟩ = some (.int .i64 0) ∧
      Below w.heap.size w (W3.putObj D (.deferred none)) ∧ (W3.putObj D (.deferred none)).ownsRow w.heap.size 3 1 v k xs := by
  refine ⟨_, rfl, ?_⟩
  have hK3 := (((KeepsOthers.setCell W ⟨w.heap.size, 0, none⟩ v).trans (KeepsOthers.setCell _ ⟨w.heap.size + 1, 0, none⟩ (.int .i64 0))).trans (KeepsOthers.setCell _ ⟨w.heap.size + 1 + 1, 0, none⟩ (.int .i64 0))).same D _ hK rfl
  have b1 := ((c1.set v).other (show w.heap.size ≠ w.heap.size + 1 by omega) (.int .i64 0)).other (show w.heap.size ≠ w.heap.size + 1 + 1 by omega) (.int .i64 0)
  have b2 := ((c2.other (show w.heap.size + 1 ≠ w.heap.size by omega) v).set (.int .i64 0)).other (show w.heap.size + 1 ≠ w.heap.size + 1 + 1 by omega) (.int .i64 0)
  have b3 := ((c3.other (show w.heap.size + 1 + 1 ≠ w.heap.size by omega) v).other (show w.heap.size + 1 + 1 ≠ w.heap.size + 1 by omega) (.int .i64 0)).set (.int .i64 0)
  have hr : ∀ {x : Value} {B : Nat} {t : TypeId}, Boxed (((W.setCell ⟨w.heap.size, 0, none⟩ v).setCell ⟨w.heap.size + 1, 0, none⟩ (.int .i64 0)).setCell ⟨w.heap.size + 1 + 1, 0, none⟩ (.int .i64 0)) B t x → (World.putObj (((W.setCell ⟨w.heap.size, 0, none⟩ v).setCell ⟨w.heap.size + 1, 0, none⟩ (.int .i64 0)).setCell ⟨w.heap.size + 1 + 1, 0, none⟩ (.int .i64 0)) D (.deferred none)).cell? ⟨B, 0, none⟩ = some x := fun h =>
    cell_kept h.cell (grownBy_putObj' _ D (.deferred none)) (fun r e => by cases e; exact ⟨_, hK3, rfl⟩)
  refine ⟨hK3, hr b1, hr b2, hr b3, ?_, ?_⟩
  · have hB3 := ((hB.setCell (p := ⟨w.heap.size, 0, none⟩) (Nat.le_refl _) v).setCell (p := ⟨w.heap.size + 1, 0, none⟩) (by simp) (.int .i64 0)).setCell (p := ⟨w.heap.size + 1 + 1, 0, none⟩) (by simp; omega) (.int .i64 0)
    exact hB3.trans (belowK_b (w := w) (Nat.le_refl _) _ D _ _ (by omega) hK3 rfl rfl)
  · have h1 := hrow.kept (grownBy_setCell' W w.heap.size v) (.inr (owns_ne hrow (by omega)).symm)
    have h2 := h1.kept (grownBy_setCell' _ (w.heap.size + 1) (.int .i64 0)) (.inr (owns_ne h1 (by omega)).symm)
    have h3 := h2.kept (grownBy_setCell' _ (w.heap.size + 1 + 1) (.int .i64 0)) (.inr (owns_ne h2 (by omega)).symm)
    exact owns_mono (ownsRow_putObj h3 _ hK3 rfl) (by omega)
theorem stop_put {w W : World} {D : Nat} {u x y : Value} {t1 t2 t3 : TypeId} (hD : w.heap.size + 5 ≤ D) (c1 : Boxed W w.heap.size t1 u) (c2 : Boxed W (w.heap.size + 1) t2 x) (c3 : Boxed W (w.heap.size + 1 + 1) t3 y) (hB : Below w.heap.size w W)
    (hK : W.heap[D]? = some (.deferred (some []))) :
      (W.putObj D (.deferred none)).cell? ⟨w.heap.size, 0, none⟩ = some u ∧ (W.putObj D (.deferred none)).cell? ⟨w.heap.size + 1, 0, none⟩ = some x ∧ (W.putObj D (.deferred none)).cell? ⟨w.heap.size + 1 + 1, 0, none⟩ = some y ∧
      Below w.heap.size w (W.putObj D (.deferred none)) := by
  have hr : ∀ {x : Value} {B : Nat} {t : TypeId}, Boxed W B t x → (W.putObj D (.deferred none)).cell? ⟨B, 0, none⟩ = some x := fun h =>
    cell_kept h.cell (grownBy_putObj' _ D (.deferred none)) (fun r e => by cases e; exact ⟨_, hK, rfl⟩)
  exact ⟨hr c1, hr c2, hr c3, hB.trans (belowK_b (w := w) (Nat.le_refl _) _ D _ _ (by omega) hK rfl rfl)⟩

set_option maxRecDepth 100000 in
set_option maxHeartbeats 4000000 in
theorem lineParse_any (s : List UInt8) (w : World) (hlen : s.length ≤ 1000000000) :
    Calls Tryz.prog 77 #[.string (str s)] w fun e w' => Below w.heap.size w w' ∧
      ((∃ p, lineErr s = some p ∧ e = .returned (.tuple #[.slice none 0 0, .int .i64 p.2.1, .int .i64 p.2.2])) ∨
       (lineErr s = none ∧ ∃ v, e = .returned (.tuple #[v, .int .i64 0, .int .i64 0]) ∧ w'.ownsRow w.heap.size 3 1 v (lineOrds s).length ((lineOrds s).map fun (n : Nat) => Value.int .i64 n))) := by
  refine (callsIn_wide (n := 9)).1 ?_
  obtain ⟨i0, hi, hz0, hz1, hz2⟩ := info_parts Tryz.info3
  refine callsIn_of_wp_marks Tryz.func77 rfl trivial ?_ rfl
  simp only [Tryz.ntmps77, List.size_toArray, List.length_cons, List.length_nil, Nat.reduceAdd, Nat.reduceSub, Array.replicate_succ, Array.replicate_zero, List.push_toArray, List.append_toArray, List.nil_append, List.cons_append]
  gi_wp2_with (refine ⟨trivial, ?_⟩; gi_at_call 114; refine (parts_in _ s _).mono ?_; rintro e w' ⟨rfl, rfl⟩)
  have b1 := ((((Boxed.new w 44 (.slice none 0 0)).alloc (.cells #[.int .i64 0] 3)).alloc (.cells #[.int .i64 0] 27)).alloc (.cells #[.slice none 0 0] 44)).alloc (.cells #[.string (str s)] 9)
  have b2 := (((Boxed.new (w.alloc (.cells #[.slice none 0 0] 44)) 3 (.int .i64 0)).alloc (.cells #[.int .i64 0] 27)).alloc (.cells #[.slice none 0 0] 44)).alloc (.cells #[.string (str s)] 9)
  have b3 := ((Boxed.new ((w.alloc (.cells #[.slice none 0 0] 44)).alloc (.cells #[.int .i64 0] 3)) 27 (.int .i64 0)).alloc (.cells #[.slice none 0 0] 44)).alloc (.cells #[.string (str s)] 9)
  have b4 := (Boxed.new (((w.alloc (.cells #[.slice none 0 0] 44)).alloc (.cells #[.int .i64 0] 3)).alloc (.cells #[.int .i64 0] 27)) 44 (.slice none 0 0)).alloc (.cells #[.string (str s)] 9)
  have b5 := Boxed.new ((((w.alloc (.cells #[.slice none 0 0] 44)).alloc (.cells #[.int .i64 0] 3)).alloc (.cells #[.int .i64 0] 27)).alloc (.cells #[.slice none 0 0] 44)) 9 (.string (str s))
  simp only [World.size_alloc] at b2 b3 b4 b5
  have hB0 : Below w.heap.size w (((((w.alloc (.cells #[.slice none 0 0] 44)).alloc (.cells #[.int .i64 0] 3)).alloc (.cells #[.int .i64 0] 27)).alloc (.cells #[.slice none 0 0] 44)).alloc (.cells #[.string (str s)] 9)) :=
    (((((Below.refl _ w).alloc (Nat.le_refl _) _).alloc (by simp) _).alloc (by simp; omega) _).alloc (by simp; omega) _).alloc (by simp; omega) _
  have hsz : (((((w.alloc (.cells #[.slice none 0 0] 44)).alloc (.cells #[.int .i64 0] 3)).alloc (.cells #[.int .i64 0] 27)).alloc (.cells #[.slice none 0 0] 44)).alloc (.cells #[.string (str s)] 9)).heap.size = w.heap.size + 5 := by simp
  obtain ⟨W0, hW0⟩ : ∃ W0, ((((w.alloc (.cells #[.slice none 0 0] 44)).alloc (.cells #[.int .i64 0] 3)).alloc (.cells #[.int .i64 0] 27)).alloc (.cells #[.slice none 0 0] 44)).alloc (.cells #[.string (str s)] 9) = W0 := ⟨_, rfl⟩
  rw [hW0] at b1 b2 b3 b4 b5 hB0 hsz ⊢
  clear hW0
  refine wpIn_rangeFunc_ownH rfl (by decide) (gf := 144) (lb := #[.pointer (some ⟨w.heap.size + 1 + 1 + 1 + 1, 0, none⟩)]) rfl trivial (enters_of Tryz.func144 (by kernel_rfl) rfl)
    (parts_stops _ (by decide) (w.heap.size + 1 + 1 + 1 + 1) s hlen W0 b5) KeepsTypes.trans (fun W l o o' _ h ho _ => KeepsTypes.putObj W l o o' h ho) (Below.refl _ _) (fun _ => rfl)
    (lineI w) (lineIx w) (lineI_own w _ (by omega)) (fun c => lineIx_own w _ (by omega) c)
    ⟨(fun _ h => by simp at h), ⟨_, b4, World.ownsRow_nil _ _ _ _⟩, b1, b2, b3, hB0⟩
    (fun x a' W => ∃ Bx, w.heap.size + 1 + 1 + 1 < Bx ∧ Blk W Bx #[.int .i64 x.1, .int .i64 x.2.1, .int .i64 x.2.2] 190 ∧ a' = { tmps := #[.string (str s), undef, .pointer (some ⟨w.heap.size, 0, none⟩), .pointer (some ⟨w.heap.size + 1, 0, none⟩), .pointer (some ⟨w.heap.size + 1 + 1, 0, none⟩), .pointer (some ⟨w.heap.size + 1 + 1 + 1, 0, none⟩), .pointer (some ⟨Bx, 0, none⟩), .string (str s), .func (.func 144) #[] #[.pointer (some ⟨w.heap.size + 1 + 1 + 1 + 1, 0, none⟩)], (.agg #[.int .i64 x.1, .int .i64 x.2.1, .int .i64 x.2.2]), undef, undef, undef, undef, undef, undef, undef, undef, undef, undef, undef, undef, undef], defers := [] })
    (fun x a' _ X Y row hs hg hr => by obtain ⟨Bx, h1, h2, h3⟩ := hs; exact ⟨Bx, h1, blk_kept h2 hg hr, h3⟩)
    ?assign ?body ?done ?stop
  case assign =>
    rintro l pre x W K ⟨h1, ⟨v, hv, hrow⟩, c1, c2, c3, hB1⟩ hK
    dsimp only [encPart]
    gi_wp2
    exact hK _ _ ((KeepsOthers.alloc _ _).from _) (KeepsTypes.of (World.grownBy_alloc W _ none) (fun r _ _ _ e => by cases e)) ⟨h1, ⟨v, hv.alloc _, hrow.alloc _⟩, c1.alloc _, c2.alloc _, c3.alloc _, hB1.alloc hB1.size _⟩
      ⟨W.heap.size, hv.lt, Blk.new W _ _, rfl⟩
  case body =>
    rintro l pre x a' W hl ⟨r, hr⟩ ⟨h1, ⟨v, hv, hrow⟩, c1, c2, c3, hB1⟩ ⟨Bx, hBx, bX, rfl⟩ hlt
    obtain ⟨xo, xa, xe⟩ := x
    obtain ⟨x0, x1, x2, _, _, _⟩ := bX.three
    dsimp only at x0 x1 x2
    have hvc := hv.cell
    have H1 := Lib.hid h1; clear h1
    have Hr := Lib.hid hr; clear hr
    have hsW := hB1.size
    have hml : pre.length + 1 ≤ maxLen := by unfold maxLen; omega
    clear hsz b1 b2 b3 b4 b5 hB0
    by_cases hx : xe = 0
    · subst hx
      gi_wp2_with (gi_at_builtin; refine wpListIn_append_own _ rfl _ _ 44 rfl (w.heap.size + 5) 3 i0 (.int .i64 0) 1 8 Tryz.underlying44 hi hz0 hz1 hz2 rfl (by decide) _ _ _ rfl (hrow.alloc _) ⟨W.heap.size, 0, none⟩ 1 1 [.int .i64 xo] rfl rfl (cell_one_new _ _ _) (by simp [Value.oneCell']) (by omega) (by omega) (by have := bX.lt; simp; omega) ?_; intro v' w1 hown' hgrow _; obtain ⟨g', cap', rfl⟩ := ownsRow_succ hown'; obtain ⟨hv1, hv2, hr2, hk2, hb2, hkt2, hbx2⟩ := app_all (t1 := 190) (t2 := 9) (Bb := w.heap.size) hv (by omega) (by omega) hsW hrow hown' hgrow (by decide) (by decide); have hc1 := hv1.cell; have hf1 := hv1.frozen)
      exact ⟨hk2.from _, hkt2, ⟨okParts_snoc H1.out rfl, ⟨_, hv2, owns_eq hr2 (by simp) (by simp)⟩, hbx2 _ _ _ c1 (by omega) (by omega), hbx2 _ _ _ c2 (by omega) (by omega), hbx2 _ _ _ c3 (by omega) (by omega), hB1.trans hb2⟩⟩
    · have q : ((xe : Int) == 0) = false := by simp; omega
      have q' : ((xe : Int) != 0) = true := by simp; omega
      have e1 := c1.cell
      have e2 := c2.cell
      have e3 := c3.cell
      have g1 := c1.frozen
      have g2 := c2.frozen
      have g3 := c3.frozen
      have hfo : Tryz.prog.follows Departure.mixedOrders = true := by kernel_rfl
      have hd := three_stores (xo := xo) (xa := xa) (xe := xe) H1.out hx c1 c2 c3 hB1 W0.heap.size
      have Hd := Lib.hid hd; clear hd
      clear c1 c2 c3 hB1 hv hrow hx
      gi_wp2
      gi_region_o
      all_goals gi_wp2
      all_goals exact Hd.out
  case done =>
    rintro D ys W hD rfl ⟨h1, ⟨v, hv, hrow⟩, c1, c2, c3, hB1⟩ hK
    obtain ⟨va, vc, rfl⟩ := owns_slice hrow
    obtain ⟨W3, hW3, hK3, k1, k2, k3, hB3, hr3⟩ := done_stores (by omega) c1 c2 c3 hB1 hrow hK
    have HW3 := Lib.hid hW3; clear hW3
    have hvc := hv.cell
    have e1 := c1.cell
    have e2 := c2.cell
    have e3 := c3.cell
    have g1 := c1.frozen
    have g2 := c2.frozen
    have g3 := c3.frozen
    clear hsz
    gi_wp2
    rw [← HW3.out]
    refine ⟨by simp, .inl ⟨_, _, rfl, run_takeDeferred hK3, ?_⟩⟩
    refine ⟨.tuple #[.slice va (parts s).length vc, .int .i64 0, .int .i64 0], ?_, hB3, .inr ⟨lineErr_none h1, _, rfl, owns_eq hr3 (by simp [lineOrds]) (by simp [lineOrds])⟩⟩
    simp [results, Tryz.results77, go_sem, k1, k2, k3]
  case stop =>
    rintro D c pre W hD hpre ⟨rfl, ini, x, rfl, h1, hx, c1, c2, c3, hB1⟩ hK
    obtain ⟨k1, k2, k3, hB3⟩ := stop_put (by omega) c1 c2 c3 hB1 hK
    clear hsz
    gi_wp2
    refine ⟨by simp, .inl ⟨_, _, rfl, run_takeDeferred hK, ?_⟩⟩
    refine ⟨.tuple #[.slice none 0 0, .int .i64 x.2.1, .int .i64 x.2.2], ?_, hB3, .inl ⟨x, lineErr_some hpre h1 hx, rfl⟩⟩
    simp [results, Tryz.results77, go_sem, k1, k2, k3]
end Go.Proofs.YtgonfcdmaoeboaaGreatDoor

/- object.number, object.uses. -/
namespace Go.Proofs.YtgonfcdmaoeboaaGreatDoor
open Go.RowKit

set_option maxRecDepth 100000 in
set_option maxHeartbeats 400000 in
theorem number_any (n : Int) (w : World) : Calls Tryz.prog 118 #[.int .i64 n] w fun e w' => e = .returned (.bool (decide (0 ≤ n) && decide (n ≤ 1073741824))) ∧ w = w' := by
  by_cases h0 : 0 ≤ n
  · by_cases h1 : n ≤ 1073741824
    · have q : (decide (0 ≤ n) && decide (n ≤ 1073741824)) = true := by simp [h0, h1]
      rw [q]; clear q
      go_enter Tryz.func118, Tryz.ntmps118
      go_wp2
      go_ret
      exact ⟨rfl, rfl⟩
    · have q : (decide (0 ≤ n) && decide (n ≤ 1073741824)) = false := by simp [h1]
      have h2 : 1073741824 < n := by omega
      have h3 : decide (n ≤ 1073741824) = false := by simp [h1]
      rw [q]; clear q h1
      go_enter Tryz.func118, Tryz.ntmps118
      go_wp2
      go_ret
      exact ⟨rfl, rfl⟩
  · have q : (decide (0 ≤ n) && decide (n ≤ 1073741824)) = false := by simp [h0]
    have h2 : n < 0 := by omega
    rw [q]; clear q h0
    go_enter Tryz.func118, Tryz.ntmps118
    go_wp2
    go_ret
    exact ⟨rfl, rfl⟩

/-- what the kinds use, kind by kind: five cells each -/
def usesCells : Array Value := #[
  .string ⟨#[]⟩, .bool false, .bool false, .bool false, .int .i64 (0),
  .string ⟨#[112, 114, 111, 99, 101, 115, 115]⟩, .bool true, .bool false, .bool false, .int .i64 (-1),
  .string ⟨#[114, 101, 103, 105, 115, 116, 101, 114, 115]⟩, .bool true, .bool false, .bool false, .int .i64 (-1),
  .string ⟨#[112, 97, 103, 101]⟩, .bool true, .bool false, .bool false, .int .i64 (63),
  .string ⟨#[116, 97, 98, 108, 101]⟩, .bool true, .bool false, .bool false, .int .i64 (-1),
  .string ⟨#[99, 111, 117, 110, 116, 101, 114]⟩, .bool true, .bool false, .bool false, .int .i64 (-1),
  .string ⟨#[112, 101, 110, 100, 105, 110, 103]⟩, .bool true, .bool false, .bool false, .int .i64 (-1),
  .string ⟨#[110, 111, 100, 101]⟩, .bool true, .bool true, .bool false, .int .i64 (-1),
  .string ⟨#[98, 108, 111, 99, 107]⟩, .bool true, .bool true, .bool false, .int .i64 (63),
  .string ⟨#[101, 110, 116, 114, 121]⟩, .bool true, .bool true, .bool true, .int .i64 (-1),
  .string ⟨#[108, 105, 115, 116, 105, 110, 103]⟩, .bool true, .bool true, .bool false, .int .i64 (-1),
  .string ⟨#[112, 105, 112, 101]⟩, .bool true, .bool true, .bool false, .int .i64 (-1),
  .string ⟨#[108, 111, 99, 107]⟩, .bool true, .bool true, .bool false, .int .i64 (-1),
  .string ⟨#[116, 101, 114, 109, 105, 110, 97, 108]⟩, .bool false, .bool true, .bool false, .int .i64 (-1),
  .string ⟨#[97, 99, 99, 111, 117, 110, 116]⟩, .bool false, .bool false, .bool true, .int .i64 (-1),
  .string ⟨#[99, 108, 111, 99, 107]⟩, .bool false, .bool false, .bool false, .int .i64 (-1),
  .string ⟨#[112, 111, 114, 116]⟩, .bool false, .bool true, .bool false, .int .i64 (-1),
  .string ⟨#[98, 111, 120]⟩, .bool false, .bool false, .bool true, .int .i64 (-1),
  .string ⟨#[111, 117, 116]⟩, .bool true, .bool true, .bool false, .int .i64 (1073741824),
  .string ⟨#[115, 104, 101, 108, 108]⟩, .bool true, .bool false, .bool false, .int .i64 (-1),
  .string ⟨#[101, 112, 111, 99, 104]⟩, .bool false, .bool false, .bool false, .int .i64 (-1)]
theorem wpList_build_as {P : Program} {ops : Array Oper} {rest : List Oper} {o : Oper} {a : Act} {w : World} {Q : Exit → Act → World → Prop} (hg : o.guard = none) (t : TypeId) (parts : Array (Nat × Operand)) (ho : o.op = .build t parts)
    (cells : Array Value) (hb : P.built t (parts.map fun (i, x) => (i, a.eval x)).toList = some cells)
    (h : wpList P ops Q rest (a.put o.dst (.agg cells)) w) : wpList P ops Q (o :: rest) a w :=
  wpList_build hg t parts ho (by rw [hb]; rfl) (by rw [hb]; exact h)

set_option maxRecDepth 100000 in
set_option maxHeartbeats 4000000 in
theorem uses_any (w : World) : Calls Tryz.prog 117 #[] w fun e w' => e = .returned (.agg usesCells) ∧ Below w.heap.size w w' := by
  obtain ⟨C, hC⟩ : ∃ C, C = usesCells := ⟨_, rfl⟩
  have HC := Lib.hid hC; clear hC
  have hcs : C.size = 105 := by rw [HC.out]; rfl
  have h1c : C.all (·.oneCell') = true := by rw [HC.out]; kernel_rfl
  have hsc : (storeCells ⟨w.heap.size, 0, none⟩ C.toList).run Tryz.prog (w.alloc (.cells Tryz.zeroCells197 197)) = .ok () (w.alloc (.cells C 197)) :=
    run_storeCells_new (P := Tryz.prog) w 197 Tryz.zeroCells197 C (by rw [hcs]; kernel_rfl) (by rw [hcs]; kernel_rfl) h1c
  have hld := run_loadVar_new (P := Tryz.prog) w 197 C 21 196 Tryz.underlying197 (by rw [hcs]; kernel_rfl)
  have Hld := Lib.hid hld; clear hld h1c
  go_enter Tryz.func117, Tryz.ntmps117
  go_wp2_with (with_reducible refine wpList_build_as (o := ⟨some 22, _, _, _, _, _⟩) rfl 197 _ rfl C ?c1 ?_; case c1 => rw [HC.out]; kernel_rfl)
  refine bodyPost_ret (v := .agg C) (by simp [results, Tryz.results117, asAddr, Hld.out]) rfl ⟨by rw [HC.out], ((Below.refl _ w).alloc (Nat.le_refl _) _)⟩
end Go.Proofs.YtgonfcdmaoeboaaGreatDoor

/- lineage.Valid, object.Birth.Check. -/
namespace Go.Proofs.YtgonfcdmaoeboaaGreatDoor
open Go.RowKit

theorem lineErr_ne {l : List UInt8} {p : Part} (h : lineErr l = some p) : p.2.2 ≠ 0 := by
  have := List.find?_some h
  simpa using this

set_option maxRecDepth 100000 in
set_option maxHeartbeats 400000 in
theorem valid_any (s : List UInt8) (w : World) (hlen : s.length ≤ 1000000000) :
    Calls Tryz.prog 32 #[.string (str s)] w fun e w' => e = .returned (.bool (validName s)) ∧ Below w.heap.size w w' := by
  have hp := lineParse_any s w hlen
  have Hp := Lib.hid hp; clear hp
  cases hl : lineErr s with
  | none =>
    have hv : validName s = true := by simp [validName, hl]
    have Hl := Lib.hid hl; clear hl
    rw [hv]; clear hv
    go_enter Tryz.func32, Tryz.ntmps32
    go_wp2_with (go_at_call 77; refine (Hp.out).mono ?_; rintro e w1 ⟨hb1, ⟨p, hp, rfl⟩ | ⟨hp, v, rfl, hr⟩⟩)
    · rw [Hl.out] at hp; cases hp
    · obtain ⟨a, c, rfl⟩ := owns_slice hr
      clear hr hp
      go_wp2
      go_ret
      exact ⟨rfl, hb1⟩
  | some p =>
    have hv : validName s = false := by simp [validName, hl]
    have hne := lineErr_ne hl
    have q : ((p.2.2 : Int) == 0) = false := by simp; omega
    have Hq := Lib.hid q; clear q
    have Hl := Lib.hid hl; clear hl
    rw [hv]; clear hv
    go_enter Tryz.func32, Tryz.ntmps32
    go_wp2_with (go_at_call 77; refine (Hp.out).mono ?_; rintro e w1 ⟨hb1, ⟨p', hp, rfl⟩ | ⟨hp, v, rfl, hr⟩⟩)
    · rw [Hl.out] at hp; cases hp
      go_wp2
      go_ret
      refine ⟨?_, hb1⟩
      show Ending.returned (.bool ((p.2.2 : Int) == 0)) = _
      rw [Hq.out]
    · rw [Hl.out] at hp; cases hp

def birthErr (maker : List UInt8) (n : Int) : Int := if validName maker = false then 12 else if (decide (0 ≤ n) && decide (n ≤ 1073741824)) = false then 2 else 0
end Go.Proofs.YtgonfcdmaoeboaaGreatDoor

/- object.Name.Check at a kind with an owner and a number, and OfPipe. -/
namespace Go.Proofs.YtgonfcdmaoeboaaGreatDoor
open Go.RowKit

theorem Blk.five {w : World} {b : Nat} {x y z u v : Value} {t : TypeId} (h : Blk w b #[x, y, z, u, v] t) :
    w.cell? ⟨b, 0, none⟩ = some x ∧ w.cell? ⟨b, 1, none⟩ = some y ∧ w.cell? ⟨b, 2, none⟩ = some z ∧ w.cell? ⟨b, 3, none⟩ = some u ∧ w.cell? ⟨b, 4, none⟩ = some v :=
  ⟨by rw [h.cell]; rfl, by rw [h.cell]; rfl, by rw [h.cell]; rfl, by rw [h.cell]; rfl, by rw [h.cell]; rfl⟩
theorem Blk.five_f {w : World} {b : Nat} {x y z u v : Value} {t : TypeId} (h : Blk w b #[x, y, z, u, v] t) :
    w.frozen? ⟨b, 0, none⟩ = false ∧ w.frozen? ⟨b, 1, none⟩ = false ∧ w.frozen? ⟨b, 2, none⟩ = false ∧ w.frozen? ⟨b, 3, none⟩ = false ∧ w.frozen? ⟨b, 4, none⟩ = false :=
  ⟨h.frozen 0, h.frozen 1, h.frozen 2, h.frozen 3, h.frozen 4⟩
theorem Blk.stores5 {w : World} {b : Nat} {x y z u v : Value} {t : TypeId} (h : Blk w b #[x, y, z, u, v] t) (x' y' z' u' v' : Value) :
    Blk (((((w.setCell ⟨b, 0, none⟩ x').setCell ⟨b, 1, none⟩ y').setCell ⟨b, 2, none⟩ z').setCell ⟨b, 3, none⟩ u').setCell ⟨b, 4, none⟩ v') b #[x', y', z', u', v'] t :=
  (((((h.set 0 x').set 1 y').set 2 z').set 3 u').set 4 v').congr rfl

def nameV (K : Nat) (m : List UInt8) (n i : Int) (t : List UInt8) : Value := .agg #[.int .i64 K, .string (str m), .int .i64 n, .int .i64 i, .string (str t)]

set_option maxRecDepth 100000 in
set_option maxHeartbeats 1600000 in
theorem nameCheck_any (K : Nat) (hK1 : 1 ≤ K) (hK2 : K ≤ 20) (word : List UInt8) (hidx : ∀ w, (Instr.index 197 (.agg usesCells) (.int .i64 K)).run Tryz.prog w = .ok (.agg #[.string (str word), .bool true, .bool true, .bool false, .int .i64 (-1)]) w)
    (m : List UInt8) (n : Int) (w : World) (hlen : m.length ≤ 1000000000) :
    Calls Tryz.prog 79 #[nameV K m n 0 []] w fun e w' => e = .returned (.int .i64 (birthErr m n)) ∧ Below w.heap.size w w' := by
  unfold nameV
  have hbx := Blk.new w #[.int .i64 K, .string (str m), .int .i64 n, .int .i64 0, .string (str [])] 69
  obtain ⟨C, hC⟩ : ∃ C, C = usesCells := ⟨_, rfl⟩
  rw [← hC] at hidx
  have hu : ∀ w, Calls Tryz.prog 117 #[] w fun e w' => e = .returned (.agg C) ∧ Below w.heap.size w w' := by rw [hC]; exact uses_any
  have Hu := Lib.hid hu; clear hu hC
  have hc0 := hbx.cell 0
  go_enter Tryz.func79, Tryz.ntmps79
  go_wp2
  go_region_held3 (fun w' => w'.cell? ⟨w.heap.size, 0, none⟩ = some (.int .i64 K))
    (first | go_keep | exact hc0 | exact hbk2.cell 0 | exact (hbk2.alloc _).cell 0 | exact (((((hbk2.setOther (by simp) _).setOther (by simp) _).setOther (by simp) _).setOther (by simp) _).setOther (by simp) _).cell 0)
    ((first
      | (go_at_call 117; refine (Hu.out _).mono ?_; rintro e w2 ⟨rfl, hb2⟩; have hbk2 := hbx.drew.below hb2 (by simp))
      | (go_at_call 117; refine (Hu.out _).mono ?_; rintro e w2 ⟨rfl, hb2⟩; have hbk2 := (hbx.alloc _).drew.below hb2 (by simp; omega); have hbz2 := (Blk.new (w.alloc _) _ _).drew.below hb2 (by simp); simp only [World.size_alloc] at hbz2; obtain ⟨z0, z1, z2, z3, z4⟩ := hbz2.five; obtain ⟨f0, f1, f2, f3, f4⟩ := hbz2.five_f)))
  all_goals (first
    | (obtain ⟨W, hW⟩ : ∃ W, W = w2.alloc (.cells #[.string (str word), .bool true, .bool true, .bool false, .int .i64 (-1)] 196) := ⟨_, rfl⟩
       rw [← hW]
       obtain ⟨B, hB⟩ : ∃ B, B = w2.heap.size := ⟨_, rfl⟩
       rw [← hB]
       have bN : Blk W w.heap.size #[.int .i64 K, .string (str m), .int .i64 n, .int .i64 0, .string (str [])] 69 := by rw [hW]; exact hbk2.alloc _
       have bU : Blk W B #[.string (str word), .bool true, .bool true, .bool false, .int .i64 (-1)] 196 := by rw [hW, hB]; exact Blk.new w2 _ _
       have hBW : Below w.heap.size w W := by rw [hW]; exact ((below_alloc w _).drew.trans (hb2.mono (by simp))).alloc (by have := hbk2.lt; omega) _
       clear hW hB hb2)
    | (obtain ⟨W, hW⟩ : ∃ W, W = ((((w2.setCell ⟨w.heap.size + 1, 0, none⟩ (.string (str word))).setCell ⟨w.heap.size + 1, 1, none⟩ (.bool true)).setCell ⟨w.heap.size + 1, 2, none⟩ (.bool true)).setCell ⟨w.heap.size + 1, 3, none⟩ (.bool false)).setCell ⟨w.heap.size + 1, 4, none⟩ (.int .i64 (-1)) := ⟨_, rfl⟩
       rw [← hW]
       obtain ⟨B, hB⟩ : ∃ B, B = w.heap.size + 1 := ⟨_, rfl⟩
       rw [← hB]
       have bN : Blk W w.heap.size #[.int .i64 K, .string (str m), .int .i64 n, .int .i64 0, .string (str [])] 69 := by rw [hW]; exact ((((hbk2.setOther (by simp) _).setOther (by simp) _).setOther (by simp) _).setOther (by simp) _).setOther (by simp) _
       have bU : Blk W B #[.string (str word), .bool true, .bool true, .bool false, .int .i64 (-1)] 196 := by rw [hW, hB]; exact hbz2.stores5 _ _ _ _ _
       have hBW : Below w.heap.size w W := by rw [hW]; exact (((((((below_alloc w _).alloc (by simp) _).drew.trans (hb2.mono (by simp; omega))).setCell (by simp) _).setCell (by simp) _).setCell (by simp) _).setCell (by simp) _).setCell (by simp) _
       clear z0 z1 z2 z3 z4 f0 f1 f2 f3 f4 hbz2 hW hB hb2))
  all_goals (
    have hemp : (str []).toList.isEmpty = true := by simp [str_toList]
    have hlN := bN.lt
    have hlU := bU.lt
    obtain ⟨n0, n1, n2, n3, n4⟩ := bN.five
    obtain ⟨u0, u1, u2, u3, u4⟩ := bU.five
    clear hbk2 hbx hc0 hidx Hu
    cases hm : validName m with
    | false =>
      have he : birthErr m n = 12 := by simp [birthErr, hm]
      have He := Lib.hid he; clear he
      have hv := valid_any m W hlen
      rw [hm] at hv
      have Hv := Lib.hid hv; clear hv hm
      go_wp2_with (go_at_call 32; refine (Hv.out).mono ?_; rintro e w3 ⟨rfl, hb3⟩)
      go_ret
      exact ⟨by rw [He.out]; rfl, hBW.trans (hb3.mono (by omega))⟩
    | true =>
      have hv := valid_any m W hlen
      rw [hm] at hv
      have Hv := Lib.hid hv; clear hv
      cases hn : (decide (0 ≤ n) && decide (n ≤ 1073741824)) with
      | false =>
        have he : birthErr m n = 2 := by simp only [birthErr, hm, hn]; simp
        have He := Lib.hid he; clear he hm
        go_wp2_with (first | (go_at_call 32; refine (Hv.out).mono ?_; rintro e w3 ⟨rfl, hb3⟩; have b3 := bN.below hb3 hlN; have d3 := bU.below hb3 hlU; obtain ⟨c0, c1, c2, c3, c4⟩ := b3.five; obtain ⟨e0, e1, e2, e3, e4⟩ := d3.five) | (go_at_call 118; refine (number_any n _).mono ?_; rw [hn]; rintro e w4 ⟨rfl, rfl⟩))
        go_ret
        exact ⟨by rw [He.out]; rfl, hBW.trans (hb3.mono (by omega))⟩
      | true =>
        have he : birthErr m n = 0 := by simp only [birthErr, hm, hn]; simp
        have He := Lib.hid he; clear he hm
        go_wp2_with (first | (go_at_call 32; refine (Hv.out).mono ?_; rintro e w3 ⟨rfl, hb3⟩; have b3 := bN.below hb3 hlN; have d3 := bU.below hb3 hlU; obtain ⟨c0, c1, c2, c3, c4⟩ := b3.five; obtain ⟨e0, e1, e2, e3, e4⟩ := d3.five) | (go_at_call 118; refine (number_any n _).mono ?_; rw [hn]; rintro e w4 ⟨rfl, rfl⟩))
        go_ret
        exact ⟨by rw [He.out]; rfl, hBW.trans (hb3.mono (by omega))⟩)
end Go.Proofs.YtgonfcdmaoeboaaGreatDoor
