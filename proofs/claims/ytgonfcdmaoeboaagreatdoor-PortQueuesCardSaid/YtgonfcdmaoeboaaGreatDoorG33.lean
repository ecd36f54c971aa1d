/- Contracts of functions on the way to the claim, proved for every input that their hypotheses let by; no condition of the claim. Joined of: L7 R6. -/
import Derived.ArgAppend
import Derived.Test.YtgonfcdmaoeboaaGreatDoorG1
import Derived.Test.YtgonfcdmaoeboaaGreatDoorG5
import Derived.Test.YtgonfcdmaoeboaaGreatDoorG24

/- A slice of the call's own that begins within its row (s[1:] of such a one), and append on it. -/
namespace Go.Proofs.YtgonfcdmaoeboaaGreatDoor
open Go.RowKit

/-- THE SLICE VALUE v IS THE CALL'S OWN: n elements, its cells are xs; its row lies at or behind B, and v may begin within it. -/
def OwnsQ (w : World) (B : Nat) (e : TypeId) (size : Nat) (v : Value) (n : Nat) (xs : List Value) : Prop :=
  xs.length = n * size ∧ ((v = .slice none 0 0 ∧ n = 0) ∨ ∃ g off cap cur, v = .slice (some ⟨g, off, none⟩) n cap ∧ B ≤ g ∧ w.heap[g]? = some (.cells cur e (0, 0)) ∧ n ≤ cap ∧ cap ≤ maxLen ∧ off + cap * size ≤ cur.size ∧ (cur.toList.drop off).take (n * size) = xs)
section
variable {w : World} {B : Nat} {e : TypeId} {size : Nat} {v : Value} {n : Nat} {xs : List Value}
theorem OwnsQ.nil (w : World) (B : Nat) (e : TypeId) (size : Nat) : OwnsQ w B e size (.slice none 0 0) 0 [] := ⟨by simp, .inl ⟨rfl, rfl⟩⟩
theorem OwnsQ.slice (h : OwnsQ w B e size v n xs) : ∃ a c, v = .slice a n c ∧ n ≤ c := by
  rcases h.2 with ⟨rfl, rfl⟩ | ⟨g, off, cap, cur, rfl, _, _, hc, _⟩
  · exact ⟨_, _, rfl, Nat.le_refl _⟩
  · exact ⟨_, _, rfl, hc⟩
theorem OwnsQ.of_owns (h : w.ownsRow B e size v n xs) : OwnsQ w B e size v n xs := by
  refine ⟨h.1, ?_⟩
  rcases h.2 with h2 | ⟨g, cap, cur, rfl, hb, hg, hnc, hcm, hcs, ht⟩
  · exact .inl h2
  · exact .inr ⟨g, 0, cap, cur, rfl, hb, hg, hnc, hcm, by omega, by simpa using ht⟩
theorem OwnsQ.lt (h : OwnsQ w B e size v n xs) : ∀ k, v.ownBlock = some k → B ≤ k ∧ k < w.heap.size := by
  intro k hk
  rcases h.2 with ⟨rfl, _⟩ | ⟨g, off, cap, cur, rfl, hb, hg, _⟩
  · simp [Value.ownBlock] at hk
  · simp [Value.ownBlock] at hk
    subst hk
    exact ⟨hb, (Array.getElem?_eq_some_iff.1 hg).1⟩
theorem OwnsQ.kept {w' : World} {row : Option Nat} (h : OwnsQ w B e size v n xs) (hg : w.grownBy w' row) (hne : v.ownBlock = none ∨ v.ownBlock ≠ row) : OwnsQ w' B e size v n xs := by
  refine ⟨h.1, ?_⟩
  rcases h.2 with hn | ⟨g, off, cap, cur, rfl, hb, hgg, rest⟩
  · exact .inl hn
  · refine .inr ⟨g, off, cap, cur, rfl, hb, ?_, rest⟩
    rw [hg.block g (Array.getElem?_eq_some_iff.1 hgg).1 (by simpa [Value.ownBlock] using hne)]
    exact hgg
theorem OwnsQ.below {w' : World} (h : OwnsQ w B e size v n xs) (hb : Below w.heap.size w w') : OwnsQ w' B e size v n xs :=
  h.kept (row := none) ⟨hb.os, hb.tape, hb.output, hb.size, fun k hk _ => hb.block k hk⟩ (by cases hv : v.ownBlock <;> simp)
theorem OwnsQ.cells {ts : List TypeId} {w' : World} (h : OwnsQ w B e size v n xs) (hc : Cells ts w w') (ht : e ∉ ts) : OwnsQ w' B e size v n xs := by
  refine ⟨h.1, ?_⟩
  rcases h.2 with hn | ⟨g, off, cap, cur, rfl, hb, hgg, rest⟩
  · exact .inl hn
  · exact .inr ⟨g, off, cap, cur, rfl, hb, hc.2 g cur e (0, 0) hgg ht, rest⟩
theorem OwnsQ.sees (h : OwnsQ w B e size v n xs) : Sees w size v n xs := by
  refine ⟨h.1, ?_⟩
  rcases h.2 with ⟨rfl, rfl⟩ | ⟨g, off, cap, cur, rfl, hb, hg, hnc, hcm, hcs, ht⟩
  · exact ⟨none, 0, rfl, Nat.le_refl _, .inl ⟨rfl, rfl⟩⟩
  · refine ⟨_, cap, rfl, hnc, .inr ⟨g, off, rfl, (Array.getElem?_eq_some_iff.1 hg).1, fun j u hu => ?_⟩⟩
    rw [cell_of_row w g (off + j) cur e (0, 0) hg]
    rw [← ht, List.getElem?_take] at hu
    split at hu
    · rw [List.getElem?_drop] at hu
      simpa using hu
    · cases hu
theorem OwnsQ.only {w' : World} (ho : OwnsQ w B e size v n xs) (hg : w.grownBy w' v.ownBlock) : Only [e] w w' := ⟨hg.size, fun b o hb ht => by
  refine (hg.block b (Array.getElem?_eq_some_iff.1 hb).1 (fun h => ?_)).trans hb
  rcases ho.2 with ⟨rfl, _⟩ | ⟨g, off, cap, cur, rfl, _, hgg, _⟩
  · simp [Value.ownBlock] at h
  · obtain rfl : b = g := by simpa [Value.ownBlock] using h
    rw [hgg] at hb
    cases hb
    exact ht _ _ _ rfl (by simp)⟩
theorem Past.grownQ {B' : Nat} {a w' : World} (h : Past B' a w) (hg : w.grownBy w' v.ownBlock) (ho : OwnsQ w B e size v n xs) (hB : B' ≤ B) : Past B' a w' := ⟨h.1.grown hg h.2 (fun k hk => Nat.le_trans hB (ho.lt k hk).1), Nat.le_trans h.2 hg.size⟩
/-- s[1:] of at least one element -/
theorem OwnsQ.tail {ao : Option Addr} {c : Nat} (hs : 0 < size) (h : OwnsQ w B e size (.slice ao n c) n xs) (hn : 1 ≤ n) : ∃ g off, ao = some ⟨g, off, none⟩ ∧ n ≤ c ∧ OwnsQ w B e size (.slice (some ⟨g, if c = 1 then off else off + size, none⟩) (n - 1) (c - 1)) (n - 1) (xs.drop size) := by
  rcases h.2 with ⟨_, h0⟩ | ⟨g, off, cap, cur, he, hb, hg, hnc, hcm, hcs, ht⟩
  · omega
  · cases he
    refine ⟨g, off, rfl, hnc, ?_, ?_⟩
    · rw [List.length_drop, h.1, Nat.sub_mul]; omega
    · refine .inr ⟨g, _, c - 1, cur, rfl, hb, hg, by omega, by omega, ?_, ?_⟩
      · have : (c - 1) * size + size = c * size := by rw [← Nat.succ_mul]; congr 1; omega
        split <;> omega
      · have hms : (n - 1) * size + size = n * size := by rw [← Nat.succ_mul]; congr 1; omega
        by_cases h1 : c = 1
        · have hn1 : n = 1 := by omega
          subst hn1
          rw [if_pos h1]
          rw [← ht]
          simp
        · rw [if_neg h1, ← ht, List.drop_take, List.drop_drop]
          congr 1
          omega
end

/-- append on such a one -/
theorem run_append_at {P : Program} (w : World) (base : Nat) (t ty e : TypeId) (z : Value) (size bytes : Nat) (ht : P.underlying t = some (.slice e))
    (hinfo : (P.info? e).map (fun i => (i.zero, i.size, i.bytes)) = some (some z, size, bytes)) (hzs : z.cells.size = size) (hsz : 0 < size)
    {v : Value} {n : Nat} {xs : List Value} (hown : OwnsQ w base e size v n xs) {b off c : Nat} {m : Nat} {news : List Value} (hl : news.length = m * size) (hcell : ∀ j u, news[j]? = some u → w.cell? ⟨b, off + j, none⟩ = some u) (h1 : ∀ u ∈ news, u.oneCell' = true)
    (h63 : n + m ≤ maxLen) (hbytes : (n + m) * bytes ≤ 140737488355328) (hbase : base ≤ w.heap.size) :
    ∃ av cv w', (Builtin.append_ #[t, t] ty #[v, .slice (some ⟨b, off, none⟩) m c]).run P w = .ok (.slice av (n + m) cv) w' ∧ OwnsQ w' base e size (.slice av (n + m) cv) (n + m) (xs ++ news) ∧ w.grownBy w' v.ownBlock := by
  obtain ⟨i, hi, hz0, hz1, hz2⟩ := info_parts hinfo
  have hnews : ∀ j u, news[j]? = some u → w.cell? ((⟨b, off, none⟩ : Addr).add j) = some u := fun j u hu => by rw [Addr.add_lit]; exact hcell j u hu
  rcases hown.2 with ⟨rfl, rfl⟩ | ⟨g, o2, cap, cur, rfl, hbg, hg, hnc, hcm, hcs, htake⟩
  · have hx : xs = [] := List.eq_nil_of_length_eq_zero (by simpa using hown.1)
    subst hx
    obtain ⟨v', w', hr, r1, r2, _⟩ := run_append_own (P := P) w base t ty e i z size bytes ht hi hz0 hz1 hz2 hzs hsz (.slice none 0 0) 0 [] (World.ownsRow_nil _ _ _ _) ⟨b, off, none⟩ m c news hl hnews h1 h63 hbytes hbase
    obtain ⟨av, cv, rfl⟩ := owns_slice r1
    exact ⟨av, cv, w', hr, OwnsQ.of_owns r1, r2⟩
  · by_cases hroom : n + m ≤ cap
    · subst hz1
      have hsum : (n + m) * i.size ≤ cap * i.size := Nat.mul_le_mul_right _ hroom
      have hadd : (n + m) * i.size = n * i.size + news.length := by rw [hl, Nat.add_mul]
      have hfc := run_firstCells_some (P := P) w i.size m ⟨b, off, none⟩ m c news hl hnews
      have hst := run_storeCells_at P g (o2 + n * i.size) e news 0 cur w hg (by omega) h1
      simp only [Nat.add_zero] at hst
      have hrun : (Builtin.append_ #[t, t] ty #[.slice (some ⟨g, o2, none⟩) n cap, .slice (some ⟨b, off, none⟩) m c]).run P w = .ok (.slice (some ⟨g, o2, none⟩) (n + m) cap) (w.setRow g (cur.toList.take (o2 + n * i.size) ++ news ++ cur.toList.drop (o2 + n * i.size + news.length)).toArray) := by
        simp [Builtin.append_, run_underlying ht, sizeOf, typeInfo, hi, Builtin.lenOf, hroom, hfc, Addr.add_lit, hst]
      refine ⟨_, _, _, hrun, ⟨by rw [List.length_append, hown.1, hl, Nat.add_mul], .inr ⟨g, o2, cap, _, rfl, hbg, setRow_heap w g cur _ e _ hg, hroom, hcm, ?_, ?_⟩⟩, ⟨rfl, rfl, rfl, by simp, fun k _ hk => setRow_other w g k _ (fun e => hk (by simp [Value.ownBlock, e]))⟩⟩
      · simp only [List.size_toArray, List.length_append, List.length_take, List.length_drop, Array.length_toList]
        omega
      · have hlen : (cur.toList.take (o2 + n * i.size)).length = o2 + n * i.size := by rw [List.length_take, Array.length_toList]; omega
        have e1 : (cur.toList.take (o2 + n * i.size)).drop o2 = xs := by rw [List.drop_take, show o2 + n * i.size - o2 = n * i.size by omega]; exact htake
        show ((cur.toList.take (o2 + n * i.size) ++ news ++ cur.toList.drop (o2 + n * i.size + news.length)).drop o2).take ((n + m) * i.size) = xs ++ news
        rw [List.append_assoc, List.drop_append_of_le_length (by omega), e1, ← List.append_assoc]
        exact List.take_left' (by rw [List.length_append, hown.1, hl, Nat.add_mul])
    · have holds : ∀ j u, xs[j]? = some u → w.cell? ⟨g, o2 + j, none⟩ = some u := fun j u hu => by
        rw [cell_of_row w g (o2 + j) cur e (0, 0) hg]
        rw [← htake, List.getElem?_take] at hu
        split at hu
        · rw [List.getElem?_drop] at hu
          simpa using hu
        · cases hu
      obtain ⟨v', w', hr, r1, r2⟩ := run_append_arg_grows (P := P) w t ty e i z size bytes ht hi hz0 hz1 hz2 hzs hsz ⟨g, o2, none⟩ n cap xs hown.1 (fun j u hj => by rw [Addr.add_lit]; exact holds j u hj) ⟨b, off, none⟩ m c news hl hnews (by omega) h63 hbytes
      obtain ⟨av, cv, rfl⟩ := owns_slice r1
      exact ⟨av, cv, w', hr, OwnsQ.of_owns (owns_mono r1 hbase), ⟨r2.os, r2.tape, r2.output, r2.size, fun k hk _ => r2.block k hk (by simp)⟩⟩
theorem wpList_append_at {P : Program} (w : World) {ops : Array Oper} {rest : List Oper} {o : Oper} {a : Act} {Q : Exit → Act → World → Prop} (hgd : o.guard = none) (s x : Operand) (t : TypeId)
    (ho : o.op = .call { callee := .builtin .append, args := #[s, x], argTypes := #[t, t] })
    (base : Nat) (e : TypeId) (z : Value) (size bytes : Nat) (ht : P.underlying t = some (.slice e)) (hinfo : (P.info? e).map (fun i => (i.zero, i.size, i.bytes)) = some (some z, size, bytes))
    (hzs : z.cells.size = size) (hsz : 0 < size)
    {v : Value} {n : Nat} {xs : List Value} (hown : OwnsQ w base e size v n xs) (hs : a.eval s = v)
    {b off c m : Nat} {news : List Value} (hl : news.length = m * size) (hcell : ∀ j u, news[j]? = some u → w.cell? ⟨b, off + j, none⟩ = some u) (hx : a.eval x = .slice (some ⟨b, off, none⟩) m c) (h1 : ∀ u ∈ news, u.oneCell' = true)
    (h63 : n + m ≤ maxLen) (hbytes : (n + m) * bytes ≤ 140737488355328) (hbase : base ≤ w.heap.size)
    (h : ∀ av cv w', OwnsQ w' base e size (.slice av (n + m) cv) (n + m) (xs ++ news) → w.grownBy w' v.ownBlock → wpList P ops Q rest (a.put o.dst (.slice av (n + m) cv)) w') : wpList P ops Q (o :: rest) a w := by
  refine wpList_plain hgd fun K' hK' => ?_
  obtain ⟨av, cv, w', hr, r1, r2⟩ := run_append_at (P := P) w base t o.type e z size bytes ht hinfo hzs hsz hown hl hcell h1 h63 hbytes hbase
  unfold Oper.wp execOp
  simp only [ho, resolve, invoke, builtin, Sem.run_bind, Sem.run_pure, Result.andThen_ok, List.map_toArray, List.map_cons, List.map_nil, hs, hx]
  rw [hr]
  exact hK' _ _ (h av cv w' r1 r2)
end Go.Proofs.YtgonfcdmaoeboaaGreatDoor

/- Plain: what arrives at an open port, and what is received there. No program here. -/
namespace Go.Proofs.YtgonfcdmaoeboaaGreatDoor
open Go.RowKit

/-- the port of the law: the process 1.2 in epoch 3 -/
def qp (lost : Nat) (q : List Pk) : PT := ⟨[49, 46, 50], 3, lost, q⟩
def QOk (lost : Nat) (q : List Pk) : Prop := lost ≤ 40 ∧ q.length ≤ 16 ∧ ∀ p ∈ q, pkE p = 0
theorem qp_check {lost : Nat} {q : List Pk} (h : QOk lost q) : (qp lost q).check = 0 := by
  obtain ⟨h1, h2, h3⟩ := h
  exact PT.check_ok.2 ⟨valid_digit1.2.2, ⟨by simp [qp], by simp [qp]⟩, ⟨by simp [qp], by simp only [qp]; omega⟩, h2, pksE_ok.2 h3⟩
theorem qp_beg : portBeg [] 100 3 = 0 ∧ portBeg [49, 46, 50] 100 3 = 0 := ⟨portBeg_zero.2 ⟨valid_nil0, by omega, by omega⟩, portBeg_zero.2 ⟨valid_digit1.2.2, by omega, by omega⟩⟩
theorem qp_rd {lost : Nat} {q : List Pk} (h : QOk lost q) : rdPort (some (qp lost q).bytes) 3 = (qp lost q, 0) := rdPort_is (P := qp lost q) (qp_check h)
theorem qp_len {lost : Nat} {q : List Pk} (h : QOk lost q) : ((some (qp lost q).bytes).getD []).length ≤ 1000000000 := by
  have := PT.len (qp_check h)
  simp only [Option.getD_some]; omega
theorem qp_open : openE [49, 46, 50] 5 100 3 none = 0 ∧ openC [49, 46, 50] 5 100 3 none = some (qp 0 []).bytes :=
  openE_free valid_digit1.2.2 (by omega) (by omega) (by omega) (by rw [rdPort_none]; decide)
/-- Arrive -/
theorem qp_arrive {lost : Nat} {q : List Pk} (h : QOk lost q) (p : Pk) :
    (pkE p ≠ 0 ∧ arriveE 100 3 p (some (qp lost q).bytes) = pkE p ∧ arriveC 100 3 p (some (qp lost q).bytes) = some (qp lost q).bytes) ∨
    (pkE p = 0 ∧ q.length = 16 ∧ arriveE 100 3 p (some (qp lost q).bytes) = 9 ∧ arriveC 100 3 p (some (qp lost q).bytes) = some (qp (lost + 1) q).bytes) ∨
    (pkE p = 0 ∧ q.length < 16 ∧ arriveE 100 3 p (some (qp lost q).bytes) = 0 ∧ arriveC 100 3 p (some (qp lost q).bytes) = some (qp lost (q ++ [p])).bytes) := by
  have hr := qp_rd h
  obtain ⟨b0, _⟩ := qp_beg
  by_cases hp : pkE p = 0
  · right
    by_cases h16 : q.length = 16
    · left
      have e1 : arrE (qp lost q) = 9 := by unfold arrE; rw [if_pos (show (qp lost q).q.length = 16 from h16)]
      have e2 : arrW (qp lost q) = true := by
        unfold arrW
        rw [if_pos (show (qp lost q).q.length = 16 from h16)]
        have := h.1
        exact decide_eq_true (show ((lost : Nat) : Int) < 1073741824 by omega)
      have e3 : arrP (qp lost q) p = qp (lost + 1) q := by
        unfold arrP
        rw [if_pos (show (qp lost q).q.length = 16 from h16), if_pos (show (qp lost q).lost < 1073741824 from (show ((lost : Nat) : Int) < 1073741824 by have := h.1; omega))]
        simp [qp]
      refine ⟨hp, h16, ?_, ?_⟩
      · unfold arriveE; rw [if_neg (by simp [b0]), if_neg (by simp [hp]), hr, if_neg (by simp)]; exact e1
      · unfold arriveC; rw [hr, if_pos ⟨b0, hp, rfl, e2⟩, e3]
    · right
      have hlt : q.length < 16 := by have := h.2.1; omega
      have e1 : arrE (qp lost q) = 0 := by unfold arrE; rw [if_neg (show ¬ (qp lost q).q.length = 16 from h16)]
      have e2 : arrW (qp lost q) = true := by unfold arrW; rw [if_neg (show ¬ (qp lost q).q.length = 16 from h16)]
      have e3 : arrP (qp lost q) p = qp lost (q ++ [p]) := by unfold arrP; rw [if_neg (show ¬ (qp lost q).q.length = 16 from h16)]; rfl
      refine ⟨hp, hlt, ?_, ?_⟩
      · unfold arriveE; rw [if_neg (by simp [b0]), if_neg (by simp [hp]), hr, if_neg (by simp)]; exact e1
      · unfold arriveC; rw [hr, if_pos ⟨b0, hp, rfl, e2⟩, e3]
  · left
    refine ⟨hp, ?_, ?_⟩
    · unfold arriveE; rw [if_neg (by simp [b0]), if_pos hp]
    · unfold arriveC; rw [if_neg (fun h => hp h.2.1)]
theorem QOk.more {lost : Nat} {q : List Pk} (h : QOk lost q) {p : Pk} (hp : pkE p = 0) (hq : q.length < 16) : QOk lost (q ++ [p]) :=
  ⟨h.1, by simp; omega, fun x hx => by
    simp only [List.mem_append, List.mem_singleton] at hx
    rcases hx with hx | rfl
    · exact h.2.2 x hx
    · exact hp⟩
theorem QOk.tail {lost : Nat} {p : Pk} {q : List Pk} (h : QOk lost (p :: q)) : QOk lost q := ⟨h.1, by have := h.2.1; simp at this; omega, fun x hx => h.2.2 x (by simp [hx])⟩
/-- Receive -/
theorem qp_receive_none {lost : Nat} (h : QOk lost []) : receiveE [49, 46, 50] 100 3 (some (qp lost []).bytes) = 19 ∧ receiveO [49, 46, 50] 100 3 (some (qp lost []).bytes) = ([], []) ∧ receiveC [49, 46, 50] 100 3 (some (qp lost []).bytes) = some (qp lost []).bytes := by
  have hr := qp_rd h
  obtain ⟨_, b0⟩ := qp_beg
  have e : rcvE (qp lost []) [49, 46, 50] = 19 := by unfold rcvE; rw [if_neg (by simp [qp]), if_pos (by simp [qp])]
  have e1 : receiveE [49, 46, 50] 100 3 (some (qp lost []).bytes) = 19 := by unfold receiveE; rw [if_neg (by simp [b0]), hr, if_neg (by simp)]; exact e
  exact ⟨e1, by unfold receiveO; rw [if_neg (by omega)], by unfold receiveC; rw [if_neg (by omega)]⟩
theorem qp_receive {lost : Nat} {p : Pk} {q : List Pk} (h : QOk lost (p :: q)) : receiveE [49, 46, 50] 100 3 (some (qp lost (p :: q)).bytes) = 0 ∧ receiveO [49, 46, 50] 100 3 (some (qp lost (p :: q)).bytes) = p ∧ receiveC [49, 46, 50] 100 3 (some (qp lost (p :: q)).bytes) = some (qp lost q).bytes := by
  have hr := qp_rd h
  obtain ⟨_, b0⟩ := qp_beg
  have e : rcvE (qp lost (p :: q)) [49, 46, 50] = 0 := by unfold rcvE; rw [if_neg (by simp [qp]), if_neg (by simp [qp])]
  have e1 : receiveE [49, 46, 50] 100 3 (some (qp lost (p :: q)).bytes) = 0 := by unfold receiveE; rw [if_neg (by simp [b0]), hr, if_neg (by simp)]; exact e
  refine ⟨e1, ?_, ?_⟩
  · unfold receiveO; rw [if_pos e1, hr]; unfold rcvO; rw [if_pos e]; rfl
  · unfold receiveC; rw [if_pos e1, hr]; unfold rcvP; rw [if_pos e]; rfl
theorem qp_get {lost : Nat} {q : List Pk} (h : QOk lost q) : portGetR 100 3 (some (qp lost q).bytes) = (qp lost q, 0) := by
  unfold portGetR
  rw [if_neg (by simp [qp_beg.1]), qp_rd h]
end Go.Proofs.YtgonfcdmaoeboaaGreatDoor
