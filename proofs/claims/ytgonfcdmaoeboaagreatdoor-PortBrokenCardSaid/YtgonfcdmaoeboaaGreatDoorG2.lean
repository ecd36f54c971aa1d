/- Contracts of functions on the way to the claim, proved for every input that their hypotheses let by; no condition of the claim. Joined of: A2 A3 A4 A5 A6 A7 A8. -/
import Derived.Test.YtgonfcdmaoeboaaGreatDoorRows
import Derived.WalkKit
import Derived.WalkSpells
import Derived.WalkLawsBesides
import Derived.Handy
import Derived.Lib.Hide
import Derived.Maps.AppendAt
import Derived.Test.YtgonfcdmaoeboaaGreatDoorG1

/- codec.natural: the groups of a number, in memory of its own. -/
namespace Go.Proofs.YtgonfcdmaoeboaaGreatDoor
open Go.RowKit

theorem Tryz.info5 : (Tryz.prog.info? 5).map (fun i => (i.zero, i.size, i.bytes)) = some (some (.int .u8 0), 1, 1) := by kernel_rfl

set_option maxRecDepth 100000 in
set_option maxHeartbeats 400000 in
theorem natural_any (u : Nat) (hu : u < 18446744073709551616) (w : World) :
    Calls Tryz.prog 104 #[.int .u64 u] w fun e w' => ∃ v, e = .returned v ∧ w'.ownsRow w.heap.size 5 1 v (natBytes u).length ((natBytes u).map bval) ∧ Below w.heap.size w w' := by
  have Hu := Lib.hid hu; clear hu
  go_enter Tryz.func104, Tryz.ntmps104
  go_wp2
  go_loopw [0, 3] (fun x v wr => ∃ (n : Nat) (pre : List UInt8), x = .int .u64 n ∧ n ≤ u ∧ Hid (natBytes u = pre ++ natBytes n) ∧ pre.length ≤ 10 ∧ wr.ownsRow w.heap.size 5 1 v pre.length (pre.map bval) ∧ Below w.heap.size w wr)
    (fun x _ _ => (intOf x).toNat)
  case atStart => exact ⟨u, [], rfl, Nat.le_refl _, rfl, by simp, World.ownsRow_nil _ _ _ _, Below.refl _ _⟩
  case round =>
    obtain ⟨n, pre, rfl, hn, hp, hpl, hown, hb⟩ := hrel
    have hbs := hb.size
    by_cases h : 128 ≤ n
    · go_wp2_with (at_builtin; go_loud (refine wpList_append_lit wr _ rfl _ _ 112 rfl w.heap.size 5 (.int .u8 0) 1 1 Tryz.underlying112 Tryz.info5 rfl (by decide) hown rfl 1 rfl rfl ?c0 ?c1 ?c2 hbs ?_))
      case c0 => simp [Value.oneCell']
      case c1 => unfold maxLen; omega
      case c2 => omega
      · intro v' w1 hown1 hg1 _
        go_wp2
        go_roundw
        case rel =>
          rw [byte_or, map_snoc] at hown1
          exact ⟨n / 128, pre ++ [UInt8.ofNat (n % 128 + 128)], by go_num, by omega, by have h1 := hp.out; rw [natBytes_ge h] at h1; rw [h1]; simp [Hid], by have h1 := congrArg List.length hp.out; have := natBytes_len64 Hu.out; have := natBytes_len_pos n; simp at h1 ⊢; omega, by simpa using hown1, hb.grown hg1 hbs (fun k hk => (hown.lt k hk).1)⟩
        case measure => simp [intOf]; try omega
    · go_wp2_with (at_builtin; go_loud (refine wpList_append_lit wr _ rfl _ _ 112 rfl w.heap.size 5 (.int .u8 0) 1 1 Tryz.underlying112 Tryz.info5 rfl (by decide) hown rfl 1 rfl rfl ?d0 ?d1 ?d2 hbs ?_))
      case d0 => simp [Value.oneCell']
      case d1 => unfold maxLen; omega
      case d2 => omega
      · intro v' w1 hown1 hg1 _
        go_wp2
        go_ret
        rw [byte_lt (by omega), map_snoc] at hown1
        have e : natBytes u = pre ++ [UInt8.ofNat n] := by rw [hp.out, natBytes_lt (by omega)]
        exact ⟨_, rfl, by rw [e]; simpa using hown1, hb.grown hg1 hbs (fun k hk => (hown.lt k hk).1)⟩
end Go.Proofs.YtgonfcdmaoeboaaGreatDoor

/- codec.groups and the reference's. -/
namespace Go.Proofs.YtgonfcdmaoeboaaGreatDoor
open Go.RowKit

set_option maxRecDepth 100000 in
set_option maxHeartbeats 400000 in
theorem groups_some (b off c : Nat) (bs : List UInt8) (w : World) (hcell : ∀ j (h : j < bs.length), w.cell? ⟨b, off + j, none⟩ = some (.int .u8 (bs[j].toNat : Nat))) (hlen : bs.length ≤ 1000000000) :
    Calls Tryz.prog 141 #[.slice (some ⟨b, off, none⟩) bs.length c, .int .i64 9] w fun e w' =>
      e = .returned (.tuple #[.int .u64 (groupsFrom 0 0 bs).1, .int .i64 (groupsFrom 0 0 bs).2.1, .int .i64 (groupsFrom 0 0 bs).2.2]) ∧ w = w' := by
  have Hc := Lib.hid hcell; clear hcell
  go_enter Tryz.func141, Tryz.ntmps141
  go_wp2
  go_loop [7, 12] (fun x y => ∃ (u i : Nat), x = .int .u64 u ∧ y = .int .i64 i ∧ i ≤ bs.length ∧ i ≤ 9 ∧ Hid (u < 128 ^ i) ∧ Hid (groupsFrom 0 0 bs = groupsFrom i u (bs.drop i))) (fun _ y => bs.length - (intOf y).toNat)
  case atStart => exact ⟨0, 0, rfl, rfl, by simp, by simp, by simp [Hid], by simp [Hid]⟩
  case round =>
    obtain ⟨u, i, rfl, rfl, hi, hi9, hu, hg⟩ := hrel
    by_cases hlt : i < bs.length
    · have hc := Hc.out i hlt
      have hd : bs.drop i = bs[i] :: bs.drop (i + 1) := List.drop_eq_getElem_cons hlt
      have Hd := Lib.hid hd; clear hd
      by_cases h9 : i = 9
      · subst h9
        go_wp2
        go_ret3
        refine ⟨?_, rfl⟩
        rw [hg.out, Hd.out]; simp [groupsFrom]
      · have hi8 : i ≤ 8 := by omega
        go_wp2
        · go_ret3
          refine ⟨?_, rfl⟩
          have h1 : (bs[i].toNat : Int) < 128 := by assumption
          have h2 : bs[i].toNat = 0 := by assumption
          have h3 : 0 < i := by assumption
          rw [hg.out, Hd.out]; simp [groupsFrom, h9, h2, h3]
        · go_ret3
          refine ⟨?_, rfl⟩
          have h2 : bs[i].toNat = 0 := by assumption
          have h3 : ¬ 0 < i := by assumption
          have e : bits .or .u64 (u : Int) (IntKind.u64.wrap (IntKind.u64.wrap (bits .and .u8 0 127) * 2 ^ (7 * i))) = ((u + 0 % 128 * 128 ^ i : Nat) : Int) := by
            have e1 := groups_or bs[i] hu.out hi8
            rw [h2] at e1
            exact e1
          rw [hg.out, Hd.out, e]; simp [groupsFrom, h9, h2, h3]
        · go_ret3
          refine ⟨?_, rfl⟩
          have h1 : (bs[i].toNat : Int) < 128 := by assumption
          have h2 : ¬ bs[i].toNat = 0 := by assumption
          rw [hg.out, Hd.out, groups_or _ hu.out hi8]; simp [groupsFrom, h9, h2, show bs[i].toNat < 128 by omega]
        · have h1 : (128 : Int) ≤ bs[i].toNat := by assumption
          go_round
          case rel =>
            refine ⟨u + bs[i].toNat % 128 * 128 ^ i, i + 1, by rw [groups_or _ hu.out hi8], by go_num, by omega, by omega, step_lt _ hu.out, ?_⟩
            show groupsFrom 0 0 bs = _
            rw [hg.out, Hd.out]
            conv => lhs; unfold groupsFrom
            simp [h9, show ¬ bs[i].toNat < 128 by omega]
          case measure => simp [intOf]; try omega
    · have hd : bs.drop i = [] := List.drop_eq_nil_of_le (by omega)
      have hii : i = bs.length := by omega
      have Hd := Lib.hid hd; clear hd
      have Hi := Lib.hid hii; clear hii
      go_wp2
      · go_ret3
        have h1 : (9 : Int) ≤ bs.length := by assumption
        refine ⟨?_, rfl⟩
        rw [hg.out, Hd.out]; simp [groupsFrom, show 9 ≤ i by omega]
      · go_ret3
        have h1 : (bs.length : Int) < 9 := by assumption
        refine ⟨?_, rfl⟩
        rw [hg.out, Hd.out]; simp [groupsFrom, show ¬ 9 ≤ i by omega]

set_option maxRecDepth 100000 in
set_option maxHeartbeats 800000 in
theorem refGroups_some (b off c : Nat) (bs : List UInt8) (w : World) (hcell : ∀ j (h : j < bs.length), w.cell? ⟨b, off + j, none⟩ = some (.int .u8 (bs[j].toNat : Nat))) (hlen : bs.length ≤ 1000000000) :
    Calls Tryz.prog 160 #[.slice (some ⟨b, off, none⟩) bs.length c, .int .i64 9] w fun e w' =>
      e = .returned (.tuple #[.int .u64 (groupsFrom 0 0 bs).1, .int .i64 (groupsFrom 0 0 bs).2.1, .int .i64 (groupsFrom 0 0 bs).2.2]) ∧ w = w' := by
  have Hc := Lib.hid hcell; clear hcell
  go_enter Tryz.func160, Tryz.ntmps160
  go_wp2
  go_loop [7] (fun x => ∃ (e : Nat), x = .int .i64 e ∧ e ≤ bs.length ∧ e ≤ 9 ∧ Hid (∀ j (h : j < bs.length), j < e → 128 ≤ bs[j].toNat)) (fun x => bs.length - (intOf x).toNat)
  case atStart => exact ⟨0, rfl, by simp, by simp, by simp [Hid]⟩
  case round =>
    obtain ⟨e, rfl, hi, hi9, hg⟩ := hrel
    by_cases hlt : e < bs.length
    · have hc := Hc.out e hlt
      by_cases h9 : e < 9
      · by_cases hb : 128 ≤ bs[e].toNat
        · go_wp2
          go_round
          case rel => exact ⟨e + 1, by go_num, by omega, by omega, fun j hj hje => by by_cases hje' : j = e
                                                                                      · subst hje'; exact hb
                                                                                      · exact hg.out j hj (by omega)⟩
          case measure => simp [intOf]; try omega
        · have hb1 : (bs[e].toNat : Int) < 128 := by omega
          have hG := groupsFrom_end bs e h9 hlt hg.out (by omega)
          have HG := Lib.hid hG; clear hG
          have n9 : ((e : Int) == 9) = false := by simp; omega
          have nl : ((e : Int) == bs.length) = false := by simp; omega
          have hle := leSum_lt bs (e + 1)
          have Hle := Lib.hid hle; clear hle
          go_wp2
          · go_ret3
            have h1 : 0 < e := by assumption
            have h2 : ((bs[e].toNat : Int) == 0) = true := by assumption
            refine ⟨?_, rfl⟩
            rw [HG.out, if_pos ⟨by simpa using h2, h1⟩]; rfl
          all_goals
            have hfin : Hid (groupsFrom 0 0 bs = (leSum (e + 1) bs, e + 1, 0)) := by
              show groupsFrom 0 0 bs = (leSum (e + 1) bs, e + 1, 0)
              rw [HG.out, if_neg]
              rintro ⟨q1, q2⟩
              first
                | (have h2 : ((bs[e].toNat : Int) == 0) = false := by assumption
                   rw [q1] at h2; exact absurd h2 (by decide))
                | (have h2 : ¬ 0 < e := by assumption
                   exact h2 q2)
            clear HG hg
            go_loop [8, 9] (fun x y => ∃ (n k : Nat), x = .int .u64 n ∧ y = .int .i64 ((k : Int) - 1) ∧ k ≤ e + 1 ∧ Hid (leSum k bs + n * 128 ^ k = leSum (e + 1) bs)) (fun _ y => (intOf y + 1).toNat)
            case atStart => exact ⟨0, e + 1, rfl, by go_num, by omega, by simp [Hid]⟩
            case round =>
              obtain ⟨n, k, rfl, rfl, hk, hn⟩ := hrel
              cases k with
              | zero =>
                go_wp2
                go_ret3
                refine ⟨?_, rfl⟩
                have hn1 : n = leSum (e + 1) bs := by
                  have h0 : 0 + n * 128 ^ 0 = leSum (e + 1) bs := hn.out
                  rw [Nat.pow_zero] at h0
                  omega
                rw [hfin.out, ← hn1]
                rfl
              | succ m =>
                have em : (((m + 1 : Nat) : Int) - 1) = (m : Int) := by omega
                rw [em]
                have hcm := Hc.out m (by omega)
                have hnl := digit_lt hn.out Hle.out hk
                have hp8 : (128 : Nat) ^ (e + 1 - (m + 1)) ≤ 72057594037927936 := pow128_le (by omega)
                have hn56 : n < 72057594037927936 := by omega
                clear hnl hp8
                go_wp2
                go_round
                case rel => exact ⟨128 * n + bs[m].toNat % 128, m, by go_num, by go_num, by omega, leSum_step (by omega) hn.out⟩
                case measure => simp [intOf]; try omega
      · obtain rfl : e = 9 := by omega
        have hG := groupsFrom_nine bs (by omega) hg.out
        have HG := Lib.hid hG; clear hG
        go_wp2
        go_ret3
        exact ⟨by rw [HG.out]; rfl, rfl⟩
    · obtain rfl : e = bs.length := by omega
      by_cases h9 : bs.length = 9
      · have hG := groupsFrom_nine bs (by omega) (fun j hj hje => hg.out j hj (by omega))
        have HG := Lib.hid hG; clear hG
        have n9 : ((bs.length : Int) == 9) = true := by simp; omega
        have H9 := Lib.hid h9; clear h9
        go_wp2
        go_ret3
        exact ⟨by rw [HG.out]; rfl, rfl⟩
      · have hG := groupsFrom_short bs (by omega) (fun j hj => hg.out j hj hj)
        have HG := Lib.hid hG; clear hG
        have n9 : ((bs.length : Int) == 9) = false := by simp; omega
        go_wp2
        go_ret3
        exact ⟨by rw [HG.out]; rfl, rfl⟩

/-- the cells of a slice of bytes that can be read -/
theorem sees_bytes {w : World} {v : Value} {bs : List UInt8} (h : Sees w 1 v bs.length (bs.map bval)) :
    (v = .slice none 0 0 ∧ bs = []) ∨ ∃ b off c, v = .slice (some ⟨b, off, none⟩) bs.length c ∧ bs.length ≤ c ∧ b < w.heap.size ∧ ∀ j (hj : j < bs.length), w.cell? ⟨b, off + j, none⟩ = some (.int .u8 (bs[j].toNat : Nat)) := by
  obtain ⟨_, ao, c, rfl, hc, h2⟩ := h
  rcases h2 with ⟨rfl, rfl⟩ | ⟨b, off, rfl, hlt, hcell⟩
  · have h0 : bs = [] := List.eq_nil_of_length_eq_zero (by omega)
    subst h0
    exact .inl ⟨rfl, rfl⟩
  · exact .inr ⟨b, off, c, rfl, hc, hlt, fun j hj => hcell j _ (by simp [hj, bval])⟩

set_option maxRecDepth 100000 in
set_option maxHeartbeats 400000 in
theorem groups_any (v : Value) (bs : List UInt8) (w : World) (h : Sees w 1 v bs.length (bs.map bval)) (hlen : bs.length ≤ 1000000000) :
    Calls Tryz.prog 141 #[v, .int .i64 9] w fun e w' =>
      e = .returned (.tuple #[.int .u64 (groupsFrom 0 0 bs).1, .int .i64 (groupsFrom 0 0 bs).2.1, .int .i64 (groupsFrom 0 0 bs).2.2]) ∧ w = w' := by
  rcases sees_bytes h with ⟨rfl, rfl⟩ | ⟨b, off, c, rfl, hc, _, hcell⟩
  · clear h
    go_enter Tryz.func141, Tryz.ntmps141
    go_wp2
    go_rounds 1
    go_ret3
    exact ⟨rfl, rfl⟩
  · exact groups_some b off c bs w hcell hlen

set_option maxRecDepth 100000 in
set_option maxHeartbeats 400000 in
theorem refGroups_any (v : Value) (bs : List UInt8) (w : World) (h : Sees w 1 v bs.length (bs.map bval)) (hlen : bs.length ≤ 1000000000) :
    Calls Tryz.prog 160 #[v, .int .i64 9] w fun e w' =>
      e = .returned (.tuple #[.int .u64 (groupsFrom 0 0 bs).1, .int .i64 (groupsFrom 0 0 bs).2.1, .int .i64 (groupsFrom 0 0 bs).2.2]) ∧ w = w' := by
  rcases sees_bytes h with ⟨rfl, rfl⟩ | ⟨b, off, c, rfl, hc, _, hcell⟩
  · clear h
    go_enter Tryz.func160, Tryz.ntmps160
    go_wp2
    go_rounds 1
    go_ret3
    exact ⟨rfl, rfl⟩
  · exact refGroups_some b off c bs w hcell hlen
end Go.Proofs.YtgonfcdmaoeboaaGreatDoor

/- The reference's Natural and Text; Parse in both packages. -/
namespace Go.Proofs.YtgonfcdmaoeboaaGreatDoor
open Go.RowKit

set_option maxRecDepth 100000 in
set_option maxHeartbeats 400000 in
theorem refNatural_any (u : Nat) (hu : u < 18446744073709551616) (w : World) :
    Calls Tryz.prog 92 #[.int .u64 u] w fun e w' => ∃ v, e = .returned v ∧ w'.ownsRow w.heap.size 5 1 v (natBytes u).length ((natBytes u).map bval) ∧ Below w.heap.size w w' := by
  have Hu := Lib.hid hu; clear hu
  go_enter Tryz.func92, Tryz.ntmps92
  go_wp2
  go_loopw [0, 3] (fun x v wr => ∃ (n : Nat) (pre : List UInt8), x = .int .u64 n ∧ n ≤ u ∧ Hid (natBytes u = pre ++ natBytes n) ∧ pre.length ≤ 10 ∧ wr.ownsRow w.heap.size 5 1 v pre.length (pre.map bval) ∧ Below w.heap.size w wr)
    (fun x _ _ => (intOf x).toNat)
  case atStart => exact ⟨u, [], rfl, Nat.le_refl _, rfl, by simp, World.ownsRow_nil _ _ _ _, Below.refl _ _⟩
  case round =>
    obtain ⟨n, pre, rfl, hn, hp, hpl, hown, hb⟩ := hrel
    have hbs := hb.size
    have hq : IntKind.u64.wrap ((n : Int) / 128) = (n : Int) / 128 := by have := Hu.out; rw [IntKind.wrap_u64]; omega
    have Hq := Lib.hid hq; clear hq
    by_cases h : 128 ≤ n
    · go_wp2_with (at_builtin; go_loud (refine wpList_append_lit wr _ rfl _ _ 112 rfl w.heap.size 5 (.int .u8 0) 1 1 Tryz.underlying112 Tryz.info5 rfl (by decide) hown rfl 1 rfl rfl ?c0 ?c1 ?c2 hbs ?_))
      case c0 => simp [Value.oneCell']
      case c1 => unfold maxLen; omega
      case c2 => omega
      · intro v' w1 hown1 hg1 _
        go_wp2
        go_roundw
        case rel =>
          have eb : Value.int .u8 ((n : Int) % 128 + 128) = bval (UInt8.ofNat (n % 128 + 128)) := by
            unfold bval
            rw [UInt8.toNat_ofNat_of_lt' (by simp [UInt8.size]; omega)]
            congr 1
          rw [eb, map_snoc] at hown1
          exact ⟨n / 128, pre ++ [UInt8.ofNat (n % 128 + 128)], by rw [Hq.out]; go_num, by omega, by have h1 := hp.out; rw [natBytes_ge h] at h1; rw [h1]; simp [Hid], by have h1 := congrArg List.length hp.out; have := natBytes_len64 Hu.out; have := natBytes_len_pos n; simp at h1 ⊢; omega, by simpa using hown1, hb.grown hg1 hbs (fun k hk => (hown.lt k hk).1)⟩
        case measure => rw [Hq.out]; simp [intOf]; try omega
    · go_wp2_with (at_builtin; go_loud (refine wpList_append_lit wr _ rfl _ _ 112 rfl w.heap.size 5 (.int .u8 0) 1 1 Tryz.underlying112 Tryz.info5 rfl (by decide) hown rfl 1 rfl rfl ?d0 ?d1 ?d2 hbs ?_))
      case d0 => simp [Value.oneCell']
      case d1 => unfold maxLen; omega
      case d2 => omega
      · intro v' w1 hown1 hg1 _
        go_wp2
        go_ret
        rw [byte_lt (by omega), map_snoc] at hown1
        have e : natBytes u = pre ++ [UInt8.ofNat n] := by rw [hp.out, natBytes_lt (by omega)]
        exact ⟨_, rfl, by rw [e]; simpa using hown1, hb.grown hg1 hbs (fun k hk => (hown.lt k hk).1)⟩

set_option maxRecDepth 100000 in
set_option maxHeartbeats 400000 in
theorem refText_any (s : ByteArray) (hs : s.size ≤ 100000000) (w : World) :
    Calls Tryz.prog 93 #[.string s] w fun e w' => ∃ v, e = .returned v ∧ w'.ownsRow w.heap.size 5 1 v (natBytes s.size ++ s.data.toList).length ((natBytes s.size ++ s.data.toList).map bval) ∧ Below w.heap.size w w' := by
  have hnl := natBytes_len64 (n := s.size) (by omega)
  go_enter Tryz.func93, Tryz.ntmps93
  go_wp2_with (go_at_call 92; refine (refNatural_any s.size (by omega) _).mono ?_; rintro e w1 ⟨v1, rfl, hown1, hb1⟩)
  go_loopw [3, 4] (fun v i wr => ∃ (k : Nat), i = .int .i64 k ∧ k ≤ s.size ∧ wr.ownsRow w.heap.size 5 1 v (natBytes s.size ++ s.data.toList.take k).length ((natBytes s.size ++ s.data.toList.take k).map bval) ∧ Below w.heap.size w wr)
    (fun _ i _ => s.size - (intOf i).toNat)
  case atStart => exact ⟨0, rfl, by simp, by simpa using hown1, hb1⟩
  case round =>
    obtain ⟨k, rfl, hk, hown, hb⟩ := hrel
    have hbs := hb.size
    have hln : (natBytes s.size ++ s.data.toList.take k).length = (natBytes s.size).length + k := by
      have : s.data.toList.length = s.size := rfl
      simp; omega
    have Hln := Lib.hid hln; clear hln
    by_cases hlt : k < s.size
    · go_wp2_with (at_builtin; go_loud (refine wpList_append_lit wr _ rfl _ _ 112 rfl w.heap.size 5 (.int .u8 0) 1 1 Tryz.underlying112 Tryz.info5 rfl (by decide) hown rfl 1 rfl rfl ?c0 ?c1 ?c2 hbs ?_))
      case c0 => simp [Value.oneCell']
      case c1 => unfold maxLen; have := Hln.out; omega
      case c2 => have := Hln.out; omega
      · intro v' w1 hown1 hg1 _
        go_wp2
        go_roundw
        case rel =>
          have et : s.data.toList.take (k + 1) = s.data.toList.take k ++ [s[k]] := by
            rw [List.take_succ_eq_append_getElem (by simpa using hlt)]; rfl
          refine ⟨k + 1, by go_num, by omega, ?_, hb.grown hg1 hbs (fun k hk => (hown.lt k hk).1)⟩
          exact owns_eq hown1 (by rw [et]; simp; have : s.data.toList.length = s.size := rfl; simp at this; omega) (by rw [et]; simp [bval])
        case measure => simp [intOf]; try omega
    · go_wp2
      go_ret
      obtain rfl : k = s.size := by omega
      refine ⟨_, rfl, ?_, hb⟩
      have et : s.data.toList.take s.size = s.data.toList := List.take_of_length_le (Nat.le_refl _)
      rw [et] at hown
      exact hown

theorem wrap_i64_of {n : Nat} (h : n < 9223372036854775808) : IntKind.i64.wrap (n : Int) = (n : Int) := IntWalk.i64_in _ (by omega)

set_option maxRecDepth 100000 in
set_option maxHeartbeats 400000 in
theorem parse_any (v : Value) (bs : List UInt8) (w : World) (h : Sees w 1 v bs.length (bs.map bval)) (hlen : bs.length ≤ 1000000000) :
    Calls Tryz.prog 107 #[v] w fun e w' =>
      e = .returned (.tuple #[.int .i64 (groupsFrom 0 0 bs).1, .int .i64 (groupsFrom 0 0 bs).2.1, .int .i64 (groupsFrom 0 0 bs).2.2]) ∧ w = w' := by
  have hw : (groupsFrom 0 0 bs).1 ≤ 9223372036854775807 := Nat.le_of_lt_succ (groupsFrom_lt bs 0 0 (by omega) (by simp))
  go_enter Tryz.func107, Tryz.ntmps107
  go_wp2_with (go_at_call 141; refine (groups_any v bs _ h hlen).mono ?_; rintro e w1 ⟨rfl, rfl⟩)
  go_ret3
  exact ⟨rfl, rfl⟩

set_option maxRecDepth 100000 in
set_option maxHeartbeats 400000 in
theorem refParse_any (v : Value) (bs : List UInt8) (w : World) (h : Sees w 1 v bs.length (bs.map bval)) (hlen : bs.length ≤ 1000000000) :
    Calls Tryz.prog 138 #[v] w fun e w' =>
      e = .returned (.tuple #[.int .i64 (groupsFrom 0 0 bs).1, .int .i64 (groupsFrom 0 0 bs).2.1, .int .i64 (groupsFrom 0 0 bs).2.2]) ∧ w = w' := by
  have hw : (groupsFrom 0 0 bs).1 ≤ 9223372036854775807 := Nat.le_of_lt_succ (groupsFrom_lt bs 0 0 (by omega) (by simp))
  go_enter Tryz.func138, Tryz.ntmps138
  go_wp2_with (go_at_call 160; refine (refGroups_any v bs _ h hlen).mono ?_; rintro e w1 ⟨rfl, rfl⟩)
  go_ret3
  exact ⟨rfl, rfl⟩
end Go.Proofs.YtgonfcdmaoeboaaGreatDoor

/- The writer of package codec. -/
namespace Go.Proofs.YtgonfcdmaoeboaaGreatDoor
open Go.RowKit

/-- block wb, not below B, is a writer without error that has written bs -/
def WriterIs (B : Nat) (w : World) (wb : Nat) (bs : List UInt8) : Prop :=
  B ≤ wb ∧ ∃ v, Blk w wb #[v, .int .i64 0] 173 ∧ w.ownsRow B 5 1 v bs.length (bs.map bval) ∧ v.ownBlock ≠ some wb

set_option maxRecDepth 100000 in
set_option maxHeartbeats 400000 in
theorem newWriter_any (w : World) :
    Calls Tryz.prog 56 #[] w fun e w' => e = .returned (.pointer (some ⟨w.heap.size, 0, none⟩)) ∧ WriterIs w.heap.size w' w.heap.size [] ∧ Below w.heap.size w w' := by
  go_enter Tryz.func56, Tryz.ntmps56
  go_wp2
  go_ret
  exact ⟨rfl, ⟨Nat.le_refl _, _, Blk.new _ _ _, World.ownsRow_nil _ _ _ _, by simp [Value.ownBlock]⟩, (Below.refl _ _).alloc (Nat.le_refl _) _⟩

/-- the parts that are written: each a slice of bytes that can be read -/
def Parts (w : World) (ps : List (Value × List UInt8)) : Prop := ∀ p ∈ ps, Sees w 1 p.1 p.2.length (p.2.map bval)

/-- what holds between two parts: k of them are written -/
def Writing (B C wb : Nat) (out : List UInt8) (ps : List (Value × List UInt8)) (w wr : World) (k : Nat) : Prop :=
  Below B w wr ∧ (∃ v, Blk wr wb #[v, .int .i64 0] 173 ∧ wr.ownsRow B 5 1 v (out ++ (ps.take k).flatMap (·.2)).length ((out ++ (ps.take k).flatMap (·.2)).map bval) ∧
    v.ownBlock ≠ some wb ∧ ∀ g, v.ownBlock = some g → g < C ∨ w.heap.size ≤ g) ∧ ∀ j, C ≤ j → j < w.heap.size → wr.heap[j]? = w.heap[j]?

theorem writing_step {B C wb : Nat} {out : List UInt8} {ps : List (Value × List UInt8)} {w wr w1 : World} {k : Nat} {v v' : Value} (hk : k < ps.length) (hBw : B ≤ wb) (hwC : wb < C)
    (hW : Writing B C wb out ps w wr k) (hblk : Blk wr wb #[v, .int .i64 0] 173)
    (hown1 : w1.ownsRow B 5 1 v' ((out ++ (ps.take k).flatMap (·.2)).length + ps[k].2.length) ((out ++ (ps.take k).flatMap (·.2)).map bval ++ ps[k].2.map bval)) (hg1 : wr.grownBy w1 v.ownBlock)
    (hwh : v'.ownBlock = v.ownBlock ∨ v'.ownBlock = some wr.heap.size) : Writing B C wb out ps w (w1.setCell ⟨wb, 0, none⟩ v') (k + 1) := by
  obtain ⟨hb, ⟨v0, hblk0, hown, hne, hC⟩, hkeep⟩ := hW
  obtain rfl : v0 = v := by have := (hblk0.inj hblk).1; simpa using this
  have hbs := hb.size
  have hblk1 := hblk0.grown hg1 (fun e => hne e.symm)
  have hlt := hblk0.lt
  have et : (ps.take (k + 1)).flatMap (·.2) = (ps.take k).flatMap (·.2) ++ ps[k].2 := by
    rw [List.take_succ_eq_append_getElem hk, List.flatMap_append, List.flatMap_cons, List.flatMap_nil, List.append_nil]
  have hv1 : v'.ownBlock ≠ some wb := by
    rcases hwh with h | h <;> rw [h]
    · exact hne
    · simp; omega
  refine ⟨(hb.grown hg1 (by have := (hb.block : _); exact Nat.le_trans hBw (Nat.le_of_lt hlt)) (fun k hk => (hown.lt k hk).1)).setCell hBw _, ⟨v', ?_, ?_, hv1, ?_⟩, ?_⟩
  · exact (hblk1.set 0 v').congr rfl
  · refine World.ownsRow.kept (row := some wb) (owns_eq hown1 (by rw [et]; simp; omega) (by rw [et]; simp)) ⟨rfl, rfl, rfl, by simp, fun j _ hj => heap_setCell_other w1 _ j _ (fun e => hj (by rw [e]))⟩ (.inr hv1)
  · intro g hg
    rcases hwh with h | h
    · exact hC g (h ▸ hg)
    · rw [h] at hg; simp at hg; omega
  · intro j hj hjw
    have h1 : (w1.setCell ⟨wb, 0, none⟩ v').heap[j]? = w1.heap[j]? := heap_setCell_other w1 _ j _ (by simp; omega)
    rw [h1, hg1.block j (by omega) (fun e => ?_)]
    · exact hkeep j hj hjw
    · rcases hC j e.symm with h | h <;> omega

set_option maxRecDepth 100000 in
set_option maxHeartbeats 800000 in
theorem write_ok (B C wb : Nat) (out : List UInt8) (pb : Nat) (ps : List (Value × List UInt8)) (w : World) (v0 : Value) (hBw : B ≤ wb) (hblk : Blk w wb #[v0, .int .i64 0] 173) (hwC : wb < C) (_ : B ≤ C)
    (hown : w.ownsRow B 5 1 v0 out.length (out.map bval)) (hne : v0.ownBlock ≠ some wb) (hvC : ∀ k, v0.ownBlock = some k → k < C)
    (hpb : Blk w pb (ps.map (·.1)).toArray 112) (hCp : C ≤ pb) (hps : Parts w ps) (hCs : ∀ p ∈ ps, ∀ k, p.1.ownBlock = some k → C ≤ k)
    (hlen : (out ++ ps.flatMap (·.2)).length ≤ 1000000000) (hpl : ps.length ≤ 1000) :
    Calls Tryz.prog 103 #[.pointer (some ⟨wb, 0, none⟩), .int .i64 0, .slice (some ⟨pb, 0, none⟩) ps.length ps.length] w fun e w' =>
      e = .returned (.tuple #[]) ∧ WriterIs B w' wb (out ++ ps.flatMap (·.2)) ∧ Below B w w' := by
  obtain ⟨c0, c1, f0, f1⟩ := hblk.two
  have Hps := Lib.hid hps; clear hps
  have HCs := Lib.hid hCs; clear hCs
  have HvC := Lib.hid hvC; clear hvC
  have Hne := Lib.hid hne; clear hne
  have Hlen := Lib.hid hlen; clear hlen
  go_enter Tryz.func103, Tryz.ntmps103
  go_wp2_with fail
  go_loopw [25] (fun i wr => ∃ k : Nat, i = .int .i64 k ∧ k ≤ ps.length ∧ Hid (Writing B C wb out ps w wr k)) (fun i _ => ps.length - (intOf i).toNat)
  case atStart =>
    refine ⟨0, rfl, by simp, (Below.refl _ _).setCell hBw _, ⟨v0, (hblk.set 1 _).congr rfl, ?_, Hne.out, fun g hg => .inl (HvC.out g hg)⟩, ?_⟩
    · refine World.ownsRow.kept (row := some wb) (owns_eq hown (by simp) (by simp)) ⟨rfl, rfl, rfl, by simp, fun j _ hj => heap_setCell_other w _ j _ (fun e => hj (by rw [e]))⟩ (.inr Hne.out)
    · intro j hj _
      exact heap_setCell_other w _ j _ (by simp; omega)
  case round =>
    obtain ⟨k, rfl, hk, hW⟩ := hrel
    by_cases hlt : k < ps.length
    · obtain ⟨hb, ⟨v, hblkr, hownr, hner, hCr⟩, hkeep⟩ := hW.out
      obtain ⟨d0, d1, g0, g1⟩ := hblkr.two
      have hpr : Blk wr pb (ps.map (·.1)).toArray 112 := (hkeep pb hCp hpb.lt).trans hpb
      have hcell : wr.cell? ⟨pb, k, none⟩ = some ps[k].1 := by rw [hpr.cell]; simp [hlt]
      have hmem : ps[k] ∈ ps := List.getElem_mem hlt
      have hs0 := Hps.out ps[k] hmem
      have hsee : Sees wr 1 ps[k].1 ps[k].2.length (ps[k].2.map bval) := hs0.kept hb.size (fun j hj => hkeep j (HCs.out _ hmem j hj) (hs0.lt j hj))
      have hlk : (out ++ (ps.take k).flatMap (·.2)).length + ps[k].2.length ≤ 1000000000 := by
        have h1 := Hlen.out
        have e2 : ps.flatMap (·.2) = (ps.take k).flatMap (·.2) ++ (ps[k].2 ++ (ps.drop (k + 1)).flatMap (·.2)) := by
          conv => lhs; rw [← List.take_append_drop k ps, List.drop_eq_getElem_cons hlt]
          rw [List.flatMap_append, List.flatMap_cons]
        rw [e2] at h1
        simp only [List.length_append] at h1 ⊢
        omega
      have hBr : B ≤ wr.heap.size := Nat.le_trans hBw (Nat.le_of_lt hblkr.lt)
      have Hkeep := Lib.hid hkeep; clear hkeep
      have HCr := Lib.hid hCr; clear hCr
      have Hner := Lib.hid hner; clear hner
      have Hlk := Lib.hid hlk; clear hlk
      obtain ⟨p, hp⟩ : ∃ p, p = ps[k] := ⟨_, rfl⟩
      rw [← hp] at hcell hsee
      have Hp := Lib.hid hp; clear hp
      obtain ⟨dn, hdn⟩ : ∃ dn, dn = out ++ (ps.take k).flatMap (·.2) := ⟨_, rfl⟩
      rw [← hdn] at hownr
      have Hdn := Lib.hid hdn; clear hdn
      go_wp2_with (at_builtin; go_loud (refine wpList_append_where wr rfl _ _ 112 rfl B 5 (.int .u8 0) 1 1 Tryz.underlying112 Tryz.info5 rfl (by decide) hownr rfl hsee rfl (bytes_oneCell _) ?c1 ?c2 hBr ?_))
      case c1 => have := Hlk.out; rw [← Hp.out, ← Hdn.out] at this; unfold maxLen; omega
      case c2 => have := Hlk.out; rw [← Hp.out, ← Hdn.out] at this; omega
      · intro v' w1 hown1 hg1 hwh _
        obtain ⟨a', c', rfl⟩ := owns_slice hown1
        have hblk1 := hblkr.grown hg1 (fun e => Hner.out e.symm)
        obtain ⟨e0, e1, h0, h1⟩ := hblk1.two
        have hstep := writing_step hlt hBw hwC hW.out hblkr (by rw [← Hp.out, ← Hdn.out]; exact hown1) hg1 hwh
        have Hstep := Lib.hid hstep; clear hstep
        have Hwh := Lib.hid hwh; clear hwh
        go_wp2
        go_roundw
        case rel => exact ⟨k + 1, by go_num, by omega, Hstep.out⟩
        case measure => simp [intOf]; try omega
    · obtain rfl : k = ps.length := by omega
      go_wp2
      go_end0
      obtain ⟨hb, ⟨v, hblkr, hownr, hner, _⟩, _⟩ := hW.out
      rw [List.take_of_length_le (Nat.le_refl _)] at hownr
      exact ⟨rfl, ⟨hBw, v, hblkr, hownr, hner⟩, hb⟩
end Go.Proofs.YtgonfcdmaoeboaaGreatDoor

/- The writer's Number, Text, Bytes. -/
namespace Go.Proofs.YtgonfcdmaoeboaaGreatDoor
open Go.RowKit

theorem WriterIs.lt {B : Nat} {w : World} {wb : Nat} {bs : List UInt8} (h : WriterIs B w wb bs) : wb < w.heap.size := by
  obtain ⟨_, v, hb, _⟩ := h; exact hb.lt
theorem WriterIs.le {B : Nat} {w : World} {wb : Nat} {bs : List UInt8} (h : WriterIs B w wb bs) : B ≤ w.heap.size := Nat.le_trans h.1 (Nat.le_of_lt h.lt)
/-- a writer stays what it is while nothing below the heap's size turns -/
theorem WriterIs.kept {B : Nat} {w w' : World} {wb : Nat} {bs : List UInt8} (h : WriterIs B w wb bs) (hb : Below w.heap.size w w') : WriterIs B w' wb bs := by
  obtain ⟨hB, v, hblk, hown, hne⟩ := h
  refine ⟨hB, v, hblk.below hb hblk.lt, ?_, hne⟩
  refine hown.kept (row := none) ⟨hb.os, hb.tape, hb.output, hb.size, fun k hk _ => hb.block k hk⟩ ?_
  cases hv : v.ownBlock <;> simp

set_option maxRecDepth 100000 in
set_option maxHeartbeats 400000 in
theorem number_ok (B wb : Nat) (out : List UInt8) (n : Nat) (hn : n ≤ 4611686018427387904) (w : World) (hw : WriterIs B w wb out) (hlen : out.length ≤ 100000000) :
    Calls Tryz.prog 58 #[.pointer (some ⟨wb, 0, none⟩), .int .i64 n] w fun e w' =>
      e = .returned (.tuple #[]) ∧ WriterIs B w' wb (out ++ natBytes n) ∧ Below B w w' := by
  have hnl := natBytes_len64 (n := n) (by omega)
  have Hw := Lib.hid hw; clear hw
  go_enter Tryz.func58, Tryz.ntmps58
  go_wp2_with (go_at_call 104; refine (natural_any n (by omega) _).mono ?_; rintro e w1 ⟨v1, rfl, hown1, hb1⟩; obtain ⟨a1, c1, rfl⟩ := owns_slice hown1)
  have hw1 := Hw.out.kept hb1
  have hlt := Hw.out.lt
  have hle := Hw.out.le
  obtain ⟨hB, v0, hblk, hown, hne⟩ := hw1.kept ((Below.refl _ _).alloc (Nat.le_refl _) (.cells #[.slice a1 _ c1] 112))
  have h0 : ∀ k, v0.ownBlock = some k → k < w.heap.size := by
    obtain ⟨_, v00, hblk0, hown0, _⟩ := Hw.out
    obtain rfl : v00 = v0 := by
      have h2 := ((hblk0.below hb1 hblk0.lt).alloc (.cells #[.slice a1 _ c1] 112)).inj hblk
      simpa using h2.1
    exact fun k hk => (hown0.lt k hk).2
  refine (write_ok B w.heap.size wb out w1.heap.size [(.slice a1 _ c1, natBytes n)] _ v0 hB hblk hlt hle hown hne h0 (Blk.new _ _ _) hb1.size ?_ ?_ ?_ (by simp)).mono ?_
  · intro p hp
    obtain rfl : p = (.slice a1 _ c1, natBytes n) := by simpa using hp
    exact (sees_of_owns hown1).below ((Below.refl _ _).alloc (Nat.le_refl _) _)
  · intro p hp k hk
    obtain rfl : p = (.slice a1 _ c1, natBytes n) := by simpa using hp
    exact (hown1.lt k hk).1
  · simp; omega
  · rintro e w2 ⟨rfl, hw2, hb2⟩
    go_wp2
    go_end0
    refine ⟨rfl, by simpa using hw2, ((hb1.mono hle).alloc (Nat.le_trans hle hb1.size) _).trans hb2⟩

theorem below_alloc (w : World) (o : Obj) : Below w.heap.size w (w.alloc o) := (Below.refl _ _).alloc (Nat.le_refl _) o

set_option maxRecDepth 100000 in
set_option maxHeartbeats 800000 in
theorem text_ok (B wb : Nat) (out : List UInt8) (s : ByteArray) (hs : s.size ≤ 1000000) (w : World) (hw : WriterIs B w wb out) (hlen : out.length ≤ 100000000) :
    Calls Tryz.prog 57 #[.pointer (some ⟨wb, 0, none⟩), .string s] w fun e w' =>
      e = .returned (.tuple #[]) ∧ WriterIs B w' wb (out ++ natBytes s.size ++ s.data.toList) ∧ Below B w w' := by
  have hnl := natBytes_len64 (n := s.size) (by omega)
  have Hw := Lib.hid hw; clear hw
  go_enter Tryz.func57, Tryz.ntmps57
  go_wp2_with (first | (go_at_call 104; refine (natural_any s.size (by omega) _).mono ?_; rintro e w1 ⟨v1, rfl, hown1, hb1⟩; obtain ⟨a1, c1, rfl⟩ := owns_slice hown1) | (with_reducible refine wpList_bytes_of_string (o := ⟨some 15, _, _, _, _, _⟩) _ rfl _ _ 5 _ rfl Tryz.underlying9 Tryz.underlying112 Tryz.underlying5 s rfl ?_))
  intro cap w2 hcap hsee2 hb2 hsz2
  go_wp2_with fail
  have hb12 : Below w.heap.size w w2 := hb1.trans (hb2.mono hb1.size)
  have hw2 := Hw.out.kept hb12
  have hlt := Hw.out.lt
  have hle := Hw.out.le
  have hs1 := (sees_of_owns hown1).below hb2
  obtain ⟨hB, v0, hblk, hown, hne⟩ := hw2.kept (below_alloc _ (.cells #[.slice a1 (natBytes s.size).length c1, .slice (some ⟨w1.heap.size, 0, none⟩) s.size cap] 112))
  have h0 : ∀ k, v0.ownBlock = some k → k < w.heap.size := by
    obtain ⟨_, v00, hblk0, hown0, _⟩ := Hw.out
    obtain rfl : v00 = v0 := by
      have h2 := ((hblk0.below hb12 hblk0.lt).alloc (.cells #[.slice a1 (natBytes s.size).length c1, .slice (some ⟨w1.heap.size, 0, none⟩) s.size cap] 112)).inj hblk
      simpa using h2.1
    exact fun k hk => (hown0.lt k hk).2
  refine (write_ok B w.heap.size wb out w2.heap.size [(.slice a1 (natBytes s.size).length c1, natBytes s.size), (.slice (some ⟨w1.heap.size, 0, none⟩) s.size cap, s.data.toList)] _ v0 hB hblk hlt hle hown hne h0 (Blk.new _ _ _) hb12.size ?_ ?_ ?_ (by simp)).mono ?_
  · intro p hp
    have hp2 : p = (.slice a1 (natBytes s.size).length c1, natBytes s.size) ∨ p = (.slice (some ⟨w1.heap.size, 0, none⟩) s.size cap, s.data.toList) := by simpa using hp
    rcases hp2 with rfl | rfl
    · exact hs1.below (below_alloc _ _)
    · exact hsee2.below (below_alloc _ _)
  · intro p hp k hk
    have hp2 : p = (.slice a1 (natBytes s.size).length c1, natBytes s.size) ∨ p = (.slice (some ⟨w1.heap.size, 0, none⟩) s.size cap, s.data.toList) := by simpa using hp
    rcases hp2 with rfl | rfl
    · exact (hown1.lt k hk).1
    · have := hb1.size
      simp [Value.ownBlock] at hk
      omega
  · have : s.data.size = s.size := rfl
    simp; omega
  · rintro e w3 ⟨rfl, hw3, hb3⟩
    go_wp2
    go_end0
    refine ⟨rfl, by simpa using hw3, ((hb12.mono hle).alloc (Nat.le_trans hle hb12.size) _).trans hb3⟩

set_option maxRecDepth 100000 in
set_option maxHeartbeats 400000 in
theorem bytes_ok (B wb : Nat) (out : List UInt8) (w : World) (hw : WriterIs B w wb out) (hlen : out.length ≤ 100000000) :
    Calls Tryz.prog 59 #[.pointer (some ⟨wb, 0, none⟩)] w fun e w' =>
      ∃ v, e = .returned (.tuple #[v, .int .i64 0]) ∧ w'.ownsRow w.heap.size 5 1 v out.length (out.map bval) ∧ Below w.heap.size w w' := by
  obtain ⟨hB, v0, hblk, hown, hne⟩ := hw
  obtain ⟨c0, c1, f0, f1⟩ := hblk.two
  have hB' : B ≤ w.heap.size := Nat.le_trans hB (Nat.le_of_lt hblk.lt)
  have hlt := hblk.lt
  have d0 : (w.alloc (.cells #[] 5)).cell? ⟨wb, 0, none⟩ = some v0 := (hblk.alloc _).two.1
  have hnew : (w.alloc (.cells #[] 5)).ownsRow w.heap.size 5 1 (.slice (some ⟨w.heap.size, 0, none⟩) 0 0) 0 [] := World.ownsRow_lit w #[] 0 (Nat.le_refl _) (by decide) rfl
  have hsee : Sees (w.alloc (.cells #[] 5)) 1 v0 out.length (out.map bval) := (sees_of_owns hown).below (below_alloc _ _)
  go_enter Tryz.func59, Tryz.ntmps59
  go_wp2_with (at_builtin; go_loud (refine wpList_append_where (w.alloc (.cells #[] 5)) rfl _ _ 112 rfl w.heap.size 5 (.int .u8 0) 1 1 Tryz.underlying112 Tryz.info5 rfl (by decide) hnew rfl hsee rfl (bytes_oneCell _) ?c1 ?c2 ?c3 ?_))
  case c1 => unfold maxLen; omega
  case c2 => omega
  case c3 => simp
  · intro v' w1 hown1 hg1 hwh _
    go_wp2
    go_ret2
    refine ⟨_, rfl, by simpa using hown1, ((Below.refl _ _).alloc (Nat.le_refl _) _).grown hg1 (by simp) (fun k hk => ?_)⟩
    simp [Value.ownBlock] at hk
    omega
end Go.Proofs.YtgonfcdmaoeboaaGreatDoor

/- The reader of package codec. -/
namespace Go.Proofs.YtgonfcdmaoeboaaGreatDoor
open Go.RowKit

set_option maxRecDepth 100000 in
set_option maxHeartbeats 400000 in
theorem number1_any (v : Value) (rest : List UInt8) (mb most : Nat) (w : World) (h : Sees w 1 v rest.length (rest.map bval)) (hlen : rest.length ≤ 1000000000) (hm : w.cell? ⟨mb, 0, none⟩ = some (.int .i64 most)) :
    Calls Tryz.prog 109 #[v, .pointer (some ⟨mb, 0, none⟩)] w fun e w' =>
      e = .returned (.tuple #[.int .i64 (numAt most rest).1, .int .i64 (numAt most rest).2.1, .int .i64 (numAt most rest).2.2]) ∧ w = w' := by
  by_cases he : (groupsFrom 0 0 rest).2.2 = 0
  · by_cases hn : most < (groupsFrom 0 0 rest).1
    · have hfin : numAt most rest = (0, 0, 2) := by unfold numAt; rw [if_pos ⟨he, hn⟩]
      have Hfin := Lib.hid hfin; clear hfin
      have he' : (((groupsFrom 0 0 rest).2.2 : Int) == 0) = true := by simp [he]
      have He := Lib.hid he; clear he
      go_enter Tryz.func109, Tryz.ntmps109
      go_wp2_with (go_at_call 107; refine (parse_any v rest _ h hlen).mono ?_; rintro e w1 ⟨rfl, rfl⟩)
      go_ret3
      exact ⟨by rw [Hfin.out]; rfl, rfl⟩
    · have hfin : numAt most rest = groupsFrom 0 0 rest := by unfold numAt; rw [if_neg (fun q => hn q.2)]
      have Hfin := Lib.hid hfin; clear hfin
      have he' : (((groupsFrom 0 0 rest).2.2 : Int) == 0) = true := by simp [he]
      have He := Lib.hid he; clear he
      go_enter Tryz.func109, Tryz.ntmps109
      go_wp2_with (go_at_call 107; refine (parse_any v rest _ h hlen).mono ?_; rintro e w1 ⟨rfl, rfl⟩)
      go_ret3
      exact ⟨by rw [Hfin.out]; rfl, rfl⟩
  · have hfin : numAt most rest = groupsFrom 0 0 rest := by unfold numAt; rw [if_neg (fun q => he q.1)]
    have Hfin := Lib.hid hfin; clear hfin
    have he' : (((groupsFrom 0 0 rest).2.2 : Int) == 0) = false := by simp; omega
    go_enter Tryz.func109, Tryz.ntmps109
    go_wp2_with (go_at_call 107; refine (parse_any v rest _ h hlen).mono ?_; rintro e w1 ⟨rfl, rfl⟩)
    go_ret3
    exact ⟨by rw [Hfin.out]; rfl, rfl⟩

theorem size_elem84 (w : World) : (sizeOf (Tryz.prog.elem 112)).run Tryz.prog w = .ok 1 w := by kernel_rfl
theorem under84 : Tryz.prog.underlying 112 = some (.slice (Tryz.prog.elem 112)) := by kernel_rfl
/-- block rb, not below B, is a reader that has rest before it, and the error f -/
def ReaderIs (B : Nat) (w : World) (rb : Nat) (rest : List UInt8) (f : Nat) : Prop :=
  B ≤ rb ∧ ∃ (b c pos : Nat) (bs : List UInt8), Blk w rb #[.slice (some ⟨b, 0, none⟩) bs.length c, .int .i64 pos, .int .i64 f] 176 ∧ bs.length ≤ c ∧ b ≠ rb ∧ b < w.heap.size ∧
    (∀ j (hj : j < bs.length), w.cell? ⟨b, j, none⟩ = some (.int .u8 (bs[j].toNat : Nat))) ∧ rest = bs.drop pos ∧ pos ≤ bs.length ∧ bs.length ≤ 1000000000 ∧ ∃ cs f, w.heap[b]? = some (.cells cs 5 f)

/-- what is left, as the slice that the reader hands on -/
theorem reader_rest {w : World} {b c pos : Nat} {bs : List UInt8} (hbc : bs.length ≤ c) (hlt : b < w.heap.size) (hcell : ∀ j (hj : j < bs.length), w.cell? ⟨b, j, none⟩ = some (.int .u8 (bs[j].toNat : Nat))) (hpos : pos ≤ bs.length) (off : Nat) (hoff : off = pos ∨ bs.length = pos) :
    Sees w 1 (.slice (some ⟨b, off, none⟩) (bs.length - pos) (c - pos)) (bs.drop pos).length ((bs.drop pos).map bval) := by
  refine ⟨by simp, _, _, by rw [List.length_drop], by simp; omega, .inr ⟨b, off, rfl, hlt, fun j u hu => ?_⟩⟩
  have hj : j < (bs.drop pos).length := by have := (List.getElem?_eq_some_iff.1 hu).1; simpa using this
  simp at hj
  rcases hoff with rfl | hoff
  · rw [hcell (off + j) (by omega)]
    rw [List.getElem?_map, List.getElem?_drop, List.getElem?_eq_getElem (by omega)] at hu
    simp at hu
    rw [← hu]; rfl
  · omega

/-- a store into the reader's place -/
theorem reader_moved {B rb b c pos n : Nat} {bs : List UInt8} {w : World} (hB : B ≤ rb) (hblk : Blk w rb #[.slice (some ⟨b, 0, none⟩) bs.length c, .int .i64 pos, .int .i64 0] 176) (hbc : bs.length ≤ c) (hne : b ≠ rb) (hlt : b < w.heap.size)
    (hcell : ∀ j (hj : j < bs.length), w.cell? ⟨b, j, none⟩ = some (.int .u8 (bs[j].toNat : Nat))) (hlen : bs.length ≤ 1000000000) (hn : pos + n ≤ bs.length) (hty : ∃ cs f, w.heap[b]? = some (.cells cs 5 f)) (nq : Nat) :
    ReaderIs B ((w.drewN nq).setCell ⟨rb, 1, none⟩ (.int .i64 ((pos : Int) + n))) rb ((bs.drop pos).drop n) 0 := by
  have h0 : Blk (w.drewN nq) rb #[.slice (some ⟨b, 0, none⟩) bs.length c, .int .i64 pos, .int .i64 0] 176 := hblk
  refine ⟨hB, b, c, pos + n, bs, (h0.set 1 _).congr rfl, hbc, hne, by simpa using hlt, fun j hj => ?_, by rw [List.drop_drop], hn, hlen, by obtain ⟨cs, f, h⟩ := hty; exact ⟨cs, f, (heap_setCell_other (w.drewN nq) _ b _ hne).trans h⟩⟩
  rw [World.cell?_of_block (w := w)]
  · exact hcell j hj
  · exact heap_setCell_other (w.drewN nq) _ b _ hne
theorem reader_failed {B rb b c pos f : Nat} {bs : List UInt8} {w : World} (hB : B ≤ rb) (hblk : Blk w rb #[.slice (some ⟨b, 0, none⟩) bs.length c, .int .i64 pos, .int .i64 0] 176) (hbc : bs.length ≤ c) (hne : b ≠ rb) (hlt : b < w.heap.size)
    (hcell : ∀ j (hj : j < bs.length), w.cell? ⟨b, j, none⟩ = some (.int .u8 (bs[j].toNat : Nat))) (hlen : bs.length ≤ 1000000000) (hpos : pos ≤ bs.length) (hty : ∃ cs f, w.heap[b]? = some (.cells cs 5 f)) (nq : Nat) :
    ReaderIs B ((w.drewN nq).setCell ⟨rb, 2, none⟩ (.int .i64 f)) rb (bs.drop pos) f := by
  have h0 : Blk (w.drewN nq) rb #[.slice (some ⟨b, 0, none⟩) bs.length c, .int .i64 pos, .int .i64 0] 176 := hblk
  refine ⟨hB, b, c, pos, bs, (h0.set 2 _).congr rfl, hbc, hne, by simpa using hlt, fun j hj => ?_, rfl, hpos, hlen, by obtain ⟨cs, f, h⟩ := hty; exact ⟨cs, f, (heap_setCell_other (w.drewN nq) _ b _ hne).trans h⟩⟩
  rw [World.cell?_of_block (w := w)]
  · exact hcell j hj
  · exact heap_setCell_other (w.drewN nq) _ b _ hne

theorem slice_pos {b c pos n : Nat} (hpos : pos ≤ n) (hbc : n ≤ c) : ∃ off, (off = pos ∨ n = pos) ∧ ∀ w', (Instr.sliceAt 112 (.slice (some ⟨b, 0, none⟩) n c) (some (.int .i64 pos)) none none).run Tryz.prog w' = .ok (.slice (some ⟨b, off, none⟩) (n - pos) (c - pos)) w' := by
  by_cases h : c = pos
  · refine ⟨0, .inr (by omega), fun w' => ?_⟩
    rw [run_slice_from _ under84 1 size_elem84 _ _ _ _ hpos]
    simp [sliced, h]
  · refine ⟨pos, .inl rfl, fun w' => ?_⟩
    rw [run_slice_from _ under84 1 size_elem84 _ _ _ _ hpos]
    simp [sliced, h, Addr.add_lit]

set_option maxRecDepth 100000 in
set_option maxHeartbeats 800000 in
theorem readInt_any (B rb : Nat) (rest : List UInt8) (f mb most : Nat) (w : World) (hr : ReaderIs B w rb rest f) (hm : w.cell? ⟨mb, 0, none⟩ = some (.int .i64 most)) :
    Calls Tryz.prog 108 #[.pointer (some ⟨rb, 0, none⟩), .func (.func 109) #[] #[.pointer (some ⟨mb, 0, none⟩)]] w fun e w' =>
      e = .returned (.int .i64 (rdNum most rest f).1) ∧ ReaderIs B w' rb (rdNum most rest f).2.1 (rdNum most rest f).2.2 ∧ Below B w w' ∧ Only [176] w w' := by
  obtain ⟨hB, b, c, pos, bs, hblk, hbc, hne, hlt, hcell, rfl, hpos, hlen, hty⟩ := hr
  have Hty := Lib.hid hty; clear hty
  obtain ⟨c0, c1, c2, f0, f1, f2⟩ := hblk.three
  by_cases hf0 : f = 0
  · subst hf0
    have hnl := numAt_size most (bs.drop pos)
    rw [List.length_drop] at hnl
    obtain ⟨off, hoff, hsl⟩ := slice_pos (b := b) hpos hbc
    have hsd := reader_rest hbc hlt hcell hpos off hoff
    have hdl : (bs.drop pos).length ≤ 1000000000 := by rw [List.length_drop]; omega
    have Hcell := Lib.hid hcell; clear hcell
    have Hoff := Lib.hid hoff; clear hoff
    by_cases he : (numAt most (bs.drop pos)).2.2 = 0
    · have he' : (((numAt most (bs.drop pos)).2.2 : Int) == 0) = true := by simp [he]
      have he'' : (((numAt most (bs.drop pos)).2.2 : Int) != 0) = false := by simp [he]
      have hfin : rdNum most (bs.drop pos) 0 = ((numAt most (bs.drop pos)).1, (bs.drop pos).drop (numAt most (bs.drop pos)).2.1, 0) := by unfold rdNum; rw [if_neg (by decide), if_neg (by simp [he])]
      have Hfin := Lib.hid hfin; clear hfin
      have He := Lib.hid he; clear he
      go_enter Tryz.func108, Tryz.ntmps108
      go_wp2_with fail
      go_quiet ((go_at_call 109; exact quiet_of_eq (number1_any _ (bs.drop pos) mb most _ hsd hdl hm)))
      go_wp2
      go_ret
      rw [Hfin.out]
      exact ⟨rfl, reader_moved hB hblk hbc hne hlt Hcell.out hlen (by omega) Hty.out _, (below_drewN _ _ _).setCell hB _, Only.set (w := w.drewN _) (show Blk (w.drewN _) rb _ _ from hblk) (by simp) _⟩
    · have he' : (((numAt most (bs.drop pos)).2.2 : Int) == 0) = false := by simp; omega
      have he'' : (((numAt most (bs.drop pos)).2.2 : Int) != 0) = true := by simp; omega
      have hfin : rdNum most (bs.drop pos) 0 = (0, bs.drop pos, (numAt most (bs.drop pos)).2.2) := by unfold rdNum; rw [if_neg (by decide), if_pos he]
      have Hfin := Lib.hid hfin; clear hfin
      have He := Lib.hid he; clear he
      go_enter Tryz.func108, Tryz.ntmps108
      go_wp2_with fail
      go_quiet ((go_at_call 109; exact quiet_of_eq (number1_any _ (bs.drop pos) mb most _ hsd hdl hm)))
      go_wp2
      go_ret
      rw [Hfin.out]
      exact ⟨rfl, reader_failed hB hblk hbc hne hlt Hcell.out hlen hpos Hty.out _, (below_drewN _ _ _).setCell hB _, Only.set (w := w.drewN _) (show Blk (w.drewN _) rb _ _ from hblk) (by simp) _⟩
  · have hf0' : ((f : Int) == 0) = false := by simp; omega
    have hf0'' : ((f : Int) != 0) = true := by simp; omega
    have Hcell := Lib.hid hcell; clear hcell
    go_enter Tryz.func108, Tryz.ntmps108
    go_wp2_with fail
    go_ret
    have e : rdNum most (bs.drop pos) f = (0, bs.drop pos, f) := by unfold rdNum; rw [if_pos hf0]
    rw [e]
    exact ⟨rfl, ⟨hB, b, c, pos, bs, hblk, hbc, hne, hlt, Hcell.out, rfl, hpos, hlen, Hty.out⟩, Below.refl _ _, Only.refl _ _⟩
end Go.Proofs.YtgonfcdmaoeboaaGreatDoor

/- The reader: Text, NewReader, Number, Rest, Close. -/
namespace Go.Proofs.YtgonfcdmaoeboaaGreatDoor
open Go.RowKit

set_option maxRecDepth 100000 in
set_option maxHeartbeats 400000 in
theorem text1_any (v : Value) (rest : List UInt8) (mb most : Nat) (w : World) (h : Sees w 1 v rest.length (rest.map bval)) (hlen : rest.length ≤ 1000000000) (hm : w.cell? ⟨mb, 0, none⟩ = some (.int .i64 most)) (hmost : most ≤ 16777216) :
    Calls Tryz.prog 106 #[v, .pointer (some ⟨mb, 0, none⟩)] w fun e w' =>
      e = .returned (.tuple #[.string (str (textAt most rest).1), .int .i64 (textAt most rest).2.1, .int .i64 (textAt most rest).2.2]) ∧ w = w' := by
  obtain ⟨va, vc, hv⟩ := sees_slice h
  have hgs := groupsFrom_size rest 0 0
  have hgl := groupsFrom_lt rest 0 0 (by omega) (by simp)
  have Hgl := Lib.hid hgl; clear hgl
  have hmin : min (most : Int) 16777216 = (most : Int) := by omega
  by_cases he : (groupsFrom 0 0 rest).2.2 = 0
  · have he' : (((groupsFrom 0 0 rest).2.2 : Int) == 0) = true := by simp [he]
    have he'' : (((groupsFrom 0 0 rest).2.2 : Int) != 0) = false := by simp [he]
    by_cases hn : most < (groupsFrom 0 0 rest).1
    · have hfin : textAt most rest = ([], 0, 5) := by unfold textAt; rw [if_neg (by simp [he]), if_pos (by omega)]
      have Hfin := Lib.hid hfin; clear hfin
      have He := Lib.hid he; clear he
      have hn' : (most : Int) < ((groupsFrom 0 0 rest).1 : Int) := by omega
      subst hv
      go_enter Tryz.func106, Tryz.ntmps106
      go_wp2_with (go_at_call 107; refine (parse_any _ rest _ h hlen).mono ?_; rintro e w1 ⟨rfl, rfl⟩)
      go_ret3
      exact ⟨by rw [Hfin.out]; rfl, rfl⟩
    · have hn' : ((groupsFrom 0 0 rest).1 : Int) ≤ most := by omega
      by_cases hl : rest.length - (groupsFrom 0 0 rest).2.1 < (groupsFrom 0 0 rest).1
      · have hfin : textAt most rest = ([], 0, 28) := by unfold textAt; rw [if_neg (by simp [he]), if_neg (by omega), if_pos hl]
        have Hfin := Lib.hid hfin; clear hfin
        have He := Lib.hid he; clear he
        have hl' : (rest.length : Int) - ((groupsFrom 0 0 rest).2.1 : Int) < ((groupsFrom 0 0 rest).1 : Int) := by omega
        have hn16 : (groupsFrom 0 0 rest).1 ≤ 16777216 := by omega
        subst hv
        go_enter Tryz.func106, Tryz.ntmps106
        go_wp2_with (go_at_call 107; refine (parse_any _ rest _ h hlen).mono ?_; rintro e w1 ⟨rfl, rfl⟩)
        go_ret3
        exact ⟨by rw [Hfin.out]; rfl, rfl⟩
      · have hfin : textAt most rest = ((rest.drop (groupsFrom 0 0 rest).2.1).take (groupsFrom 0 0 rest).1, (groupsFrom 0 0 rest).2.1 + (groupsFrom 0 0 rest).1, 0) := by unfold textAt; rw [if_neg (by simp [he]), if_neg (by omega), if_neg hl]
        have Hfin := Lib.hid hfin; clear hfin
        have He := Lib.hid he; clear he
        have hl' : ((groupsFrom 0 0 rest).1 : Int) ≤ (rest.length : Int) - ((groupsFrom 0 0 rest).2.1 : Int) := by omega
        have hn16 : (groupsFrom 0 0 rest).1 ≤ 16777216 := by omega
        obtain ⟨g, hg⟩ : ∃ g, g = groupsFrom 0 0 rest := ⟨_, rfl⟩
        have hpa := parse_any v rest w h hlen
        rw [← hg] at hpa he' he'' hn' hl' hn16 hgs
        have Hg := Lib.hid hg; clear hg
        have Hpa := Lib.hid hpa; clear hpa
        subst hv
        go_enter Tryz.func106, Tryz.ntmps106
        go_wp2_with (first | (go_at_call 107; refine (Hpa.out).mono ?_; rintro e w1 ⟨rfl, rfl⟩) | (with_reducible refine wpList_slice_mid (o := ⟨some 36, _, _, _, _, _⟩) _ rfl _ _ _ _ rfl under84 1 size_elem84 h rfl .i64 .i64 g.2.1 (g.2.1 + g.1) rfl ?q1 ?q2 ?q3 ?_))
        case q1 => show Value.int .i64 _ = _; go_num
        case q2 => omega
        case q3 => omega
        · intro v' hs' _
          have hs2 : Sees w 1 v' g.1 (((rest.drop g.2.1).take g.1).map bval) := sees_eq hs' (by omega) (by simp [List.map_take, List.map_drop])
          obtain ⟨a2, c2, rfl⟩ := sees_slice hs2
          clear hs'
          go_wp2_with (with_reducible refine wpList_string_of_bytes (o := ⟨some 37, _, _, _, _, _⟩) _ rfl _ _ 5 _ rfl Tryz.underlying112 Tryz.underlying5 Tryz.underlying9 hs2 rfl ?_)
          go_ret3
          refine ⟨?_, rfl⟩
          rw [Hfin.out, ← Hg.out]
          rfl
  · have he' : (((groupsFrom 0 0 rest).2.2 : Int) == 0) = false := by simp; omega
    have he'' : (((groupsFrom 0 0 rest).2.2 : Int) != 0) = true := by simp; omega
    have hfin : textAt most rest = ([], 0, (groupsFrom 0 0 rest).2.2) := by unfold textAt; rw [if_pos he]
    have Hfin := Lib.hid hfin; clear hfin
    subst hv
    go_enter Tryz.func106, Tryz.ntmps106
    go_wp2_with (go_at_call 107; refine (parse_any _ rest _ h hlen).mono ?_; rintro e w1 ⟨rfl, rfl⟩)
    go_ret3
    exact ⟨by rw [Hfin.out]; rfl, rfl⟩

set_option maxRecDepth 100000 in
set_option maxHeartbeats 800000 in
theorem readStr_any (B rb : Nat) (rest : List UInt8) (f mb most : Nat) (w : World) (hr : ReaderIs B w rb rest f) (hm : w.cell? ⟨mb, 0, none⟩ = some (.int .i64 most)) (hmost : most ≤ 16777216) :
    Calls Tryz.prog 105 #[.pointer (some ⟨rb, 0, none⟩), .func (.func 106) #[] #[.pointer (some ⟨mb, 0, none⟩)]] w fun e w' =>
      e = .returned (.string (str (rdText most rest f).1)) ∧ ReaderIs B w' rb (rdText most rest f).2.1 (rdText most rest f).2.2 ∧ Below B w w' ∧ Only [176] w w' := by
  obtain ⟨hB, b, c, pos, bs, hblk, hbc, hne, hlt, hcell, rfl, hpos, hlen, hty⟩ := hr
  have Hty := Lib.hid hty; clear hty
  obtain ⟨c0, c1, c2, f0, f1, f2⟩ := hblk.three
  by_cases hf0 : f = 0
  · subst hf0
    have hnl := textAt_size most (bs.drop pos)
    rw [List.length_drop] at hnl
    obtain ⟨off, hoff, hsl⟩ := slice_pos (b := b) hpos hbc
    have hsd := reader_rest hbc hlt hcell hpos off hoff
    have hdl : (bs.drop pos).length ≤ 1000000000 := by rw [List.length_drop]; omega
    have Hcell := Lib.hid hcell; clear hcell
    have Hoff := Lib.hid hoff; clear hoff
    by_cases he : (textAt most (bs.drop pos)).2.2 = 0
    · have he' : (((textAt most (bs.drop pos)).2.2 : Int) == 0) = true := by simp [he]
      have he'' : (((textAt most (bs.drop pos)).2.2 : Int) != 0) = false := by simp [he]
      have hfin : rdText most (bs.drop pos) 0 = ((textAt most (bs.drop pos)).1, (bs.drop pos).drop (textAt most (bs.drop pos)).2.1, 0) := by unfold rdText; rw [if_neg (by decide), if_neg (by simp [he])]
      have Hfin := Lib.hid hfin; clear hfin
      have He := Lib.hid he; clear he
      go_enter Tryz.func105, Tryz.ntmps105
      go_wp2_with fail
      go_quiet ((go_at_call 106; exact quiet_of_eq (text1_any _ (bs.drop pos) mb most _ hsd hdl hm hmost)))
      go_wp2
      go_ret
      rw [Hfin.out]
      exact ⟨rfl, reader_moved hB hblk hbc hne hlt Hcell.out hlen (by omega) Hty.out _, (below_drewN _ _ _).setCell hB _, Only.set (w := w.drewN _) (show Blk (w.drewN _) rb _ _ from hblk) (by simp) _⟩
    · have he' : (((textAt most (bs.drop pos)).2.2 : Int) == 0) = false := by simp; omega
      have he'' : (((textAt most (bs.drop pos)).2.2 : Int) != 0) = true := by simp; omega
      have hfin : rdText most (bs.drop pos) 0 = ([], bs.drop pos, (textAt most (bs.drop pos)).2.2) := by unfold rdText; rw [if_neg (by decide), if_pos he]
      have Hfin := Lib.hid hfin; clear hfin
      have He := Lib.hid he; clear he
      go_enter Tryz.func105, Tryz.ntmps105
      go_wp2_with fail
      go_quiet ((go_at_call 106; exact quiet_of_eq (text1_any _ (bs.drop pos) mb most _ hsd hdl hm hmost)))
      go_wp2
      go_ret
      rw [Hfin.out]
      exact ⟨rfl, reader_failed hB hblk hbc hne hlt Hcell.out hlen hpos Hty.out _, (below_drewN _ _ _).setCell hB _, Only.set (w := w.drewN _) (show Blk (w.drewN _) rb _ _ from hblk) (by simp) _⟩
  · have hf0' : ((f : Int) == 0) = false := by simp; omega
    have hf0'' : ((f : Int) != 0) = true := by simp; omega
    have Hcell := Lib.hid hcell; clear hcell
    go_enter Tryz.func105, Tryz.ntmps105
    go_wp2_with fail
    go_ret
    have e : rdText most (bs.drop pos) f = ([], bs.drop pos, f) := by unfold rdText; rw [if_pos hf0]
    rw [e]
    exact ⟨rfl, ⟨hB, b, c, pos, bs, hblk, hbc, hne, hlt, Hcell.out, rfl, hpos, hlen, Hty.out⟩, Below.refl _ _, Only.refl _ _⟩

theorem ReaderIs.kept {B : Nat} {w w' : World} {rb : Nat} {rest : List UInt8} {f : Nat} (h : ReaderIs B w rb rest f) (hb : Below w.heap.size w w') : ReaderIs B w' rb rest f := by
  obtain ⟨hB, b, c, pos, bs, hblk, hbc, hne, hlt, hcell, e, hpos, hlen, hty⟩ := h
  exact ⟨hB, b, c, pos, bs, hblk.below hb hblk.lt, hbc, hne, Nat.lt_of_lt_of_le hlt hb.size, fun j hj => (hb.cell (p := ⟨b, j, none⟩) hlt).trans (hcell j hj), e, hpos, hlen, by obtain ⟨cs, f, h⟩ := hty; exact ⟨cs, f, (hb.block b hlt).trans h⟩⟩
theorem ReaderIs.only {B : Nat} {w w' : World} {rb : Nat} {rest : List UInt8} {f : Nat} {ts : List TypeId} (h : ReaderIs B w rb rest f) (ho : Only ts w w') (h1 : 176 ∉ ts) (h2 : 5 ∉ ts) : ReaderIs B w' rb rest f := by
  obtain ⟨hB, b, c, pos, bs, hblk, hbc, hne, hlt, hcell, e, hpos, hlen, cs, g, hty⟩ := h
  have hty' := ho.2 b _ hty (fun _ _ _ e => by cases e; exact h2)
  exact ⟨hB, b, c, pos, bs, ho.blk hblk h1, hbc, hne, Nat.lt_of_lt_of_le hlt ho.1, fun j hj => (World.cell?_of_block (w := w) (w' := w') (a := ⟨b, j, none⟩) (hty'.trans hty.symm)).trans (hcell j hj), e, hpos, hlen, cs, g, hty'⟩
theorem ReaderIs.lt {B : Nat} {w : World} {rb : Nat} {rest : List UInt8} {f : Nat} (h : ReaderIs B w rb rest f) : rb < w.heap.size := by
  obtain ⟨hB, b, c, pos, bs, hblk, _⟩ := h
  exact hblk.lt
theorem ReaderIs.le {B : Nat} {w : World} {rb : Nat} {rest : List UInt8} {f : Nat} (h : ReaderIs B w rb rest f) : B ≤ w.heap.size := Nat.le_trans h.1 (Nat.le_of_lt h.lt)

set_option maxRecDepth 100000 in
set_option maxHeartbeats 400000 in
theorem rdNumber_any (B rb : Nat) (rest : List UInt8) (f most : Nat) (w : World) (hr : ReaderIs B w rb rest f) :
    Calls Tryz.prog 65 #[.pointer (some ⟨rb, 0, none⟩), .int .i64 most] w fun e w' =>
      e = .returned (.int .i64 (rdNum most rest f).1) ∧ ReaderIs B w' rb (rdNum most rest f).2.1 (rdNum most rest f).2.2 ∧ Below B w w' ∧ Only [176] w w' := by
  have hle := hr.le
  have hr2 := hr.kept (below_alloc w (.cells #[.int .i64 most] 3))
  have hm2 : (w.alloc (.cells #[.int .i64 most] 3)).cell? ⟨w.heap.size, 0, none⟩ = some (.int .i64 most) := (Blk.new w _ _).cell 0
  have hcall := readInt_any B rb rest f w.heap.size most _ hr2 hm2
  have Hcall := Lib.hid hcall; clear hcall
  clear hr hr2
  go_enter Tryz.func65, Tryz.ntmps65
  go_wp2_with (go_at_call 108; refine (Hcall.out).mono ?_; rintro e w1 ⟨rfl, hr1, hb1, ho1⟩)
  go_ret
  exact ⟨rfl, hr1, ((Below.refl _ _).alloc hle _).trans hb1, (Only.of_below (below_alloc w _)).trans ho1⟩

set_option maxRecDepth 100000 in
set_option maxHeartbeats 400000 in
theorem rdText_any (B rb : Nat) (rest : List UInt8) (f most : Nat) (w : World) (hr : ReaderIs B w rb rest f) (hmost : most ≤ 16777216) :
    Calls Tryz.prog 64 #[.pointer (some ⟨rb, 0, none⟩), .int .i64 most] w fun e w' =>
      e = .returned (.string (str (rdText most rest f).1)) ∧ ReaderIs B w' rb (rdText most rest f).2.1 (rdText most rest f).2.2 ∧ Below B w w' ∧ Only [176] w w' := by
  have hle := hr.le
  have hr2 := hr.kept (below_alloc w (.cells #[.int .i64 most] 3))
  have hm2 : (w.alloc (.cells #[.int .i64 most] 3)).cell? ⟨w.heap.size, 0, none⟩ = some (.int .i64 most) := (Blk.new w _ _).cell 0
  have hcall := readStr_any B rb rest f w.heap.size most _ hr2 hm2 hmost
  have Hcall := Lib.hid hcall; clear hcall
  clear hr hr2
  go_enter Tryz.func64, Tryz.ntmps64
  go_wp2_with (go_at_call 105; refine (Hcall.out).mono ?_; rintro e w1 ⟨rfl, hr1, hb1, ho1⟩)
  go_ret
  exact ⟨rfl, hr1, ((Below.refl _ _).alloc hle _).trans hb1, (Only.of_below (below_alloc w _)).trans ho1⟩

set_option maxRecDepth 100000 in
set_option maxHeartbeats 400000 in
theorem newReader_any (v : Value) (bs : List UInt8) (w : World) (h : Sees w 1 v bs.length (bs.map bval)) (hlen : bs.length ≤ 1000000000) :
    Calls Tryz.prog 63 #[v] w fun e w' => ∃ rb, e = .returned (.pointer (some ⟨rb, 0, none⟩)) ∧ ReaderIs w.heap.size w' rb bs 0 ∧ Below w.heap.size w w' := by
  have hnew : (w.alloc (.cells #[] 5)).ownsRow w.heap.size 5 1 (.slice (some ⟨w.heap.size, 0, none⟩) 0 0) 0 [] := World.ownsRow_lit w #[] 0 (Nat.le_refl _) (by decide) rfl
  have hsee : Sees (w.alloc (.cells #[] 5)) 1 v bs.length (bs.map bval) := h.below (below_alloc _ _)
  go_enter Tryz.func63, Tryz.ntmps63
  go_wp2_with (at_builtin; go_loud (refine wpList_append_where (w.alloc (.cells #[] 5)) rfl _ _ 112 rfl w.heap.size 5 (.int .u8 0) 1 1 Tryz.underlying112 Tryz.info5 rfl (by decide) hnew rfl hsee rfl (bytes_oneCell _) ?q1 ?q2 ?q3 ?_))
  case q1 => unfold maxLen; omega
  case q2 => omega
  case q3 => simp
  · intro v' w1 hown1 hg1 hwh hnil
    rcases hown1.2 with ⟨rfl, _⟩ | ⟨g, cap, cur, rfl, hbg, hgg, hnc, hcm, hcs, ht⟩
    · simp at hnil
    · have hc1 := fun j => hown1.cellAt j
      have Hown := Lib.hid hown1; clear hown1
      have Hgg := Lib.hid hgg; clear hgg
      have Hcs := Lib.hid hcs; clear hcs
      have Ht := Lib.hid ht; clear ht
      have Hc1 := Lib.hid hc1; clear hc1
      go_wp2
      go_ret
      have hgl : g < w1.heap.size := (Array.getElem?_eq_some_iff.1 Hgg.out).1
      have hb1 : Below w.heap.size w w1 := ((Below.refl _ _).alloc (Nat.le_refl _) _).grown hg1 (by simp) (fun k hk => by simp [Value.ownBlock] at hk; omega)
      refine ⟨_, rfl, ⟨hb1.size, g, cap, 0, bs, (Blk.new _ _ _).congr (by simp), by simpa using hnc, by omega, by simp; omega, fun j hj => ?_, by simp, by omega, hlen, cur, (0, 0), (Below.heap_alloc w1 _ g hgl).trans Hgg.out⟩, hb1.alloc hb1.size _⟩
      rw [World.cell?_alloc_past _ _ _ hgl, Hc1.out j (by simpa using hj)]
      simp [hj, bval]

set_option maxRecDepth 100000 in
set_option maxHeartbeats 400000 in
theorem rest_any (B rb : Nat) (rest : List UInt8) (f : Nat) (w : World) (hr : ReaderIs B w rb rest f) :
    Calls Tryz.prog 110 #[.pointer (some ⟨rb, 0, none⟩)] w fun e w' => e = .returned (.int .i64 rest.length) ∧ ∃ n, w' = w.drewN n := by
  obtain ⟨hB, b, c, pos, bs, hblk, hbc, hne, hlt, hcell, rfl, hpos, hlen, _⟩ := hr
  obtain ⟨c0, c1, c2, f0, f1, f2⟩ := hblk.three
  clear hcell
  go_enter Tryz.func110, Tryz.ntmps110
  go_wp2_with fail
  go_quiet (fail)
  go_wp2
  go_ret
  refine ⟨?_, _, rfl⟩
  rw [List.length_drop]
  show Ending.returned (.int .i64 _) = _
  congr 2
  omega

set_option maxRecDepth 100000 in
set_option maxHeartbeats 400000 in
theorem close_any (B rb : Nat) (rest : List UInt8) (f : Nat) (w : World) (hr : ReaderIs B w rb rest f) :
    Calls Tryz.prog 66 #[.pointer (some ⟨rb, 0, none⟩)] w fun e w' => e = .returned (.int .i64 (rdClose rest f)) ∧ Below w.heap.size w w' := by
  have hrest := rest_any B rb rest f w hr
  have Hrest := Lib.hid hrest; clear hrest
  obtain ⟨hB, b, c, pos, bs, hblk, hbc, hne, hlt, hcell, hrd, hpos, hlen, _⟩ := hr
  obtain ⟨c0, c1, c2, f0, f1, f2⟩ := hblk.three
  clear hcell hrd
  by_cases hf0 : f = 0
  · subst hf0
    by_cases hl : 0 < rest.length
    · have hfin : rdClose rest 0 = 5 := by unfold rdClose; rw [if_pos ⟨rfl, by intro h; simp [h] at hl⟩]
      have Hfin := Lib.hid hfin; clear hfin
      go_enter Tryz.func66, Tryz.ntmps66
      go_wp2_with (go_at_call 110; refine (Hrest.out).mono ?_; rintro e w1 ⟨rfl, nq, rfl⟩)
      go_ret
      exact ⟨by rw [Hfin.out]; rfl, below_drewN _ _ _⟩
    · have hfin : rdClose rest 0 = 0 := by unfold rdClose; rw [if_neg (by rintro ⟨_, h⟩; exact h (List.eq_nil_of_length_eq_zero (by omega)))]
      have Hfin := Lib.hid hfin; clear hfin
      go_enter Tryz.func66, Tryz.ntmps66
      go_wp2_with (go_at_call 110; refine (Hrest.out).mono ?_; rintro e w1 ⟨rfl, nq, rfl⟩)
      go_ret
      exact ⟨by rw [Hfin.out]; rfl, below_drewN _ _ _⟩
  · have hf0' : ((f : Int) == 0) = false := by simp; omega
    have hfin : rdClose rest f = f := by unfold rdClose; rw [if_neg (fun h => hf0 h.1)]
    have Hfin := Lib.hid hfin; clear hfin
    go_enter Tryz.func66, Tryz.ntmps66
    go_wp2_with fail
    go_ret
    exact ⟨by rw [Hfin.out]; rfl, Below.refl _ _⟩
end Go.Proofs.YtgonfcdmaoeboaaGreatDoor
