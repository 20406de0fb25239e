/-
  The document's Pieces.
-/
import Derived.Test.YtkbaganbfcbioaaCutP
import Derived.Test.YtkbaganbfcbioaaStep
namespace Go.Proofs.Ytkbaganbfcbioaa
set_option linter.unusedSimpArgs false
set_option linter.unusedVariables false
open Go.RowKit

theorem OwnData.lt {w : World} {base : Nat} {l : List PkR} (h : OwnData w base l) {i : Nat} {y : PkR} (hy : l[i]? = some y) {q : Nat} (hq : blk y.A = some q) : base ≤ q ∧ q < w.heap.size := (h.1 i y hy).lt q hq
/-- A packet more: its data lie in memory of their own. -/
theorem add_pks {w5 w6 : World} {base : Nat} {l : List PkR} {x : PkR} {B B' : Option Addr} {k c c' m : Nat} (hd : OwnData w5 base l) (hx : Own w5 base 5 1 x.A x.p.data.length x.d (bvs x.p.data)) (hB : Own w5 base 33 6 B k c (pkcs l)) (hg : w5.grownBy w6 (blk B))
    (hm : ∀ (i : Nat) (y : PkR), l[i]? = some y → ∀ q, blk y.A = some q → q < m) (hxm : ∀ q, blk x.A = some q → m ≤ q) (hB' : Own w6 base 33 6 B' (k + 1) c' (pkcs l ++ pcs x)) : OwnData w6 base (l ++ [x]) ∧ Own w6 base 33 6 B' (k + 1) c' (pkcs (l ++ [x])) := by
  have hap : ∀ {A : Option Addr} {n d : Nat} {xs : List Value}, Own w5 base 5 1 A n d xs → Own w6 base 5 1 A n d xs := fun h => h.over hg (fun q hq h2 => (h.apart hB (by decide)) q h2 hq)
  refine ⟨OwnData.snoc (hd.map fun _ _ _ _ h => hap h) (hap hx) ?_, by rw [pkcs_snoc]; exact hB'⟩
  intro i y hy q hq hq2
  have h1 := hm i y hy q hq
  have h2 := hxm q hq2
  omega

set_option maxHeartbeats 3200000 in
set_option maxRecDepth 100000 in
theorem pieces_range (up : Bool) (apid count : Int) (A : Option Addr) (len c : Nat) (most : Int) (w : World) (h : apid < 0 ∨ 2047 ≤ apid ∨ count < 0 ∨ 16383 < count) :
    Calls Try.prog 10 #[.bool up, .int .i64 apid, .int .i64 count, .slice A len c, .int .i64 most] w fun e w' => PksRes w w' ([], 2) e := by
  by_cases h1 : apid < 0
  · clear h
    go_enter Try.func10, Try.ntmps10
    go_wp2
    go_ret2
    exact PksRes.none_ (Below.refl _ _)
  by_cases h2 : 2047 ≤ apid
  · clear h
    go_enter Try.func10, Try.ntmps10
    go_wp2
    go_ret2
    exact PksRes.none_ (Below.refl _ _)
  by_cases h3 : count < 0
  · clear h
    go_enter Try.func10, Try.ntmps10
    go_wp2
    go_ret2
    exact PksRes.none_ (Below.refl _ _)
  · have h4 : 16383 < count := by omega
    clear h
    go_enter Try.func10, Try.ntmps10
    go_wp2
    go_ret2
    exact PksRes.none_ (Below.refl _ _)
set_option maxHeartbeats 3200000 in
set_option maxRecDepth 100000 in
theorem pieces_size (up : Bool) (apid count : Int) (A : Option Addr) (len c : Nat) (most : Int) (w : World) (h1 : ¬ apid < 0) (h2 : ¬ 2047 ≤ apid) (h3 : ¬ count < 0) (h4 : ¬ 16383 < count) (hn : len ≤ 140737488351300)
    (h : len = 0 ∨ 1048576 < len ∨ most < 1 ∨ 65536 < most ∨ 16384 < pieces len most.toNat) :
    Calls Try.prog 10 #[.bool up, .int .i64 apid, .int .i64 count, .slice A len c, .int .i64 most] w fun e w' => PksRes w w' ([], 1) e := by
  by_cases h5 : len = 0
  · clear h
    subst h5
    go_enter Try.func10, Try.ntmps10
    go_wp2
    go_ret2
    exact PksRes.none_ (Below.refl _ _)
  have h5i : ¬ (len : Int) = 0 := by omega
  by_cases h6 : 1048576 < len
  · clear h
    have h6i : (1048576 : Int) < (len : Int) := by omega
    go_enter Try.func10, Try.ntmps10
    go_wp2
    go_ret2
    exact PksRes.none_ (Below.refl _ _)
  have h6i : ¬ (1048576 : Int) < (len : Int) := by omega
  by_cases h7 : most < 1
  · clear h
    go_enter Try.func10, Try.ntmps10
    go_wp2
    go_ret2
    exact PksRes.none_ (Below.refl _ _)
  by_cases h8 : 65536 < most
  · clear h
    go_enter Try.func10, Try.ntmps10
    go_wp2
    go_ret2
    exact PksRes.none_ (Below.refl _ _)
  · obtain ⟨m, rfl⟩ : ∃ m : Nat, most = (m : Int) := ⟨most.toNat, by omega⟩
    have hp : 16384 < pieces len m := by
      rcases h with h | h | h | h | h
      · omega
      · omega
      · omega
      · omega
      · simpa using h
    clear h
    have h8i : ¬ (65536 : Int) < (m : Int) := by omega
    have hm0 : ¬ (m : Int) = 0 := by omega
    have hq : ((len : Int) + (m : Int) - 1).tdiv (m : Int) = ((pieces len m : Nat) : Int) := by
      unfold pieces
      rw [Int.tdiv_eq_ediv_of_nonneg (by omega), show (len : Int) + (m : Int) - 1 = ((len + m - 1 : Nat) : Int) by omega]
      exact (Int.natCast_ediv _ _).symm
    have hq2 : ((len : Int) + (m : Int) - 1) / (m : Int) = ((pieces len m : Nat) : Int) := by
      rw [← hq, Int.tdiv_eq_ediv_of_nonneg (by omega)]
    have hNb : ((pieces len m : Nat) : Int) ≤ 1200000 := by
      have : pieces len m ≤ len + m - 1 := Nat.div_le_self _ _
      omega
    generalize pieces len m = N at *
    have hpi : (16384 : Int) < (N : Int) := by omega
    have hd1 : decide ((N : Int) > 16384) = true := decide_eq_true hpi
    go_enter Try.func10, Try.ntmps10
    go_wp2
    go_ret2
    exact PksRes.none_ (Below.refl _ _)
theorem cutL_snoc (up : Bool) (apid : Int) (count : Nat) (u : List UInt8) (m N k : Nat) : (List.range (k + 1)).map (cutPk up apid count u m N) = (List.range k).map (cutPk up apid count u m N) ++ [cutPk up apid count u m N k] := by rw [List.range_succ, List.map_append]; rfl
theorem cut_part (N k : Nat) (hk : k < N) : (k = 0 → k + 1 = N → cutPart N k = 3) ∧ (k = 0 → ¬ k + 1 = N → cutPart N k = 1) ∧ (¬ k = 0 → k + 1 = N → cutPart N k = 2) ∧ (¬ k = 0 → ¬ k + 1 = N → cutPart N k = 0) := by
  unfold cutPart
  refine ⟨fun h1 h2 => by rw [if_pos h1, if_pos h2]; rfl, fun h1 h2 => by rw [if_pos h1, if_neg h2]; rfl, fun h1 h2 => by rw [if_neg h1, if_pos h2]; rfl, fun h1 h2 => by rw [if_neg h1, if_neg h2]; rfl⟩
theorem cut_last {len m k : Nat} (hm : 1 ≤ m) (hl : 1 ≤ len) (hk : k < pieces len m) : (k + 1 = pieces len m ↔ len ≤ k * m + m) := by
  have h1 := @pieces_iff len m (k + 1) (by omega)
  rw [Nat.succ_mul] at h1
  omega
set_option maxHeartbeats 6400000 in
set_option maxRecDepth 100000 in
theorem pieces_good (up : Bool) (apid : Int) (cn : Nat) (b off : Nat) (u : List UInt8) (len c m : Nat) (w : World) (h1 : ¬ apid < 0) (h2 : ¬ 2047 ≤ apid) (h4 : cn ≤ 16383) (hl : u.length = len) (ha : Rd w (some ⟨b, off, none⟩) (bvs u)) (hc : len ≤ c)
    (h5 : 1 ≤ len) (h6 : len ≤ 1048576) (h7 : 1 ≤ m) (h8 : m ≤ 65536) (hp : pieces len m ≤ 16384) :
    Calls Try.prog 10 #[.bool up, .int .i64 apid, .int .i64 (cn : Int), .slice (some ⟨b, off, none⟩) len c, .int .i64 (m : Int)] w fun e w' => PksRes w w' (cutL up apid cn u m (pieces len m), 0) e := by
  obtain ⟨i0, hi0, hz0, hz1, hz2⟩ := info_parts u8info
  obtain ⟨j0, hj0, hy0, hy1, hy2⟩ := info_parts pkinfo
  have HD := Lib.hid (fun k : Nat => cutD_len u m k)
  rw [hl] at HD
  have HA := Lib.hid ha
  have HN := Lib.hid (fun (k : Nat) => @pieces_iff len m k (by omega))
  have HLst := Lib.hid (fun (k : Nat) (h : k < pieces len m) => cut_last (len := len) (m := m) (k := k) h7 h5 h)
  have HP := Lib.hid (fun (k : Nat) (h : k < pieces len m) => cut_part (pieces len m) k h)
  have HS := Lib.hid (fun (k : Nat) => cutL_snoc up apid cn u m (pieces len m) k)
  have HK : Hid (∀ k : Nat, cutPk up apid cn u m (pieces len m) k = ⟨up, false, apid, cutPart (pieces len m) k, ((cn + k) % 16384 : Nat), cutD u m k⟩) := Lib.hid (fun k => rfl)
  have HE : Hid (cutL up apid cn u m (pieces len m) = (List.range (pieces len m)).map (cutPk up apid cn u m (pieces len m))) := Lib.hid rfl
  have HR := Lib.hid (fun (k : Nat) => (show Rd w (some ⟨b, off + k * m, none⟩) (bvs (cutD u m k)) from by
    have := (ha.drop_lit (k * m)).take m
    simpa [cutD, bvs, List.map_take, List.map_drop] using this))
  clear hl ha
  have hm0 : ¬ (m : Int) = 0 := by omega
  have hq : ((len : Int) + (m : Int) - 1).tdiv (m : Int) = ((pieces len m : Nat) : Int) := by
    unfold pieces
    rw [Int.tdiv_eq_ediv_of_nonneg (by omega), show (len : Int) + (m : Int) - 1 = ((len + m - 1 : Nat) : Int) by omega]
    exact (Int.natCast_ediv _ _).symm
  have hq2 : ((len : Int) + (m : Int) - 1) / (m : Int) = ((pieces len m : Nat) : Int) := by
    rw [← hq, Int.tdiv_eq_ediv_of_nonneg (by omega)]
  generalize cutL up apid cn u m (pieces len m) = L at *
  generalize cutPk up apid cn u m (pieces len m) = F at *
  generalize pieces len m = N at *
  have hpi : ¬ (16384 : Int) < (N : Int) := by omega
  have g1 : ¬ (16383 : Int) < (cn : Int) := by omega
  have g2 : ¬ (cn : Int) < 0 := by omega
  have g3 : ¬ (len : Int) = 0 := by omega
  have g4 : ¬ (1048576 : Int) < (len : Int) := by omega
  have g5 : ¬ (m : Int) < 1 := by omega
  have g6 : ¬ (65536 : Int) < (m : Int) := by omega
  go_enter Try.func10, Try.ntmps10
  go_wp2
  go_loopw [2, 12, 13] (fun cv lv iv wr => ∃ (k p ci : Nat) (l : List PkR) (B : Option Addr) (d : Nat), k ≤ N ∧ Hid (p = k * m) ∧ Hid (ci = (cn + k) % 16384) ∧ iv = .int .i64 (p : Int) ∧ cv = .int .i64 (ci : Int) ∧ lv = .slice B k d ∧ Hid (l.map PkR.p = (List.range k).map F) ∧ Own wr w.heap.size 33 6 B k d (pkcs l) ∧ OwnData wr w.heap.size l ∧ Below w.heap.size w wr) (fun _ _ iv _ => len - (intOf iv).toNat)
  case atStart => exact ⟨0, 0, cn, [], none, 0, by omega, Lib.hid (by omega), Lib.hid (by omega), rfl, rfl, rfl, Lib.hid rfl, Own.none_ _ _ _ _, OwnData.nil _ _, Below.refl _ _⟩
  case round =>
    obtain ⟨k, p, ci, l, B, d, hk, Hp, Hci, rfl, rfl, rfl, HL, hB, hD, hbl⟩ := hrel
    have HNk := Lib.hid (HN.out k)
    rw [← Hp.out] at HNk
    by_cases h9 : p < len
    · have hkN : k < N := HNk.out.2 h9
      have h9i : (p : Int) < (len : Int) := by omega
      have HL2 := Lib.hid (HLst.out k hkN)
      rw [← Hp.out] at HL2
      have HPk := Lib.hid (HP.out k hkN)
      have Hk0 : Hid (k = 0 ↔ p = 0) := Lib.hid (by
        rw [Hp.out]
        constructor
        · rintro rfl; omega
        · intro h
          rcases Nat.eq_zero_or_pos k with h' | h'
          · exact h'
          · have := Nat.mul_pos h' h7; omega)
      have hDl := HD.out k
      rw [← Hp.out] at hDl
      obtain ⟨e, he⟩ : ∃ e, e = min len (p + m) := ⟨_, rfl⟩
      have HRk := Lib.hid (HR.out k)
      rw [← Hp.out] at HRk
      have HKk := Lib.hid (HK.out k)
      rw [← Hci.out] at HKk
      generalize cutD u m k = D at *
      generalize hpt : cutPart N k = pt at *
      have hDe : D.length = e - p := by omega
      have hpe : p ≤ e := by omega
      have hel : e ≤ len := by omega
      have hpeI : (p : Int) ≤ (e : Int) := by omega
      have helI : (e : Int) ≤ (len : Int) := by omega
      have He := Lib.hid he
      clear he
      have hcib : ci < 16384 := by rw [Hci.out]; omega
      go_upto_if 69 with fail
      go_cut [14] from 56 to 101 (fun s14 wx => s14 = .int .i64 (e : Int) ∧ wr = wx)
      case first =>
        clear hB hD hbl hDe hDl
        by_cases c1 : len < p + m
        · have c1i : (len : Int) < (p : Int) + (m : Int) := by omega
          have hee : e = len := by have := He.out; omega
          go_wp2_with fail
          go_meet
          rw [hee]
          exact ⟨rfl, rfl⟩
        · have c1i : ¬ (len : Int) < (p : Int) + (m : Int) := by omega
          have hee : e = p + m := by have := He.out; omega
          go_wp2_with fail
          go_meet
          rw [hee]
          exact ⟨by simp, rfl⟩
      obtain ⟨rfl, rfl⟩ := hcut
      by_cases c2 : p = 0
      · have c2i : (p : Int) = 0 := by omega
        go_upto_if 79 with fail
        go_cut [15] from 56 to 101 (fun s15 wx => s15 = .int .i64 pt ∧ wr = wx)
        case first =>
          clear hB hD hbl hDl
          by_cases c3 : e = len
          · have c3i : (e : Int) = (len : Int) := by omega
            have hlast := HL2.out.2 (by have := He.out; omega)
            have hp3 := HPk.out.1 (by have := Hk0.out; omega) hlast
            go_wp2_with fail
            all_goals go_meet
            all_goals (rw [hp3]; exact ⟨rfl, rfl⟩)
          · have c3i : ¬ (e : Int) = (len : Int) := by omega
            have hlast : ¬ k + 1 = N := fun h => by have := HL2.out.1 h; have := He.out; omega
            have hp3 := HPk.out.2.1 (by have := Hk0.out; omega) hlast
            go_wp2_with fail
            all_goals go_meet
            all_goals (rw [hp3]; exact ⟨rfl, rfl⟩)
        case rest => 
          obtain ⟨rfl, rfl⟩ := hcut
          clear c2 c2i
          have hRD := HRk.out.below hbl
          have q1 : Hid ((bvs D).length = (e - p) * 1) := by show _ = _; simp [bvs, hDe]
          have q2 : 0 + (e - p) ≤ maxLen := by unfold maxLen; omega
          have q3 : (0 + (e - p)) * 1 ≤ 140737488355328 := by omega
          have hbs := hbl.size
          have q4 : k + 1 ≤ maxLen := by unfold maxLen; omega
          have q5 : (k + 1) * 56 ≤ 140737488355328 := by omega
          have HDe := Lib.hid hDe
          have Hone : ∀ (A4 : Option Addr) (c4 : Nat), Hid (∀ u ∈ [Value.bool up, .bool false, .int .i64 apid, .int .i64 pt, .int .i64 (ci : Int), .slice A4 (e - p) c4], u.oneCell' = true) := fun A4 c4 => Lib.hid (by
            intro u hu
            simp at hu
            rcases hu with rfl | rfl | rfl | rfl | rfl | rfl <;> rfl)
          go_wp2_with (at_builtin; first
            | (refine wpList_append_Own _ rfl (.const (.slice none 0 0)) (.tmp 94) 22 rfl w.heap.size 5 i0 _ 1 1 Try.underlying22 hi0 hz0 hz1 hz2 rfl none 0 0 [] rfl (Own.none_ _ _ _ _) (some ⟨b, off + p, none⟩) (e - p) (c - p) (bvs D) rfl q1.out hRD (bvs_one _) q2 q3 hbs ?_; intro A4 c4 w4 hO4 hg4 hor4; rw [Nat.zero_add, List.nil_append] at hO4; have hb4 := below_of_grown hg4; have hB5 := (hB.step hb4).alloc (.cells #[.bool up, .bool false, .int .i64 apid, .int .i64 pt, .int .i64 (ci : Int), .slice A4 (e - p) c4] 33); have hR5 := Rd_lit w4 [.bool up, .bool false, .int .i64 apid, .int .i64 pt, .int .i64 (ci : Int), .slice A4 (e - p) c4] 33; have hbs5 : w.heap.size ≤ (w4.alloc (.cells #[.bool up, .bool false, .int .i64 apid, .int .i64 pt, .int .i64 (ci : Int), .slice A4 (e - p) c4] 33)).heap.size := (by have := hb4.size; simp; omega))
            | (refine wpList_append_Own (w4.alloc (.cells #[.bool up, .bool false, .int .i64 apid, .int .i64 pt, .int .i64 (ci : Int), .slice A4 (e - p) c4] 33)) rfl (.tmp 86) (.tmp 97) 24 rfl w.heap.size 33 j0 _ 6 56 Try.underlying24 hj0 hy0 hy1 hy2 rfl B k d (pkcs l) rfl hB5 (some ⟨w4.heap.size, 0, none⟩) 1 1 [.bool up, .bool false, .int .i64 apid, .int .i64 pt, .int .i64 (ci : Int), .slice A4 (e - p) c4] rfl rfl hR5 (Hone A4 c4).out q4 q5 hbs5 ?_; intro B6 d6 w6 hB6 hg6 hor6))
          have hx5 : Own (w4.alloc (.cells #[.bool up, .bool false, .int .i64 apid, .int .i64 pt, .int .i64 (ci : Int), .slice A4 (e - p) c4] 33)) w.heap.size 5 1 A4 D.length c4 (bvs D) := by rw [HDe.out]; exact hO4.alloc _
          have hD5 := (hD.step hb4).map (fun _ _ _ _ h => h.alloc (.cells #[.bool up, .bool false, .int .i64 apid, .int .i64 pt, .int .i64 (ci : Int), .slice A4 (e - p) c4] 33))
          have hxm : ∀ q, blk A4 = some q → wr.heap.size ≤ q := fun q hq => by
            rcases hor4 with h | h
            · rw [h] at hq; simp [blk] at hq
            · rw [h] at hq; injection hq with hq; omega
          obtain ⟨hD6, hB7⟩ := add_pks (x := ⟨⟨up, false, apid, pt, (ci : Int), D⟩, A4, c4⟩) hD5 hx5 hB5 hg6 (m := wr.heap.size) (fun i y hy q hq => (hD.lt hy hq).2) hxm (by
            show Own _ _ _ _ _ _ _ (pkcs l ++ [.bool up, .bool false, .int .i64 apid, .int .i64 pt, .int .i64 (ci : Int), .slice A4 D.length c4])
            rw [HDe.out]
            exact hB6)
          refine ⟨⟨k + 1, p + m, (ci + 1) % 16384, _, B6, d6, by omega, Lib.hid ?_, Lib.hid ?_, by go_num, by go_num, rfl, Lib.hid ?_, hB7, hD6, ?_⟩, by simp [intOf]; omega⟩
          · rw [Nat.succ_mul, ← Hp.out]
          · rw [Hci.out]; omega
          · rw [HS.out, List.map_append, HL.out, HKk.out]
            rfl
          · have hb5 : Below wr.heap.size wr (w4.alloc (.cells #[.bool up, .bool false, .int .i64 apid, .int .i64 pt, .int .i64 (ci : Int), .slice A4 (e - p) c4] 33)) := hb4.alloc hb4.size _
            exact Below.grown' (hbl.trans (hb5.mono hbs)) hg6 hbs5 (fun q hq => (hB.lt q hq).1)
      · have c2i : ¬ (p : Int) = 0 := by omega
        go_upto_if 79 with fail
        go_cut [15] from 56 to 101 (fun s15 wx => s15 = .int .i64 pt ∧ wr = wx)
        case first =>
          clear hB hD hbl hDl
          by_cases c3 : e = len
          · have c3i : (e : Int) = (len : Int) := by omega
            have hlast := HL2.out.2 (by have := He.out; omega)
            have hp3 := HPk.out.2.2.1 (by have := Hk0.out; omega) hlast
            go_wp2_with fail
            all_goals go_meet
            all_goals (rw [hp3]; exact ⟨rfl, rfl⟩)
          · have c3i : ¬ (e : Int) = (len : Int) := by omega
            have hlast : ¬ k + 1 = N := fun h => by have := HL2.out.1 h; have := He.out; omega
            have hp3 := HPk.out.2.2.2 (by have := Hk0.out; omega) hlast
            go_wp2_with fail
            all_goals go_meet
            all_goals (rw [hp3]; exact ⟨rfl, rfl⟩)
        case rest =>
          obtain ⟨rfl, rfl⟩ := hcut
          clear c2 c2i
          have hRD := HRk.out.below hbl
          have q1 : Hid ((bvs D).length = (e - p) * 1) := by show _ = _; simp [bvs, hDe]
          have q2 : 0 + (e - p) ≤ maxLen := by unfold maxLen; omega
          have q3 : (0 + (e - p)) * 1 ≤ 140737488355328 := by omega
          have hbs := hbl.size
          have q4 : k + 1 ≤ maxLen := by unfold maxLen; omega
          have q5 : (k + 1) * 56 ≤ 140737488355328 := by omega
          have HDe := Lib.hid hDe
          have Hone : ∀ (A4 : Option Addr) (c4 : Nat), Hid (∀ u ∈ [Value.bool up, .bool false, .int .i64 apid, .int .i64 pt, .int .i64 (ci : Int), .slice A4 (e - p) c4], u.oneCell' = true) := fun A4 c4 => Lib.hid (by
            intro u hu
            simp at hu
            rcases hu with rfl | rfl | rfl | rfl | rfl | rfl <;> rfl)
          go_wp2_with (at_builtin; first
            | (refine wpList_append_Own _ rfl (.const (.slice none 0 0)) (.tmp 94) 22 rfl w.heap.size 5 i0 _ 1 1 Try.underlying22 hi0 hz0 hz1 hz2 rfl none 0 0 [] rfl (Own.none_ _ _ _ _) (some ⟨b, off + p, none⟩) (e - p) (c - p) (bvs D) rfl q1.out hRD (bvs_one _) q2 q3 hbs ?_; intro A4 c4 w4 hO4 hg4 hor4; rw [Nat.zero_add, List.nil_append] at hO4; have hb4 := below_of_grown hg4; have hB5 := (hB.step hb4).alloc (.cells #[.bool up, .bool false, .int .i64 apid, .int .i64 pt, .int .i64 (ci : Int), .slice A4 (e - p) c4] 33); have hR5 := Rd_lit w4 [.bool up, .bool false, .int .i64 apid, .int .i64 pt, .int .i64 (ci : Int), .slice A4 (e - p) c4] 33; have hbs5 : w.heap.size ≤ (w4.alloc (.cells #[.bool up, .bool false, .int .i64 apid, .int .i64 pt, .int .i64 (ci : Int), .slice A4 (e - p) c4] 33)).heap.size := (by have := hb4.size; simp; omega))
            | (refine wpList_append_Own (w4.alloc (.cells #[.bool up, .bool false, .int .i64 apid, .int .i64 pt, .int .i64 (ci : Int), .slice A4 (e - p) c4] 33)) rfl (.tmp 86) (.tmp 97) 24 rfl w.heap.size 33 j0 _ 6 56 Try.underlying24 hj0 hy0 hy1 hy2 rfl B k d (pkcs l) rfl hB5 (some ⟨w4.heap.size, 0, none⟩) 1 1 [.bool up, .bool false, .int .i64 apid, .int .i64 pt, .int .i64 (ci : Int), .slice A4 (e - p) c4] rfl rfl hR5 (Hone A4 c4).out q4 q5 hbs5 ?_; intro B6 d6 w6 hB6 hg6 hor6))
          have hx5 : Own (w4.alloc (.cells #[.bool up, .bool false, .int .i64 apid, .int .i64 pt, .int .i64 (ci : Int), .slice A4 (e - p) c4] 33)) w.heap.size 5 1 A4 D.length c4 (bvs D) := by rw [HDe.out]; exact hO4.alloc _
          have hD5 := (hD.step hb4).map (fun _ _ _ _ h => h.alloc (.cells #[.bool up, .bool false, .int .i64 apid, .int .i64 pt, .int .i64 (ci : Int), .slice A4 (e - p) c4] 33))
          have hxm : ∀ q, blk A4 = some q → wr.heap.size ≤ q := fun q hq => by
            rcases hor4 with h | h
            · rw [h] at hq; simp [blk] at hq
            · rw [h] at hq; injection hq with hq; omega
          obtain ⟨hD6, hB7⟩ := add_pks (x := ⟨⟨up, false, apid, pt, (ci : Int), D⟩, A4, c4⟩) hD5 hx5 hB5 hg6 (m := wr.heap.size) (fun i y hy q hq => (hD.lt hy hq).2) hxm (by
            show Own _ _ _ _ _ _ _ (pkcs l ++ [.bool up, .bool false, .int .i64 apid, .int .i64 pt, .int .i64 (ci : Int), .slice A4 D.length c4])
            rw [HDe.out]
            exact hB6)
          refine ⟨⟨k + 1, p + m, (ci + 1) % 16384, _, B6, d6, by omega, Lib.hid ?_, Lib.hid ?_, by go_num, by go_num, rfl, Lib.hid ?_, hB7, hD6, ?_⟩, by simp [intOf]; omega⟩
          · rw [Nat.succ_mul, ← Hp.out]
          · rw [Hci.out]; omega
          · rw [HS.out, List.map_append, HL.out, HKk.out]
            rfl
          · have hb5 : Below wr.heap.size wr (w4.alloc (.cells #[.bool up, .bool false, .int .i64 apid, .int .i64 pt, .int .i64 (ci : Int), .slice A4 (e - p) c4] 33)) := hb4.alloc hb4.size _
            exact Below.grown' (hbl.trans (hb5.mono hbs)) hg6 hbs5 (fun q hq => (hB.lt q hq).1)
    · obtain rfl : k = N := by have := HNk.out; omega
      have h9i : ¬ (p : Int) < (len : Int) := by omega
      go_wp2_with fail
      go_ret2
      have hL : L.length = k := by rw [HE.out]; simp
      refine ⟨B, d, by rw [hL]; rfl, ⟨l, by rw [HL.out, HE.out], by rw [hL]; exact hB, hD⟩, hbl⟩
/-- The document's Pieces, of anything. -/
theorem rpieces_any (up : Bool) (apid count : Int) (A : Option Addr) (u : List UInt8) (len c : Nat) (most : Int) (w : World) (hl : u.length = len) (ha : Rd w A (bvs u)) (hc : len ≤ c) (hn : len ≤ 140737488351300) :
    Calls Try.prog 10 #[.bool up, .int .i64 apid, .int .i64 count, .slice A len c, .int .i64 most] w fun e w' => PksRes w w' (cutR up apid count u most) e := by
  unfold cutR
  rw [hl]
  by_cases h : apid < 0 ∨ 2047 ≤ apid ∨ count < 0 ∨ 16383 < count
  · have he : cutErr apid count len most = 2 := if_pos h
    rw [he, if_neg (by omega)]
    exact pieces_range up apid count A len c most w h
  · by_cases h2 : len = 0 ∨ 1048576 < len ∨ most < 1 ∨ 65536 < most ∨ 16384 < pieces len most.toNat
    · have he : cutErr apid count len most = 1 := by unfold cutErr; rw [if_neg h, if_pos h2]
      rw [he, if_neg (by omega)]
      exact pieces_size up apid count A len c most w (by omega) (by omega) (by omega) (by omega) hn h2
    · have he : cutErr apid count len most = 0 := by unfold cutErr; rw [if_neg h, if_neg h2]
      rw [he, if_pos rfl]
      simp only [not_or] at h h2
      obtain ⟨m, rfl⟩ : ∃ m : Nat, most = (m : Int) := ⟨most.toNat, by omega⟩
      obtain ⟨cn, rfl⟩ : ∃ m : Nat, count = (m : Int) := ⟨count.toNat, by omega⟩
      obtain ⟨b, off, rfl, _⟩ := ha.byte (k := 0) (by omega)
      rw [Int.toNat_natCast] at h2 ⊢
      rw [Int.toNat_natCast]
      exact pieces_good up apid cn b off u len c m w (by omega) (by omega) (by omega) hl ha hc (by omega) (by omega) (by omega) (by omega) (by omega)
end Go.Proofs.Ytkbaganbfcbioaa
