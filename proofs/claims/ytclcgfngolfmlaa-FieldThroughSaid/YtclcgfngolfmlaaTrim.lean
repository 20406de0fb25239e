import Derived.Test.YtclcgfngolfmlaaPoly
import Derived.WalkSpells
namespace Go.Proofs.Ytclcgfngolfmlaa
set_option linter.unusedSimpArgs false
set_option linter.unusedVariables false
open Go.RowKit

set_option maxHeartbeats 1600000 in
set_option maxRecDepth 100000 in
theorem cloneP_any (A : Option Addr) (l : List UInt8) (c : Nat) (w : World) (ha : Rd w A (bvs l)) (hn : l.length ≤ 140737488351300) :
    Calls Try.prog 161 #[.slice A l.length c] w fun e w' => ∃ A' c', e = .returned (.slice A' l.length c') ∧ Own w' w.heap.size 5 1 A' l.length c' (bvs l) ∧ Below w.heap.size w w' := by
  obtain ⟨i0, hi0, hz0, hz1, hz2⟩ := info_parts u8info
  have q2 : 0 + l.length ≤ maxLen := by unfold maxLen; omega
  have q3 : (0 + l.length) * 1 ≤ 140737488355328 := by omega
  have q1 : Hid ((bvs l).length = l.length * 1) := by show _ = _; simp [bvs]
  have hE := fun (W : World) (a : Option Addr) (n c : Nat) => Lib.run_eql_slice_nil (P := Try.prog) W 129 5 a n c 0 0 Try.underlying129
  rcases A with _ | a
  · have hl : l = [] := by
      rcases l with _ | ⟨x, l⟩
      · rfl
      · obtain ⟨b, off, e, _⟩ := ha.byte (k := 0) (by simp)
        cases e
    subst hl
    clear q1 q2 q3
    go_enter Try.func161, Try.ntmps161
    go_wp2
    go_ret
    exact ⟨none, 0, rfl, Own.none_ _ _ _ _, Below.refl _ _⟩
  · have hO : Own (w.alloc (.cells #[] 5)) w.heap.size 5 1 (some ⟨w.heap.size, 0, none⟩) 0 0 [] := Own.of_block (heap_alloc_new w _) (Nat.le_refl _) rfl (Nat.le_refl _) (Nat.zero_le _) (by simp) (fun i u h => by simp at h)
    have hR2 := ha.alloc (.cells #[] 5)
    have q4 : w.heap.size ≤ (w.alloc (.cells #[] 5)).heap.size := by simp
    go_enter Try.func161, Try.ntmps161
    go_wp2_with (at_builtin; refine wpList_append_Own _ rfl (.tmp 5) (.tmp 6) 129 rfl w.heap.size 5 i0 _ 1 1 Try.underlying129 hi0 hz0 hz1 hz2 rfl _ 0 0 [] rfl hO (some a) l.length c (bvs l) rfl q1.out hR2 (bvs_one _) q2 q3 q4 ?_; intro A' c' w1 hO1 hg1 hor)
    go_ret
    rw [Nat.zero_add, List.nil_append] at hO1
    refine ⟨A', c', rfl, hO1, ?_⟩
    exact ((Below.refl _ _).alloc (Nat.le_refl _) _).grown hg1 (by simp) (fun k hk => by simp [blk] at hk; omega)
theorem cloneP_n (A : Option Addr) (l : List UInt8) (n c : Nat) (w : World) (hl : l.length = n) (ha : Rd w A (bvs l)) (hn : n ≤ 140737488351300) :
    Calls Try.prog 161 #[.slice A n c] w fun e w' => ∃ A' c', e = .returned (.slice A' n c') ∧ Own w' w.heap.size 5 1 A' n c' (bvs l) ∧ Below w.heap.size w w' := by
  subst hl
  exact cloneP_any A l c w ha hn

set_option maxHeartbeats 3200000 in
set_option maxRecDepth 100000 in
theorem trim_any (A : Option Addr) (l : List UInt8) (n c : Nat) (w : World) (hl : l.length = n) (ha : Rd w A (bvs l)) (hc : n ≤ c) (hn : n ≤ 140737488351300) :
    Calls Try.prog 157 #[.slice A n c] w fun e w' => ∃ A' c', e = .returned (.slice A' (trimL l).length c') ∧ Own w' w.heap.size 5 1 A' (trimL l).length c' (bvs (trimL l)) ∧ Below w.heap.size w w' := by
  obtain ⟨T, HT⟩ : ∃ T, Hid (trimL l = T) := ⟨_, rfl⟩
  have HN : Hid (trimL l = l.take (trimN l n)) := by show _ = _; unfold trimL; rw [hl]
  have HL := Lib.hid hl
  rw [HT.out]
  clear hl
  go_enter Try.func157, Try.ntmps157
  go_wp2_with fail
  go_loop [3] (fun v => ∃ k : Nat, k ≤ n ∧ v = .int .i64 k ∧ Hid (trimN l n = trimN l k)) (fun v => (intOf v).toNat)
  case atStart => exact ⟨n, Nat.le_refl _, rfl, rfl⟩
  case round =>
    obtain ⟨k, hk, rfl, HK⟩ := hrel
    have hle : k ≤ c := by omega
    have hR : Rd w A (bvs (l.take k)) := by have := ha.take k; rwa [bvs_take] at this
    have HLk : Hid ((l.take k).length = k) := by show _ = _; simp [HL.out]; omega
    have HO : ∀ (A' : Option Addr) (c' : Nat) (w' : World), trimN l k = k → Own w' w.heap.size 5 1 A' k c' (bvs (l.take k)) → Own w' w.heap.size 5 1 A' T.length c' (bvs T) ∧ T.length = k := fun A' c' w' e hO => by
      have eT : T = l.take k := by rw [← HT.out, HN.out, HK.out, e]
      rw [eT, HLk.out]
      exact ⟨hO, rfl⟩
    have HOH := Lib.hid HO
    clear HO
    by_cases h0 : k = 0
    · subst h0
      obtain ⟨i0, hi0, hz0, hz1, hz2⟩ := info_parts u8info
      have q1 : Hid ((bvs (l.take 0)).length = 0 * 1) := by show _ = _; simp [bvs]
      have q2 : 0 + 0 ≤ maxLen := by unfold maxLen; omega
      have q3 : (0 + 0) * 1 ≤ 140737488355328 := by omega
      go_wp2_with (at_builtin; refine wpList_append_Own _ rfl (.const (.slice none 0 0)) (.tmp 20) 22 rfl w.heap.size 5 i0 _ 1 1 Try.underlying22 hi0 hz0 hz1 hz2 rfl none 0 0 [] rfl (Own.none_ _ _ _ _) _ 0 c (bvs (l.take 0)) rfl q1.out hR (bvs_one _) q2 q3 (Nat.le_refl _) ?_; intro A' c' w1 hO1 hg1 hor)
      go_ret
      rw [Nat.zero_add, List.nil_append] at hO1
      obtain ⟨h1, h2⟩ := HOH.out _ _ _ rfl hO1
      exact ⟨A', c', by rw [h2]; simp, h1, below_of_grown hg1⟩
    · obtain ⟨b1, o1, rfl, hc1⟩ := ha.byteD (k := k - 1) (by rw [HL.out]; omega)
      have HS := Lib.hid (trim_last (l := l) (k := k) (by omega))
      have e1 : (1 : Int) ≤ (k : Int) := by omega
      have e3 : 0 < k := by omega
      have e2 : ((k : Int) - 1).toNat = k - 1 := by omega
      generalize l.getD (k - 1) 0 = x at *
      by_cases hx : x = 0
      · have HS' : Hid (trimN l n = trimN l (k - 1)) := by show _ = _; rw [HK.out, HS.out, if_pos hx]
        have hz : ((x.toNat : Int) == 0) = true := by rw [hx]; rfl
        clear hx h0
        go_wp2_with fail
        go_round
        case rel => exact ⟨k - 1, by omega, by rw [show ((k - 1 : Nat) : Int) = (k : Int) - 1 from by omega], HS'⟩
        case measure => simp [intOf]; omega
      · have HX : Hid (trimN l k = k) := by show _ = _; rw [HS.out, if_neg hx]
        have hz : ((x.toNat : Int) == 0) = false := by
          rw [beq_eq_false_iff_ne]
          intro h
          exact hx (UInt8.toNat_inj.1 (by simp; omega))
        clear hx h0
        obtain ⟨i0, hi0, hz0, hz1, hz2⟩ := info_parts u8info
        have q1 : Hid ((bvs (l.take k)).length = k * 1) := by show _ = _; simp [bvs, HL.out]; omega
        have q2 : 0 + k ≤ maxLen := by unfold maxLen; omega
        have q3 : (0 + k) * 1 ≤ 140737488355328 := by omega
        go_wp2_with (at_builtin; refine wpList_append_Own _ rfl (.const (.slice none 0 0)) (.tmp 20) 22 rfl w.heap.size 5 i0 _ 1 1 Try.underlying22 hi0 hz0 hz1 hz2 rfl none 0 0 [] rfl (Own.none_ _ _ _ _) _ k c (bvs (l.take k)) rfl q1.out hR (bvs_one _) q2 q3 (Nat.le_refl _) ?_; intro A' c' w1 hO1 hg1 hor)
        go_ret
        rw [Nat.zero_add, List.nil_append] at hO1
        obtain ⟨h1, h2⟩ := HOH.out _ _ _ HX.out hO1
        exact ⟨A', c', by rw [h2]; simp, h1, below_of_grown hg1⟩

set_option maxHeartbeats 3200000 in
set_option maxRecDepth 100000 in
theorem trimmed_any (A : Option Addr) (l : List UInt8) (n c : Nat) (w : World) (hl : l.length = n) (ha : Rd w A (bvs l)) (hc : n ≤ c) (hn : n ≤ 140737488351300) :
    Calls Try.prog 95 #[.slice A n c] w fun e w' => ∃ A' c', e = .returned (.slice A' (trimL l).length c') ∧ Own w' w.heap.size 5 1 A' (trimL l).length c' (bvs (trimL l)) ∧ Below w.heap.size w w' := by
  obtain ⟨T, HT⟩ : ∃ T, Hid (trimL l = T) := ⟨_, rfl⟩
  have HN : Hid (trimL l = l.take (trimN l n)) := by show _ = _; unfold trimL; rw [hl]
  have HL := Lib.hid hl
  rw [HT.out]
  clear hl
  go_enter Try.func95, Try.ntmps95
  go_wp2_with fail
  go_loop [3] (fun v => ∃ k : Nat, k ≤ n ∧ v = .int .i64 k ∧ Hid (trimN l n = trimN l k)) (fun v => (intOf v).toNat)
  case atStart => exact ⟨n, Nat.le_refl _, rfl, rfl⟩
  case round =>
    obtain ⟨k, hk, rfl, HK⟩ := hrel
    have hle : k ≤ c := by omega
    have hR : Rd w A (bvs (l.take k)) := by have := ha.take k; rwa [bvs_take] at this
    have HLk : Hid ((l.take k).length = k) := by show _ = _; simp [HL.out]; omega
    have HO : ∀ (A' : Option Addr) (c' : Nat) (w' : World), trimN l k = k → Own w' w.heap.size 5 1 A' k c' (bvs (l.take k)) → Own w' w.heap.size 5 1 A' T.length c' (bvs T) ∧ T.length = k := fun A' c' w' e hO => by
      have eT : T = l.take k := by rw [← HT.out, HN.out, HK.out, e]
      rw [eT, HLk.out]
      exact ⟨hO, rfl⟩
    have HOH := Lib.hid HO
    clear HO
    by_cases h0 : k = 0
    · subst h0
      go_wp2_with fail
      refine (cloneP_n _ (l.take 0) 0 c _ HLk.out hR (by omega)).mono ?_
      rintro e w1 ⟨A', c', rfl, hO1, hb⟩
      go_wp2
      go_ret
      obtain ⟨h1, h2⟩ := HOH.out _ _ _ rfl hO1
      exact ⟨A', c', by rw [h2]; simp, h1, hb⟩
    · obtain ⟨b1, o1, rfl, hc1⟩ := ha.byteD (k := k - 1) (by rw [HL.out]; omega)
      have HS := Lib.hid (trim_last (l := l) (k := k) (by omega))
      have e1 : (1 : Int) ≤ (k : Int) := by omega
      have e3 : 0 < k := by omega
      have e2 : ((k : Int) - 1).toNat = k - 1 := by omega
      generalize l.getD (k - 1) 0 = x at *
      by_cases hx : x = 0
      · have HS' : Hid (trimN l n = trimN l (k - 1)) := by show _ = _; rw [HK.out, HS.out, if_pos hx]
        have hz : ((x.toNat : Int) == 0) = true := by rw [hx]; rfl
        clear hx h0
        go_wp2_with fail
        go_round
        case rel => exact ⟨k - 1, by omega, by rw [show ((k - 1 : Nat) : Int) = (k : Int) - 1 from by omega], HS'⟩
        case measure => simp [intOf]; omega
      · have HX : Hid (trimN l k = k) := by show _ = _; rw [HS.out, if_neg hx]
        have hz : ((x.toNat : Int) == 0) = false := by
          rw [beq_eq_false_iff_ne]
          intro h
          exact hx (UInt8.toNat_inj.1 (by simp; omega))
        clear hx h0
        go_wp2_with fail
        refine (cloneP_n _ (l.take k) k c _ HLk.out hR (by omega)).mono ?_
        rintro e w1 ⟨A', c', rfl, hO1, hb⟩
        go_wp2
        go_ret
        obtain ⟨h1, h2⟩ := HOH.out _ _ _ HX.out hO1
        exact ⟨A', c', by rw [h2]; simp, h1, hb⟩
end Go.Proofs.Ytclcgfngolfmlaa
