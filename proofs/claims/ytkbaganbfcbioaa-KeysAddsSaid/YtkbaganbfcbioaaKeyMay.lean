/-
  Whether a key may be, as the document and as the program ask.
-/
import Derived.Test.YtkbaganbfcbioaaKey
import Derived.Test.YtkbaganbfcbioaaTagR
import Derived.Test.YtkbaganbfcbioaaKeyFits
import Derived.Test.YtkbaganbfcbioaaLen
import Derived.RegionTactic
import Derived.Deep.DeepCutAuto
import Derived.BigQuiet
import Derived.Deep.QuietTactic
import Derived.Deep.RegionHeld3
import Derived.Test.YtkbaganbfcbioaaOne
namespace Go.Proofs.Ytkbaganbfcbioaa
set_option linter.unusedSimpArgs false
set_option linter.unusedVariables false
open Go.RowKit

theorem quiet_same {P : Program} {f : FuncId} {args : Array Value} {w : World} {n : Nat} {v : Value}
    (h : Calls P f args (w.drewN n) fun e w' => e = .returned v ∧ w.drewN n = w') : Calls P f args (w.drewN n) fun e w'' => e = .returned v ∧ ∃ m, w'' = w.drewN m :=
  h.mono fun _ _ ⟨he, hm⟩ => ⟨he, n, hm.symm⟩
set_option maxHeartbeats 3200000 in
set_option maxRecDepth 100000 in
theorem rkeyMay_bad (x : Ky) (A : Option Addr) (c : Nat) (w : World) (ha : Rd w A (ivs x.words)) (hn : x.words.length ≤ 17592186044400) (hp : ¬ keyPre x) :
    Calls Try.prog 45 #[kyv x A c] w fun e w' => e = .returned (.bool false) ∧ Below w.heap.size w w' := by
  have HP := Lib.hid (fun (w : World) (ha : Rd w A (ivs x.words)) => rpadded_any A x.words x.words.length c 0 0 w rfl ha (by omega))
  unfold keyPre at hp
  unfold kyv
  obtain ⟨id, words, top, seen⟩ := x
  dsimp only at hp HP ha hn ⊢
  have haB : ∀ t cs, Rd (w.alloc (.cells cs t)) A (ivs words) := fun t cs => ha.alloc _
  generalize padErr words 0 0 = pe at *
  generalize words.length = n at *
  have HB : ∀ t cs, Below w.heap.size w (w.alloc (.cells cs t)) := fun t cs => (by repeat (first | with_reducible exact Below.refl _ _ | with_reducible assumption | with_reducible refine below_drewN ?_ _ | with_reducible refine Below.drew ?_ | with_reducible refine Below.alloc ?_ ?_ _ | with_reducible refine Below.setCell ?_ ?_ _ | with_reducible exact Nat.le_refl _ | (simp; omega) | (simp; done)))
  by_cases h0 : id < 0
  · clear hp
    go_enter Try.func45, Try.ntmps45
    go_wp2_with fail
    go_ret
    exact ⟨rfl, HB _ _⟩
  by_cases h1 : 255 < id
  · clear hp
    have a0 : 0 ≤ id := by omega
    go_enter Try.func45, Try.ntmps45
    go_wp2_with fail
    go_ret
    exact ⟨rfl, HB _ _⟩
  have a0 : 0 ≤ id := by omega
  have a1 : id ≤ 255 := by omega
  by_cases h2n : ¬ pe = 0
  · clear hp
    have d : (pe != 0) = true := by simpa using h2n
    go_enter Try.func45, Try.ntmps45
    go_wp2_with (go_at_call 59; refine (HP.out _ (haB _ _)).mono ?_; rintro e w' ⟨rfl, rfl⟩)
    go_ret
    exact ⟨rfl, HB _ _⟩
  obtain rfl : pe = 0 := Decidable.not_not.1 h2n
  by_cases h3 : top < -1
  · clear hp
    go_enter Try.func45, Try.ntmps45
    go_wp2_with (go_at_call 59; refine (HP.out _ (haB _ _)).mono ?_; rintro e w' ⟨rfl, rfl⟩)
    go_ret
    exact ⟨rfl, HB _ _⟩
  have a3 : -1 ≤ top := by omega
  by_cases h4 : 281474976710655 < top
  · clear hp
    go_enter Try.func45, Try.ntmps45
    go_wp2_with (go_at_call 59; refine (HP.out _ (haB _ _)).mono ?_; rintro e w' ⟨rfl, rfl⟩)
    go_ret
    exact ⟨rfl, HB _ _⟩
  have a4 : top ≤ 281474976710655 := by omega
  have h5 : seen < 0 := by
    rcases Int.lt_or_le seen 0 with h | h
    · exact h
    · exact absurd ⟨⟨⟨a0, a1⟩, rfl⟩, ⟨a3, a4⟩, h⟩ hp
  clear hp
  go_enter Try.func45, Try.ntmps45
  go_wp2_with (go_at_call 59; refine (HP.out _ (haB _ _)).mono ?_; rintro e w' ⟨rfl, rfl⟩)
  go_ret
  exact ⟨rfl, HB _ _⟩

set_option maxHeartbeats 3200000 in
set_option maxRecDepth 100000 in
theorem rkeyMay_big (x : Ky) (A : Option Addr) (c : Nat) (w : World) (ha : Rd w A (ivs x.words)) (hn : x.words.length ≤ 17592186044400) (hp : keyPre x) (hs : 4611686018427387904 ≤ x.seen) (hs2 : x.seen < 9223372036854775808) :
    Calls Try.prog 45 #[kyv x A c] w fun e w' => e = .returned (.bool false) ∧ Below w.heap.size w w' := by
  have HP := Lib.hid (fun (w : World) (ha : Rd w A (ivs x.words)) => rpadded_any A x.words x.words.length c 0 0 w rfl ha (by omega))
  unfold keyPre at hp
  unfold kyv
  obtain ⟨id, words, top, seen⟩ := x
  dsimp only at hp HP ha hn hs hs2 ⊢
  have haB : ∀ t cs, Rd (w.alloc (.cells cs t)) A (ivs words) := fun t cs => ha.alloc _
  generalize words.length = n at *
  have HB : ∀ t cs, Below w.heap.size w (w.alloc (.cells cs t)) := fun t cs => (by repeat (first | with_reducible exact Below.refl _ _ | with_reducible assumption | with_reducible refine below_drewN ?_ _ | with_reducible refine Below.drew ?_ | with_reducible refine Below.alloc ?_ ?_ _ | with_reducible refine Below.setCell ?_ ?_ _ | with_reducible exact Nat.le_refl _ | (simp; omega) | (simp; done)))
  obtain ⟨⟨⟨a0, a1⟩, hpe⟩, ⟨a3, a4⟩, a5⟩ := hp
  rw [hpe] at HP
  have d : (seen / 4611686018427387904 != 0) = true := by simp; omega
  have e : seen / 4611686018427387904 = 1 := by omega
  clear hpe
  go_enter Try.func45, Try.ntmps45
  go_wp2_with (go_at_call 59; refine (HP.out _ (haB _ _)).mono ?_; rintro e w' ⟨rfl, rfl⟩)
  go_ret
  exact ⟨rfl, HB _ _⟩

set_option maxHeartbeats 3200000 in
set_option maxRecDepth 100000 in
theorem rkeyMay_go (x : Ky) (A : Option Addr) (c : Nat) (w : World) (r : Bool) (ha : Rd w A (ivs x.words)) (hn : x.words.length ≤ 17592186044400) (hp : keyPre x) (hs : x.seen < 4611686018427387904) (hr : r = decide (∀ i : Nat, i < 62 → x.seen.toNat / 2 ^ i % 2 = 1 → (i : Int) + 1 ≤ x.top)) :
    Calls Try.prog 45 #[kyv x A c] w fun e w' => e = .returned (.bool r) ∧ Below w.heap.size w w' := by
  have HP := Lib.hid (fun (w : World) (ha : Rd w A (ivs x.words)) => rpadded_any A x.words x.words.length c 0 0 w rfl ha (by omega))
  unfold keyPre at hp
  unfold kyv
  obtain ⟨id, words, top, seen⟩ := x
  dsimp only at hp HP ha hn hs hr ⊢
  have haB : ∀ t cs, Rd (w.alloc (.cells cs t)) A (ivs words) := fun t cs => ha.alloc _
  generalize words.length = n at *
  have HB : ∀ t cs, Below w.heap.size w (w.alloc (.cells cs t)) := fun t cs => (by repeat (first | with_reducible exact Below.refl _ _ | with_reducible assumption | with_reducible refine below_drewN ?_ _ | with_reducible refine Below.drew ?_ | with_reducible refine Below.alloc ?_ ?_ _ | with_reducible refine Below.setCell ?_ ?_ _ | with_reducible exact Nat.le_refl _ | (simp; omega) | (simp; done)))
  obtain ⟨⟨⟨a0, a1⟩, hpe⟩, ⟨a3, a4⟩, a5⟩ := hp
  rw [hpe] at HP
  have d : (seen / 4611686018427387904 != 0) = false := by simp; omega
  have e : seen / 4611686018427387904 = 0 := by omega
  have HR := Lib.hid hr
  clear hpe hr
  have hs' := Lib.hid hs
  clear hs
  go_enter Try.func45, Try.ntmps45
  go_wp2_with (go_at_call 59; refine (HP.out _ (haB _ _)).mono ?_; rintro e w' ⟨rfl, rfl⟩)
  have hs := hs'.out
  obtain ⟨s, rfl⟩ := Int.eq_ofNat_of_zero_le a5
  rw [Int.toNat_natCast] at HR
  obtain ⟨W, hW⟩ : ∃ W : World, W = w.alloc (.cells #[.int .i64 id, .slice A n c, .int .i64 top, .int .i64 (s : Int)] 46) := ⟨_, rfl⟩
  have hK : Blk W w.heap.size 46 #[.int .i64 id, .slice A n c, .int .i64 top, .int .i64 (s : Int)] := by rw [hW]; exact Blk.new w _ _
  have hB : Below w.heap.size w W := by rw [hW]; exact HB _ _
  rw [← hW]
  have k2 := hK.cell' (i := 2) rfl
  have k3 := hK.cell' (i := 3) rfl
  clear hW d e haB HB HP
  go_loop [3] (fun i => ∃ k : Nat, k ≤ 62 ∧ i = .int .i64 k ∧ Hid (∀ j : Nat, j < k → s / 2 ^ j % 2 = 1 → (j : Int) + 1 ≤ top)) (fun i => 62 - (intOf i).toNat)
  case atStart => exact ⟨0, by omega, by simp, Lib.hid (fun j hj => by omega)⟩
  case round =>
    obtain ⟨k, hk, rfl, HJ⟩ := hrel
    by_cases h0 : k < 62
    · have h0i : (k : Int) < 62 := by omega
      have e := bit_i64 s k (by omega)
      by_cases h1 : s / 2 ^ k % 2 = 1
      · by_cases h2 : (k : Int) + 1 ≤ top
        · have HJ2 : Hid (∀ j : Nat, j < k + 1 → s / 2 ^ j % 2 = 1 → (j : Int) + 1 ≤ top) := Lib.hid (fun j hj hb => by
            by_cases e : j = k
            · subst e; exact h2
            · exact HJ.out j (by omega) hb)
          rw [h1] at e
          have d : decide (top - 1 - (k : Int) < 0) = false := decide_eq_false (by omega)
          clear h1
          go_wp2_with fail
          go_round
          case rel => exact ⟨k + 1, by omega, by go_num, HJ2⟩
          case measure => simp [intOf] <;> omega
        · have hF : r = false := by rw [HR.out]; exact decide_eq_false (fun hh => h2 (hh k h0 h1))
          rw [h1] at e
          have d : top - 1 - (k : Int) < 0 := by omega
          clear h1 HR
          subst hF
          go_wp2_with fail
          go_ret
          exact ⟨rfl, hB⟩
      · have h2 : s / 2 ^ k % 2 = 0 := by omega
        have HJ2 : Hid (∀ j : Nat, j < k + 1 → s / 2 ^ j % 2 = 1 → (j : Int) + 1 ≤ top) := Lib.hid (fun j hj hb => by
          by_cases e : j = k
          · subst e; omega
          · exact HJ.out j (by omega) hb)
        rw [h2] at e
        clear h1 h2
        go_wp2_with fail
        go_round
        case rel => exact ⟨k + 1, by omega, by go_num, HJ2⟩
        case measure => simp [intOf] <;> omega
    · obtain rfl : k = 62 := by omega
      have hT : r = true := by rw [HR.out]; exact decide_eq_true HJ.out
      subst hT
      clear HR
      go_wp2_with fail
      go_ret
      exact ⟨rfl, hB⟩
theorem rkeyMay_any (x : Ky) (A : Option Addr) (c : Nat) (w : World) (ha : Rd w A (ivs x.words)) (hn : x.words.length ≤ 17592186044400) (hs : x.seen < 9223372036854775808) :
    Calls Try.prog 45 #[kyv x A c] w fun e w' => e = .returned (.bool (decide (keyOk x))) ∧ Below w.heap.size w w' := by
  by_cases hp : keyPre x
  · have h0 : 0 ≤ x.seen := hp.2.2
    by_cases h : x.seen < 4611686018427387904
    · exact rkeyMay_go x A c w _ ha hn hp h (by rw [decide_eq_decide, keyOk_seen hp]; exact ⟨fun h => h.2, fun k => ⟨by omega, k⟩⟩)
    · have : decide (keyOk x) = false := decide_eq_false (fun k => by have := ((keyOk_seen hp).1 k).1; omega)
      rw [this]
      exact rkeyMay_big x A c w ha hn hp (by omega) hs
  · rw [keyOk_not hp]
    exact rkeyMay_bad x A c w ha hn hp

set_option maxHeartbeats 3200000 in
set_option maxRecDepth 100000 in
theorem kmay_bad (x : Ky) (A : Option Addr) (c : Nat) (w : World) (ha : Rd w A (ivs x.words)) (hn : x.words.length ≤ 17592186044400) (hp : ¬ keyPre x) :
    Calls Try.prog 47 #[kyv x A c] w fun e w' => e = .returned (.bool false) ∧ Below w.heap.size w w' := by
  have HP := Lib.hid (fun (w : World) (ha : Rd w A (ivs x.words)) => fits_any A x.words x.words.length c 0 0 w rfl ha (by omega))
  unfold keyPre at hp
  unfold kyv
  obtain ⟨id, words, top, seen⟩ := x
  dsimp only at hp HP ha hn ⊢
  have haB : ∀ t cs, Rd (w.alloc (.cells cs t)) A (ivs words) := fun t cs => ha.alloc _
  generalize padErr words 0 0 = pe at *
  generalize words.length = n at *
  have HB : ∀ t cs, Below w.heap.size w (w.alloc (.cells cs t)) := fun t cs => (by repeat (first | with_reducible exact Below.refl _ _ | with_reducible assumption | with_reducible refine below_drewN ?_ _ | with_reducible refine Below.drew ?_ | with_reducible refine Below.alloc ?_ ?_ _ | with_reducible refine Below.setCell ?_ ?_ _ | with_reducible exact Nat.le_refl _ | (simp; omega) | (simp; done)))
  by_cases h0 : id < 0 ∨ 255 < id
  · clear hp
    have HI := Lib.hid (fun (w : World) => kin_no id 255 w h0)
    clear h0
    go_enter Try.func47, Try.ntmps47
    go_wp2_with (go_at_call 53; refine (HI.out _).mono ?_; rintro e w' ⟨rfl, rfl⟩)
    go_ret
    exact ⟨rfl, HB _ _⟩
  have a0 : 0 ≤ id := by omega
  have a1 : id ≤ 255 := by omega
  have HI := Lib.hid (fun (w : World) => kin_yes id 255 w a0 a1)
  clear h0
  by_cases h2n : ¬ pe = 0
  · clear hp
    have d : (pe != 0) = true := by simpa using h2n
    go_enter Try.func47, Try.ntmps47
    go_wp2_with (first | (go_at_call 53; refine (HI.out _).mono ?_; rintro e w' ⟨rfl, rfl⟩) | (go_at_call 42; refine (HP.out _ (haB _ _)).mono ?_; rintro e w' ⟨rfl, rfl⟩))
    go_ret
    exact ⟨rfl, HB _ _⟩
  obtain rfl : pe = 0 := Decidable.not_not.1 h2n
  by_cases h3 : top < -1
  · clear hp
    go_enter Try.func47, Try.ntmps47
    go_wp2_with (first | (go_at_call 53; refine (HI.out _).mono ?_; rintro e w' ⟨rfl, rfl⟩) | (go_at_call 42; refine (HP.out _ (haB _ _)).mono ?_; rintro e w' ⟨rfl, rfl⟩))
    go_ret
    exact ⟨rfl, HB _ _⟩
  have a3 : -1 ≤ top := by omega
  by_cases h4 : 281474976710655 < top
  · clear hp
    go_enter Try.func47, Try.ntmps47
    go_wp2_with (first | (go_at_call 53; refine (HI.out _).mono ?_; rintro e w' ⟨rfl, rfl⟩) | (go_at_call 42; refine (HP.out _ (haB _ _)).mono ?_; rintro e w' ⟨rfl, rfl⟩))
    go_ret
    exact ⟨rfl, HB _ _⟩
  have a4 : top ≤ 281474976710655 := by omega
  have h5 : seen < 0 := by
    rcases Int.lt_or_le seen 0 with h | h
    · exact h
    · exact absurd ⟨⟨⟨a0, a1⟩, rfl⟩, ⟨a3, a4⟩, h⟩ hp
  clear hp
  go_enter Try.func47, Try.ntmps47
  go_wp2_with (first | (go_at_call 53; refine (HI.out _).mono ?_; rintro e w' ⟨rfl, rfl⟩) | (go_at_call 42; refine (HP.out _ (haB _ _)).mono ?_; rintro e w' ⟨rfl, rfl⟩))
  go_ret
  exact ⟨rfl, HB _ _⟩

set_option maxHeartbeats 3200000 in
set_option maxRecDepth 100000 in
theorem kmay_go (x : Ky) (A : Option Addr) (c : Nat) (w : World) (r : Bool) (ha : Rd w A (ivs x.words)) (hn : x.words.length ≤ 17592186044400) (hp : keyPre x) (hs : x.seen < 9223372036854775808) (hr : r = decide (lenB x.seen.toNat ≤ min 62 x.top.toNat)) :
    Calls Try.prog 47 #[kyv x A c] w fun e w' => e = .returned (.bool r) ∧ Below w.heap.size w w' := by
  have HP := Lib.hid (fun (w : World) (ha : Rd w A (ivs x.words)) => fits_any A x.words x.words.length c 0 0 w rfl ha (by omega))
  unfold keyPre at hp
  unfold kyv
  obtain ⟨id, words, top, seen⟩ := x
  dsimp only at hp HP ha hn hs hr ⊢
  have haB : ∀ t cs, Rd (w.alloc (.cells cs t)) A (ivs words) := fun t cs => ha.alloc _
  generalize words.length = n at *
  have HB : ∀ t cs, Below w.heap.size w (w.alloc (.cells cs t)) := fun t cs => (by repeat (first | with_reducible exact Below.refl _ _ | with_reducible assumption | with_reducible refine below_drewN ?_ _ | with_reducible refine Below.drew ?_ | with_reducible refine Below.alloc ?_ ?_ _ | with_reducible refine Below.setCell ?_ ?_ _ | with_reducible exact Nat.le_refl _ | (simp; omega) | (simp; done)))
  obtain ⟨⟨⟨a0, a1⟩, hpe⟩, ⟨a3, a4⟩, a5⟩ := hp
  rw [hpe] at HP
  have HI := Lib.hid (fun (w : World) => kin_yes id 255 w a0 a1)
  have hl := fun (w : World) => len_any seen.toNat w (by omega)
  rw [Int.toNat_of_nonneg a5] at hl
  have HL := Lib.hid hl
  have hm : min (62 : Int) (max top 0) = ((min 62 top.toNat : Nat) : Int) := by omega
  have HR : Hid (decide ((lenB seen.toNat : Int) ≤ min (62 : Int) (max top 0)) = r) := Lib.hid (by rw [hm, hr, decide_eq_decide]; omega)
  clear hpe hr hm hl
  generalize lenB seen.toNat = ls at *
  go_enter Try.func47, Try.ntmps47
  go_wp2_with (first | (go_at_call 53; refine (HI.out _).mono ?_; rintro e w' ⟨rfl, rfl⟩) | (go_at_call 42; refine (HP.out _ (haB _ _)).mono ?_; rintro e w' ⟨rfl, rfl⟩))
  obtain ⟨W, hW⟩ : ∃ W : World, W = w.alloc (.cells #[.int .i64 id, .slice A n c, .int .i64 top, .int .i64 seen] 46) := ⟨_, rfl⟩
  have hK : Blk W w.heap.size 46 #[.int .i64 id, .slice A n c, .int .i64 top, .int .i64 seen] := by rw [hW]; exact Blk.new w _ _
  have hB : Below w.heap.size w W := by rw [hW]; exact HB _ _
  rw [← hW]
  have k2 := hK.cell' (i := 2) rfl
  have k3 := hK.cell' (i := 3) rfl
  have ew : IntKind.u64.wrap seen = seen := by rw [IntKind.wrap_u64]; omega
  clear hW haB HB HP
  by_cases t0 : top < 0
  · have HR2 : Hid (decide (ls = 0) = r) := Lib.hid (by rw [← HR.out, decide_eq_decide]; omega)
    clear a3 a4 a0 a1 hs
    go_quiet ((go_at_call 67; exact quiet_same (HL.out _)))
    go_wp2_with fail
    go_ret
    exact ⟨HR2.out ▸ rfl, below_drewN hB _⟩
  have t1 : 0 ≤ top := by omega
  by_cases t2 : top < 62
  · have HR2 : Hid (decide ((ls : Int) ≤ top) = r) := Lib.hid (by rw [← HR.out, decide_eq_decide]; omega)
    clear a3 a4 a0 a1 hs
    go_quiet ((go_at_call 67; exact quiet_same (HL.out _)))
    go_wp2_with fail
    go_ret
    exact ⟨HR2.out ▸ rfl, below_drewN hB _⟩
  · have t3 : 62 ≤ top := by omega
    have HR2 : Hid (decide ((ls : Int) ≤ 62) = r) := Lib.hid (by rw [← HR.out, decide_eq_decide]; omega)
    clear t2
    clear a3 a4 a0 a1 hs
    go_quiet ((go_at_call 67; exact quiet_same (HL.out _)))
    go_wp2_with fail
    go_ret
    exact ⟨HR2.out ▸ rfl, below_drewN hB _⟩
theorem kmay_any (x : Ky) (A : Option Addr) (c : Nat) (w : World) (ha : Rd w A (ivs x.words)) (hn : x.words.length ≤ 17592186044400) (hs : x.seen < 9223372036854775808) :
    Calls Try.prog 47 #[kyv x A c] w fun e w' => e = .returned (.bool (decide (keyOk x))) ∧ Below w.heap.size w w' := by
  by_cases hp : keyPre x
  · exact kmay_go x A c w _ ha hn hp hs (by rw [decide_eq_decide]; exact keyOk_len hp)
  · rw [keyOk_not hp]
    exact kmay_bad x A c w ha hn hp
end Go.Proofs.Ytkbaganbfcbioaa
