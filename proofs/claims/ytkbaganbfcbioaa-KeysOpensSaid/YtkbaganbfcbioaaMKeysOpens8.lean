/-
  A region that draws its order and ends in one and the same frame and world on every way: what follows is walked once. 'apply wp_one; case h => (the region; all_goals exact ⟨rfl, rfl, rfl⟩); case k => ..'; within a wide fence: 'wpIn_one'. Whether a key may be, as the document and as the program ask. The document's RingMay.
-/
import Derived.WalkKit
import Derived.OwnWalkIn
import Derived.TacticsInMore
import Derived.Test.YtkbaganbfcbioaaMKeysOpens5
import Derived.Test.YtkbaganbfcbioaaMKeysOpens7
import Derived.RegionTactic
import Derived.Deep.DeepCutAuto
import Derived.BigQuiet
import Derived.Deep.QuietTactic
import Derived.Deep.RegionHeld3
import Derived.Test.YtkbaganbfcbioaaMKeysOpens6
namespace Go.Proofs.Ytkbaganbfcbioaa
open Go.RowKit
def OneWay (a9 : Act) (w9 : World) : Exit → Act → World → Prop := fun e a w => e = .normal ∧ a = a9 ∧ w = w9
theorem wp_one {P : Program} {c : Code} {Q : Exit → Act → World → Prop} {a : Act} {w : World} (a9 : Act) (w9 : World) (h : c.wp P (OneWay a9 w9) a w) (k : Q .normal a9 w9) : c.wp P Q a w :=
  wp_mono h (by rintro _ _ _ ⟨rfl, rfl, rfl⟩; exact k)
theorem wpIn_one {P : Program} {c : Code} {n : Nat} {Q : Exit → Act → World → Prop} {a : Act} {w : World} (a9 : Act) (w9 : World) (h : c.wp P (OneWay a9 w9) a w) (k : Q .normal a9 w9) : c.wpIn Fence.wide n P Q a w :=
  wpIn_wide.2 (wp_one a9 w9 h k)
end Go.Proofs.Ytkbaganbfcbioaa
namespace Go.Proofs.Ytkbaganbfcbioaa
set_option linter.unusedSimpArgs false
set_option linter.unusedVariables false
open Go.RowKit

theorem quiet_same {P : Program} {f : FuncId} {args : Array Value} {w : World} {n : Nat} {v : Value}
    (h : Calls P f args (w.drewN n) fun e w' => e = .returned v ∧ w.drewN n = w') : Calls P f args (w.drewN n) fun e w'' => e = .returned v ∧ ∃ m, w'' = w.drewN m :=
  h.mono fun _ _ ⟨he, hm⟩ => ⟨he, n, hm.symm⟩
set_option maxHeartbeats 3200000 in
set_option maxRecDepth 100000 in
theorem rkeyMay_bad (x : Ky) (A : Option Addr) (c : Nat) (w : World) (ha : Rd w A (ivs x.words)) (hn : x.words.length ≤ 17592186044400) (hp : ¬ keyPre x) :
    Calls Try.prog 45 #[kyv x A c] w fun e w' => e = .returned (.bool false) ∧ Below w.heap.size w w' := by
  have HP := Lib.hid (fun (w : World) (ha : Rd w A (ivs x.words)) => rpadded_any A x.words x.words.length c 0 0 w rfl ha (by omega))
  unfold keyPre at hp
  unfold kyv
  obtain ⟨id, words, top, seen⟩ := x
  dsimp only at hp HP ha hn ⊢
  have haB : ∀ t cs, Rd (w.alloc (.cells cs t)) A (ivs words) := fun t cs => ha.alloc _
  generalize padErr words 0 0 = pe at *
  generalize words.length = n at *
  have HB : ∀ t cs, Below w.heap.size w (w.alloc (.cells cs t)) := fun t cs => (by repeat (first | with_reducible exact Below.refl _ _ | with_reducible assumption | with_reducible refine below_drewN ?_ _ | with_reducible refine Below.drew ?_ | with_reducible refine Below.alloc ?_ ?_ _ | with_reducible refine Below.setCell ?_ ?_ _ | with_reducible exact Nat.le_refl _ | (simp; omega) | (simp; done)))
  by_cases h0 : id < 0
  · clear hp
    go_enter Try.func45, Try.ntmps45
    go_wp2_with fail
    go_ret
    exact ⟨rfl, HB _ _⟩
  by_cases h1 : 255 < id
  · clear hp
    have a0 : 0 ≤ id := by omega
    go_enter Try.func45, Try.ntmps45
    go_wp2_with fail
    go_ret
    exact ⟨rfl, HB _ _⟩
  have a0 : 0 ≤ id := by omega
  have a1 : id ≤ 255 := by omega
  by_cases h2n : ¬ pe = 0
  · clear hp
    have d : (pe != 0) = true := by simpa using h2n
    go_enter Try.func45, Try.ntmps45
    go_wp2_with (go_at_call 59; refine (HP.out _ (haB _ _)).mono ?_; rintro e w' ⟨rfl, rfl⟩)
    go_ret
    exact ⟨rfl, HB _ _⟩
  obtain rfl : pe = 0 := Decidable.not_not.1 h2n
  by_cases h3 : top < -1
  · clear hp
    go_enter Try.func45, Try.ntmps45
    go_wp2_with (go_at_call 59; refine (HP.out _ (haB _ _)).mono ?_; rintro e w' ⟨rfl, rfl⟩)
    go_ret
    exact ⟨rfl, HB _ _⟩
  have a3 : -1 ≤ top := by omega
  by_cases h4 : 281474976710655 < top
  · clear hp
    go_enter Try.func45, Try.ntmps45
    go_wp2_with (go_at_call 59; refine (HP.out _ (haB _ _)).mono ?_; rintro e w' ⟨rfl, rfl⟩)
    go_ret
    exact ⟨rfl, HB _ _⟩
  have a4 : top ≤ 281474976710655 := by omega
  have h5 : seen < 0 := by
    rcases Int.lt_or_le seen 0 with h | h
    · exact h
    · exact absurd ⟨⟨⟨a0, a1⟩, rfl⟩, ⟨a3, a4⟩, h⟩ hp
  clear hp
  go_enter Try.func45, Try.ntmps45
  go_wp2_with (go_at_call 59; refine (HP.out _ (haB _ _)).mono ?_; rintro e w' ⟨rfl, rfl⟩)
  go_ret
  exact ⟨rfl, HB _ _⟩

set_option maxHeartbeats 3200000 in
set_option maxRecDepth 100000 in
theorem rkeyMay_big (x : Ky) (A : Option Addr) (c : Nat) (w : World) (ha : Rd w A (ivs x.words)) (hn : x.words.length ≤ 17592186044400) (hp : keyPre x) (hs : 4611686018427387904 ≤ x.seen) (hs2 : x.seen < 9223372036854775808) :
    Calls Try.prog 45 #[kyv x A c] w fun e w' => e = .returned (.bool false) ∧ Below w.heap.size w w' := by
  have HP := Lib.hid (fun (w : World) (ha : Rd w A (ivs x.words)) => rpadded_any A x.words x.words.length c 0 0 w rfl ha (by omega))
  unfold keyPre at hp
  unfold kyv
  obtain ⟨id, words, top, seen⟩ := x
  dsimp only at hp HP ha hn hs hs2 ⊢
  have haB : ∀ t cs, Rd (w.alloc (.cells cs t)) A (ivs words) := fun t cs => ha.alloc _
  generalize words.length = n at *
  have HB : ∀ t cs, Below w.heap.size w (w.alloc (.cells cs t)) := fun t cs => (by repeat (first | with_reducible exact Below.refl _ _ | with_reducible assumption | with_reducible refine below_drewN ?_ _ | with_reducible refine Below.drew ?_ | with_reducible refine Below.alloc ?_ ?_ _ | with_reducible refine Below.setCell ?_ ?_ _ | with_reducible exact Nat.le_refl _ | (simp; omega) | (simp; done)))
  obtain ⟨⟨⟨a0, a1⟩, hpe⟩, ⟨a3, a4⟩, a5⟩ := hp
  rw [hpe] at HP
  have d : (seen / 4611686018427387904 != 0) = true := by simp; omega
  have e : seen / 4611686018427387904 = 1 := by omega
  clear hpe
  go_enter Try.func45, Try.ntmps45
  go_wp2_with (go_at_call 59; refine (HP.out _ (haB _ _)).mono ?_; rintro e w' ⟨rfl, rfl⟩)
  go_ret
  exact ⟨rfl, HB _ _⟩

set_option maxHeartbeats 3200000 in
set_option maxRecDepth 100000 in
theorem rkeyMay_go (x : Ky) (A : Option Addr) (c : Nat) (w : World) (r : Bool) (ha : Rd w A (ivs x.words)) (hn : x.words.length ≤ 17592186044400) (hp : keyPre x) (hs : x.seen < 4611686018427387904) (hr : r = decide (∀ i : Nat, i < 62 → x.seen.toNat / 2 ^ i % 2 = 1 → (i : Int) + 1 ≤ x.top)) :
    Calls Try.prog 45 #[kyv x A c] w fun e w' => e = .returned (.bool r) ∧ Below w.heap.size w w' := by
  have HP := Lib.hid (fun (w : World) (ha : Rd w A (ivs x.words)) => rpadded_any A x.words x.words.length c 0 0 w rfl ha (by omega))
  unfold keyPre at hp
  unfold kyv
  obtain ⟨id, words, top, seen⟩ := x
  dsimp only at hp HP ha hn hs hr ⊢
  have haB : ∀ t cs, Rd (w.alloc (.cells cs t)) A (ivs words) := fun t cs => ha.alloc _
  generalize words.length = n at *
  have HB : ∀ t cs, Below w.heap.size w (w.alloc (.cells cs t)) := fun t cs => (by repeat (first | with_reducible exact Below.refl _ _ | with_reducible assumption | with_reducible refine below_drewN ?_ _ | with_reducible refine Below.drew ?_ | with_reducible refine Below.alloc ?_ ?_ _ | with_reducible refine Below.setCell ?_ ?_ _ | with_reducible exact Nat.le_refl _ | (simp; omega) | (simp; done)))
  obtain ⟨⟨⟨a0, a1⟩, hpe⟩, ⟨a3, a4⟩, a5⟩ := hp
  rw [hpe] at HP
  have d : (seen / 4611686018427387904 != 0) = false := by simp; omega
  have e : seen / 4611686018427387904 = 0 := by omega
  have HR := Lib.hid hr
  clear hpe hr
  have hs' := Lib.hid hs
  clear hs
  go_enter Try.func45, Try.ntmps45
  go_wp2_with (go_at_call 59; refine (HP.out _ (haB _ _)).mono ?_; rintro e w' ⟨rfl, rfl⟩)
  have hs := hs'.out
  obtain ⟨s, rfl⟩ := Int.eq_ofNat_of_zero_le a5
  rw [Int.toNat_natCast] at HR
  obtain ⟨W, hW⟩ : ∃ W : World, W = w.alloc (.cells #[.int .i64 id, .slice A n c, .int .i64 top, .int .i64 (s : Int)] 46) := ⟨_, rfl⟩
  have hK : Blk W w.heap.size 46 #[.int .i64 id, .slice A n c, .int .i64 top, .int .i64 (s : Int)] := by rw [hW]; exact Blk.new w _ _
  have hB : Below w.heap.size w W := by rw [hW]; exact HB _ _
  rw [← hW]
  have k2 := hK.cell' (i := 2) rfl
  have k3 := hK.cell' (i := 3) rfl
  clear hW d e haB HB HP
  go_loop [3] (fun i => ∃ k : Nat, k ≤ 62 ∧ i = .int .i64 k ∧ Hid (∀ j : Nat, j < k → s / 2 ^ j % 2 = 1 → (j : Int) + 1 ≤ top)) (fun i => 62 - (intOf i).toNat)
  case atStart => exact ⟨0, by omega, by simp, Lib.hid (fun j hj => by omega)⟩
  case round =>
    obtain ⟨k, hk, rfl, HJ⟩ := hrel
    by_cases h0 : k < 62
    · have h0i : (k : Int) < 62 := by omega
      have e := bit_i64 s k (by omega)
      by_cases h1 : s / 2 ^ k % 2 = 1
      · by_cases h2 : (k : Int) + 1 ≤ top
        · have HJ2 : Hid (∀ j : Nat, j < k + 1 → s / 2 ^ j % 2 = 1 → (j : Int) + 1 ≤ top) := Lib.hid (fun j hj hb => by
            by_cases e : j = k
            · subst e; exact h2
            · exact HJ.out j (by omega) hb)
          rw [h1] at e
          have d : decide (top - 1 - (k : Int) < 0) = false := decide_eq_false (by omega)
          clear h1
          go_wp2_with fail
          go_round
          case rel => exact ⟨k + 1, by omega, by go_num, HJ2⟩
          case measure => simp [intOf] <;> omega
        · have hF : r = false := by rw [HR.out]; exact decide_eq_false (fun hh => h2 (hh k h0 h1))
          rw [h1] at e
          have d : top - 1 - (k : Int) < 0 := by omega
          clear h1 HR
          subst hF
          go_wp2_with fail
          go_ret
          exact ⟨rfl, hB⟩
      · have h2 : s / 2 ^ k % 2 = 0 := by omega
        have HJ2 : Hid (∀ j : Nat, j < k + 1 → s / 2 ^ j % 2 = 1 → (j : Int) + 1 ≤ top) := Lib.hid (fun j hj hb => by
          by_cases e : j = k
          · subst e; omega
          · exact HJ.out j (by omega) hb)
        rw [h2] at e
        clear h1 h2
        go_wp2_with fail
        go_round
        case rel => exact ⟨k + 1, by omega, by go_num, HJ2⟩
        case measure => simp [intOf] <;> omega
    · obtain rfl : k = 62 := by omega
      have hT : r = true := by rw [HR.out]; exact decide_eq_true HJ.out
      subst hT
      clear HR
      go_wp2_with fail
      go_ret
      exact ⟨rfl, hB⟩
theorem rkeyMay_any (x : Ky) (A : Option Addr) (c : Nat) (w : World) (ha : Rd w A (ivs x.words)) (hn : x.words.length ≤ 17592186044400) (hs : x.seen < 9223372036854775808) :
    Calls Try.prog 45 #[kyv x A c] w fun e w' => e = .returned (.bool (decide (keyOk x))) ∧ Below w.heap.size w w' := by
  by_cases hp : keyPre x
  · have h0 : 0 ≤ x.seen := hp.2.2
    by_cases h : x.seen < 4611686018427387904
    · exact rkeyMay_go x A c w _ ha hn hp h (by rw [decide_eq_decide, keyOk_seen hp]; exact ⟨fun h => h.2, fun k => ⟨by omega, k⟩⟩)
    · have : decide (keyOk x) = false := decide_eq_false (fun k => by have := ((keyOk_seen hp).1 k).1; omega)
      rw [this]
      exact rkeyMay_big x A c w ha hn hp (by omega) hs
  · rw [keyOk_not hp]
    exact rkeyMay_bad x A c w ha hn hp

set_option maxHeartbeats 3200000 in
set_option maxRecDepth 100000 in
theorem kmay_bad (x : Ky) (A : Option Addr) (c : Nat) (w : World) (ha : Rd w A (ivs x.words)) (hn : x.words.length ≤ 17592186044400) (hp : ¬ keyPre x) :
    Calls Try.prog 47 #[kyv x A c] w fun e w' => e = .returned (.bool false) ∧ Below w.heap.size w w' := by
  have HP := Lib.hid (fun (w : World) (ha : Rd w A (ivs x.words)) => fits_any A x.words x.words.length c 0 0 w rfl ha (by omega))
  unfold keyPre at hp
  unfold kyv
  obtain ⟨id, words, top, seen⟩ := x
  dsimp only at hp HP ha hn ⊢
  have haB : ∀ t cs, Rd (w.alloc (.cells cs t)) A (ivs words) := fun t cs => ha.alloc _
  generalize padErr words 0 0 = pe at *
  generalize words.length = n at *
  have HB : ∀ t cs, Below w.heap.size w (w.alloc (.cells cs t)) := fun t cs => (by repeat (first | with_reducible exact Below.refl _ _ | with_reducible assumption | with_reducible refine below_drewN ?_ _ | with_reducible refine Below.drew ?_ | with_reducible refine Below.alloc ?_ ?_ _ | with_reducible refine Below.setCell ?_ ?_ _ | with_reducible exact Nat.le_refl _ | (simp; omega) | (simp; done)))
  by_cases h0 : id < 0 ∨ 255 < id
  · clear hp
    have HI := Lib.hid (fun (w : World) => kin_no id 255 w h0)
    clear h0
    go_enter Try.func47, Try.ntmps47
    go_wp2_with (go_at_call 53; refine (HI.out _).mono ?_; rintro e w' ⟨rfl, rfl⟩)
    go_ret
    exact ⟨rfl, HB _ _⟩
  have a0 : 0 ≤ id := by omega
  have a1 : id ≤ 255 := by omega
  have HI := Lib.hid (fun (w : World) => kin_yes id 255 w a0 a1)
  clear h0
  by_cases h2n : ¬ pe = 0
  · clear hp
    have d : (pe != 0) = true := by simpa using h2n
    go_enter Try.func47, Try.ntmps47
    go_wp2_with (first | (go_at_call 53; refine (HI.out _).mono ?_; rintro e w' ⟨rfl, rfl⟩) | (go_at_call 42; refine (HP.out _ (haB _ _)).mono ?_; rintro e w' ⟨rfl, rfl⟩))
    go_ret
    exact ⟨rfl, HB _ _⟩
  obtain rfl : pe = 0 := Decidable.not_not.1 h2n
  by_cases h3 : top < -1
  · clear hp
    go_enter Try.func47, Try.ntmps47
    go_wp2_with (first | (go_at_call 53; refine (HI.out _).mono ?_; rintro e w' ⟨rfl, rfl⟩) | (go_at_call 42; refine (HP.out _ (haB _ _)).mono ?_; rintro e w' ⟨rfl, rfl⟩))
    go_ret
    exact ⟨rfl, HB _ _⟩
  have a3 : -1 ≤ top := by omega
  by_cases h4 : 281474976710655 < top
  · clear hp
    go_enter Try.func47, Try.ntmps47
    go_wp2_with (first | (go_at_call 53; refine (HI.out _).mono ?_; rintro e w' ⟨rfl, rfl⟩) | (go_at_call 42; refine (HP.out _ (haB _ _)).mono ?_; rintro e w' ⟨rfl, rfl⟩))
    go_ret
    exact ⟨rfl, HB _ _⟩
  have a4 : top ≤ 281474976710655 := by omega
  have h5 : seen < 0 := by
    rcases Int.lt_or_le seen 0 with h | h
    · exact h
    · exact absurd ⟨⟨⟨a0, a1⟩, rfl⟩, ⟨a3, a4⟩, h⟩ hp
  clear hp
  go_enter Try.func47, Try.ntmps47
  go_wp2_with (first | (go_at_call 53; refine (HI.out _).mono ?_; rintro e w' ⟨rfl, rfl⟩) | (go_at_call 42; refine (HP.out _ (haB _ _)).mono ?_; rintro e w' ⟨rfl, rfl⟩))
  go_ret
  exact ⟨rfl, HB _ _⟩

set_option maxHeartbeats 3200000 in
set_option maxRecDepth 100000 in
theorem kmay_go (x : Ky) (A : Option Addr) (c : Nat) (w : World) (r : Bool) (ha : Rd w A (ivs x.words)) (hn : x.words.length ≤ 17592186044400) (hp : keyPre x) (hs : x.seen < 9223372036854775808) (hr : r = decide (lenB x.seen.toNat ≤ min 62 x.top.toNat)) :
    Calls Try.prog 47 #[kyv x A c] w fun e w' => e = .returned (.bool r) ∧ Below w.heap.size w w' := by
  have HP := Lib.hid (fun (w : World) (ha : Rd w A (ivs x.words)) => fits_any A x.words x.words.length c 0 0 w rfl ha (by omega))
  unfold keyPre at hp
  unfold kyv
  obtain ⟨id, words, top, seen⟩ := x
  dsimp only at hp HP ha hn hs hr ⊢
  have haB : ∀ t cs, Rd (w.alloc (.cells cs t)) A (ivs words) := fun t cs => ha.alloc _
  generalize words.length = n at *
  have HB : ∀ t cs, Below w.heap.size w (w.alloc (.cells cs t)) := fun t cs => (by repeat (first | with_reducible exact Below.refl _ _ | with_reducible assumption | with_reducible refine below_drewN ?_ _ | with_reducible refine Below.drew ?_ | with_reducible refine Below.alloc ?_ ?_ _ | with_reducible refine Below.setCell ?_ ?_ _ | with_reducible exact Nat.le_refl _ | (simp; omega) | (simp; done)))
  obtain ⟨⟨⟨a0, a1⟩, hpe⟩, ⟨a3, a4⟩, a5⟩ := hp
  rw [hpe] at HP
  have HI := Lib.hid (fun (w : World) => kin_yes id 255 w a0 a1)
  have hl := fun (w : World) => len_any seen.toNat w (by omega)
  rw [Int.toNat_of_nonneg a5] at hl
  have HL := Lib.hid hl
  have hm : min (62 : Int) (max top 0) = ((min 62 top.toNat : Nat) : Int) := by omega
  have HR : Hid (decide ((lenB seen.toNat : Int) ≤ min (62 : Int) (max top 0)) = r) := Lib.hid (by rw [hm, hr, decide_eq_decide]; omega)
  clear hpe hr hm hl
  generalize lenB seen.toNat = ls at *
  go_enter Try.func47, Try.ntmps47
  go_wp2_with (first | (go_at_call 53; refine (HI.out _).mono ?_; rintro e w' ⟨rfl, rfl⟩) | (go_at_call 42; refine (HP.out _ (haB _ _)).mono ?_; rintro e w' ⟨rfl, rfl⟩))
  obtain ⟨W, hW⟩ : ∃ W : World, W = w.alloc (.cells #[.int .i64 id, .slice A n c, .int .i64 top, .int .i64 seen] 46) := ⟨_, rfl⟩
  have hK : Blk W w.heap.size 46 #[.int .i64 id, .slice A n c, .int .i64 top, .int .i64 seen] := by rw [hW]; exact Blk.new w _ _
  have hB : Below w.heap.size w W := by rw [hW]; exact HB _ _
  rw [← hW]
  have k2 := hK.cell' (i := 2) rfl
  have k3 := hK.cell' (i := 3) rfl
  have ew : IntKind.u64.wrap seen = seen := by rw [IntKind.wrap_u64]; omega
  clear hW haB HB HP
  by_cases t0 : top < 0
  · have HR2 : Hid (decide (ls = 0) = r) := Lib.hid (by rw [← HR.out, decide_eq_decide]; omega)
    clear a3 a4 a0 a1 hs
    go_quiet ((go_at_call 67; exact quiet_same (HL.out _)))
    go_wp2_with fail
    go_ret
    exact ⟨HR2.out ▸ rfl, below_drewN hB _⟩
  have t1 : 0 ≤ top := by omega
  by_cases t2 : top < 62
  · have HR2 : Hid (decide ((ls : Int) ≤ top) = r) := Lib.hid (by rw [← HR.out, decide_eq_decide]; omega)
    clear a3 a4 a0 a1 hs
    go_quiet ((go_at_call 67; exact quiet_same (HL.out _)))
    go_wp2_with fail
    go_ret
    exact ⟨HR2.out ▸ rfl, below_drewN hB _⟩
  · have t3 : 62 ≤ top := by omega
    have HR2 : Hid (decide ((ls : Int) ≤ 62) = r) := Lib.hid (by rw [← HR.out, decide_eq_decide]; omega)
    clear t2
    clear a3 a4 a0 a1 hs
    go_quiet ((go_at_call 67; exact quiet_same (HL.out _)))
    go_wp2_with fail
    go_ret
    exact ⟨HR2.out ▸ rfl, below_drewN hB _⟩
theorem kmay_any (x : Ky) (A : Option Addr) (c : Nat) (w : World) (ha : Rd w A (ivs x.words)) (hn : x.words.length ≤ 17592186044400) (hs : x.seen < 9223372036854775808) :
    Calls Try.prog 47 #[kyv x A c] w fun e w' => e = .returned (.bool (decide (keyOk x))) ∧ Below w.heap.size w w' := by
  by_cases hp : keyPre x
  · exact kmay_go x A c w _ ha hn hp hs (by rw [decide_eq_decide]; exact keyOk_len hp)
  · rw [keyOk_not hp]
    exact kmay_bad x A c w ha hn hp
end Go.Proofs.Ytkbaganbfcbioaa
namespace Go.Proofs.Ytkbaganbfcbioaa
set_option linter.unusedSimpArgs false
set_option linter.unusedVariables false
open Go.RowKit

set_option maxHeartbeats 6400000 in
set_option maxRecDepth 100000 in
theorem rringMay_any (l : List KyR) (L : List Ky) (B : Option Addr) (n d : Nat) (w : World) (hl : l.map KyR.k = L) (hn : L.length = n) (h : RdRing w B l) (hf : RingFits L) :
    Calls Try.prog 44 #[.agg #[.slice B n d]] w fun e w' => e = .returned (.bool (decide (ringOk L))) ∧ Below w.heap.size w w' := by
  obtain ⟨r, hr⟩ : ∃ r, r = decide (ringOk L) := ⟨_, rfl⟩
  rw [← hr]
  have HR := Lib.hid hr
  have HN := Lib.hid hn
  have HI := Lib.hid (@ringOk_iff L)
  by_cases h8 : 8 < n
  · have h8i : (8 : Int) < (n : Int) := by omega
    obtain rfl : r = false := by rw [hr]; exact decide_eq_false (fun k => by have := (ringOk_iff.1 k).1; omega)
    clear hr hl hn h
    go_enter Try.func44, Try.ntmps44
    go_wp2
    go_ret
    exact ⟨rfl, (by repeat (first | with_reducible exact Below.refl _ _ | with_reducible assumption | with_reducible refine below_drewN ?_ _ | with_reducible refine Below.drew ?_ | with_reducible refine Below.alloc ?_ ?_ _ | with_reducible refine Below.setCell ?_ ?_ _ | with_reducible exact Nat.le_refl _ | (simp; omega) | (simp; done)))⟩
  have h8i : ¬ (8 : Int) < (n : Int) := by omega
  have HRd := Lib.hid h
  clear hr h hn
  go_enter Try.func44, Try.ntmps44
  go_wp2_with fail
  go_loopw [3] (fun iv wr => ∃ i : Nat, i ≤ n ∧ iv = .int .i64 (i : Int) ∧ Below w.heap.size w wr ∧ Blk wr w.heap.size 44 #[.slice B n d] ∧ Hid (okTo L i)) (fun iv _ => n - (intOf iv).toNat)
  case atStart => exact ⟨0, Nat.zero_le _, rfl, (by repeat (first | with_reducible exact Below.refl _ _ | with_reducible assumption | with_reducible refine below_drewN ?_ _ | with_reducible refine Below.drew ?_ | with_reducible refine Below.alloc ?_ ?_ _ | with_reducible refine Below.setCell ?_ ?_ _ | with_reducible exact Nat.le_refl _ | (simp; omega) | (simp; done))), Blk.new _ _ _, Lib.hid (okTo_zero L)⟩
  case round =>
    obtain ⟨i, hi, rfl, hB, hK, HO⟩ := hrel
    have k0 := hK.cell' (i := 0) rfl
    by_cases h5 : i < n
    · have h5i : (i : Int) < (n : Int) := by omega
      have hi0 : (0 : Int) ≤ (i : Int) := by omega
      have hiL : i < L.length := by rw [HN.out]; exact h5
      obtain ⟨xA, xd, hx⟩ := ky_at hl hiL
      have HLi := Lib.hid (List.getElem?_eq_getElem hiL)
      have hff := (hf _ (List.getElem_mem hiL)).1
      have hRw := HRd.out.below hB
      have hxw : Rd wr xA (ivs L[i].words) := (HRd.out.2 i _ hx).below hB
      generalize L[i] = kx at *
      obtain ⟨id, words, top, seen⟩ := kx
      obtain ⟨g, o, rfl, x0, x1, x2, x3⟩ := hRw.cells hx
      dsimp only at x0 x1 x2 x3 hxw hff
      have CK := Lib.hid (rkeyMay_any ⟨id, words, top, seen⟩ xA xd wr hxw hff.1 hff.2)
      unfold kyv at CK
      dsimp only at CK
      generalize words.length = m at *
      by_cases hk : keyOk ⟨id, words, top, seen⟩
      · have hkd : decide (keyOk ⟨id, words, top, seen⟩) = true := decide_eq_true hk
        rw [hkd] at CK
        have Hk := Lib.hid hk
        clear hkd hk
        go_wp2_with fail
        refine (CK.out).mono ?_
        rintro e w1 ⟨rfl, hb1⟩
        replace hB := hB.trans (hb1.mono hB.size)
        replace hK := hK.step hb1
        clear CK x0 x1 x2 x3 k0 hRw hxw hff hb1
        go_wp2_with fail
        go_loopw [4] (fun jv wr => ∃ j : Nat, j ≤ i ∧ jv = .int .i64 (j : Int) ∧ Below w.heap.size w wr ∧ Blk wr w.heap.size 44 #[.slice (some ⟨g, o, none⟩) n d] ∧ Hid (∀ a y, a < j → L[a]? = some y → id ≠ y.id)) (fun jv _ => i - (intOf jv).toNat)
        case atStart => exact ⟨0, Nat.zero_le _, rfl, hB, hK, Lib.hid (fun a y h => by omega)⟩
        case round =>
          clear hB hK
          obtain ⟨j, hj, rfl, hB, hK, HJ⟩ := hrel
          have k0 := hK.cell' (i := 0) rfl
          by_cases h6 : j < i
          · have h6i : (j : Int) < (i : Int) := by omega
            have h6n : (j : Int) < (n : Int) := by omega
            have hj0 : (0 : Int) ≤ (j : Int) := by omega
            have hjL : j < L.length := by rw [HN.out]; omega
            obtain ⟨yA, yd, hy⟩ := ky_at hl hjL
            have HLj := Lib.hid (List.getElem?_eq_getElem hjL)
            have hRw := HRd.out.below hB
            generalize L[j] = ky at *
            obtain ⟨id2, words2, top2, seen2⟩ := ky
            obtain ⟨g', o', hgo, x0, _, _, _⟩ := hRw.cells hx
            obtain ⟨rfl, rfl⟩ : g' = g ∧ o' = o := by injection hgo with hgo; injection hgo with e1 e2; exact ⟨e1.symm, e2.symm⟩
            obtain ⟨g'', o'', hgo2, y0, _, _, _⟩ := hRw.cells hy
            obtain ⟨rfl, rfl⟩ : g'' = g' ∧ o'' = o' := by injection hgo2 with hgo2; injection hgo2 with e1 e2; exact ⟨e1.symm, e2.symm⟩
            dsimp only at x0 y0
            clear hgo hgo2
            by_cases he : id = id2
            · subst he
              obtain rfl : r = false := by
                rw [HR.out]
                refine decide_eq_false (fun k => ?_)
                have := (HI.out.1 k).2.2 j i _ _ h6 hiL HLj.out HLi.out
                exact this rfl
              go_wp2_with fail
              go_quiet (fail)
              go_wp2_with fail
              go_ret
              exact ⟨rfl, below_drewN hB _⟩
            · have heb : (id == id2) = false := by simpa using he
              have HJ2 : Hid (∀ a y, a < j + 1 → L[a]? = some y → id ≠ y.id) := Lib.hid (fun a y ha hay => by
                rcases Nat.lt_or_ge a j with h | h
                · exact HJ.out a y h hay
                · obtain rfl : a = j := by omega
                  rw [HLj.out] at hay
                  injection hay with hay
                  subst hay
                  exact he)
              go_wp2_with fail
              go_quiet (fail)
              go_wp2_with fail
              go_roundw
              case rel => exact ⟨j + 1, by omega, by go_num, below_drewN hB _, hK.drewN _, HJ2⟩
              case measure => simp [intOf]; omega
          · obtain rfl : j = i := by omega
            have HO2 := Lib.hid (okTo_succ HO.out HLi.out Hk.out HJ.out)
            go_wp2_with fail
            go_roundw
            case rel => exact ⟨j + 1, by omega, by go_num, hB, hK, HO2⟩
            case measure => simp [intOf]; omega
      · have hkd : decide (keyOk ⟨id, words, top, seen⟩) = false := decide_eq_false hk
        rw [hkd] at CK
        obtain rfl : r = false := by
          rw [HR.out]
          exact decide_eq_false (fun k => hk ((HI.out.1 k).2.1 i _ hiL HLi.out))
        clear hkd hk
        go_wp2_with fail
        refine (CK.out).mono ?_
        rintro e w1 ⟨rfl, hb1⟩
        go_wp2_with fail
        go_ret
        exact ⟨rfl, hB.trans (hb1.mono hB.size)⟩
    · have h5i : ¬ (i : Int) < (n : Int) := by omega
      obtain rfl : r = true := by
        rw [HR.out]
        refine decide_eq_true (HI.out.2 ⟨by have := HN.out; omega, ?_⟩)
        rw [HN.out]
        obtain rfl : i = n := by omega
        exact HO.out
      go_wp2_with fail
      go_ret
      exact ⟨rfl, hB⟩
end Go.Proofs.Ytkbaganbfcbioaa
