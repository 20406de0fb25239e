/-
  Small funcs of the guards: numbers in ranges, names.
-/
import Derived.Test.YtaifogddoonabaaMonP
import Derived.Test.YtaifogddoonabaaRes
import Derived.Laws.RangeAny
namespace Go.Proofs.Ytaifogddoonabaa
set_option linter.unusedSimpArgs false
set_option linter.unusedVariables false
open Go.RowKit

theorem gin_any (n l m : Int) (w : World) :
    Calls Try.prog 35 #[.int .i64 n, .int .i64 l, .int .i64 m] w fun e w' => e = .returned (.bool (rngOk n l m)) ∧ w = w' := by
  unfold rngOk
  by_cases h0 : l ≤ n
  · by_cases h1 : n ≤ m
    · rw [decide_eq_true (⟨h0, h1⟩ : l ≤ n ∧ n ≤ m)]
      go_enter Try.func35, Try.ntmps35
      go_wp2
      go_ret
      exact ⟨rfl, rfl⟩
    · rw [decide_eq_false (fun h => h1 h.2 : ¬ (l ≤ n ∧ n ≤ m))]
      go_enter Try.func35, Try.ntmps35
      go_wp2
      go_ret
      exact ⟨rfl, rfl⟩
  · rw [decide_eq_false (fun h => h0 h.1 : ¬ (l ≤ n ∧ n ≤ m))]
    go_enter Try.func35, Try.ntmps35
    go_wp2
    go_ret
    exact ⟨rfl, rfl⟩
theorem rin_any (n l m : Int) (w : World) :
    Calls Try.prog 29 #[.int .i64 n, .int .i64 l, .int .i64 m] w fun e w' => e = .returned (.bool (rngOk n l m)) ∧ w = w' := by
  unfold rngOk
  by_cases h0 : l ≤ n
  · by_cases h1 : n ≤ m
    · rw [decide_eq_true (⟨h0, h1⟩ : l ≤ n ∧ n ≤ m)]
      go_enter Try.func29, Try.ntmps29
      go_wp2
      go_ret
      exact ⟨rfl, rfl⟩
    · rw [decide_eq_false (fun h => h1 h.2 : ¬ (l ≤ n ∧ n ≤ m))]
      go_enter Try.func29, Try.ntmps29
      go_wp2
      go_ret
      exact ⟨rfl, rfl⟩
  · rw [decide_eq_false (fun h => h0 h.1 : ¬ (l ≤ n ∧ n ≤ m))]
    go_enter Try.func29, Try.ntmps29
    go_wp2
    go_ret
    exact ⟨rfl, rfl⟩
theorem word_any (n : Int) (w : World) :
    Calls Try.prog 52 #[.int .i64 n] w fun e w' => e = .returned (.bool (n == wrap64 (wrap32 n))) ∧ w = w' := by
  go_enter Try.func52, Try.ntmps52
  go_wp2
  go_ret
  exact ⟨rfl, rfl⟩
theorem wrap_any (n : Int) (w : World) :
    Calls Try.prog 37 #[.int .i64 n] w fun e w' => e = .returned (.int .i64 (wrap64 (wrap32 n))) ∧ w = w' := by
  go_enter Try.func37, Try.ntmps37
  go_wp2
  go_ret
  exact ⟨rfl, rfl⟩
theorem great_any (v : Nat) (w : World) :
    Calls Try.prog 54 #[.int .u8 (v : Int)] w fun e w' => e = .returned (.bool (decide (65 ≤ v ∧ v ≤ 90))) ∧ w = w' := by
  by_cases h0 : 65 ≤ v
  · have i0 : (65 : Int) ≤ (v : Int) := by omega
    by_cases h1 : v ≤ 90
    · have i1 : (v : Int) ≤ 90 := by omega
      rw [decide_eq_true (⟨h0, h1⟩ : 65 ≤ v ∧ v ≤ 90)]
      go_enter Try.func54, Try.ntmps54
      go_wp2
      go_ret
      exact ⟨rfl, rfl⟩
    · have i1 : ¬ (v : Int) ≤ 90 := by omega
      rw [decide_eq_false (fun h => h1 h.2 : ¬ (65 ≤ v ∧ v ≤ 90))]
      go_enter Try.func54, Try.ntmps54
      go_wp2
      go_ret
      exact ⟨rfl, rfl⟩
  · have i0 : ¬ (65 : Int) ≤ (v : Int) := by omega
    rw [decide_eq_false (fun h => h0 h.1 : ¬ (65 ≤ v ∧ v ≤ 90))]
    go_enter Try.func54, Try.ntmps54
    go_wp2
    go_ret
    exact ⟨rfl, rfl⟩
theorem digit_any (v : Nat) (w : World) :
    Calls Try.prog 55 #[.int .u8 (v : Int)] w fun e w' => e = .returned (.bool (decide (48 ≤ v ∧ v ≤ 57))) ∧ w = w' := by
  by_cases h0 : 48 ≤ v
  · have i0 : (48 : Int) ≤ (v : Int) := by omega
    by_cases h1 : v ≤ 57
    · have i1 : (v : Int) ≤ 57 := by omega
      rw [decide_eq_true (⟨h0, h1⟩ : 48 ≤ v ∧ v ≤ 57)]
      go_enter Try.func55, Try.ntmps55
      go_wp2
      go_ret
      exact ⟨rfl, rfl⟩
    · have i1 : ¬ (v : Int) ≤ 57 := by omega
      rw [decide_eq_false (fun h => h1 h.2 : ¬ (48 ≤ v ∧ v ≤ 57))]
      go_enter Try.func55, Try.ntmps55
      go_wp2
      go_ret
      exact ⟨rfl, rfl⟩
  · have i0 : ¬ (48 : Int) ≤ (v : Int) := by omega
    rw [decide_eq_false (fun h => h0 h.1 : ¬ (48 ≤ v ∧ v ≤ 57))]
    go_enter Try.func55, Try.ntmps55
    go_wp2
    go_ret
    exact ⟨rfl, rfl⟩
theorem below_iter (w : World) (s : ByteArray) (p : Nat) : Below w.heap.size w (w.iter s p) := (Below.refl _ _).alloc (Nat.le_refl _) _
theorem word_fix (n : Int) : (n == wrap64 (wrap32 n)) = wordOk n := by
  unfold wordOk wrap64 wrap32
  rw [Bool.eq_iff_iff, beq_iff_eq, decide_eq_true_iff]
  omega
theorem chOk_v {b : UInt8} {v i : Nat} {r : Bool} (h : b.toNat = v) (e : (decide (97 ≤ v ∧ v ≤ 122) || (decide (0 < i) && (decide (48 ≤ v ∧ v ≤ 57) || decide (v = 95)))) = r) : chOk b i = r := by
  unfold chOk
  rw [h]
  exact e
theorem chOk_high {b : UInt8} {i : Nat} (h : 122 < b.toNat) : chOk b i = false := by
  unfold chOk
  rw [decide_eq_false (by omega), decide_eq_false (by omega : ¬ (48 ≤ b.toNat ∧ b.toNat ≤ 57)), decide_eq_false (by omega : ¬ b.toNat = 95)]
  simp
theorem get_bang {s : ByteArray} {pos : Nat} (h : pos < s.size) : s[pos]! = s[pos]'h := by rw [getElem!_pos s pos h]
set_option maxHeartbeats 1600000 in
theorem name_any (s : ByteArray) (w : World) :
    Calls Try.prog 36 #[.string s] w fun e w' => e = .returned (.bool (nameOk s)) ∧ Below w.heap.size w w' := by
  go_enter Try.func36, Try.ntmps36
  go_wp2_with fail
  go_loopw [3, 4] (fun _ _ wr => ∃ pos : Nat, pos ≤ s.size ∧ wr = w.iter s pos ∧ Hid (∀ j, j < pos → chOk (s[j]!) j = true)) (fun _ _ wr => s.size - wr.iterPos w.heap.size)
  case atStart => exact ⟨0, Nat.zero_le _, rfl, Lib.hid (fun j hj => by omega)⟩
  case round =>
    obtain ⟨pos, hp0, rfl, HF⟩ := hrel
    by_cases hp : pos < s.size
    · obtain ⟨b, hb⟩ : ∃ b, s[pos]! = b := ⟨_, rfl⟩
      have hbe : s[pos]'hp = b := by rw [← get_bang hp]; exact hb
      obtain ⟨v, nx, hnx, hv1, hv2⟩ : ∃ (v nx : Nat), (∀ ty, (Instr.next (.pointer (some ⟨w.heap.size, 0, none⟩)) true ty).run Try.prog (w.iter s pos) = .ok (.tuple #[.bool true, .int .i64 pos, .int .i32 (v : Int)]) (w.iter s nx)) ∧ (v ≤ 122 → b.toNat = v ∧ nx = pos + 1) ∧ (122 < v → 122 < b.toNat) := by
        by_cases ha : b.toNat < 128
        · exact ⟨b.toNat, pos + 1, fun ty => by rw [run_next_ascii w s pos ty hp (by rw [hbe]; exact ha), hbe], fun _ => ⟨rfl, rfl⟩, fun h => h⟩
        · have hd := decode_high s pos hp (by rw [hbe]; omega)
          exact ⟨(Utf8.decode s pos).1, pos + (Utf8.decode s pos).2, fun ty => run_next_any w s pos ty hp, fun h => by omega, fun _ => by omega⟩
      clear hbe
      by_cases l2 : v ≤ 122
      · obtain ⟨hbv, rfl⟩ := hv1 l2
        clear hv1 hv2
        have i2 : (v : Int) ≤ 122 := by omega
        by_cases l1 : 97 ≤ v
        · have i1 : (97 : Int) ≤ (v : Int) := by omega
          have e : chOk b pos = true := chOk_v hbv (by rw [decide_eq_true (⟨l1, l2⟩ : 97 ≤ v ∧ v ≤ 122)]; rfl)
          go_wp2_with fail
          go_roundw
          case rel => exact ⟨pos + 1, by omega, rfl, Lib.hid (fun j hj => by
            rcases Nat.lt_or_ge j pos with h | h
            · exact HF.out j h
            · obtain rfl : j = pos := by omega
              rw [hb]; exact e)⟩
          case measure => simp; omega
        · have i1 : ¬ (97 : Int) ≤ (v : Int) := by omega
          by_cases p0 : 0 < pos
          · have ip : (0 : Int) < (pos : Int) := by omega
            by_cases l3 : 48 ≤ v
            · have i3 : (48 : Int) ≤ (v : Int) := by omega
              by_cases l4 : v ≤ 57
              · have i4 : (v : Int) ≤ 57 := by omega
                have e : chOk b pos = true := chOk_v hbv (by rw [decide_eq_false (by omega), decide_eq_true p0, decide_eq_true (⟨l3, l4⟩ : 48 ≤ v ∧ v ≤ 57)]; rfl)
                go_wp2_with fail
                go_roundw
                case rel => exact ⟨pos + 1, by omega, rfl, Lib.hid (fun j hj => by
                  rcases Nat.lt_or_ge j pos with h | h
                  · exact HF.out j h
                  · obtain rfl : j = pos := by omega
                    rw [hb]; exact e)⟩
                case measure => simp; omega
              · have i4 : ¬ (v : Int) ≤ 57 := by omega
                by_cases l5 : v = 95
                · subst l5
                  have e : chOk b pos = true := chOk_v hbv (by rw [decide_eq_true p0]; rfl)
                  go_wp2_with fail
                  go_roundw
                  case rel => exact ⟨pos + 1, by omega, rfl, Lib.hid (fun j hj => by
                    rcases Nat.lt_or_ge j pos with h | h
                    · exact HF.out j h
                    · obtain rfl : j = pos := by omega
                      rw [hb]; exact e)⟩
                  case measure => simp; omega
                · have i5 : ((v : Int) == 95) = false := by rw [beq_eq_false_iff_ne]; omega
                  have e : chOk b pos = false := chOk_v hbv (by rw [decide_eq_false (by omega), decide_eq_false (by omega : ¬ (48 ≤ v ∧ v ≤ 57)), decide_eq_false l5]; simp)
                  go_wp2_with fail
                  go_ret
                  exact ⟨by rw [nameOk_no hp (by rw [hb]; exact e)]; rfl, below_iter _ _ _⟩
            · have i3 : ¬ (48 : Int) ≤ (v : Int) := by omega
              have i5 : ((v : Int) == 95) = false := by rw [beq_eq_false_iff_ne]; omega
              have e : chOk b pos = false := chOk_v hbv (by rw [decide_eq_false (by omega), decide_eq_false (by omega : ¬ (48 ≤ v ∧ v ≤ 57)), decide_eq_false (by omega : ¬ v = 95)]; simp)
              go_wp2_with fail
              go_ret
              exact ⟨by rw [nameOk_no hp (by rw [hb]; exact e)]; rfl, below_iter _ _ _⟩
          · have ip : ¬ (0 : Int) < (pos : Int) := by omega
            have e : chOk b pos = false := chOk_v hbv (by rw [decide_eq_false (by omega), decide_eq_false p0]; rfl)
            go_wp2_with fail
            go_ret
            exact ⟨by rw [nameOk_no hp (by rw [hb]; exact e)]; rfl, below_iter _ _ _⟩
      · have hbv := hv2 (by omega)
        clear hv1 hv2
        have i2 : ¬ (v : Int) ≤ 122 := by omega
        have i1 : (97 : Int) ≤ (v : Int) := by omega
        have e : chOk b pos = false := chOk_high hbv
        by_cases p0 : 0 < pos
        · have ip : (0 : Int) < (pos : Int) := by omega
          have i3 : (48 : Int) ≤ (v : Int) := by omega
          have i4 : ¬ (v : Int) ≤ 57 := by omega
          have i5 : ((v : Int) == 95) = false := by rw [beq_eq_false_iff_ne]; omega
          go_wp2_with fail
          go_ret
          exact ⟨by rw [nameOk_no hp (by rw [hb]; exact e)]; rfl, below_iter _ _ _⟩
        · have ip : ¬ (0 : Int) < (pos : Int) := by omega
          go_wp2_with fail
          go_ret
          exact ⟨by rw [nameOk_no hp (by rw [hb]; exact e)]; rfl, below_iter _ _ _⟩
    · obtain rfl : pos = s.size := by omega
      have hnx : ∀ ty, (Instr.next (.pointer (some ⟨w.heap.size, 0, none⟩)) true ty).run Try.prog (w.iter s s.size) = _ := fun ty => run_next_end w s s.size ty hp
      have hN := nameOk_long HF.out
      by_cases h16 : s.size ≤ 16
      · have i16 : (s.size : Int) ≤ 16 := by omega
        rw [decide_eq_true h16] at hN
        go_wp2_with fail
        go_ret
        exact ⟨by first | (rw [hN]; rfl) | rfl, below_iter _ _ _⟩
      · have i16 : ¬ (s.size : Int) ≤ 16 := by omega
        rw [decide_eq_false h16] at hN
        go_wp2_with fail
        go_ret
        exact ⟨by first | (rw [hN]; rfl) | rfl, below_iter _ _ _⟩
theorem letter_any (v : Nat) (w : World) :
    Calls Try.prog 53 #[.int .u8 (v : Int)] w fun e w' => e = .returned (.bool (decide (65 ≤ v ∧ v ≤ 90) || decide (97 ≤ v ∧ v ≤ 122))) ∧ w = w' := by
  have CG := great_any v w
  by_cases h : 65 ≤ v ∧ v ≤ 90
  · rw [decide_eq_true h] at CG ⊢
    go_enter Try.func53, Try.ntmps53
    go_wp2_with fail
    refine CG.mono ?_
    rintro e w1 ⟨rfl, rfl⟩
    go_wp2_with fail
    go_ret
    exact ⟨rfl, rfl⟩
  · rw [decide_eq_false h] at CG ⊢
    by_cases h0 : 97 ≤ v
    · have i0 : (97 : Int) ≤ (v : Int) := by omega
      by_cases h1 : v ≤ 122
      · have i1 : (v : Int) ≤ 122 := by omega
        rw [decide_eq_true (⟨h0, h1⟩ : 97 ≤ v ∧ v ≤ 122)]
        go_enter Try.func53, Try.ntmps53
        go_wp2_with fail
        refine CG.mono ?_
        rintro e w1 ⟨rfl, rfl⟩
        go_wp2_with fail
        go_ret
        exact ⟨rfl, rfl⟩
      · have i1 : ¬ (v : Int) ≤ 122 := by omega
        rw [decide_eq_false (fun h => h1 h.2 : ¬ (97 ≤ v ∧ v ≤ 122))]
        go_enter Try.func53, Try.ntmps53
        go_wp2_with fail
        refine CG.mono ?_
        rintro e w1 ⟨rfl, rfl⟩
        go_wp2_with fail
        go_ret
        exact ⟨ret_bool (by simp; omega), rfl⟩
    · have i0 : ¬ (97 : Int) ≤ (v : Int) := by omega
      rw [decide_eq_false (fun h => h0 h.1 : ¬ (97 ≤ v ∧ v ≤ 122))]
      go_enter Try.func53, Try.ntmps53
      go_wp2_with fail
      refine CG.mono ?_
      rintro e w1 ⟨rfl, rfl⟩
      go_wp2_with fail
      go_ret
      exact ⟨rfl, rfl⟩
theorem great_is (v : Nat) (r : Bool) (w : World) (h : Hid (decide (65 ≤ v ∧ v ≤ 90) = r)) : Calls Try.prog 54 #[.int .u8 (v : Int)] w fun e w' => e = .returned (.bool r) ∧ w = w' := by
  have := great_any v w
  rw [h.out] at this
  exact this
theorem digit_is (v : Nat) (r : Bool) (w : World) (h : Hid (decide (48 ≤ v ∧ v ≤ 57) = r)) : Calls Try.prog 55 #[.int .u8 (v : Int)] w fun e w' => e = .returned (.bool r) ∧ w = w' := by
  have := digit_any v w
  rw [h.out] at this
  exact this
theorem letter_is (v : Nat) (r : Bool) (w : World) (h : Hid ((decide (65 ≤ v ∧ v ≤ 90) || decide (97 ≤ v ∧ v ≤ 122)) = r)) : Calls Try.prog 53 #[.int .u8 (v : Int)] w fun e w' => e = .returned (.bool r) ∧ w = w' := by
  have := letter_any v w
  rw [h.out] at this
  exact this
/-- By the document: the first is a letter, and not a great one; no great ones. -/
def rnameOk (s : ByteArray) : Bool := decide (0 < s.size) && nameOk s
set_option maxHeartbeats 3200000 in
theorem nameMay_any (s : ByteArray) (w : World) :
    Calls Try.prog 38 #[.string s] w fun e w' => e = .returned (.bool (rnameOk s)) ∧ w = w' := by
  by_cases z : s.size = 0
  · have iz : ((s.size : Int) == 0) = true := by rw [beq_iff_eq]; omega
    have hr : rnameOk s = false := by unfold rnameOk; rw [decide_eq_false (by omega)]; rfl
    rw [hr]
    clear hr z
    go_enter Try.func38, Try.ntmps38
    go_wp2_with fail
    go_ret
    exact ⟨rfl, rfl⟩
  have iz : ((s.size : Int) == 0) = false := by rw [beq_eq_false_iff_ne]; omega
  by_cases h16 : s.size ≤ 16
  rotate_left
  · have i16 : (16 : Int) < (s.size : Int) := by omega
    have hr : rnameOk s = false := by unfold rnameOk nameOk; rw [decide_eq_false h16]; simp
    rw [hr]
    clear hr z h16
    go_enter Try.func38, Try.ntmps38
    go_wp2_with fail
    go_ret
    exact ⟨rfl, rfl⟩
  have i16 : ¬ (16 : Int) < (s.size : Int) := by omega
  have hp : 0 < s.size := by omega
  obtain ⟨b, hb⟩ : ∃ b, s[0]! = b := ⟨_, rfl⟩
  obtain ⟨v0, hvb⟩ : ∃ v0, b.toNat = v0 := ⟨_, rfl⟩
  have hbe : (s[0]'hp).toNat = v0 := by rw [← get_bang hp, hb]; exact hvb
  by_cases hL : (65 ≤ v0 ∧ v0 ≤ 90) ∨ (97 ≤ v0 ∧ v0 ≤ 122)
  rotate_left
  · have rl := letter_is v0 false w (Lib.hid (by rw [decide_eq_false (fun h => hL (.inl h)), decide_eq_false (fun h => hL (.inr h))]; rfl))
    have hr : rnameOk s = false := by
      unfold rnameOk
      rw [nameOk_no hp (by rw [hb]; exact chOk_v hvb (by rw [decide_eq_false (fun h => hL (.inr h))]; rfl)), Bool.and_false]
    rw [hr]
    clear hr hL hb hvb
    go_enter Try.func38, Try.ntmps38
    go_wp2_with fail
    refine rl.mono ?_
    rintro e w1 ⟨rfl, rfl⟩
    go_wp2_with fail
    go_ret
    exact ⟨rfl, rfl⟩
  have rl := letter_is v0 true w (Lib.hid (by rcases hL with h | h <;> simp [h]))
  have HL := Lib.hid hL
  have HB := Lib.hid hb
  have HVB := Lib.hid hvb
  clear hL hb hvb
  go_enter Try.func38, Try.ntmps38
  go_wp2_with fail
  refine rl.mono ?_
  rintro e w1 ⟨rfl, rfl⟩
  clear rl
  go_wp2_with fail
  clear hbe z iz i16
  go_loopw [3] (fun iv wr => ∃ i : Nat, i ≤ s.size ∧ iv = .int .i64 (i : Int) ∧ wr = w ∧ Hid (∀ j, j < i → chOk (s[j]!) j = true)) (fun iv _ => s.size - (intOf iv).toNat)
  case atStart => exact ⟨0, Nat.zero_le _, rfl, rfl, Lib.hid (fun j hj => by omega)⟩
  case round =>
    obtain ⟨i, hi, rfl, rfl, HF⟩ := hrel
    by_cases h5 : i < s.size
    · have h5i : (i : Int) < (s.size : Int) := by omega
      have hi0 : (0 : Int) ≤ (i : Int) := by omega
      obtain ⟨b', hb'⟩ : ∃ b', s[i]! = b' := ⟨_, rfl⟩
      have hv : i = 0 → b' = b := fun h => by rw [← hb', h]; exact HB.out
      obtain ⟨v, hvv⟩ : ∃ v, b'.toNat = v := ⟨_, rfl⟩
      have hbe : (s[i]'h5).toNat = v := by rw [← get_bang h5, hb']; exact hvv
      have HV := Lib.hid hvv
      by_cases g : 65 ≤ v ∧ v ≤ 90
      · have rg := great_is v true wr (Lib.hid (decide_eq_true g))
        have e : chOk b' i = false := chOk_v hvv (by rw [decide_eq_false (by omega), decide_eq_false (by omega : ¬ (48 ≤ v ∧ v ≤ 57)), decide_eq_false (by omega : ¬ v = 95)]; simp)
        have hr : rnameOk s = false := by unfold rnameOk; rw [nameOk_no h5 (by rw [hb']; exact e), Bool.and_false]
        have HR := Lib.hid hr
        clear hr e g hv hb' hvv
        go_wp2_with (first
          | (go_at_call 54; refine rg.mono ?_; rintro e w' ⟨rfl, rfl⟩)
          | (go_at_call 53; refine rl.mono ?_; rintro e w' ⟨rfl, rfl⟩)
          | (go_at_call 55; refine rd.mono ?_; rintro e w' ⟨rfl, rfl⟩))
        go_ret
        exact ⟨by rw [HR.out]; rfl, rfl⟩
      have rg := great_is v false wr (Lib.hid (decide_eq_false g))
      have hpos : ¬ (97 ≤ v ∧ v ≤ 122) → 0 < i := fun h => by
        rcases Nat.eq_zero_or_pos i with h0 | h0
        · have h2 : v = v0 := by rw [← hvv, hv h0]; exact HVB.out
          have h3 := HL.out
          rw [← h2] at h3
          rcases h3 with h1 | h1
          · exact absurd h1 g
          · exact absurd h1 h
        · exact h0
      by_cases l : 97 ≤ v ∧ v ≤ 122
      · have rl := letter_is v true wr (Lib.hid (by rw [decide_eq_true l]; simp))
        have e : chOk b' i = true := chOk_v hvv (by rw [decide_eq_true l]; rfl)
        have HF2 : Hid (∀ j, j < i + 1 → chOk (s[j]!) j = true) := Lib.hid (fun j hj => by
          rcases Nat.lt_or_ge j i with h | h
          · exact HF.out j h
          · obtain rfl : j = i := by omega
            rw [hb']; exact e)
        clear e g l hv hpos hb' hvv HF
        go_wp2_with (first
          | (go_at_call 54; refine rg.mono ?_; rintro e w' ⟨rfl, rfl⟩)
          | (go_at_call 53; refine rl.mono ?_; rintro e w' ⟨rfl, rfl⟩)
          | (go_at_call 55; refine rd.mono ?_; rintro e w' ⟨rfl, rfl⟩))
        go_roundw
        case rel => exact ⟨i + 1, by omega, by go_num, by trivial, HF2⟩
        case measure => simp [intOf]; omega
      have rl := letter_is v false wr (Lib.hid (by rw [decide_eq_false l, decide_eq_false g]; rfl))
      have hp0 := hpos l
      by_cases d : 48 ≤ v ∧ v ≤ 57
      · have rd := digit_is v true wr (Lib.hid (decide_eq_true d))
        have e : chOk b' i = true := chOk_v hvv (by rw [decide_eq_true hp0, decide_eq_true d]; simp)
        have HF2 : Hid (∀ j, j < i + 1 → chOk (s[j]!) j = true) := Lib.hid (fun j hj => by
          rcases Nat.lt_or_ge j i with h | h
          · exact HF.out j h
          · obtain rfl : j = i := by omega
            rw [hb']; exact e)
        clear e g l d hv hpos hb' hvv HF hp0
        go_wp2_with (first
          | (go_at_call 54; refine rg.mono ?_; rintro e w' ⟨rfl, rfl⟩)
          | (go_at_call 53; refine rl.mono ?_; rintro e w' ⟨rfl, rfl⟩)
          | (go_at_call 55; refine rd.mono ?_; rintro e w' ⟨rfl, rfl⟩))
        go_roundw
        case rel => exact ⟨i + 1, by omega, by go_num, by trivial, HF2⟩
        case measure => simp [intOf]; omega
      have rd := digit_is v false wr (Lib.hid (decide_eq_false d))
      by_cases u : v = 95
      · have iu : ((v : Int) != 95) = false := by rw [bne_eq_false_iff_eq]; omega
        have e : chOk b' i = true := chOk_v hvv (by rw [decide_eq_true hp0, decide_eq_true u]; simp)
        have HF2 : Hid (∀ j, j < i + 1 → chOk (s[j]!) j = true) := Lib.hid (fun j hj => by
          rcases Nat.lt_or_ge j i with h | h
          · exact HF.out j h
          · obtain rfl : j = i := by omega
            rw [hb']; exact e)
        clear e g l d u hv hpos hb' hvv HF hp0
        go_wp2_with (first
          | (go_at_call 54; refine rg.mono ?_; rintro e w' ⟨rfl, rfl⟩)
          | (go_at_call 53; refine rl.mono ?_; rintro e w' ⟨rfl, rfl⟩)
          | (go_at_call 55; refine rd.mono ?_; rintro e w' ⟨rfl, rfl⟩))
        go_roundw
        case rel => exact ⟨i + 1, by omega, by go_num, by trivial, HF2⟩
        case measure => simp [intOf]; omega
      · have iu : ((v : Int) != 95) = true := by rw [bne_iff_ne]; omega
        have e : chOk b' i = false := chOk_v hvv (by rw [decide_eq_false l, decide_eq_false d, decide_eq_false u]; simp)
        have hr : rnameOk s = false := by unfold rnameOk; rw [nameOk_no h5 (by rw [hb']; exact e), Bool.and_false]
        have HR := Lib.hid hr
        clear hr e g l d u hv hpos hb' hvv HF hp0
        go_wp2_with (first
          | (go_at_call 54; refine rg.mono ?_; rintro e w' ⟨rfl, rfl⟩)
          | (go_at_call 53; refine rl.mono ?_; rintro e w' ⟨rfl, rfl⟩)
          | (go_at_call 55; refine rd.mono ?_; rintro e w' ⟨rfl, rfl⟩))
        go_ret
        exact ⟨by rw [HR.out]; rfl, rfl⟩
    · obtain rfl : i = s.size := by omega
      have h5i : ¬ (s.size : Int) < (s.size : Int) := by omega
      have hr : rnameOk s = true := by unfold rnameOk; rw [nameOk_long HF.out, decide_eq_true hp, decide_eq_true h16]; rfl
      have HR := Lib.hid hr
      clear hr HF
      go_wp2_with fail
      go_ret
      exact ⟨by rw [HR.out]; rfl, rfl⟩
end Go.Proofs.Ytaifogddoonabaa
