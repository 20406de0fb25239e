import Derived.Test.YtolcaolmdfbfhaaSame
import Derived.Test.YtolcaolmdfbfhaaUnpP
namespace Go.Proofs.Ytolcaolmdfbfhaa
set_option linter.unusedSimpArgs false
set_option linter.unusedVariables false
open Go.RowKit

theorem numFrom_lt (l : List UInt8) : ∀ (s m : Nat), s < m → l.foldl (fun n x => n * 256 + x.toNat) s < m * 256 ^ l.length := by
  induction l with
  | nil => intro s m h; simpa using h
  | cons x l ih =>
    intro s m h
    have hx := x.toNat_lt
    have := ih (s * 256 + x.toNat) (m * 256) (by omega)
    rw [List.foldl_cons, List.length_cons, Nat.pow_succ, Nat.mul_comm (256 ^ l.length) 256, ← Nat.mul_assoc]
    exact this
theorem numOf_lt (l : List UInt8) : numOf l < 256 ^ l.length := by
  have := numFrom_lt l 0 1 (by omega)
  unfold numOf
  simpa using this
theorem numOf_small {l : List UInt8} (h : l.length ≤ 6) : numOf l < 281474976710656 := by
  refine Nat.lt_of_lt_of_le (numOf_lt l) ?_
  calc 256 ^ l.length ≤ 256 ^ 6 := Nat.pow_le_pow_right (by omega) h
    _ = 281474976710656 := by decide
theorem numOf_take {l : List UInt8} {k : Nat} (h : k < l.length) : numOf (l.take (k + 1)) = numOf (l.take k) * 256 + l[k].toNat := by
  unfold numOf
  rw [List.take_succ_eq_append_getElem h, List.foldl_append]
  rfl
theorem num_or {n : Nat} (h : n < 281474976710656) (x : UInt8) : bits .or .i64 ((n : Int) * 256) (x.toNat : Int) = ((n * 256 + x.toNat : Nat) : Int) := by
  have hx := x.toNat_lt
  have e := i64_or_nat (n * 256) x.toNat (by omega) (by omega)
  rw [nat_join 8 _ _ (by omega) (by omega)] at e
  rw [← e]
  simp

set_option maxHeartbeats 1600000 in
set_option maxRecDepth 100000 in
theorem number_any (A : Option Addr) (l : List UInt8) (n c : Nat) (w : World) (hl : l.length = n) (ha : Rd w A (bvs l)) (hn : n ≤ 6) :
    Calls Try.prog 63 #[.slice A n c] w fun e w' => e = .returned (.int .i64 (numOf l : Nat)) ∧ w = w' := by
  subst hl
  go_enter Try.func63, Try.ntmps63
  go_wp2_with fail
  go_loop [2, 7] (fun s i => ∃ k : Nat, k ≤ l.length ∧ i = .int .i64 k ∧ s = .int .i64 (numOf (l.take k) : Nat)) (fun _ i => l.length - (intOf i).toNat)
  case atStart => exact ⟨0, by omega, by simp, by simp [numOf]⟩
  case round =>
    obtain ⟨k, hk, rfl, rfl⟩ := hrel
    by_cases h5 : k < l.length
    · obtain ⟨b, off, rfl, hc⟩ := ha.byte h5
      have Hs := Lib.hid (numOf_take h5)
      have hlt := numOf_small (l := l.take k) (by simp; omega)
      generalize numOf (l.take k) = s at *
      generalize l[k] = x at *
      have hx256 := byte_lt x
      go_wp2
      go_round
      case rel => exact ⟨k + 1, by omega, by go_num, by rw [Hs.out, num_or hlt]⟩
      case measure => simp [intOf]; omega
    · obtain rfl : k = l.length := by omega
      go_wp2
      go_ret
      exact ⟨ret_int (by simp), rfl⟩
end Go.Proofs.Ytolcaolmdfbfhaa
