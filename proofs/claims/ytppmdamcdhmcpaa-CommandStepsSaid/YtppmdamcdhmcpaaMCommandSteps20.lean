/-
  Bits that are joined: a flag's number, a bit that is added.
-/
import Derived.Test.YtppmdamcdhmcpaaMCommandSteps16
import Derived.Test.YtppmdamcdhmcpaaMCommandSteps2
namespace Go.Proofs.Ytppmdamcdhmcpaa
set_option linter.unusedSimpArgs false
set_option linter.unusedVariables false
open Go.RowKit

theorem flag_one (b : Bool) (n : Nat) : flag b n = flag b 1 * n := by cases b <;> simp [flag]
theorem flag_le1 (b : Bool) : flag b 1 ≤ 1 := by cases b <;> simp [flag]
theorem or_lit (m : Nat) {x : Nat} {y : Int} (y' : Nat) (hy : y = (y' : Int)) (hx : x % 2 ^ m = 0) (hl : y' < 2 ^ m) (h : x + y' < 9223372036854775808) : bits .or .i64 (x : Int) y = ((x + y' : Nat) : Int) := by
  subst hy
  exact or_at m hx hl h
theorem low_succ' (a n : Nat) : a % 2 ^ (n + 1) = if a / 2 ^ n % 2 = 1 then a % 2 ^ n + 2 ^ n else a % 2 ^ n := by
  rw [Nat.pow_succ, Nat.mod_mul]
  rcases Nat.mod_two_eq_zero_or_one (a / 2 ^ n) with h | h <;> rw [h] <;> simp
/-- A bit that is not there yet is added. -/
theorem or_new (i : Nat) {x : Nat} (hi : i ≤ 40) (h : x / 2 ^ i % 2 = 0) (hx : x < 1099511627776) : bits .or .i64 (x : Int) ((2 ^ i : Nat) : Int) = ((x + 2 ^ i : Nat) : Int) := by
  have h2 : 2 ^ i ≤ 2 ^ 40 := Nat.pow_le_pow_right (by omega) hi
  have e := i64_or_nat x (2 ^ i) (by omega) (by omega)
  have e2 : x ||| 2 ^ i = x + 2 ^ i := by
    have hp : 2 ^ (i + 1) = 2 * 2 ^ i := by rw [Nat.pow_succ, Nat.mul_comm]
    have hd := Nat.div_add_mod x (2 ^ (i + 1))
    have hr : x % 2 ^ (i + 1) < 2 ^ i := by
      rw [low_succ', if_neg (by omega)]
      exact Nat.mod_lt _ (Nat.two_pow_pos i)
    generalize x / 2 ^ (i + 1) = q at *
    generalize x % 2 ^ (i + 1) = r at *
    subst hd
    rw [Nat.two_pow_add_eq_or_of_lt (by omega) q, Nat.or_assoc, Nat.or_two_pow_eq_add_of_lt hr, ← Nat.two_pow_add_eq_or_of_lt (by omega) q, ← Nat.two_pow_add_eq_or_of_lt (by omega) q]
    omega
  rw [e, e2]

set_option maxHeartbeats 1600000 in
set_option maxRecDepth 100000 in
theorem bit_any (b : Bool) (w : World) :
    Calls Try.prog 44 #[.bool b] w fun e w' => e = .returned (.int .i64 (flag b 1 : Nat)) ∧ w = w' := by
  cases b
  all_goals
    go_enter Try.func44, Try.ntmps44
    go_wp2
    go_ret
    exact ⟨rfl, rfl⟩
end Go.Proofs.Ytppmdamcdhmcpaa
namespace Go.Proofs.Ytppmdamcdhmcpaa
set_option linter.unusedSimpArgs false
set_option linter.unusedVariables false
open Go.RowKit

/-- What comes of a packing: bytes in memory of their own. -/
def BytesRes (w w' : World) (r : List UInt8 × Int) (e : Ending) : Prop :=
  ∃ A c, e = .returned (.tuple #[.slice A r.1.length c, .int .i64 r.2]) ∧ Own w' w.heap.size 5 1 A r.1.length c (bvs r.1) ∧ Below w.heap.size w w'
theorem BytesRes.none_ {w w' : World} {k : Int} (h : Below w.heap.size w w') : BytesRes w w' ([], k) (.returned (.tuple #[.slice none 0 0, .int .i64 k])) := ⟨none, 0, rfl, Own.none_ _ _ _ _, h⟩
theorem BytesRes.open_ {w w' : World} {r : List UInt8 × Int} {e : Ending} {l : List UInt8} {k : Int} (hr : r = (l, k)) (h : BytesRes w w' r e) :
    ∃ A c, e = .returned (.tuple #[.slice A l.length c, .int .i64 k]) ∧ Own w' w.heap.size 5 1 A l.length c (bvs l) ∧ Below w.heap.size w w' := by
  subst hr
  exact h
/-- Bytes that came out, in memory of their own. -/
def RowsOut (w w' : World) (r : List UInt8) (e : Ending) : Prop := ∃ A' c', e = .returned (.slice A' r.length c') ∧ Own w' w.heap.size 5 1 A' r.length c' (bvs r) ∧ Below w.heap.size w w'
end Go.Proofs.Ytppmdamcdhmcpaa
