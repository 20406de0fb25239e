/-
  The convolutional code, plainly. No program is named here. keys.once: a counter is let in. What comes of opening: plainly.
-/
import Derived.Test.YtkbaganbfcbioaaMKeysOpens1
import Derived.Test.YtkbaganbfcbioaaMKeysOpens12
import Derived.Test.YtkbaganbfcbioaaMKeysOpens9
import Derived.Test.YtkbaganbfcbioaaMKeysOpens7
import Derived.StillTail
import Derived.StillTactics
import Derived.StillTailTactics
import Derived.Test.YtkbaganbfcbioaaMKeysOpens6
import Derived.Test.YtkbaganbfcbioaaMKeysOpens2
import Derived.Test.YtkbaganbfcbioaaMKeysOpens11
namespace Go.Proofs.Ytkbaganbfcbioaa
set_option linter.unusedSimpArgs false
set_option linter.unusedVariables false
open Go.RowKit

def bitI (l : List UInt8) (i : Nat) : Nat := (l.getD i 0).toNat
def stN (l : List UInt8) : Nat → Nat
  | 0 => 0
  | k + 1 => (stN l k * 2 + bitI l k) % 64
def symA (b : Nat) : Nat := (b + b / 2 + b / 4 + b / 8 + b / 64) % 2
def symB (b : Nat) : Nat := (1 + b + b / 4 + b / 8 + b / 32 + b / 64) % 2
def pats : Nat → Bool → List Bool
  | 2, false => [true, false]
  | 2, true => [true, true]
  | 3, false => [true, false, true]
  | 3, true => [true, true, false]
  | 4, false => [true, false, true, false, true]
  | 4, true => [true, true, false, true, false]
  | 5, false => [true, false, false, false, true, false, true]
  | 5, true => [true, true, true, true, false, true, false]
  | _, _ => [true]
def keptP (r i : Nat) (s : Bool) : Bool := (pats r s).getD (i % (pats r s).length) false
def outAt (l : List UInt8) (r k : Nat) : List UInt8 :=
  (if keptP r k false then [UInt8.ofNat (symA (stN l k * 2 + bitI l k))] else []) ++ (if keptP r k true then [UInt8.ofNat (symB (stN l k * 2 + bitI l k))] else [])
def sprN (l : List UInt8) (r : Nat) : Nat → List UInt8
  | 0 => []
  | k + 1 => sprN l r k ++ outAt l r k
def bitsOnly (l : List UInt8) : Prop := ∀ x ∈ l, x.toNat ≤ 1
instance (l : List UInt8) : Decidable (bitsOnly l) := by unfold bitsOnly; infer_instance
/-- What comes of bits, and the error. -/
def spread (l : List UInt8) (r : Int) : List UInt8 × Int :=
  if 1 ≤ r ∧ r ≤ 5 then if l.length ≤ 16384 then if bitsOnly l then (sprN l r.toNat (l.length + 6), 0) else ([], 2) else ([], 1) else ([], 6)
theorem stN_succ (l : List UInt8) (k : Nat) : stN l (k + 1) = (stN l k * 2 + bitI l k) % 64 := rfl
theorem sprN_succ (l : List UInt8) (r k : Nat) : sprN l r (k + 1) = sprN l r k ++ outAt l r k := rfl
theorem stN_lt (l : List UInt8) (k : Nat) : stN l k < 64 := by
  cases k with
  | zero => simp [stN]
  | succ k => rw [stN_succ]; omega
theorem sprN_len (l : List UInt8) (r k : Nat) : (sprN l r k).length ≤ 2 * k := by
  induction k with
  | zero => simp [sprN]
  | succ k ih =>
    rw [sprN_succ, List.length_append]
    unfold outAt
    split <;> split <;> simp <;> omega
theorem spread_len (l : List UInt8) (r : Int) : (spread l r).1.length ≤ 65542 := by
  unfold spread
  split
  · split
    · split
      · have := sprN_len l r.toNat (l.length + 6)
        simp only
        omega
      · simp
    · simp
  · simp
theorem bitI_lt {l : List UInt8} (h : bitsOnly l) (k : Nat) : bitI l k ≤ 1 := by
  unfold bitI
  by_cases hk : k < l.length
  · rw [List.getD_eq_getElem?_getD, List.getElem?_eq_getElem hk]
    exact h _ (List.getElem_mem hk)
  · rw [List.getD_eq_getElem?_getD, List.getElem?_eq_none (by omega)]
    simp
theorem bitI_end {l : List UInt8} {k : Nat} (h : l.length ≤ k) : bitI l k = 0 := by
  unfold bitI
  rw [List.getD_eq_getElem?_getD, List.getElem?_eq_none h]
  rfl
theorem symA_lt (b : Nat) : symA b < 2 := Nat.mod_lt _ (by omega)
theorem symB_lt (b : Nat) : symB b < 2 := Nat.mod_lt _ (by omega)
theorem bv_small {a : Nat} (h : a < 2) : bv (UInt8.ofNat a) = .int .u8 (a : Int) := by
  unfold bv
  have : (UInt8.ofNat a).toNat = a := by simp; omega
  rw [this]
theorem sym_one_all : ∀ b : Fin 128, bits .and .i64 (bits .xor .i64 (bits .xor .i64 (bits .xor .i64 (bits .xor .i64 ((b.val : Nat) : Int) (((b.val : Nat) : Int) / 2)) (((b.val : Nat) : Int) / 4)) (((b.val : Nat) : Int) / 8)) (((b.val : Nat) : Int) / 64)) 1 = ((symA b.val : Nat) : Int) := by decide +kernel
theorem sym_two_all : ∀ b : Fin 128, bits .and .i64 (bits .xor .i64 (bits .xor .i64 (bits .xor .i64 (bits .xor .i64 (bits .xor .i64 1 ((b.val : Nat) : Int)) (((b.val : Nat) : Int) / 4)) (((b.val : Nat) : Int) / 8)) (((b.val : Nat) : Int) / 32)) (((b.val : Nat) : Int) / 64)) 1 = ((symB b.val : Nat) : Int) := by decide +kernel
theorem join_bit {s b : Nat} (hb : b ≤ 1) (hs : s < 64) : bits .or .i64 ((s : Int) * 2) (b : Int) = ((s * 2 + b : Nat) : Int) := by
  rw [show ((s : Int) * 2) = ((s * 2 : Nat) : Int) from by omega, or_at 1 (by omega) (by omega) (by omega)]
theorem u64_and_nat (a b : Nat) (ha : a < 18446744073709551616) (hb : b < 18446744073709551616) : bits .and .u64 (a : Int) (b : Int) = ((a &&& b : Nat) : Int) := by
  have hx : a &&& b ≤ a := Nat.and_le_left
  show IntKind.u64.wrap ((BitVec.ofInt 64 (a : Int) &&& BitVec.ofInt 64 (b : Int)).toNat : Int) = _
  have h1 : (BitVec.ofInt 64 (a : Int)).toNat = a := by rw [BitVec.toNat_ofInt]; omega
  have h2 : (BitVec.ofInt 64 (b : Int)).toNat = b := by rw [BitVec.toNat_ofInt]; omega
  rw [BitVec.toNat_and, h1, h2]
  exact IntWalk.u64_in _ (by omega)
/-- Ones of a number of seven bits, as the library counts them. -/
def pop1 (x : Nat) : Nat := (x / 2 &&& 6148914691236517205) + (x &&& 6148914691236517205)
def pop2 (x : Nat) : Nat := (x / 4 &&& 3689348814741910323) + (x &&& 3689348814741910323)
def pop3 (x : Nat) : Nat := (x / 16 + x) &&& 1085102592571150095
def popN (x : Nat) : Nat := pop3 (pop2 (pop1 x))
theorem pop_all : ∀ b : Fin 128, pop1 b.val < 128 ∧ pop2 (pop1 b.val) < 128 ∧ popN b.val < 8 ∧ popN (b.val &&& 79) % 2 = symA b.val ∧ popN (b.val &&& 109) % 2 = 1 - symB b.val := by decide +kernel
end Go.Proofs.Ytkbaganbfcbioaa
namespace Go.Proofs.Ytkbaganbfcbioaa
set_option linter.unusedSimpArgs false
set_option linter.unusedVariables false
open Go.RowKit

/-- Is a counter old: it was, or is too far below. -/
def oldC (s : Nat) (top : Int) (C : Nat) : Prop := 0 ≤ top - C ∧ (top = C ∨ 62 < top - C ∨ s / 2 ^ (top - C - 1).toNat % 2 = 1)
def nextSeen (s : Nat) (top : Int) (C : Nat) : Nat := if 0 < top - C then s ||| 2 ^ (top - C - 1).toNat else if top < 0 then 0 else upSeen s (C - top).toNat
def nextTop (top : Int) (C : Nat) : Int := if 0 < top - C then top else C
theorem u64_or_nat' (a b : Nat) (ha : a < 18446744073709551616) (hb : b < 18446744073709551616) : bits .or .u64 (a : Int) (b : Int) = ((a ||| b : Nat) : Int) := by
  have hx : a ||| b < 2 ^ 64 := Nat.or_lt_two_pow (by omega) (by omega)
  show IntKind.u64.wrap ((BitVec.ofInt 64 (a : Int) ||| BitVec.ofInt 64 (b : Int)).toNat : Int) = _
  rw [IntKind.wrap_u64, BitVec.toNat_or, BitVec.toNat_ofInt, BitVec.toNat_ofInt]
  have e1 : ((a : Int) % ((2 ^ 64 : Nat) : Int)).toNat = a := by omega
  have e2 : ((b : Int) % ((2 ^ 64 : Nat) : Int)).toNat = b := by omega
  rw [e1, e2]
  omega
theorem up_bits (s up : Nat) (hu : 1 ≤ up) (hu2 : up ≤ 62) (hs : s < 4611686018427387904) :
    wrap64 (bits .and .u64 (bits .or .u64 (IntKind.u64.wrap ((s : Int) * 2 ^ up)) (IntKind.u64.wrap (2 ^ (up - 1)))) 4611686018427387903) = ((upSeen s up : Nat) : Int) := by
  have hlt : 2 ^ (up - 1) < 2 ^ up := Nat.pow_lt_pow_right (by decide) (by omega)
  have hb62 : 2 ^ (up - 1) < 2 ^ 62 := Nat.pow_lt_pow_right (by decide) (by omega)
  have e1 : IntKind.u64.wrap ((s : Int) * 2 ^ up) = (((2 ^ up * s) % 2 ^ 64 : Nat) : Int) := by
    rw [IntKind.wrap_u64, show (s : Int) * 2 ^ up = ((2 ^ up * s : Nat) : Int) by rw [Nat.mul_comm]; simp]
    have key : ∀ z : Nat, (z : Int) % 18446744073709551616 = ((z % 2 ^ 64 : Nat) : Int) := fun z => by omega
    exact key _
  have e2 : IntKind.u64.wrap (2 ^ (up - 1)) = ((2 ^ (up - 1) : Nat) : Int) := by
    rw [IntKind.wrap_u64, show ((2 : Int) ^ (up - 1)) = ((2 ^ (up - 1) : Nat) : Int) by simp]
    have key : ∀ z : Nat, z < 2 ^ 62 → (z : Int) % 18446744073709551616 = (z : Int) := fun z hz => by omega
    exact key _ hb62
  have ha : (2 ^ up * s) % 2 ^ 64 < 18446744073709551616 := Nat.mod_lt _ (by decide)
  have hor : (2 ^ up * s) % 2 ^ 64 ||| 2 ^ (up - 1) < 18446744073709551616 := Nat.or_lt_two_pow (n := 64) ha (by omega)
  rw [e1, e2, u64_or_nat' _ _ ha (by omega), show (4611686018427387903 : Int) = ((4611686018427387903 : Nat) : Int) from rfl, u64_and_nat _ _ hor (by omega),
    show (4611686018427387903 : Nat) = 2 ^ 62 - 1 from rfl, Nat.and_two_pow_sub_one_eq_mod]
  have e3 : ((2 ^ up * s) % 2 ^ 64 ||| 2 ^ (up - 1)) % 2 ^ 62 = upSeen s up := by
    unfold upSeen
    rw [Nat.two_pow_add_eq_or_of_lt hlt s]
    apply Nat.eq_of_testBit_eq
    intro i
    rw [Nat.testBit_mod_two_pow, Nat.testBit_mod_two_pow, Nat.testBit_or, Nat.testBit_or, Nat.testBit_mod_two_pow]
    by_cases h : i < 62
    · simp [h, show i < 64 by omega]
    · simp [h]
  rw [e3]
  have := upSeen_lt s up
  exact IntWalk.wrap64_in _ (by omega)
set_option maxHeartbeats 3200000 in
set_option maxRecDepth 100000 in
theorem once_up (g o C s up : Nat) (t : Nat) (words : Value) (id : Int) (w : World) (hO : w.cell? ⟨g, o + 2, none⟩ = some (.int .i64 (t : Int))) (h3 : w.cell? ⟨g, o + 3, none⟩ = some (.int .i64 (s : Int))) (hf : ∀ i, w.frozen? ⟨g, i, none⟩ = false)
    (h3' : (w.setCell ⟨g, o + 2, none⟩ (.int .i64 (C : Int))).cell? ⟨g, o + 3, none⟩ = some (.int .i64 (s : Int))) (hf' : ∀ i, (w.setCell ⟨g, o + 2, none⟩ (.int .i64 (C : Int))).frozen? ⟨g, i, none⟩ = false)
    (hC : C = t + up) (hu : 1 ≤ up) (hu2 : up ≤ 62) (hC2 : C ≤ 281474976710655) (hs : s < 4611686018427387904) :
    Calls Try.prog 57 #[.pointer (some ⟨g, o, none⟩), .int .i64 (C : Int)] w fun e w' => e = .returned (.bool true) ∧ w' = (w.setCell ⟨g, o + 2, none⟩ (.int .i64 (C : Int))).setCell ⟨g, o + 3, none⟩ (.int .i64 ((upSeen s up : Nat) : Int)) := by
  have hd : ((t : Int) - (C : Int)) = -(up : Int) := by omega
  have d1 : decide ((t : Int) < 0) = false := decide_eq_false (by omega)
  have d2 : decide ((62 : Int) < -(up : Int)) = false := decide_eq_false (by omega)
  have d3 : (-(up : Int) == 0) = false := by rw [beq_eq_false_iff_ne]; omega
  have d4 : decide ((0 : Int) < -(up : Int)) = false := decide_eq_false (by omega)
  have d5 : decide (-(up : Int) < -62) = false := decide_eq_false (by omega)
  have HU := Lib.hid (up_bits s up hu hu2 hs)
  have HC := Lib.hid hC
  clear hC
  go_enter Try.func57, Try.ntmps57
  go_wp2_with fail
  go_ret
  refine ⟨rfl, ?_⟩
  rw [← HU.out]
theorem or_bit (s e : Nat) (he : e < 62) (hs : s < 4611686018427387904) : bits .or .i64 (s : Int) (wrap64 (2 ^ e)) = ((s ||| 2 ^ e : Nat) : Int) := by
  have hb : 2 ^ e < 2 ^ 62 := Nat.pow_lt_pow_right (by decide) he
  have e2 : wrap64 (2 ^ e) = ((2 ^ e : Nat) : Int) := by
    rw [show ((2 : Int) ^ e) = ((2 ^ e : Nat) : Int) by simp]
    have key : ∀ z : Nat, z < 2 ^ 62 → wrap64 (z : Int) = (z : Int) := fun z hz => IntWalk.wrap64_in _ (by omega)
    exact key _ hb
  rw [e2]
  exact i64_or_nat _ _ (by omega) (by omega)
/-- The key at which the pointer points: cells 2 and 3 turn. -/
def Kp (w : World) (g o : Nat) (top seen : Int) : Prop := w.cell? ⟨g, o + 2, none⟩ = some (.int .i64 top) ∧ w.cell? ⟨g, o + 3, none⟩ = some (.int .i64 seen) ∧ (∀ i, w.frozen? ⟨g, i, none⟩ = false) ∧
  (∀ v, (w.setCell ⟨g, o + 2, none⟩ v).cell? ⟨g, o + 3, none⟩ = some (.int .i64 seen)) ∧ (∀ v i, (w.setCell ⟨g, o + 2, none⟩ v).frozen? ⟨g, i, none⟩ = false)
def Turned2 (w w' : World) (g o : Nat) (top seen : Int) (t' s' : Int) : Prop := w' = (w.setCell ⟨g, o + 2, none⟩ (.int .i64 t')).setCell ⟨g, o + 3, none⟩ (.int .i64 s') ∨ (w' = w.setCell ⟨g, o + 2, none⟩ (.int .i64 t') ∧ s' = seen) ∨ (w' = w.setCell ⟨g, o + 3, none⟩ (.int .i64 s') ∧ t' = top)
set_option maxHeartbeats 3200000 in
set_option maxRecDepth 100000 in
theorem once_far (g o C s : Nat) (t : Nat) (w : World) (hk : Kp w g o t s) (hu : 62 < (C : Int) - (t : Int)) (hC2 : C ≤ 281474976710655) :
    Calls Try.prog 57 #[.pointer (some ⟨g, o, none⟩), .int .i64 (C : Int)] w fun e w' => e = .returned (.bool true) ∧ w' = (w.setCell ⟨g, o + 2, none⟩ (.int .i64 (C : Int))).setCell ⟨g, o + 3, none⟩ (.int .i64 0) := by
  obtain ⟨h2, h3, hf, h3', hf'⟩ := hk
  have h3'' := h3' (.int .i64 (C : Int))
  have hf'' := hf' (.int .i64 (C : Int))
  clear h3' hf'
  obtain ⟨up, hup⟩ : ∃ up : Nat, (C : Int) = t + up := ⟨C - t, by omega⟩
  have hd : ((t : Int) - (C : Int)) = -(up : Int) := by omega
  have hu62 : 62 < up := by omega
  have hup2 : up ≤ 281474976710655 := by omega
  have d1 : decide ((t : Int) < 0) = false := decide_eq_false (by omega)
  have d2 : decide ((62 : Int) < -(up : Int)) = false := decide_eq_false (by omega)
  have d3 : (-(up : Int) == 0) = false := by rw [beq_eq_false_iff_ne]; omega
  have d4 : decide ((0 : Int) < -(up : Int)) = false := decide_eq_false (by omega)
  have d5 : decide (-(up : Int) < -62) = true := decide_eq_true (by omega)
  clear hup hu
  go_enter Try.func57, Try.ntmps57
  go_wp2_with fail
  go_ret
  exact ⟨rfl, rfl⟩
set_option maxHeartbeats 3200000 in
set_option maxRecDepth 100000 in
theorem once_none (g o C : Nat) (s : Int) (w : World) (hk : Kp w g o (-1) s) (hC2 : C ≤ 281474976710655) :
    Calls Try.prog 57 #[.pointer (some ⟨g, o, none⟩), .int .i64 (C : Int)] w fun e w' => e = .returned (.bool true) ∧ w' = w.setCell ⟨g, o + 2, none⟩ (.int .i64 (C : Int)) := by
  obtain ⟨h2, h3, hf, h3', hf'⟩ := hk
  clear h3' hf'
  go_enter Try.func57, Try.ntmps57
  go_wp2_with fail
  go_ret
  exact ⟨rfl, rfl⟩
set_option maxHeartbeats 3200000 in
set_option maxRecDepth 100000 in
theorem once_old (g o C s : Nat) (t : Nat) (w : World) (hk : Kp w g o t s) (ho : oldC s t C) (hC2 : C ≤ 281474976710655) (ht : t ≤ 281474976710655) (hs : s < 4611686018427387904) :
    Calls Try.prog 57 #[.pointer (some ⟨g, o, none⟩), .int .i64 (C : Int)] w fun e w' => e = .returned (.bool false) ∧ w' = w := by
  obtain ⟨h2, h3, hf, h3', hf'⟩ := hk
  clear h3' hf'
  obtain ⟨dn, hdn⟩ : ∃ dn : Nat, (t : Int) - (C : Int) = (dn : Int) := ⟨((t : Int) - C).toNat, by have := ho.1; omega⟩
  have d1 : decide ((t : Int) < 0) = false := decide_eq_false (by omega)
  obtain ⟨_, ho⟩ := ho
  rw [hdn] at ho
  have hdb : dn ≤ 281474976710655 := by omega
  by_cases h62 : 62 < dn
  · have d2 : decide ((62 : Int) < (dn : Int)) = true := decide_eq_true (by omega)
    clear ho
    go_enter Try.func57, Try.ntmps57
    go_wp2_with fail
    go_ret
    exact ⟨rfl, rfl⟩
  have d2 : decide ((62 : Int) < (dn : Int)) = false := decide_eq_false (by omega)
  by_cases h0 : dn = 0
  · subst h0
    clear ho
    go_enter Try.func57, Try.ntmps57
    go_wp2_with fail
    go_ret
    exact ⟨rfl, rfl⟩
  · have hb : s / 2 ^ (dn - 1) % 2 = 1 := by
      rcases ho with h | h | h
      · omega
      · omega
      · rw [show ((dn : Int) - 1).toNat = dn - 1 by omega] at h; exact h
    obtain ⟨e, rfl⟩ : ∃ e, dn = e + 1 := ⟨dn - 1, by omega⟩
    have hbit := bit_i64 s e (by omega)
    rw [show s / 2 ^ e % 2 = 1 from hb] at hbit
    have d3 : (((e + 1 : Nat) : Int) == 0) = false := by rw [beq_eq_false_iff_ne]; omega
    have d4 : decide ((0 : Int) < ((e + 1 : Nat) : Int)) = true := decide_eq_true (by omega)
    have d5 : decide ((0 : Int) < (e : Int) + 1) = true := decide_eq_true (by omega)
    have d6 : ((e : Int) + 1 == 0) = false := by rw [beq_eq_false_iff_ne]; omega
    have d7 : decide ((62 : Int) < (e : Int) + 1) = false := decide_eq_false (by omega)
    have he62 : (e : Int) < 62 := by omega
    have he0 : (0 : Int) ≤ (e : Int) := by omega
    clear ho hb h62 h0
    go_enter Try.func57, Try.ntmps57
    go_wp2_with fail
    go_ret
    exact ⟨rfl, rfl⟩
set_option maxHeartbeats 3200000 in
set_option maxRecDepth 100000 in
theorem once_below (g o C s e : Nat) (t : Nat) (w : World) (hk : Kp w g o t s) (he : (t : Int) - (C : Int) = (e : Int) + 1) (hb : ¬ s / 2 ^ e % 2 = 1) (he62 : e < 62) (hC2 : C ≤ 281474976710655) (ht : t ≤ 281474976710655) (hs : s < 4611686018427387904) :
    Calls Try.prog 57 #[.pointer (some ⟨g, o, none⟩), .int .i64 (C : Int)] w fun e' w' => e' = .returned (.bool true) ∧ w' = (w.setCell ⟨g, o + 3, none⟩ (.int .i64 ((s ||| 2 ^ e : Nat) : Int))).drew := by
  obtain ⟨h2, h3, hf, h3', hf'⟩ := hk
  clear h3' hf'
  have hbit := bit_i64 s e (by omega)
  rw [show s / 2 ^ e % 2 = 0 by omega] at hbit
  have d1 : decide ((t : Int) < 0) = false := decide_eq_false (by omega)
  have d5 : decide ((0 : Int) < (e : Int) + 1) = true := decide_eq_true (by omega)
  have d6 : ((e : Int) + 1 == 0) = false := by rw [beq_eq_false_iff_ne]; omega
  have d7 : decide ((62 : Int) < (e : Int) + 1) = false := decide_eq_false (by omega)
  have he0 : (0 : Int) ≤ (e : Int) := by omega
  have hei : (e : Int) < 62 := by omega
  have HV := Lib.hid (or_bit s e he62 hs)
  clear hb
  go_enter Try.func57, Try.ntmps57
  go_wp2_with fail
  have hwr1 : IntKind.i64.wrap ((e : Int) + 1 - 1) = (e : Int) := by rw [show (e : Int) + 1 - 1 = (e : Int) by omega]; exact IntWalk.i64_in _ (by omega)
  have hwr2 : IntKind.i64.wrap (e : Int) = (e : Int) := IntWalk.i64_in _ (by omega)
  have hnl : ¬ ((e : Int) < 0) := by omega
  have hnd : decide ((e : Int) < 0) = false := decide_eq_false hnl
  go_still_tail 8, (by kernel_rfl)
  go_wp2_with fail
  go_ret
  exact ⟨rfl, by rw [← HV.out]⟩
end Go.Proofs.Ytkbaganbfcbioaa
namespace Go.Proofs.Ytkbaganbfcbioaa
set_option linter.unusedSimpArgs false
set_option linter.unusedVariables false
open Go.RowKit

instance (s : Nat) (t : Int) (C : Nat) : Decidable (oldC s t C) := by unfold oldC; infer_instance
def numC (b : List UInt8) : Nat := numB ((b.drop 1).take 6)
theorem numC_lt {b : List UInt8} (h : 7 ≤ b.length) : numC b ≤ 281474976710655 := by
  have := numB_lt 6 ((b.drop 1).take 6) (by simp; omega)
  rw [show (256 : Nat) ^ 6 = 281474976710656 from rfl] at this
  unfold numC
  omega
def nextK (k : Ky) (C : Nat) : Ky := ⟨k.id, k.words, nextTop k.top C, (nextSeen k.seen.toNat k.top C : Nat)⟩
def unsK (L : List Ky) (b : List UInt8) (i : Nat) (k : Ky) : List Ky × List UInt8 × Int × Int :=
  if tagL (k.words.map Int.toNat) (numC b) (b.take (b.length - 8)) = b.drop (b.length - 8) then
    (if oldC k.seen.toNat k.top (numC b) then (L, [], 0, 13) else (L.set i (nextK k (numC b)), coverL (k.words.map Int.toNat) (numC b) ((b.drop 7).take (b.length - 15)), k.id, 0))
  else (L, [], 0, 14)
def unsealR (L : List Ky) (b : List UInt8) : List Ky × List UInt8 × Int × Int :=
  if ringOk L then (if b.length < 15 ∨ 1015 < b.length then (L, [], 0, 1) else
    match kfind L ((b.getD 0 0).toNat : Int) with | none => (L, [], 0, 14) | some i => (match L[i]? with | none => (L, [], 0, 14) | some k => unsK L b i k)) else ([], [], 0, 11)
theorem AsRes.none_ {w w' : World} {err : Int} (h : Below w.heap.size w w') : AsRes w w' [] 0 [] 0 0 err (.returned (.tuple #[.agg #[.slice none 0 0], .slice none 0 0, .int .i64 0, .int .i64 err])) :=
  ⟨none, 0, none, 0, rfl, ⟨[], rfl, Own.none_ _ _ _ _, OwnWords.nil _ _⟩, Own.none_ _ _ _ _, h⟩
theorem AsRes.same {w w' : World} {L : List Ky} {B : Option Addr} {n c : Nat} {m : List KyR} {b : Nat} {err : Int} (hm : m.map KyR.k = L) (hO : Own w' b 46 4 B n c (kvs m)) (hD : OwnWords w' b m) (hb : w.heap.size ≤ b) (h : Below w.heap.size w w') :
    AsRes w w' L n [] 0 0 err (.returned (.tuple #[.agg #[.slice B n c], .slice none 0 0, .int .i64 0, .int .i64 err])) :=
  ⟨B, c, none, 0, rfl, ⟨m, hm, hO.mono hb, hD.map (fun _ _ _ _ h => h.mono hb)⟩, Own.none_ _ _ _ _, h⟩
theorem or_byteI {n : Nat} (x : UInt8) (h : n < 1099511627776) : bits .or .i64 ((n : Int) * 256) (x.toNat : Int) = ((n * 256 + x.toNat : Nat) : Int) := by
  have hx := byte_lt x
  have e2 := i64_or_nat (n * 2 ^ 8) x.toNat (by omega) (by omega)
  rw [nat_join 8 _ _ (by omega) (by omega)] at e2
  rw [show ((n : Int) * 256) = ((n * 2 ^ 8 : Nat) : Int) by omega, e2]
theorem numD_succ {b : List UInt8} {t : Nat} (h : t < 6) (hb : 7 ≤ b.length) : numB ((b.drop 1).take (t + 1)) = numB ((b.drop 1).take t) * 256 + (b.getD (1 + t) 0).toNat := by
  rw [numB_take (by simp; omega)]
  congr 2
  simp [List.getD, Nat.add_comm]
theorem numD_lt {b : List UInt8} {t : Nat} (h : t ≤ 5) : numB ((b.drop 1).take t) < 1099511627776 := by
  have h1 := numB_lt _ ((b.drop 1).take t) rfl
  have h2 : ((b.drop 1).take t).length ≤ 5 := by simp; omega
  have h3 : 256 ^ ((b.drop 1).take t).length ≤ 256 ^ 5 := Nat.pow_le_pow_right (by decide) h2
  rw [show (256 : Nat) ^ 5 = 1099511627776 from rfl] at h3
  omega
end Go.Proofs.Ytkbaganbfcbioaa
