/-
  command.with: nothing is done to a hand that can't be. The sum of frames, plainly: by bytes (as the program reckons it) and by bits (as the document does): they are one. No program is named here.
-/
import Derived.Test.YtppmdamcdhmcpaaMCommandSteps13
import Derived.Test.YtppmdamcdhmcpaaMCommandSteps1
namespace Go.Proofs.Ytppmdamcdhmcpaa
set_option linter.unusedSimpArgs false
set_option linter.unusedVariables false
open Go.RowKit

set_option maxHeartbeats 12800000 in
set_option maxRecDepth 100000 in
theorem with_no (F : Value) (h : Hnd) (S : Option Addr) (n1 c : Nat) (A : Option Addr) (n2 d : Nat) (w : World) (hS : RdRows w S h.sent) (hA : RdRows w A h.asked) (hn1 : h.sent.length = n1) (hn2 : h.asked.length = n2) (f1 : RowsFit h.sent n1) (f2 : RowsFit h.asked n2) (hok : ¬ handOk h) :
    Calls Try.prog 21 #[hvn h S n1 c A n2 d, F] w fun e w' => HandOut w w' Hnd.zero 0 0 [] 0 11 e := by
  have CM := Lib.hid (fun w (hS : RdRows w S h.sent) (hA : RdRows w A h.asked) => pready_any h S c A d w hS hA (by rw [hn1]; exact f1.1) (by rw [hn2]; exact f2.1) f1.2 f2.2)
  rw [← hvn_hdv, hn1, hn2] at CM
  rw [show handB h = false from decide_eq_false hok] at CM
  have HS := Lib.hid hS
  have HA := Lib.hid hA
  clear hS hA hn1 hn2 f1 f2 hok
  unfold hvn at CM ⊢
  have b2 := (Blk.new w 25 #[.int .i64 h.craft, .int .i64 h.next, .int .i64 h.ahead, .slice S n1 c, .slice A n2 d, .int .i64 h.timer, .int .i64 h.patience, .int .i64 h.tries, .int .i64 h.limit, .int .i64 h.since, .int .i64 h.pause, .int .i64 h.halt]).alloc (.cells #[.int .i64 0, .int .i64 0, .int .i64 0, .slice none 0 0, .slice none 0 0, .int .i64 0, .int .i64 0, .int .i64 0, .int .i64 0, .int .i64 0, .int .i64 0, .int .i64 0] 25)
  have b4 := Blk.new (w.alloc (.cells #[.int .i64 h.craft, .int .i64 h.next, .int .i64 h.ahead, .slice S n1 c, .slice A n2 d, .int .i64 h.timer, .int .i64 h.patience, .int .i64 h.tries, .int .i64 h.limit, .int .i64 h.since, .int .i64 h.pause, .int .i64 h.halt] 25)) 25 #[.int .i64 0, .int .i64 0, .int .i64 0, .slice none 0 0, .slice none 0 0, .int .i64 0, .int .i64 0, .int .i64 0, .int .i64 0, .int .i64 0, .int .i64 0, .int .i64 0]
  rw [show (w.alloc (.cells #[.int .i64 h.craft, .int .i64 h.next, .int .i64 h.ahead, .slice S n1 c, .slice A n2 d, .int .i64 h.timer, .int .i64 h.patience, .int .i64 h.tries, .int .i64 h.limit, .int .i64 h.since, .int .i64 h.pause, .int .i64 h.halt] 25)).heap.size = w.heap.size + 1 by simp] at b4
  have hB : Below w.heap.size w ((w.alloc (.cells #[.int .i64 h.craft, .int .i64 h.next, .int .i64 h.ahead, .slice S n1 c, .slice A n2 d, .int .i64 h.timer, .int .i64 h.patience, .int .i64 h.tries, .int .i64 h.limit, .int .i64 h.since, .int .i64 h.pause, .int .i64 h.halt] 25)).alloc (.cells #[.int .i64 0, .int .i64 0, .int .i64 0, .slice none 0 0, .slice none 0 0, .int .i64 0, .int .i64 0, .int .i64 0, .int .i64 0, .int .i64 0, .int .i64 0, .int .i64 0] 25)) := ((Below.refl _ _).alloc (Nat.le_refl _) _).alloc (by simp) _
  have s0 : ((w.alloc (.cells #[.int .i64 h.craft, .int .i64 h.next, .int .i64 h.ahead, .slice S n1 c, .slice A n2 d, .int .i64 h.timer, .int .i64 h.patience, .int .i64 h.tries, .int .i64 h.limit, .int .i64 h.since, .int .i64 h.pause, .int .i64 h.halt] 25)).alloc (.cells #[.int .i64 0, .int .i64 0, .int .i64 0, .slice none 0 0, .slice none 0 0, .int .i64 0, .int .i64 0, .int .i64 0, .int .i64 0, .int .i64 0, .int .i64 0, .int .i64 0] 25)).heap.size = w.heap.size + 2 := by simp
  go_enter Try.func21, Try.ntmps21
  go_wp2_with (refine wpList_load_row rfl 25 (.tmp 2) rfl (w.heap.size) rfl 25 #[.int .i64 h.craft, .int .i64 h.next, .int .i64 h.ahead, .slice S n1 c, .slice A n2 d, .int .i64 h.timer, .int .i64 h.patience, .int .i64 h.tries, .int .i64 h.limit, .int .i64 h.since, .int .i64 h.pause, .int .i64 h.halt] (0, 0) _ b2 Try.underlying25 rfl handsz ?_)
  generalize (w.alloc (.cells #[.int .i64 h.craft, .int .i64 h.next, .int .i64 h.ahead, .slice S n1 c, .slice A n2 d, .int .i64 h.timer, .int .i64 h.patience, .int .i64 h.tries, .int .i64 h.limit, .int .i64 h.since, .int .i64 h.pause, .int .i64 h.halt] 25)).alloc (.cells #[.int .i64 0, .int .i64 0, .int .i64 0, .slice none 0 0, .slice none 0 0, .int .i64 0, .int .i64 0, .int .i64 0, .int .i64 0, .int .i64 0, .int .i64 0, .int .i64 0] 25) = W0 at *
  refine (CM.out W0 (HS.out.below hB) (HA.out.below hB)).mono ?_
  rintro e w1 ⟨rfl, hb⟩
  clear CM
  have s1 := hb.size
  replace b4 := b4.step hb
  replace hB := hB.trans (hb.mono hB.size)
  go_wp2_with (first | (refine wpList_store_row rfl 25 (.tmp 4) (.tmp 12) rfl (w.heap.size + 1) #[.int .i64 0, .int .i64 0, .int .i64 0, .slice none 0 0, .slice none 0 0, .int .i64 0, .int .i64 0, .int .i64 0, .int .i64 0, .int .i64 0, .int .i64 0, .int .i64 0] rfl rfl 25 _ b4 handsz rfl (by simp [Value.oneCell']) ?_))
  have b4' := b4.row #[.int .i64 0, .int .i64 0, .int .i64 0, .slice none 0 0, .slice none 0 0, .int .i64 0, .int .i64 0, .int .i64 0, .int .i64 0, .int .i64 0, .int .i64 0, .int .i64 0]
  refine bodyPost_ret (v := .tuple #[.agg #[.int .i64 0, .int .i64 0, .int .i64 0, .slice none 0 0, .slice none 0 0, .int .i64 0, .int .i64 0, .int .i64 0, .int .i64 0, .int .i64 0, .int .i64 0, .int .i64 0], .slice none 0 0, .int .i64 11]) (results_cell_slot2 (ty := 25) Try.results21 _ _ (w.heap.size + 1) 25 _ (0, 0) _ rfl rfl rfl b4' Try.underlying25 rfl handsz) rfl ?_
  exact ⟨none, 0, none, 0, none, 0, [], [], [], rfl, ⟨rfl, rfl, rfl⟩, OwnRs.nil _ _, OwnRs.nil _ _, OwnRs.nil _ _, Disj.nil _ _, Disj.nil _ _, Disj.nil _ _, below_row hB (by omega) _⟩
end Go.Proofs.Ytppmdamcdhmcpaa
namespace Go.Proofs.Ytppmdamcdhmcpaa
set_option linter.unusedSimpArgs false
set_option linter.unusedVariables false
open Go.RowKit

def crcStep (s : Nat) : Nat := if s &&& 32768 = 0 then s * 2 % 65536 else (s * 2 % 65536) ^^^ 4129
def crcN : Nat → Nat → Nat
  | 0, s => s
  | n + 1, s => crcStep (crcN n s)
def crcByte (s : Nat) (x : UInt8) : Nat := crcN 8 (s ^^^ (x.toNat * 256))
def crcFrom (s : Nat) (l : List UInt8) : Nat := l.foldl crcByte s
def crc (l : List UInt8) : Nat := crcFrom 65535 l

theorem xor_lt16 {a b : Nat} (ha : a < 65536) (hb : b < 65536) : a ^^^ b < 65536 := Nat.xor_lt_two_pow (n := 16) ha hb
theorem crcStep_lt {s : Nat} : crcStep s < 65536 := by
  unfold crcStep
  split
  · omega
  · exact xor_lt16 (by omega) (by omega)
theorem crcN_lt {n s : Nat} (h : s < 65536) : crcN n s < 65536 := by
  cases n with
  | zero => exact h
  | succ n => exact crcStep_lt
theorem crcByte_lt {s : Nat} (h : s < 65536) (x : UInt8) : crcByte s x < 65536 := crcN_lt (xor_lt16 h (by have := x.toNat_lt; omega))
theorem crcFrom_lt {s : Nat} (h : s < 65536) (l : List UInt8) : crcFrom s l < 65536 := by
  induction l generalizing s with
  | nil => exact h
  | cons x l ih => exact ih (crcByte_lt h x)
theorem crcFrom_snoc (s : Nat) (l : List UInt8) (x : UInt8) : crcFrom s (l ++ [x]) = crcByte (crcFrom s l) x := by simp [crcFrom]
theorem crcFrom_take {s : Nat} {l : List UInt8} {k : Nat} (h : k < l.length) : crcFrom s (l.take (k + 1)) = crcByte (crcFrom s (l.take k)) l[k] := by
  rw [List.take_succ_eq_append_getElem h, crcFrom_snoc]
theorem crc_lt (l : List UInt8) : crc l < 65536 := crcFrom_lt (by omega) l

/-! in the model's words -/
theorem crc_in {s : Nat} (h : s < 65536) (x : UInt8) : bits .xor .u16 (s : Int) ((x.toNat : Int) * 256) = ((s ^^^ (x.toNat * 256) : Nat) : Int) := by
  have := x.toNat_lt
  have e := u16_xor_nat s (x.toNat * 256) h (by omega)
  rw [← e]
  simp
theorem crc_top {s : Nat} (h : s < 65536) : bits .and .u16 (s : Int) 32768 = ((s &&& 32768 : Nat) : Int) := u16_and_nat s 32768 h (by omega)
theorem top_cases (s : Nat) : s &&& 32768 = 0 ∨ s &&& 32768 = 32768 := by
  have := nat_bit 15 s
  have e : (2 : Nat) ^ 15 = 32768 := by decide
  rw [e] at this
  rw [this]
  rcases Nat.mod_two_eq_zero_or_one (s / 32768) with h | h <;> rw [h] <;> simp
theorem crc_zero {s : Nat} (hz : s &&& 32768 = 0) : IntKind.u16.wrap ((s : Int) * 2) = ((crcStep s : Nat) : Int) := by
  rw [IntKind.wrap_u16, crcStep, if_pos hz]
  omega
theorem crc_one {s : Nat} (hz : s &&& 32768 = 32768) : bits .xor .u16 (IntKind.u16.wrap ((s : Int) * 2)) 4129 = ((crcStep s : Nat) : Int) := by
  rw [IntKind.wrap_u16, crcStep, if_neg (by omega)]
  have e : ((s : Int) * 2 % 65536) = ((s * 2 % 65536 : Nat) : Int) := by omega
  rw [e]
  exact u16_xor_nat _ 4129 (by omega) (by omega)

/-! by bits -/
def refBit (s b : Nat) : Nat := if b ^^^ (s >>> 15) = 1 then (s * 2 % 65536) ^^^ 4129 else s * 2 % 65536
/-- The first n bits of a byte. -/
def refN (x : UInt8) : Nat → Nat → Nat
  | 0, s => s
  | n + 1, s => refBit (refN x n s) ((x.toNat >>> (7 - n)) &&& 1)
theorem refBit_lt {s b : Nat} : refBit s b < 65536 := by
  unfold refBit
  split
  · exact xor_lt16 (by omega) (by omega)
  · omega
theorem refN_lt {x : UInt8} {n s : Nat} (h : s < 65536) : refN x n s < 65536 := by
  cases n with
  | zero => exact h
  | succ n => exact refBit_lt

theorem dbl_xor (r u : Nat) : (r ^^^ u) * 2 % 65536 = (r * 2 % 65536) ^^^ (u * 2 % 65536) := by
  apply Nat.eq_of_testBit_eq
  intro i
  have e : (65536 : Nat) = 2 ^ 16 := by decide
  rw [e]
  simp only [Nat.testBit_xor, Nat.testBit_mod_two_pow]
  by_cases hi : i < 16
  · simp only [hi, decide_true, Bool.true_and]
    rw [Nat.mul_comm (r ^^^ u) 2, Nat.mul_comm r 2, Nat.mul_comm u 2]
    have h2 : ∀ y : Nat, (2 * y).testBit i = (decide (1 ≤ i) && y.testBit (i - 1)) := fun y => by
      have := Nat.testBit_two_pow_mul (a := y) (i := 1) (j := i)
      simpa using this
    rw [h2, h2, h2, Nat.testBit_xor]
    cases decide (1 ≤ i) <;> simp
  · simp [hi]

/-- One bit: the byte lies in the register's upper half ('u': what of it has not gone in yet). -/
theorem step_meet {r u : Nat} (hr : r < 65536) (hu : u < 65536) : crcStep (r ^^^ u) = refBit r (u >>> 15) ^^^ (u * 2 % 65536) := by
  have hb : ∀ y, y < 65536 → (y &&& 32768 = 0 ↔ y >>> 15 = 0) ∧ (y >>> 15 = 0 ∨ y >>> 15 = 1) := by
    intro y hy
    have := nat_bit 15 y
    have e : (2 : Nat) ^ 15 = 32768 := by decide
    rw [e] at this
    rw [this, Nat.shiftRight_eq_div_pow, e]
    omega
  have h1 := hb r hr
  have h2 := hb u hu
  have h3 := hb _ (xor_lt16 hr hu)
  have hx : (r ^^^ u) >>> 15 = (r >>> 15) ^^^ (u >>> 15) := Nat.shiftRight_xor_distrib
  rw [hx] at h3
  unfold crcStep refBit
  rw [dbl_xor]
  rcases h1.2 with a | a <;> rcases h2.2 with b | b <;> rw [a, b] at h3 ⊢
  · rw [if_pos (h3.1.2 (by decide)), if_neg (by decide)]
  · rw [if_neg (fun h => absurd (h3.1.1 h) (by decide)), if_pos (by decide), Nat.xor_assoc, Nat.xor_assoc, Nat.xor_comm _ 4129]
  · rw [if_neg (fun h => absurd (h3.1.1 h) (by decide)), if_pos (by decide), Nat.xor_assoc, Nat.xor_assoc, Nat.xor_comm _ 4129]
  · rw [if_pos (h3.1.2 (by decide)), if_neg (by decide)]

theorem meet_n (x : UInt8) {s : Nat} (hs : s < 65536) : ∀ n, n ≤ 8 → crcN n (s ^^^ (x.toNat * 256)) = refN x n s ^^^ (x.toNat * 2 ^ (8 + n) % 65536)
  | 0, _ => by
    have := x.toNat_lt
    show s ^^^ _ = s ^^^ _
    rw [Nat.mod_eq_of_lt (by simp; omega)]
  | n + 1, hn => by
    show crcStep _ = refBit _ _ ^^^ _
    rw [meet_n x hs n (by omega), step_meet (refN_lt hs) (Nat.mod_lt _ (by decide))]
    have hx := x.toNat_lt
    have e : (x.toNat * 2 ^ (8 + n) % 65536) >>> 15 = (x.toNat >>> (7 - n)) &&& 1 := by
      rw [Nat.shiftRight_eq_div_pow, nat_mask1, Nat.shiftRight_eq_div_pow]
      have : n = 0 ∨ n = 1 ∨ n = 2 ∨ n = 3 ∨ n = 4 ∨ n = 5 ∨ n = 6 ∨ n = 7 := by omega
      rcases this with rfl | rfl | rfl | rfl | rfl | rfl | rfl | rfl <;> simp <;> omega
    rw [e]
    congr 1
    rw [show 8 + (n + 1) = (8 + n) + 1 from rfl, Nat.pow_succ, ← Nat.mul_assoc]
    omega

theorem byte_meets (x : UInt8) {s : Nat} (hs : s < 65536) : crcByte s x = refN x 8 s := by
  unfold crcByte
  rw [meet_n x hs 8 (by omega)]
  have : x.toNat * 2 ^ (8 + 8) % 65536 = 0 := by omega
  rw [this, Nat.xor_zero]
end Go.Proofs.Ytppmdamcdhmcpaa
