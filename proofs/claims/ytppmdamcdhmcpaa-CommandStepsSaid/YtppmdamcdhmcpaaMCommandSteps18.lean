/-
  A hand's tick, in plain words. n & 255 of any number.
-/
import Derived.Test.YtppmdamcdhmcpaaMCommandSteps17
import Derived.Test.YtppmdamcdhmcpaaMCommandSteps16
import Derived.Test.YtppmdamcdhmcpaaMCommandSteps1
import Derived.Laws.BitsLemmas
namespace Go.Proofs.Ytppmdamcdhmcpaa
set_option linter.unusedSimpArgs false
set_option linter.unusedVariables false
open Go.RowKit

/-- A command's bytes: of craft c, number s (by 256), data l. -/
def upB (c s : Int) (l : List UInt8) : List UInt8 := (ordEnc ⟨c, false, false, s % 256, l⟩).1
/-- What goes up for these, from number s on. -/
def upsB (c s : Int) : List (List UInt8) → List (List UInt8)
  | [] => []
  | l :: r => upB c s l :: upsB c (s + 1) r
theorem upsB_snoc (c : Int) (x : List UInt8) : ∀ (ls : List (List UInt8)) (s : Int), upsB c s (ls ++ [x]) = upsB c s ls ++ [upB c (s + ls.length) x]
  | [], s => by simp [upsB]
  | l :: r, s => by
    simp only [List.cons_append, upsB, upsB_snoc c x r (s + 1), List.length_cons]
    congr 3
    congr 1
    omega
theorem upsB_len (c : Int) : ∀ (ls : List (List UInt8)) (s : Int), (upsB c s ls).length = ls.length
  | [], s => rfl
  | l :: r, s => by simp [upsB, upsB_len c r]
theorem upsB_size (c : Int) : ∀ (ls : List (List UInt8)) (s : Int), ∀ x ∈ upsB c s ls, x.length ≤ 1024
  | [], s, x, h => by simp [upsB] at h
  | l :: r, s, x, h => by
    simp only [upsB, List.mem_cons] at h
    rcases h with rfl | h
    · exact ordEnc_size _
    · exact upsB_size c r (s + 1) x h
def sinceH (h : Hnd) : Hnd := { h with since := if h.since < h.pause then h.since + 1 else h.since }
/-- How many of what was sent are there. -/
def thereN (h : Hnd) (next : Int) : Nat := ((next - h.next + h.sent.length) % 256).toNat
def cutH (h : Hnd) (n : Nat) : Hnd := { h with sent := h.sent.drop n, timer := if 0 < n then 0 else h.timer, tries := if 0 < n then 0 else h.tries }
/-- What a status says; false: the hand stands still. -/
def hearH (h : Hnd) (g : Gt) : Hnd × Bool :=
  if h.sent.length < thereN h g.next then ({ h with halt := 11 }, false)
  else if g.shut then ({ cutH h (thereN h g.next) with halt := 15 }, false) else (cutH h (thereN h g.next), true)
/-- What was sent goes up once more, if it has to; false: the hand stands still. -/
def lateH (h : Hnd) (wished : Bool) : Hnd × List (List UInt8) × Bool :=
  if h.sent.length = 0 then ({ h with timer := 0 }, [], true)
  else if wished = false ∧ h.timer + 1 < h.patience then ({ h with timer := h.timer + 1 }, [], true)
  else if h.tries = h.limit then ({ h with timer := 0, since := 0, halt := 19 }, [], false)
  else ({ h with timer := 0, since := 0, tries := h.tries + 1 }, upsB h.craft (h.next - h.sent.length) h.sent, true)
def moreN (h : Hnd) : Nat := min (h.ahead - h.sent.length).toNat h.asked.length
/-- k new ones went up. -/
def moreK (h : Hnd) (k : Nat) : Hnd := { h with sent := h.sent ++ h.asked.take k, asked := h.asked.drop k, next := (h.next + k) % 256 }
def moreH (h : Hnd) : Hnd × List (List UInt8) := (moreK h (moreN h), upsB h.craft h.next (h.asked.take (moreN h)))
def goH (h : Hnd) (wished wait : Bool) : Hnd × List (List UInt8) × Int :=
  if (lateH h wished).2.2 = true ∧ wait = false then ((moreH (lateH h wished).1).1, (lateH h wished).2.1 ++ (moreH (lateH h wished).1).2, 0) else ((lateH h wished).1, (lateH h wished).2.1, 0)
def wishH (h : Hnd) (g : Gt) : Bool := g.again && !g.wait && h.since == h.pause
def stepS (h : Hnd) (st : Int) (heard : Bool) : Hnd × List (List UInt8) × Int :=
  if h.halt ≠ 0 then (h, [], 0)
  else if heard = true ∧ (readOf st).2 = 0 then
    (if (hearH (sinceH h) (readOf st).1).2 = true then goH (hearH (sinceH h) (readOf st).1).1 (wishH (hearH (sinceH h) (readOf st).1).1 (readOf st).1) (readOf st).1.wait else ((hearH (sinceH h) (readOf st).1).1, [], 0))
  else goH (sinceH h) false false
def stepR (h : Hnd) (st : Int) (heard : Bool) : Hnd × List (List UInt8) × Int := if handOk h then stepS h st heard else (Hnd.zero, [], 11)

/-- What stays true of a hand at work in a tick. -/
def Tick (h : Hnd) : Prop := (h.sent.length : Int) ≤ h.ahead ∧ h.ahead ≤ 127 ∧ h.asked.length ≤ 100 ∧ ordOk h.sent ∧ ordOk h.asked ∧ (0 ≤ h.next ∧ h.next ≤ 255) ∧ (0 ≤ h.craft ∧ h.craft ≤ 1023) ∧ (0 ≤ h.timer ∧ h.timer < h.patience) ∧ h.patience ≤ 1000 ∧ (0 ≤ h.tries ∧ h.tries ≤ h.limit) ∧ h.limit ≤ 100 ∧ (0 ≤ h.since ∧ h.since ≤ h.pause) ∧ h.pause ≤ 1000
theorem tick_of {h : Hnd} (hk : handOk h) : Tick h := by
  obtain ⟨⟨h1, h2, h3, h4, h5⟩, h6, h7, h8, h9, h10, _, h11, h12, h13⟩ := hk
  exact ⟨h7, h2.2, h8, h9, h10, h6, h1, h11, h3.2, h12, h5.2, h13, h4.2⟩
theorem tick_since {h : Hnd} (t : Tick h) : Tick (sinceH h) := by
  obtain ⟨h1, h2, h3, h4, h5, h6, h7, h8, h9, h10, h11, h12, h13⟩ := t
  refine ⟨h1, h2, h3, h4, h5, h6, h7, h8, h9, h10, h11, ?_, h13⟩
  show 0 ≤ (if h.since < h.pause then h.since + 1 else h.since) ∧ (if h.since < h.pause then h.since + 1 else h.since) ≤ h.pause
  split <;> omega
theorem ordOk_drop {ls : List (List UInt8)} (h : ordOk ls) (n : Nat) : ordOk (ls.drop n) := fun x hx => h x (List.mem_of_mem_drop hx)
theorem ordOk_take {ls : List (List UInt8)} (h : ordOk ls) (n : Nat) : ordOk (ls.take n) := fun x hx => h x (List.mem_of_mem_take hx)
theorem ordOk_app {ls ms : List (List UInt8)} (h : ordOk ls) (k : ordOk ms) : ordOk (ls ++ ms) := fun x hx => by
  rcases List.mem_append.1 hx with h1 | h1
  · exact h x h1
  · exact k x h1
theorem tick_cut {h : Hnd} (t : Tick h) (n : Nat) : Tick (cutH h n) := by
  obtain ⟨h1, h2, h3, h4, h5, h6, h7, h8, h9, h10, h11, h12, h13⟩ := t
  refine ⟨?_, h2, h3, ordOk_drop h4 n, h5, h6, h7, ?_, h9, ?_, h11, h12, h13⟩
  · show ((h.sent.drop n).length : Int) ≤ h.ahead
    rw [List.length_drop]
    omega
  · show 0 ≤ (if 0 < n then 0 else h.timer) ∧ (if 0 < n then 0 else h.timer) < h.patience
    split <;> omega
  · show 0 ≤ (if 0 < n then 0 else h.tries) ∧ (if 0 < n then 0 else h.tries) ≤ h.limit
    split <;> omega
theorem tick_late {h : Hnd} (t : Tick h) (b : Bool) : Tick (lateH h b).1 := by
  obtain ⟨h1, h2, h3, h4, h5, h6, h7, h8, h9, h10, h11, h12, h13⟩ := t
  unfold lateH
  split
  · exact ⟨h1, h2, h3, h4, h5, h6, h7, (by show (0 : Int) ≤ 0 ∧ 0 < h.patience; omega), h9, h10, h11, h12, h13⟩
  · split
    · rename_i hw
      exact ⟨h1, h2, h3, h4, h5, h6, h7, (by show 0 ≤ h.timer + 1 ∧ h.timer + 1 < h.patience; omega), h9, h10, h11, h12, h13⟩
    · split
      · exact ⟨h1, h2, h3, h4, h5, h6, h7, (by show (0 : Int) ≤ 0 ∧ 0 < h.patience; omega), h9, h10, h11, (by show (0 : Int) ≤ 0 ∧ 0 ≤ h.pause; omega), h13⟩
      · exact ⟨h1, h2, h3, h4, h5, h6, h7, (by show (0 : Int) ≤ 0 ∧ 0 < h.patience; omega), h9, (by show 0 ≤ h.tries + 1 ∧ h.tries + 1 ≤ h.limit; omega), h11, (by show (0 : Int) ≤ 0 ∧ 0 ≤ h.pause; omega), h13⟩
theorem late_rows {h : Hnd} (t : Tick h) (b : Bool) : (lateH h b).2.1.length ≤ 127 ∧ ∀ x ∈ (lateH h b).2.1, x.length ≤ 1024 := by
  have h1 := t.1
  have h2 := t.2.1
  unfold lateH
  split
  · simp
  · split
    · simp
    · split
      · simp
      · exact ⟨by show (upsB _ _ _).length ≤ 127; rw [upsB_len]; omega, upsB_size _ _ _⟩
/-- What a tick leaves fits. -/
def Fits (r : Hnd × List (List UInt8) × Int) : Prop := RowsFit r.1.sent r.1.sent.length ∧ RowsFit r.1.asked r.1.asked.length ∧ RowsFit r.2.1 r.2.1.length
theorem fit_of {ls : List (List UInt8)} (h : ls.length ≤ 1000) (k : ∀ x ∈ ls, x.length ≤ 1024) : RowsFit ls ls.length := ⟨by omega, fun x hx => by have := k x hx; omega⟩
theorem fit_tick {h : Hnd} (t : Tick h) : RowsFit h.sent h.sent.length ∧ RowsFit h.asked h.asked.length := by
  obtain ⟨h1, h2, h3, h4, h5, _⟩ := t
  exact ⟨fit_of (by omega) (fun x hx => by have := h4 x hx; omega), fit_of (by omega) (fun x hx => by have := h5 x hx; omega)⟩
theorem fits_go {h : Hnd} (t : Tick h) (a b : Bool) : Fits (goH h a b) := by
  have t2 := tick_late t a
  have r2 := late_rows t a
  have f2 := fit_tick t2
  unfold goH
  split
  · have hn : moreN (lateH h a).1 ≤ (lateH h a).1.asked.length := Nat.min_le_right _ _
    have h3 := t2.2.2.1
    refine ⟨?_, ?_, ?_⟩
    · refine fit_of ?_ (fun x hx => ?_)
      · show ((lateH h a).1.sent ++ (lateH h a).1.asked.take _).length ≤ 1000
        rw [List.length_append, List.length_take]
        have := t2.1
        have := t2.2.1
        omega
      · have := ordOk_app t2.2.2.2.1 (ordOk_take t2.2.2.2.2.1 _) x hx
        omega
    · refine fit_of ?_ (fun x hx => ?_)
      · show ((lateH h a).1.asked.drop _).length ≤ 1000
        rw [List.length_drop]
        omega
      · have := ordOk_drop t2.2.2.2.2.1 _ x hx
        omega
    · refine fit_of ?_ (fun x hx => ?_)
      · show ((lateH h a).2.1 ++ upsB _ _ _).length ≤ 1000
        rw [List.length_append, upsB_len, List.length_take]
        omega
      · rcases List.mem_append.1 hx with h1 | h1
        · exact r2.2 x h1
        · exact upsB_size _ _ _ x h1
  · exact ⟨f2.1, f2.2, fit_of (by show (lateH h a).2.1.length ≤ 1000; have := r2.1; omega) r2.2⟩
theorem tick_hear {h : Hnd} (t : Tick h) (g : Gt) : Tick (hearH h g).1 := by
  unfold hearH
  split
  · exact t
  · split
    · exact tick_cut t _
    · exact tick_cut t _
theorem stepR_fits {h : Hnd} (st : Int) (heard : Bool) : Fits (stepR h st heard) := by
  unfold stepR
  split
  · rename_i hk
    have t := tick_of hk
    have t2 := tick_since t
    unfold stepS
    split
    · exact ⟨(fit_tick t).1, (fit_tick t).2, fits_nil⟩
    · split
      · split
        · exact fits_go (tick_hear t2 _) _ _
        · exact ⟨(fit_tick (tick_hear t2 _)).1, (fit_tick (tick_hear t2 _)).2, fits_nil⟩
      · exact fits_go t2 _ _
  · exact ⟨fits_nil, fits_nil, fits_nil⟩
end Go.Proofs.Ytppmdamcdhmcpaa
namespace Go.Proofs.Ytppmdamcdhmcpaa
set_option linter.unusedSimpArgs false
set_option linter.unusedVariables false
theorem i64_and255 (n : Int) : bits .and .i64 n 255 = n % 256 := by
  have h255 : (BitVec.ofInt 64 255).toNat = 2 ^ 8 - 1 := by decide
  have key : (BitVec.ofInt 64 n &&& BitVec.ofInt 64 255).toNat = (n % ((2 ^ 64 : Nat) : Int)).toNat % 2 ^ 8 := by
    rw [BitVec.toNat_and, BitVec.toNat_ofInt, h255, Nat.and_two_pow_sub_one_eq_mod]
  show IntKind.i64.wrap ((BitVec.ofInt 64 n &&& BitVec.ofInt 64 255).toNat : Nat) = n % 256
  rw [key, IntKind.wrap_i64]
  omega
end Go.Proofs.Ytppmdamcdhmcpaa
