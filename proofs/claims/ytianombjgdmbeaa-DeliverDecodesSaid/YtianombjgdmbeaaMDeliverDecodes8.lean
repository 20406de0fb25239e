/-
  Two slices of the call's own, of unlike types, share no block; what a set of blocks leaves alone. A reader of bytes: number, rest ((*reader).number, (*reader).rest).
-/
import Derived.Test.YtianombjgdmbeaaMDeliverDecodes1
import Derived.Test.YtianombjgdmbeaaMDeliverDecodes3
import Derived.Test.YtianombjgdmbeaaMDeliverDecodes7
namespace Go.Proofs.Ytianombjgdmbeaa
set_option linter.unusedSimpArgs false
set_option linter.unusedVariables false
open Go.RowKit

theorem Own.apart {w : World} {b b' : Nat} {e e' : TypeId} {s s' n n' c c' : Nat} {A A' : Option Addr} {xs ys : List Value} (h : Own w b e s A n c xs) (h' : Own w b' e' s' A' n' c' ys) (hne : e ≠ e') : ∀ q, blk A = some q → blk A' ≠ some q := by
  intro q hq hq'
  rcases A with _ | a
  · simp [blk] at hq
  rcases A' with _ | a'
  · simp [blk] at hq'
  obtain ⟨cur, _, _, hh, _⟩ := h.at_ _ rfl
  obtain ⟨cur', _, _, hh', _⟩ := h'.at_ _ rfl
  have e1 : a.block = q := by simpa [blk] using hq
  have e2 : a'.block = q := by simpa [blk] using hq'
  rw [e1] at hh
  rw [e2] at hh'
  have := hh.symm.trans hh'
  injection this with this
  injection this with _ this
  exact hne this
theorem Own.notBlk {w : World} {b : Nat} {e t : TypeId} {s n c g : Nat} {A : Option Addr} {xs : List Value} {cs : Array Value} (h : Own w b e s A n c xs) (hb : Blk w g t cs) (hne : e ≠ t) : blk A ≠ some g := by
  intro hq
  rcases A with _ | a
  · simp [blk] at hq
  · obtain ⟨cur, _, _, hh, _⟩ := h.at_ a rfl
    have ha : a.block = g := by simpa [blk] using hq
    rw [ha] at hh
    have := hh.symm.trans hb
    injection this with this
    injection this with _ this
    exact hne this
/-- Only the blocks of S, and new ones, have turned. -/
structure Turned (w w' : World) (S : Nat → Prop) : Prop where
  os : w'.os = w.os
  tape : w'.tape = w.tape
  output : w'.output = w.output
  size : w.heap.size ≤ w'.heap.size
  block : ∀ k, k < w.heap.size → ¬ S k → w'.heap[k]? = w.heap[k]?
section
variable {w v v' w' : World} {S : Nat → Prop}
theorem Turned.refl (w : World) (S : Nat → Prop) : Turned w w S := ⟨rfl, rfl, rfl, Nat.le_refl _, fun _ _ _ => rfl⟩
theorem Turned.mono {T : Nat → Prop} (h : Turned w w' S) (hS : ∀ k, k < w.heap.size → S k → T k) : Turned w w' T := ⟨h.os, h.tape, h.output, h.size, fun k hk hn => h.block k hk (fun hs => hn (hS k hk hs))⟩
theorem Turned.trans (h : Turned w v S) {T : Nat → Prop} (k : Turned v v' T) (hT : ∀ i, i < w.heap.size → T i → S i) : Turned w v' S :=
  ⟨k.os.trans h.os, k.tape.trans h.tape, k.output.trans h.output, Nat.le_trans h.size k.size, fun i hi hn => (k.block i (Nat.lt_of_lt_of_le hi h.size) (fun ht => hn (hT i hi ht))).trans (h.block i hi hn)⟩
theorem below_turned (h : Below w.heap.size w w') : Turned w w' (fun _ => False) := ⟨h.os, h.tape, h.output, h.size, fun k hk _ => h.block k hk⟩
theorem grownBy_turned {row : Option Nat} (h : w.grownBy w' row) : Turned w w' (fun k => row = some k) := ⟨h.os, h.tape, h.output, h.size, fun k hk hn => h.block k hk (fun e => hn e.symm)⟩
theorem Turned.step (h : Turned w v S) (k : Below v.heap.size v v') : Turned w v' S := h.trans (below_turned k) (fun _ _ f => f.elim)
theorem Turned.grown (h : Turned w v S) {row : Option Nat} (k : v.grownBy v' row) (hr : ∀ q, row = some q → q < w.heap.size → S q) : Turned w v' S := h.trans (grownBy_turned k) (fun i hi e => hr i e hi)
theorem Turned.set (h : Turned w v S) {p : Addr} (hp : p.block < w.heap.size → S p.block) (u : Value) : Turned w (v.setCell p u) S :=
  ⟨h.os, h.tape, h.output, by simpa using h.size, fun i hi hn => (Below.heap_setCell v p u i (fun e => hn (by subst e; exact hp hi))).trans (h.block i hi hn)⟩
theorem Turned.drewN (h : Turned w v S) (n : Nat) : Turned w (v.drewN n) S := ⟨h.os, h.tape, h.output, h.size, h.block⟩
theorem Turned.below {N : Nat} (h : Turned w w' S) (hS : ∀ k, S k → N ≤ k) (hN : N ≤ w.heap.size) : Below N w w' := ⟨h.os, h.tape, h.output, h.size, fun k hk => h.block k (by omega) (fun hs => by have := hS k hs; omega)⟩
theorem Blk.turned {g : Nat} {t : TypeId} {cs : Array Value} (h : Blk w g t cs) (k : Turned w w' S) (hg : ¬ S g) : Blk w' g t cs := (k.block g h.lt hg).trans h
theorem Own.turned {b : Nat} {e : TypeId} {s n c : Nat} {A : Option Addr} {xs : List Value} (h : Own w b e s A n c xs) (k : Turned w w' S) (hA : ∀ q, blk A = some q → ¬ S q) : Own w' b e s A n c xs :=
  h.keep fun a ha hl => k.block _ hl (hA _ (map_block_of_some ha))
theorem Rd.turned {A : Option Addr} {xs : List Value} (h : Rd w A xs) (k : Turned w w' S) (hA : ∀ q, blk A = some q → ¬ S q) : Rd w' A xs :=
  h.keep fun a ha hl => k.block _ hl (hA _ (map_block_of_some ha))
end
end Go.Proofs.Ytianombjgdmbeaa
namespace Go.Proofs.Ytianombjgdmbeaa
set_option linter.unusedSimpArgs false
set_option linter.unusedVariables false
open Go.RowKit

/-- The number of the first k bytes. -/
def beN (l : List UInt8) : Nat → Nat
  | 0 => 0
  | k + 1 => beN l k * 256 + bAt l k
theorem beN_succ (l : List UInt8) (k : Nat) : beN l (k + 1) = beN l k * 256 + bAt l k := rfl
theorem beN_lt (l : List UInt8) : ∀ k, beN l k < 256 ^ k
  | 0 => by simp [beN]
  | k + 1 => by
    have h := beN_lt l k
    have hb := bAt_lt l k
    rw [beN_succ, Nat.pow_succ]
    omega
theorem beN_small {l : List UInt8} {k : Nat} (h : k ≤ 4) : beN l k < 4294967296 := by
  refine Nat.lt_of_lt_of_le (beN_lt l k) ?_
  calc 256 ^ k ≤ 256 ^ 4 := Nat.pow_le_pow_right (by omega) h
    _ = 4294967296 := by decide
theorem beN_1 (l : List UInt8) : (beN l 1 : Int) = (bAt l 0 : Int) := by simp [beN]
theorem beN_2 (l : List UInt8) : (beN l 2 : Int) = (bAt l 0 : Int) * 256 + (bAt l 1 : Int) := by simp [beN]
theorem beN_4 (l : List UInt8) : (beN l 4 : Int) = fAt l 0 := by
  simp only [fAt, beN, Nat.zero_add]
  omega
/-- What is left behind a taking. -/
def nxtA (A : Option Addr) (c k : Nat) : Option Addr := if c = k then A else Option.map (fun x => x.add k) A
theorem Rd.nxt {w : World} {A : Option Addr} {l : List UInt8} {c k : Nat} (h : Rd w A (bvs l)) (hk : l.length ≤ c) : Rd w (nxtA A c k) (bvs (l.drop k)) := by
  unfold nxtA
  split
  · rw [List.drop_eq_nil_of_le (by omega)]
    exact Rd.nil _ _
  · have := h.drop k
    rw [show (bvs l).drop k = bvs (l.drop k) by simp [bvs, List.map_drop]] at this
    exact this
theorem blk_nxt {A : Option Addr} {c k : Nat} : blk (nxtA A c k) = blk A := by
  unfold nxtA
  split
  · rfl
  · cases A
    · rfl
    · simp only [blk, Addr.add, Option.map_some]
      split <;> rfl
theorem num_or4 {n x : Nat} (h : n < 4294967296) (hx : x < 256) : bits .or .i64 ((n : Int) * 256) (x : Int) = ((n * 256 + x : Nat) : Int) := by
  have := or_i64 (x := n * 256) (y := x) (m := 8) (by omega) (by omega) (by omega)
  rw [← this]
  congr 1
set_option maxHeartbeats 1600000 in
set_option maxRecDepth 100000 in
theorem number_yes (b : Nat) (A : Option Addr) (n c k : Nat) (l : List UInt8) (w : World) (hb : Blk w b 72 #[.slice A n c]) (hl : l.length = n) (hR : Rd w A (bvs l)) (hA : blk A ≠ some b) (hk : k ≤ n) (hk4 : k ≤ 4) (hc : n ≤ c) (hz : c ≤ 9223372036854775807) :
    Calls Try.prog 87 #[.pointer (some ⟨b, 0, none⟩), .int .i64 (k : Int)] w fun e w' => e = .returned (.int .i64 ((beN l k : Nat) : Int)) ∧ w' = w.setCell ⟨b, 0, none⟩ (.slice (nxtA A c k) (n - k) (c - k)) := by
  have CT := Lib.hid (take_yes b A n c k w hb hk hc hz)
  have hR2 : Rd (w.setCell ⟨b, 0, none⟩ (.slice (nxtA A c k) (n - k) (c - k))) A (bvs l) := hR.setCell (p := ⟨b, 0, none⟩) hA _
  have HL := Lib.hid hl
  clear hb hR hl
  go_enter Try.func87, Try.ntmps87
  go_wp2_with fail
  refine CT.out.mono ?_
  rintro e w' ⟨rfl, hw'⟩
  rw [show (if c = k then A else Option.map (fun x => x.add k) A) = nxtA A c k from rfl] at hw'
  subst hw'
  obtain ⟨W, hW⟩ : ∃ W, w.setCell ⟨b, 0, none⟩ (.slice (nxtA A c k) (n - k) (c - k)) = W := ⟨_, rfl⟩
  rw [hW] at hR2 ⊢
  have HW := Lib.hid hW
  clear CT hW
  go_wp2_with fail
  go_loop [4, 11] (fun s i => ∃ j : Nat, j ≤ k ∧ i = .int .i64 (j : Int) ∧ s = .int .i64 ((beN l j : Nat) : Int)) (fun _ i => k - (intOf i).toNat)
  case atStart => exact ⟨0, by omega, rfl, rfl⟩
  case round =>
    obtain ⟨j, hj, rfl, rfl⟩ := hrel
    by_cases h5 : j < k
    · have hjl : j < l.length := by rw [HL.out]; omega
      obtain ⟨b0, off, rfl, hcl⟩ := hR2.byte hjl
      have e1 := Lib.hid (bAt_in (l := l) (i := j) hjl)
      rw [← e1.out] at hcl
      have Hs := Lib.hid (beN_succ l j)
      have hlt := beN_small (l := l) (k := j) (by omega)
      have hx := bAt_lt l j
      have HO := Lib.hid (num_or4 hlt hx)
      generalize beN l j = s at *
      generalize bAt l j = x at *
      clear hR2 e1
      go_wp2
      go_round
      case rel => exact ⟨j + 1, by omega, by go_num, by rw [Hs.out, HO.out]⟩
      case measure => simp [intOf]; omega
    · obtain rfl : j = k := by omega
      go_wp2
      go_ret
      exact ⟨rfl, HW.out.symm⟩
set_option maxHeartbeats 1600000 in
set_option maxRecDepth 100000 in
theorem number_no (b : Nat) (A : Option Addr) (n c k : Nat) (w : World) (hb : Blk w b 72 #[.slice A n c]) (hk : n < k) (hz : k ≤ 140737488351300) :
    Calls Try.prog 87 #[.pointer (some ⟨b, 0, none⟩), .int .i64 (k : Int)] w fun e w' => e = .panicked [{ v := .iface 71 (.agg #[]), recovered := false }] ∧ w' = w := by
  have CT := Lib.hid (take_no b A n c k w hb hk hz)
  clear hb
  go_enter Try.func87, Try.ntmps87
  go_wp2_with fail
  refine CT.out.mono ?_
  rintro e w' ⟨rfl, rfl⟩
  go_wp2_with fail
  exact ⟨rfl, rfl, rfl⟩
set_option maxHeartbeats 1600000 in
set_option maxRecDepth 100000 in
theorem rest_any (b : Nat) (A : Option Addr) (n c : Nat) (l : List UInt8) (w : World) (hb : Blk w b 72 #[.slice A n c]) (hl : l.length = n) (hR : Rd w A (bvs l)) (hA : blk A ≠ some b) (hc : n ≤ c) (hz : c ≤ 9223372036854775807) (hn : n ≤ 140737488351300) :
    Calls Try.prog 88 #[.pointer (some ⟨b, 0, none⟩)] w fun e w' => ∃ D dc, e = .returned (.slice D n dc) ∧ Own w' w.heap.size 5 1 D n dc (bvs l) ∧ Blk w' b 72 #[.slice (nxtA A c n) 0 (c - n)] ∧ Turned w w' (fun i => i = b) := by
  have CT := Lib.hid (take_yes b A n c n w hb (Nat.le_refl _) hc hz)
  have hR2 : Rd (w.setCell ⟨b, 0, none⟩ (.slice (nxtA A c n) (n - n) (c - n))) A (bvs l) := hR.setCell (p := ⟨b, 0, none⟩) hA _
  have hb2 := hb.set_ 0 (.slice (nxtA A c n) (n - n) (c - n))
  have hT := (Turned.refl w (fun i => i = b)).set (p := ⟨b, 0, none⟩) (fun _ => rfl) (.slice (nxtA A c n) (n - n) (c - n))
  have hsz : (w.setCell ⟨b, 0, none⟩ (.slice (nxtA A c n) (n - n) (c - n))).heap.size = w.heap.size := by simp
  have CC := Lib.hid (clone_n A l n n _ hl hR2 hn)
  have d0 : w.cell? ⟨b, 0, none⟩ = some (.slice A n c) := hb.cell' (i := 0) rfl
  clear hb hR hR2 hl
  go_enter Try.func88, Try.ntmps88
  go_wp2_with fail
  refine CT.out.mono ?_
  rintro e w' ⟨rfl, hw'⟩
  rw [show (if c = n then A else Option.map (fun x => x.add n) A) = nxtA A c n from rfl] at hw'
  subst hw'
  clear d0 CT
  have HSZ := Lib.hid hsz
  clear hsz
  generalize w.setCell ⟨b, 0, none⟩ (.slice (nxtA A c n) (n - n) (c - n)) = W at *
  go_wp2_with fail
  refine CC.out.mono ?_
  rintro e w2 ⟨D, dc, rfl, hO, hbw⟩
  go_wp2_with fail
  go_ret
  refine ⟨D, dc, rfl, by rw [← HSZ.out]; exact hO, ?_, hT.step hbw⟩
  have := hb2.step hbw
  rw [show n - n = 0 by omega] at this
  exact this
end Go.Proofs.Ytianombjgdmbeaa
