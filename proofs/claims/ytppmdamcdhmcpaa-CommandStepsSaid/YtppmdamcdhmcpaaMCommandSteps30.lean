/-
  A hand at work in the document's StepOf: plain lemmas.
-/
import Derived.Test.YtppmdamcdhmcpaaMCommandSteps29
import Derived.Test.YtppmdamcdhmcpaaMCommandSteps19
namespace Go.Proofs.Ytppmdamcdhmcpaa
set_option linter.unusedSimpArgs false
set_option linter.unusedVariables false
open Go.RowKit

/-- A hand at work, by the document. -/
def StepInv (w : World) (base : Nat) (h : Hnd) (S A : Option Addr) (n1 c n2 d : Nat) (sl al : List RowR) (W : World) : Prop :=
  Hid (sl.map RowR.b = h.sent) ∧ Hid (al.map RowR.b = h.asked) ∧ Blk W w.heap.size 25 #[.int .i64 h.craft, .int .i64 h.next, .int .i64 h.ahead, .slice S n1 c, .slice A n2 d, .int .i64 h.timer, .int .i64 h.patience, .int .i64 h.tries, .int .i64 h.limit, .int .i64 h.since, .int .i64 h.pause, .int .i64 h.halt] ∧ Blk W (w.heap.size + 1) 25 #[.int .i64 0, .int .i64 0, .int .i64 0, .slice none 0 0, .slice none 0 0, .int .i64 0, .int .i64 0, .int .i64 0, .int .i64 0, .int .i64 0, .int .i64 0, .int .i64 0] ∧ OwnRs W base S n1 c sl ∧ OwnRs W base A n2 d al ∧ Disj S sl A al ∧ Below w.heap.size w W ∧ w.heap.size + 2 ≤ base ∧ base ≤ W.heap.size
theorem StepInv.put {w W : World} {base : Nat} {h h' : Hnd} {S A : Option Addr} {n1 c n2 d : Nat} {sl al : List RowR} (i : StepInv w base h S A n1 c n2 d sl al W) (k : Nat) (v : Value) (hs : h'.sent = h.sent) (ha : h'.asked = h.asked) (hc : (#[.int .i64 h.craft, .int .i64 h.next, .int .i64 h.ahead, .slice S n1 c, .slice A n2 d, .int .i64 h.timer, .int .i64 h.patience, .int .i64 h.tries, .int .i64 h.limit, .int .i64 h.since, .int .i64 h.pause, .int .i64 h.halt] : Array Value).setIfInBounds k v = #[.int .i64 h'.craft, .int .i64 h'.next, .int .i64 h'.ahead, .slice S n1 c, .slice A n2 d, .int .i64 h'.timer, .int .i64 h'.patience, .int .i64 h'.tries, .int .i64 h'.limit, .int .i64 h'.since, .int .i64 h'.pause, .int .i64 h'.halt]) : StepInv w base h' S A n1 c n2 d sl al (W.setCell ⟨w.heap.size, k, none⟩ v) := by
  obtain ⟨i1, i2, i3, i4, i5, i6, i7, i8, i9, i10⟩ := i
  refine ⟨Lib.hid (i1.out.trans hs.symm), Lib.hid (i2.out.trans ha.symm), by rw [← hc]; exact i3.set_ k v, i4.far (p := ⟨w.heap.size, k, none⟩) (by show w.heap.size + 1 ≠ w.heap.size; omega) v, i5.low (p := ⟨w.heap.size, k, none⟩) (by show w.heap.size < base; omega) v, i6.low (p := ⟨w.heap.size, k, none⟩) (by show w.heap.size < base; omega) v, i7, i8.setCell (p := ⟨w.heap.size, k, none⟩) (Nat.le_refl _) v, i9, by simpa using i10⟩
theorem StepInv.drewN {w W : World} {base : Nat} {h : Hnd} {S A : Option Addr} {n1 c n2 d : Nat} {sl al : List RowR} (i : StepInv w base h S A n1 c n2 d sl al W) (k : Nat) : StepInv w base h S A n1 c n2 d sl al (W.drewN k) := by
  obtain ⟨i1, i2, i3, i4, i5, i6, i7, i8, i9, i10⟩ := i
  exact ⟨i1, i2, i3.drewN k, i4.drewN k, i5.drewN k, i6.drewN k, i7, below_drewN i8 k, i9, i10⟩
theorem StepInv.step {w W V : World} {base : Nat} {h : Hnd} {S A : Option Addr} {n1 c n2 d : Nat} {sl al : List RowR} (i : StepInv w base h S A n1 c n2 d sl al W) (hb : Below W.heap.size W V) : StepInv w base h S A n1 c n2 d sl al V := by
  obtain ⟨i1, i2, i3, i4, i5, i6, i7, i8, i9, i10⟩ := i
  exact ⟨i1, i2, i3.step hb, i4.step hb, i5.step hb, i6.step hb, i7, i8.trans (hb.mono i8.size), i9, Nat.le_trans i10 hb.size⟩
theorem StepInv.grown {w W V : World} {base : Nat} {h : Hnd} {S A : Option Addr} {n1 c n2 d : Nat} {sl al : List RowR} {row : Option Nat} (i : StepInv w base h S A n1 c n2 d sl al W) (hg : W.grownBy V row) (hr : ∀ q, row = some q → base ≤ q ∧ ¬ Touch S sl q ∧ ¬ Touch A al q) : StepInv w base h S A n1 c n2 d sl al V := by
  obtain ⟨i1, i2, i3, i4, i5, i6, i7, i8, i9, i10⟩ := i
  exact ⟨i1, i2, i3.over hg (fun q hq e => by have := (hr q hq).1; injection e with e; omega), i4.over hg (fun q hq e => by have := (hr q hq).1; injection e with e; omega), i5.over hg (fun q hq => (hr q hq).2.1), i6.over hg (fun q hq => (hr q hq).2.2), i7, i8.grown hg i8.size (fun q hq => by have := (hr q hq).1; omega), i9, Nat.le_trans i10 hg.size⟩
def sliceLen : Value → Nat
  | .slice _ n _ => n
  | _ => 0
/-- k rounds of new ones are done, by the document. -/
def MoreInv (w : World) (base : Nat) (h3 : Hnd) (k3n n2 nR3 : Nat) (sl3 al rl3 : List RowR) (z k : Nat) (ov : Value) (wr : World) : Prop :=
  ∃ S6 c6 A6 d6 R cR rl, ov = .slice R (nR3 + k) cR ∧ StepInv w base (moreK h3 k) S6 A6 (k3n + k) c6 (n2 - k) d6 (sl3 ++ al.take k) (al.drop k) wr ∧ OwnRs wr base R (nR3 + k) cR rl ∧ Hid (rl.map RowR.b = rl3.map RowR.b ++ upsB h3.craft h3.next (h3.asked.take k)) ∧ Disj S6 (sl3 ++ al.take k) R rl ∧ Disj A6 (al.drop k) R rl ∧ z ≤ wr.heap.size
theorem more_zero {h : Hnd} (hn : 0 ≤ h.next ∧ h.next ≤ 255) : moreK h 0 = h := by
  unfold moreK
  rw [show (h.next + ((0 : Nat) : Int)) % 256 = h.next by omega]
  simp
theorem more_succ {h : Hnd} {k : Nat} {b : List UInt8} (hb : h.asked[k]? = some b) : ({ moreK h k with sent := (moreK h k).sent ++ [b], asked := (moreK h k).asked.drop 1, next := (h.next + ((k + 1 : Nat) : Int)) % 256 } : Hnd) = moreK h (k + 1) := by
  unfold moreK
  dsimp only
  rw [List.take_add_one, hb, List.drop_drop, List.append_assoc]
  rfl
theorem touch_snoc {A : Option Addr} {l : List RowR} {x : RowR} {q : Nat} (h : Touch A (l ++ [x]) q) : blk A = some q ∨ (∃ (i : Nat) (r : RowR), l[i]? = some r ∧ blk r.A = some q) ∨ blk x.A = some q := by
  rcases h with h | ⟨i, r, hr, hq⟩
  · exact .inl h
  · rcases Nat.lt_or_ge i l.length with h6 | h6
    · rw [List.getElem?_append_left h6] at hr
      exact .inr (.inl ⟨i, r, hr, hq⟩)
    · have hi := (List.getElem?_eq_some_iff.1 hr).1
      rw [List.length_append, List.length_singleton] at hi
      rw [List.getElem?_append_right h6, show i - l.length = 0 by omega] at hr
      injection hr with hr
      subst hr
      exact .inr (.inr hq)
theorem disj_grown {S R R' : Option Addr} {sl rl : List RowR} {x : RowR} {m m' : Nat} (h : Disj S sl R rl) (hS : ∀ q, Touch S sl q → q < m) (hR : blk R' = blk R ∨ blk R' = some m') (hm : m ≤ m') (hx : ∀ q, blk x.A = some q → m ≤ q) : Disj S sl R' (rl ++ [x]) := fun q h1 h2 => by
  have hq := hS q h1
  rcases touch_snoc h2 with e | e | e
  · rcases hR with f | f
    · rw [f] at e; exact h q h1 (.inl e)
    · rw [f] at e; have := Option.some.inj e; omega
  · exact h q h1 (.inr e)
  · have := hx q e; omega
/-- A row goes over: from the front of these to the back of those. -/
theorem disj_moved {S B A R : Option Addr} {sl al rl : List RowR} {x : RowR} {m : Nat} (h : Disj S sl R rl) (k : Disj A al R rl) (hx : al[0]? = some x) (hR : ∀ q, Touch R rl q → q < m) (hB : blk B = blk S ∨ blk B = some m) : Disj B (sl ++ [x]) R rl := fun q h1 h2 => by
  have hq := hR q h2
  rcases touch_snoc h1 with e | e | e
  · rcases hB with f | f
    · rw [f] at e; exact h q (.inl e) h2
    · rw [f] at e; have := Option.some.inj e; omega
  · exact h q (.inr e) h2
  · exact k q (.inr ⟨0, x, hx, e⟩) h2
set_option maxHeartbeats 3200000 in
theorem StepInv.moved {w W W' : World} {base m c' : Nat} {h h' : Hnd} {S A B : Option Addr} {n1 c n2 d : Nat} {sl al : List RowR} {x : RowR} (i : StepInv w base h S A n1 c n2 d sl al W) (hx : al[0]? = some x) (hg : W.grownBy W' (blk S)) (hB : Own W' base 26 1 B (n1 + 1) c' (rowvs sl ++ [.slice x.A x.b.length x.c])) (hor : blk B = blk S ∨ blk B = some m) (hm : W.heap.size ≤ m) (v : Value)
    (hs : h'.sent = h.sent ++ [x.b]) (ha : h'.asked = h.asked.drop 1) (hc : (((#[.int .i64 h.craft, .int .i64 h.next, .int .i64 h.ahead, .slice S n1 c, .slice A n2 d, .int .i64 h.timer, .int .i64 h.patience, .int .i64 h.tries, .int .i64 h.limit, .int .i64 h.since, .int .i64 h.pause, .int .i64 h.halt] : Array Value).setIfInBounds 3 (.slice B (n1 + 1) c')).setIfInBounds 4 (.slice (if d = 1 then A else Option.map (fun x => x.add 1) A) (n2 - 1) (d - 1))).setIfInBounds 1 v = #[.int .i64 h'.craft, .int .i64 h'.next, .int .i64 h'.ahead, .slice B (n1 + 1) c', .slice (if d = 1 then A else Option.map (fun x => x.add 1) A) (n2 - 1) (d - 1), .int .i64 h'.timer, .int .i64 h'.patience, .int .i64 h'.tries, .int .i64 h'.limit, .int .i64 h'.since, .int .i64 h'.pause, .int .i64 h'.halt]) (hp : 0 < n2) :
    StepInv w base h' B (if d = 1 then A else Option.map (fun x => x.add 1) A) (n1 + 1) c' (n2 - 1) (d - 1) (sl ++ [x]) (al.drop 1) (((W'.setCell ⟨w.heap.size, 3, none⟩ (.slice B (n1 + 1) c')).setCell ⟨w.heap.size, 4, none⟩ (.slice (if d = 1 then A else Option.map (fun x => x.add 1) A) (n2 - 1) (d - 1))).setCell ⟨w.heap.size, 1, none⟩ v) := by
  obtain ⟨i1, i2, i3, i4, i5, i6, i7, i8, i9, i10⟩ := i
  have h3 := i3.over hg (fun q hq e => (i5.arr.notBlk i3 (by decide)) (by rw [hq, e]))
  have h4 := i4.over hg (fun q hq e => (i5.arr.notBlk i4 (by decide)) (by rw [hq, e]))
  have h6 := (i6.over hg (fun q hq => i7 q (.inl hq)))
  have hd := h6.drop (k := 1) hp
  have h5 : OwnBs W' base sl := i5.bs.map fun j r hr hO => hO.over hg (fun q hq e => (hO.apart i5.arr (by decide)) q e hq)
  have hxO := h6.bs.1 0 x hx
  have h5' : OwnRs W' base B (n1 + 1) c' (sl ++ [x]) := ⟨by rw [rowvs_snoc]; exact hB, h5.snoc hxO (fun j y hy q hq hq2 => i7 q (.inr ⟨j, y, hy, hq⟩) (.inr ⟨0, x, hx, hq2⟩))⟩
  have hbel : Below w.heap.size w W' := i8.grown hg i8.size (fun q hq => by have := i5.arr.lt q hq; omega)
  have e1 : ∀ k : Nat, (⟨w.heap.size, k, none⟩ : Addr).block < base := fun k => by show w.heap.size < base; omega
  have e2 : ∀ k : Nat, w.heap.size + 1 ≠ (⟨w.heap.size, k, none⟩ : Addr).block := fun k => by show w.heap.size + 1 ≠ w.heap.size; omega
  refine ⟨Lib.hid ?_, Lib.hid ?_, by rw [← hc]; exact ((h3.set_ 3 _).set_ 4 _).set_ 1 _, ((h4.far (e2 3) _).far (e2 4) _).far (e2 1) _, ((h5'.low (e1 3) _).low (e1 4) _).low (e1 1) _, ((hd.low (e1 3) _).low (e1 4) _).low (e1 1) _, ?_, ((hbel.setCell (p := ⟨w.heap.size, 3, none⟩) (Nat.le_refl _) _).setCell (p := ⟨w.heap.size, 4, none⟩) (Nat.le_refl _) _).setCell (p := ⟨w.heap.size, 1, none⟩) (Nat.le_refl _) _, i9, by have := hg.size; simp; omega⟩
  · rw [List.map_append, i1.out, hs]; rfl
  · rw [List.map_drop, i2.out, ha]
  · intro q h1 h2
    have ht := touch_drop h2
    have hl := (i6.lt ht).2
    rcases touch_snoc h1 with e | e | e
    · rcases hor with f | f
      · rw [f] at e; exact i7 q (.inl e) ht
      · rw [f] at e; have := Option.some.inj e; omega
    · exact i7 q (.inr e) ht
    · rcases h2 with e2 | ⟨j, r, hr, e2⟩
      · exact (hxO.apart h6.arr (by decide)) q e (blk_drop e2)
      · rw [List.getElem?_drop] at hr
        exact i6.bs.2 0 (1 + j) x r (by omega) hx hr q e e2
end Go.Proofs.Ytppmdamcdhmcpaa
