/-
  Rows of rows of bytes that belong to the call.
-/
import Derived.Test.YtppmdamcdhmcpaaMCommandSteps3
import Derived.Test.YtppmdamcdhmcpaaMCommandSteps5
import Derived.Test.YtppmdamcdhmcpaaMCommandSteps2
namespace Go.Proofs.Ytppmdamcdhmcpaa
set_option linter.unusedSimpArgs false
set_option linter.unusedVariables false
open Go.RowKit

structure RowR where
  b : List UInt8
  A : Option Addr
  c : Nat
def rowv (r : RowR) : Value := .slice r.A r.b.length r.c
def rowvs (l : List RowR) : List Value := l.map rowv
theorem rowvs_len (l : List RowR) : (rowvs l).length = l.length := by simp [rowvs]
theorem rowvs_get {l : List RowR} {i : Nat} {r : RowR} (h : l[i]? = some r) : (rowvs l)[i]? = some (.slice r.A r.b.length r.c) := by simp [rowvs, h, rowv]
theorem rowvs_set (l : List RowR) (i : Nat) (r : RowR) : (rowvs l).set i (.slice r.A r.b.length r.c) = rowvs (l.set i r) := by unfold rowvs; rw [List.map_set]; rfl
theorem rowvs_snoc (l : List RowR) (r : RowR) : rowvs (l ++ [r]) = rowvs l ++ [.slice r.A r.b.length r.c] := by simp [rowvs, rowv]
theorem rowvs_one (l : List RowR) : ∀ u ∈ rowvs l, u.oneCell' = true := by
  intro u hu
  simp only [rowvs, List.mem_map] at hu
  obtain ⟨x, _, rfl⟩ := hu
  rfl
/-- Each row lies in a block of its own. -/
def OwnBs (w : World) (base : Nat) (l : List RowR) : Prop :=
  (∀ (i : Nat) (r : RowR), l[i]? = some r → Own w base 5 1 r.A r.b.length r.c (bvs r.b)) ∧
  ∀ (i j : Nat) (r s : RowR), i < j → l[i]? = some r → l[j]? = some s → ∀ q, blk r.A = some q → blk s.A ≠ some q
/-- The array of the rows, and these. -/
structure OwnRs (w : World) (base : Nat) (A : Option Addr) (n c : Nat) (l : List RowR) : Prop where
  arr : Own w base 26 1 A n c (rowvs l)
  bs : OwnBs w base l
/-- A block of theirs. -/
def Touch (A : Option Addr) (l : List RowR) (q : Nat) : Prop := blk A = some q ∨ ∃ (i : Nat) (r : RowR), l[i]? = some r ∧ blk r.A = some q
section
variable {w w' : World} {base : Nat} {A : Option Addr} {n c : Nat} {l : List RowR}
theorem OwnBs.nil (w : World) (base : Nat) : OwnBs w base [] := ⟨fun i x h => by simp at h, fun i j x y _ h => by simp at h⟩
theorem OwnBs.map (h : OwnBs w base l) {base' : Nat} (k : ∀ (i : Nat) (r : RowR), l[i]? = some r → Own w base 5 1 r.A r.b.length r.c (bvs r.b) → Own w' base' 5 1 r.A r.b.length r.c (bvs r.b)) : OwnBs w' base' l := ⟨fun i x hx => k i x hx (h.1 i x hx), h.2⟩
theorem OwnBs.lt (h : OwnBs w base l) {i : Nat} {r : RowR} (hr : l[i]? = some r) {q : Nat} (hq : blk r.A = some q) : base ≤ q ∧ q < w.heap.size := (h.1 i r hr).lt q hq
theorem OwnBs.step (h : OwnBs w base l) (hb : Below w.heap.size w w') : OwnBs w' base l := h.map fun _ _ _ h => h.below hb
theorem OwnBs.snoc (h : OwnBs w base l) {x : RowR} (hx : Own w base 5 1 x.A x.b.length x.c (bvs x.b)) (hne : ∀ (i : Nat) (y : RowR), l[i]? = some y → ∀ q, blk y.A = some q → blk x.A ≠ some q) : OwnBs w base (l ++ [x]) := by
  constructor
  · intro i y hy
    rcases Nat.lt_or_ge i l.length with h1 | h1
    · rw [List.getElem?_append_left h1] at hy
      exact h.1 i y hy
    · rw [List.getElem?_append_right h1] at hy
      rcases Nat.eq_zero_or_pos (i - l.length) with h2 | h2
      · rw [h2] at hy
        simp at hy
        subst hy
        exact hx
      · rw [List.getElem?_eq_none (by simp; omega)] at hy
        cases hy
  · intro i j y z hij hy hz q hq
    rcases Nat.lt_or_ge j l.length with h1 | h1
    · rw [List.getElem?_append_left h1] at hz
      rw [List.getElem?_append_left (by omega)] at hy
      exact h.2 i j y z hij hy hz q hq
    · rw [List.getElem?_append_right h1] at hz
      rcases Nat.eq_zero_or_pos (j - l.length) with h2 | h2
      · rw [h2] at hz
        simp at hz
        subst hz
        rw [List.getElem?_append_left (by omega)] at hy
        exact hne i y hy q hq
      · rw [List.getElem?_eq_none (by simp; omega)] at hz
        cases hz
/-- A part of the rows. -/
theorem OwnBs.sub {m : List RowR} (h : OwnBs w base l) (f : Nat → Nat) (hf : ∀ i j, i < j → f i < f j) (hm : ∀ (i : Nat) (x : RowR), m[i]? = some x → l[f i]? = some x) : OwnBs w base m :=
  ⟨fun i x hx => h.1 (f i) x (hm i x hx), fun i j x y hij hx hy => h.2 (f i) (f j) x y (hf i j hij) (hm i x hx) (hm j y hy)⟩
theorem OwnRs.nil (w : World) (base : Nat) : OwnRs w base none 0 0 [] := ⟨Own.none_ _ _ _ _, OwnBs.nil _ _⟩
theorem OwnRs.lt (h : OwnRs w base A n c l) {q : Nat} (hq : Touch A l q) : base ≤ q ∧ q < w.heap.size := by
  rcases hq with hq | ⟨i, r, hr, hq⟩
  · exact h.arr.lt q hq
  · exact h.bs.lt hr hq
theorem OwnRs.keep (h : OwnRs w base A n c l) (k : ∀ q, Touch A l q → w'.heap[q]? = w.heap[q]?) : OwnRs w' base A n c l :=
  ⟨h.arr.keep fun a ha _ => k _ (.inl (map_block_of_some ha)), h.bs.map fun i r hr hO => hO.keep fun a ha _ => k _ (.inr ⟨i, r, hr, map_block_of_some ha⟩)⟩
theorem OwnRs.step (h : OwnRs w base A n c l) (hb : Below w.heap.size w w') : OwnRs w' base A n c l := h.keep fun q hq => hb.block q (h.lt hq).2
theorem OwnRs.alloc (h : OwnRs w base A n c l) (o : Obj) : OwnRs (w.alloc o) base A n c l := h.step ((Below.refl _ _).alloc (Nat.le_refl _) _)
theorem OwnRs.drewN (h : OwnRs w base A n c l) (k : Nat) : OwnRs (w.drewN k) base A n c l := h.keep fun _ _ => rfl
theorem OwnRs.drew (h : OwnRs w base A n c l) : OwnRs w.drew base A n c l := h.keep fun _ _ => rfl
theorem OwnRs.far (h : OwnRs w base A n c l) {p : Addr} (hp : ¬ Touch A l p.block) (u : Value) : OwnRs (w.setCell p u) base A n c l := h.keep fun q hq => Below.heap_setCell w p u q (fun e => hp (by rw [← e]; exact hq))
theorem OwnRs.low (h : OwnRs w base A n c l) {p : Addr} (hp : p.block < base) (u : Value) : OwnRs (w.setCell p u) base A n c l := h.far (fun ht => by have := (h.lt ht).1; omega) u
theorem OwnRs.over (h : OwnRs w base A n c l) {row : Option Nat} (hg : w.grownBy w' row) (hr : ∀ q, row = some q → ¬ Touch A l q) : OwnRs w' base A n c l := h.keep fun q hq => hg.block q (h.lt hq).2 (fun e => hr q e.symm hq)
theorem OwnRs.turned {S : Nat → Prop} (h : OwnRs w base A n c l) (k : Turned w w' S) (hS : ∀ q, Touch A l q → ¬ S q) : OwnRs w' base A n c l := h.keep fun q hq => k.block q (h.lt hq).2 (hS q hq)
theorem OwnRs.mono {b : Nat} (h : OwnRs w base A n c l) (hb : b ≤ base) : OwnRs w b A n c l := ⟨h.arr.mono hb, h.bs.map fun _ _ _ h => h.mono hb⟩
theorem OwnRs.len (h : OwnRs w base A n c l) : l.length = n := by have := h.arr.len; rw [rowvs_len] at this; omega
theorem OwnRs.rd (h : OwnRs w base A n c l) : RdRows w A (l.map RowR.b) := by
  refine ⟨rowvs l, h.arr.rd, by simp [rowvs], fun i b hb => ?_⟩
  rw [List.getElem?_map] at hb
  rcases hl : l[i]? with _ | r
  · rw [hl] at hb; cases hb
  · rw [hl] at hb
    injection hb with hb
    subst hb
    exact ⟨r.A, r.c, rowvs_get hl, (h.bs.1 i r hl).rd, (h.bs.1 i r hl).le⟩
end
/-- Rows of the call's own that read as a list of lists. -/
def OwnRows (w : World) (base : Nat) (A : Option Addr) (n c : Nat) (ls : List (List UInt8)) : Prop := ∃ l : List RowR, l.map RowR.b = ls ∧ OwnRs w base A n c l
theorem OwnRows.rd {w : World} {base : Nat} {A : Option Addr} {n c : Nat} {ls : List (List UInt8)} (h : OwnRows w base A n c ls) : RdRows w A ls := by
  obtain ⟨l, rfl, h⟩ := h
  exact h.rd
/-- A row more behind the others: its bytes lie in new memory, then the array is appended to. -/
theorem add_row {w5 w6 : World} {base : Nat} {l : List RowR} {x : RowR} {B B' : Option Addr} {k c c' m : Nat} (hd : OwnBs w5 base l) (hx : Own w5 base 5 1 x.A x.b.length x.c (bvs x.b)) (hB : Own w5 base 26 1 B k c (rowvs l)) (hg : w5.grownBy w6 (blk B))
    (hm : ∀ (i : Nat) (y : RowR), l[i]? = some y → ∀ q, blk y.A = some q → q < m) (hxm : ∀ q, blk x.A = some q → m ≤ q) (hB' : Own w6 base 26 1 B' (k + 1) c' (rowvs l ++ [.slice x.A x.b.length x.c])) : OwnRs w6 base B' (k + 1) c' (l ++ [x]) := by
  have hap : ∀ {A : Option Addr} {n d : Nat} {xs : List Value}, Own w5 base 5 1 A n d xs → Own w6 base 5 1 A n d xs := fun h => h.over hg (fun q hq h2 => (h.apart hB (by decide)) q h2 hq)
  refine ⟨by rw [rowvs_snoc]; exact hB', OwnBs.snoc (hd.map fun _ _ _ h => hap h) (hap hx) ?_⟩
  intro i y hy q hq hq2
  have h1 := hm i y hy q hq
  have h2 := hxm q hq2
  omega
theorem rowsinfo : (Try.prog.info? 26).map (fun i => (i.zero, i.size, i.bytes)) = some (some (.slice none 0 0), 1, 24) := by kernel_rfl
end Go.Proofs.Ytppmdamcdhmcpaa
namespace Go.Proofs.Ytppmdamcdhmcpaa
set_option linter.unusedSimpArgs false
set_option linter.unusedVariables false
open Go.RowKit

set_option maxHeartbeats 800000 in
set_option maxRecDepth 100000 in
/-- Bytes are written over by their owner, and grown: only the row that holds them turns. -/
theorem spoil_any (base : Nat) (A : Option Addr) (n c : Nat) (xs : List UInt8) (w : World) (hO : Own w base 5 1 A n c (bvs xs)) (hn : n ≤ 140737488351300) (hbase : base ≤ w.heap.size) :
    Calls Try.prog 13 #[.slice A n c] w fun e w' => e = .returned (.tuple #[]) ∧ w.grownBy w' (blk A) := by
  obtain ⟨i0, hi0, hz0, hz1, hz2⟩ := info_parts u8info
  go_enter Try.func13, Try.ntmps13
  go_wp2_with fail
  go_loopw [2] (fun i wr => ∃ (k : Nat) (ys : List UInt8), k ≤ n ∧ i = .int .i64 k ∧ Own wr base 5 1 A n c (bvs ys) ∧ w.grownBy wr (blk A)) (fun i _ => n - (intOf i).toNat)
  case atStart => exact ⟨0, xs, by omega, by simp, hO, World.grownBy.refl _ _⟩
  case round =>
    obtain ⟨k, ys, hk, rfl, hO', hg⟩ := hrel
    clear hO
    by_cases h5 : k < n
    · have hle := hO'.le
      obtain ⟨g, off, rfl, _, _⟩ := hO'.form (by omega)
      obtain ⟨x, hx, hc⟩ := hO'.byteAt h5
      have hf := hO'.frozen (off + k)
      have Hx := Lib.hid hx
      clear hx
      have hx256 := byte_lt x
      go_wp2
      go_roundw
      case rel =>
        refine ⟨k + 1, ys.set k (x ^^^ 90), by omega, by go_num, ?_, grown_setCell (p := ⟨g, off + k, none⟩) hg (.inl rfl) _⟩
        have e := xor_u8 x 90
        rw [show ((90 : UInt8).toNat : Int) = 90 from rfl] at e
        rw [e]
        exact hO'.setB h5 _
      case measure => simp [intOf]; omega
    · obtain rfl : k = n := by omega
      clear h5
      have h63 : k + 2 ≤ maxLen := by unfold maxLen; omega
      have hby : (k + 2) * 1 ≤ 140737488355328 := by omega
      have hsz : base ≤ (wr.alloc (.cells #[.int .u8 90, .int .u8 90] 5)).heap.size := by have := hg.size; simp; omega
      have hRn : Rd (wr.alloc (.cells #[.int .u8 90, .int .u8 90] 5)) (some ⟨wr.heap.size, 0, none⟩) (bvs [90, 90]) := Rd.of_block (heap_alloc_new wr _) (fun i u h => by simpa [bvs, bv] using h)
      have hOn := hO'.alloc (.cells #[.int .u8 90, .int .u8 90] 5)
      go_wp2_with (at_builtin; refine wpList_append_Own _ rfl (.tmp 17) (.tmp 18) 26 rfl base 5 i0 _ 1 1 Try.underlying26 hi0 hz0 hz1 hz2 rfl A k c (bvs ys) rfl hOn _ 2 2 (bvs [90, 90]) rfl rfl hRn (bvs_one _) h63 hby hsz ?_; intro A' c' w1 hO1 hg1 hor; have hle1 := hO1.le; obtain ⟨g1, off1, rfl, hb1, _⟩ := hO1.form (by omega); have hO2 : Own w1 base 5 1 (some ⟨g1, off1, none⟩) (k + 2) c' (bvs (ys ++ [90, 90])) := (bvs_append ys [90, 90]) ▸ hO1; obtain ⟨x1, hx1, hc1⟩ := hO2.byteAt (k := 0) (by omega); rw [Nat.add_zero] at hc1; have hf1 := hO1.frozen off1; clear hx1)
      go_end0
      refine ⟨rfl, ?_⟩
      have hg2 := grown_trans (grown_alloc hg _) hg1 (.inl rfl)
      rcases hor with e | e
      · rw [← e] at hg2 ⊢
        exact grown_setCell hg2 (.inl rfl) _
      · have e2 : g1 = (wr.alloc (.cells #[.int .u8 90, .int .u8 90] 5)).heap.size := by simpa [blk] using e
        have hge : w.heap.size ≤ g1 := by have := hg.size; rw [e2]; simp; omega
        have h3 : (blk A = none) ∨ ∃ g, blk A = some g := by cases blk A <;> simp
        rcases h3 with h3 | ⟨g, h3⟩
        · rw [h3] at hg2 ⊢
          exact grownBy_below ((below_of_grown hg2).setCell hge _) _
        · rw [h3] at hg2 ⊢
          exact grown_setCell hg2 (.inr hge) _
end Go.Proofs.Ytppmdamcdhmcpaa
