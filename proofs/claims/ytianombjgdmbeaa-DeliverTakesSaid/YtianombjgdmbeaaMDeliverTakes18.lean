/-
  Slices of notes: what they read as; notes in memory of the call's own; cells stored in the middle of a block. GiverOf: a giver with memory of its own; the clone of a slice of pairs.
-/
import Derived.Test.YtianombjgdmbeaaMDeliverTakes17
import Derived.Test.YtianombjgdmbeaaMDeliverTakes15
import Derived.Deep.MidRow
namespace Go.Proofs.Ytianombjgdmbeaa
set_option linter.unusedSimpArgs false
set_option linter.unusedVariables false
open Go.RowKit

/-- A note, and where its data and gaps lie. -/
structure NtR where
  n : Nt
  D : Option Addr
  dc : Nat
  G : Option Addr
  gc : Nat
def ncs (x : NtR) : List Value := [.int .i64 x.n.kind, .int .i64 x.n.id, .string x.n.name, .int .i64 x.n.size, .int .i64 x.n.sum, .int .i64 x.n.at_, .slice x.D x.n.data.length x.dc, .slice x.G x.n.gaps.length x.gc, .int .i64 x.n.of_, .int .i64 x.n.code]
theorem ncs_len (x : NtR) : (ncs x).length = 10 := rfl
def nts (l : List NtR) : List Value := l.flatMap ncs
theorem nts_len (l : List NtR) : (nts l).length = l.length * 10 := fm_len ncs_len l
theorem nts_snoc (l : List NtR) (x : NtR) : nts (l ++ [x]) = nts l ++ ncs x := fm_snoc l x
theorem nts_get {l : List NtR} {i : Nat} {x : NtR} (h : l[i]? = some x) {j : Nat} (hj : j < 10) : (nts l)[i * 10 + j]? = (ncs x)[j]? := fm_get ncs_len l i x j h hj
theorem ncs_one (x : NtR) : ∀ u ∈ ncs x, u.oneCell' = true := by
  intro u hu
  simp [ncs] at hu
  rcases hu with rfl | rfl | rfl | rfl | rfl | rfl | rfl | rfl | rfl | rfl <;> rfl
/-- What any note's lengths are. -/
def NoteFits (n : Nt) : Prop := n.data.length ≤ 140737488351232 ∧ n.gaps.length ≤ 8796093022200
def RdNotes (w : World) (O : Option Addr) (l : List NtR) : Prop := Rd w O (nts l) ∧ ∀ (i : Nat) (x : NtR), l[i]? = some x → Rd w x.D (bvs x.n.data) ∧ Rd w x.G (gps x.n.gaps)
theorem RdNotes.step {w w' : World} {O : Option Addr} {l : List NtR} (h : RdNotes w O l) (hb : Below w.heap.size w w') : RdNotes w' O l := ⟨h.1.step hb, fun i x hx => ⟨(h.2 i x hx).1.step hb, (h.2 i x hx).2.step hb⟩⟩
theorem RdNotes.below {w w' : World} {O : Option Addr} {l : List NtR} (h : RdNotes w O l) (hb : Below w.heap.size w w') : RdNotes w' O l := h.step hb
/-- Notes' data and gaps, in memory of the call's own, no two in one block. -/
def OwnParts (w : World) (base : Nat) (l : List NtR) : Prop :=
  (∀ (i : Nat) (x : NtR), l[i]? = some x → Own w base 5 1 x.D x.n.data.length x.dc (bvs x.n.data) ∧ Own w base 66 2 x.G x.n.gaps.length x.gc (gps x.n.gaps)) ∧
  ∀ (i j : Nat) (x y : NtR), i < j → l[i]? = some x → l[j]? = some y → (∀ q, blk x.D = some q → blk y.D ≠ some q) ∧ (∀ q, blk x.G = some q → blk y.G ≠ some q)
theorem OwnParts.nil (w : World) (base : Nat) : OwnParts w base [] := ⟨fun i x h => by simp at h, fun i j x y _ h => by simp at h⟩
section
variable {w w' : World} {base : Nat} {l : List NtR}
theorem OwnParts.map (h : OwnParts w base l) {base' : Nat} (k : ∀ (e : TypeId) (s : Nat) (A : Option Addr) (n c : Nat) (xs : List Value), Own w base e s A n c xs → (e = 5 ∨ e = 66) → Own w' base' e s A n c xs) : OwnParts w' base' l := ⟨fun i x hx => ⟨k _ _ _ _ _ _ (h.1 i x hx).1 (.inl rfl), k _ _ _ _ _ _ (h.1 i x hx).2 (.inr rfl)⟩, h.2⟩
theorem OwnParts.step (h : OwnParts w base l) (hb : Below w.heap.size w w') : OwnParts w' base l := h.map fun _ _ _ _ _ _ h _ => h.below hb
theorem OwnParts.alloc (h : OwnParts w base l) (o : Obj) : OwnParts (w.alloc o) base l := h.map fun _ _ _ _ _ _ h _ => h.alloc o
theorem OwnParts.rd {O : Option Addr} {n c : Nat} (h : OwnParts w base l) (hO : Own w base 27 10 O n c (nts l)) : RdNotes w O l := ⟨hO.rd, fun i x hx => ⟨(h.1 i x hx).1.rd, (h.1 i x hx).2.rd⟩⟩
theorem OwnParts.turned {S : Nat → Prop} (h : OwnParts w base l) (k : Turned w w' S) (hS : ∀ (i : Nat) (x : NtR), l[i]? = some x → (∀ q, blk x.D = some q → ¬ S q) ∧ (∀ q, blk x.G = some q → ¬ S q)) : OwnParts w' base l :=
  ⟨fun i x hx => ⟨(h.1 i x hx).1.turned k (hS i x hx).1, (h.1 i x hx).2.turned k (hS i x hx).2⟩, h.2⟩
theorem OwnParts.ltD (h : OwnParts w base l) {i : Nat} {x : NtR} (hx : l[i]? = some x) {q : Nat} (hq : blk x.D = some q) : base ≤ q ∧ q < w.heap.size := (h.1 i x hx).1.lt q hq
theorem OwnParts.ltG (h : OwnParts w base l) {i : Nat} {x : NtR} (hx : l[i]? = some x) {q : Nat} (hq : blk x.G = some q) : base ≤ q ∧ q < w.heap.size := (h.1 i x hx).2.lt q hq
theorem OwnParts.snoc (h : OwnParts w base l) {x : NtR} (hx : Own w base 5 1 x.D x.n.data.length x.dc (bvs x.n.data) ∧ Own w base 66 2 x.G x.n.gaps.length x.gc (gps x.n.gaps))
    (hne : ∀ (i : Nat) (y : NtR), l[i]? = some y → (∀ q, blk y.D = some q → blk x.D ≠ some q) ∧ (∀ q, blk y.G = some q → blk x.G ≠ some q)) : OwnParts w base (l ++ [x]) := by
  constructor
  · intro i y hy
    rcases Nat.lt_or_ge i l.length with h1 | h1
    · rw [List.getElem?_append_left h1] at hy
      exact h.1 i y hy
    · rw [List.getElem?_append_right h1] at hy
      rcases Nat.eq_zero_or_pos (i - l.length) with h2 | h2
      · rw [h2] at hy
        simp at hy
        subst hy
        exact hx
      · rw [List.getElem?_eq_none (by simp; omega)] at hy
        cases hy
  · intro i j y z hij hy hz
    rcases Nat.lt_or_ge j l.length with h1 | h1
    · rw [List.getElem?_append_left h1] at hz
      rw [List.getElem?_append_left (by omega)] at hy
      exact h.2 i j y z hij hy hz
    · rw [List.getElem?_append_right h1] at hz
      rcases Nat.eq_zero_or_pos (j - l.length) with h2 | h2
      · rw [h2] at hz
        simp at hz
        subst hz
        rw [List.getElem?_append_left (by omega)] at hy
        exact hne i y hy
      · rw [List.getElem?_eq_none (by simp; omega)] at hz
        cases hz
end
/-- The place of a note among the cells, whatever lies there. -/
theorem nt_at {l : List NtR} {N : List Nt} (h : l.map NtR.n = N) {i : Nat} (hi : i < N.length) : ∃ D dc G gc, l[i]? = some ⟨N[i], D, dc, G, gc⟩ := by
  subst h
  rw [List.length_map] at hi
  refine ⟨l[i].D, l[i].dc, l[i].G, l[i].gc, ?_⟩
  rw [List.getElem?_eq_getElem hi, List.getElem_map]
theorem noteinfo : (Try.prog.info? 27).map (fun i => (i.zero, i.size, i.bytes)) = some (some (.agg #[.int .i64 0, .int .i64 0, .string ⟨#[]⟩, .int .i64 0, .int .i64 0, .int .i64 0, .slice none 0 0, .slice none 0 0, .int .i64 0, .int .i64 0]), 10, 120) := by kernel_rfl
/-! ### cells in the middle of a block -/
theorem Own.setCells {base : Nat} {e : TypeId} {s n c g off : Nat} : ∀ (vs : List Value) (i : Nat) (w : World) (xs : List Value), Own w base e s (some ⟨g, off, none⟩) n c xs → i + vs.length ≤ n * s →
    ∃ ys, Own (w.setCells g (off + i) vs) base e s (some ⟨g, off, none⟩) n c ys ∧ (∀ j, i + vs.length ≤ j → ys[j]? = xs[j]?) ∧ ∀ j, j < i → ys[j]? = xs[j]?
  | [], i, w, xs, h, _ => ⟨xs, h, fun _ _ => rfl, fun _ _ => rfl⟩
  | v :: r, i, w, xs, h, hi => by
    simp only [List.length_cons] at hi
    have h1 := h.set i (by omega) v
    obtain ⟨ys, h2, h3, h4⟩ := Own.setCells r (i + 1) _ _ h1 (by omega)
    refine ⟨ys, h2, fun j hj => ?_, fun j hj => ?_⟩
    · simp only [List.length_cons] at hj
      rw [h3 j (by omega), List.getElem?_set_ne (by omega)]
    · rw [h4 j (by omega), List.getElem?_set_ne (by omega)]
theorem Turned.setCells {S : Nat → Prop} {w : World} {g : Nat} (hg : g < w.heap.size → S g) : ∀ (vs : List Value) (o : Nat) (v : World), Turned w v S → Turned w (v.setCells g o vs) S
  | [], _, _, h => h
  | u :: r, o, v, h => Turned.setCells hg r (o + 1) _ (h.set (p := ⟨g, o, none⟩) hg u)
theorem Own.there {w : World} {base : Nat} {e : TypeId} {s n c g off : Nat} {xs : List Value} (h : Own w base e s (some ⟨g, off, none⟩) n c xs) {i m : Nat} (hi : i + m ≤ n * s) : w.there g (off + i) m := fun j hj => by
  have hl := h.len
  have := h.cell (i := i + j) (List.getElem?_eq_getElem (by omega))
  refine ⟨by rw [Nat.add_assoc, this]; rfl, h.frozen (off + i + j)⟩
end Go.Proofs.Ytianombjgdmbeaa
namespace Go.Proofs.Ytianombjgdmbeaa
set_option linter.unusedSimpArgs false
set_option linter.unusedVariables false
open Go.RowKit

theorem giversz : (Try.prog.info? 55).map (·.size) = some 13 := by kernel_rfl
set_option maxHeartbeats 3200000 in
set_option maxRecDepth 100000 in
theorem giverOf_any (x : Gv) (F : Option Addr) (fn fc : Nat) (A : Option Addr) (an ac : Nat) (w : World) (hf : x.file.length = fn) (ha : x.again.length = an) (hF : Rd w F (bvs x.file)) (hA : Rd w A (gps x.again)) (hfn : fn ≤ 140737488351232) (han : an ≤ 8796093022200) :
    Calls Try.prog 61 #[gvv x F fn fc A an ac] w fun e w' => ∃ F' fc' A' ac', e = .returned (gvv x F' fn fc' A' an ac') ∧ Own w' w.heap.size 5 1 F' fn fc' (bvs x.file) ∧ Own w' w.heap.size 66 2 A' an ac' (gps x.again) ∧ Below w.heap.size w w' := by
  obtain ⟨i0, hi0, hz0, hz1, hz2⟩ := info_parts u8info
  obtain ⟨j0, hj0, hy0, hy1, hy2⟩ := info_parts pairinfo
  have HF := Lib.hid hF
  have HA := Lib.hid hA
  have HFL : Hid ((bvs x.file).length = fn * 1) := Lib.hid (by rw [bvs_length, hf, Nat.mul_one])
  have HAL : Hid ((gps x.again).length = an * 2) := Lib.hid (by rw [gps_len, ha])
  clear hf ha hF hA
  obtain ⟨id, name, file, most, burst, stage, first, at_, again, timer, patience, tries, limit⟩ := x
  unfold gvv gvc
  dsimp only at HF HA HFL HAL ⊢
  have k1 := (Blk.new w 55 #[.int .i64 id, .string name, .slice F fn fc, .int .i64 most, .int .i64 burst, .int .i64 stage, .bool first, .int .i64 at_, .slice A an ac, .int .i64 timer, .int .i64 patience, .int .i64 tries, .int .i64 limit]).alloc (.cells #[.int .i64 0, .string ⟨#[]⟩, .slice none 0 0, .int .i64 0, .int .i64 0, .int .i64 0, .bool false, .int .i64 0, .slice none 0 0, .int .i64 0, .int .i64 0, .int .i64 0, .int .i64 0] 55)
  have k2 := Blk.new (w.alloc (.cells #[.int .i64 id, .string name, .slice F fn fc, .int .i64 most, .int .i64 burst, .int .i64 stage, .bool first, .int .i64 at_, .slice A an ac, .int .i64 timer, .int .i64 patience, .int .i64 tries, .int .i64 limit] 55)) 55 #[.int .i64 0, .string ⟨#[]⟩, .slice none 0 0, .int .i64 0, .int .i64 0, .int .i64 0, .bool false, .int .i64 0, .slice none 0 0, .int .i64 0, .int .i64 0, .int .i64 0, .int .i64 0]
  rw [show (w.alloc (.cells #[.int .i64 id, .string name, .slice F fn fc, .int .i64 most, .int .i64 burst, .int .i64 stage, .bool first, .int .i64 at_, .slice A an ac, .int .i64 timer, .int .i64 patience, .int .i64 tries, .int .i64 limit] 55)).heap.size = w.heap.size + 1 by simp] at k2
  have hB : Below w.heap.size w ((w.alloc (.cells #[.int .i64 id, .string name, .slice F fn fc, .int .i64 most, .int .i64 burst, .int .i64 stage, .bool first, .int .i64 at_, .slice A an ac, .int .i64 timer, .int .i64 patience, .int .i64 tries, .int .i64 limit] 55)).alloc (.cells #[.int .i64 0, .string ⟨#[]⟩, .slice none 0 0, .int .i64 0, .int .i64 0, .int .i64 0, .bool false, .int .i64 0, .slice none 0 0, .int .i64 0, .int .i64 0, .int .i64 0, .int .i64 0] 55)) := ((Below.refl _ _).alloc (Nat.le_refl _) _).alloc (by simp) _
  go_enter Try.func61, Try.ntmps61
  go_upto_region 1 with fail
  generalize (w.alloc (.cells #[.int .i64 id, .string name, .slice F fn fc, .int .i64 most, .int .i64 burst, .int .i64 stage, .bool first, .int .i64 at_, .slice A an ac, .int .i64 timer, .int .i64 patience, .int .i64 tries, .int .i64 limit] 55)).alloc (.cells #[.int .i64 0, .string ⟨#[]⟩, .slice none 0 0, .int .i64 0, .int .i64 0, .int .i64 0, .bool false, .int .i64 0, .slice none 0 0, .int .i64 0, .int .i64 0, .int .i64 0, .int .i64 0] 55) = W at *
  have x2 := k1.cell' (i := 2) rfl
  have z2 := k2.lt
  have hRF := HF.out.below hB
  have q4 : 0 + fn ≤ maxLen := by unfold maxLen; omega
  have q5 : (0 + fn) * 1 ≤ 140737488355328 := by omega
  have q6 : w.heap.size + 2 ≤ W.heap.size := by omega
  go_upto_region 2 with (at_builtin; refine wpList_append_Own W rfl (.const (.slice none 0 0)) (.tmp 4) 23 rfl (w.heap.size + 2) 5 i0 _ 1 1 Try.underlying23 hi0 hz0 hz1 hz2 rfl none 0 0 [] rfl (Own.none_ _ _ _ _) F fn fc (bvs file) rfl HFL.out hRF (bvs_one file) q4 q5 q6 ?_; intro F1 f1 w5 hO5 hg5 hor5; rw [Nat.zero_add, List.nil_append] at hO5; simp only [Nat.zero_add]; have hb5 := below_of_grown hg5; have k5 := k1.step hb5; have kf5 := k5.frozen; have y2 := k5.cell' (i := 2) rfl)
  have k6 := k5.set_ 2 (.slice F1 fn f1)
  have k7 := (k2.step hb5).far (p := ⟨w.heap.size, 2, none⟩) (by show w.heap.size + 1 ≠ w.heap.size; omega) (.slice F1 fn f1)
  have hO6 := hO5.setFar (p := ⟨w.heap.size, 2, none⟩) (fun e => by have h1 := (hO5.lt _ e).1; simp at h1; omega) (.slice F1 fn f1)
  have hB6 := (hB.trans (hb5.mono hB.size)).setCell (p := ⟨w.heap.size, 2, none⟩) (by show w.heap.size ≤ w.heap.size; omega) (.slice F1 fn f1)
  have z5 := hb5.size
  have z6 : W.heap.size ≤ (w5.setCell ⟨w.heap.size, 2, none⟩ (.slice F1 fn f1)).heap.size := by simp; omega
  clear k1 k2 hB x2 hRF q4 q5 hO5 hg5 hor5 hb5 k5 kf5 y2
  generalize w5.setCell ⟨w.heap.size, 2, none⟩ (.slice F1 fn f1) = W2 at *
  have x8 := k6.cell' (i := 8) rfl
  have hRA := HA.out.below hB6
  have q4 : 0 + an ≤ maxLen := by unfold maxLen; omega
  have q5 : (0 + an) * 16 ≤ 140737488355328 := by omega
  have q7 : w.heap.size + 2 ≤ W2.heap.size := by omega
  go_wp2_with (first
    | (at_builtin; refine wpList_append_Own W2 rfl (.const (.slice none 0 0)) (.tmp 8) 24 rfl (w.heap.size + 2) 66 j0 _ 2 16 Try.underlying24 hj0 hy0 hy1 hy2 rfl none 0 0 [] rfl (Own.none_ _ _ _ _) A an ac (gps again) rfl HAL.out hRA (gps_one again) q4 q5 q7 ?_; intro A1 a1 w8 hO8 hg8 hor8; rw [Nat.zero_add, List.nil_append] at hO8; simp only [Nat.zero_add]; have hb8 := below_of_grown hg8; have k8 := k6.step hb8; have kf8 := k8.frozen; have y8 := k8.cell' (i := 8) rfl; have k9 := k8.set_ 8 (.slice A1 an a1); have k10 := (k7.step hb8).far (p := ⟨w.heap.size, 8, none⟩) (by show w.heap.size + 1 ≠ w.heap.size; omega) (.slice A1 an a1))
    | (refine wpList_load_row rfl 55 (.tmp 1) rfl w.heap.size rfl 55 #[.int .i64 id, .string name, .slice F1 fn f1, .int .i64 most, .int .i64 burst, .int .i64 stage, .bool first, .int .i64 at_, .slice A1 an a1, .int .i64 timer, .int .i64 patience, .int .i64 tries, .int .i64 limit] (0, 0) _ k9 Try.underlying55 rfl giversz ?_)
    | (refine wpList_store_row rfl 55 (.tmp 2) (.tmp 11) rfl (w.heap.size + 1) #[.int .i64 id, .string name, .slice F1 fn f1, .int .i64 most, .int .i64 burst, .int .i64 stage, .bool first, .int .i64 at_, .slice A1 an a1, .int .i64 timer, .int .i64 patience, .int .i64 tries, .int .i64 limit] rfl rfl 55 _ k10 giversz rfl (by simp [Value.oneCell']) ?_))
  have k11 := k10.row #[.int .i64 id, .string name, .slice F1 fn f1, .int .i64 most, .int .i64 burst, .int .i64 stage, .bool first, .int .i64 at_, .slice A1 an a1, .int .i64 timer, .int .i64 patience, .int .i64 tries, .int .i64 limit]
  refine bodyPost_ret (v := .agg #[.int .i64 id, .string name, .slice F1 fn f1, .int .i64 most, .int .i64 burst, .int .i64 stage, .bool first, .int .i64 at_, .slice A1 an a1, .int .i64 timer, .int .i64 patience, .int .i64 tries, .int .i64 limit]) (results_cell_row (ty := 55) rfl _ _ (w.heap.size + 1) 55 _ (0, 0) _ rfl k11 Try.underlying55 rfl giversz) rfl ?_
  have hO9 := hO6.below hb8
  refine ⟨F1, f1, A1, a1, rfl, ?_, ?_, ?_⟩
  · have h1 := hO9.keep (w' := (w8.setCell ⟨w.heap.size, 8, none⟩ (.slice A1 an a1)).setRow (w.heap.size + 1) #[.int .i64 id, .string name, .slice F1 fn f1, .int .i64 most, .int .i64 burst, .int .i64 stage, .bool first, .int .i64 at_, .slice A1 an a1, .int .i64 timer, .int .i64 patience, .int .i64 tries, .int .i64 limit]) (fun a ha _ => by have h3 := (hO9.lt a.block (by rw [ha]; rfl)).1; exact (setRow_other _ _ a.block _ (by omega)).trans (Below.heap_setCell w8 ⟨w.heap.size, 8, none⟩ _ a.block (by show a.block ≠ w.heap.size; omega)))
    exact h1.mono (by omega)
  · have h1 := hO8.keep (w' := (w8.setCell ⟨w.heap.size, 8, none⟩ (.slice A1 an a1)).setRow (w.heap.size + 1) #[.int .i64 id, .string name, .slice F1 fn f1, .int .i64 most, .int .i64 burst, .int .i64 stage, .bool first, .int .i64 at_, .slice A1 an a1, .int .i64 timer, .int .i64 patience, .int .i64 tries, .int .i64 limit]) (fun a ha _ => by have h3 := (hO8.lt a.block (by rw [ha]; rfl)).1; exact (setRow_other _ _ a.block _ (by omega)).trans (Below.heap_setCell w8 ⟨w.heap.size, 8, none⟩ _ a.block (by show a.block ≠ w.heap.size; omega)))
    exact h1.mono (by omega)
  · exact below_row ((hB6.trans (hb8.mono hB6.size)).setCell (p := ⟨w.heap.size, 8, none⟩) (by show w.heap.size ≤ w.heap.size; omega) _) (by omega) _
end Go.Proofs.Ytianombjgdmbeaa
