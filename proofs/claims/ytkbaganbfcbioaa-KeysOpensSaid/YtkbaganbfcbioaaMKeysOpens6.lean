/-
  Rings: what a row of keys reads as; which ring may be. Plainly. over: ints are written over by their owner, and grown: only the row that holds them turns. Rings with a key less: plainly.
-/
import Derived.Test.YtkbaganbfcbioaaMKeysOpens5
import Derived.Test.YtkbaganbfcbioaaMKeysOpens4
namespace Go.Proofs.Ytkbaganbfcbioaa
set_option linter.unusedSimpArgs false
set_option linter.unusedVariables false
open Go.RowKit

/-- A key and where its words lie. -/
structure KyR where
  k : Ky
  A : Option Addr
  c : Nat
def kcs (x : KyR) : List Value := [.int .i64 x.k.id, .slice x.A x.k.words.length x.c, .int .i64 x.k.top, .int .i64 x.k.seen]
theorem kcs_len (x : KyR) : (kcs x).length = 4 := rfl
def kvs (l : List KyR) : List Value := l.flatMap kcs
theorem kvs_len (l : List KyR) : (kvs l).length = l.length * 4 := fm_len kcs_len l
theorem kvs_snoc (l : List KyR) (x : KyR) : kvs (l ++ [x]) = kvs l ++ kcs x := fm_snoc l x
theorem kvs_append (l m : List KyR) : kvs (l ++ m) = kvs l ++ kvs m := List.flatMap_append ..
theorem kvs_get {l : List KyR} {i : Nat} {x : KyR} (h : l[i]? = some x) {j : Nat} (hj : j < 4) : (kvs l)[i * 4 + j]? = (kcs x)[j]? := fm_get kcs_len l i x j h hj
theorem kvs_set {l : List KyR} {i : Nat} {x y : KyR} (h : l[i]? = some x) {j : Nat} (hj : j < 4) {v : Value} (e : kcs y = (kcs x).set j v) : (kvs l).set (i * 4 + j) v = kvs (l.set i y) :=
  fm_set kcs_len l i x y j v h hj e
theorem kcs_one (x : KyR) : ∀ u ∈ kcs x, u.oneCell' = true := by
  intro u hu
  simp [kcs] at hu
  rcases hu with rfl | rfl | rfl | rfl <;> rfl
theorem kvs_one (l : List KyR) : ∀ u ∈ kvs l, u.oneCell' = true := by
  intro u hu
  obtain ⟨x, _, hx⟩ := List.mem_flatMap.1 hu
  exact kcs_one x u hx
/-- A slice of keys reads as these. -/
def RdRing (w : World) (B : Option Addr) (l : List KyR) : Prop := Rd w B (kvs l) ∧ ∀ (i : Nat) (x : KyR), l[i]? = some x → Rd w x.A (ivs x.k.words)
theorem RdRing.step {w w' : World} {B : Option Addr} {l : List KyR} (h : RdRing w B l) (hb : Below w.heap.size w w') : RdRing w' B l := ⟨h.1.step hb, fun i x hx => (h.2 i x hx).step hb⟩
theorem RdRing.below {w w' : World} {B : Option Addr} {l : List KyR} (h : RdRing w B l) (hb : Below w.heap.size w w') : RdRing w' B l := h.step hb
theorem RdRing.alloc {w : World} {B : Option Addr} {l : List KyR} (h : RdRing w B l) (o : Obj) : RdRing (w.alloc o) B l := ⟨h.1.alloc o, fun i x hx => (h.2 i x hx).alloc o⟩
theorem RdRing.nil (w : World) (B : Option Addr) : RdRing w B [] := ⟨Rd.nil _ _, fun i x h => by simp at h⟩
/-- The four cells of a key. -/
theorem RdRing.cells {w : World} {B : Option Addr} {l : List KyR} (h : RdRing w B l) {i : Nat} {x : KyR} (hx : l[i]? = some x) : ∃ g o, B = some ⟨g, o, none⟩ ∧ w.cell? ⟨g, o + i * 4, none⟩ = some (.int .i64 x.k.id) ∧ w.cell? ⟨g, o + i * 4 + 1, none⟩ = some (.slice x.A x.k.words.length x.c) ∧ w.cell? ⟨g, o + i * 4 + 2, none⟩ = some (.int .i64 x.k.top) ∧ w.cell? ⟨g, o + i * 4 + 3, none⟩ = some (.int .i64 x.k.seen) := by
  obtain ⟨g, o, rfl, h0⟩ := h.1 (i * 4 + 0) _ ((kvs_get hx (j := 0) (by omega)).trans rfl)
  exact ⟨g, o, rfl, h0, h.1.cell ((kvs_get hx (j := 1) (by omega)).trans rfl), h.1.cell ((kvs_get hx (j := 2) (by omega)).trans rfl), h.1.cell ((kvs_get hx (j := 3) (by omega)).trans rfl)⟩
/-- Rows of ints that belong to the call, no two in one block. -/
def OwnWords (w : World) (base : Nat) (l : List KyR) : Prop :=
  (∀ (i : Nat) (x : KyR), l[i]? = some x → Own w base 3 1 x.A x.k.words.length x.c (ivs x.k.words)) ∧
  ∀ (i j : Nat) (x y : KyR), i < j → l[i]? = some x → l[j]? = some y → ∀ q, blk x.A = some q → blk y.A ≠ some q
def OwnRing (w : World) (base : Nat) (B : Option Addr) (n c : Nat) (L : List Ky) : Prop := ∃ l : List KyR, l.map KyR.k = L ∧ Own w base 46 4 B n c (kvs l) ∧ OwnWords w base l
section
variable {w w' : World} {base : Nat} {l : List KyR}
theorem OwnWords.map (h : OwnWords w base l) {base' : Nat} (k : ∀ (A : Option Addr) (n c : Nat) (xs : List Value), Own w base 3 1 A n c xs → Own w' base' 3 1 A n c xs) : OwnWords w' base' l := ⟨fun i x hx => k _ _ _ _ (h.1 i x hx), h.2⟩
theorem OwnWords.step (h : OwnWords w base l) (hb : Below w.heap.size w w') : OwnWords w' base l := h.map fun _ _ _ _ h => h.below hb
theorem OwnWords.snoc (h : OwnWords w base l) {x : KyR} (hx : Own w base 3 1 x.A x.k.words.length x.c (ivs x.k.words)) (hne : ∀ (i : Nat) (y : KyR), l[i]? = some y → ∀ q, blk y.A = some q → blk x.A ≠ some q) : OwnWords w base (l ++ [x]) := by
  constructor
  · intro i y hy
    rcases Nat.lt_or_ge i l.length with h1 | h1
    · rw [List.getElem?_append_left h1] at hy
      exact h.1 i y hy
    · rw [List.getElem?_append_right h1] at hy
      rcases Nat.eq_zero_or_pos (i - l.length) with h2 | h2
      · rw [h2] at hy
        simp at hy
        subst hy
        exact hx
      · rw [List.getElem?_eq_none (by simp; omega)] at hy
        cases hy
  · intro i j y z hij hy hz q hq
    rcases Nat.lt_or_ge j l.length with h1 | h1
    · rw [List.getElem?_append_left h1] at hz
      rw [List.getElem?_append_left (by omega)] at hy
      exact h.2 i j y z hij hy hz q hq
    · rw [List.getElem?_append_right h1] at hz
      rcases Nat.eq_zero_or_pos (j - l.length) with h2 | h2
      · rw [h2] at hz
        simp at hz
        subst hz
        rw [List.getElem?_append_left (by omega)] at hy
        exact hne i y hy q hq
      · rw [List.getElem?_eq_none (by simp; omega)] at hz
        cases hz
theorem OwnWords.nil (w : World) (base : Nat) : OwnWords w base [] := ⟨fun i x h => by simp at h, fun i j x y _ h => by simp at h⟩
end
theorem OwnWords.lt {w : World} {base : Nat} {l : List KyR} (h : OwnWords w base l) {i : Nat} {y : KyR} (hy : l[i]? = some y) {q : Nat} (hq : blk y.A = some q) : base ≤ q ∧ q < w.heap.size := (h.1 i y hy).lt q hq
theorem OwnWords.rd {w : World} {base : Nat} {B : Option Addr} {n c : Nat} {l : List KyR} (hB : Own w base 46 4 B n c (kvs l)) (h : OwnWords w base l) : RdRing w B l := ⟨hB.rd, fun i x hx => (h.1 i x hx).rd⟩
theorem OwnWords.sub {w : World} {base : Nat} {l m : List KyR} (h : OwnWords w base l) (f : Nat → Nat) (hf : ∀ i j, i < j → f i < f j) (hm : ∀ (i : Nat) (x : KyR), m[i]? = some x → l[f i]? = some x) : OwnWords w base m :=
  ⟨fun i x hx => h.1 (f i) x (hm i x hx), fun i j x y hij hx hy => h.2 (f i) (f j) x y (hf i j hij) (hm i x hx) (hm j y hy)⟩
/-- A key more: its words lie in memory of their own. -/
theorem add_key {w5 w6 : World} {base : Nat} {l : List KyR} {x : KyR} {B B' : Option Addr} {k c c' m : Nat} (hd : OwnWords w5 base l) (hx : Own w5 base 3 1 x.A x.k.words.length x.c (ivs x.k.words)) (hB : Own w5 base 46 4 B k c (kvs l)) (hg : w5.grownBy w6 (blk B))
    (hm : ∀ (i : Nat) (y : KyR), l[i]? = some y → ∀ q, blk y.A = some q → q < m) (hxm : ∀ q, blk x.A = some q → m ≤ q) (hB' : Own w6 base 46 4 B' (k + 1) c' (kvs l ++ kcs x)) : OwnWords w6 base (l ++ [x]) ∧ Own w6 base 46 4 B' (k + 1) c' (kvs (l ++ [x])) := by
  have hap : ∀ {A : Option Addr} {n d : Nat} {xs : List Value}, Own w5 base 3 1 A n d xs → Own w6 base 3 1 A n d xs := fun h => h.over hg (fun q hq h2 => (h.apart hB (by decide)) q h2 hq)
  refine ⟨OwnWords.snoc (hd.map fun _ _ _ _ h => hap h) (hap hx) ?_, by rw [kvs_snoc]; exact hB'⟩
  intro i y hy q hq hq2
  have h1 := hm i y hy q hq
  have h2 := hxm q hq2
  omega
theorem keyinfo : (Try.prog.info? 46).map (fun i => (i.zero, i.size, i.bytes)) = some (some (.agg #[.int .i64 0, .slice none 0 0, .int .i64 0, .int .i64 0]), 4, 48) := by kernel_rfl
/-- Which ring may be. -/
def ringOk (L : List Ky) : Prop := L.length ≤ 8 ∧ (∀ x ∈ L, keyOk x) ∧ L.Pairwise (fun x y => x.id ≠ y.id)
instance (L : List Ky) : Decidable (ringOk L) := by unfold ringOk; infer_instance
/-- What any argument is. -/
def RingFits (L : List Ky) : Prop := ∀ x ∈ L, (x.words.length ≤ 17592186044400 ∧ x.seen < 9223372036854775808) ∧ (Lit.int .i64 x.id).wf = true
/-- Rings that came out, in memory of their own. -/
def RingVal (w w' : World) (L : List Ky) (v : Value) : Prop := ∃ B c, v = .agg #[.slice B L.length c] ∧ OwnRing w' w.heap.size B L.length c L
/-- So far: the first i keys may be, and no two of them have one id. -/
def okTo (L : List Ky) (i : Nat) : Prop := (∀ j x, j < i → L[j]? = some x → keyOk x) ∧ ∀ a b x y, a < b → b < i → L[a]? = some x → L[b]? = some y → x.id ≠ y.id
theorem okTo_zero (L : List Ky) : okTo L 0 := ⟨fun j x h => by omega, fun a b x y h1 h2 => by omega⟩
theorem okTo_succ {L : List Ky} {i : Nat} {x : Ky} (h : okTo L i) (hx : L[i]? = some x) (hk : keyOk x) (hd : ∀ a y, a < i → L[a]? = some y → x.id ≠ y.id) : okTo L (i + 1) := by
  constructor
  · intro j z hj hz
    rcases Nat.lt_or_ge j i with h1 | h1
    · exact h.1 j z h1 hz
    · obtain rfl : j = i := by omega
      rw [hx] at hz
      injection hz with hz
      subst hz
      exact hk
  · intro a b y z hab hb hy hz
    rcases Nat.lt_or_ge b i with h1 | h1
    · exact h.2 a b y z hab h1 hy hz
    · obtain rfl : b = i := by omega
      rw [hx] at hz
      injection hz with hz
      subst hz
      exact fun e => hd a y hab hy e.symm
theorem ringOk_iff {L : List Ky} : ringOk L ↔ L.length ≤ 8 ∧ okTo L L.length := by
  unfold ringOk okTo
  refine and_congr_right fun _ => ?_
  constructor
  · rintro ⟨h1, h2⟩
    refine ⟨fun j x hj hx => h1 x (List.mem_of_getElem? hx), fun a b x y hab hb hx hy => ?_⟩
    obtain ⟨ha', rfl⟩ := List.getElem?_eq_some_iff.1 hx
    obtain ⟨hb', rfl⟩ := List.getElem?_eq_some_iff.1 hy
    exact List.pairwise_iff_getElem.1 h2 a b ha' hb' hab
  · rintro ⟨h1, h2⟩
    refine ⟨fun x hx => ?_, List.pairwise_iff_getElem.2 fun a b ha hb hab => h2 a b _ _ hab hb (List.getElem?_eq_getElem ha) (List.getElem?_eq_getElem hb)⟩
    obtain ⟨j, hj, rfl⟩ := List.mem_iff_getElem.1 hx
    exact h1 j _ hj (List.getElem?_eq_getElem hj)
theorem ky_at {l : List KyR} {L : List Ky} (h : l.map KyR.k = L) {i : Nat} (hi : i < L.length) : ∃ A d, l[i]? = some ⟨L[i], A, d⟩ := by
  subst h
  have hi' : i < l.length := by simpa using hi
  refine ⟨l[i].A, l[i].c, ?_⟩
  rw [List.getElem?_eq_getElem hi', List.getElem_map]
end Go.Proofs.Ytkbaganbfcbioaa
namespace Go.Proofs.Ytkbaganbfcbioaa
set_option linter.unusedSimpArgs false
set_option linter.unusedVariables false
open Go.RowKit

set_option maxHeartbeats 3200000 in
set_option maxRecDepth 100000 in
theorem over_ints (base : Nat) (A : Option Addr) (n c : Nat) (zs : List Int) (v : Int) (w : World) (hO : Own w base 3 1 A n c (ivs zs)) (hn : n ≤ 17592186044000) (hbase : base ≤ w.heap.size) :
    Calls Try.prog 26 #[.slice A n c, .int .i64 v] w fun e w' => e = .returned (.tuple #[]) ∧ w.grownBy w' (blk A) := by
  obtain ⟨i0, hi0, hz0, hz1, hz2⟩ := info_parts i64info
  go_enter Try.func26, Try.ntmps26
  go_wp2_with fail
  go_loopw [4] (fun i wr => ∃ (k : Nat) (ys : List Int), k ≤ n ∧ i = .int .i64 k ∧ Own wr base 3 1 A n c (ivs ys) ∧ w.grownBy wr (blk A)) (fun i _ => n - (intOf i).toNat)
  case atStart => exact ⟨0, zs, by omega, by simp, hO, World.grownBy.refl _ _⟩
  case round =>
    obtain ⟨k, ys, hk, rfl, hO', hg⟩ := hrel
    clear hO
    by_cases h5 : k < n
    · have h5i : (k : Int) < (n : Int) := by omega
      have hle := hO'.le
      obtain ⟨g, off, rfl, _, _⟩ := hO'.form (by omega)
      obtain ⟨x, hx, hc⟩ := hO'.intAt h5
      have hf := hO'.frozen (off + k)
      have Hx := Lib.hid hx
      clear hx
      go_wp2_with fail
      go_roundw
      case rel => exact ⟨k + 1, ys.set k v, by omega, by go_num, hO'.setI h5 _, grown_setCell (p := ⟨g, off + k, none⟩) hg (.inl rfl) _⟩
      case measure => simp [intOf]; omega
    · have h5i : ¬ (k : Int) < (n : Int) := by omega
      go_wp2_with fail
      go_loopw [0, 5] (fun av jv wr => ∃ (j : Nat) (A2 : Option Addr) (c2 : Nat) (ys : List Int), j ≤ 20 ∧ av = .slice A2 (n + j) c2 ∧ jv = .int .i64 (j : Int) ∧ Own wr base 3 1 A2 (n + j) c2 (ivs ys) ∧ w.grownBy wr (blk A) ∧ (blk A2 = blk A ∨ ∀ g, blk A2 = some g → w.heap.size ≤ g)) (fun _ jv _ => 20 - (intOf jv).toNat)
      case atStart => exact ⟨0, A, c, ys, by omega, rfl, rfl, hO', hg, .inl rfl⟩
      case round =>
        clear hO' hg h5 h5i hk
        obtain ⟨j, A2, c2, zs2, hj, rfl, rfl, hO, hg, hA⟩ := hrel
        by_cases h6 : j < 20
        · have h6i : (j : Int) < 20 := by omega
          have q4 : n + j + 1 ≤ maxLen := by unfold maxLen; omega
          have q5 : (n + j + 1) * 8 ≤ 140737488355328 := by omega
          have hbs : base ≤ (wr.alloc (.cells #[.int .i64 v] 3)).heap.size := by have := hg.size; simp; omega
          have hR := Rd_lit wr [.int .i64 v] 3
          have hOn := hO.alloc (.cells #[.int .i64 v] 3)
          go_wp2_with (at_builtin; refine wpList_append_Own (wr.alloc (.cells #[.int .i64 v] 3)) rfl (.tmp 20) (.tmp 22) 35 rfl base 3 i0 _ 1 8 Try.underlying35 hi0 hz0 hz1 hz2 rfl A2 (n + j) c2 (ivs zs2) rfl hOn _ 1 1 [.int .i64 v] rfl rfl hR (one_int _) q4 q5 hbs ?_; intro A' c' w1 hO1 hg1 hor)
          have hg2 : w.grownBy w1 (blk A) := grown_trans (grown_alloc hg _) hg1 (by
            rcases hA with h | h
            · exact .inl h
            · exact .inr h)
          go_roundw
          case rel =>
            refine ⟨j + 1, A', c', zs2 ++ [v], by omega, by rw [show n + (j + 1) = n + j + 1 by omega], by go_num, ?_, hg2, ?_⟩
            · rw [show n + (j + 1) = n + j + 1 by omega]
              rw [show ivs (zs2 ++ [v]) = ivs zs2 ++ [.int .i64 v] from by simp [ivs, iv]]
              exact hO1
            · rcases hor with h | h
              · rw [h]; exact hA
              · refine .inr (fun g e => ?_)
                rw [h] at e
                injection e with e
                have := hg.size
                simp at e
                omega
          case measure => simp [intOf]; omega
        · have h6i : ¬ (j : Int) < 20 := by omega
          go_wp2_with fail
          go_end0
          exact ⟨rfl, hg⟩
end Go.Proofs.Ytkbaganbfcbioaa
namespace Go.Proofs.Ytkbaganbfcbioaa
set_option linter.unusedSimpArgs false
set_option linter.unusedVariables false
open Go.RowKit

theorem fm_take {α : Type} {f : α → List Value} {s : Nat} (hf : ∀ x, (f x).length = s) : ∀ (l : List α) (i : Nat), (l.flatMap f).take (i * s) = (l.take i).flatMap f
  | [], i => by simp
  | x :: l, 0 => by simp
  | x :: l, i + 1 => by
    rw [List.flatMap_cons, List.take_succ_cons, List.flatMap_cons, List.take_append, hf, show (i + 1) * s - s = i * s by rw [Nat.succ_mul]; omega, fm_take hf l i, List.take_of_length_le (by rw [hf, Nat.succ_mul]; omega)]
theorem fm_drop {α : Type} {f : α → List Value} {s : Nat} (hf : ∀ x, (f x).length = s) : ∀ (l : List α) (i : Nat), (l.flatMap f).drop (i * s) = (l.drop i).flatMap f
  | [], i => by simp
  | x :: l, 0 => by simp
  | x :: l, i + 1 => by
    rw [List.flatMap_cons, List.drop_succ_cons, List.drop_append, hf, show (i + 1) * s - s = i * s by rw [Nat.succ_mul]; omega, fm_drop hf l i, List.drop_of_length_le (by rw [hf, Nat.succ_mul]; omega), List.nil_append]
theorem kvs_take (l : List KyR) (i : Nat) : (kvs l).take (i * 4) = kvs (l.take i) := fm_take kcs_len l i
theorem kvs_drop (l : List KyR) (i : Nat) : (kvs l).drop (i * 4) = kvs (l.drop i) := fm_drop kcs_len l i
theorem kvs_erase (l : List KyR) (i : Nat) : kvs (l.take i) ++ kvs (l.drop (i + 1)) = kvs (l.eraseIdx i) := by rw [← kvs_append, List.eraseIdx_eq_take_drop_succ]
/-- The first elements alone, with no room behind them, 's[:m:m]'. -/
theorem Own.capCut {w : World} {base : Nat} {e : TypeId} {size : Nat} {A : Option Addr} {n c : Nat} {xs : List Value} (h : Own w base e size A n c xs) {m : Nat} (hm : m ≤ n) : Own w base e size A m m (xs.take (m * size)) := by
  have hc := h.le
  refine ⟨by rw [List.length_take, h.len]; exact Nat.min_eq_left (Nat.mul_le_mul_right _ hm), Nat.le_refl _, Nat.le_trans (Nat.le_trans hm hc) h.cap, fun e => by have := h.nil e; omega, fun a ha => ?_⟩
  obtain ⟨cur, hs, hb, hh, hsz, hx⟩ := h.at_ a ha
  have hmc : m * size ≤ c * size := Nat.mul_le_mul_right _ (Nat.le_trans hm hc)
  refine ⟨cur, hs, hb, hh, by omega, fun i u hu => hx i u ?_⟩
  rw [List.getElem?_take] at hu
  split at hu
  · exact hu
  · cases hu
/-- Which key has this id. -/
def kfind (L : List Ky) (id : Int) : Option Nat := L.findIdx? fun x => x.id == id
theorem kfind_some {L : List Ky} {id : Int} {i : Nat} {x : Ky} (h : L[i]? = some x) (hx : x.id = id) (hb : ∀ a y, a < i → L[a]? = some y → y.id ≠ id) : kfind L id = some i := by
  obtain ⟨hi, rfl⟩ := List.getElem?_eq_some_iff.1 h
  unfold kfind
  rw [List.findIdx?_eq_some_iff_getElem]
  refine ⟨hi, by simpa using hx, fun j hj => ?_⟩
  have := hb j _ hj (List.getElem?_eq_getElem (by omega))
  simpa using this
theorem kfind_none {L : List Ky} {id : Int} (hb : ∀ (a : Nat) (y : Ky), L[a]? = some y → y.id ≠ id) : kfind L id = none := by
  unfold kfind
  rw [List.findIdx?_eq_none_iff]
  intro x hx
  obtain ⟨j, hj, rfl⟩ := List.mem_iff_getElem.1 hx
  have := hb j _ (List.getElem?_eq_getElem hj)
  simpa using this
def dropR (L : List Ky) (id : Int) : List Ky × Int := if ringOk L then (match kfind L id with | none => (L, 10) | some i => (L.eraseIdx i, 0)) else ([], 11)
theorem erase_at {α : Type} {l : List α} {i a : Nat} {x : α} (h : (l.eraseIdx i)[a]? = some x) : l[if a < i then a else a + 1]? = some x := by
  rw [List.getElem?_eraseIdx] at h
  split at h
  · rename_i h2; rw [if_pos h2]; exact h
  · rename_i h2; rw [if_neg h2]; exact h
theorem OwnWords.erase {w : World} {base : Nat} {l : List KyR} (h : OwnWords w base l) (i : Nat) : OwnWords w base (l.eraseIdx i) :=
  h.sub (fun a => if a < i then a else a + 1) (fun a b hab => by split <;> split <;> omega) (fun a x hx => erase_at hx)
theorem map_erase {α β : Type} (f : α → β) : ∀ (l : List α) (i : Nat), (l.eraseIdx i).map f = (l.map f).eraseIdx i
  | [], i => by simp
  | x :: l, 0 => by simp
  | x :: l, i + 1 => by simp [map_erase f l i]
/-- Results: a ring in memory of its own, and an error. -/
def RingRes (w w' : World) (r : List Ky × Int) (e : Ending) : Prop :=
  ∃ B c, e = .returned (.tuple #[.agg #[.slice B r.1.length c], .int .i64 r.2]) ∧ OwnRing w' w.heap.size B r.1.length c r.1 ∧ Below w.heap.size w w'
theorem RingRes.none_ {w w' : World} {k : Int} (h : Below w.heap.size w w') : RingRes w w' ([], k) (.returned (.tuple #[.agg #[.slice none 0 0], .int .i64 k])) := ⟨none, 0, rfl, ⟨[], rfl, Own.none_ _ _ _ _, OwnWords.nil _ _⟩, h⟩
end Go.Proofs.Ytkbaganbfcbioaa
