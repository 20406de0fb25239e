/-
  overRing: a ring is written over by its owner.
-/
import Derived.Test.YtkbaganbfcbioaaOver
import Derived.Test.YtkbaganbfcbioaaRingD
namespace Go.Proofs.Ytkbaganbfcbioaa
set_option linter.unusedSimpArgs false
set_option linter.unusedVariables false
open Go.RowKit

/-- Only what belongs to the call from 'base' on has turned, below 'top'. -/
def TurnedIn (w w' : World) (base top : Nat) : Prop := Below base w w' ∧ ∀ i, top ≤ i → i < w.heap.size → w'.heap[i]? = w.heap[i]?
theorem TurnedIn.refl (w : World) (base top : Nat) : TurnedIn w w base top := ⟨Below.refl _ _, fun i _ _ => rfl⟩
theorem TurnedIn.grown {w v v' : World} {base top : Nat} (h : TurnedIn w v base top) {row : Option Nat} (hg : v.grownBy v' row) (hr : ∀ q, row = some q → base ≤ q ∧ (q < top ∨ w.heap.size ≤ q)) (hb : base ≤ w.heap.size) : TurnedIn w v' base top :=
  ⟨h.1.grown hg (Nat.le_trans hb h.1.size) (fun q hq => (hr q hq).1), fun i h1 h2 => (hg.block i (Nat.lt_of_lt_of_le h2 h.1.size) (fun e => by have := (hr i e.symm).2; omega)).trans (h.2 i h1 h2)⟩
theorem TurnedIn.set {w v : World} {base top : Nat} (h : TurnedIn w v base top) {p : Addr} (hp : base ≤ p.block) (hp2 : p.block < top ∨ w.heap.size ≤ p.block) (u : Value) : TurnedIn w (v.setCell p u) base top :=
  ⟨h.1.setCell hp u, fun i h1 h2 => (Below.heap_setCell v p u i (by omega)).trans (h.2 i h1 h2)⟩
theorem TurnedIn.keepLow {w w' : World} {base top : Nat} (h : TurnedIn w w' base top) {b : Nat} {e : TypeId} {s n c : Nat} {A : Option Addr} {xs : List Value} (hO : Own w b e s A n c xs) (hA : ∀ q, blk A = some q → q < base ∨ top ≤ q) : Own w' b e s A n c xs :=
  hO.keep fun a ha hl => by
    rcases hA a.block (map_block_of_some ha) with h1 | h1
    · exact h.1.block _ h1
    · exact h.2 _ h1 hl

set_option maxHeartbeats 6400000 in
set_option maxRecDepth 100000 in
theorem overRing_any (l : List KyR) (L : List Ky) (B : Option Addr) (n d base top : Nat) (w : World) (hl : l.map KyR.k = L) (hn : L.length = n) (hO : Own w base 46 4 B n d (kvs l)) (hD : OwnWords w base l) (hbase : base ≤ w.heap.size) (ht : top ≤ w.heap.size) (hBt : ∀ q, blk B = some q → q < top) (hDt : ∀ (i : Nat) (y : KyR), l[i]? = some y → ∀ q, blk y.A = some q → q < top) (hf : ∀ x ∈ L, x.words.length ≤ 17592186044000) (hnn : n ≤ 2932031007317) :
    Calls Try.prog 50 #[.agg #[.slice B n d]] w fun e w' => e = .returned (.tuple #[]) ∧ TurnedIn w w' base top := by
  obtain ⟨j0, hj0, hy0, hy1, hy2⟩ := info_parts keyinfo
  have HN := Lib.hid hn
  have HL := Lib.hid hl
  have HDd := Lib.hid hD.2
  clear hn hl
  go_enter Try.func50, Try.ntmps50
  go_wp2_with fail
  have hb0 : Blk (w.alloc (.cells #[.slice B n d] 44)) w.heap.size 44 #[.slice B n d] := Blk.new _ _ _
  have hO0 := hO.alloc (.cells #[.slice B n d] 44)
  have hD0 := hD.map (fun _ _ _ _ h => h.alloc (.cells #[.slice B n d] 44))
  have hT0 : TurnedIn w (w.alloc (.cells #[.slice B n d] 44)) base top := ⟨(Below.refl _ _).alloc hbase _, fun i _ hi => Below.heap_alloc w _ i hi⟩
  have hlt : ∀ q, blk B = some q → base ≤ q ∧ q < top := fun q hq => ⟨(hO.lt q hq).1, hBt q hq⟩
  have hltD := Lib.hid (fun (i : Nat) (y : KyR) (hy : l[i]? = some y) (q : Nat) (hq : blk y.A = some q) => (⟨(hD.lt hy hq).1, hDt i y hy q hq⟩ : base ≤ q ∧ q < top))
  clear hO hD
  go_loopw [2] (fun iv wr => ∃ (i : Nat) (xs : List Value), i ≤ n ∧ iv = .int .i64 (i : Int) ∧ TurnedIn w wr base top ∧ Blk wr w.heap.size 44 #[.slice B n d] ∧ Own wr base 46 4 B n d xs ∧ Hid (∀ j, i * 4 ≤ j → xs[j]? = (kvs l)[j]?) ∧ (∀ (j : Nat) (x : KyR), i ≤ j → l[j]? = some x → Own wr base 3 1 x.A x.k.words.length x.c (ivs x.k.words))) (fun iv _ => n - (intOf iv).toNat)
  case atStart => exact ⟨0, kvs l, Nat.zero_le _, rfl, hT0, hb0, hO0, Lib.hid (fun j _ => rfl), fun j x _ hx => hD0.1 j x hx⟩
  case round =>
    clear hT0 hb0 hO0 hD0
    obtain ⟨i, xs, hi, rfl, hT, b0, hO, HX, hR⟩ := hrel
    have k0 := b0.cell' (i := 0) rfl
    have zT := hT.1.size
    by_cases h5 : i < n
    · have h5i : (i : Int) < (n : Int) := by omega
      have hip : (0 : Int) ≤ (i : Int) := by omega
      have hiL : i < L.length := by rw [HN.out]; exact h5
      obtain ⟨xA, xd, hx⟩ := ky_at HL.out hiL
      have hff := hf _ (List.getElem_mem hiL)
      generalize L[i] = kx at *
      obtain ⟨id, words, top, seen⟩ := kx
      obtain ⟨g, o, rfl, hg1, hg2⟩ := hO.form (by have := hO.le; omega)
      have hglt := (hlt g rfl).2
      have c1 : wr.cell? ⟨g, o + i * 4 + 1, none⟩ = some (.slice xA words.length xd) := hO.cell ((HX.out (i * 4 + 1) (by omega)).trans ((kvs_get hx (j := 1) (by omega)).trans rfl))
      have hxO := hR i _ (Nat.le_refl _) hx
      have hxlt := hltD.out i _ hx
      dsimp only at hff hxO hxlt
      have CO := Lib.hid (over_ints base xA words.length xd words (-7) wr hxO hff (by omega))
      go_wp2_with fail
      refine (CO.out).mono ?_
      rintro e w1 ⟨rfl, hg1'⟩
      have z1 := hg1'.size
      have hT1 := hT.grown hg1' (fun q hq => ⟨(hxlt q hq).1, .inl (hxlt q hq).2⟩) hbase
      have b01 := b0.over hg1' (fun q hq e => by have := (hxlt q hq).2; injection e with e; omega)
      have hO1 := hO.over hg1' (hxO.apart hO (by decide))
      have hR1 : ∀ (j : Nat) (x : KyR), i + 1 ≤ j → l[j]? = some x → Own w1 base 3 1 x.A x.k.words.length x.c (ivs x.k.words) := fun j x hj hxj => (hR j x (by omega) hxj).over hg1' (HDd.out i j _ x (by omega) hx hxj)
      clear hT b0 hR k0 c1 CO
      have k0 := b01.cell' (i := 0) rfl
      have hmul : i * 4 + 4 ≤ n * 4 := by omega
      have hX0 : ∀ r, r < 4 → xs[i * 4 + r]? = (kcs ⟨⟨id, words, top, seen⟩, xA, xd⟩)[r]? := fun r hr => (HX.out (i * 4 + r) (by omega)).trans (kvs_get hx hr)
      have s0 := hO1.set (i * 4) (by omega) (.int .i64 (-7))
      have s1 := s0.set (i * 4 + 1) (by omega) (.slice none 0 0)
      have s2 := s1.set (i * 4 + 2) (by omega) (.int .i64 0)
      have s3 := s2.set (i * 4 + 3) (by omega) (.int .i64 0)
      have e0 : w1.cell? ⟨g, o + i * 4, none⟩ = some (.int .i64 id) := hO1.cell ((hX0 0 (by omega)).trans rfl)
      have e1 : (w1.setCell ⟨g, o + i * 4, none⟩ (.int .i64 (-7))).cell? ⟨g, o + i * 4 + 1, none⟩ = some (.slice xA words.length xd) := s0.cell (i := i * 4 + 1) (by rw [List.getElem?_set_ne (by omega)]; exact (hX0 1 (by omega)).trans rfl)
      have e2 : ((w1.setCell ⟨g, o + i * 4, none⟩ (.int .i64 (-7))).setCell ⟨g, o + i * 4 + 1, none⟩ (.slice none 0 0)).cell? ⟨g, o + i * 4 + 2, none⟩ = some (.int .i64 top) := s1.cell (i := i * 4 + 2) (by rw [List.getElem?_set_ne (by omega), List.getElem?_set_ne (by omega)]; exact (hX0 2 (by omega)).trans rfl)
      have e3 : (((w1.setCell ⟨g, o + i * 4, none⟩ (.int .i64 (-7))).setCell ⟨g, o + i * 4 + 1, none⟩ (.slice none 0 0)).setCell ⟨g, o + i * 4 + 2, none⟩ (.int .i64 0)).cell? ⟨g, o + i * 4 + 3, none⟩ = some (.int .i64 seen) := s2.cell (i := i * 4 + 3) (by rw [List.getElem?_set_ne (by omega), List.getElem?_set_ne (by omega), List.getElem?_set_ne (by omega)]; exact (hX0 3 (by omega)).trans rfl)
      have f0 : ∀ r, w1.frozen? ⟨g, r, none⟩ = false := fun r => hO1.frozen r
      have f1 : ∀ r, (w1.setCell ⟨g, o + i * 4, none⟩ (.int .i64 (-7))).frozen? ⟨g, r, none⟩ = false := fun r => s0.frozen r
      have f2 : ∀ r, ((w1.setCell ⟨g, o + i * 4, none⟩ (.int .i64 (-7))).setCell ⟨g, o + i * 4 + 1, none⟩ (.slice none 0 0)).frozen? ⟨g, r, none⟩ = false := fun r => s1.frozen r
      have f3 : ∀ r, (((w1.setCell ⟨g, o + i * 4, none⟩ (.int .i64 (-7))).setCell ⟨g, o + i * 4 + 1, none⟩ (.slice none 0 0)).setCell ⟨g, o + i * 4 + 2, none⟩ (.int .i64 0)).frozen? ⟨g, r, none⟩ = false := fun r => s2.frozen r
      have HX2 : Hid (∀ j, (i + 1) * 4 ≤ j → ((((xs.set (i * 4) (.int .i64 (-7))).set (i * 4 + 1) (.slice none 0 0)).set (i * 4 + 2) (.int .i64 0)).set (i * 4 + 3) (.int .i64 0))[j]? = (kvs l)[j]?) := Lib.hid (fun j hj => by
        rw [List.getElem?_set_ne (by omega), List.getElem?_set_ne (by omega), List.getElem?_set_ne (by omega), List.getElem?_set_ne (by omega)]
        exact HX.out j (by omega))
      have hsf : ∀ {A : Option Addr} {q c : Nat} {ys : List Value}, Own w1 base 3 1 A q c ys → blk A ≠ some g := fun h e => (h.apart hO1 (by decide)) g e rfl
      have hT4 := (((hT1.set (p := ⟨g, o + i * 4, none⟩) hg1 (.inl hglt) (.int .i64 (-7))).set (p := ⟨g, o + i * 4 + 1, none⟩) hg1 (.inl hglt) (.slice none 0 0)).set (p := ⟨g, o + i * 4 + 2, none⟩) hg1 (.inl hglt) (.int .i64 0)).set (p := ⟨g, o + i * 4 + 3, none⟩) hg1 (.inl hglt) (.int .i64 0)
      have hgw : ¬ (w.heap.size = g) := by omega
      have b04 := (((b01.far (p := ⟨g, o + i * 4, none⟩) hgw (.int .i64 (-7))).far (p := ⟨g, o + i * 4 + 1, none⟩) hgw (.slice none 0 0)).far (p := ⟨g, o + i * 4 + 2, none⟩) hgw (.int .i64 0)).far (p := ⟨g, o + i * 4 + 3, none⟩) hgw (.int .i64 0)
      have hR4 : ∀ (j : Nat) (x : KyR), i + 1 ≤ j → l[j]? = some x → Own ((((w1.setCell ⟨g, o + i * 4, none⟩ (.int .i64 (-7))).setCell ⟨g, o + i * 4 + 1, none⟩ (.slice none 0 0)).setCell ⟨g, o + i * 4 + 2, none⟩ (.int .i64 0)).setCell ⟨g, o + i * 4 + 3, none⟩ (.int .i64 0)) base 3 1 x.A x.k.words.length x.c (ivs x.k.words) := fun j x hj hxj =>
        ((((hR1 j x hj hxj).setFar (p := ⟨g, o + i * 4, none⟩) (hsf (hR1 j x hj hxj)) _).setFar (p := ⟨g, o + i * 4 + 1, none⟩) (hsf (hR1 j x hj hxj)) _).setFar (p := ⟨g, o + i * 4 + 2, none⟩) (hsf (hR1 j x hj hxj)) _).setFar (p := ⟨g, o + i * 4 + 3, none⟩) (hsf (hR1 j x hj hxj)) _
      clear hX0 s0 s1 s2 hT1 b01 hR1 hsf hO1 hO
      go_wp2_with fail
      go_roundw
      case rel => exact ⟨i + 1, _, by omega, by go_num, hT4, b04, s3, HX2, hR4⟩
      case measure => simp [intOf]; omega
    · have h5i : ¬ (i : Int) < (n : Int) := by omega
      have q4 : n + 1 ≤ maxLen := by unfold maxLen; omega
      have q5 : (n + 1) * 48 ≤ 140737488355328 := by omega
      have hOn := hO.alloc (.cells #[.int .i64 (-8), .slice none 0 0, .int .i64 0, .int .i64 0] 46)
      have hR5 := Rd_lit wr [.int .i64 (-8), .slice none 0 0, .int .i64 0, .int .i64 0] 46
      have hbs : base ≤ (wr.alloc (.cells #[.int .i64 (-8), .slice none 0 0, .int .i64 0, .int .i64 0] 46)).heap.size := by simp; omega
      have hone : Hid (∀ u ∈ [Value.int .i64 (-8), .slice none 0 0, .int .i64 0, .int .i64 0], u.oneCell' = true) := Lib.hid (by
        intro u hu
        simp at hu
        rcases hu with rfl | rfl | rfl | rfl <;> rfl)
      have hT5 : TurnedIn w (wr.alloc (.cells #[.int .i64 (-8), .slice none 0 0, .int .i64 0, .int .i64 0] 46)) base top := hT.grown (row := none) ⟨rfl, rfl, rfl, by simp, fun i hi _ => Below.heap_alloc wr _ i hi⟩ (fun q hq => by cases hq) hbase
      go_wp2_with (at_builtin; refine wpList_append_Own (wr.alloc (.cells #[.int .i64 (-8), .slice none 0 0, .int .i64 0, .int .i64 0] 46)) rfl (.tmp 23) (.tmp 25) 42 rfl base 46 j0 _ 4 48 Try.underlying42 hj0 hy0 hy1 hy2 rfl B n d xs rfl hOn (some ⟨wr.heap.size, 0, none⟩) 1 1 [.int .i64 (-8), .slice none 0 0, .int .i64 0, .int .i64 0] rfl rfl hR5 hone.out q4 q5 hbs ?_; intro A6 c6 w6 hO6 hg6 hor6)
      go_end0
      exact ⟨rfl, hT5.grown hg6 (fun q hq => ⟨(hlt q hq).1, .inl (hlt q hq).2⟩) hbase⟩
end Go.Proofs.Ytkbaganbfcbioaa
