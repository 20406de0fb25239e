/-
  slices.Clone of ints and of keys: memory of its own. keys.own: the ring, if it may be, with memory of its own. keys.find: which key of a ring has an id (slices.IndexFunc over a func that has caught the id).
-/
import Derived.Test.YtkbaganbfcbioaaMKeysOpens6
import Derived.Test.YtkbaganbfcbioaaMKeysOpens4
import Derived.WalkSpells
import Derived.Test.YtkbaganbfcbioaaMKeysOpens9
import Derived.Test.YtkbaganbfcbioaaMKeysOpens8
import Derived.Maps.Own
import Derived.Maps.OwnOps
import Derived.Maps.OwnSet
import Derived.Maps.Views
namespace Go.Proofs.Ytkbaganbfcbioaa
set_option linter.unusedSimpArgs false
set_option linter.unusedVariables false
open Go.RowKit

set_option maxHeartbeats 1600000 in
set_option maxRecDepth 100000 in
theorem cloneI (A : Option Addr) (l : List Int) (n c : Nat) (w : World) (hl : l.length = n) (ha : Rd w A (ivs l)) (hn : n ≤ 17592186044400) :
    Calls Try.prog 49 #[.slice A n c] w fun e w' => ∃ A' c', e = .returned (.slice A' n c') ∧ Own w' w.heap.size 3 1 A' n c' (ivs l) ∧ Below w.heap.size w w' := by
  obtain ⟨i0, hi0, hz0, hz1, hz2⟩ := info_parts i64info
  have q2 : 0 + n ≤ maxLen := by unfold maxLen; omega
  have q3 : (0 + n) * 8 ≤ 140737488355328 := by omega
  have q1 : Hid ((ivs l).length = n * 1) := by show _ = _; simp [ivs, hl]
  have hE := fun (W : World) (a : Option Addr) (n c : Nat) => Lib.run_eql_slice_nil (P := Try.prog) W 35 3 a n c 0 0 Try.underlying35
  rcases A with _ | a
  · have hl0 : l = [] := by
      rcases l with _ | ⟨x, l⟩
      · rfl
      · obtain ⟨b, off, e, _⟩ := ha.int (k := 0) (by simp)
        cases e
    subst hl0
    obtain rfl : n = 0 := by simpa using hl.symm
    clear q1 q2 q3
    go_enter Try.func49, Try.ntmps49
    go_wp2
    go_ret
    exact ⟨none, 0, rfl, Own.none_ _ _ _ _, Below.refl _ _⟩
  · have hO : Own (w.alloc (.cells #[] 3)) w.heap.size 3 1 (some ⟨w.heap.size, 0, none⟩) 0 0 [] := Own.of_block (heap_alloc_new w _) (Nat.le_refl _) rfl (Nat.le_refl _) (Nat.zero_le _) (by simp) (fun i u h => by simp at h)
    have hR2 := ha.alloc (.cells #[] 3)
    have q4 : w.heap.size ≤ (w.alloc (.cells #[] 3)).heap.size := by simp
    clear hl
    go_enter Try.func49, Try.ntmps49
    go_wp2_with (at_builtin; refine wpList_append_Own _ rfl (.tmp 5) (.tmp 6) 35 rfl w.heap.size 3 i0 _ 1 8 Try.underlying35 hi0 hz0 hz1 hz2 rfl _ 0 0 [] rfl hO (some a) n c (ivs l) rfl q1.out hR2 (ivs_one _) q2 q3 q4 ?_; intro A' c' w1 hO1 hg1 hor)
    go_ret
    rw [Nat.zero_add, List.nil_append] at hO1
    refine ⟨A', c', rfl, hO1, ?_⟩
    exact ((Below.refl _ _).alloc (Nat.le_refl _) _).grown hg1 (by simp) (fun k hk => by simp [blk] at hk; omega)
set_option maxHeartbeats 1600000 in
set_option maxRecDepth 100000 in
theorem cloneK (A : Option Addr) (l : List KyR) (n c : Nat) (w : World) (hl : l.length = n) (ha : Rd w A (kvs l)) (hn : n ≤ 2932031007317) :
    Calls Try.prog 66 #[.slice A n c] w fun e w' => ∃ A' c', e = .returned (.slice A' n c') ∧ Own w' w.heap.size 46 4 A' n c' (kvs l) ∧ Below w.heap.size w w' := by
  obtain ⟨i0, hi0, hz0, hz1, hz2⟩ := info_parts keyinfo
  have q2 : 0 + n ≤ maxLen := by unfold maxLen; omega
  have q3 : (0 + n) * 48 ≤ 140737488355328 := by omega
  have q1 : Hid ((kvs l).length = n * 4) := by show _ = _; rw [kvs_len, hl]
  have hE := fun (W : World) (a : Option Addr) (n c : Nat) => Lib.run_eql_slice_nil (P := Try.prog) W 42 46 a n c 0 0 Try.underlying42
  rcases A with _ | a
  · have hl0 : l = [] := by
      rcases l with _ | ⟨x, l⟩
      · rfl
      · obtain ⟨b, off, e, _⟩ := ha 0 _ (show (kvs (x :: l))[0]? = some _ from rfl)
        cases e
    subst hl0
    obtain rfl : n = 0 := by simpa using hl.symm
    clear q1 q2 q3
    go_enter Try.func66, Try.ntmps66
    go_wp2
    go_ret
    exact ⟨none, 0, rfl, Own.none_ _ _ _ _, Below.refl _ _⟩
  · have hO : Own (w.alloc (.cells #[] 46)) w.heap.size 46 4 (some ⟨w.heap.size, 0, none⟩) 0 0 [] := Own.of_block (heap_alloc_new w _) (Nat.le_refl _) rfl (Nat.le_refl _) (Nat.zero_le _) (by simp) (fun i u h => by simp at h)
    have hR2 := ha.alloc (.cells #[] 46)
    have q4 : w.heap.size ≤ (w.alloc (.cells #[] 46)).heap.size := by simp
    clear hl
    go_enter Try.func66, Try.ntmps66
    go_wp2_with (at_builtin; refine wpList_append_Own _ rfl (.tmp 5) (.tmp 6) 42 rfl w.heap.size 46 i0 _ 4 48 Try.underlying42 hi0 hz0 hz1 hz2 rfl _ 0 0 [] rfl hO (some a) n c (kvs l) rfl q1.out hR2 (kvs_one _) q2 q3 q4 ?_; intro A' c' w1 hO1 hg1 hor)
    go_ret
    rw [Nat.zero_add, List.nil_append] at hO1
    refine ⟨A', c', rfl, hO1, ?_⟩
    exact ((Below.refl _ _).alloc (Nat.le_refl _) _).grown hg1 (by simp) (fun k hk => by simp [blk] at hk; omega)
end Go.Proofs.Ytkbaganbfcbioaa
namespace Go.Proofs.Ytkbaganbfcbioaa
set_option linter.unusedSimpArgs false
set_option linter.unusedVariables false
open Go.RowKit Go.Maps

theorem law_ids : Keyed Try.prog 3 := int_keyed Try.underlying3
theorem zero_ids (w : World) : (zeroValue 3).run Try.prog w = .ok (.int .i64 0) w := by kernel_rfl
/-- What the map of ids reads as, i keys in: each id that has come stands at 1. -/
def idsAt (D : DataW Unit) (L : List Ky) (i : Nat) : Prop := ∀ (id c : Int), D.atKey (.int .i64 id) (.lit (.int .i64 0)) = .lit (.int .i64 c) → (c = 0 ∧ ∀ j x, j < i → L[j]? = some x → x.id ≠ id) ∨ (c = 1 ∧ ∃ j x, j < i ∧ L[j]? = some x ∧ x.id = id)
theorem idsAt_zero (L : List Ky) : idsAt (.map []) L 0 := by
  intro id c h
  rw [WideAt.atKey_none _ (by simp)] at h
  injection h with h
  injection h with _ h
  exact .inl ⟨h.symm, fun j x hj => by omega⟩
theorem idsAt_step {D : DataW Unit} {L : List Ky} {i : Nat} {x : Ky} (h : idsAt D L i) (hx : L[i]? = some x) (hm : IsMap D) : idsAt (D.put (.int .i64 x.id) (.lit (.int .i64 1))) L (i + 1) := by
  intro id c hat
  by_cases e : id = x.id
  · subst e
    rw [atKey_put_same hm (show WideAt.IsKeyLit (.int .i64 x.id) from trivial)] at hat
    injection hat with hat
    injection hat with _ hat
    exact .inr ⟨hat.symm, i, x, by omega, hx, rfl⟩
  · rw [atKey_put_other (fun h => e (by injection h))] at hat
    rcases h id c hat with ⟨rfl, h1⟩ | ⟨rfl, j, y, h1, h2, h3⟩
    · refine .inl ⟨rfl, fun j y hj hy => ?_⟩
      rcases Nat.lt_or_ge j i with h2 | h2
      · exact h1 j y h2 hy
      · obtain rfl : j = i := by omega
        rw [hx] at hy
        injection hy with hy
        subst hy
        exact fun h => e h.symm
    · exact .inr ⟨rfl, j, y, by omega, h2, h3⟩
theorem take_set_one {α : Type} {l : List α} {i : Nat} (h : i < l.length) (y : α) : (l.set i y).take (i + 1) = l.take i ++ [y] := by
  apply List.ext_getElem
  · simp; omega
  intro j h1 h2
  have hj : j < i + 1 := by simp at h1; omega
  by_cases e : j = i
  · subst e
    rw [List.getElem_append_right (by simp; omega)]
    simp
  · rw [List.getElem_append_left (by simp at h1 ⊢; omega)]
    simp only [List.getElem_take]
    rw [List.getElem_set_ne (by omega)]
theorem set_map_same {m : List KyR} {L : List Ky} (hm : m.map KyR.k = L) {i : Nat} {y : KyR} (hL : L[i]? = some y.k) : (m.set i y).map KyR.k = L := by
  rw [List.map_set, hm]
  apply List.ext_getElem?
  intro j
  rw [List.getElem?_set]
  by_cases e : i = j
  · subst e
    rw [if_pos rfl, if_pos (List.getElem?_eq_some_iff.1 hL).1, hL]
  · rw [if_neg e]
def ownR (L : List Ky) : List Ky × Bool := if ringOk L then (L, true) else ([], false)
/-- Results: a ring in memory of its own, and whether it may be. -/
def OwnRes (w w' : World) (r : List Ky × Bool) (e : Ending) : Prop :=
  ∃ B c, e = .returned (.tuple #[.agg #[.slice B r.1.length c], .bool r.2]) ∧ OwnRing w' w.heap.size B r.1.length c r.1 ∧ Below w.heap.size w w'
theorem OwnRes.none_ {w w' : World} (h : Below w.heap.size w w') : OwnRes w w' ([], false) (.returned (.tuple #[.agg #[.slice none 0 0], .bool false])) := ⟨none, 0, rfl, ⟨[], rfl, Own.none_ _ _ _ _, OwnWords.nil _ _⟩, h⟩

theorem ky_cells {w : World} {base g o n c : Nat} {l : List KyR} (h : Own w base 46 4 (some ⟨g, o, none⟩) n c (kvs l)) {i : Nat} {id top seen : Int} {words : List Int} {A : Option Addr} {d : Nat} (hx : l[i]? = some ⟨⟨id, words, top, seen⟩, A, d⟩) :
    w.cell? ⟨g, o + i * 4, none⟩ = some (.int .i64 id) ∧ w.cell? ⟨g, o + i * 4 + 1, none⟩ = some (.slice A words.length d) ∧ w.cell? ⟨g, o + i * 4 + 2, none⟩ = some (.int .i64 top) ∧ w.cell? ⟨g, o + i * 4 + 3, none⟩ = some (.int .i64 seen) :=
  ⟨h.cell ((kvs_get hx (j := 0) (by omega)).trans rfl), h.cell ((kvs_get hx (j := 1) (by omega)).trans rfl), h.cell ((kvs_get hx (j := 2) (by omega)).trans rfl), h.cell ((kvs_get hx (j := 3) (by omega)).trans rfl)⟩
set_option maxHeartbeats 12800000 in
set_option maxRecDepth 100000 in
theorem own_any (l : List KyR) (L : List Ky) (B : Option Addr) (n d : Nat) (w : World) (hl : l.map KyR.k = L) (hn : L.length = n) (h : RdRing w B l) (hf : RingFits L) :
    Calls Try.prog 46 #[.agg #[.slice B n d]] w fun e w' => OwnRes w w' (ownR L) e := by
  obtain ⟨R, hR⟩ : ∃ R, R = ownR L := ⟨_, rfl⟩
  rw [← hR]
  have HR := Lib.hid hR
  have HN := Lib.hid hn
  have HI := Lib.hid (@ringOk_iff L)
  by_cases h8 : 8 < n
  · have h8i : (8 : Int) < (n : Int) := by omega
    obtain rfl : R = ([], false) := by rw [hR]; exact if_neg (fun k => by have := (ringOk_iff.1 k).1; omega)
    clear hR hl hn h
    obtain ⟨b0, b1, hB0, hz0⟩ := box2 w #[.slice B n d] #[.slice none 0 0] 44 44
    have c1 := b1.cell' (i := 0) rfl
    have f1 := b1.frozen
    have b2 := blk1_set b1 (.slice none 0 0)
    have c2 := b2.cell' (i := 0) rfl
    go_enter Try.func46, Try.ntmps46
    go_wp2
    refine bodyPost_ret (v := .tuple #[.agg #[.slice none 0 0], .bool false]) (by simp [results, Try.results46, go_sem, c2]) rfl ?_
    first
      | exact OwnRes.none_ hB0
      | exact OwnRes.none_ (hB0.setCell (p := ⟨w.heap.size + 1, 0, none⟩) (by simp) _)
  have h8i : ¬ (8 : Int) < (n : Int) := by omega
  have hll : l.length = n := by have := congrArg List.length hl; rw [← hn]; simpa using this
  have HRd := Lib.hid h
  have HL := Lib.hid hl
  have HK := Lib.hid (fun (w : World) (h : RdRing w B l) => cloneK B l n d w hll h.1 (by omega))
  clear hR h hn hl hll
  have hmm := @run_makeMap Try.prog
  go_enter Try.func46, Try.ntmps46
  go_wp2_with fail
  obtain ⟨b0, b1, hB0, hz0⟩ := box2 w #[.slice B n d] #[.slice none 0 0] 44 44
  have hmap := World.ownsMap_made ((w.alloc (.cells #[.slice B n d] 44)).alloc (.cells #[.slice none 0 0] 44)) Try.prog 3 (plainElem (H := Unit) Try.prog 3)
  replace b0 := b0.alloc (.map #[] 0)
  replace b1 := b1.alloc (.map #[] 0)
  replace hB0 := hB0.alloc (by omega) (.map #[] 0)
  rw [hz0] at hmap
  have hz1 : (((w.alloc (.cells #[.slice B n d] 44)).alloc (.cells #[.slice none 0 0] 44)).alloc (.map #[] 0)).heap.size = w.heap.size + 3 := by simp
  generalize ((w.alloc (.cells #[.slice B n d] 44)).alloc (.cells #[.slice none 0 0] 44)).alloc (.map #[] 0) = W at *
  refine (HK.out W (HRd.out.step hB0)).mono ?_
  rintro e w1 ⟨B2, d2, rfl, hO, hb⟩
  rw [hz1] at hO
  replace b0 := b0.step hb
  replace b1 := b1.step hb
  replace hB0 := hB0.trans (hb.mono hB0.size)
  replace hmap : w1.ownsMap Try.prog 3 (plainElem (H := Unit) Try.prog 3) (w.heap.size + 1 + 1) 0 (.map []) := hmap.kept (row := none) ⟨hb.os, hb.tape, hb.output, hb.size, fun i hi _ => hb.block i hi⟩ (by simp)
  have z1 : w.heap.size + 3 ≤ w1.heap.size := by have := hb.size; omega
  have k0 := b0.cell' (i := 0) rfl
  have f0 := b0.frozen
  have b0' := blk1_set b0 (.slice B2 n d2)
  have hne0 : ∀ q, blk B2 = some q → w.heap.size + 3 ≤ q := fun q hq => (hO.lt q hq).1
  have b1' := b1.far (p := ⟨w.heap.size, 0, none⟩) (by simp) (.slice B2 n d2)
  have hO' := hO.setFar (p := ⟨w.heap.size, 0, none⟩) (fun e => by have : w.heap.size + 3 ≤ w.heap.size := hne0 _ e; omega) (.slice B2 n d2)
  have hmap' := hmap.setCell (a := ⟨w.heap.size, 0, none⟩) (by show ¬ (w.heap.size + 1 + 1 = w.heap.size); omega) (.slice B2 n d2)
  have hB' := hB0.setCell (p := ⟨w.heap.size, 0, none⟩) (Nat.le_refl _) (.slice B2 n d2)
  have z1' : w.heap.size + 3 ≤ (w1.setCell ⟨w.heap.size, 0, none⟩ (.slice B2 n d2)).heap.size := by simpa using z1
  have k0' := b0'.cell' (i := 0) rfl
  clear hO hb hmap hB0 b1 HK
  go_wp2_with fail
  generalize w1.setCell ⟨w.heap.size, 0, none⟩ (.slice B2 n d2) = W1 at *
  clear k0 f0 b0 k0'
  go_loopw [20] (fun iv wr => ∃ (i : Nat) (m : List KyR) (D : DataW Unit), i ≤ n ∧ iv = .int .i64 (i : Int) ∧ Below w.heap.size w wr ∧ w.heap.size + 3 ≤ wr.heap.size ∧ Blk wr w.heap.size 44 #[.slice B2 n d2] ∧ Blk wr (w.heap.size + 1) 44 #[.slice none 0 0] ∧ wr.ownsMap Try.prog 3 (plainElem (H := Unit) Try.prog 3) (w.heap.size + 1 + 1) i D ∧ Hid (idsAt D L i) ∧ Own wr (w.heap.size + 3) 46 4 B2 n d2 (kvs m) ∧ OwnWords wr (w.heap.size + 3) (m.take i) ∧ Hid (m.map KyR.k = L) ∧ Hid (∀ j, i ≤ j → m[j]? = l[j]?) ∧ Hid (okTo L i)) (fun iv _ => n - (intOf iv).toNat)
  case atStart => exact ⟨0, l, .map [], Nat.zero_le _, rfl, hB', z1', b0', b1', hmap', Lib.hid (idsAt_zero L), hO', OwnWords.nil _ _, HL, Lib.hid (fun j _ => rfl), Lib.hid (okTo_zero L)⟩
  case round =>
    clear hB' z1' b0' b1' hmap' hO' z1
    obtain ⟨i, m, D, hi, rfl, hB, z1, b0, b1, hmap, HD, hO, hW, HM, HS, HT⟩ := hrel
    have k0 := b0.cell' (i := 0) rfl
    by_cases h5 : i < n
    · have h5i : (i : Int) < (n : Int) := by omega
      have hip : (0 : Int) ≤ (i : Int) := by omega
      have hiL : i < L.length := by rw [HN.out]; exact h5
      obtain ⟨xA, xd, hxl⟩ := ky_at HL.out hiL
      have hx := (HS.out i (Nat.le_refl _)).trans hxl
      have HLi := Lib.hid (List.getElem?_eq_getElem hiL)
      have hff := hf _ (List.getElem_mem hiL)
      have hxw : Rd wr xA (ivs L[i].words) := (HRd.out.2 i _ hxl).below hB
      generalize L[i] = kx at *
      obtain ⟨id, words, top, seen⟩ := kx
      obtain ⟨g, o, rfl, hg1, hg2⟩ := hO.form (by have := hO.le; omega)
      dsimp only at hxw hff
      have hkey : keyOf Try.prog 3 (.int .i64 id) = some (.int .i64 id) := keyOf_int_mk Try.underlying3 hff.2
      obtain ⟨c, hrun, hat, hwc⟩ := hmap.lookup_int law_ids Try.underlying92 Try.underlying3 (zero_ids wr) hkey
      have hmi : IsMap D := hmap.isMap
      have hil : i < m.length := (List.getElem?_eq_some_iff.1 hx).1
      have hnd := hO.le
      have x0 : wr.cell? ⟨g, o + i * 4, none⟩ = some (.int .i64 id) := hO.cell ((kvs_get hx (j := 0) (by omega)).trans rfl)
      have hfarM : ∀ q, (some (w.heap.size + 1 + 1) : Option Nat) = some q → blk (some (⟨g, o, none⟩ : Addr)) ≠ some q := fun q hq e => by
        injection hq with hq
        have : q = g := blk_lit e
        omega
      rcases HD.out id c hat with ⟨rfl, hno⟩ | ⟨rfl, jd, yd, hjd, hyd, hide⟩
      · have HNo := Lib.hid hno
        clear hno hat hwc
        have hwf1 : (Lit.int .i64 1).wf = true := by decide
        go_wp2_with (first | (at_mapUpdate; refine wpList_mapUpdate_own _ rfl _ _ _ 92 rfl 3 3 law_ids Try.underlying92 _ (w.heap.size + 1 + 1) i _ rfl hmap (by unfold maxLen; omega) _ _ _ rfl rfl hkey _ [] (plainElem_int Try.underlying3 hwf1) ?_; intro w1 hmap1 hg1x; have hO1 := hO.over hg1x hfarM; obtain ⟨y0, y1, y2, y3⟩ := ky_cells hO1 hx) | fail)
        have hB1 : Below w.heap.size w w1 := hB.grown hg1x hB.size (fun q hq => by injection hq with hq; omega)
        have z1x := hg1x.size
        replace b0 := b0.over hg1x (fun q hq e => by injection hq with hq; injection e with e; omega)
        replace b1 := b1.over hg1x (fun q hq e => by injection hq with hq; injection e with e; omega)
        have hW1 : OwnWords w1 (w.heap.size + 3) (m.take i) := hW.map (fun _ _ _ _ h => h.over hg1x (fun q hq e => by injection hq with hq; have := (h.lt _ e).1; omega))
        have hxw1 : Rd w1 xA (ivs words) := (HRd.out.2 i _ hxl).below hB1
        have CK := Lib.hid (kmay_any ⟨id, words, top, seen⟩ xA xd w1 hxw1 hff.1.1 hff.1.2)
        unfold kyv at CK
        dsimp only at CK
        clear hO hB hW hmap x0 hrun k0 hg1x
        by_cases hk : keyOk ⟨id, words, top, seen⟩
        · rw [decide_eq_true hk] at CK
          refine (CK.out).mono ?_
          rintro e w2 ⟨rfl, hb2⟩
          have hB := hB1.trans (hb2.mono hB1.size)
          have z2x := hb2.size
          replace b0 := b0.step hb2
          replace b1 := b1.step hb2
          have hO := hO1.step hb2
          have hW := hW1.step hb2
          have hmap := hmap1.kept (w' := w2) (row := none) ⟨hb2.os, hb2.tape, hb2.output, hb2.size, fun i hi _ => hb2.block i hi⟩ (by simp)
          clear y0 y1 y2 y3 CK hb2 hB1 hO1 hW1 hmap1
          obtain ⟨y0, y1, y2, y3⟩ := ky_cells hO hx
          obtain ⟨c2, hrun, hat, hwc⟩ := hmap.lookup_int law_ids Try.underlying92 Try.underlying3 (zero_ids w2) hkey
          rw [atKey_put_same hmi (show WideAt.IsKeyLit (.int .i64 id) from trivial)] at hat
          obtain rfl : 1 = c2 := by injection hat with hat; injection hat
          clear hat hwc
          have hxw2 : Rd w2 xA (ivs words) := (HRd.out.2 i _ hxl).below hB
          go_wp2_with fail
          refine (cloneI xA words words.length xd w2 rfl hxw2 hff.1.1).mono ?_
          rintro e w3 ⟨A4, c4, rfl, hO4, hb3⟩
          have hB3 := hB.trans (hb3.mono hB.size)
          have z3x := hb3.size
          replace b0 := b0.step hb3
          replace b1 := b1.step hb3
          have hO3 := hO.step hb3
          have hW3 := hW.step hb3
          have hmap3 := hmap.kept (w' := w3) (row := none) ⟨hb3.os, hb3.tape, hb3.output, hb3.size, fun i hi _ => hb3.block i hi⟩ (by simp)
          have hgz : g < w2.heap.size := (hO.lt g rfl).2
          have hg3 : w.heap.size + 3 ≤ g := (hO.lt g rfl).1
          have hWlt : ∀ (j : Nat) (x : KyR), (m.take i)[j]? = some x → ∀ q, blk x.A = some q → q < w2.heap.size := fun j x hx q hq => (hW.lt hx hq).2
          clear y0 y1 y2 y3 hb3 hO hW hmap hrun hxw2
          obtain ⟨y0, y1, y2, y3⟩ := ky_cells hO3 hx
          have fr3 : ∀ j, w3.frozen? ⟨g, j, none⟩ = false := fun j => hO3.frozen j
          have hO5 := hO3.set (i * 4 + 1) (by omega) (.slice A4 words.length c4)
          rw [kvs_set hx (y := ⟨⟨id, words, top, seen⟩, A4, c4⟩) (j := 1) (by omega) rfl, ← Nat.add_assoc] at hO5
          have b0' := b0.far (p := ⟨g, o + i * 4 + 1, none⟩) (by show ¬ (w.heap.size = g); omega) (.slice A4 words.length c4)
          have b1' := b1.far (p := ⟨g, o + i * 4 + 1, none⟩) (by show ¬ (w.heap.size + 1 = g); omega) (.slice A4 words.length c4)
          have hmap' := hmap3.setCell (a := ⟨g, o + i * 4 + 1, none⟩) (by show ¬ (w.heap.size + 1 + 1 = g); omega) (.slice A4 words.length c4)
          have hx5 : Own (w3.setCell ⟨g, o + i * 4 + 1, none⟩ (.slice A4 words.length c4)) (w.heap.size + 3) 3 1 A4 words.length c4 (ivs words) := (hO4.setFar (p := ⟨g, o + i * 4 + 1, none⟩) (fun e => by have : w2.heap.size ≤ g := (hO4.lt _ e).1; omega) _).mono (by omega)
          have hW5 : OwnWords (w3.setCell ⟨g, o + i * 4 + 1, none⟩ (.slice A4 words.length c4)) (w.heap.size + 3) (m.take i) := hW3.map (fun _ _ _ _ h => h.setFar (p := ⟨g, o + i * 4 + 1, none⟩) (fun e => (h.apart hO3 (by decide)) _ e rfl) _)
          have hW6 : OwnWords (w3.setCell ⟨g, o + i * 4 + 1, none⟩ (.slice A4 words.length c4)) (w.heap.size + 3) ((m.set i ⟨⟨id, words, top, seen⟩, A4, c4⟩).take (i + 1)) := by
            rw [take_set_one hil]
            refine hW5.snoc hx5 (fun j y hy q hq e => ?_)
            have h1 := hWlt j y hy q hq
            have h2 := (hO4.lt q e).1
            omega
          have hB5 := hB3.setCell (p := ⟨g, o + i * 4 + 1, none⟩) (by show w.heap.size ≤ g; omega) (.slice A4 words.length c4)
          have z5 : w.heap.size + 3 ≤ (w3.setCell ⟨g, o + i * 4 + 1, none⟩ (.slice A4 words.length c4)).heap.size := by simp; omega
          have HM2 := Lib.hid (set_map_same HM.out (y := ⟨⟨id, words, top, seen⟩, A4, c4⟩) HLi.out)
          have HS2 : Hid (∀ j, i + 1 ≤ j → (m.set i ⟨⟨id, words, top, seen⟩, A4, c4⟩)[j]? = l[j]?) := Lib.hid (fun j hj => by rw [List.getElem?_set_ne (by omega)]; exact HS.out j (by omega))
          have HD2 := Lib.hid (idsAt_step HD.out HLi.out hmi)
          have HT2 := Lib.hid (okTo_succ HT.out HLi.out hk (fun a y ha hy e => HNo.out a y ha hy e.symm))
          clear hk hWlt
          go_wp2_with fail
          go_roundw
          case rel => exact ⟨i + 1, _, _, by omega, by go_num, hB5, z5, b0', b1', hmap', HD2, hO5, hW6, HM2, HS2, HT2⟩
          case measure => simp [intOf]; omega
        · rw [decide_eq_false hk] at CK
          refine (CK.out).mono ?_
          rintro e w2 ⟨rfl, hb2⟩
          have hB := hB1.trans (hb2.mono hB1.size)
          replace b1 := b1.step hb2
          obtain rfl : R = ([], false) := by
            rw [HR.out]
            exact if_neg (fun k => hk ((HI.out.1 k).2.1 i _ hiL HLi.out))
          have e1 := b1.cell' (i := 0) rfl
          have ef := b1.frozen
          have b2 := blk1_set b1 (.slice none 0 0)
          have e2 := b2.cell' (i := 0) rfl
          go_wp2_with fail
          refine bodyPost_ret (v := .tuple #[.agg #[.slice none 0 0], .bool false]) (by simp [results, Try.results46, go_sem, e2]) rfl ?_
          exact OwnRes.none_ (hB.setCell (p := ⟨w.heap.size + 1, 0, none⟩) (by simp) _)
      · clear hat hwc
        have hwf1 : (Lit.int .i64 2).wf = true := by decide
        go_wp2_with (first | (at_mapUpdate; refine wpList_mapUpdate_own _ rfl _ _ _ 92 rfl 3 3 law_ids Try.underlying92 _ (w.heap.size + 1 + 1) i _ rfl hmap (by unfold maxLen; omega) _ _ _ rfl rfl hkey _ [] (plainElem_int Try.underlying3 hwf1) ?_; intro w1 hmap1 hg1x; have hO1 := hO.over hg1x hfarM; obtain ⟨y0, y1, y2, y3⟩ := ky_cells hO1 hx) | fail)
        have hB1 : Below w.heap.size w w1 := hB.grown hg1x hB.size (fun q hq => by injection hq with hq; omega)
        have z1x := hg1x.size
        replace b0 := b0.over hg1x (fun q hq e => by injection hq with hq; injection e with e; omega)
        replace b1 := b1.over hg1x (fun q hq e => by injection hq with hq; injection e with e; omega)
        have hW1 : OwnWords w1 (w.heap.size + 3) (m.take i) := hW.map (fun _ _ _ _ h => h.over hg1x (fun q hq e => by injection hq with hq; have := (h.lt _ e).1; omega))
        have hxw1 : Rd w1 xA (ivs words) := (HRd.out.2 i _ hxl).below hB1
        have CK := Lib.hid (kmay_any ⟨id, words, top, seen⟩ xA xd w1 hxw1 hff.1.1 hff.1.2)
        unfold kyv at CK
        dsimp only at CK
        clear hO hB hW hmap x0 hrun k0 hg1x
        by_cases hk : keyOk ⟨id, words, top, seen⟩
        · rw [decide_eq_true hk] at CK
          refine (CK.out).mono ?_
          rintro e w2 ⟨rfl, hb2⟩
          have hB := hB1.trans (hb2.mono hB1.size)
          have z2x := hb2.size
          replace b0 := b0.step hb2
          replace b1 := b1.step hb2
          have hO := hO1.step hb2
          have hW := hW1.step hb2
          have hmap := hmap1.kept (w' := w2) (row := none) ⟨hb2.os, hb2.tape, hb2.output, hb2.size, fun i hi _ => hb2.block i hi⟩ (by simp)
          clear y0 y1 y2 y3 CK hb2 hB1 hO1 hW1 hmap1
          obtain ⟨y0, y1, y2, y3⟩ := ky_cells hO hx
          obtain ⟨c2, hrun, hat, hwc⟩ := hmap.lookup_int law_ids Try.underlying92 Try.underlying3 (zero_ids w2) hkey
          rw [atKey_put_same hmi (show WideAt.IsKeyLit (.int .i64 id) from trivial)] at hat
          obtain rfl : 2 = c2 := by injection hat with hat; injection hat
          clear hat hwc
          obtain rfl : R = ([], false) := by
            rw [HR.out]
            exact if_neg (fun k => (HI.out.1 k).2.2 jd i _ _ hjd hiL hyd HLi.out hide)
          have e1 := b1.cell' (i := 0) rfl
          have ef := b1.frozen
          have b2 := blk1_set b1 (.slice none 0 0)
          have e2 := b2.cell' (i := 0) rfl
          go_wp2_with fail
          refine bodyPost_ret (v := .tuple #[.agg #[.slice none 0 0], .bool false]) (by simp [results, Try.results46, go_sem, e2]) rfl ?_
          exact OwnRes.none_ (hB.setCell (p := ⟨w.heap.size + 1, 0, none⟩) (by simp) _)
        · rw [decide_eq_false hk] at CK
          refine (CK.out).mono ?_
          rintro e w2 ⟨rfl, hb2⟩
          have hB := hB1.trans (hb2.mono hB1.size)
          replace b1 := b1.step hb2
          obtain rfl : R = ([], false) := by
            rw [HR.out]
            exact if_neg (fun k => hk ((HI.out.1 k).2.1 i _ hiL HLi.out))
          have e1 := b1.cell' (i := 0) rfl
          have ef := b1.frozen
          have b2 := blk1_set b1 (.slice none 0 0)
          have e2 := b2.cell' (i := 0) rfl
          go_wp2_with fail
          refine bodyPost_ret (v := .tuple #[.agg #[.slice none 0 0], .bool false]) (by simp [results, Try.results46, go_sem, e2]) rfl ?_
          exact OwnRes.none_ (hB.setCell (p := ⟨w.heap.size + 1, 0, none⟩) (by simp) _)
    · have h5i : ¬ (i : Int) < (n : Int) := by omega
      obtain rfl : i = n := by omega
      obtain rfl : R = (L, true) := by
        rw [HR.out]
        exact if_pos (HI.out.2 ⟨by have := HN.out; omega, by rw [HN.out]; exact HT.out⟩)
      have e1 := b1.cell' (i := 0) rfl
      have ef := b1.frozen
      have b2 := blk1_set b1 (.slice B2 i d2)
      have e2 := b2.cell' (i := 0) rfl
      have hml : m.length = i := by have := congrArg List.length HM.out; rw [← HN.out]; simpa using this
      have hW' : OwnWords wr (w.heap.size + 3) m := by rw [List.take_of_length_le (by omega)] at hW; exact hW
      clear hml
      go_wp2_with fail
      refine bodyPost_ret (v := .tuple #[.agg #[.slice B2 i d2], .bool true]) (by simp [results, Try.results46, go_sem, e2]) rfl ?_
      refine ⟨B2, d2, by rw [HN.out], ?_, hB.setCell (p := ⟨w.heap.size + 1, 0, none⟩) (by simp) _⟩
      rw [HN.out]
      exact ⟨m, HM.out, (hO.setFar (p := ⟨w.heap.size + 1, 0, none⟩) (fun e => by have : w.heap.size + 3 ≤ w.heap.size + 1 := (hO.lt _ e).1; omega) _).mono (by omega), hW'.map (fun _ _ _ _ h => (h.setFar (p := ⟨w.heap.size + 1, 0, none⟩) (fun e => by have : w.heap.size + 3 ≤ w.heap.size + 1 := (h.lt _ e).1; omega) _).mono (by omega))⟩
end Go.Proofs.Ytkbaganbfcbioaa
namespace Go.Proofs.Ytkbaganbfcbioaa
set_option linter.unusedSimpArgs false
set_option linter.unusedVariables false
open Go.RowKit

def kidx (L : List Ky) (id : Int) : Int := match kfind L id with | some i => (i : Int) | none => -1
theorem find1_any (k : Ky) (A : Option Addr) (c : Nat) (p : Nat) (id : Int) (w : World) (hp : w.cell? ⟨p, 0, none⟩ = some (.int .i64 id)) :
    Calls Try.prog 69 #[kyv k A c, .pointer (some ⟨p, 0, none⟩)] w fun e w' => e = .returned (.bool (k.id == id)) ∧ Below w.heap.size w w' := by
  obtain ⟨kid, words, top, seen⟩ := k
  unfold kyv
  dsimp only
  have hlt := World.block_lt_of_cell? _ _ hp
  have hp2 : ∀ o, (w.alloc o).cell? ⟨p, 0, none⟩ = some (.int .i64 id) := fun o => (((Below.refl w.heap.size w).alloc (Nat.le_refl _) o).cell (p := ⟨p, 0, none⟩) hlt).trans hp
  go_enter Try.func69, Try.ntmps69
  go_wp2
  go_ret
  exact ⟨rfl, (by repeat (first | with_reducible exact Below.refl _ _ | with_reducible assumption | with_reducible refine below_drewN ?_ _ | with_reducible refine Below.drew ?_ | with_reducible refine Below.alloc ?_ ?_ _ | with_reducible refine Below.setCell ?_ ?_ _ | with_reducible exact Nat.le_refl _ | (simp; omega) | (simp; done)))⟩

set_option maxHeartbeats 3200000 in
set_option maxRecDepth 100000 in
theorem indexK_any (l : List KyR) (L : List Ky) (B : Option Addr) (n d : Nat) (p : Nat) (id : Int) (w : World) (hl : l.map KyR.k = L) (hn : L.length = n) (h : RdRing w B l) (hp : w.cell? ⟨p, 0, none⟩ = some (.int .i64 id)) (hnn : n ≤ 8) :
    Calls Try.prog 68 #[.slice B n d, .func (.func 69) #[] #[.pointer (some ⟨p, 0, none⟩)]] w fun e w' => e = .returned (.int .i64 (kidx L id)) ∧ Below w.heap.size w w' := by
  obtain ⟨r, hr⟩ : ∃ r, r = kidx L id := ⟨_, rfl⟩
  rw [← hr]
  have HR := Lib.hid hr
  have HN := Lib.hid hn
  have HRd := Lib.hid h
  have HP := Lib.hid hp
  have hlt := World.block_lt_of_cell? _ _ hp
  clear hr hn h hp
  go_enter Try.func68, Try.ntmps68
  go_wp2_with fail
  go_loopw [8] (fun iv wr => ∃ i : Nat, i ≤ n ∧ iv = .int .i64 (i : Int) ∧ Below w.heap.size w wr ∧ Hid (∀ a y, a < i → L[a]? = some y → y.id ≠ id)) (fun iv _ => n - (intOf iv).toNat)
  case atStart => exact ⟨0, Nat.zero_le _, rfl, Below.refl _ _, Lib.hid (fun a y h => by omega)⟩
  case round =>
    obtain ⟨i, hi, rfl, hB, HF⟩ := hrel
    by_cases h5 : i < n
    · have h5i : (i : Int) < (n : Int) := by omega
      have hip : (0 : Int) ≤ (i : Int) := by omega
      have hiL : i < L.length := by rw [HN.out]; exact h5
      obtain ⟨xA, xd, hx⟩ := ky_at hl hiL
      have HLi := Lib.hid (List.getElem?_eq_getElem hiL)
      have hRw := HRd.out.below hB
      generalize L[i] = kx at *
      obtain ⟨id2, words, top, seen⟩ := kx
      obtain ⟨g, o, rfl, x0, x1, x2, x3⟩ := hRw.cells hx
      dsimp only at x0 x1 x2 x3
      have CF := Lib.hid (find1_any ⟨id2, words, top, seen⟩ xA xd p id wr ((hB.cell (p := ⟨p, 0, none⟩) hlt).trans HP.out))
      unfold kyv at CF
      dsimp only at CF
      by_cases he : id2 = id
      · have heb : (id2 == id) = true := by simpa using he
        rw [heb] at CF
        obtain rfl : r = (i : Int) := by
          rw [HR.out]
          unfold kidx
          rw [kfind_some HLi.out he HF.out]
        clear he heb
        go_wp2_with (go_at_call 69; refine (CF.out).mono ?_; rintro e w1 ⟨rfl, hb1⟩)
        go_ret
        exact ⟨rfl, hB.trans (hb1.mono hB.size)⟩
      · have heb : (id2 == id) = false := by simpa using he
        rw [heb] at CF
        have HF2 : Hid (∀ a y, a < i + 1 → L[a]? = some y → y.id ≠ id) := Lib.hid (fun a y ha hay => by
          rcases Nat.lt_or_ge a i with h | h
          · exact HF.out a y h hay
          · obtain rfl : a = i := by omega
            rw [HLi.out] at hay
            injection hay with hay
            subst hay
            exact he)
        clear he heb
        go_wp2_with (go_at_call 69; refine (CF.out).mono ?_; rintro e w1 ⟨rfl, hb1⟩)
        go_roundw
        case rel => exact ⟨i + 1, by omega, by go_num, hB.trans (hb1.mono hB.size), HF2⟩
        case measure => simp [intOf]; omega
    · obtain rfl : i = n := by omega
      have h5i : ¬ (i : Int) < (i : Int) := by omega
      obtain rfl : r = -1 := by
        rw [HR.out]
        unfold kidx
        rw [kfind_none (fun a y hay => HF.out a y (by have := (List.getElem?_eq_some_iff.1 hay).1; rw [HN.out] at this; exact this) hay)]
      go_wp2_with fail
      go_ret
      exact ⟨rfl, hB⟩
set_option maxHeartbeats 3200000 in
set_option maxRecDepth 100000 in
theorem find_any (l : List KyR) (L : List Ky) (B : Option Addr) (n d : Nat) (id : Int) (w : World) (hl : l.map KyR.k = L) (hn : L.length = n) (h : RdRing w B l) (hnn : n ≤ 8) :
    Calls Try.prog 48 #[.agg #[.slice B n d], .int .i64 id] w fun e w' => e = .returned (.int .i64 (kidx L id)) ∧ Below w.heap.size w w' := by
  obtain ⟨b0, b1, hB0, hz0⟩ := box2 w #[.slice B n d] #[.int .i64 id] 44 3
  have HI := Lib.hid (indexK_any l L B n d (w.heap.size + 1) id _ hl hn (h.step hB0) (b1.cell' (i := 0) rfl) hnn)
  go_enter Try.func48, Try.ntmps48
  go_wp2_with fail
  refine (HI.out).mono ?_
  rintro e w1 ⟨rfl, hb1⟩
  go_wp2_with fail
  go_ret
  exact ⟨rfl, hB0.trans (hb1.mono hB0.size)⟩
end Go.Proofs.Ytkbaganbfcbioaa
