/-
  Rows of rows of bytes: the document's copy of them; they are written over by their owner; the program's copy of them.
-/
import Derived.Test.YtppmdamcdhmcpaaMCommandSteps2
import Derived.WalkSpells
import Derived.Test.YtppmdamcdhmcpaaMCommandSteps6
namespace Go.Proofs.Ytppmdamcdhmcpaa
set_option linter.unusedSimpArgs false
set_option linter.unusedVariables false
open Go.RowKit

set_option maxHeartbeats 1600000 in
set_option maxRecDepth 100000 in
/-- slices.Clone of bytes: memory of its own. -/
theorem clone_any (A : Option Addr) (l : List UInt8) (c : Nat) (w : World) (ha : Rd w A (bvs l)) (hn : l.length ≤ 140737488351300) :
    Calls Try.prog 24 #[.slice A l.length c] w fun e w' => ∃ A' c', e = .returned (.slice A' l.length c') ∧ Own w' w.heap.size 5 1 A' l.length c' (bvs l) ∧ Below w.heap.size w w' := by
  obtain ⟨i0, hi0, hz0, hz1, hz2⟩ := info_parts u8info
  have q2 : 0 + l.length ≤ maxLen := by unfold maxLen; omega
  have q3 : (0 + l.length) * 1 ≤ 140737488355328 := by omega
  have q1 : Hid ((bvs l).length = l.length * 1) := by show _ = _; simp [bvs]
  have hE := fun (W : World) (a : Option Addr) (n c : Nat) => Lib.run_eql_slice_nil (P := Try.prog) W 26 5 a n c 0 0 Try.underlying26
  rcases A with _ | a
  · have hl : l = [] := by
      rcases l with _ | ⟨x, l⟩
      · rfl
      · obtain ⟨b, off, e, _⟩ := ha.byte (k := 0) (by simp)
        cases e
    subst hl
    clear q1 q2 q3
    go_enter Try.func24, Try.ntmps24
    go_wp2
    go_ret
    exact ⟨none, 0, rfl, Own.none_ _ _ _ _, Below.refl _ _⟩
  · have hO : Own (w.alloc (.cells #[] 5)) w.heap.size 5 1 (some ⟨w.heap.size, 0, none⟩) 0 0 [] := Own.of_block (heap_alloc_new w _) (Nat.le_refl _) rfl (Nat.le_refl _) (Nat.zero_le _) (by simp) (fun i u h => by simp at h)
    have hR2 := ha.alloc (.cells #[] 5)
    have q4 : w.heap.size ≤ (w.alloc (.cells #[] 5)).heap.size := by simp
    go_enter Try.func24, Try.ntmps24
    go_wp2_with (at_builtin; refine wpList_append_Own _ rfl (.tmp 5) (.tmp 6) 26 rfl w.heap.size 5 i0 _ 1 1 Try.underlying26 hi0 hz0 hz1 hz2 rfl _ 0 0 [] rfl hO (some a) l.length c (bvs l) rfl q1.out hR2 (bvs_one _) q2 q3 q4 ?_; intro A' c' w1 hO1 hg1 hor)
    go_ret
    rw [Nat.zero_add, List.nil_append] at hO1
    refine ⟨A', c', rfl, hO1, ?_⟩
    exact ((Below.refl _ _).alloc (Nat.le_refl _) _).grown hg1 (by simp) (fun k hk => by simp [blk] at hk; omega)
theorem clone_n (A : Option Addr) (l : List UInt8) (n c : Nat) (w : World) (hl : l.length = n) (ha : Rd w A (bvs l)) (hn : n ≤ 140737488351300) :
    Calls Try.prog 24 #[.slice A n c] w fun e w' => ∃ A' c', e = .returned (.slice A' n c') ∧ Own w' w.heap.size 5 1 A' n c' (bvs l) ∧ Below w.heap.size w w' := by
  subst hl
  exact clone_any A l c w ha hn
end Go.Proofs.Ytppmdamcdhmcpaa
namespace Go.Proofs.Ytppmdamcdhmcpaa
set_option linter.unusedSimpArgs false
set_option linter.unusedVariables false
open Go.RowKit

theorem one_slice (A : Option Addr) (n c : Nat) : ∀ u ∈ [Value.slice A n c], u.oneCell' = true := by
  intro u hu
  simp at hu
  subst hu
  rfl
theorem two_slices (A B : Option Addr) (n c m d : Nat) : ∀ u ∈ [Value.slice A n c, Value.slice B m d], u.oneCell' = true := by
  intro u hu
  simp at hu
  rcases hu with rfl | rfl <;> rfl
theorem Rd_new (w : World) (xs : List Value) (t : TypeId) : Rd (w.alloc (.cells xs.toArray t)) (some ⟨w.heap.size, 0, none⟩) xs := Rd.of_block (heap_alloc_new w _) (fun i u h => by simpa using h)

set_option maxHeartbeats 3200000 in
set_option maxRecDepth 100000 in
theorem rrows_any (A : Option Addr) (ls : List (List UInt8)) (n c : Nat) (w : World) (hl : ls.length = n) (h : RdRows w A ls) (hn : n ≤ 5864062014634) (hb : ∀ l ∈ ls, l.length ≤ 140737488351300) :
    Calls Try.prog 27 #[.slice A n c] w fun e w' => ∃ A' c', e = .returned (.slice A' n c') ∧ OwnRows w' w.heap.size A' n c' ls ∧ Below w.heap.size w w' := by
  obtain ⟨i0, hi0, hz0, hz1, hz2⟩ := info_parts u8info
  obtain ⟨j0, hj0, hy0, hy1, hy2⟩ := info_parts rowsinfo
  have HL := Lib.hid hl
  have HR := Lib.hid h
  have HBb := Lib.hid hb
  clear hl h hb
  go_enter Try.func27, Try.ntmps27
  go_wp2_with fail
  go_loopw [3, 4] (fun ov iv wr => ∃ (k : Nat) (l : List RowR) (B : Option Addr) (d : Nat), k ≤ n ∧ Hid (l.map RowR.b = ls.take k) ∧ ov = .slice B k d ∧ iv = .int .i64 (k : Int) ∧ OwnRs wr w.heap.size B k d l ∧ Below w.heap.size w wr) (fun _ iv _ => n - (intOf iv).toNat)
  case atStart => exact ⟨0, [], none, 0, Nat.zero_le _, Lib.hid rfl, rfl, rfl, OwnRs.nil _ _, Below.refl _ _⟩
  case round =>
    obtain ⟨k, l, B, d, hk, HS, rfl, rfl, hO, hB⟩ := hrel
    by_cases h5 : k < n
    · have h5i : (k : Int) < (n : Int) := by omega
      have hkl : k < ls.length := by rw [HL.out]; exact h5
      have hbk := HBb.out _ (List.getElem_mem hkl)
      have HTk : Hid (ls.take (k + 1) = ls.take k ++ [ls[k]]) := Lib.hid (List.take_succ_eq_append_getElem hkl)
      obtain ⟨g, o, D, dc, rfl, hc, hRD, hdc⟩ := (HR.out.below hB).at_ hkl
      generalize ls[k] = x at *
      obtain ⟨m, hm⟩ : ∃ m, x.length = m := ⟨_, rfl⟩
      rw [hm] at hc hdc hbk
      have q1 : Hid ((bvs x).length = m * 1) := Lib.hid (by simp [bvs, hm])
      have HM := Lib.hid hm
      clear hm
      have q2 : 0 + m ≤ maxLen := by unfold maxLen; omega
      have q3 : (0 + m) * 1 ≤ 140737488355328 := by omega
      have q4 : k + 1 ≤ maxLen := by unfold maxLen; omega
      have q5 : (k + 1) * 24 ≤ 140737488355328 := by omega
      have hbs := hB.size
      have hOa := hO.arr
      go_wp2_with (at_builtin; first
        | ((with_reducible refine wpList_append_Own _ rfl (.const (.slice none 0 0)) (.tmp 15) 26 rfl w.heap.size 5 i0 _ 1 1 Try.underlying26 hi0 hz0 hz1 hz2 rfl none 0 0 [] rfl (Own.none_ _ _ _ _) D m dc (bvs x) rfl q1.out hRD (bvs_one _) q2 q3 hbs ?_); intro A4 c4 w4 hO4 hg4 hor4; rw [Nat.zero_add, List.nil_append] at hO4; have hb4 := below_of_grown hg4; have hB5 := (hOa.step hb4).alloc (.cells #[.slice A4 m c4] 26); have hR5 := Rd_new w4 [.slice A4 m c4] 26; have hbs5 : w.heap.size ≤ (w4.alloc (.cells #[.slice A4 m c4] 26)).heap.size := (by have := hb4.size; simp; omega))
        | ((with_reducible refine wpList_append_Own (w4.alloc (.cells #[.slice A4 m c4] 26)) rfl (.tmp 11) (.tmp 17) 22 rfl w.heap.size 26 j0 _ 1 24 Try.underlying22 hj0 hy0 hy1 hy2 rfl B k d (rowvs l) rfl hB5 (some ⟨w4.heap.size, 0, none⟩) 1 1 [.slice A4 m c4] rfl rfl hR5 (one_slice A4 m c4) q4 q5 hbs5 ?_); intro B6 d6 w6 hB6 hg6 hor6))
      have hb5 : Below wr.heap.size wr (w4.alloc (.cells #[.slice A4 m c4] 26)) := hb4.alloc hb4.size _
      have hx5 : Own (w4.alloc (.cells #[.slice A4 m c4] 26)) w.heap.size 5 1 A4 x.length c4 (bvs x) := by rw [HM.out]; exact hO4.alloc _
      have hxm : ∀ q, blk A4 = some q → wr.heap.size ≤ q := fun q hq => by
        rcases hor4 with h | h
        · rw [h] at hq; simp [blk] at hq
        · rw [h] at hq; injection hq with hq; omega
      have hO6 := add_row (x := ⟨x, A4, c4⟩) (hO.bs.step hb5) hx5 hB5 hg6 (m := wr.heap.size) (fun i y hy q hq => (hO.bs.lt hy hq).2) hxm (by show Own _ _ _ _ _ _ _ (rowvs l ++ [.slice A4 x.length c4]); rw [HM.out]; exact hB6)
      refine ⟨⟨k + 1, l ++ [⟨x, A4, c4⟩], B6, d6, by omega, Lib.hid ?_, rfl, by go_num, hO6, ?_⟩, by simp [intOf]; omega⟩
      · rw [List.map_append, HS.out, HTk.out]; rfl
      · exact Below.grown' (hB.trans (hb5.mono hbs)) hg6 hbs5 (fun q hq => (hOa.lt q hq).1)
    · obtain rfl : k = n := by omega
      have h5i : ¬ (k : Int) < (k : Int) := by omega
      go_wp2_with fail
      go_ret
      refine ⟨B, d, rfl, ⟨l, ?_, hO⟩, hB⟩
      rw [HS.out, ← HL.out, List.take_length]

set_option maxHeartbeats 3200000 in
set_option maxRecDepth 100000 in
theorem spoilRows_any (base : Nat) (A : Option Addr) (n c : Nat) (l : List RowR) (w : World) (hO : OwnRs w base A n c l) (hn : n ≤ 5864062014634) (hb : ∀ (i : Nat) (r : RowR), l[i]? = some r → r.b.length ≤ 140737488351300) (hbase : base ≤ w.heap.size) :
    Calls Try.prog 26 #[.slice A n c] w fun e w' => e = .returned (.tuple #[]) ∧ Turned w w' (Touch A l) := by
  obtain ⟨j0, hj0, hy0, hy1, hy2⟩ := info_parts rowsinfo
  have hlen := Lib.hid hO.len
  have hlt := Lib.hid (fun (q : Nat) (hq : Touch A l q) => hO.lt hq)
  have hdis := Lib.hid hO.bs.2
  have HBb := Lib.hid hb
  have hO1 := hO.arr
  have hO2 := hO.bs.1
  clear hO hb
  go_enter Try.func26, Try.ntmps26
  go_wp2_with fail
  go_loopw [2] (fun iv wr => ∃ (i : Nat) (xs : List Value), i ≤ n ∧ iv = .int .i64 (i : Int) ∧ Turned w wr (Touch A l) ∧ Own wr base 26 1 A n c xs ∧ Hid (∀ j, i ≤ j → xs[j]? = (rowvs l)[j]?) ∧ (∀ (j : Nat) (r : RowR), i ≤ j → l[j]? = some r → Own wr base 5 1 r.A r.b.length r.c (bvs r.b))) (fun iv _ => n - (intOf iv).toNat)
  case atStart => exact ⟨0, rowvs l, Nat.zero_le _, rfl, Turned.refl _ _, hO1, Lib.hid (fun j _ => rfl), fun j r _ hr => hO2 j r hr⟩
  case round =>
    clear hO1 hO2
    obtain ⟨i, xs, hi, rfl, hT, hO, HX, hR⟩ := hrel
    have zT := hT.size
    by_cases h5 : i < n
    · have h5i : (i : Int) < (n : Int) := by omega
      have hip : (0 : Int) ≤ (i : Int) := by omega
      have hil : i < l.length := by rw [hlen.out]; exact h5
      have hx := List.getElem?_eq_getElem hil
      obtain ⟨x, hxx⟩ : ∃ x, l[i] = x := ⟨_, rfl⟩
      rw [hxx] at hx
      clear hxx
      obtain ⟨g, o, rfl, hg1, hg2⟩ := hO.form (by have := hO.le; omega)
      have c1 : wr.cell? ⟨g, o + i, none⟩ = some (.slice x.A x.b.length x.c) := hO.cell ((HX.out i (Nat.le_refl _)).trans (rowvs_get hx))
      have hxO := hR i _ (Nat.le_refl _) hx
      have hbx := HBb.out i x hx
      have CO := Lib.hid (spoil_any base x.A x.b.length x.c x.b wr hxO hbx (by omega))
      have htx : ∀ q, blk x.A = some q → Touch (some ⟨g, o, none⟩) l q := fun q hq => .inr ⟨i, x, hx, hq⟩
      have htg : Touch (some ⟨g, o, none⟩) l g := .inl rfl
      have HXx := Lib.hid hx
      go_wp2_with fail
      refine (CO.out).mono ?_
      rintro e w1 ⟨rfl, hg1'⟩
      have z1 := hg1'.size
      have hT1 := hT.grown hg1' (fun q hq _ => htx q hq)
      have hO1 := hO.over hg1' (hxO.apart hO (by decide))
      have hR1 : ∀ (j : Nat) (r : RowR), i + 1 ≤ j → l[j]? = some r → Own w1 base 5 1 r.A r.b.length r.c (bvs r.b) := fun j r hj hr => (hR j r (by omega) hr).over hg1' (fun q hq => hdis.out i j x r (by omega) hx hr q hq)
      have hO2 := hO1.alloc (.cells #[.int .u8 9, .int .u8 9] 5)
      have s1 := hO2.set i (by omega) (.slice (some ⟨w1.heap.size, 0, none⟩) 2 2)
      obtain ⟨u, hu⟩ : ∃ u, xs[i]? = some u := ⟨_, (HX.out i (Nat.le_refl _)).trans (rowvs_get hx)⟩
      have c2 : (w1.alloc (.cells #[.int .u8 9, .int .u8 9] 5)).cell? ⟨g, o + i, none⟩ = some u := hO2.cell hu
      have f2 : ∀ r, (w1.alloc (.cells #[.int .u8 9, .int .u8 9] 5)).frozen? ⟨g, r, none⟩ = false := fun r => hO2.frozen r
      clear hT hO hR c1 CO hu
      go_wp2_with fail
      go_roundw
      case rel =>
        refine ⟨i + 1, _, by omega, by go_num, ((hT1.step ((Below.refl _ _).alloc (Nat.le_refl _) _)).set (p := ⟨g, o + i, none⟩) (fun _ => htg) _), s1, Lib.hid (fun j hj => ?_), fun j r hj hr => ((hR1 j r hj hr).alloc _).setFar (p := ⟨g, o + i, none⟩) (fun e => ((hR1 j r hj hr).apart hO1 (by decide)) g e rfl) _⟩
        rw [List.getElem?_set_ne (by omega)]
        exact HX.out j (by omega)
      case measure => simp [intOf]; omega
    · obtain rfl : i = n := by omega
      have h5i : ¬ (i : Int) < (i : Int) := by omega
      clear hR HX
      have hO5 : Own (((wr.alloc (.cells #[.int .u8 9] 5)).alloc (.cells #[.int .u8 9] 5)).alloc (.cells #[.slice (some ⟨wr.heap.size, 0, none⟩) 1 1, .slice (some ⟨wr.heap.size + 1, 0, none⟩) 1 1] 26)) base 26 1 A i c xs := ((hO.alloc _).alloc _).alloc _
      have hb3 : Below wr.heap.size wr (((wr.alloc (.cells #[.int .u8 9] 5)).alloc (.cells #[.int .u8 9] 5)).alloc (.cells #[.slice (some ⟨wr.heap.size, 0, none⟩) 1 1, .slice (some ⟨wr.heap.size + 1, 0, none⟩) 1 1] 26)) := (((Below.refl _ _).alloc (Nat.le_refl _) _).alloc (by simp) _).alloc (by simp; omega) _
      have hlt2 : ∀ q, blk A = some q → Touch A l q := fun q hq => .inl hq
      have hR5 : Rd (((wr.alloc (.cells #[.int .u8 9] 5)).alloc (.cells #[.int .u8 9] 5)).alloc (.cells #[.slice (some ⟨wr.heap.size, 0, none⟩) 1 1, .slice (some ⟨wr.heap.size + 1, 0, none⟩) 1 1] 26)) (some ⟨wr.heap.size + 1 + 1, 0, none⟩) [.slice (some ⟨wr.heap.size, 0, none⟩) 1 1, .slice (some ⟨wr.heap.size + 1, 0, none⟩) 1 1] := by
        have := Rd_new ((wr.alloc (.cells #[.int .u8 9] 5)).alloc (.cells #[.int .u8 9] 5)) [.slice (some ⟨wr.heap.size, 0, none⟩) 1 1, .slice (some ⟨wr.heap.size + 1, 0, none⟩) 1 1] 26
        simpa using this
      have q4 : i + 2 ≤ maxLen := by unfold maxLen; omega
      have q5 : (i + 2) * 24 ≤ 140737488355328 := by omega
      have hbs5 : base ≤ (((wr.alloc (.cells #[.int .u8 9] 5)).alloc (.cells #[.int .u8 9] 5)).alloc (.cells #[.slice (some ⟨wr.heap.size, 0, none⟩) 1 1, .slice (some ⟨wr.heap.size + 1, 0, none⟩) 1 1] 26)).heap.size := by have := hb3.size; omega
      go_wp2_with (at_builtin; (refine wpList_append_Own _ rfl (.tmp 18) (.tmp 21) 22 rfl base 26 j0 _ 1 24 Try.underlying22 hj0 hy0 hy1 hy2 rfl A i c xs rfl hO5 (some ⟨wr.heap.size + 1 + 1, 0, none⟩) 2 2 [.slice (some ⟨wr.heap.size, 0, none⟩) 1 1, .slice (some ⟨wr.heap.size + 1, 0, none⟩) 1 1] rfl rfl hR5 (two_slices _ _ _ _ _ _) q4 q5 hbs5 ?_); intro B6 d6 w6 hB6 hg6 hor6)
      go_end0
      exact ⟨rfl, (hT.step hb3).grown hg6 (fun q hq _ => hlt2 q hq)⟩

theorem cloneR (A : Option Addr) (vs : List Value) (n c : Nat) (w : World) (hl : vs.length = n) (h1 : ∀ u ∈ vs, u.oneCell' = true) (ha : Rd w A vs) (hn : n ≤ 5864062014634) :
    Calls Try.prog 47 #[.slice A n c] w fun e w' => ∃ A' c', e = .returned (.slice A' n c') ∧ Own w' w.heap.size 26 1 A' n c' vs ∧ Below w.heap.size w w' := by
  obtain ⟨i0, hi0, hz0, hz1, hz2⟩ := info_parts rowsinfo
  have q2 : 0 + n ≤ maxLen := by unfold maxLen; omega
  have q3 : (0 + n) * 24 ≤ 140737488355328 := by omega
  have q1 : Hid (vs.length = n * 1) := Lib.hid (by omega)
  have hE := fun (W : World) (a : Option Addr) (n c : Nat) => Lib.run_eql_slice_nil (P := Try.prog) W 22 26 a n c 0 0 Try.underlying22
  rcases A with _ | a
  · have hl0 : vs = [] := by
      rcases vs with _ | ⟨x, l⟩
      · rfl
      · obtain ⟨b, off, e, _⟩ := ha 0 x rfl
        cases e
    subst hl0
    obtain rfl : n = 0 := by simpa using hl.symm
    clear q1 q2 q3
    go_enter Try.func47, Try.ntmps47
    go_wp2
    go_ret
    exact ⟨none, 0, rfl, Own.none_ _ _ _ _, Below.refl _ _⟩
  · have hO : Own (w.alloc (.cells #[] 26)) w.heap.size 26 1 (some ⟨w.heap.size, 0, none⟩) 0 0 [] := Own.of_block (heap_alloc_new w _) (Nat.le_refl _) rfl (Nat.le_refl _) (Nat.zero_le _) (by simp) (fun i u h => by simp at h)
    have hR2 := ha.alloc (.cells #[] 26)
    have q4 : w.heap.size ≤ (w.alloc (.cells #[] 26)).heap.size := by simp
    clear hl
    go_enter Try.func47, Try.ntmps47
    go_wp2_with (at_builtin; refine wpList_append_Own _ rfl (.tmp 5) (.tmp 6) 22 rfl w.heap.size 26 i0 _ 1 24 Try.underlying22 hi0 hz0 hz1 hz2 rfl _ 0 0 [] rfl hO (some a) n c vs rfl q1.out hR2 h1 q2 q3 q4 ?_; intro A' c' w1 hO1 hg1 hor)
    go_ret
    rw [Nat.zero_add, List.nil_append] at hO1
    refine ⟨A', c', rfl, hO1, ?_⟩
    exact ((Below.refl _ _).alloc (Nat.le_refl _) _).grown hg1 (by simp) (fun k hk => by simp [blk] at hk; omega)
theorem oneCell_rows {vs : List Value} {ls : List (List UInt8)} (hl : vs.length = ls.length) (h : ∀ (i : Nat) (l : List UInt8), ls[i]? = some l → ∃ B c, vs[i]? = some (.slice B l.length c)) : ∀ u ∈ vs, u.oneCell' = true := by
  intro u hu
  obtain ⟨i, hi, rfl⟩ := List.getElem_of_mem hu
  obtain ⟨B, c, e⟩ := h i _ (List.getElem?_eq_getElem (by omega))
  rw [List.getElem?_eq_getElem hi] at e
  injection e with e
  rw [e]
  rfl
set_option maxHeartbeats 3200000 in
set_option maxRecDepth 100000 in
theorem clones_any (A : Option Addr) (ls : List (List UInt8)) (n c : Nat) (w : World) (hl : ls.length = n) (h : RdRows w A ls) (hn : n ≤ 5864062014634) (hb : ∀ l ∈ ls, l.length ≤ 140737488351300) :
    Calls Try.prog 38 #[.slice A n c] w fun e w' => ∃ A' c', e = .returned (.slice A' n c') ∧ OwnRows w' w.heap.size A' n c' ls ∧ Below w.heap.size w w' := by
  have HL := Lib.hid hl
  have HBb := Lib.hid hb
  obtain ⟨vs, hvr, hvl, hvs⟩ := h
  have h1 := oneCell_rows hvl (fun i l hl => by obtain ⟨B, c, e, _⟩ := hvs i l hl; exact ⟨B, c, e⟩)
  have HV := Lib.hid hvs
  have HVL := Lib.hid hvl
  have CR := Lib.hid (cloneR A vs n c w (by omega) h1 hvr hn)
  clear hl hb hvs hvr hvl h1
  go_enter Try.func38, Try.ntmps38
  go_wp2_with fail
  refine CR.out.mono ?_
  rintro e w1 ⟨A1, c1, rfl, hO1, hB1⟩
  clear CR
  go_wp2_with fail
  go_loopw [8] (fun iv wr => ∃ (k : Nat) (l : List RowR) (xs : List Value), k ≤ n ∧ iv = .int .i64 (k : Int) ∧ Hid (l.map RowR.b = ls.take k) ∧ Hid (xs = rowvs l ++ vs.drop k) ∧ Own wr w.heap.size 26 1 A1 n c1 xs ∧ OwnBs wr w.heap.size l ∧ Below w.heap.size w wr) (fun iv _ => n - (intOf iv).toNat)
  case atStart => exact ⟨0, [], vs, Nat.zero_le _, rfl, Lib.hid rfl, Lib.hid (by simp [rowvs]), hO1, OwnBs.nil _ _, hB1⟩
  case round =>
    clear hO1 hB1
    obtain ⟨k, l, xs, hk, rfl, HS, HX, hO, hD, hB⟩ := hrel
    have hll : Hid (l.length = k) := Lib.hid (by have := congrArg List.length HS.out; rw [List.length_map, List.length_take, HL.out] at this; omega)
    have hbs := hB.size
    by_cases h5 : k < n
    · have h5i : (k : Int) < (n : Int) := by omega
      have hip : (0 : Int) ≤ (k : Int) := by omega
      have hkl : k < ls.length := by rw [HL.out]; exact h5
      have hbk := HBb.out _ (List.getElem_mem hkl)
      have HTk : Hid (ls.take (k + 1) = ls.take k ++ [ls[k]]) := Lib.hid (List.take_succ_eq_append_getElem hkl)
      obtain ⟨D, dc, hvk, hRD, hdc⟩ := HV.out k _ (List.getElem?_eq_getElem hkl)
      generalize ls[k] = x at *
      obtain ⟨m, hm⟩ : ∃ m, x.length = m := ⟨_, rfl⟩
      rw [hm] at hvk hdc hbk
      obtain ⟨g, o, rfl, hg1, hg2⟩ := hO.form (by have := hO.le; omega)
      have hxk : xs[k]? = some (.slice D m dc) := by
        rw [HX.out, List.getElem?_append_right (by rw [rowvs_len, hll.out]; exact Nat.le_refl _), rowvs_len, hll.out, Nat.sub_self, List.getElem?_drop, Nat.add_zero]
        exact hvk
      have c1' := hO.cell hxk
      have CC := Lib.hid (clone_n D x m dc wr hm (hRD.below hB) hbk)
      have HM := Lib.hid hm
      clear hm
      go_wp2_with fail
      refine CC.out.mono ?_
      rintro e w2 ⟨A4, c4, rfl, hO4, hb4⟩
      clear CC
      have hO2 := hO.step hb4
      have hD2 := hD.step hb4
      have c2' := hO2.cell hxk
      have f2 : ∀ r, w2.frozen? ⟨g, r, none⟩ = false := fun r => hO2.frozen r
      have s1 := hO2.set k (by omega) (.slice A4 m c4)
      have hx4 : Own (w2.setCell ⟨g, o + k, none⟩ (.slice A4 m c4)) w.heap.size 5 1 A4 x.length c4 (bvs x) := by
        rw [HM.out]
        exact (hO4.setFar (p := ⟨g, o + k, none⟩) (fun e => (hO4.apart hO2 (by decide)) g e rfl) _).mono hbs
      have hD3 : OwnBs (w2.setCell ⟨g, o + k, none⟩ (.slice A4 m c4)) w.heap.size l := hD2.map fun i r hr h => h.setFar (p := ⟨g, o + k, none⟩) (fun e => (h.apart hO2 (by decide)) g e rfl) _
      have hD4 := OwnBs.snoc (x := ⟨x, A4, c4⟩) hD3 hx4 (fun i y hy q hq e => by have h1 := (hD.lt hy hq).2; have h2 := (hO4.lt q e).1; omega)
      have hB4 := (hB.trans (hb4.mono hbs)).setCell (p := ⟨g, o + k, none⟩) hg1 (.slice A4 m c4)
      clear c1' hO hD hB
      go_wp2_with fail
      go_roundw
      case rel =>
        refine ⟨k + 1, l ++ [⟨x, A4, c4⟩], _, by omega, by go_num, Lib.hid ?_, Lib.hid ?_, s1, hD4, hB4⟩
        · rw [List.map_append, HS.out, HTk.out]; rfl
        · rw [HX.out, rowvs_snoc]
          have hkv : k < vs.length := (List.getElem?_eq_some_iff.1 hvk).1
          rw [List.set_append_right _ _ (by rw [rowvs_len, hll.out]; exact Nat.le_refl _), rowvs_len, hll.out, Nat.sub_self, List.drop_eq_getElem_cons hkv, List.set_cons_zero, HM.out]
          simp
      case measure => simp [intOf]; omega
    · obtain rfl : k = n := by omega
      have h5i : ¬ (k : Int) < (k : Int) := by omega
      go_wp2_with fail
      go_ret
      refine ⟨A1, c1, rfl, ⟨l, ?_, ?_, hD⟩, hB⟩
      · rw [HS.out, ← HL.out, List.take_length]
      · have : xs = rowvs l := by rw [HX.out, List.drop_of_length_le (by rw [HVL.out, HL.out]; exact Nat.le_refl _), List.append_nil]
        rw [← this]
        exact hO
end Go.Proofs.Ytppmdamcdhmcpaa
