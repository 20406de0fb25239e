/-
  Givers that are the same; a slice of pairs is cloned, is written over by its owner.
-/
import Derived.Test.YtianombjgdmbeaaMDeliverTakes17
import Derived.Test.YtianombjgdmbeaaMDeliverTakes15
import Derived.WalkSpells
import Derived.Test.YtianombjgdmbeaaMDeliverTakes1
namespace Go.Proofs.Ytianombjgdmbeaa
set_option linter.unusedSimpArgs false
set_option linter.unusedVariables false
open Go.RowKit

set_option maxHeartbeats 6400000 in
set_option maxRecDepth 100000 in
theorem sameGv_yes (x : Gv) (F E : Option Addr) (fn fc ec : Nat) (A B : Option Addr) (an ac bc : Nat) (w : World) (hf : x.file.length = fn) (ha : x.again.length = an) (hfn : fn ≤ 140737488351300) (han : an ≤ 140737488351300) (hF : Rd w F (bvs x.file)) (hE : Rd w E (bvs x.file)) (hA : Rd w A (gps x.again)) (hH : Rd w B (gps x.again)) :
    Calls Try.prog 66 #[gvv x F fn fc A an ac, gvv x E fn ec B an bc] w fun e w' => e = .returned (.bool true) ∧ Below w.heap.size w w' := by
  have CD := Lib.hid (fun (V : World) (hB : Below w.heap.size w V) => sameBytes_yes F E x.file fc ec V (hF.below hB) (hE.below hB))
  have CG := Lib.hid (fun (V : World) (hB : Below w.heap.size w V) => sameGaps_yes A B x.again an ac bc V ha han (hA.below hB) (hH.below hB))
  rw [hf] at CD
  clear hf ha hF hE hA hH
  obtain ⟨id, name, file, most, burst, stage, first, at_, again, timer, patience, tries, limit⟩ := x
  unfold gvv gvc
  dsimp only at CD CG ⊢
  have k1 := (Blk.new w 55 #[.int .i64 id, .string name, .slice F fn fc, .int .i64 most, .int .i64 burst, .int .i64 stage, .bool first, .int .i64 at_, .slice A an ac, .int .i64 timer, .int .i64 patience, .int .i64 tries, .int .i64 limit]).alloc (.cells #[.int .i64 id, .string name, .slice E fn ec, .int .i64 most, .int .i64 burst, .int .i64 stage, .bool first, .int .i64 at_, .slice B an bc, .int .i64 timer, .int .i64 patience, .int .i64 tries, .int .i64 limit] 55)
  have k2 := Blk.new (w.alloc (.cells #[.int .i64 id, .string name, .slice F fn fc, .int .i64 most, .int .i64 burst, .int .i64 stage, .bool first, .int .i64 at_, .slice A an ac, .int .i64 timer, .int .i64 patience, .int .i64 tries, .int .i64 limit] 55)) 55 #[.int .i64 id, .string name, .slice E fn ec, .int .i64 most, .int .i64 burst, .int .i64 stage, .bool first, .int .i64 at_, .slice B an bc, .int .i64 timer, .int .i64 patience, .int .i64 tries, .int .i64 limit]
  rw [show (w.alloc (.cells #[.int .i64 id, .string name, .slice F fn fc, .int .i64 most, .int .i64 burst, .int .i64 stage, .bool first, .int .i64 at_, .slice A an ac, .int .i64 timer, .int .i64 patience, .int .i64 tries, .int .i64 limit] 55)).heap.size = w.heap.size + 1 by simp] at k2
  have hB : Below w.heap.size w ((w.alloc (.cells #[.int .i64 id, .string name, .slice F fn fc, .int .i64 most, .int .i64 burst, .int .i64 stage, .bool first, .int .i64 at_, .slice A an ac, .int .i64 timer, .int .i64 patience, .int .i64 tries, .int .i64 limit] 55)).alloc (.cells #[.int .i64 id, .string name, .slice E fn ec, .int .i64 most, .int .i64 burst, .int .i64 stage, .bool first, .int .i64 at_, .slice B an bc, .int .i64 timer, .int .i64 patience, .int .i64 tries, .int .i64 limit] 55)) := ((Below.refl _ _).alloc (Nat.le_refl _) _).alloc (by simp) _
  go_enter Try.func66, Try.ntmps66
  simp only [List.append_eq, List.cons_append, List.nil_append]
  go_wp2_with fail
  generalize (w.alloc (.cells #[.int .i64 id, .string name, .slice F fn fc, .int .i64 most, .int .i64 burst, .int .i64 stage, .bool first, .int .i64 at_, .slice A an ac, .int .i64 timer, .int .i64 patience, .int .i64 tries, .int .i64 limit] 55)).alloc (.cells #[.int .i64 id, .string name, .slice E fn ec, .int .i64 most, .int .i64 burst, .int .i64 stage, .bool first, .int .i64 at_, .slice B an bc, .int .i64 timer, .int .i64 patience, .int .i64 tries, .int .i64 limit] 55) = W at *
  refine (CD.out _ hB).mono ?_
  rintro e _ ⟨rfl, rfl⟩
  have x3 := k1.cell' (i := 3) rfl
  have y3 := k2.cell' (i := 3) rfl
  have x4 := k1.cell' (i := 4) rfl
  have y4 := k2.cell' (i := 4) rfl
  have x5 := k1.cell' (i := 5) rfl
  have y5 := k2.cell' (i := 5) rfl
  have x6 := k1.cell' (i := 6) rfl
  have y6 := k2.cell' (i := 6) rfl
  have x7 := k1.cell' (i := 7) rfl
  have y7 := k2.cell' (i := 7) rfl
  have x8 := k1.cell' (i := 8) rfl
  have y8 := k2.cell' (i := 8) rfl
  go_wp2_with fail
  refine (CG.out _ hB).mono ?_
  rintro e _ ⟨rfl, j1, rfl⟩
  have k1' := k1.drewN j1
  have k2' := k2.drewN j1
  have hB' := below_drewN hB j1
  clear x3 y3 x4 y4 x5 y5 x6 y6 x7 y7 x8 y8 k1 k2 hB CD CG
  generalize W.drewN j1 = W2 at *
  have x9 := k1'.cell' (i := 9) rfl
  have y9 := k2'.cell' (i := 9) rfl
  have x10 := k1'.cell' (i := 10) rfl
  have y10 := k2'.cell' (i := 10) rfl
  have x11 := k1'.cell' (i := 11) rfl
  have y11 := k2'.cell' (i := 11) rfl
  have x12 := k1'.cell' (i := 12) rfl
  have y12 := k2'.cell' (i := 12) rfl
  go_wp2_with fail
  go_ret
  exact ⟨rfl, hB'⟩
set_option maxHeartbeats 1600000 in
set_option maxRecDepth 100000 in
theorem cloneG (A : Option Addr) (l : List (Int × Int)) (n c : Nat) (w : World) (hl : l.length = n) (ha : Rd w A (gps l)) (hn : n ≤ 8796093022200) :
    Calls Try.prog 96 #[.slice A n c] w fun e w' => ∃ A' c', e = .returned (.slice A' n c') ∧ Own w' w.heap.size 66 2 A' n c' (gps l) ∧ Below w.heap.size w w' := by
  obtain ⟨i0, hi0, hz0, hz1, hz2⟩ := info_parts pairinfo
  have q2 : 0 + n ≤ maxLen := by unfold maxLen; omega
  have q3 : (0 + n) * 16 ≤ 140737488355328 := by omega
  have q1 : Hid ((gps l).length = n * 2) := Lib.hid (by rw [gps_len, hl])
  have hE := fun (W : World) (a : Option Addr) (n c : Nat) => Lib.run_eql_slice_nil (P := Try.prog) W 24 66 a n c 0 0 Try.underlying24
  rcases A with _ | a
  · have hl0 : l = [] := by
      rcases l with _ | ⟨x, l⟩
      · rfl
      · obtain ⟨b, off, e, _⟩ := rdgap_cells ha (i := 0) (x := x) rfl
        cases e
    subst hl0
    obtain rfl : n = 0 := by simpa using hl.symm
    clear q1 q2 q3
    go_enter Try.func96, Try.ntmps96
    go_wp2
    go_ret
    exact ⟨none, 0, rfl, Own.none_ _ _ _ _, Below.refl _ _⟩
  · have hO : Own (w.alloc (.cells #[] 66)) w.heap.size 66 2 (some ⟨w.heap.size, 0, none⟩) 0 0 [] := Own.of_block (heap_alloc_new w _) (Nat.le_refl _) rfl (Nat.le_refl _) (Nat.zero_le _) (by simp) (fun i u h => by simp at h)
    have hR2 := ha.alloc (.cells #[] 66)
    have q4 : w.heap.size ≤ (w.alloc (.cells #[] 66)).heap.size := by simp
    clear hl
    go_enter Try.func96, Try.ntmps96
    go_wp2_with (at_builtin; refine wpList_append_Own _ rfl (.tmp 5) (.tmp 6) 24 rfl w.heap.size 66 i0 _ 2 16 Try.underlying24 hi0 hz0 hz1 hz2 rfl _ 0 0 [] rfl hO (some a) n c (gps l) rfl q1.out hR2 (gps_one _) q2 q3 q4 ?_; intro A' c' w1 hO1 hg1 hor)
    go_ret
    rw [Nat.zero_add, List.nil_append] at hO1
    refine ⟨A', c', rfl, hO1, ?_⟩
    exact ((Below.refl _ _).alloc (Nat.le_refl _) _).grown hg1 (by simp) (fun k hk => by simp [blk] at hk; omega)
set_option maxHeartbeats 3200000 in
set_option maxRecDepth 100000 in
theorem overGaps_any (base : Nat) (A : Option Addr) (n c : Nat) (l : List (Int × Int)) (w : World) (hO : Own w base 66 2 A n c (gps l)) (hn : n ≤ 8796093022200) (hbase : base ≤ w.heap.size) :
    Calls Try.prog 21 #[.slice A n c] w fun e w' => e = .returned (.tuple #[]) ∧ w.grownBy w' (blk A) := by
  obtain ⟨i0, hi0, hz0, hz1, hz2⟩ := info_parts pairinfo
  go_enter Try.func21, Try.ntmps21
  go_wp2_with fail
  go_loopw [2] (fun i wr => ∃ (k : Nat) (xs : List Value), k ≤ n ∧ i = .int .i64 k ∧ Own wr base 66 2 A n c xs ∧ w.grownBy wr (blk A)) (fun i _ => n - (intOf i).toNat)
  case atStart => exact ⟨0, gps l, by omega, by simp, hO, World.grownBy.refl _ _⟩
  case round =>
    obtain ⟨k, xs, hk, rfl, hO', hg⟩ := hrel
    clear hO
    by_cases h5 : k < n
    · have h5i : (k : Int) < (n : Int) := by omega
      have hip : (0 : Int) ≤ (k : Int) := by omega
      obtain ⟨g, off, rfl, hg1, hg2⟩ := hO'.form (by have := hO'.le; omega)
      have hlen := hO'.len
      obtain ⟨u0, hu0⟩ : ∃ u, xs[k * 2]? = some u := ⟨_, List.getElem?_eq_getElem (by omega)⟩
      obtain ⟨u1, hu1⟩ : ∃ u, xs[k * 2 + 1]? = some u := ⟨_, List.getElem?_eq_getElem (by omega)⟩
      have e0 : wr.cell? ⟨g, off + k * 2, none⟩ = some u0 := hO'.cell hu0
      have s0 := hO'.set (k * 2) (by omega) (.int .i64 (-7))
      have e1 : (wr.setCell ⟨g, off + k * 2, none⟩ (.int .i64 (-7))).cell? ⟨g, off + k * 2 + 1, none⟩ = some u1 := s0.cell (i := k * 2 + 1) (by rw [List.getElem?_set_ne (by omega)]; exact hu1)
      have s1 := s0.set (k * 2 + 1) (by omega) (.int .i64 (-7))
      have f0 : ∀ r, wr.frozen? ⟨g, r, none⟩ = false := fun r => hO'.frozen r
      have f1 : ∀ r, (wr.setCell ⟨g, off + k * 2, none⟩ (.int .i64 (-7))).frozen? ⟨g, r, none⟩ = false := fun r => s0.frozen r
      have hg3 := grown_setCell (p := ⟨g, off + k * 2 + 1, none⟩) (grown_setCell (p := ⟨g, off + k * 2, none⟩) hg (.inl rfl) (.int .i64 (-7))) (.inl rfl) (.int .i64 (-7))
      clear hu0 hu1 hlen s0 hg hO'
      go_wp2_with fail
      go_roundw
      case rel => exact ⟨k + 1, _, by omega, by go_num, s1, hg3⟩
      case measure => simp [intOf]; omega
    · have h5i : ¬ (k : Int) < (n : Int) := by omega
      have q4 : n + 2 ≤ maxLen := by unfold maxLen; omega
      have q5 : (n + 2) * 16 ≤ 140737488355328 := by omega
      have hz := hg.size
      have hOn := hO'.alloc (.cells #[.int .i64 (-7), .int .i64 (-7), .int .i64 (-7), .int .i64 (-7)] 66)
      have hR5 := Rd_lit wr [.int .i64 (-7), .int .i64 (-7), .int .i64 (-7), .int .i64 (-7)] 66
      have hbs : base ≤ (wr.alloc (.cells #[.int .i64 (-7), .int .i64 (-7), .int .i64 (-7), .int .i64 (-7)] 66)).heap.size := by simp; omega
      have hone : Hid (∀ u ∈ [Value.int .i64 (-7), .int .i64 (-7), .int .i64 (-7), .int .i64 (-7)], u.oneCell' = true) := Lib.hid (by
        intro u hu
        simp at hu
        rw [hu]
        rfl)
      go_wp2_with (at_builtin; refine wpList_append_Own (wr.alloc (.cells #[.int .i64 (-7), .int .i64 (-7), .int .i64 (-7), .int .i64 (-7)] 66)) rfl (.tmp 13) (.tmp 16) 24 rfl base 66 i0 _ 2 16 Try.underlying24 hi0 hz0 hz1 hz2 rfl A n c xs rfl hOn (some ⟨wr.heap.size, 0, none⟩) 2 2 [.int .i64 (-7), .int .i64 (-7), .int .i64 (-7), .int .i64 (-7)] rfl rfl hR5 hone.out q4 q5 hbs ?_; intro A6 c6 w6 hO6 hg6 hor6)
      go_end0
      exact ⟨rfl, grown_trans (grown_alloc hg _) hg6 (.inl rfl)⟩
end Go.Proofs.Ytianombjgdmbeaa
namespace Go.Proofs.Ytianombjgdmbeaa
set_option linter.unusedSimpArgs false
set_option linter.unusedVariables false
open Go.RowKit

set_option maxHeartbeats 800000 in
set_option maxRecDepth 100000 in
/-- Bytes are written over by their owner, and grown: only the row that holds them turns. -/
theorem spoil_any (base : Nat) (A : Option Addr) (n c : Nat) (xs : List UInt8) (w : World) (hO : Own w base 5 1 A n c (bvs xs)) (hn : n ≤ 140737488351300) (hbase : base ≤ w.heap.size) :
    Calls Try.prog 20 #[.slice A n c] w fun e w' => e = .returned (.tuple #[]) ∧ w.grownBy w' (blk A) := by
  obtain ⟨i0, hi0, hz0, hz1, hz2⟩ := info_parts u8info
  go_enter Try.func20, Try.ntmps20
  go_wp2_with fail
  go_loopw [2] (fun i wr => ∃ (k : Nat) (ys : List UInt8), k ≤ n ∧ i = .int .i64 k ∧ Own wr base 5 1 A n c (bvs ys) ∧ w.grownBy wr (blk A)) (fun i _ => n - (intOf i).toNat)
  case atStart => exact ⟨0, xs, by omega, by simp, hO, World.grownBy.refl _ _⟩
  case round =>
    obtain ⟨k, ys, hk, rfl, hO', hg⟩ := hrel
    clear hO
    by_cases h5 : k < n
    · have hle := hO'.le
      obtain ⟨g, off, rfl, _, _⟩ := hO'.form (by omega)
      obtain ⟨x, hx, hc⟩ := hO'.byteAt h5
      have hf := hO'.frozen (off + k)
      have Hx := Lib.hid hx
      clear hx
      have hx256 := byte_lt x
      go_wp2
      go_roundw
      case rel =>
        refine ⟨k + 1, ys.set k (x ^^^ 90), by omega, by go_num, ?_, grown_setCell (p := ⟨g, off + k, none⟩) hg (.inl rfl) _⟩
        have e := xor_u8 x 90
        rw [show ((90 : UInt8).toNat : Int) = 90 from rfl] at e
        rw [e]
        exact hO'.setB h5 _
      case measure => simp [intOf]; omega
    · obtain rfl : k = n := by omega
      clear h5
      have h63 : k + 2 ≤ maxLen := by unfold maxLen; omega
      have hby : (k + 2) * 1 ≤ 140737488355328 := by omega
      have hsz : base ≤ (wr.alloc (.cells #[.int .u8 90, .int .u8 90] 5)).heap.size := by have := hg.size; simp; omega
      have hRn : Rd (wr.alloc (.cells #[.int .u8 90, .int .u8 90] 5)) (some ⟨wr.heap.size, 0, none⟩) (bvs [90, 90]) := Rd.of_block (heap_alloc_new wr _) (fun i u h => by simpa [bvs, bv] using h)
      have hOn := hO'.alloc (.cells #[.int .u8 90, .int .u8 90] 5)
      go_wp2_with (at_builtin; refine wpList_append_Own _ rfl (.tmp 17) (.tmp 18) 23 rfl base 5 i0 _ 1 1 Try.underlying23 hi0 hz0 hz1 hz2 rfl A k c (bvs ys) rfl hOn _ 2 2 (bvs [90, 90]) rfl rfl hRn (bvs_one _) h63 hby hsz ?_; intro A' c' w1 hO1 hg1 hor; have hle1 := hO1.le; obtain ⟨g1, off1, rfl, hb1, _⟩ := hO1.form (by omega); have hO2 : Own w1 base 5 1 (some ⟨g1, off1, none⟩) (k + 2) c' (bvs (ys ++ [90, 90])) := (bvs_append ys [90, 90]) ▸ hO1; obtain ⟨x1, hx1, hc1⟩ := hO2.byteAt (k := 0) (by omega); rw [Nat.add_zero] at hc1; have hf1 := hO1.frozen off1; clear hx1)
      go_end0
      refine ⟨rfl, ?_⟩
      have hg2 := grown_trans (grown_alloc hg _) hg1 (.inl rfl)
      rcases hor with e | e
      · rw [← e] at hg2 ⊢
        exact grown_setCell hg2 (.inl rfl) _
      · have e2 : g1 = (wr.alloc (.cells #[.int .u8 90, .int .u8 90] 5)).heap.size := by simpa [blk] using e
        have hge : w.heap.size ≤ g1 := by have := hg.size; rw [e2]; simp; omega
        have h3 : (blk A = none) ∨ ∃ g, blk A = some g := by cases blk A <;> simp
        rcases h3 with h3 | ⟨g, h3⟩
        · rw [h3] at hg2 ⊢
          exact grownBy_below ((below_of_grown hg2).setCell hge _) _
        · rw [h3] at hg2 ⊢
          exact grown_setCell hg2 (.inr hge) _
end Go.Proofs.Ytianombjgdmbeaa
