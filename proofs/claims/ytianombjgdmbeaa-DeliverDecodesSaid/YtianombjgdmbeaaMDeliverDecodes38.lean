/-
  deliver.Sum of a slice that has no address: nothing is summed. Givers that are the same; a slice of pairs is cloned, is written over by its owner.
-/
import Derived.Test.YtianombjgdmbeaaMDeliverDecodes37
import Derived.Test.YtianombjgdmbeaaMDeliverDecodes12
import Derived.Test.YtianombjgdmbeaaMDeliverDecodes16
import Derived.WalkSpells
namespace Go.Proofs.Ytianombjgdmbeaa
set_option linter.unusedSimpArgs false
set_option linter.unusedVariables false
open Go.RowKit Go.Shelf
attribute [local go_sem] Oper.semAt_some

set_option maxRecDepth 100000 in
set_option maxHeartbeats 4000000 in
theorem chunk0_in (F : Fence) (n : Nat) (hf : F.fn 89) (hro : F.round = none) (hn : 1 ≤ n) (l Bs Bn n₀ cap s : Nat) (hs : 1 ≤ s) (hs2 : s ≤ 1048576)
    (J Jx : List (Fin (pieces 0 s)) → World → Prop) (hJ : ∀ pre W, J pre W → J pre W.drew)
    (W : World) (hBs : W.cell? ⟨Bs, 0, none⟩ = some (.slice none 0 cap)) (h0 : J [] W) :
    CallsIn F n Try.prog 89 #[.func (.yield l) #[] #[], .pointer (some ⟨Bs, 0, none⟩), .pointer (some ⟨Bn, 0, none⟩)] W fun e W' => (∃ v, e = .returned v) ∧
      ((∃ ys, ys.map Fin.val = List.range (pieces 0 s) ∧ J ys W') ∨ (∃ pre, (∃ k, k ≤ pieces 0 s ∧ pre.map Fin.val = List.range k) ∧ Jx pre W')) := by
  refine callsIn_of_wp Try.func89 rfl hf ?_ hro
  simp only [Try.ntmps89, List.size_toArray, List.length_cons, List.length_nil, Nat.reduceAdd, Nat.reduceSub, Array.replicate_succ, Array.replicate_zero, List.push_toArray, List.append_toArray, List.nil_append, List.cons_append]
  have HJ := Lib.hid hJ
  clear hJ
  have hp0 : pieces 0 s = 0 := by
    have := fun h => (pieces_iff (len := 0) (k := 0) (show 0 < s by omega)).1 h
    omega
  gi_wp2_with fail
  gi_loopw [4] (fun i wr => i = .int .i64 0 ∧ J [] wr ∧ KeepC n₀ Bs Bn W wr) (fun i _ => 0)
  case atStart => exact ⟨rfl, h0, KeepC.refl _ _ _ _⟩
  case round =>
    obtain ⟨rfl, hJs, hnx⟩ := hrel
    have cs := hnx.2.1 _ hBs
    gi_wp2
    go_end0
    exact ⟨⟨_, rfl⟩, .inl ⟨[], by rw [hp0]; rfl, hJs⟩⟩
theorem chunk0_stops (F : Fence) (n : Nat) (hf : F.fn 89) (hro : F.round = none) (hn : 1 ≤ n) (Bs Bn n₀ cap s : Nat) (hs : 1 ≤ s) (hs2 : s ≤ 1048576) (w : World) (hBs : Bs < w.heap.size)
    (hcs : w.cell? ⟨Bs, 0, none⟩ = some (.slice none 0 cap)) :
    SeqStopsK F n Try.prog 89 #[.pointer (some ⟨Bs, 0, none⟩), .pointer (some ⟨Bn, 0, none⟩)] (fun x : Fin (pieces 0 s) => #[pieceV 0 0 0 s x.val]) (KeepC n₀ Bs Bn) (fun ys => ys.map Fin.val = List.range (pieces 0 s))
      (fun pre => ∃ k, k ≤ pieces 0 s ∧ pre.map Fin.val = List.range k) (pieces 0 s) w := fun l J Jx W hW hJ _ _ h0 =>
  chunk0_in F n hf hro hn l Bs Bn n₀ cap s hs hs2 J Jx (fun pre W h => hJ pre W W.drew none h ⟨rfl, rfl, rfl, Nat.le_refl _, fun _ _ _ => rfl⟩ (fun r e => by cases e)) W ((hW.cell (p := ⟨Bs, 0, none⟩) hBs).trans hcs) h0
set_option maxHeartbeats 4000000 in
set_option maxRecDepth 100000 in
theorem sum_none (c : Nat) (w : World) :
    Calls Try.prog 17 #[.slice none 0 c] w fun e w' => e = .returned (.int .i64 (fileSum [])) ∧ Below w.heap.size w w' := by
  refine (callsIn_wide (n := 5)).1 ?_
  have h1 : 1 ≤ 5 := by omega
  refine callsIn_of_wp_marks Try.func17 rfl trivial ?_ rfl
  simp only [Try.ntmps17, List.size_toArray, List.length_cons, List.length_nil, Nat.reduceAdd, Nat.reduceSub, Array.replicate_succ, Array.replicate_zero, List.push_toArray, List.append_toArray, List.nil_append, List.cons_append]
  gi_wp2_with fail
  refine ⟨trivial, (chunk_in Fence.wide 4 trivial rfl none 0 c 4 (by omega) _).mono ?_⟩
  rintro e w' ⟨rfl, rfl⟩
  obtain ⟨W3, hW3⟩ : ∃ W : World, W = ((w.alloc (.cells #[.int .u32 0] 74)).alloc (.cells #[.slice none 0 c] 23)).alloc (.cells #[.int .i64 4] 3) := ⟨_, rfl⟩
  have bS : Boxed W3 w.heap.size 74 (.int .u32 0) := by
    rw [hW3]
    exact ((Boxed.new w 74 (.int .u32 0)).alloc (.cells #[.slice none 0 c] 23)).alloc (.cells #[.int .i64 4] 3)
  have bC : Boxed W3 (w.heap.size + 1) 23 (.slice none 0 c) := by
    rw [hW3]
    have := (Boxed.new (w.alloc (.cells #[.int .u32 0] 74)) 23 (.slice none 0 c)).alloc (.cells #[.int .i64 4] 3)
    rwa [World.size_alloc] at this
  have bN : Boxed W3 (w.heap.size + 1 + 1) 3 (.int .i64 4) := by
    rw [hW3]
    have := Boxed.new ((w.alloc (.cells #[.int .u32 0] 74)).alloc (.cells #[.slice none 0 c] 23)) 3 (.int .i64 4)
    rwa [World.size_alloc, World.size_alloc] at this
  have hb3 : Below w.heap.size w W3 := by rw [hW3]; exact (((Below.refl _ _).alloc (Nat.le_refl _) _).alloc (by simp) _).alloc (by simp; omega) _
  have sz3 : W3.heap.size = w.heap.size + 3 := by rw [hW3]; simp
  gi_wp2_with fail
  rw [← hW3]
  clear hW3
  refine wpIn_rangeFunc_ownF rfl h1 (gf := 89) (lb := #[.pointer (some ⟨w.heap.size + 1, 0, none⟩), .pointer (some ⟨w.heap.size + 1 + 1, 0, none⟩)]) rfl trivial (enters_of Try.func89 (by kernel_rfl) rfl)
    (chunk0_stops Fence.wide 4 trivial rfl (by omega) (w.heap.size + 1) (w.heap.size + 1 + 1) w.heap.size c 4 (by omega) (by omega) W3 (by omega) bC.cell) KeepC.trans (keepC_b (by omega)) (Below.refl _ _) (fun _ => rfl)
    (fun pre W => Boxed W w.heap.size 74 (.int .u32 ((sumF4 [] (pre.map Fin.val) : Nat) : Int)) ∧ Below w.heap.size w W)
    (fun _ _ _ => False)
    (OwnFrom.and (Own.from (I := fun (pre : List (Fin (pieces 0 4))) W => Boxed W w.heap.size 74 (.int .u32 ((sumF4 [] (pre.map Fin.val) : Nat) : Int))) (fun s A B row hs hg hr => boxed_keep4 hs hg hr) _) (ownFrom_below (by omega) (by omega)))
    (fun _ _ _ _ _ hs _ _ => hs)
    ⟨bS, hb3⟩
    (fun y => { tmps := #[.slice none 0 c, undef, .int .i64 0, .pointer (some ⟨w.heap.size, 0, none⟩), pieceV 0 0 0 4 y.val, undef, .slice none 0 c, .func (.func 89) #[] #[.pointer (some ⟨w.heap.size + 1, 0, none⟩), .pointer (some ⟨w.heap.size + 1 + 1, 0, none⟩)], pieceV 0 0 0 4 y.val, undef, undef, undef, undef, undef, undef, undef, undef, undef, undef, undef, undef, undef, undef, undef, undef, undef, undef, undef, undef, undef, undef, undef, undef, undef], defers := [] }) ?assign ?body ?done ?stop
  case assign =>
    intro l y W K hK
    gi_wp2
    exact hK
  case body =>
    rintro l0 pre ⟨y, hy⟩ W ⟨bS, hB⟩ _
    have hyl : y * 4 < 0 := (pieces_iff (by omega)).1 hy
    omega
  case done =>
    rintro D ys W hD hys ⟨bS, hB⟩ hK
    rw [hys] at bS
    have hall := sumF4_all [] (pieces 0 4) (Nat.zero_le _)
    rw [hall] at bS
    have cS := bS.cell
    have hlt : 0 ≤ fileSum [] ∧ fileSum [] < 4294967296 := by unfold fileSum; omega
    gi_wp2_with fail
    refine ⟨by simp, .inl ⟨_, _, rfl, run_takeDeferred hK, ?_⟩⟩
    refine ⟨.int .i64 (fileSum []), by simp [results, Try.results17, go_sem], ?_⟩
    exact ⟨rfl, hB.trans (belowK_b (w := w) (Nat.le_refl _) W D _ _ (by omega) hK rfl rfl)⟩
  case stop =>
    rintro D c pre W _ _ h _
    exact h.elim
end Go.Proofs.Ytianombjgdmbeaa
namespace Go.Proofs.Ytianombjgdmbeaa
set_option linter.unusedSimpArgs false
set_option linter.unusedVariables false
open Go.RowKit

set_option maxHeartbeats 6400000 in
set_option maxRecDepth 100000 in
theorem sameGv_yes (x : Gv) (F E : Option Addr) (fn fc ec : Nat) (A B : Option Addr) (an ac bc : Nat) (w : World) (hf : x.file.length = fn) (ha : x.again.length = an) (hfn : fn ≤ 140737488351300) (han : an ≤ 140737488351300) (hF : Rd w F (bvs x.file)) (hE : Rd w E (bvs x.file)) (hA : Rd w A (gps x.again)) (hH : Rd w B (gps x.again)) :
    Calls Try.prog 66 #[gvv x F fn fc A an ac, gvv x E fn ec B an bc] w fun e w' => e = .returned (.bool true) ∧ Below w.heap.size w w' := by
  have CD := Lib.hid (fun (V : World) (hB : Below w.heap.size w V) => sameBytes_yes F E x.file fc ec V (hF.below hB) (hE.below hB))
  have CG := Lib.hid (fun (V : World) (hB : Below w.heap.size w V) => sameGaps_yes A B x.again an ac bc V ha han (hA.below hB) (hH.below hB))
  rw [hf] at CD
  clear hf ha hF hE hA hH
  obtain ⟨id, name, file, most, burst, stage, first, at_, again, timer, patience, tries, limit⟩ := x
  unfold gvv gvc
  dsimp only at CD CG ⊢
  have k1 := (Blk.new w 55 #[.int .i64 id, .string name, .slice F fn fc, .int .i64 most, .int .i64 burst, .int .i64 stage, .bool first, .int .i64 at_, .slice A an ac, .int .i64 timer, .int .i64 patience, .int .i64 tries, .int .i64 limit]).alloc (.cells #[.int .i64 id, .string name, .slice E fn ec, .int .i64 most, .int .i64 burst, .int .i64 stage, .bool first, .int .i64 at_, .slice B an bc, .int .i64 timer, .int .i64 patience, .int .i64 tries, .int .i64 limit] 55)
  have k2 := Blk.new (w.alloc (.cells #[.int .i64 id, .string name, .slice F fn fc, .int .i64 most, .int .i64 burst, .int .i64 stage, .bool first, .int .i64 at_, .slice A an ac, .int .i64 timer, .int .i64 patience, .int .i64 tries, .int .i64 limit] 55)) 55 #[.int .i64 id, .string name, .slice E fn ec, .int .i64 most, .int .i64 burst, .int .i64 stage, .bool first, .int .i64 at_, .slice B an bc, .int .i64 timer, .int .i64 patience, .int .i64 tries, .int .i64 limit]
  rw [show (w.alloc (.cells #[.int .i64 id, .string name, .slice F fn fc, .int .i64 most, .int .i64 burst, .int .i64 stage, .bool first, .int .i64 at_, .slice A an ac, .int .i64 timer, .int .i64 patience, .int .i64 tries, .int .i64 limit] 55)).heap.size = w.heap.size + 1 by simp] at k2
  have hB : Below w.heap.size w ((w.alloc (.cells #[.int .i64 id, .string name, .slice F fn fc, .int .i64 most, .int .i64 burst, .int .i64 stage, .bool first, .int .i64 at_, .slice A an ac, .int .i64 timer, .int .i64 patience, .int .i64 tries, .int .i64 limit] 55)).alloc (.cells #[.int .i64 id, .string name, .slice E fn ec, .int .i64 most, .int .i64 burst, .int .i64 stage, .bool first, .int .i64 at_, .slice B an bc, .int .i64 timer, .int .i64 patience, .int .i64 tries, .int .i64 limit] 55)) := ((Below.refl _ _).alloc (Nat.le_refl _) _).alloc (by simp) _
  go_enter Try.func66, Try.ntmps66
  simp only [List.append_eq, List.cons_append, List.nil_append]
  go_wp2_with fail
  generalize (w.alloc (.cells #[.int .i64 id, .string name, .slice F fn fc, .int .i64 most, .int .i64 burst, .int .i64 stage, .bool first, .int .i64 at_, .slice A an ac, .int .i64 timer, .int .i64 patience, .int .i64 tries, .int .i64 limit] 55)).alloc (.cells #[.int .i64 id, .string name, .slice E fn ec, .int .i64 most, .int .i64 burst, .int .i64 stage, .bool first, .int .i64 at_, .slice B an bc, .int .i64 timer, .int .i64 patience, .int .i64 tries, .int .i64 limit] 55) = W at *
  refine (CD.out _ hB).mono ?_
  rintro e _ ⟨rfl, rfl⟩
  have x3 := k1.cell' (i := 3) rfl
  have y3 := k2.cell' (i := 3) rfl
  have x4 := k1.cell' (i := 4) rfl
  have y4 := k2.cell' (i := 4) rfl
  have x5 := k1.cell' (i := 5) rfl
  have y5 := k2.cell' (i := 5) rfl
  have x6 := k1.cell' (i := 6) rfl
  have y6 := k2.cell' (i := 6) rfl
  have x7 := k1.cell' (i := 7) rfl
  have y7 := k2.cell' (i := 7) rfl
  have x8 := k1.cell' (i := 8) rfl
  have y8 := k2.cell' (i := 8) rfl
  go_wp2_with fail
  refine (CG.out _ hB).mono ?_
  rintro e _ ⟨rfl, j1, rfl⟩
  have k1' := k1.drewN j1
  have k2' := k2.drewN j1
  have hB' := below_drewN hB j1
  clear x3 y3 x4 y4 x5 y5 x6 y6 x7 y7 x8 y8 k1 k2 hB CD CG
  generalize W.drewN j1 = W2 at *
  have x9 := k1'.cell' (i := 9) rfl
  have y9 := k2'.cell' (i := 9) rfl
  have x10 := k1'.cell' (i := 10) rfl
  have y10 := k2'.cell' (i := 10) rfl
  have x11 := k1'.cell' (i := 11) rfl
  have y11 := k2'.cell' (i := 11) rfl
  have x12 := k1'.cell' (i := 12) rfl
  have y12 := k2'.cell' (i := 12) rfl
  go_wp2_with fail
  go_ret
  exact ⟨rfl, hB'⟩
set_option maxHeartbeats 1600000 in
set_option maxRecDepth 100000 in
theorem cloneG (A : Option Addr) (l : List (Int × Int)) (n c : Nat) (w : World) (hl : l.length = n) (ha : Rd w A (gps l)) (hn : n ≤ 8796093022200) :
    Calls Try.prog 96 #[.slice A n c] w fun e w' => ∃ A' c', e = .returned (.slice A' n c') ∧ Own w' w.heap.size 66 2 A' n c' (gps l) ∧ Below w.heap.size w w' := by
  obtain ⟨i0, hi0, hz0, hz1, hz2⟩ := info_parts pairinfo
  have q2 : 0 + n ≤ maxLen := by unfold maxLen; omega
  have q3 : (0 + n) * 16 ≤ 140737488355328 := by omega
  have q1 : Hid ((gps l).length = n * 2) := Lib.hid (by rw [gps_len, hl])
  have hE := fun (W : World) (a : Option Addr) (n c : Nat) => Lib.run_eql_slice_nil (P := Try.prog) W 24 66 a n c 0 0 Try.underlying24
  rcases A with _ | a
  · have hl0 : l = [] := by
      rcases l with _ | ⟨x, l⟩
      · rfl
      · obtain ⟨b, off, e, _⟩ := rdgap_cells ha (i := 0) (x := x) rfl
        cases e
    subst hl0
    obtain rfl : n = 0 := by simpa using hl.symm
    clear q1 q2 q3
    go_enter Try.func96, Try.ntmps96
    go_wp2
    go_ret
    exact ⟨none, 0, rfl, Own.none_ _ _ _ _, Below.refl _ _⟩
  · have hO : Own (w.alloc (.cells #[] 66)) w.heap.size 66 2 (some ⟨w.heap.size, 0, none⟩) 0 0 [] := Own.of_block (heap_alloc_new w _) (Nat.le_refl _) rfl (Nat.le_refl _) (Nat.zero_le _) (by simp) (fun i u h => by simp at h)
    have hR2 := ha.alloc (.cells #[] 66)
    have q4 : w.heap.size ≤ (w.alloc (.cells #[] 66)).heap.size := by simp
    clear hl
    go_enter Try.func96, Try.ntmps96
    go_wp2_with (at_builtin; refine wpList_append_Own _ rfl (.tmp 5) (.tmp 6) 24 rfl w.heap.size 66 i0 _ 2 16 Try.underlying24 hi0 hz0 hz1 hz2 rfl _ 0 0 [] rfl hO (some a) n c (gps l) rfl q1.out hR2 (gps_one _) q2 q3 q4 ?_; intro A' c' w1 hO1 hg1 hor)
    go_ret
    rw [Nat.zero_add, List.nil_append] at hO1
    refine ⟨A', c', rfl, hO1, ?_⟩
    exact ((Below.refl _ _).alloc (Nat.le_refl _) _).grown hg1 (by simp) (fun k hk => by simp [blk] at hk; omega)
set_option maxHeartbeats 3200000 in
set_option maxRecDepth 100000 in
theorem overGaps_any (base : Nat) (A : Option Addr) (n c : Nat) (l : List (Int × Int)) (w : World) (hO : Own w base 66 2 A n c (gps l)) (hn : n ≤ 8796093022200) (hbase : base ≤ w.heap.size) :
    Calls Try.prog 21 #[.slice A n c] w fun e w' => e = .returned (.tuple #[]) ∧ w.grownBy w' (blk A) := by
  obtain ⟨i0, hi0, hz0, hz1, hz2⟩ := info_parts pairinfo
  go_enter Try.func21, Try.ntmps21
  go_wp2_with fail
  go_loopw [2] (fun i wr => ∃ (k : Nat) (xs : List Value), k ≤ n ∧ i = .int .i64 k ∧ Own wr base 66 2 A n c xs ∧ w.grownBy wr (blk A)) (fun i _ => n - (intOf i).toNat)
  case atStart => exact ⟨0, gps l, by omega, by simp, hO, World.grownBy.refl _ _⟩
  case round =>
    obtain ⟨k, xs, hk, rfl, hO', hg⟩ := hrel
    clear hO
    by_cases h5 : k < n
    · have h5i : (k : Int) < (n : Int) := by omega
      have hip : (0 : Int) ≤ (k : Int) := by omega
      obtain ⟨g, off, rfl, hg1, hg2⟩ := hO'.form (by have := hO'.le; omega)
      have hlen := hO'.len
      obtain ⟨u0, hu0⟩ : ∃ u, xs[k * 2]? = some u := ⟨_, List.getElem?_eq_getElem (by omega)⟩
      obtain ⟨u1, hu1⟩ : ∃ u, xs[k * 2 + 1]? = some u := ⟨_, List.getElem?_eq_getElem (by omega)⟩
      have e0 : wr.cell? ⟨g, off + k * 2, none⟩ = some u0 := hO'.cell hu0
      have s0 := hO'.set (k * 2) (by omega) (.int .i64 (-7))
      have e1 : (wr.setCell ⟨g, off + k * 2, none⟩ (.int .i64 (-7))).cell? ⟨g, off + k * 2 + 1, none⟩ = some u1 := s0.cell (i := k * 2 + 1) (by rw [List.getElem?_set_ne (by omega)]; exact hu1)
      have s1 := s0.set (k * 2 + 1) (by omega) (.int .i64 (-7))
      have f0 : ∀ r, wr.frozen? ⟨g, r, none⟩ = false := fun r => hO'.frozen r
      have f1 : ∀ r, (wr.setCell ⟨g, off + k * 2, none⟩ (.int .i64 (-7))).frozen? ⟨g, r, none⟩ = false := fun r => s0.frozen r
      have hg3 := grown_setCell (p := ⟨g, off + k * 2 + 1, none⟩) (grown_setCell (p := ⟨g, off + k * 2, none⟩) hg (.inl rfl) (.int .i64 (-7))) (.inl rfl) (.int .i64 (-7))
      clear hu0 hu1 hlen s0 hg hO'
      go_wp2_with fail
      go_roundw
      case rel => exact ⟨k + 1, _, by omega, by go_num, s1, hg3⟩
      case measure => simp [intOf]; omega
    · have h5i : ¬ (k : Int) < (n : Int) := by omega
      have q4 : n + 2 ≤ maxLen := by unfold maxLen; omega
      have q5 : (n + 2) * 16 ≤ 140737488355328 := by omega
      have hz := hg.size
      have hOn := hO'.alloc (.cells #[.int .i64 (-7), .int .i64 (-7), .int .i64 (-7), .int .i64 (-7)] 66)
      have hR5 := Rd_lit wr [.int .i64 (-7), .int .i64 (-7), .int .i64 (-7), .int .i64 (-7)] 66
      have hbs : base ≤ (wr.alloc (.cells #[.int .i64 (-7), .int .i64 (-7), .int .i64 (-7), .int .i64 (-7)] 66)).heap.size := by simp; omega
      have hone : Hid (∀ u ∈ [Value.int .i64 (-7), .int .i64 (-7), .int .i64 (-7), .int .i64 (-7)], u.oneCell' = true) := Lib.hid (by
        intro u hu
        simp at hu
        rw [hu]
        rfl)
      go_wp2_with (at_builtin; refine wpList_append_Own (wr.alloc (.cells #[.int .i64 (-7), .int .i64 (-7), .int .i64 (-7), .int .i64 (-7)] 66)) rfl (.tmp 13) (.tmp 16) 24 rfl base 66 i0 _ 2 16 Try.underlying24 hi0 hz0 hz1 hz2 rfl A n c xs rfl hOn (some ⟨wr.heap.size, 0, none⟩) 2 2 [.int .i64 (-7), .int .i64 (-7), .int .i64 (-7), .int .i64 (-7)] rfl rfl hR5 hone.out q4 q5 hbs ?_; intro A6 c6 w6 hO6 hg6 hor6)
      go_end0
      exact ⟨rfl, grown_trans (grown_alloc hg _) hg6 (.inl rfl)⟩
end Go.Proofs.Ytianombjgdmbeaa
