/-
  Blocks, one behind the other. The program's cover: a range over slices.Chunk, within it an ordinary loop that appends to a boxed variable. slices.Equal of bytes.
-/
import Derived.Test.YtkbaganbfcbioaaMKeysOpens1
import Derived.Test.YtkbaganbfcbioaaMKeysOpens14
import Derived.Test.YtkbaganbfcbioaaMKeysOpens21
import Derived.Test.YtkbaganbfcbioaaMKeysOpens22
import Derived.Test.YtkbaganbfcbioaaMKeysOpens4
namespace Go.Proofs.Ytkbaganbfcbioaa
set_option linter.unusedSimpArgs false
set_option linter.unusedVariables false
open Go.RowKit

def allocs (w : World) (os : List Obj) : World := os.foldl World.alloc w
theorem allocs_old : ∀ (os : List Obj) (w : World) (k : Nat), k < w.heap.size → (allocs w os).heap[k]? = w.heap[k]?
  | [], _, _, _ => rfl
  | o :: os, w, k, h => (allocs_old os (w.alloc o) k (by simp; omega)).trans (Below.heap_alloc w o k h)
theorem allocs_at : ∀ (os : List Obj) (w : World) (i : Nat) (o : Obj), os[i]? = some o → (allocs w os).heap[w.heap.size + i]? = some o
  | [], _, _, _, h => by simp at h
  | o' :: os, w, 0, o, h => by
    simp at h
    subst h
    exact (allocs_old os (w.alloc o') w.heap.size (by simp)).trans (heap_alloc_new w o')
  | o' :: os, w, i + 1, o, h => by
    have := allocs_at os (w.alloc o') i o (by simpa using h)
    rwa [World.size_alloc, show w.heap.size + 1 + i = w.heap.size + (i + 1) from by omega] at this
theorem allocs_size : ∀ (os : List Obj) (w : World), (allocs w os).heap.size = w.heap.size + os.length
  | [], _ => rfl
  | o :: os, w => by
    show (allocs (w.alloc o) os).heap.size = _
    rw [allocs_size os, World.size_alloc, List.length_cons]
    omega
theorem allocs_below : ∀ (os : List Obj) (w : World) (n : Nat), n ≤ w.heap.size → Below n w (allocs w os)
  | [], w, n, _ => Below.refl _ _
  | o :: os, w, n, h => ((Below.refl n w).alloc h o).trans (allocs_below os (w.alloc o) n (by simp; omega))
end Go.Proofs.Ytkbaganbfcbioaa
namespace Go.Proofs.Ytkbaganbfcbioaa
set_option linter.unusedSimpArgs false
set_option linter.unusedVariables false
open Go.RowKit Go.Shelf
attribute [local go_sem] Oper.semAt_some

theorem boxed_keepV {A B : World} {row : Option Nat} {b : Nat} {t : TypeId} {v : Value} (h : Boxed A b t v) (hg : A.grownBy B row) (hr : ∀ r, row = some r → ∃ o : Obj, A.heap[r]? = some o ∧ o.isCells = false) : Boxed B b t v :=
  h.kept hg (fun e => by
    obtain ⟨o, ho, hc⟩ := hr b e.symm
    unfold Boxed at h
    rw [h] at ho
    injection ho with ho
    subst ho
    cases hc)
theorem keepsOthers_below {w w' : World} (h : Below w.heap.size w w') : KeepsOthers w w' := ⟨h.size, fun k o hk _ => (h.block k (lt_of_block hk)).trans hk⟩
theorem boxed_below {N : Nat} {A B : World} {b : Nat} {t : TypeId} {v : Value} (h : Boxed A b t v) (hb : Below N A B) (hn : b < N) : Boxed B b t v := (hb.block b hn).trans h

set_option maxRecDepth 100000 in
set_option maxHeartbeats 8000000 in
theorem cover_good (A : Option Addr) (W : List Nat) (cp C : Nat) (b off len c : Nat) (l : List UInt8) (w : World) (hl : W.length = 8) (hW : ∀ i, W.getD i 0 < 4294967296) (ha : Rd w A (ivs (nls W))) (hC : C ≤ 281474976710655)
    (hF : ∀ I, I ≤ 1000 → Sq (firstL W C I)) (hll : l.length = len) (hb : Rd w (some ⟨b, off, none⟩) (bvs l)) (hlc : len ≤ c) (hn : len ≤ 60000) (hbl : b < w.heap.size) :
    Calls Try.prog 54 #[.slice A 8 cp, .int .i64 (C : Int), .slice (some ⟨b, off, none⟩) len c] w fun e w' => RowsOut w w' (coverL W C l) e := by
  obtain ⟨i0, hi0, hz0, hz1, hz2⟩ := info_parts u8info
  have HL := Lib.hid hll
  have HA := Lib.hid ha
  have HB := Lib.hid hb
  have CB := Lib.hid (fun (I : Nat) (w : World) (h : Rd w A (ivs (nls W))) (hI : I ≤ 1000) => block_good A W cp C I w hl hW h hC hI (hF I hI))
  have HPL := Lib.hid (fun (q : Nat) => padL_length W C q)
  have hmk := run_make_rowN (P := Try.prog) 22 5 i0 (.int .u8 0) Try.underlying22 hi0 hz0 .i64 .i64 0 len (Nat.zero_le _) (by rw [hz2]; omega) (by omega)
  rw [show ((0 : Nat) : Int) = 0 from rfl] at hmk
  clear hl hW hF hC ha hb hll
  refine (callsIn_wide (n := 4)).1 ?_
  have h1 : 1 ≤ 4 := by omega
  refine callsIn_of_wp_marks Try.func54 rfl trivial ?_ rfl
  simp only [Try.ntmps54, List.size_toArray, List.length_cons, List.length_nil, Nat.reduceAdd, Nat.reduceSub, Array.replicate_succ, Array.replicate_zero, List.push_toArray, List.append_toArray, List.nil_append, List.cons_append]
  gi_wp2_with fail
  refine ⟨trivial, (chunk_in Fence.wide 3 trivial rfl _ _ _ 64 (by omega) _).mono ?_⟩
  rintro e w' ⟨rfl, rfl⟩
  clear hmk
  obtain ⟨W0, hW0⟩ : ∃ V : World, V = allocs w [.cells #[.slice A 8 cp] 35, .cells #[.int .i64 (C : Int)] 3, .cells (madeCells #[.int .u8 0] len) 5, .cells #[.slice (some ⟨w.heap.size + 1 + 1, 0, none⟩) 0 len] 22, .cells #[.int .i64 1] 3, .cells #[.slice (some ⟨b, off, none⟩) len c] 22, .cells #[.int .i64 64] 3] := ⟨_, rfl⟩
  have bW : Boxed W0 w.heap.size 35 (.slice A 8 cp) := by rw [hW0]; exact allocs_at _ w 0 _ rfl
  have bC : Boxed W0 (w.heap.size + 1) 3 (.int .i64 (C : Int)) := by rw [hW0]; exact allocs_at _ w 1 _ rfl
  have e2 : Blk W0 (w.heap.size + 1 + 1) 5 (madeCells #[.int .u8 0] len) := by rw [hW0]; exact allocs_at _ w 2 _ rfl
  have bV : Boxed W0 (w.heap.size + 1 + 1 + 1) 22 (.slice (some ⟨w.heap.size + 1 + 1, 0, none⟩) 0 len) := by rw [hW0]; exact allocs_at _ w 3 _ rfl
  have bI : Boxed W0 (w.heap.size + 1 + 1 + 1 + 1) 3 (.int .i64 1) := by rw [hW0]; exact allocs_at _ w 4 _ rfl
  have bS : Boxed W0 (w.heap.size + 1 + 1 + 1 + 1 + 1) 22 (.slice (some ⟨b, off, none⟩) len c) := by rw [hW0]; exact allocs_at _ w 5 _ rfl
  have bN : Boxed W0 (w.heap.size + 1 + 1 + 1 + 1 + 1 + 1) 3 (.int .i64 64) := by rw [hW0]; exact allocs_at _ w 6 _ rfl
  have hb0 : Below w.heap.size w W0 := by rw [hW0]; exact allocs_below _ w _ (Nat.le_refl _)
  have hz0' : W0.heap.size = w.heap.size + 7 := by rw [hW0]; exact allocs_size _ w
  have hM : Own W0 (w.heap.size + 2) 5 1 (some ⟨w.heap.size + 1 + 1, 0, none⟩) 0 len (bvs []) := Own.of_block e2 (by omega) rfl (Nat.zero_le _) (by unfold maxLen; omega) (by simp [size_madeCells]) (fun i u h => by simp [bvs] at h)
  clear e2
  simp only [allocs, List.foldl_cons, List.foldl_nil] at hW0
  gi_wp2_with fail
  rw [← hW0]
  clear hW0
  refine wpIn_rangeFunc_ownF rfl h1 (gf := 58) (lb := #[.pointer (some ⟨w.heap.size + 1 + 1 + 1 + 1 + 1, 0, none⟩), .pointer (some ⟨w.heap.size + 1 + 1 + 1 + 1 + 1 + 1, 0, none⟩)]) rfl trivial (enters_of Try.func58 (by kernel_rfl) rfl)
    (chunk_stops Fence.wide 3 trivial rfl (by omega) (w.heap.size + 1 + 1 + 1 + 1 + 1) (w.heap.size + 1 + 1 + 1 + 1 + 1 + 1) w.heap.size b off len c 64 (by omega) (by omega) (by omega) hlc W0 (by omega) (by omega) bS.cell bN.cell) KeepC.trans (keepC_b (by omega)) (Below.refl _ _) (fun _ => rfl)
    (fun pre V => ((Boxed V w.heap.size 35 (.slice A 8 cp) ∧ Boxed V (w.heap.size + 1) 3 (.int .i64 (C : Int)) ∧ Boxed V (w.heap.size + 1 + 1 + 1 + 1) 3 (.int .i64 (((coverP W C l (pre.map Fin.val)).2 : Nat) : Int))) ∧ ∃ A1 c1, Boxed V (w.heap.size + 1 + 1 + 1) 22 (.slice A1 (coverP W C l (pre.map Fin.val)).1.length c1) ∧ Own V (w.heap.size + 2) 5 1 A1 (coverP W C l (pre.map Fin.val)).1.length c1 (bvs (coverP W C l (pre.map Fin.val)).1) ∧ (∀ q, blk A1 = some q → q = w.heap.size + 1 + 1 ∨ W0.heap.size ≤ q) ∧ W0.heap.size ≤ V.heap.size) ∧ Below w.heap.size w V)
    (fun _ _ _ => False)
    (OwnFrom.and (Own.from (fun s A B row hs hg hr => ⟨⟨boxed_keepV hs.1.1 hg hr, boxed_keepV hs.1.2.1 hg hr, boxed_keepV hs.1.2.2 hg hr⟩, by
      obtain ⟨_, A1, c1, h1, h2, h3, h5⟩ := hs
      exact ⟨A1, c1, boxed_keepV h1 hg hr, h2.kept_in hg hr, h3, Nat.le_trans h5 hg.size⟩⟩) _) (ownFrom_below (by omega) (by omega)))
    (fun _ _ _ _ _ hs _ _ => hs)
    ⟨⟨⟨bW, bC, bI⟩, _, _, bV, hM, fun q hq => .inl (blk_lit hq), Nat.le_refl _⟩, hb0⟩
    (fun y => { tmps := #[.slice A 8 cp, .int .i64 (C : Int), .slice (some ⟨b, off, none⟩) len c, .pointer (some ⟨w.heap.size, 0, none⟩), .pointer (some ⟨w.heap.size + 1, 0, none⟩), undef, .slice none 0 0, .pointer (some ⟨w.heap.size + 1 + 1 + 1, 0, none⟩), .pointer (some ⟨w.heap.size + 1 + 1 + 1 + 1, 0, none⟩), pieceV b off len 64 y.val, undef, undef, undef, .slice (some ⟨b, off, none⟩) len c, .int .i64 (len : Int), .slice (some ⟨w.heap.size + 1 + 1, 0, none⟩) 0 len, .slice (some ⟨b, off, none⟩) len c, .func (.func 58) #[] #[.pointer (some ⟨w.heap.size + 1 + 1 + 1 + 1 + 1, 0, none⟩), .pointer (some ⟨w.heap.size + 1 + 1 + 1 + 1 + 1 + 1, 0, none⟩)], pieceV b off len 64 y.val, undef, undef, undef, undef, undef, undef, undef, undef, undef, undef, undef, undef, undef, undef, undef, undef, undef, undef, undef, undef, undef, undef, undef, undef], defers := [] }) ?assign ?body ?done ?stop
  case assign =>
    intro l0 y V K hK
    gi_wp2
    exact hK
  case stop =>
    rintro D cc pre V hD _ h hK
    exact h.elim
  case body =>
    rintro l0 pre ⟨y, hy⟩ V ⟨⟨⟨bW, bC, bI⟩, A1, c1, bV, hO, hq, hsz⟩, hB⟩ hlen
    have hyl : y * 64 < len := (pieces_iff (by omega)).1 hy
    have hpi : pieces len 64 ≤ 938 := by unfold pieces; omega
    have HS : Hid (coverP W C l ((pre ++ [(⟨y, hy⟩ : Fin (pieces len 64))]).map Fin.val) = coverStep W C l (coverP W C l (pre.map Fin.val)) y) := by show _ = _; rw [List.map_append]; exact coverP_snoc _ _ _ _ _
    have hidx := coverP_idx W C l pre.length (pre.map Fin.val) (by simp)
    have hxl := coverP_len W C l pre.length (pre.map Fin.val) (by simp)
    have hix : (coverP W C l (pre.map Fin.val)).2 ≤ 1000 := by omega
    have hX : (coverP W C l (pre.map Fin.val)).1.length ≤ 60032 := by omega
    clear hidx hxl hlen
    dsimp only
    generalize coverP W C l (pre.map Fin.val) = S at *
    obtain ⟨X, ix⟩ := S
    dsimp only at bI bV hO hix hX HS ⊢
    have hcl : (chunkAt l y).length = min 64 (len - y * 64) := by rw [chunkAt_len, HL.out, Nat.mul_comm]
    have CBx := Lib.hid (CB.out ix V (HA.out.below hB) hix)
    have hpl := HPL.out ix
    unfold coverStep at HS
    dsimp only at HS
    have HG := Lib.hid (fun (j : Nat) (h : j < 64) => chunkAt_get l (y := y) h)
    rw [hcl] at HS
    generalize hP : padL W C ix = P at *
    clear hP
    unfold pieceV
    have hm7 : min 64 (len - y * 64) ≤ 64 := by omega
    have hml : y * 64 + min 64 (len - y * 64) ≤ len := by omega
    generalize hck : chunkAt l y = ck at *
    clear hck
    generalize min 64 (len - y * 64) = m at *
    have cW := bW.cell
    have cC := bC.cell
    have cI := bI.cell
    gi_wp2_with (refine ⟨trivial, ?_⟩; gi_at_call 63; refine (CallsIn.inRound l0 (callsIn_wide.2 CBx.out)).mono ?_; rintro e w1 ⟨AP, cP, rfl, hOP, hb1⟩; have cI1 := (boxed_below bI hb1 bI.lt).cell; have fI1 := (boxed_below bI hb1 bI.lt).frozen)
    have bW1 := boxed_below bW hb1 bW.lt
    have bC1 := boxed_below bC hb1 bC.lt
    have bI1 := boxed_below bI hb1 bI.lt
    have bV1 := boxed_below bV hb1 bV.lt
    rw [hpl] at hOP
    obtain ⟨g, o, rfl, hg1, hg2⟩ := hOP.form (by have := hOP.le; omega)
    have hO1 := hO.step hb1
    have hB1 := hB.trans (hb1.mono hB.size)
    have zV := hb1.size
    have lV := bV.lt
    have lI := bI.lt
    have kO1 : KeepsOthers V w1 := keepsOthers_below hb1
    have kC1 : KeepC w.heap.size (w.heap.size + 1 + 1 + 1 + 1 + 1) (w.heap.size + 1 + 1 + 1 + 1 + 1 + 1) V w1 := KeepC.of_below hb1 hB.size (by omega) (by omega)
    obtain ⟨V2, hV2⟩ : ∃ V2 : World, V2 = w1.setCell ⟨w.heap.size + 1 + 1 + 1 + 1, 0, none⟩ (.int .i64 ((ix : Int) + 1)) := ⟨_, rfl⟩
    have hneI : blk A1 ≠ some (w.heap.size + 1 + 1 + 1 + 1) := fun e => by have := hq _ e; omega
    have hneg : blk A1 ≠ some g := fun e => by have := (hO.lt _ e).2; omega
    have bW2 : Boxed V2 w.heap.size 35 (.slice A 8 cp) := by rw [hV2]; exact bW1.kept (grownBy_setCell' _ _ _) (by simp <;> omega)
    have bC2 : Boxed V2 (w.heap.size + 1) 3 (.int .i64 (C : Int)) := by rw [hV2]; exact bC1.kept (grownBy_setCell' _ _ _) (by simp <;> omega)
    have bI2 : Boxed V2 (w.heap.size + 1 + 1 + 1 + 1) 3 (.int .i64 ((ix : Int) + 1)) := by rw [hV2]; exact bI1.set _
    have bV2 : Boxed V2 (w.heap.size + 1 + 1 + 1) 22 (.slice A1 X.length c1) := by rw [hV2]; exact bV1.kept (grownBy_setCell' _ _ _) (by simp <;> omega)
    have hO2 : Own V2 (w.heap.size + 2) 5 1 A1 X.length c1 (bvs X) := by rw [hV2]; exact hO1.setFar (p := ⟨w.heap.size + 1 + 1 + 1 + 1, 0, none⟩) hneI _
    have hP2 : Own V2 V.heap.size 5 1 (some ⟨g, o, none⟩) 64 cP (bvs P) := by rw [hV2]; exact hOP.setFar (p := ⟨w.heap.size + 1 + 1 + 1 + 1, 0, none⟩) (fun e => by have h : w.heap.size + 1 + 1 + 1 + 1 = g := blk_lit e; omega) _
    have hB2 : Below w.heap.size w V2 := by rw [hV2]; exact hB1.setCell (p := ⟨w.heap.size + 1 + 1 + 1 + 1, 0, none⟩) (by simp; omega) _
    have kO2 : KeepsOthers V V2 := by rw [hV2]; exact kO1.trans (KeepsOthers.setCell _ _ _)
    have kC2 : KeepC w.heap.size (w.heap.size + 1 + 1 + 1 + 1 + 1) (w.heap.size + 1 + 1 + 1 + 1 + 1 + 1) V V2 := by rw [hV2]; exact kC1.trans (KeepC.set _ (by omega) (by omega) (by omega) _ _)
    have z2 : W0.heap.size ≤ V2.heap.size := by rw [hV2]; simp; omega
    have gz2 : g < V2.heap.size := by rw [hV2]; simp; omega
    gi_wp2_with fail
    rw [← hV2]
    clear hV2 bW1 bC1 bI1 bV1 hO1 hB1 kO1 kC1 cI cI1 fI1 cW cC hOP hb1 bW bC bI bV hO
    have HPX : ∀ k, k < m → Hid ((l.getD (y * 64 + k) 0) = ck.getD k 0) := fun k hk => by show _ = _; rw [HG.out k (by omega), Nat.mul_comm y 64]
    gi_loopw [27] (fun jv wr => ∃ (j : Nat) (A2 : Option Addr) (c2 : Nat), j ≤ m ∧ jv = .int .i64 (j : Int) ∧ Boxed wr (w.heap.size + 1 + 1 + 1) 22 (.slice A2 (X.length + j) c2) ∧ Own wr (w.heap.size + 2) 5 1 A2 (X.length + j) c2 (bvs (X ++ xorTo ck P j)) ∧ (∀ q, blk A2 = some q → q = w.heap.size + 1 + 1 ∨ W0.heap.size ≤ q) ∧ blk A2 ≠ some g ∧
      KeepsOthers V wr ∧ KeepC w.heap.size (w.heap.size + 1 + 1 + 1 + 1 + 1) (w.heap.size + 1 + 1 + 1 + 1 + 1 + 1) V wr ∧ (Boxed wr w.heap.size 35 (.slice A 8 cp) ∧ Boxed wr (w.heap.size + 1) 3 (.int .i64 (C : Int)) ∧ Boxed wr (w.heap.size + 1 + 1 + 1 + 1) 3 (.int .i64 ((ix : Int) + 1))) ∧ Own wr V.heap.size 5 1 (some ⟨g, o, none⟩) 64 cP (bvs P) ∧ W0.heap.size ≤ wr.heap.size ∧ Below w.heap.size w wr) (fun jv _ => m - (intOf jv).toNat)
    case atStart => exact ⟨0, A1, c1, Nat.zero_le _, rfl, bV2, by rw [xorTo_zero, List.append_nil]; exact hO2, hq, hneg, kO2, kC2, ⟨bW2, bC2, bI2⟩, hP2, z2, hB2⟩
    case round =>
      obtain ⟨j, A2, c2, hj, rfl, bV3, hO3, hq3, hng3, kO3, kC3, ⟨bW3, bC3, bI3⟩, hP3, z3, hB3⟩ := hrel
      clear bW2 bC2 bI2 bV2 hO2 hP2 hB2 kO2 kC2 z2 hq hneI hneg
      by_cases h6 : j < m
      · have h6i : (j : Int) < (m : Int) := by omega
        have hj0 : (0 : Int) ≤ (j : Int) := by omega
        have hj64 : (j : Int) < 64 := by omega
        have hcx := (HB.out.below hB3).cell (bvs_get (k := y * 64 + j) (show y * 64 + j < l.length by rw [HL.out]; omega))
        rw [at_get, show off + (y * 64 + j) = off + y * 64 + j from by omega, (HPX j h6).out] at hcx
        have hcp := hP3.cell (bvs_get (l := P) (k := j) (by omega))
        rw [at_get] at hcp
        have hxs := Lib.hid (xorTo_succ ck P j)
        have ex := xor_u8 (ck.getD j 0) (P.getD j 0)
        generalize ck.getD j 0 ^^^ P.getD j 0 = z at *
        generalize ck.getD j 0 = x at *
        generalize P.getD j 0 = p at *
        generalize off + y * 64 = o7 at *
        obtain ⟨XV, hXV⟩ : ∃ U, U = bvs (X ++ xorTo ck P j) := ⟨_, rfl⟩
        rw [← hXV] at hO3
        have HXV := Lib.hid hXV
        clear hXV
        have hOn := (hO3.alloc (.cells #[.int .u8 (z.toNat : Int)] 5)).drew
        have hR1 := (Rd_one wr (.int .u8 (z.toNat : Int)) 5).drew
        have q2 : X.length + j + 1 ≤ maxLen := by unfold maxLen; omega
        have q3 : (X.length + j + 1) * 1 ≤ 140737488355328 := by omega
        have lV3 := bV3.lt
        have hbs : w.heap.size + 2 ≤ (wr.alloc (.cells #[.int .u8 (z.toNat : Int)] 5)).drew.heap.size := by simp; omega
        have cV3 := bV3.cell
        have hneV : some (w.heap.size + 1 + 1 + 1) ≠ blk A2 := fun e => by have := hq3 _ e.symm; omega
        have HneV := Lib.hid hneV
        have HC := Lib.hid (show ((ix : Int) + 1 = ((ix + 1 : Nat) : Int)) by omega)
        have HXL : Hid ((((X.length : Nat) : Int) + (j : Int)) = ((X.length + j : Nat) : Int)) := Lib.hid (by omega)
        generalize hXj : X.length + j = xj at *
        have hpl64 : (P.length : Int) = 64 := by omega
        clear hneV hml hyl hpi
        gi_wp2_with fail
        refine wpInRound_ends (fun A3 c3 w2 => Own w2 (w.heap.size + 2) 5 1 A3 (xj + 1) c3 (XV ++ [.int .u8 (z.toNat : Int)]) ∧ (wr.alloc (.cells #[.int .u8 (z.toNat : Int)] 5)).drew.grownBy w2 (blk A2) ∧ (A3 = A2 ∨ blk A3 = some (wr.alloc (.cells #[.int .u8 (z.toNat : Int)] 5)).drew.heap.size)) (fun A3 c3 w2 => { tmps := #[.slice A 8 cp, .int .i64 (C : Int), .slice (some ⟨b, off, none⟩) len c, .pointer (some ⟨w.heap.size, 0, none⟩), .pointer (some ⟨w.heap.size + 1, 0, none⟩), undef, .slice none 0 0, .pointer (some ⟨w.heap.size + 1 + 1 + 1, 0, none⟩), .pointer (some ⟨w.heap.size + 1 + 1 + 1 + 1, 0, none⟩), .slice (some ⟨b, o7, none⟩) m m, .slice (some ⟨g, o, none⟩) 64 cP, .int .i64 (j : Int), .int .u8 (x.toNat : Int), .slice (some ⟨b, off, none⟩) len c, .int .i64 (len : Int), .slice (some ⟨w.heap.size + 1 + 1, 0, none⟩) 0 len, .slice (some ⟨b, off, none⟩) len c, .func (.func 58) #[] #[.pointer (some ⟨w.heap.size + 1 + 1 + 1 + 1 + 1, 0, none⟩), .pointer (some ⟨w.heap.size + 1 + 1 + 1 + 1 + 1 + 1, 0, none⟩)], .slice (some ⟨b, o7, none⟩) m m, .slice A 8 cp, .int .i64 (C : Int), .int .i64 (ix : Int), .slice (some ⟨g, o, none⟩) 64 cP, .int .i64 (ix : Int), .int .i64 ((ix : Int) + 1), .slice (some ⟨b, o7, none⟩) m m, .int .i64 (m : Int), .int .i64 (j : Int), .bool true, .int .i64 (j : Int), .pointer (some ⟨b, o7 + j, none⟩), .int .u8 (x.toNat : Int), .slice A2 xj c2, .int .u8 (x.toNat : Int), .slice (some ⟨g, o, none⟩) 64 cP, .int .i64 (j : Int), .pointer (some ⟨g, o + j, none⟩), .int .u8 (p.toNat : Int), .int .u8 (z.toNat : Int), .slice (some ⟨wr.heap.size, 0, none⟩) 1 1, .slice A3 (xj + 1) c3, u41, undef], defers := [] }) (fun A3 c3 w2 => w2.setCell ⟨w.heap.size + 1 + 1 + 1, 0, none⟩ (.slice A3 (xj + 1) c3)) (by kernel_rfl) (by kernel_rfl) ?h ?k
        case h =>
          refine wpAny_take (i := 1) (oi := _) (v := ?v1) rfl (by kernel_rfl) (by kernel_rfl) (by kernel_rfl) ends_panic (Or.inl ⟨by rfl, ?y1⟩) ?r1
          case y1 => intro w; go_simp; rfl
          case r1 =>
            simp only [Act.put, List.setIfInBounds_toArray, List.set_cons_zero, List.set_cons_succ]
            refine wpAny_take (i := 2) (oi := _) (v := ?v2) rfl (by kernel_rfl) (by kernel_rfl) (by kernel_rfl) ends_panic (Or.inl ⟨by rfl, ?y2⟩) ?r2
            case y2 => intro w; go_simp; rfl
            case r2 =>
              simp only [Act.put, List.setIfInBounds_toArray, List.set_cons_zero, List.set_cons_succ]
              refine wpAny_take (i := 3) (oi := _) (v := ?v3) rfl (by kernel_rfl) (by kernel_rfl) (by kernel_rfl) ends_panic (Or.inl ⟨by rfl, ?y3⟩) ?r3
              case y3 => intro w; go_simp; rfl
              case r3 =>
                simp only [Act.put, List.setIfInBounds_toArray, List.set_cons_zero, List.set_cons_succ]
                refine wpAny_take (i := 4) (oi := _) (v := ?v4) rfl (by kernel_rfl) (by kernel_rfl) (by kernel_rfl) ends_panic (Or.inl ⟨by rfl, ?y4⟩) ?r4
                case y4 => intro w; go_simp; rfl
                case r4 =>
                  simp only [Act.put, List.setIfInBounds_toArray, List.set_cons_zero, List.set_cons_succ]
                  refine wpAny_ready (rs := [0, 5]) (by kernel_rfl) (by simp) (AllReady.cons rfl (fun K hK => ?b0) (AllReady.cons rfl (fun K hK => ?b5) AllReady.nil))
                  case b0 =>
                    go_simp
                    refine hK _ _ ?_
                    clear hK K
                    try simp only [Act.put, List.setIfInBounds_toArray, List.set_cons_zero, List.set_cons_succ]
                    refine wpAny_tail 5 (by kernel_rfl) ?_
                    simp only [List.drop_succ_cons, List.drop_zero]
                    go_wp2_with (at_builtin; refine wpList_append_Own (wr.alloc (.cells #[.int .u8 (z.toNat : Int)] 5)).drew rfl (.tmp 32) (.tmp 39) 22 rfl (w.heap.size + 2) 5 i0 _ 1 1 Try.underlying22 hi0 hz0 hz1 hz2 rfl A2 xj c2 XV ?hsa ?howna (some ⟨wr.heap.size, 0, none⟩) 1 1 [.int .u8 (z.toNat : Int)] ?hxa ?hla ?hRa ?h1a ?h63a ?hbya ?hbaa ?hha; (case hsa => (first | rfl | (simp [Act.eval, Act.put]; done))); (case howna => exact hOn); (case hxa => (first | rfl | (simp [Act.eval, Act.put]; done))); (case hla => rfl); (case hRa => exact hR1); (case h1a => exact fun u hu => (by simp at hu; subst hu; rfl)); (case h63a => exact q2); (case hbya => exact q3); (case hbaa => exact hbs); intro A3 c3 w2 hO4 hg4 hor4; have bV4 := (show Boxed (wr.alloc (.cells #[.int .u8 (z.toNat : Int)] 5)).drew (w.heap.size + 1 + 1 + 1) _ _ from bV3.alloc (.cells #[.int .u8 (z.toNat : Int)] 5)).kept hg4 HneV.out; have cV4 := bV4.cell; have fV4 := bV4.frozen)
                    exact ⟨A3, c3, w2, ⟨hO4, hg4, hor4⟩, rfl, rfl, rfl⟩
                  case b5 =>
                    go_simp
                    refine hK _ _ ?_
                    clear hK K
                    try simp only [Act.put, List.setIfInBounds_toArray, List.set_cons_zero, List.set_cons_succ]
                    refine wpAny_take (i := 6) (oi := _) (v := ?v6) rfl (by kernel_rfl) (by kernel_rfl) (by kernel_rfl) ends_panic (Or.inl ⟨by rfl, ?y6⟩) ?r6
                    case y6 => intro w; go_simp; rfl
                    case r6 =>
                      simp only [Act.put, List.setIfInBounds_toArray, List.set_cons_zero, List.set_cons_succ]
                      refine wpAny_ready (rs := [0, 7]) (by kernel_rfl) (by simp) (AllReady.cons rfl (fun K hK => ?c0) (AllReady.cons rfl (fun K hK => ?b7) AllReady.nil))
                      case c0 =>
                        go_simp
                        refine hK _ _ ?_
                        clear hK K
                        try simp only [Act.put, List.setIfInBounds_toArray, List.set_cons_zero, List.set_cons_succ]
                        refine wpAny_tail 7 (by kernel_rfl) ?_
                        simp only [List.drop_succ_cons, List.drop_zero]
                        go_wp2_with (at_builtin; refine wpList_append_Own (wr.alloc (.cells #[.int .u8 (z.toNat : Int)] 5)).drew rfl (.tmp 32) (.tmp 39) 22 rfl (w.heap.size + 2) 5 i0 _ 1 1 Try.underlying22 hi0 hz0 hz1 hz2 rfl A2 xj c2 XV ?hsb ?hownb (some ⟨wr.heap.size, 0, none⟩) 1 1 [.int .u8 (z.toNat : Int)] ?hxb ?hlb ?hRb ?h1b ?h63b ?hbyb ?hbab ?hhb; (case hsb => (first | rfl | (simp [Act.eval, Act.put]; done))); (case hownb => exact hOn); (case hxb => (first | rfl | (simp [Act.eval, Act.put]; done))); (case hlb => rfl); (case hRb => exact hR1); (case h1b => exact fun u hu => (by simp at hu; subst hu; rfl)); (case h63b => exact q2); (case hbyb => exact q3); (case hbab => exact hbs); intro A3 c3 w2 hO4 hg4 hor4; have bV4 := (show Boxed (wr.alloc (.cells #[.int .u8 (z.toNat : Int)] 5)).drew (w.heap.size + 1 + 1 + 1) _ _ from bV3.alloc (.cells #[.int .u8 (z.toNat : Int)] 5)).kept hg4 HneV.out; have cV4 := bV4.cell; have fV4 := bV4.frozen)
                        exact ⟨A3, c3, w2, ⟨hO4, hg4, hor4⟩, rfl, rfl, rfl⟩
                      case b7 =>
                        go_simp
                        refine hK _ _ ?_
                        clear hK K
                        try simp only [Act.put, List.setIfInBounds_toArray, List.set_cons_zero, List.set_cons_succ]
                        refine wpAny_ready (rs := [0]) (by kernel_rfl) (by simp) (AllReady.cons rfl (fun K hK => ?d0) AllReady.nil)
                        case d0 =>
                          go_simp
                          refine hK _ _ ?_
                          clear hK K
                          try simp only [Act.put, List.setIfInBounds_toArray, List.set_cons_zero, List.set_cons_succ]
                          refine wpAny_tail 8 (by kernel_rfl) ?_
                          simp only [List.drop_succ_cons, List.drop_zero]
                          go_wp2_with (at_builtin; refine wpList_append_Own (wr.alloc (.cells #[.int .u8 (z.toNat : Int)] 5)).drew rfl (.tmp 32) (.tmp 39) 22 rfl (w.heap.size + 2) 5 i0 _ 1 1 Try.underlying22 hi0 hz0 hz1 hz2 rfl A2 xj c2 XV ?hsc ?hownc (some ⟨wr.heap.size, 0, none⟩) 1 1 [.int .u8 (z.toNat : Int)] ?hxc ?hlc ?hRc ?h1c ?h63c ?hbyc ?hbac ?hhc; (case hsc => (first | rfl | (simp [Act.eval, Act.put]; done))); (case hownc => exact hOn); (case hxc => (first | rfl | (simp [Act.eval, Act.put]; done))); (case hlc => rfl); (case hRc => exact hR1); (case h1c => exact fun u hu => (by simp at hu; subst hu; rfl)); (case h63c => exact q2); (case hbyc => exact q3); (case hbac => exact hbs); intro A3 c3 w2 hO4 hg4 hor4; have bV4 := (show Boxed (wr.alloc (.cells #[.int .u8 (z.toNat : Int)] 5)).drew (w.heap.size + 1 + 1 + 1) _ _ from bV3.alloc (.cells #[.int .u8 (z.toNat : Int)] 5)).kept hg4 HneV.out; have cV4 := bV4.cell; have fV4 := bV4.frozen)
                          exact ⟨A3, c3, w2, ⟨hO4, hg4, hor4⟩, rfl, rfl, rfl⟩
        case k =>
          rintro A3 c3 w2 ⟨hO4, hg4, hor4⟩
          have hq3' := hq3
          have hrow : ∀ (r : Nat) (ob : Obj), blk A2 = some r → (wr.alloc (.cells #[.int .u8 (z.toNat : Int)] 5)).drew.heap[r]? = some ob → ob.isCells = true := fun r ob hr ho => by
            rcases A2 with _ | a
            · simp [blk] at hr
            · obtain ⟨cur, _, _, hh, _⟩ := hOn.at_ _ rfl
              have e1 : a.block = r := by simpa [blk] using hr
              rw [e1, ho] at hh
              injection hh with hh
              subst hh
              rfl
          have hne2 : blk A3 ≠ some (w.heap.size + 1 + 1 + 1) := fun e => by
            rcases hor4 with h | h
            · exact HneV.out (by rw [← h]; exact e.symm)
            · rw [e] at h
              simp at h
              omega
          have hwr : w.heap.size ≤ wr.heap.size := hB3.size
          have glt := (hP3.lt g rfl).2
          have kc : KeepC w.heap.size (w.heap.size + 1 + 1 + 1 + 1 + 1) (w.heap.size + 1 + 1 + 1 + 1 + 1 + 1) wr (w2.setCell ⟨w.heap.size + 1 + 1 + 1, 0, none⟩ (.slice A3 (xj + 1) c3)) :=
            (((KeepC.alloc wr hwr _).drew).trans (KeepC.grown hg4 (by simp; omega) (fun r hr => by have := hq3 r hr; omega))).trans (KeepC.set _ (by omega) (by omega) (by omega) _ _)
          have ko : KeepsOthers wr (w2.setCell ⟨w.heap.size + 1 + 1 + 1, 0, none⟩ (.slice A3 (xj + 1) c3)) :=
            (((KeepsOthers.alloc wr _).trans (KeepsOthers.drew _)).trans (KeepsOthers.of_grownBy hg4 hrow)).trans (KeepsOthers.setCell _ _ _)
          have hbox : ∀ (t : TypeId) (v : Value) (q : Nat), Boxed wr q t v → q < W0.heap.size → q ≠ w.heap.size + 1 + 1 → q ≠ w.heap.size + 1 + 1 + 1 → Boxed (w2.setCell ⟨w.heap.size + 1 + 1 + 1, 0, none⟩ (.slice A3 (xj + 1) c3)) q t v := fun t v q hb hq1 hq2 hq4 =>
            ((show Boxed (wr.alloc (.cells #[.int .u8 (z.toNat : Int)] 5)).drew q t v from hb.alloc (.cells #[.int .u8 (z.toNat : Int)] 5)).kept hg4 (fun e => by have := hq3 _ e.symm; omega)).kept (grownBy_setCell' w2 (w.heap.size + 1 + 1 + 1) (.slice A3 (xj + 1) c3)) (by simpa using hq4)
          have bV4 := ((show Boxed (wr.alloc (.cells #[.int .u8 (z.toNat : Int)] 5)).drew (w.heap.size + 1 + 1 + 1) _ _ from bV3.alloc (.cells #[.int .u8 (z.toNat : Int)] 5)).kept hg4 HneV.out).set (.slice A3 (xj + 1) c3)
          have hO5 := hO4.setFar (p := ⟨w.heap.size + 1 + 1 + 1, 0, none⟩) hne2 (.slice A3 (xj + 1) c3)
          have hP5 := (((hP3.alloc (.cells #[.int .u8 (z.toNat : Int)] 5)).drew).grown hg4 (fun r hr e => hng3 (by rw [hr]; exact e.symm ▸ rfl))).setFar (p := ⟨w.heap.size + 1 + 1 + 1, 0, none⟩) (fun e => by have h : w.heap.size + 1 + 1 + 1 = g := blk_lit e; omega) (.slice A3 (xj + 1) c3)
          gi_wp2_with fail
          go_roundw
          case rel =>
            refine ⟨j + 1, A3, c3, by omega, by go_num, ?_, ?_, ?_, ?_, kO3.trans ko, kC3.trans kc, ⟨hbox _ _ _ bW3 (by omega) (by omega) (by omega), hbox _ _ _ bC3 (by omega) (by omega) (by omega), hbox _ _ _ bI3 (by omega) (by omega) (by omega)⟩, hP5, Nat.le_trans z3 ko.size, hB3.trans kc.1⟩
            · rw [show X.length + (j + 1) = xj + 1 from by omega]
              exact bV4
            · rw [show X.length + (j + 1) = xj + 1 from by omega, hxs.out, ← List.append_assoc, bvs_append, ← HXV.out]
              exact hO5
            · intro q hb2
              rcases hor4 with h | h
              · rw [h] at hb2
                exact hq3 q hb2
              · rw [h] at hb2
                injection hb2 with hb2
                right
                rw [← hb2]
                simp
                omega
            · intro e
              rcases hor4 with h | h
              · rw [h] at e
                exact hng3 e
              · rw [h] at e
                injection e with e
                simp at e
                omega
          case measure => simp [intOf] <;> omega
      · obtain rfl : m = j := by omega
        gi_wp2_with fail
        refine ⟨kO3, kC3, ⟨⟨bW3, bC3, ?_⟩, A2, c2, ?_, ?_, hq3, z3⟩, hB3⟩
        · rw [HS.out]
          exact bI3
        · rw [HS.out]
          show Boxed _ _ _ (.slice A2 (X ++ xorTo ck P m).length c2)
          rw [List.length_append, xorTo_len]
          exact bV3
        · rw [HS.out]
          show Own _ _ _ _ A2 (X ++ xorTo ck P m).length c2 (bvs (X ++ xorTo ck P m))
          rw [List.length_append, xorTo_len]
          exact hO3
  case done =>
    rintro D ys V hD hys ⟨⟨⟨bW, bC, bI⟩, A1, c1, bV, hO, hq, hsz⟩, hB⟩ hK
    rw [hys] at bV hO
    have hall := coverP_all W C l
    rw [show (l.length + 63) / 64 = pieces len 64 from by rw [HL.out]; rfl] at hall
    rw [hall] at bV hO
    have cV := bV.cell
    gi_wp2_with fail
    refine ⟨by simp, .inl ⟨_, _, rfl, run_takeDeferred hK, ?_⟩⟩
    refine ⟨.slice A1 (coverL W C l).length c1, by simp [results, Try.results54, go_sem], ?_⟩
    exact ⟨A1, c1, rfl, (hO.kept_in (grownBy_putObj' V D (.deferred none)) (fun r e => by cases e; exact ⟨_, hK, rfl⟩)).mono (by omega), hB.trans (belowK_b (w := w) (Nat.le_refl _) V D _ _ (by omega) hK rfl rfl)⟩
end Go.Proofs.Ytkbaganbfcbioaa
namespace Go.Proofs.Ytkbaganbfcbioaa
set_option linter.unusedSimpArgs false
set_option linter.unusedVariables false
open Go.RowKit

theorem eq_of_getD {x y : List UInt8} {n : Nat} (hx : x.length = n) (hy : y.length = n) (h : ∀ j, j < n → x.getD j 0 = y.getD j 0) : x = y := by
  apply List.ext_getElem (by omega)
  intro i h1 h2
  have := h i (by omega)
  simpa [List.getD, h1, h2] using this
set_option maxHeartbeats 3200000 in
set_option maxRecDepth 100000 in
theorem equalB (A B : Option Addr) (x y : List UInt8) (n c d : Nat) (w : World) (hx : x.length = n) (hy : y.length = n) (ha : Rd w A (bvs x)) (hb : Rd w B (bvs y)) (hn : n ≤ 140737488351300) :
    Calls Try.prog 56 #[.slice A n c, .slice B n d] w fun e w' => e = .returned (.bool (decide (x = y))) ∧ ∃ nq, w' = w.drewN nq := by
  obtain ⟨r, hr⟩ : ∃ r, r = decide (x = y) := ⟨_, rfl⟩
  rw [← hr]
  have HR := Lib.hid hr
  have HX := Lib.hid hx
  have HY := Lib.hid hy
  have HA := Lib.hid ha
  have HB := Lib.hid hb
  clear hr hx hy ha hb
  go_enter Try.func56, Try.ntmps56
  go_wp2_with fail
  go_loopw [13] (fun iv wr => ∃ i : Nat, i ≤ n ∧ iv = .int .i64 (i : Int) ∧ Hid (∃ nq, wr = w.drewN nq) ∧ Hid (∀ j, j < i → x.getD j 0 = y.getD j 0)) (fun iv _ => n - (intOf iv).toNat)
  case atStart => exact ⟨0, Nat.zero_le _, by simp, Lib.hid ⟨0, rfl⟩, Lib.hid (fun j h => by omega)⟩
  case round =>
    obtain ⟨i, hi, rfl, HM, HJ⟩ := hrel
    have haw : Rd wr A (bvs x) := by obtain ⟨m, rfl⟩ := HM.out; exact HA.out.drewN m
    have hbw : Rd wr B (bvs y) := by obtain ⟨m, rfl⟩ := HM.out; exact HB.out.drewN m
    by_cases h5 : i < n
    · have h5i : (i : Int) < (n : Int) := by omega
      have hip : (0 : Int) ≤ (i : Int) := by omega
      obtain ⟨b, off, rfl, hc⟩ := haw.byteD (k := i) (by rw [HX.out]; exact h5)
      obtain ⟨b', off', rfl, hc'⟩ := hbw.byteD (k := i) (by rw [HY.out]; exact h5)
      by_cases he : x.getD i 0 = y.getD i 0
      · have HJ2 : Hid (∀ j, j < i + 1 → x.getD j 0 = y.getD j 0) := Lib.hid (fun j hj => by
          rcases Nat.lt_or_ge j i with h | h
          · exact HJ.out j h
          · obtain rfl : j = i := by omega
            exact he)
        rw [he] at hc
        generalize y.getD i 0 = z at *
        generalize x.getD i 0 = z' at *
        clear he
        go_wp2_with fail
        go_quiet (fail)
        go_wp2_with fail
        go_roundw
        case rel => exact ⟨i + 1, by omega, by go_num, Lib.hid (by obtain ⟨m, rfl⟩ := HM.out; exact ⟨_, by rw [World.drewN_drewN]⟩), HJ2⟩
        case measure => simp [intOf]; omega
      · obtain rfl : r = false := by
          rw [HR.out]
          exact decide_eq_false (fun e => he (by rw [e]))
        have hne : ((((x.getD i 0).toNat : Nat) : Int) == (((y.getD i 0).toNat : Nat) : Int)) = false := by
          rw [beq_eq_false_iff_ne]
          intro e
          exact he (UInt8.toNat_inj.1 (by omega))
        have hne2 : ((((x.getD i 0).toNat : Nat) : Int) != (((y.getD i 0).toNat : Nat) : Int)) = true := by rw [bne, hne]; rfl
        generalize x.getD i 0 = z at *
        generalize y.getD i 0 = z' at *
        go_wp2_with fail
        go_quiet (fail)
        go_wp2_with fail
        go_ret
        exact ⟨rfl, by obtain ⟨m, rfl⟩ := HM.out; exact ⟨_, by rw [World.drewN_drewN]⟩⟩
    · obtain rfl : i = n := by omega
      obtain rfl : r = true := by
        rw [HR.out]
        exact decide_eq_true (eq_of_getD HX.out HY.out HJ.out)
      have h5i : ¬ (i : Int) < (i : Int) := by omega
      go_wp2_with fail
      go_ret
      exact ⟨rfl, HM.out⟩
end Go.Proofs.Ytkbaganbfcbioaa
