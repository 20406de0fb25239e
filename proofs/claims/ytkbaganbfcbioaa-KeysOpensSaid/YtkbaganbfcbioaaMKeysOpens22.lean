/-
  The program's tag. A region in the round of a range over a function that draws its order: walked by hand over all orders; it ends in a frame and a world that an append has part in.
-/
import Derived.Test.YtkbaganbfcbioaaMKeysOpens20
import Derived.Test.YtkbaganbfcbioaaMKeysOpens21
import Derived.Test.YtkbaganbfcbioaaMKeysOpens8
import Derived.Deep.RegionHeld3
import Derived.Test.YtkbaganbfcbioaaMKeysOpens15
import Derived.Test.YtkbaganbfcbioaaMKeysOpens3
import Derived.Test.YtkbaganbfcbioaaMKeysOpens1
import Derived.RegionTactic
import Derived.Orders
namespace Go.Proofs.Ytkbaganbfcbioaa
set_option linter.unusedSimpArgs false
set_option linter.unusedVariables false
open Go.RowKit Go.Shelf
attribute [local go_sem] Oper.semAt_some

/-- The sum over groups that are told one by one. -/
def sumF7 (b : List UInt8) (r : Nat) (pre : List Nat) : Nat := pre.foldl (fun s k => (s + grpN b k) * r % bP) 0
theorem sumF7_snoc (b : List UInt8) (r : Nat) (pre : List Nat) (k : Nat) : sumF7 b r (pre ++ [k]) = (sumF7 b r pre + grpN b k) * r % bP := by simp [sumF7]
theorem sumF7_range (b : List UInt8) (r : Nat) : ∀ k, sumF7 b r (List.range k) = sumTo b r k
  | 0 => rfl
  | k + 1 => by rw [List.range_succ, sumF7_snoc, sumF7_range b r k, sumTo_succ]
theorem sumF7_lt (b : List UInt8) (r : Nat) (pre : List Nat) : sumF7 b r pre < bP := by
  rcases List.eq_nil_or_concat pre with rfl | ⟨q, k, rfl⟩
  · show 0 < bP; decide
  · rw [List.concat_eq_append, sumF7_snoc]
    exact Nat.mod_lt _ (by decide)

theorem byte_shr (Z m : Nat) : (Z : Int) / 2 ^ m % 256 = ((UInt8.ofNat (Z / 2 ^ m)).toNat : Int) := by
  rw [int_pow2, UInt8.toNat_ofNat']
  omega
theorem shift7 {m : Nat} (h0 : 1 ≤ m) (h7 : m ≤ 7) : ∀ w, (Op.shift BinOp.shl IntKind.u64 1 IntKind.i64 (8 * (m : Int))).run Try.prog w = .ok (.int .u64 ((256 ^ m : Nat) : Int)) w := by
  intro w
  have : m = 1 ∨ m = 2 ∨ m = 3 ∨ m = 4 ∨ m = 5 ∨ m = 6 ∨ m = 7 := by omega
  rcases this with rfl | rfl | rfl | rfl | rfl | rfl | rfl <;> rfl
theorem boxed_keep7 {A B : World} {row : Option Nat} {b : Nat} {t : TypeId} {v : Value} (h : Boxed A b t v) (hg : A.grownBy B row) (hr : ∀ r, row = some r → ∃ o : Obj, A.heap[r]? = some o ∧ o.isCells = false) : Boxed B b t v :=
  h.kept hg (fun e => by
    obtain ⟨o, ho, hc⟩ := hr b e.symm
    unfold Boxed at h
    rw [h] at ho
    injection ho with ho
    subst ho
    cases hc)
set_option maxHeartbeats 4000000 in
set_option maxRecDepth 100000 in
theorem ktag_good (A : Option Addr) (W : List Nat) (cp C : Nat) (b off len c : Nat) (l : List UInt8) (w : World) (hl : W.length = 8) (hW : ∀ i, W.getD i 0 < 4294967296) (ha : Rd w A (ivs (nls W))) (hC : C ≤ 281474976710655)
    (hF : Sq (firstL W C 0)) (hll : l.length = len) (hb : Rd w (some ⟨b, off, none⟩) (bvs l)) (hlc : len ≤ c) (hn : len ≤ 1048576) (hbl : b < w.heap.size) :
    Calls Try.prog 43 #[.slice A 8 cp, .int .i64 (C : Int), .slice (some ⟨b, off, none⟩) len c] w fun e w' => RowsOut w w' (tagL W C l) e := by
  obtain ⟨i0, hi0, hz0, hz1, hz2⟩ := info_parts u8info
  have HL := Lib.hid hll
  have CB := Lib.hid (block_good A W cp C 0 w hl hW ha hC (by omega) hF)
  have hPl := padL_length W C 0
  have HT : Hid (be8To (tagN (padL W C 0) l) 8 = tagL W C l) := by show _ = _; rfl
  have hTl := tagL_len W C l
  generalize tagL W C l = T at *
  generalize padL W C 0 = P at *
  clear hll hl hW hF
  refine (callsIn_wide (n := 5)).1 ?_
  have h1 : 1 ≤ 5 := by omega
  refine callsIn_of_wp_marks Try.func43 rfl trivial ?_ rfl
  simp only [Try.ntmps43, List.size_toArray, List.length_cons, List.length_nil, Nat.reduceAdd, Nat.reduceSub, Array.replicate_succ, Array.replicate_zero, List.push_toArray, List.append_toArray, List.nil_append, List.cons_append]
  gi_wp2_with fail
  refine ⟨trivial, (callsIn_wide.2 CB.out).mono ?_⟩
  rintro e w1 ⟨AP, cP, rfl, hOP, hb1⟩
  rw [hPl] at hOP ⊢
  obtain ⟨g, o, rfl, hg1, hg2⟩ := hOP.form (by have := hOP.le; omega)
  have hcP := hOP.le
  have hcI : (64 : Int) ≤ (cP : Int) := by omega
  have hcN : ¬ cP = 8 := by omega
  have R8 : Rd w1 (some ⟨g, o, none⟩) (bvs (P.take 8)) := by have := hOP.rd.take 8; simpa [bvs, List.map_take] using this
  have R16 : Rd w1 (some ⟨g, o + 8, none⟩) (bvs ((P.drop 8).take 8)) := by have := (hOP.rd.drop_lit 8).take 8; simpa [bvs, List.map_take, List.map_drop] using this
  have l8 : (P.take 8).length = 8 := by rw [List.length_take]; omega
  have l16 : ((P.drop 8).take 8).length = 8 := by rw [List.length_take, List.length_drop]; omega
  have n8 := numB_lt 8 _ l8
  have n16 := numB_lt 8 _ l16
  have C8 := Lib.hid (fun (w : World) (h : Rd w (some ⟨g, o, none⟩) (bvs (P.take 8))) => knumber_any (some ⟨g, o, none⟩) (P.take 8) 8 cP w l8 (by omega) h)
  have C16 := Lib.hid (fun (w : World) (h : Rd w (some ⟨g, o + 8, none⟩) (bvs ((P.drop 8).take 8))) => knumber_any (some ⟨g, o + 8, none⟩) ((P.drop 8).take 8) 8 (cP - 8) w l16 (by omega) h)
  unfold tagN at HT
  have e8 : ((numB (P.take 8) : Nat) : Int) % 2305843009213693951 = ((numB (P.take 8) % bP : Nat) : Int) := by rw [bP_eq]; omega
  have e16 : ((numB ((P.drop 8).take 8) : Nat) : Int) % 2305843009213693951 = ((numB ((P.drop 8).take 8) % bP : Nat) : Int) := by rw [bP_eq]; omega
  have f8 : ((numB (P.take 8) : Nat) : Int).tmod 2305843009213693951 = ((numB (P.take 8) % bP : Nat) : Int) := by rw [Int.tmod_eq_emod_of_nonneg (by omega)]; exact e8
  have f16 : ((numB ((P.drop 8).take 8) : Nat) : Int).tmod 2305843009213693951 = ((numB ((P.drop 8).take 8) % bP : Nat) : Int) := by rw [Int.tmod_eq_emod_of_nonneg (by omega)]; exact e16
  have m8 : numB (P.take 8) % bP < bP := Nat.mod_lt _ (by decide)
  have m16 : numB ((P.drop 8).take 8) % bP < bP := Nat.mod_lt _ (by decide)
  generalize numB (P.take 8) % bP = r at *
  generalize numB ((P.drop 8).take 8) % bP = s at *
  generalize numB (P.take 8) = r0 at *
  generalize numB ((P.drop 8).take 8) = s0 at *
  rw [bP_eq] at m8 m16
  have c8 : (8 : Int) ≤ (cP : Int) := by omega
  have c16 : (16 : Int) ≤ (cP : Int) := by omega
  have hbW : Rd w1 (some ⟨b, off, none⟩) (bvs l) := hb.below hb1
  have z1 := hb1.size
  gi_wp2_with fail
  apply wpIn_one
  case h =>
    go_region_held3 (fun _ => True) (trivial) (first
      | (go_at_call 55; (with_reducible refine (C8.out _ (by first | exact R8.drew | exact (R8.alloc _).drew)).mono ?_); rintro e wA ⟨rfl, rfl⟩)
      | (go_at_call 55; (with_reducible refine (C16.out _ (by first | exact R16.drew | exact (R16.alloc _).drew)).mono ?_); rintro e wA ⟨rfl, rfl⟩))
    all_goals exact ⟨rfl, rfl, rfl⟩
  case k =>
    obtain ⟨W2, hW2⟩ : ∃ W : World, W = (w1.alloc (Obj.cells #[.int .u64 (r : Int)] 81)).drew := ⟨_, rfl⟩
    have hR2 : Boxed W2 w1.heap.size 81 (.int .u64 (r : Int)) := by rw [hW2]; exact Boxed.new w1 _ _
    have hb2 : Below w1.heap.size w1 W2 := by rw [hW2]; exact ((Below.refl _ _).alloc (Nat.le_refl _) _).drew
    have sz2 : W2.heap.size = w1.heap.size + 1 := by rw [hW2]; simp
    rw [← hW2]
    clear hW2 R8 R16 C8 C16 e8 e16 f8 f16
    gi_wp2_with fail
    refine ⟨trivial, (chunk_in Fence.wide 4 trivial rfl (some ⟨b, off, none⟩) len c 7 (by omega) _).mono ?_⟩
    rintro e w' ⟨rfl, rfl⟩
    obtain ⟨W3, hW3⟩ : ∃ W : World, W = ((W2.alloc (.cells #[.int .u64 0] 81)).alloc (.cells #[.slice (some ⟨b, off, none⟩) len c] 22)).alloc (.cells #[.int .i64 7] 3) := ⟨_, rfl⟩
    have bR : Boxed W3 w1.heap.size 81 (.int .u64 (r : Int)) := by rw [hW3]; exact ((hR2.alloc _).alloc _).alloc _
    have bS : Boxed W3 (w1.heap.size + 1) 81 (.int .u64 0) := by
      rw [hW3]
      have := ((Boxed.new W2 81 (.int .u64 0)).alloc (.cells #[.slice (some ⟨b, off, none⟩) len c] 22)).alloc (.cells #[.int .i64 7] 3)
      rwa [sz2] at this
    have bC : Boxed W3 (w1.heap.size + 1 + 1) 22 (.slice (some ⟨b, off, none⟩) len c) := by
      rw [hW3]
      have := (Boxed.new (W2.alloc (.cells #[.int .u64 0] 81)) 22 (.slice (some ⟨b, off, none⟩) len c)).alloc (.cells #[.int .i64 7] 3)
      rwa [World.size_alloc, sz2] at this
    have bN : Boxed W3 (w1.heap.size + 1 + 1 + 1) 3 (.int .i64 7) := by
      rw [hW3]
      have := Boxed.new ((W2.alloc (.cells #[.int .u64 0] 81)).alloc (.cells #[.slice (some ⟨b, off, none⟩) len c] 22)) 3 (.int .i64 7)
      rwa [World.size_alloc, World.size_alloc, sz2] at this
    have hb3 : Below w1.heap.size w1 W3 := by rw [hW3]; exact ((hb2.alloc (by omega) _).alloc (by simp; omega) _).alloc (by simp; omega) _
    have sz3 : W3.heap.size = w1.heap.size + 4 := by rw [hW3]; simp; omega
    gi_wp2_with fail
    rw [← hW3]
    clear hW3 hR2
    refine wpIn_rangeFunc_ownF rfl h1 (gf := 58) (lb := #[.pointer (some ⟨w1.heap.size + 1 + 1, 0, none⟩), .pointer (some ⟨w1.heap.size + 1 + 1 + 1, 0, none⟩)]) rfl trivial (enters_of Try.func58 (by kernel_rfl) rfl)
      (chunk_stops Fence.wide 4 trivial rfl (by omega) (w1.heap.size + 1 + 1) (w1.heap.size + 1 + 1 + 1) w1.heap.size b off len c 7 (by omega) (by omega) (by omega) hlc W3 (by omega) (by omega) bC.cell bN.cell) KeepC.trans (keepC_b (by omega)) (Below.refl _ _) (fun _ => rfl)
      (fun pre W => (Boxed W w1.heap.size 81 (.int .u64 (r : Int)) ∧ Boxed W (w1.heap.size + 1) 81 (.int .u64 ((sumF7 l r (pre.map Fin.val) : Nat) : Int))) ∧ Below w1.heap.size w1 W)
      (fun _ _ _ => False)
      (OwnFrom.and (Own.from (fun s A B row hs hg hr => ⟨boxed_keep7 hs.1 hg hr, boxed_keep7 hs.2 hg hr⟩) _) (ownFrom_below (by omega) (by omega)))
      (fun _ _ _ _ _ hs _ _ => hs)
      ⟨⟨bR, bS⟩, hb3⟩
      (fun y => { tmps := #[.slice A 8 cp, .int .i64 (C : Int), .slice (some ⟨b, off, none⟩) len c, undef, undef, undef, .slice none 0 0, .slice (some ⟨g, o, none⟩) 64 cP, .pointer (some ⟨w1.heap.size, 0, none⟩), .int .u64 (s : Int), .pointer (some ⟨w1.heap.size + 1, 0, none⟩), pieceV b off len 7 y.val, undef, undef, .slice A 8 cp, .int .i64 (C : Int), .slice (some ⟨g, o, none⟩) 64 cP, .slice (some ⟨g, o, none⟩) 64 cP, .slice (some ⟨g, o, none⟩) 8 cP, .int .u64 (r0 : Int), .int .u64 (r : Int), .slice (some ⟨g, o, none⟩) 64 cP, .slice (some ⟨g, o + 8, none⟩) 8 (cP - 8), .int .u64 (s0 : Int), .int .u64 (s : Int), .slice (some ⟨b, off, none⟩) len c, .func (.func 58) #[] #[.pointer (some ⟨w1.heap.size + 1 + 1, 0, none⟩), .pointer (some ⟨w1.heap.size + 1 + 1 + 1, 0, none⟩)], pieceV b off len 7 y.val, undef, undef, undef, undef, undef, undef, undef, undef, undef, undef, undef, undef, undef, undef, undef, undef, undef, undef, undef, undef, undef, undef, undef, undef, undef, undef, undef, undef, undef, undef, undef, undef], defers := [] }) ?assign ?body ?done ?stop
    case assign =>
      intro l y W K hK
      gi_wp2
      exact hK
    case body =>
      rintro l0 pre ⟨y, hy⟩ W ⟨⟨bR, bS⟩, hB⟩ _
      have hyl : y * 7 < len := (pieces_iff (by omega)).1 hy
      have HS : Hid (sumF7 l r ((pre ++ [(⟨y, hy⟩ : Fin (pieces len 7))]).map Fin.val) = (sumF7 l r (pre.map Fin.val) + grpN l y) * r % bP) := by show _ = _; rw [List.map_append]; exact sumF7_snoc _ _ _ _
      have hsl := sumF7_lt l r (pre.map Fin.val)
      have hgl := grpN_lt l y
      have hG : grpN l y = numB (grp l y) + 256 ^ (grp l y).length := rfl
      have hgn : (grp l y).length = min 7 (len - y * 7) := by rw [grp_len, HL.out, Nat.mul_comm]
      have rG : Rd W (some ⟨b, off + y * 7, none⟩) (bvs (grp l y)) := by
        have := ((hbW.below hB).drop_lit (y * 7)).take 7
        simpa [bvs, List.map_take, List.map_drop, grp, Nat.mul_comm] using this
      dsimp only
      unfold pieceV
      rw [hgn] at hG
      have hm7 : min 7 (len - y * 7) ≤ 7 := by omega
      have hm0 : 1 ≤ min 7 (len - y * 7) := by omega
      generalize min 7 (len - y * 7) = m at *
      generalize off + y * 7 = o7 at *
      generalize sumF7 l r (pre.map Fin.val) = sm at *
      have CN := Lib.hid (fun (w1 : World) (h : Rd w1 (some ⟨b, o7, none⟩) (bvs (grp l y))) => knumber_any (some ⟨b, o7, none⟩) (grp l y) m m w1 hgn (by omega) h)
      have hnl := numB_lt m _ hgn
      generalize numB (grp l y) = nb at *
      have cR := bR.cell
      have cS := bS.cell
      have fS := bS.frozen
      rw [bP_eq] at hsl
      obtain ⟨X, hX⟩ : ∃ X, X = sm + grpN l y := ⟨_, rfl⟩
      have hXl : X < 4611686018427387904 := by omega
      have CM := Lib.hid (fun (w1 : World) => mul64_any X r (by omega) (by omega) w1)
      have hXr : (X * r / 18446744073709551616) * 18446744073709551616 + X * r % 18446744073709551616 = X * r := Nat.div_add_mod' _ _
      have hq1 : X * r / 18446744073709551616 < 18446744073709551616 := by
        rw [Nat.div_lt_iff_lt_mul (by decide)]
        exact Nat.mul_lt_mul'' (by omega) (by omega)
      have CL := Lib.hid (fun (w1 : World) => less_any (X * r / 18446744073709551616) (X * r % 18446744073709551616) w1 hq1 (Nat.mod_lt _ (by decide)))
      rw [hXr] at CL
      rw [← hX] at HS
      clear hXr hq1
      generalize X * r % bP = N at *
      generalize X * r / 18446744073709551616 = hi at *
      generalize X * r % 18446744073709551616 = lo at *
      replace rG := rG.drew
      have hsh : ∀ w, (Op.shift BinOp.shl IntKind.u64 1 IntKind.i64 (8 * (m : Int))).run Try.prog w = .ok (.int .u64 ((256 ^ m : Nat) : Int)) w := shift7 hm0 hm7
      have hpw := pow256_le hm7
      generalize 256 ^ m = pw at *
      have s8 : IntKind.i64.wrap (8 * (m : Int)) = 8 * (m : Int) := by rw [IntKind.wrap_i64]; omega
      have s9 : IntKind.u64.wrap ((sm : Int) + (nb : Int)) = (sm : Int) + (nb : Int) := by rw [IntKind.wrap_u64]; omega
      have s10 : IntKind.u64.wrap ((sm : Int) + (nb : Int) + (pw : Int)) = (X : Int) := by rw [IntKind.wrap_u64]; omega
      clear hX hG hgl hXl hsl hm0 hm7 hnl hgn hyl hpw
      gi_wp2_with fail
      refine wpInRound_tail 13 (by kernel_rfl) (by kernel_rfl) (by kernel_rfl) (fun h => by obtain ⟨_, _, h⟩ := h; exact h) ?_
      simp only [List.take_succ_cons, List.take_zero, List.drop_succ_cons, List.drop_zero]
      still_step
      still_step
      still_call ((CN.out _ rG).mono fun e w' h => ⟨h.1, h.2.symm⟩)
      repeat still_step
      still_call (CM.out _)
      repeat still_step
      refine wpStill_nil ?_
      go_wp2_with (go_at_call 64; (with_reducible refine (CL.out _).mono ?_); rintro e w' ⟨rfl, nq, rfl⟩)
      have bR' : Boxed (W.drewN (1 + nq)) w1.heap.size 81 (.int .u64 (r : Int)) := bR
      have bS' : Boxed (W.drewN (1 + nq)) (w1.heap.size + 1) 81 (.int .u64 (sm : Int)) := bS
      have kO : KeepsOthers W (W.drewN (1 + nq)) := ⟨Nat.le_refl _, fun _ _ h _ => h⟩
      have kC : KeepC w1.heap.size (w1.heap.size + 1 + 1) (w1.heap.size + 1 + 1 + 1) W (W.drewN (1 + nq)) := ⟨below_drewN (Below.refl _ _) _, fun _ h => h, fun _ h => h⟩
      refine ⟨kO.trans (KeepsOthers.setCell _ _ _), kC.trans (KeepC.set _ (by omega) (by omega) (by omega) _ _), ⟨⟨bR'.kept (grownBy_setCell' _ _ _) (by simp <;> omega), ?_⟩, (below_drewN hB (1 + nq)).setCell (p := ⟨w1.heap.size + 1, 0, none⟩) (by simp) _⟩⟩
      rw [HS.out]
      exact bS'.set _
    case done =>
      rintro D ys W hD hys ⟨⟨bR, bS⟩, hB⟩ hK
      rw [hys, sumF7_range, show pieces len 7 = (l.length + 6) / 7 from by rw [HL.out]; rfl] at bS
      have hsl := sumTo_lt l r ((l.length + 6) / 7)
      rw [bP_eq] at hsl
      generalize sumTo l r ((l.length + 6) / 7) = S at *
      have e7 : ((S : Int) + (s : Int)) % 2305843009213693951 = (((S + s) % bP : Nat) : Int) := by rw [bP_eq]; omega
      have hZl : (S + s) % bP < bP := Nat.mod_lt _ (by decide)
      rw [bP_eq] at hZl
      generalize (S + s) % bP = Z at *
      have cS := bS.cell
      have fS := bS.frozen
      have zW := hB.size
      obtain ⟨W4, hW4⟩ : ∃ V : World, V = W.setCell ⟨w1.heap.size + 1, 0, none⟩ (.int .u64 (Z : Int)) := ⟨_, rfl⟩
      have bS4 : Boxed W4 (w1.heap.size + 1) 81 (.int .u64 (Z : Int)) := by rw [hW4]; exact bS.set _
      have hK4 : W4.heap[D]? = some (.deferred (some [])) := by rw [hW4]; exact (KeepsOthers.setCell W _ _).same D _ hK rfl
      have hB4 : Below w1.heap.size w1 W4 := by rw [hW4]; exact hB.setCell (p := ⟨w1.heap.size + 1, 0, none⟩) (by simp) _
      gi_wp2_with fail
      rw [← hW4]
      clear hW4 bR bS cS fS hB hK zW e7
      have z4 := hB4.size
      have lS4 := bS4.lt
      gi_loopw [12, 46] (fun v i wr => ∃ (k : Nat) (A2 : Option Addr) (c2 : Nat), k ≤ 8 ∧ i = .int .i64 k ∧ v = .slice A2 k c2 ∧ Own wr W4.heap.size 5 1 A2 k c2 (bvs (be8To Z k)) ∧ Below W4.heap.size W4 wr) (fun _ i _ => 8 - (intOf i).toNat)
      case atStart => exact ⟨0, none, 0, by omega, rfl, rfl, Own.none_ _ _ _ _, Below.refl _ _⟩
      case round =>
        obtain ⟨k, A2, c2, hk, rfl, rfl, hO, hb⟩ := hrel
        have cS := (hb.cell (p := ⟨w1.heap.size + 1, 0, none⟩) lS4).trans bS4.cell
        have HB5 := Lib.hid hb
        by_cases h8 : k < 8
        · have h8i : (k : Int) < 8 := by omega
          have hbe := Lib.hid (be8To_succ Z k)
          have hby := byte_shr Z (56 - 8 * k)
          generalize be8To Z k = XS at *
          generalize UInt8.ofNat (Z / 2 ^ (56 - 8 * k)) = z at *
          obtain ⟨XV, hXV⟩ : ∃ V, V = bvs XS := ⟨_, rfl⟩
          rw [← hXV] at hO
          have HXV := Lib.hid hXV
          clear hXV
          have hOn := hO.alloc (.cells #[.int .u8 (z.toNat : Int)] 5)
          have hR1 := Rd_one wr (.int .u8 (z.toNat : Int)) 5
          have zb := hb.size
          have hbs : W4.heap.size ≤ (wr.alloc (.cells #[.int .u8 (z.toNat : Int)] 5)).heap.size := by simp; omega
          have q2 : k + 1 ≤ maxLen := by unfold maxLen; omega
          have q3 : (k + 1) * 1 ≤ 140737488355328 := by omega
          clear hbW hb1 hB4 hb2 hb3 hb
          gi_wp2_with (gi_at_builtin; refine wpListIn_append_Own (wr.alloc (.cells #[.int .u8 (z.toNat : Int)] 5)) rfl (.tmp 49) (.tmp 56) 22 rfl W4.heap.size 5 i0 _ 1 1 Try.underlying22 hi0 hz0 hz1 hz2 rfl A2 k c2 XV ?hs ?hown (some ⟨wr.heap.size, 0, none⟩) 1 1 [.int .u8 (z.toNat : Int)] ?hx ?hl ?hR ?h1 ?h63 ?hby ?hba ?hh; (case hs => (first | rfl | (simp [Act.eval, Act.put]; done))); (case hown => exact hOn); (case hx => (first | rfl | (simp [Act.eval, Act.put]; done))); (case hl => rfl); (case hR => exact hR1); (case h1 => exact fun u hu => (by simp at hu; subst hu; rfl)); (case h63 => exact q2); (case hby => exact q3); (case hba => exact hbs); intro A3 c3 w2 hO2 hg2' hor2)
          go_roundw
          case rel =>
            refine ⟨k + 1, A3, c3, by omega, by go_num, rfl, ?_, ?_⟩
            · rw [hbe.out, bvs_append, ← HXV.out]
              exact hO2
            · exact (HB5.out.alloc (by omega) _).grown hg2' (by simp; omega) (fun q hq => by have := hOn.lt q hq; omega)
          case measure => simp [intOf] <;> omega
        · obtain rfl : k = 8 := by omega
          have hb9 : Below w.heap.size w wr := hb1.trans ((hB4.mono z1).trans (hb.mono (by omega)))
          have hK9 : wr.heap[D]? = some (.deferred (some [])) := (hb.block D (Array.getElem?_eq_some_iff.1 hK4).1).trans hK4
          gi_wp2_with fail
          refine ⟨by simp, .inl ⟨_, _, rfl, run_takeDeferred hK9, ?_⟩⟩
          refine ⟨.slice A2 8 c2, by simp [results, Try.results43, go_sem], ?_⟩
          refine ⟨A2, c2, by rw [hTl], ?_, hb9.trans (belowK_b (w := w) (Nat.le_refl _) wr D _ _ (by omega) hK9 rfl rfl)⟩
          rw [hTl, ← HT.out]
          exact (hO.kept_in (grownBy_putObj' wr D (.deferred none)) (fun r e => by cases e; exact ⟨_, hK9, rfl⟩)).mono (by omega)
    case stop =>
      rintro D c pre W _ _ h _
      exact h.elim
end Go.Proofs.Ytkbaganbfcbioaa
namespace Go.Proofs.Ytkbaganbfcbioaa
set_option linter.unusedSimpArgs false
set_option linter.unusedVariables false
open Go.RowKit

theorem made_get (z : Value) (hz : z.oneCell' = true) (n i : Nat) (h : i < n) : (madeCells #[z] n)[i]? = some z := by
  have e := toList_madeCells_one z n
  rw [← Array.getElem?_toList, e]
  simp [h]
/-- A block of noughts, just made. -/
theorem Own.made8 (w : World) (n c : Nat) (hn : n ≤ c) (hc : c ≤ maxLen) : Own (w.alloc (.cells (madeCells #[.int .u8 0] c) 5)) w.heap.size 5 1 (some ⟨w.heap.size, 0, none⟩) n c (bvs (List.replicate n 0)) := by
  refine Own.of_block (heap_alloc_new w _) (Nat.le_refl _) (by simp [bvs]) hn hc (by simp [size_madeCells]) fun i u h => ?_
  have hi : i < n := by
    rcases Nat.lt_or_ge i n with h1 | h1
    · exact h1
    · rw [List.getElem?_eq_none (by simpa [bvs] using h1)] at h; cases h
  rw [made_get _ rfl c i (by omega)]
  rw [← h]
  simp [bvs, bv, hi]
end Go.Proofs.Ytkbaganbfcbioaa
namespace Go.Proofs.Ytkbaganbfcbioaa
set_option linter.unusedSimpArgs false
set_option linter.unusedVariables false
open Go.RowKit
section
variable {P : Program} {l0 n : Nat} {a : Act} {w : World}
/-- All ends are told by an address, a number and a world. -/
def Ends (G : Option Addr → Nat → World → Prop) (a9 : Option Addr → Nat → World → Act) (w9 : Option Addr → Nat → World → World) : Exit → Act → World → Prop :=
  fun e a w => ∃ A k v, G A k v ∧ e = .normal ∧ a = a9 A k v ∧ w = w9 A k v
theorem ends_panic {G : Option Addr → Nat → World → Prop} {a9 : Option Addr → Nat → World → Act} {w9 : Option Addr → Nat → World → World} {x : Option Nat} {v : Value} : ∀ c a w, Ends G a9 w9 (.panic c) (a.put x v) w → Ends G a9 w9 (.panic c) a w := by
  rintro c a w ⟨_, _, _, _, h, _⟩
  cases h
theorem wpInRound_ends {Q : Exit → Act → World → Prop} {id : Nat} {l : List Oper} (G : Option Addr → Nat → World → Prop) (a9 : Option Addr → Nat → World → Act) (w9 : Option Addr → Nat → World → World) (hm : P.follows .mixedOrders = true) (hnd : noDefer l = true)
    (h : wpAny P .any l.toArray (Ends G a9 w9) l.toArray.size (Array.replicate l.toArray.size false) a w.drew) (k : ∀ A k v, G A k v → Q .normal (a9 A k v) (w9 A k v)) : (Code.region id l.toArray true).wpIn (Fence.wide.inRound l0) n P Q a w := by
  refine wpIn_mono (Q := Ends G a9 w9) (wpIn_region_any hm (wpAny_round (noDefer_spec hnd) ?_ _ _ _ _ h)) ?_
  · rintro ⟨_, _, _, _, _, _, h, _⟩
    cases h
  · rintro _ _ _ ⟨A, c, v, g, rfl, rfl, rfl⟩
    exact k _ _ _ g
theorem wpAny_tail {Q : Exit → Act → World → Prop} {l : List Oper} {listed : Array Bool} (k : Nat) (hB : Region.seqB .any l.toArray (l.drop k).length k listed = true) (h : wpList P l.toArray Q (l.drop k) a w) : wpAny P .any l.toArray Q (l.drop k).length listed a w :=
  wpAny_of_seq (l.drop k) k listed a w (fun j => by simp [List.getElem?_drop]) hB h
end
end Go.Proofs.Ytkbaganbfcbioaa
