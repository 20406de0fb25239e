/-
  The program's Cut: a range over slices.Chunk whose round clones a piece and appends a packet to a boxed variable.
-/
import Derived.Test.YtkbaganbfcbioaaCutR
import Derived.Test.YtkbaganbfcbioaaClone
import Derived.Test.YtkbaganbfcbioaaHeld
import Derived.Test.YtkbaganbfcbioaaAllocs
import Derived.Test.YtkbaganbfcbioaaCoverG
namespace Go.Proofs.Ytkbaganbfcbioaa
set_option linter.unusedSimpArgs false
set_option linter.unusedVariables false
open Go.RowKit Go.Shelf
attribute [local go_sem] Oper.semAt_some

/-- What the rounds have made: of the pieces' numbers, in their order. -/
def midFrom (up : Bool) (apid : Int) (cn : Nat) (u : List UInt8) (m : Nat) : Nat → List Nat → List Pkt
  | _, [] => []
  | i, y :: ys => ⟨up, false, apid, 0, ((cn + i) % 16384 : Nat), cutD u m y⟩ :: midFrom up apid cn u m (i + 1) ys
theorem midFrom_snoc (up : Bool) (apid : Int) (cn : Nat) (u : List UInt8) (m : Nat) (y : Nat) : ∀ (ys : List Nat) (i : Nat), midFrom up apid cn u m i (ys ++ [y]) = midFrom up apid cn u m i ys ++ [⟨up, false, apid, 0, ((cn + (i + ys.length)) % 16384 : Nat), cutD u m y⟩]
  | [], i => by simp [midFrom]
  | x :: ys, i => by
    rw [List.cons_append, midFrom, midFrom, midFrom_snoc up apid cn u m y ys (i + 1), List.cons_append, List.length_cons, show i + 1 + ys.length = i + (ys.length + 1) by omega]
theorem midFrom_range (up : Bool) (apid : Int) (cn : Nat) (u : List UInt8) (m : Nat) : ∀ N : Nat, midFrom up apid cn u m 0 (List.range N) = (List.range N).map (cutMid up apid cn u m)
  | 0 => rfl
  | N + 1 => by
    rw [List.range_succ, midFrom_snoc, midFrom_range up apid cn u m N, List.map_append, List.length_range, Nat.zero_add]
    rfl

theorem cut_fix {up : Bool} {apid : Int} {cn : Nat} {u : List UInt8} {m K : Nat} {l : List PkR} (hL : l.map PkR.p = (List.range (K + 1)).map (cutMid up apid cn u m)) :
    ∃ (x0 x1 : PkR) (p1 p2 : Int), l[0]? = some x0 ∧ x0.p.part = 0 ∧ (l.set 0 (x0.setPart 1))[K]? = some x1 ∧ x1.p.part = p1 ∧ bits .or .i64 p1 2 = p2 ∧ ((l.set 0 (x0.setPart 1)).set K (x1.setPart p2)).map PkR.p = (List.range (K + 1)).map (cutPk up apid cn u m (K + 1)) := by
  have hll : l.length = K + 1 := by have := congrArg List.length hL; simpa using this
  have key : ∀ (i : Nat) (h : i < l.length), l[i].p = cutMid up apid cn u m i := by
    intro i h
    have := congrArg (fun z => z[i]?) hL
    simp only [List.getElem?_map, List.getElem?_eq_getElem h, Option.map_some, List.getElem?_range (show i < K + 1 by omega)] at this
    injection this
  have h0 : 0 < l.length := by omega
  have hK : K < (l.set 0 (l[0].setPart 1)).length := by simp; omega
  refine ⟨l[0], (l.set 0 (l[0].setPart 1))[K], _, _, List.getElem?_eq_getElem h0, by rw [key 0 h0]; rfl, List.getElem?_eq_getElem hK, rfl, rfl, ?_⟩
  apply List.ext_getElem
  · simp [hll]
  intro i h1 h2
  have hi : i < l.length := by simpa using h1
  simp only [List.getElem_map, List.getElem_range, List.getElem_set]
  by_cases e : K = i
  · subst e
    rw [if_pos rfl]
    by_cases e0 : 0 = K
    · rw [if_pos e0]
      subst e0
      unfold PkR.setPart
      rw [key 0 h0]
      simp only [cutPk, cutMid, cutPart]
      rfl
    · rw [if_neg e0]
      unfold PkR.setPart
      rw [key K hi]
      simp only [cutPk, cutMid, cutPart]
      rw [if_neg (by omega), if_pos trivial]
      rfl
  · rw [if_neg e]
    by_cases e0 : 0 = i
    · rw [if_pos e0]
      subst e0
      unfold PkR.setPart
      rw [key 0 h0]
      simp only [cutPk, cutMid, cutPart]
      rw [if_pos trivial, if_neg (by omega)]
      rfl
    · rw [if_neg e0, key i hi]
      simp only [cutPk, cutMid, cutPart]
      rw [if_neg (by omega), if_neg (by omega)]
      rfl

set_option maxRecDepth 100000 in
set_option maxHeartbeats 8000000 in
theorem pcut_good (up : Bool) (apid : Int) (cn : Nat) (b off : Nat) (u : List UInt8) (len c m : Nat) (w : World) (h1 : ¬ apid < 0) (h2 : ¬ 2047 ≤ apid) (h4 : cn ≤ 16383) (hl : u.length = len) (ha : Rd w (some ⟨b, off, none⟩) (bvs u)) (hc : len ≤ c)
    (h5 : 1 ≤ len) (h6 : len ≤ 1048576) (h7 : 1 ≤ m) (h8 : m ≤ 65536) (hp : pieces len m ≤ 16384) (hbl : b < w.heap.size) :
    Calls Try.prog 11 #[.bool up, .int .i64 apid, .int .i64 (cn : Int), .slice (some ⟨b, off, none⟩) len c, .int .i64 (m : Int)] w fun e w' => PksRes w w' (cutL up apid cn u m (pieces len m), 0) e := by
  obtain ⟨i0, hi0, hz0, hz1, hz2⟩ := info_parts u8info
  obtain ⟨j0, hj0, hy0, hy1, hy2⟩ := info_parts pkinfo
  have HD := Lib.hid (fun k : Nat => cutD_len u m k)
  rw [hl] at HD
  have HR := Lib.hid (fun (k : Nat) => (show Rd w (some ⟨b, off + k * m, none⟩) (bvs (cutD u m k)) from by
    have := (ha.drop_lit (k * m)).take m
    simpa [cutD, bvs, List.map_take, List.map_drop] using this))
  clear hl ha
  have hm0 : ¬ (m : Int) = 0 := by omega
  have hpp := pieces_pred h5 h7
  have hq : ((len : Int) - 1).tdiv (m : Int) = ((pieces len m - 1 : Nat) : Int) := by
    rw [hpp, Int.tdiv_eq_ediv_of_nonneg (by omega), show (len : Int) - 1 = ((len - 1 : Nat) : Int) by omega]
    simp only [Nat.add_sub_cancel]
    exact (Int.natCast_ediv _ _).symm
  have hq2 : ((len : Int) - 1) / (m : Int) = ((pieces len m - 1 : Nat) : Int) := by
    rw [← hq, Int.tdiv_eq_ediv_of_nonneg (by omega)]
  have hN1 : 1 ≤ pieces len m := by rw [hpp]; exact Nat.le_add_left _ _
  clear hpp
  generalize hNq : pieces len m - 1 = N1 at *
  have hpi : ¬ (16383 : Int) < (N1 : Int) := by omega
  have g1 : ¬ (16383 : Int) < (cn : Int) := by omega
  have g2 : ¬ (cn : Int) < 0 := by omega
  have g3 : ¬ (len : Int) = 0 := by omega
  have g4 : ¬ (1048576 : Int) < (len : Int) := by omega
  have g5 : ¬ (m : Int) < 1 := by omega
  have g6 : ¬ (65536 : Int) < (m : Int) := by omega
  refine (callsIn_wide (n := 4)).1 ?_
  have hone : 1 ≤ 4 := by omega
  refine callsIn_of_wp_marks Try.func11 rfl trivial ?_ rfl
  simp only [Try.ntmps11, List.size_toArray, List.length_cons, List.length_nil, Nat.reduceAdd, Nat.reduceSub, Array.replicate_succ, Array.replicate_zero, List.push_toArray, List.append_toArray, List.nil_append, List.cons_append]
  gi_wp2_with fail
  refine ⟨trivial, (chunk_in Fence.wide 3 trivial rfl _ _ _ m (by omega) _).mono ?_⟩
  rintro e w' ⟨rfl, rfl⟩
  clear hm0 hq hq2 hpi g1 g2 g3 g4 g5 g6
  obtain ⟨W0, hW0⟩ : ∃ V : World, V = allocs w [.cells #[.bool up] 4, .cells #[.int .i64 apid] 3, .cells #[.int .i64 (cn : Int)] 3, .cells #[.slice none 0 0] 24, .cells #[.slice (some ⟨b, off, none⟩) len c] 22, .cells #[.int .i64 (m : Int)] 3] := ⟨_, rfl⟩
  have bU : Boxed W0 w.heap.size 4 (.bool up) := by rw [hW0]; exact allocs_at _ w 0 _ rfl
  have bA : Boxed W0 (w.heap.size + 1) 3 (.int .i64 apid) := by rw [hW0]; exact allocs_at _ w 1 _ rfl
  have bC : Boxed W0 (w.heap.size + 1 + 1) 3 (.int .i64 (cn : Int)) := by rw [hW0]; exact allocs_at _ w 2 _ rfl
  have bV : Boxed W0 (w.heap.size + 1 + 1 + 1) 24 (.slice none 0 0) := by rw [hW0]; exact allocs_at _ w 3 _ rfl
  have bS : Boxed W0 (w.heap.size + 1 + 1 + 1 + 1) 22 (.slice (some ⟨b, off, none⟩) len c) := by rw [hW0]; exact allocs_at _ w 4 _ rfl
  have bN : Boxed W0 (w.heap.size + 1 + 1 + 1 + 1 + 1) 3 (.int .i64 (m : Int)) := by rw [hW0]; exact allocs_at _ w 5 _ rfl
  have hb0 : Below w.heap.size w W0 := by rw [hW0]; exact allocs_below _ w _ (Nat.le_refl _)
  have hz0' : W0.heap.size = w.heap.size + 6 := by rw [hW0]; exact allocs_size _ w
  simp only [allocs, List.foldl_cons, List.foldl_nil] at hW0
  gi_wp2_with fail
  rw [← hW0]
  clear hW0
  refine wpIn_rangeFunc_ownF rfl hone (gf := 58) (lb := #[.pointer (some ⟨w.heap.size + 1 + 1 + 1 + 1, 0, none⟩), .pointer (some ⟨w.heap.size + 1 + 1 + 1 + 1 + 1, 0, none⟩)]) rfl trivial (enters_of Try.func58 (by kernel_rfl) rfl)
    (chunk_stops Fence.wide 3 trivial rfl (by omega) (w.heap.size + 1 + 1 + 1 + 1) (w.heap.size + 1 + 1 + 1 + 1 + 1) w.heap.size b off len c m (by omega) (by omega) (by omega) hc W0 (by omega) (by omega) bS.cell bN.cell) KeepC.trans (keepC_b (by omega)) (Below.refl _ _) (fun _ => rfl)
    (fun pre V => ((Boxed V w.heap.size 4 (.bool up) ∧ Boxed V (w.heap.size + 1) 3 (.int .i64 apid) ∧ Boxed V (w.heap.size + 1 + 1) 3 (.int .i64 (cn : Int))) ∧ ∃ (l : List PkR) (B : Option Addr) (d : Nat), Boxed V (w.heap.size + 1 + 1 + 1) 24 (.slice B pre.length d) ∧ l.map PkR.p = midFrom up apid cn u m 0 (pre.map Fin.val) ∧ Own V W0.heap.size 33 6 B pre.length d (pkcs l) ∧ OwnData V W0.heap.size l ∧ W0.heap.size ≤ V.heap.size) ∧ Below w.heap.size w V)
    (fun _ _ _ => False)
    (OwnFrom.and (Own.from (fun s A B row hs hg hr => ⟨⟨boxed_keepV hs.1.1 hg hr, boxed_keepV hs.1.2.1 hg hr, boxed_keepV hs.1.2.2 hg hr⟩, by
      obtain ⟨_, l, A1, c1, h1, h2, h3, h4, h5⟩ := hs
      exact ⟨l, A1, c1, boxed_keepV h1 hg hr, h2, h3.kept_in hg hr, h4.map (fun _ _ _ _ h => h.kept_in hg hr), Nat.le_trans h5 hg.size⟩⟩) _) (ownFrom_below (by omega) (by omega)))
    (fun _ _ _ _ _ hs _ _ => hs)
    ⟨⟨⟨bU, bA, bC⟩, [], none, 0, bV, rfl, Own.none_ _ _ _ _, OwnData.nil _ _, Nat.le_refl _⟩, hb0⟩
    (fun y => { tmps := #[.bool up, .int .i64 apid, .int .i64 (cn : Int), .slice (some ⟨b, off, none⟩) len c, .int .i64 (m : Int), .pointer (some ⟨w.heap.size, 0, none⟩), .pointer (some ⟨w.heap.size + 1, 0, none⟩), .pointer (some ⟨w.heap.size + 1 + 1, 0, none⟩), undef, undef, .slice none 0 0, .int .i64 0, .pointer (some ⟨w.heap.size + 1 + 1 + 1, 0, none⟩), pieceV b off len m y.val, .int .i64 apid, .bool false, .bool false, .int .i64 apid, .bool false, .bool false, .bool false, .int .i64 (cn : Int), .bool false, .bool false, .bool false, .int .i64 (cn : Int), .bool false, .bool false, .slice (some ⟨b, off, none⟩) len c, .int .i64 (len : Int), .bool false, .bool false, .slice (some ⟨b, off, none⟩) len c, .int .i64 (len : Int), .bool false, .bool false, .bool false, .int .i64 (m : Int), .bool false, .bool false, .bool false, .int .i64 (m : Int), .bool false, .bool false, .bool false, .slice (some ⟨b, off, none⟩) len c, .int .i64 (len : Int), .int .i64 ((len : Int) - 1), .int .i64 (m : Int), .int .i64 (N1 : Int), .bool false, .bool false, .slice (some ⟨b, off, none⟩) len c, .int .i64 (m : Int), .func (.func 58) #[] #[.pointer (some ⟨w.heap.size + 1 + 1 + 1 + 1, 0, none⟩), .pointer (some ⟨w.heap.size + 1 + 1 + 1 + 1 + 1, 0, none⟩)], pieceV b off len m y.val, undef, undef, undef, undef, undef, undef, undef, undef, undef, undef, undef, undef, undef, undef, undef, undef, undef, undef, undef, undef, undef, undef, undef, undef, undef, undef, undef, undef, undef, undef, undef], defers := [] }) ?assign ?body ?done ?stop
  case assign =>
    intro l0 y V K hK
    gi_wp2
    exact hK
  case stop =>
    rintro D cc pre V hD _ h hK
    exact h.elim
  case body =>
    rintro l0 pre ⟨y, hy⟩ V ⟨⟨⟨bU, bA, bC⟩, l, B, d, bV, hL, hB, hD, hsz⟩, hBl⟩ hlen
    have hyl : y * m < len := (pieces_iff (by omega)).1 hy
    have HS : Hid (midFrom up apid cn u m 0 ((pre ++ [(⟨y, hy⟩ : Fin (pieces len m))]).map Fin.val) = midFrom up apid cn u m 0 (pre.map Fin.val) ++ [⟨up, false, apid, 0, ((cn + pre.length) % 16384 : Nat), cutD u m y⟩]) := by
      show _ = _
      rw [List.map_append]
      have := midFrom_snoc up apid cn u m y (pre.map Fin.val) 0
      rw [Nat.zero_add, List.length_map] at this
      exact this
    have hDl := HD.out y
    have hRy := (HR.out y).below hBl
    have hk : pre.length < 16384 := by omega
    dsimp only
    unfold pieceV
    have hq1 : min m (len - y * m) ≤ 65536 := by omega
    have HL2 := Lib.hid hL
    clear hL hlen
    generalize midFrom up apid cn u m 0 (pre.map Fin.val) = M at *
    generalize cutD u m y = D at *
    generalize min m (len - y * m) = q at *
    generalize hkl : pre.length = k at *
    have HCl := Lib.hid (fun cap => clone_n (some ⟨b, off + y * m, none⟩) D q cap V.drew hDl hRy.drew (by omega))
    have hAnd : Hid (bits .and .i64 (IntKind.i64.wrap ((cn : Int) + (k : Int))) 16383 = (((cn + k) % 16384 : Nat) : Int)) := by
      show _ = _
      rw [IntWalk.i64_in _ (by omega)]
      have e := i64_and_nat (cn + k) 16383 (by omega) (by omega)
      rw [show (16383 : Nat) = 2 ^ 14 - 1 from rfl, Nat.and_two_pow_sub_one_eq_mod] at e
      rw [show ((cn : Int) + (k : Int)) = ((cn + k : Nat) : Int) by omega]
      exact e
    generalize off + y * m = o7 at *
    have cU := bU.cell
    have cA := bA.cell
    have cC := bC.cell
    have cV := bV.cell
    gi_wp2_with fail
    refine heldInRound (fun v => v.cell? ⟨w.heap.size + 1 + 1 + 1, 0, none⟩ = some (.slice B k d) ∧ v.cell? ⟨w.heap.size, 0, none⟩ = some (.bool up) ∧ v.cell? ⟨w.heap.size + 1, 0, none⟩ = some (.int .i64 apid) ∧ v.cell? ⟨w.heap.size + 1 + 1, 0, none⟩ = some (.int .i64 (cn : Int))) 12 (by kernel_rfl) (by kernel_rfl) (by kernel_rfl) (fun h => by obtain ⟨_, _, h⟩ := h; exact h) ⟨cV, cU, cA, cC⟩ (fun hS => ?_)
    refine walk_take 0 (v := ?v0) rfl (by kernel_rfl) (by kernel_rfl) (by kernel_rfl) (fun _ _ _ h => h) hS (Or.inl ⟨by rfl, ?y0⟩) ?r0
    case y0 => intro w hSw; (try dsimp only at hSw); go_simp; try rfl
    case' r0 => simp only [Act.put, List.setIfInBounds_toArray, List.set_cons_zero, List.set_cons_succ]
    refine walk_take 1 (v := ?v1) rfl (by kernel_rfl) (by kernel_rfl) (by kernel_rfl) (fun _ _ _ h => h) hS (Or.inl ⟨by rfl, ?y1⟩) ?r1
    case y1 => intro w hSw; (try dsimp only at hSw); go_simp; try rfl
    case' r1 => simp only [Act.put, List.setIfInBounds_toArray, List.set_cons_zero, List.set_cons_succ]
    refine walk_take 2 (v := ?v2) rfl (by kernel_rfl) (by kernel_rfl) (by kernel_rfl) (fun _ _ _ h => h) hS (Or.inl ⟨by rfl, ?y2⟩) ?r2
    case y2 => intro w hSw; (try dsimp only at hSw); go_simp; try rfl
    case' r2 => simp only [Act.put, List.setIfInBounds_toArray, List.set_cons_zero, List.set_cons_succ]
    refine walk_take 3 (v := ?v3) rfl (by kernel_rfl) (by kernel_rfl) (by kernel_rfl) (fun _ _ _ h => h) hS (Or.inl ⟨by rfl, ?y3⟩) ?r3
    case y3 => intro w hSw; (try dsimp only at hSw); go_simp; try rfl
    case' r3 => simp only [Act.put, List.setIfInBounds_toArray, List.set_cons_zero, List.set_cons_succ]
    refine walk_take 4 (v := ?v4) rfl (by kernel_rfl) (by kernel_rfl) (by kernel_rfl) (fun _ _ _ h => h) hS (Or.inl ⟨by rfl, ?y4⟩) ?r4
    case y4 => intro w hSw; (try dsimp only at hSw); go_simp; try rfl
    case' r4 => simp only [Act.put, List.setIfInBounds_toArray, List.set_cons_zero, List.set_cons_succ]
    refine walk_take 5 (v := ?v5) rfl (by kernel_rfl) (by kernel_rfl) (by kernel_rfl) (fun _ _ _ h => h) hS (Or.inl ⟨by rfl, ?y5⟩) ?r5
    case y5 => intro w hSw; (try dsimp only at hSw); go_simp; try rfl
    case' r5 => simp only [Act.put, List.setIfInBounds_toArray, List.set_cons_zero, List.set_cons_succ]
    refine walk_take 6 (v := ?v6) rfl (by kernel_rfl) (by kernel_rfl) (by kernel_rfl) (fun _ _ _ h => h) hS (Or.inl ⟨by rfl, ?y6⟩) ?r6
    case y6 => intro w hSw; (try dsimp only at hSw); go_simp; try rfl
    case' r6 => simp only [Act.put, List.setIfInBounds_toArray, List.set_cons_zero, List.set_cons_succ]
    refine walk_take 7 (v := ?v7) rfl (by kernel_rfl) (by kernel_rfl) (by kernel_rfl) (fun _ _ _ h => h) hS (Or.inl ⟨by rfl, ?y7⟩) ?r7
    case y7 => intro w hSw; (try dsimp only at hSw); go_simp; try rfl
    case' r7 => simp only [Act.put, List.setIfInBounds_toArray, List.set_cons_zero, List.set_cons_succ]
    refine walk_take 8 (v := ?v8) rfl (by kernel_rfl) (by kernel_rfl) (by kernel_rfl) (fun _ _ _ h => h) hS (Or.inl ⟨by rfl, ?y8⟩) ?r8
    case y8 => intro w hSw; (try dsimp only at hSw); go_simp; try rfl
    case' r8 => simp only [Act.put, List.setIfInBounds_toArray, List.set_cons_zero, List.set_cons_succ]
    refine walk_step 9 rfl (by kernel_rfl) (by kernel_rfl) (fun K hK => ?call)
    case call =>
      go_simp
      refine (HCl.out _).mono ?_
      rintro e w1 ⟨A1, c1, rfl, hO1, hb1⟩
      have hb1' : Below V.heap.size V w1 := ((Below.refl V.heap.size V).drew).trans hb1
      have z1 := hb1'.size
      have lV := bV.lt
      have bU1 := boxed_below bU hb1' bU.lt
      have bA1 := boxed_below bA hb1' bA.lt
      have bC1 := boxed_below bC hb1' bC.lt
      have bV1 := boxed_below bV hb1' lV
      have cU1 := bU1.cell
      have cA1 := bA1.cell
      have cC1 := bC1.cell
      have cV1 := bV1.cell
      refine hK _ _ ⟨cV1, cU1, cA1, cC1⟩ ?_
      clear hK K hS
      try simp only [Act.put, List.setIfInBounds_toArray, List.set_cons_zero, List.set_cons_succ]
      refine walk_take 10 (v := ?v10) rfl (by kernel_rfl) (by kernel_rfl) (by kernel_rfl) (fun _ _ _ h => h) ⟨cV1, cU1, cA1, cC1⟩ (Or.inl ⟨by rfl, ?y10⟩) ?r10
      case y10 => intro w hSw; (try dsimp only at hSw); go_simp; try rfl
      case' r10 => simp only [Act.put, List.setIfInBounds_toArray, List.set_cons_zero, List.set_cons_succ]
      refine walk_step 11 rfl (by kernel_rfl) (by kernel_rfl) (fun K hK => ?build)
      case build =>
        go_simp
        refine hK _ _ ⟨?c1, ?c2, ?c3, ?c4⟩ ?_
        case c1 => exact (bV1.alloc _).cell
        case c2 => exact (bU1.alloc _).cell
        case c3 => exact (bA1.alloc _).cell
        case c4 => exact (bC1.alloc _).cell
        clear hK K
        try simp only [Act.put, List.setIfInBounds_toArray, List.set_cons_zero, List.set_cons_succ]
        generalize bits .and .i64 (IntKind.i64.wrap ((cn : Int) + (k : Int))) 16383 = ci at *
        refine walk_tail (by kernel_rfl) ?_
        simp only [List.drop_succ_cons, List.drop_zero]
        have hB5 := (hB.step hb1').alloc (.cells #[.bool up, .bool false, .int .i64 apid, .int .i64 0, .int .i64 ci, .slice A1 q c1] 33)
        have hR5 := Rd_lit w1 [.bool up, .bool false, .int .i64 apid, .int .i64 0, .int .i64 ci, .slice A1 q c1] 33
        have hbs5 : W0.heap.size ≤ (w1.alloc (.cells #[.bool up, .bool false, .int .i64 apid, .int .i64 0, .int .i64 ci, .slice A1 q c1] 33)).heap.size := by simp; omega
        have hone6 : ∀ u ∈ [Value.bool up, .bool false, .int .i64 apid, .int .i64 0, .int .i64 ci, .slice A1 q c1], u.oneCell' = true := by
          intro u hu
          simp at hu
          rcases hu with rfl | rfl | rfl | rfl | rfl | rfl <;> rfl
        have HOne := Lib.hid hone6
        clear hone6
        have q4 : k + 1 ≤ maxLen := by unfold maxLen; omega
        have q5 : (k + 1) * 56 ≤ 140737488355328 := by omega
        have bV5 := bV1.alloc (.cells #[.bool up, .bool false, .int .i64 apid, .int .i64 0, .int .i64 ci, .slice A1 q c1] 33)
        have hneV : some (w.heap.size + 1 + 1 + 1) ≠ blk B := fun e => by have := hB.lt _ e.symm; omega
        have HneV := Lib.hid hneV
        clear hneV
        go_wp2_with (at_builtin; refine wpList_append_Own (w1.alloc (.cells #[.bool up, .bool false, .int .i64 apid, .int .i64 0, .int .i64 ci, .slice A1 q c1] 33)) rfl (.tmp 56) (.tmp 67) 24 rfl W0.heap.size 33 j0 _ 6 56 Try.underlying24 hj0 hy0 hy1 hy2 rfl B k d (pkcs l) rfl hB5 (some ⟨w1.heap.size, 0, none⟩) 1 1 [.bool up, .bool false, .int .i64 apid, .int .i64 0, .int .i64 ci, .slice A1 q c1] rfl rfl hR5 HOne.out q4 q5 hbs5 ?_; intro B6 d6 w6 hB6 hg6 hor6; have bV6 := bV5.kept hg6 HneV.out; have cV6 := bV6.cell; have fV6 := bV6.frozen)
        have hz0 : w.heap.size ≤ V.heap.size := hBl.size
        have hrow : ∀ (r : Nat) (ob : Obj), blk B = some r → (w1.alloc (.cells #[.bool up, .bool false, .int .i64 apid, .int .i64 0, .int .i64 ci, .slice A1 q c1] 33)).heap[r]? = some ob → ob.isCells = true := fun r ob hr ho => by
          rcases B with _ | a
          · simp [blk] at hr
          · obtain ⟨cur, _, _, hh, _⟩ := hB5.at_ _ rfl
            have e1 : a.block = r := by simpa [blk] using hr
            rw [e1, ho] at hh
            injection hh with hh
            subst hh
            rfl
        have z5 : (w1.alloc (.cells #[.bool up, .bool false, .int .i64 apid, .int .i64 0, .int .i64 ci, .slice A1 q c1] 33)).heap.size = w1.heap.size + 1 := by simp
        have hne2 : blk B6 ≠ some (w.heap.size + 1 + 1 + 1) := fun e => by
          rcases hor6 with h | h
          · exact HneV.out (by rw [← h]; exact e.symm)
          · rw [e] at h
            injection h with h
            omega
        have kc : KeepC w.heap.size (w.heap.size + 1 + 1 + 1 + 1) (w.heap.size + 1 + 1 + 1 + 1 + 1) V (w6.setCell ⟨w.heap.size + 1 + 1 + 1, 0, none⟩ (.slice B6 (k + 1) d6)) :=
          (((KeepC.of_below hb1' hz0 (by omega) (by omega)).trans (KeepC.alloc w1 (by omega) _)).trans (KeepC.grown hg6 (by omega) (fun r hr => by have := hB.lt r hr; omega))).trans (KeepC.set _ (by omega) (by omega) (by omega) _ _)
        have ko : KeepsOthers V (w6.setCell ⟨w.heap.size + 1 + 1 + 1, 0, none⟩ (.slice B6 (k + 1) d6)) :=
          (((keepsOthers_below hb1').trans (KeepsOthers.alloc w1 _)).trans (KeepsOthers.of_grownBy hg6 hrow)).trans (KeepsOthers.setCell _ _ _)
        have hbox : ∀ (t : TypeId) (v : Value) (r : Nat), Boxed w1 r t v → r < W0.heap.size → r ≠ w.heap.size + 1 + 1 + 1 → Boxed (w6.setCell ⟨w.heap.size + 1 + 1 + 1, 0, none⟩ (.slice B6 (k + 1) d6)) r t v := fun t v r hb h1 h2 =>
          ((hb.alloc (.cells #[.bool up, .bool false, .int .i64 apid, .int .i64 0, .int .i64 ci, .slice A1 q c1] 33)).kept hg6 (fun e => by have := hB.lt _ e.symm; omega)).kept (grownBy_setCell' w6 (w.heap.size + 1 + 1 + 1) (.slice B6 (k + 1) d6)) (by simpa using h2)
        have hx5 : Own (w1.alloc (.cells #[.bool up, .bool false, .int .i64 apid, .int .i64 0, .int .i64 ci, .slice A1 q c1] 33)) W0.heap.size 5 1 A1 D.length c1 (bvs D) := by rw [hDl]; exact (hO1.mono hsz).alloc _
        have hD5 := (hD.step hb1').map (fun _ _ _ _ h => h.alloc (.cells #[.bool up, .bool false, .int .i64 apid, .int .i64 0, .int .i64 ci, .slice A1 q c1] 33))
        obtain ⟨hD6, hB7⟩ := add_pks (x := ⟨⟨up, false, apid, 0, ci, D⟩, A1, c1⟩) hD5 hx5 hB5 hg6 (m := V.heap.size) (fun i y hy q hq => (hD.lt hy hq).2) (fun q hq => (hO1.lt q hq).1) (by
          show Own _ _ _ _ _ _ _ (pkcs l ++ [.bool up, .bool false, .int .i64 apid, .int .i64 0, .int .i64 ci, .slice A1 D.length c1])
          rw [hDl]
          exact hB6)
        have hB8 := hB7.setFar (p := ⟨w.heap.size + 1 + 1 + 1, 0, none⟩) hne2 (.slice B6 (k + 1) d6)
        have hD8 : OwnData (w6.setCell ⟨w.heap.size + 1 + 1 + 1, 0, none⟩ (.slice B6 (k + 1) d6)) W0.heap.size (l ++ [⟨⟨up, false, apid, 0, ci, D⟩, A1, c1⟩]) :=
          hD6.map (fun A n c xs h => h.setFar (p := ⟨w.heap.size + 1 + 1 + 1, 0, none⟩) (fun e => by have : W0.heap.size ≤ w.heap.size + 1 + 1 + 1 := (h.lt _ e).1; omega) _)
        refine ⟨ko, kc, ⟨⟨hbox _ _ _ bU1 (by omega) (by omega), hbox _ _ _ bA1 (by omega) (by omega), hbox _ _ _ bC1 (by omega) (by omega)⟩, _, B6, d6, ?_, ?_, ?_, hD8, Nat.le_trans hsz ko.size⟩, hBl.trans kc.1⟩
        · rw [List.length_append, hkl]
          exact bV6.set _
        · rw [HS.out, List.map_append, HL2.out, hAnd.out]
          rfl
        · rw [List.length_append, hkl]
          exact hB8
  case done =>
    rintro Dd ys V hDd hys ⟨⟨⟨bU, bA, bC⟩, l, B, d, bV, hL, hB, hD, hsz⟩, hBl⟩ hK
    have hyl : ys.length = pieces len m := by have := congrArg List.length hys; simpa using this
    rw [hyl] at bV hB
    rw [hys, midFrom_range] at hL
    have hll : l.length = pieces len m := by have := congrArg List.length hL; simpa using this
    clear hyl hys
    have HCL : Hid (cutL up apid cn u m (pieces len m) = (List.range (pieces len m)).map (cutPk up apid cn u m (pieces len m))) := Lib.hid rfl
    have hNp : pieces len m = N1 + 1 := by omega
    rw [hNp] at bV hB hL HCL hll
    have hNb : (N1 : Int) ≤ 16383 := by omega
    have HNp := Lib.hid hNp
    clear hNp hNq hp hN1
    obtain ⟨x0, x1, p1, p2, hx0, hx0p, hx1, hx1p, hp2, hfix⟩ := cut_fix hL
    have HF := Lib.hid hfix
    clear hfix hL
    obtain ⟨g, o, rfl, hg1, hg2⟩ := hB.form (by have := hB.le; omega)
    have cV := bV.cell
    have fr : ∀ i, V.frozen? ⟨g, i, none⟩ = false := fun i => hB.frozen i
    have c0 : V.cell? ⟨g, o + 3, none⟩ = some (.int .i64 0) := by
      have := hB.cell (pkcs_get hx0 (j := 3) (by omega))
      rw [← hx0p]
      simpa using this
    have hneg : ¬ (w.heap.size + 1 + 1 + 1 = g) := by omega
    have hB1 := hB.set (0 * 6 + 3) (by omega) (.int .i64 1)
    rw [pkcs_set hx0 1] at hB1
    rw [show o + (0 * 6 + 3) = o + 3 by omega] at hB1
    have hll1 : (l.set 0 (x0.setPart 1)).length = N1 + 1 := by simpa using hll
    have c1 : (V.setCell ⟨g, o + 3, none⟩ (.int .i64 1)).cell? ⟨g, o + N1 * 6 + 3, none⟩ = some (.int .i64 p1) := by
      have := hB1.cell (pkcs_get hx1 (j := 3) (by omega))
      rw [← hx1p, Nat.add_assoc]
      exact this
    have bV1 : Boxed (V.setCell ⟨g, o + 3, none⟩ (.int .i64 1)) (w.heap.size + 1 + 1 + 1) 24 (.slice (some ⟨g, o, none⟩) (N1 + 1) d) := (Below.heap_setCell V ⟨g, o + 3, none⟩ _ _ hneg).trans bV
    have cV1 := bV1.cell
    have fr1 : ∀ i, (V.setCell ⟨g, o + 3, none⟩ (.int .i64 1)).frozen? ⟨g, i, none⟩ = false := fun i => hB1.frozen i
    have hB2 := hB1.set (N1 * 6 + 3) (by omega) (.int .i64 p2)
    rw [pkcs_set hx1 p2] at hB2
    rw [← Nat.add_assoc] at hB2
    have bV2 : Boxed ((V.setCell ⟨g, o + 3, none⟩ (.int .i64 1)).setCell ⟨g, o + N1 * 6 + 3, none⟩ (.int .i64 p2)) (w.heap.size + 1 + 1 + 1) 24 (.slice (some ⟨g, o, none⟩) (N1 + 1) d) := (Below.heap_setCell _ ⟨g, o + N1 * 6 + 3, none⟩ _ _ hneg).trans bV1
    have cV2 := bV2.cell
    have hD1 : OwnData ((V.setCell ⟨g, o + 3, none⟩ (.int .i64 1)).setCell ⟨g, o + N1 * 6 + 3, none⟩ (.int .i64 p2)) W0.heap.size ((l.set 0 (x0.setPart 1)).set N1 (x1.setPart p2)) := by
      refine (OwnData.set (OwnData.set ⟨fun i x hx => ?_, hD.2⟩ hx0 1) hx1 p2)
      have hx' := hD.1 i x hx
      have hne := hx'.apart hB (by decide)
      exact (hx'.setFar (p := ⟨g, o + 3, none⟩) (fun e => hne _ e rfl) _).setFar (p := ⟨g, o + N1 * 6 + 3, none⟩) (fun e => hne _ e rfl) _
    have hK2 := ((KeepsOthers.setCell V ⟨g, o + 3, none⟩ (.int .i64 1)).trans (KeepsOthers.setCell _ ⟨g, o + N1 * 6 + 3, none⟩ (.int .i64 p2))).same Dd _ hK rfl
    have hBl2 := (hBl.setCell (p := ⟨g, o + 3, none⟩) (by simp; omega) (.int .i64 1)).setCell (p := ⟨g, o + N1 * 6 + 3, none⟩) (by simp; omega) (.int .i64 p2)
    clear hB hB1 hD bV bV1 hx0 hx0p hx1 hx1p bU bA bC hll1 hll
    have hor0 : bits .or .i64 0 1 = 1 := by decide
    have hN0 : (0 : Int) ≤ (N1 : Int) := by omega
    gi_wp2_with fail
    generalize (V.setCell ⟨g, o + 3, none⟩ (.int .i64 1)).setCell ⟨g, o + N1 * 6 + 3, none⟩ (.int .i64 p2) = V2 at *
    refine ⟨by simp, .inl ⟨_, _, rfl, run_takeDeferred hK2, ?_⟩⟩
    refine ⟨.tuple #[.slice (some ⟨g, o, none⟩) (N1 + 1) d, .int .i64 0], by simp [results, Try.results11, go_sem], ?_⟩
    rw [HNp.out, HCL.out]
    have hgr := grownBy_putObj' V2 Dd (.deferred none)
    have hrr : ∀ r, some Dd = some r → ∃ ob : Obj, V2.heap[r]? = some ob ∧ ob.isCells = false := fun r e => by cases e; exact ⟨_, hK2, rfl⟩
    have hbb : Below w.heap.size w (V2.putObj Dd (.deferred none)) := hBl2.trans (belowK_b (w := w) (Nat.le_refl _) V2 Dd _ _ (by omega) hK2 rfl rfl)
    have hlen2 : ((List.range (N1 + 1)).map (cutPk up apid cn u m (N1 + 1))).length = N1 + 1 := by simp
    refine ⟨some ⟨g, o, none⟩, d, by rw [hlen2], ⟨(l.set 0 (x0.setPart 1)).set N1 (x1.setPart p2), HF.out, ?_, ?_⟩, hbb⟩
    · rw [hlen2]
      exact (hB2.kept_in hgr hrr).mono (by omega)
    · exact hD1.map (fun _ _ _ _ h => (h.kept_in hgr hrr).mono (by omega))
end Go.Proofs.Ytkbaganbfcbioaa
