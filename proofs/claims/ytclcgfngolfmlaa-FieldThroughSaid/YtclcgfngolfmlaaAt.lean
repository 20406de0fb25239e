/-
  A polynomial's value: the document's At and the program's.
-/
import Derived.Test.YtclcgfngolfmlaaBack
import Derived.Test.YtclcgfngolfmlaaMulO
import Derived.Test.YtclcgfngolfmlaaTrim
import Derived.Test.YtclcgfngolfmlaaRes
import Derived.Test.YtclcgfngolfmlaaStep
import Derived.Test.YtclcgfngolfmlaaMade
namespace Go.Proofs.Ytclcgfngolfmlaa
set_option linter.unusedSimpArgs false
set_option linter.unusedVariables false
open Go.RowKit Go.Shelf
attribute [local go_sem] Oper.semAt_some

/-- The value, the highest term first: the k lower terms are still to come. -/
def atDown (l : List UInt8) (x : UInt8) : Nat → UInt8 → UInt8
  | 0, v => v
  | k + 1, v => atDown l x k (mulB v x ^^^ l.getD k 0)
def atF (l : List UInt8) (x : UInt8) : UInt8 := atDown l x l.length 0
def atPre (x : UInt8) (pre : List (Nat × UInt8)) : UInt8 := pre.foldl (fun v p => mulB v x ^^^ p.2) 0
theorem atPre_snoc (x : UInt8) (pre : List (Nat × UInt8)) (p : Nat × UInt8) : atPre x (pre ++ [p]) = mulB (atPre x pre) x ^^^ p.2 := by simp [atPre]
theorem atPre_back (l : List UInt8) (x : UInt8) : ∀ k, k ≤ l.length → atDown l x (l.length - k) (atPre x (backTo l k)) = atF l x
  | 0, _ => rfl
  | k + 1, h => by
    rw [backTo_succ, atPre_snoc, ← atPre_back l x k (by omega), show l.length - k = (l.length - 1 - k) + 1 from by omega]
    rw [show l.length - (k + 1) = l.length - 1 - k from by omega]
    rfl
theorem atPre_all (l : List UInt8) (x : UInt8) : atPre x (backTo l l.length) = atF l x := by
  have := atPre_back l x l.length (Nat.le_refl _)
  rwa [Nat.sub_self] at this

set_option maxHeartbeats 3200000 in
set_option maxRecDepth 100000 in
theorem rat_any (A : Option Addr) (l : List UInt8) (n c : Nat) (x : UInt8) (w : World) (hl : l.length = n) (ha : Rd w A (bvs l)) (hn : n ≤ 140737488351300) :
    Calls Try.prog 87 #[.slice A n c, .int .u8 (x.toNat : Int)] w fun e w' => e = .returned (.int .u8 ((atF l x).toNat : Int)) ∧ ∃ m, w' = w.drewN m := by
  have HL := Lib.hid hl
  have HF : Hid (atDown l x n 0 = atF l x) := by show _ = _; unfold atF; rw [hl]
  generalize atF l x = R at *
  clear hl
  go_enter Try.func87, Try.ntmps87
  go_wp2_with fail
  go_loopw [5, 6] (fun v i wr => ∃ (k : Nat) (u : UInt8) (m : Nat), k ≤ n ∧ i = .int .i64 ((k : Int) - 1) ∧ v = .int .u8 (u.toNat : Int) ∧ Hid (atDown l x k u = R) ∧ wr = w.drewN m) (fun _ i _ => (intOf i + 1).toNat)
  case atStart => exact ⟨n, 0, 0, Nat.le_refl _, rfl, rfl, HF, rfl⟩
  case round =>
    obtain ⟨k, u, m, hk, rfl, rfl, HK, rfl⟩ := hrel
    by_cases h0 : k = 0
    · subst h0
      have e : Hid (u = R) := HK.out
      go_wp2
      go_ret
      exact ⟨by first | rfl | (rw [e.out]; rfl), _, rfl⟩
    · obtain ⟨k, rfl⟩ : ∃ j, k = j + 1 := ⟨k - 1, by omega⟩
      rw [show ((k + 1 : Nat) : Int) - 1 = (k : Int) from by omega]
      obtain ⟨b, o, rfl, hc⟩ := ha.byteD (k := k) (by rw [HL.out]; omega)
      have HK2 : Hid (atDown l x k (mulB u x ^^^ l.getD k 0) = R) := HK.out
      generalize l.getD k 0 = z at *
      have ex := xor_u8 (mulB u x) z
      have gz := byte_lt z
      have gu := byte_lt (mulB u x)
      have i1 : (0 : Int) ≤ (k : Int) := by omega
      have i2 : (k : Int) < (n : Int) := by omega
      clear HK HF
      go_wp2_with fail
      go_region_law (first | (go_simp; go_at_call 88; refine (rmulB_o _ _ u x _ rfl rfl).mono ?_; rintro e w' ⟨rfl, rfl⟩))
      all_goals clear ex
      all_goals go_wp2
      all_goals go_roundw
      all_goals first
        | (simp [intOf] <;> omega)
        | exact ⟨k, mulB u x ^^^ z, m + 1, by omega, rfl, by rw [UInt8.toNat_xor], HK2, rfl⟩

theorem boxed_kept {A B : World} {row : Option Nat} {b : Nat} {t : TypeId} {v : Value} (h : Boxed A b t v) (hg : A.grownBy B row) (hr : ∀ r, row = some r → ∃ o : Obj, A.heap[r]? = some o ∧ o.isCells = false) : Boxed B b t v :=
  h.kept hg (fun e => by
    obtain ⟨o, ho, hc⟩ := hr b e.symm
    unfold Boxed at h
    rw [h] at ho
    injection ho with ho
    subst ho
    cases hc)
set_option maxRecDepth 100000 in
set_option maxHeartbeats 4000000 in
theorem pat_any (A : Option Addr) (l : List UInt8) (n c : Nat) (x : UInt8) (w : World) (hl : l.length = n) (ha : Rd w A (bvs l)) (hn : n ≤ 140737488351300) (hA : ∀ a, A = some a → a.block < w.heap.size) :
    Calls Try.prog 94 #[.slice A n c, .int .u8 (x.toNat : Int)] w fun e w' => e = .returned (.int .u8 ((atF l x).toNat : Int)) ∧ Below w.heap.size w w' := by
  refine (callsIn_wide (n := 3)).1 ?_
  have h1 : 1 ≤ 3 := by omega
  refine callsIn_of_wp_marks Try.func94 rfl trivial ?_ rfl
  simp only [Try.ntmps94, List.size_toArray, List.length_cons, List.length_nil, Nat.reduceAdd, Nat.reduceSub, Array.replicate_succ, Array.replicate_zero, List.push_toArray, List.append_toArray, List.nil_append, List.cons_append]
  gi_wp2_with fail
  refine ⟨trivial, (back_in Fence.wide 2 trivial rfl _ _ _ _).mono ?_⟩
  rintro e w' ⟨rfl, rfl⟩
  obtain ⟨W0, hW0⟩ : ∃ W : World, W = ((w.alloc (.cells #[.int .u8 (x.toNat : Int)] 5)).alloc (.cells #[.int .u8 0] 5)).alloc (.cells #[.slice A n c] 22) := ⟨_, rfl⟩
  have hb0 : Below w.heap.size w W0 := by rw [hW0]; exact (((Below.refl _ w).alloc (Nat.le_refl _) _).alloc (by simp) _).alloc (by simp; omega) _
  have bX : Boxed W0 w.heap.size 5 (.int .u8 (x.toNat : Int)) := by rw [hW0]; exact ((Boxed.new w _ _).alloc _).alloc _
  have bV : Boxed W0 (w.heap.size + 1) 5 (.int .u8 ((atPre x []).toNat : Int)) := by
    rw [hW0]
    have := (Boxed.new (w.alloc (.cells #[.int .u8 (x.toNat : Int)] 5)) 5 (.int .u8 0)).alloc (.cells #[.slice A n c] 22)
    rw [World.size_alloc] at this
    exact this
  have bS : Boxed W0 (w.heap.size + 1 + 1) 22 (.slice A n c) := by
    rw [hW0]
    have := Boxed.new ((w.alloc (.cells #[.int .u8 (x.toNat : Int)] 5)).alloc (.cells #[.int .u8 0] 5)) 22 (.slice A n c)
    rw [World.size_alloc, World.size_alloc] at this
    exact this
  have hz0 : W0.heap.size = w.heap.size + 3 := by rw [hW0]; simp
  gi_wp2_with fail
  rw [← hW0]
  clear hW0
  refine wpIn_rangeFunc_ownF rfl h1 (gf := 196) (lb := #[.pointer (some ⟨w.heap.size + 1 + 1, 0, none⟩)]) rfl trivial (enters_of Try.func196 (by kernel_rfl) rfl)
    (back_stops Fence.wide 2 trivial rfl (by omega) (w.heap.size + 1 + 1) w.heap.size A n c l hl hn W0 (by omega) (by omega) bS.cell hA (ha.below hb0)) KeepB.trans (keepB_b (by omega)) (Below.refl _ _) (fun _ => rfl)
    (fun pre W => (Boxed W w.heap.size 5 (.int .u8 (x.toNat : Int)) ∧ Boxed W (w.heap.size + 1) 5 (.int .u8 ((atPre x pre).toNat : Int))) ∧ Below w.heap.size w W)
    (fun _ _ _ => False)
    (OwnFrom.and (Own.from (fun s A B row hs hg hr => ⟨boxed_kept hs.1 hg hr, boxed_kept hs.2 hg hr⟩) _) (ownFrom_below (by omega) (by omega)))
    (fun _ _ _ _ _ hs _ _ => hs)
    ⟨⟨bX, bV⟩, hb0⟩
    (fun y => { tmps := #[.slice A n c, .int .u8 (x.toNat : Int), undef, .pointer (some ⟨w.heap.size, 0, none⟩), .int .u8 0, .pointer (some ⟨w.heap.size + 1, 0, none⟩), undef, .int .u8 (y.2.toNat : Int), .slice A n c, .func (.func 196) #[] #[.pointer (some ⟨w.heap.size + 1 + 1, 0, none⟩)], .int .i64 (y.1 : Int), .int .u8 (y.2.toNat : Int), undef, undef, undef, undef, undef, undef], defers := [] }) ?assign ?body ?done ?stop
  case assign =>
    intro l y W K hK
    gi_wp2
    exact hK
  case body =>
    rintro l0 pre y W ⟨⟨bX, bV⟩, hB⟩ _
    have cX := bX.cell
    have cV := bV.cell
    have fV := bV.frozen
    obtain ⟨yi, z⟩ := y
    have HS := Lib.hid (atPre_snoc x pre (yi, z))
    generalize atPre x pre = u at *
    dsimp only
    gi_wp2_with (refine ⟨trivial, ?_⟩; gi_at_call 92; refine (CallsIn.inRound l0 (callsIn_wide.2 (mulB_i _ _ u x _ rfl rfl))).mono ?_; rintro e w' ⟨rfl, rfl⟩)
    rw [xor_u8]
    refine ⟨KeepsOthers.setCell _ _ _, KeepB.set _ (by omega) (by omega) _ _, ⟨bX.kept (grownBy_setCell' W _ _) (by simp), ?_⟩, hB.setCell (p := ⟨w.heap.size + 1, 0, none⟩) (by simp) _⟩
    rw [HS.out]
    exact bV.set _
  case done =>
    rintro D ys W hD rfl ⟨⟨_, bV⟩, hB⟩ hK
    have HA : Hid (atPre x (backTo l n) = atF l x) := by show _ = _; rw [← hl]; exact atPre_all l x
    rw [HA.out] at bV
    have cV := bV.cell
    gi_wp2
    refine ⟨by simp, .inl ⟨_, _, rfl, run_takeDeferred hK, ?_⟩⟩
    exact ⟨_, results_tmp rfl _ _ _, rfl, hB.trans (belowK_b (w := w) (Nat.le_refl _) W D _ _ (by omega) hK rfl rfl)⟩
  case stop =>
    rintro D c pre W _ _ h _
    exact h.elim
end Go.Proofs.Ytclcgfngolfmlaa
