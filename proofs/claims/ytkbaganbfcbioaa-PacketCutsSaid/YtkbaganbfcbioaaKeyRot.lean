/-
  The program's stir.
-/
import Derived.Test.YtkbaganbfcbioaaKeyStir
namespace Go.Proofs.Ytkbaganbfcbioaa
set_option linter.unusedSimpArgs false
set_option linter.unusedVariables false
open Go.RowKit

theorem u64_and31 {k : Nat} (h : k ≤ 31) : bits .and .u64 (k : Int) 31 = (k : Int) := by
  have e := u64_and_nat k 31 (by omega) (by decide)
  rw [show ((31 : Nat) : Int) = 31 from rfl] at e
  rw [e, show (31 : Nat) = 2 ^ 5 - 1 from rfl, Nat.and_two_pow_sub_one_eq_mod, Nat.mod_eq_of_lt (by omega)]
theorem rot_eq {X k : Nat} (hx : X < 4294967296) : bits .or .u32 ((X : Int) * 2 ^ k % 4294967296) ((X : Int) / 2 ^ (32 - k)) = ((rot32 X k : Nat) : Int) := by
  have h2 : X / 2 ^ (32 - k) ≤ X := Nat.div_le_self _ _
  have e : ((X : Int) / 2 ^ (32 - k)) = ((X / 2 ^ (32 - k) : Nat) : Int) := by rw [int_pow2]; rfl
  have e2 : ((X : Int) * 2 ^ k % 4294967296) = ((X * 2 ^ k % 4294967296 : Nat) : Int) := by rw [int_pow2]; rfl
  rw [e, e2, u32_or_nat _ _ (Nat.mod_lt _ (by decide)) (by omega)]
  rfl
set_option maxHeartbeats 1600000 in
set_option maxRecDepth 100000 in
theorem rot_any (x kk : Int) (X k : Nat) (w : World) (hX : x = (X : Int)) (hkk : kk = (k : Int)) (hx : X < 4294967296) (hk : 1 ≤ k) (hk2 : k ≤ 31) :
    Calls Try.prog 76 #[.int .u32 x, .int .i64 kk] w fun e w' => e = .returned (.int .u32 (rot32 X k : Nat)) ∧ w' = w := by
  subst hX
  subst hkk
  have t1 : ((k : Int)).toNat = k := by omega
  have t2 : ((32 : Int) - (k : Int)).toNat = 32 - k := by omega
  have t3 : (0 : Int) ≤ (32 : Int) - (k : Int) := by omega
  have t4 : (32 : Int) - (k : Int) < 32 := by omega
  have t5 : (k : Int) < 32 := by omega
  have a1 := u64_and31 hk2
  have HE := Lib.hid (rot_eq (k := k) hx)
  go_enter Try.func76, Try.ntmps76
  go_wp2
  go_ret
  exact ⟨ret_int HE.out, rfl⟩

theorem add_prog {x y : Nat} : ((x : Int) + (y : Int)) % 4294967296 = ((add32 x y : Nat) : Int) := by
  unfold add32
  omega
theorem xor_prog {x y : Nat} (hx : x < 4294967296) (hy : y < 4294967296) : bits .xor .u32 (x : Int) (y : Int) = ((x ^^^ y : Nat) : Int) := u32_xor_nat x y hx hy
/-- A square's block. -/
def UB (w : World) (g : Nat) (q : List Nat) : Prop := Blk w g 99 (uvs q).toArray
theorem UB.nat {w : World} {g : Nat} {q : List Nat} (h : UB w g q) (hq : Sq q) {i : Nat} (hi : i < 16) : w.cell? ⟨g, i, none⟩ = some (.int .u32 (q.getD i 0 : Nat)) := by
  refine Blk.cell' h ?_
  rw [List.getElem?_toArray]
  exact uvs_get (by rw [hq.len]; exact hi)
theorem UB.set {w : World} {g : Nat} {q : List Nat} (h : UB w g q) (i v : Nat) : UB (w.setCell ⟨g, i, none⟩ (.int .u32 (v : Int))) g (q.set i v) := by
  have := Blk.set_ h i (.int .u32 (v : Int))
  unfold UB
  rwa [show ((uvs q).toArray.setIfInBounds i (.int .u32 (v : Int))) = (uvs (q.set i v)).toArray from by simp [uvs, List.map_set]] at this
theorem UB.drewN {w : World} {g : Nat} {q : List Nat} (h : UB w g q) (n : Nat) : UB (w.drewN n) g q := h
theorem UB.drew {w : World} {g : Nat} {q : List Nat} (h : UB w g q) : UB w.drew g q := h
def halfTo (q : List Nat) (a b c d : Nat) : Nat → List Nat
  | 0 => q
  | 1 => stirH q a b c d 13 9
  | _ => stirL q a b c d
def byA : Nat → Nat
  | 0 => 13
  | _ => 17
def byB : Nat → Nat
  | 0 => 9
  | _ => 5
theorem halfTo_succ (q : List Nat) (a b c d : Nat) {k : Nat} (h : k < 2) : halfTo q a b c d (k + 1) = stR (stA (stR (stA (halfTo q a b c d k) a b) d a (byA k)) c d) b c (byB k) := by
  have : k = 0 ∨ k = 1 := by omega
  rcases this with rfl | rfl <;> rfl
theorem Sq.half {q : List Nat} (h : Sq q) (a b c d : Nat) : ∀ k, Sq (halfTo q a b c d k)
  | 0 => h
  | 1 => h.stirH _ _ _ _ _ _
  | _ + 2 => h.stirL _ _ _ _

set_option maxHeartbeats 3200000 in
set_option maxRecDepth 100000 in
theorem pstir_any (g : Nat) (q : List Nat) (x1 x2 x3 x4 : Int) (a b c d : Nat) (w : World) (h1 : x1 = (a : Int)) (h2 : x2 = (b : Int)) (h3 : x3 = (c : Int)) (h4 : x4 = (d : Int)) (ha : a < 16) (hb : b < 16) (hc : c < 16) (hd : d < 16)
    (hq : Sq q) (hO : UB w g q) :
    Calls Try.prog 72 #[.pointer (some ⟨g, 0, none⟩), .int .i64 x1, .int .i64 x2, .int .i64 x3, .int .i64 x4] w fun e w' => e = .returned (.tuple #[]) ∧ UB w' g (stirL q a b c d) ∧ w.grownBy w' (some g) := by
  subst h1
  subst h2
  subst h3
  subst h4
  have za : (0 : Int) ≤ (a : Int) := by omega
  have ya : (a : Int) < 16 := by omega
  have zb : (0 : Int) ≤ (b : Int) := by omega
  have yb : (b : Int) < 16 := by omega
  have zc : (0 : Int) ≤ (c : Int) := by omega
  have yc : (c : Int) < 16 := by omega
  have zd : (0 : Int) ≤ (d : Int) := by omega
  have yd : (d : Int) < 16 := by omega
  have J0 : ∀ w, (Instr.index 106 (.agg #[.int .i64 13, .int .i64 9, .int .i64 17, .int .i64 5]) (.int .i64 0)).run Try.prog w = .ok (.agg #[.int .i64 13, .int .i64 9]) w := fun _ => by kernel_rfl
  have J1 : ∀ w, (Instr.index 106 (.agg #[.int .i64 13, .int .i64 9, .int .i64 17, .int .i64 5]) (.int .i64 1)).run Try.prog w = .ok (.agg #[.int .i64 17, .int .i64 5]) w := fun _ => by kernel_rfl
  go_enter Try.func72, Try.ntmps72
  go_wp2_with fail
  go_loopw [15] (fun i wr => ∃ k : Nat, k ≤ 2 ∧ i = .int .i64 k ∧ UB wr g (halfTo q a b c d k) ∧ w.grownBy wr (some g)) (fun i _ => 2 - (intOf i).toNat)
  case atStart => exact ⟨0, by omega, by simp, hO, World.grownBy.refl _ _⟩
  case round =>
    obtain ⟨k, hk, rfl, hU, hG⟩ := hrel
    clear hO
    by_cases h2 : k = 2
    · subst h2
      go_wp2
      go_end0
      exact ⟨rfl, hU, hG⟩
    · have HS := Lib.hid (halfTo_succ q a b c d (k := k) (by omega))
      have hQ := hq.half a b c d k
      have hkk : k = 0 ∨ k = 1 := by omega
      clear h2 hk
      rcases hkk with rfl | rfl

      · go_upto_region 3 with fail
        obtain ⟨B, hBe⟩ : ∃ B, B = wr.heap.size := ⟨_, rfl⟩
        obtain ⟨W0, hW⟩ : ∃ W : World, W = wr.alloc (.cells #[.int .i64 13, .int .i64 9] 105) := ⟨_, rfl⟩
        rw [← hW, ← hBe]
        have hK0 : Blk W0 B 105 #[.int .i64 13, .int .i64 9] := by rw [hW, hBe]; exact Blk.new _ _ _
        have O0 : UB W0 g (halfTo q a b c d 0) := by rw [hW]; exact Blk.alloc hU _
        have G0 : w.grownBy W0 (some g) := by rw [hW]; exact grown_alloc hG _
        have hgB : B ≠ g := by have := Blk.lt hU; omega
        have hgB' : ¬ (g = B) := fun e => hgB e.symm
        clear hW hBe hU hG
        have e1 := O0.nat hQ ha
        have e2 := O0.nat hQ hb
        have f := Blk.frozen O0 a
        have l1 := hQ.lt a
        have l2 := hQ.lt b
        have N : Hid (stA (halfTo q a b c d 0) a b = (halfTo q a b c d 0).set a (add32 ((halfTo q a b c d 0).getD a 0) ((halfTo q a b c d 0).getD b 0))) := Lib.hid rfl
        have X := Lib.hid (add_prog (x := (halfTo q a b c d 0).getD a 0) (y := (halfTo q a b c d 0).getD b 0))
        generalize (halfTo q a b c d 0).getD a 0 = u1 at *
        generalize (halfTo q a b c d 0).getD b 0 = u2 at *
        go_upto_region 3 with fail
        go_cut [18] (fun _ wx => ∃ W : World, W = wx ∧ UB W g (stA (halfTo q a b c d 0) a b) ∧ Blk W B 105 #[.int .i64 13, .int .i64 9] ∧ w.grownBy W (some g))
        case first =>
          go_region
          all_goals
            go_wp2_with fail
            go_meet
            rw [N.out, X.out]
            exact ⟨_, rfl, (O0.set a _).drew, (hK0.far (p := ⟨g, a, none⟩) hgB _).drew, grown_drew (grown_setCell (p := ⟨g, a, none⟩) G0 (.inl rfl) _)⟩
        clear e1 e2 f l1 l2 N X O0 G0 hK0
        obtain ⟨W1, rfl, O1, hK1, G1⟩ := hcut
        have Q1 := hQ.stA a b
        have e1 := O1.nat Q1 hd
        have e2 := O1.nat Q1 ha
        have f := Blk.frozen O1 d
        have l1 := Q1.lt d
        have l2 := Q1.lt a
        have N : Hid (stR (stA (halfTo q a b c d 0) a b) d a 13 = (stA (halfTo q a b c d 0) a b).set d (rot32 ((stA (halfTo q a b c d 0) a b).getD d 0 ^^^ (stA (halfTo q a b c d 0) a b).getD a 0) 13)) := Lib.hid rfl
        have X := Lib.hid (xor_prog l1 l2)
        have l3 := xor32_lt l1 l2
        generalize (stA (halfTo q a b c d 0) a b).getD d 0 = u1 at *
        generalize (stA (halfTo q a b c d 0) a b).getD a 0 = u2 at *
        obtain ⟨p0, p1, pf⟩ := hK1.two
        go_upto_region 4 with fail
        go_cut [31] (fun _ wx => ∃ W : World, W = wx ∧ UB W g (stR (stA (halfTo q a b c d 0) a b) d a 13) ∧ Blk W B 105 #[.int .i64 13, .int .i64 9] ∧ w.grownBy W (some g))
        case first =>
          go_region_law ((go_simp; go_at_call 76; refine (rot_any _ _ (u1 ^^^ u2) 13 _ X.out rfl l3 (by decide) (by decide)).mono ?_; rintro e w' ⟨rfl, rfl⟩))
          all_goals
            go_wp2_with fail
            go_meet
            rw [N.out]
            exact ⟨_, rfl, (O1.drewN _).set d _, (hK1.drewN _).far (p := ⟨g, d, none⟩) hgB _, grown_setCell (p := ⟨g, d, none⟩) (grown_drewN G1 _) (.inl rfl) _⟩
        clear p0 p1 pf l3
        clear e1 e2 f l1 l2 N X O1 G1 hK1
        obtain ⟨W2, rfl, O2, hK2, G2⟩ := hcut
        have Q2 := Q1.stR d a 13
        have e1 := O2.nat Q2 hc
        have e2 := O2.nat Q2 hd
        have f := Blk.frozen O2 c
        have l1 := Q2.lt c
        have l2 := Q2.lt d
        have N : Hid (stA (stR (stA (halfTo q a b c d 0) a b) d a 13) c d = (stR (stA (halfTo q a b c d 0) a b) d a 13).set c (add32 ((stR (stA (halfTo q a b c d 0) a b) d a 13).getD c 0) ((stR (stA (halfTo q a b c d 0) a b) d a 13).getD d 0))) := Lib.hid rfl
        have X := Lib.hid (add_prog (x := (stR (stA (halfTo q a b c d 0) a b) d a 13).getD c 0) (y := (stR (stA (halfTo q a b c d 0) a b) d a 13).getD d 0))
        generalize (stR (stA (halfTo q a b c d 0) a b) d a 13).getD c 0 = u1 at *
        generalize (stR (stA (halfTo q a b c d 0) a b) d a 13).getD d 0 = u2 at *
        go_upto_region 5 with fail
        go_cut [49] (fun _ wx => ∃ W : World, W = wx ∧ UB W g (stA (stR (stA (halfTo q a b c d 0) a b) d a 13) c d) ∧ Blk W B 105 #[.int .i64 13, .int .i64 9] ∧ w.grownBy W (some g))
        case first =>
          go_region
          all_goals
            go_wp2_with fail
            go_meet
            rw [N.out, X.out]
            exact ⟨_, rfl, (O2.set c _).drew, (hK2.far (p := ⟨g, c, none⟩) hgB _).drew, grown_drew (grown_setCell (p := ⟨g, c, none⟩) G2 (.inl rfl) _)⟩
        clear e1 e2 f l1 l2 N X O2 G2 hK2
        obtain ⟨W3, rfl, O3, hK3, G3⟩ := hcut
        have Q3 := Q2.stA c d
        have e1 := O3.nat Q3 hb
        have e2 := O3.nat Q3 hc
        have f := Blk.frozen O3 b
        have l1 := Q3.lt b
        have l2 := Q3.lt c
        have N : Hid (stR (stA (stR (stA (halfTo q a b c d 0) a b) d a 13) c d) b c 9 = (stA (stR (stA (halfTo q a b c d 0) a b) d a 13) c d).set b (rot32 ((stA (stR (stA (halfTo q a b c d 0) a b) d a 13) c d).getD b 0 ^^^ (stA (stR (stA (halfTo q a b c d 0) a b) d a 13) c d).getD c 0) 9)) := Lib.hid rfl
        have X := Lib.hid (xor_prog l1 l2)
        have l3 := xor32_lt l1 l2
        generalize (stA (stR (stA (halfTo q a b c d 0) a b) d a 13) c d).getD b 0 = u1 at *
        generalize (stA (stR (stA (halfTo q a b c d 0) a b) d a 13) c d).getD c 0 = u2 at *
        obtain ⟨p0, p1, pf⟩ := hK3.two
        go_upto_region 6 with fail
        go_region_law ((go_simp; go_at_call 76; refine (rot_any _ _ (u1 ^^^ u2) 9 _ X.out rfl l3 (by decide) (by decide)).mono ?_; rintro e w' ⟨rfl, rfl⟩))
        all_goals go_wp2
        all_goals go_roundw
        all_goals
          first
            | (refine ⟨1, by omega, by rfl, ?_, by first | exact grown_setCell (p := ⟨g, b, none⟩) (grown_drewN G3 _) (.inl rfl) _ | exact grown_drew (grown_setCell (p := ⟨g, b, none⟩) G3 (.inl rfl) _)⟩
               rw [HS.out]
               show UB _ g (stR (stA (stR (stA (halfTo q a b c d 0) a b) d a 13) c d) b c 9)
               rw [N.out]
               first | exact (O3.drewN _).set b _ | exact (O3.set b _).drew)
            | (simp [intOf]; done)
            | (simp [intOf]; omega)
      · go_upto_region 3 with fail
        obtain ⟨B, hBe⟩ : ∃ B, B = wr.heap.size := ⟨_, rfl⟩
        obtain ⟨W0, hW⟩ : ∃ W : World, W = wr.alloc (.cells #[.int .i64 17, .int .i64 5] 105) := ⟨_, rfl⟩
        rw [← hW, ← hBe]
        have hK0 : Blk W0 B 105 #[.int .i64 17, .int .i64 5] := by rw [hW, hBe]; exact Blk.new _ _ _
        have O0 : UB W0 g (halfTo q a b c d 1) := by rw [hW]; exact Blk.alloc hU _
        have G0 : w.grownBy W0 (some g) := by rw [hW]; exact grown_alloc hG _
        have hgB : B ≠ g := by have := Blk.lt hU; omega
        have hgB' : ¬ (g = B) := fun e => hgB e.symm
        clear hW hBe hU hG
        have e1 := O0.nat hQ ha
        have e2 := O0.nat hQ hb
        have f := Blk.frozen O0 a
        have l1 := hQ.lt a
        have l2 := hQ.lt b
        have N : Hid (stA (halfTo q a b c d 1) a b = (halfTo q a b c d 1).set a (add32 ((halfTo q a b c d 1).getD a 0) ((halfTo q a b c d 1).getD b 0))) := Lib.hid rfl
        have X := Lib.hid (add_prog (x := (halfTo q a b c d 1).getD a 0) (y := (halfTo q a b c d 1).getD b 0))
        generalize (halfTo q a b c d 1).getD a 0 = u1 at *
        generalize (halfTo q a b c d 1).getD b 0 = u2 at *
        go_upto_region 3 with fail
        go_cut [18] (fun _ wx => ∃ W : World, W = wx ∧ UB W g (stA (halfTo q a b c d 1) a b) ∧ Blk W B 105 #[.int .i64 17, .int .i64 5] ∧ w.grownBy W (some g))
        case first =>
          go_region
          all_goals
            go_wp2_with fail
            go_meet
            rw [N.out, X.out]
            exact ⟨_, rfl, (O0.set a _).drew, (hK0.far (p := ⟨g, a, none⟩) hgB _).drew, grown_drew (grown_setCell (p := ⟨g, a, none⟩) G0 (.inl rfl) _)⟩
        clear e1 e2 f l1 l2 N X O0 G0 hK0
        obtain ⟨W1, rfl, O1, hK1, G1⟩ := hcut
        have Q1 := hQ.stA a b
        have e1 := O1.nat Q1 hd
        have e2 := O1.nat Q1 ha
        have f := Blk.frozen O1 d
        have l1 := Q1.lt d
        have l2 := Q1.lt a
        have N : Hid (stR (stA (halfTo q a b c d 1) a b) d a 17 = (stA (halfTo q a b c d 1) a b).set d (rot32 ((stA (halfTo q a b c d 1) a b).getD d 0 ^^^ (stA (halfTo q a b c d 1) a b).getD a 0) 17)) := Lib.hid rfl
        have X := Lib.hid (xor_prog l1 l2)
        have l3 := xor32_lt l1 l2
        generalize (stA (halfTo q a b c d 1) a b).getD d 0 = u1 at *
        generalize (stA (halfTo q a b c d 1) a b).getD a 0 = u2 at *
        obtain ⟨p0, p1, pf⟩ := hK1.two
        go_upto_region 4 with fail
        go_cut [31] (fun _ wx => ∃ W : World, W = wx ∧ UB W g (stR (stA (halfTo q a b c d 1) a b) d a 17) ∧ Blk W B 105 #[.int .i64 17, .int .i64 5] ∧ w.grownBy W (some g))
        case first =>
          go_region_law ((go_simp; go_at_call 76; refine (rot_any _ _ (u1 ^^^ u2) 17 _ X.out rfl l3 (by decide) (by decide)).mono ?_; rintro e w' ⟨rfl, rfl⟩))
          all_goals
            go_wp2_with fail
            go_meet
            rw [N.out]
            exact ⟨_, rfl, (O1.drewN _).set d _, (hK1.drewN _).far (p := ⟨g, d, none⟩) hgB _, grown_setCell (p := ⟨g, d, none⟩) (grown_drewN G1 _) (.inl rfl) _⟩
        clear p0 p1 pf l3
        clear e1 e2 f l1 l2 N X O1 G1 hK1
        obtain ⟨W2, rfl, O2, hK2, G2⟩ := hcut
        have Q2 := Q1.stR d a 17
        have e1 := O2.nat Q2 hc
        have e2 := O2.nat Q2 hd
        have f := Blk.frozen O2 c
        have l1 := Q2.lt c
        have l2 := Q2.lt d
        have N : Hid (stA (stR (stA (halfTo q a b c d 1) a b) d a 17) c d = (stR (stA (halfTo q a b c d 1) a b) d a 17).set c (add32 ((stR (stA (halfTo q a b c d 1) a b) d a 17).getD c 0) ((stR (stA (halfTo q a b c d 1) a b) d a 17).getD d 0))) := Lib.hid rfl
        have X := Lib.hid (add_prog (x := (stR (stA (halfTo q a b c d 1) a b) d a 17).getD c 0) (y := (stR (stA (halfTo q a b c d 1) a b) d a 17).getD d 0))
        generalize (stR (stA (halfTo q a b c d 1) a b) d a 17).getD c 0 = u1 at *
        generalize (stR (stA (halfTo q a b c d 1) a b) d a 17).getD d 0 = u2 at *
        go_upto_region 5 with fail
        go_cut [49] (fun _ wx => ∃ W : World, W = wx ∧ UB W g (stA (stR (stA (halfTo q a b c d 1) a b) d a 17) c d) ∧ Blk W B 105 #[.int .i64 17, .int .i64 5] ∧ w.grownBy W (some g))
        case first =>
          go_region
          all_goals
            go_wp2_with fail
            go_meet
            rw [N.out, X.out]
            exact ⟨_, rfl, (O2.set c _).drew, (hK2.far (p := ⟨g, c, none⟩) hgB _).drew, grown_drew (grown_setCell (p := ⟨g, c, none⟩) G2 (.inl rfl) _)⟩
        clear e1 e2 f l1 l2 N X O2 G2 hK2
        obtain ⟨W3, rfl, O3, hK3, G3⟩ := hcut
        have Q3 := Q2.stA c d
        have e1 := O3.nat Q3 hb
        have e2 := O3.nat Q3 hc
        have f := Blk.frozen O3 b
        have l1 := Q3.lt b
        have l2 := Q3.lt c
        have N : Hid (stR (stA (stR (stA (halfTo q a b c d 1) a b) d a 17) c d) b c 5 = (stA (stR (stA (halfTo q a b c d 1) a b) d a 17) c d).set b (rot32 ((stA (stR (stA (halfTo q a b c d 1) a b) d a 17) c d).getD b 0 ^^^ (stA (stR (stA (halfTo q a b c d 1) a b) d a 17) c d).getD c 0) 5)) := Lib.hid rfl
        have X := Lib.hid (xor_prog l1 l2)
        have l3 := xor32_lt l1 l2
        generalize (stA (stR (stA (halfTo q a b c d 1) a b) d a 17) c d).getD b 0 = u1 at *
        generalize (stA (stR (stA (halfTo q a b c d 1) a b) d a 17) c d).getD c 0 = u2 at *
        obtain ⟨p0, p1, pf⟩ := hK3.two
        go_upto_region 6 with fail
        go_region_law ((go_simp; go_at_call 76; refine (rot_any _ _ (u1 ^^^ u2) 5 _ X.out rfl l3 (by decide) (by decide)).mono ?_; rintro e w' ⟨rfl, rfl⟩))
        all_goals go_wp2
        all_goals go_roundw
        all_goals
          first
            | (refine ⟨2, by omega, by rfl, ?_, by first | exact grown_setCell (p := ⟨g, b, none⟩) (grown_drewN G3 _) (.inl rfl) _ | exact grown_drew (grown_setCell (p := ⟨g, b, none⟩) G3 (.inl rfl) _)⟩
               rw [HS.out]
               show UB _ g (stR (stA (stR (stA (halfTo q a b c d 1) a b) d a 17) c d) b c 5)
               rw [N.out]
               first | exact (O3.drewN _).set b _ | exact (O3.set b _).drew)
            | (simp [intOf]; done)
            | (simp [intOf]; omega)
end Go.Proofs.Ytkbaganbfcbioaa
