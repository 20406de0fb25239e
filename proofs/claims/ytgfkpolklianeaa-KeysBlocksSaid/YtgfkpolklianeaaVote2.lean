import Derived.Test.YtgfkpolklianeaaVote
import Derived.BigGuardPart
namespace Go.Proofs.Ytgfkpolklianeaa
set_option linter.unusedSimpArgs false
set_option linter.unusedVariables false
open Go.RowKit

theorem Rd.byteE {w : World} {b off : Nat} {l : List UInt8} {k : Nat} (h : Rd w (some ⟨b, off, none⟩) (bvs l)) (hk : k < l.length) : w.cell? ⟨b, off + k, none⟩ = some (.int .u8 ((l.getD k 0).toNat : Int)) := by
  rw [← at_get hk]
  exact h.cell (bvs_get hk)
theorem bvs_snoc (l : List UInt8) (x : UInt8) : bvs l ++ [.int .u8 (x.toNat : Int)] = bvs (l ++ [x]) := by simp [bvs, bv]

/-- What the document's loop holds behind k rounds. -/
def VoteInv (w : World) (a b c : List UInt8) (k : Nat) (o p : Value) (wr : World) : Prop :=
  ∃ A ca B cb, o = .slice A k ca ∧ p = .slice B (oddTo a b c k).length cb ∧ Own wr w.heap.size 5 1 A k ca (bvs (voteTo a b c k)) ∧ Own wr w.heap.size 3 1 B (oddTo a b c k).length cb (ivs (oddTo a b c k)) ∧
    (∀ q, blk A = some q → blk B ≠ some q) ∧ Below w.heap.size w wr

set_option maxHeartbeats 3200000 in
set_option maxRecDepth 100000 in
theorem voteOf_good (A B C : Option Addr) (a b c : List UInt8) (n ca cb cc : Nat) (w : World) (la : a.length = n) (lb : b.length = n) (lc : c.length = n) (rA : Rd w A (bvs a)) (rB : Rd w B (bvs b)) (rC : Rd w C (bvs c)) (hn : n ≤ 1048576) :
    Calls Try.prog 21 #[.slice A n ca, .slice B n cb, .slice C n cc] w fun e w' => VoteRes w w' (voteTo a b c n, oddTo a b c n, 0) e := by
  obtain ⟨i0, hi0, hz0, hz1, hz2⟩ := info_parts u8info
  obtain ⟨j0, hj0, hy0, hy1, hy2⟩ := info_parts i64info
  have La := Lib.hid la
  have Lb := Lib.hid lb
  have Lc := Lib.hid lc
  clear la lb lc
  go_enter Try.func21, Try.ntmps21
  go_wp2_with fail
  go_loopw [9, 10, 11] (fun o p i wr => ∃ k : Nat, k ≤ n ∧ i = .int .i64 k ∧ VoteInv w a b c k o p wr) (fun _ _ i _ => n - (intOf i).toNat)
  case atStart => exact ⟨0, by omega, by simp, none, 0, none, 0, rfl, rfl, Own.none_ _ _ _ _, Own.none_ _ _ _ _, (fun q hq => by simp [blk] at hq), Below.refl _ _⟩
  case round =>
    obtain ⟨k, hk, rfl, O, co, P, cp, rfl, rfl, hO, hP, hne, hB⟩ := hrel
    have lo := voteTo_length a b c k
    have lp := oddTo_length a b c k
    have Lo := Lib.hid lo
    clear lo
    by_cases h5 : k < n
    · obtain ⟨b1, o1, rfl, hc1⟩ := (rA.below hB).byteD (k := k) (by rw [La.out]; exact h5)
      obtain ⟨b2, o2, rfl, hc2⟩ := (rB.below hB).byteD (k := k) (by rw [Lb.out]; exact h5)
      obtain ⟨b3, o3, rfl, hc3⟩ := (rC.below hB).byteD (k := k) (by rw [Lc.out]; exact h5)
      have HV : Hid (voteTo a b c (k + 1) = voteTo a b c k ++ [vote3 (a.getD k 0) (b.getD k 0) (c.getD k 0)]) := rfl
      have hyes := fun h => Lib.hid (oddAt_eq (a := a) (b := b) (c := c) (k := k) h)
      have hno := fun h => Lib.hid (oddAt_ne (a := a) (b := b) (c := c) (k := k) h)
      unfold oddAt at hyes hno
      generalize ex : a.getD k 0 = x at *
      generalize ey : b.getD k 0 = y at *
      generalize ez : c.getD k 0 = z at *
      have Ex := Lib.hid ex
      have Ey := Lib.hid ey
      have Ez := Lib.hid ez
      clear ex ey ez
      have ev := vote_ref x y z
      have hx256 := byte_lt (vote3 x y z)
      have s1 := hB.size
      have q2 : k + 1 ≤ maxLen := by unfold maxLen; omega
      have q3 : (k + 1) * 1 ≤ 140737488355328 := by omega
      have p2 : (oddTo a b c k).length + 1 ≤ maxLen := by unfold maxLen; omega
      have p3 : ((oddTo a b c k).length + 1) * 8 ≤ 140737488355328 := by omega
      generalize oddTo a b c k = L at *
      have sH : w.heap.size ≤ (wr.alloc (.cells #[.int .u8 ((vote3 x y z).toNat : Int)] 5)).heap.size := by simp; omega
      go_wp2_with fail
      go_quiet (fail)
      clear ev
      go_wp2_with (at_builtin; refine wpList_append_Own _ rfl (.tmp 60) (.tmp 62) 30 rfl w.heap.size 5 i0 _ 1 1 Try.underlying30 hi0 hz0 hz1 hz2 rfl O k co _ rfl ((hO.drewN nq).alloc _) _ 1 1 [.int .u8 ((vote3 x y z).toNat : Int)] rfl rfl (Rd_one (wr.drewN nq) _ _) (one_byte _) q2 q3 sH ?_; intro O' co' w2 hO2 hg2 hor2)
      rw [bvs_snoc] at hO2
      have HO2 : Own w2 w.heap.size 5 1 O' (k + 1) co' (bvs (voteTo a b c (k + 1))) := by rw [HV.out]; exact hO2
      have hP2 : Own w2 w.heap.size 3 1 P L.length cp (ivs L) := ((hP.drewN nq).alloc _).grown hg2 (fun q hq e => hne q hq e)
      have hne2 : ∀ q, blk O' = some q → blk P ≠ some q := by
        intro q hq e
        rcases hor2 with h | h
        · exact hne q (h ▸ hq) e
        · have h1 := (hP.lt q e).2
          rw [h] at hq
          injection hq with hq
          simp at hq
          omega
      have hB2 : Below w.heap.size w w2 := ((below_drewN hB nq).alloc s1 _).grown hg2 sH (fun q hq => (hO.lt q hq).1)
      have s2 := hB2.size
      have hc12 : w2.cell? ⟨b1, o1 + k, none⟩ = some (.int .u8 (x.toNat : Int)) := by
        have := (rA.below hB2).byteE (k := k) (by rw [La.out]; exact h5)
        rwa [Ex.out] at this
      have hc22 : w2.cell? ⟨b2, o2 + k, none⟩ = some (.int .u8 (y.toNat : Int)) := by
        have := (rB.below hB2).byteE (k := k) (by rw [Lb.out]; exact h5)
        rwa [Ey.out] at this
      have hc32 : w2.cell? ⟨b3, o3 + k, none⟩ = some (.int .u8 (z.toNat : Int)) := by
        have := (rC.below hB2).byteE (k := k) (by rw [Lc.out]; exact h5)
        rwa [Ez.out] at this
      clear La Lb Lc rA rB rC Ex Ey Ez
      clear hO2 hg2 hor2 hO hP hB hc1 hc2 hc3 HV hne
      have tH : w.heap.size ≤ (w2.alloc (.cells #[.int .i64 (k : Int)] 3)).heap.size := by simp; omega
      by_cases hxy : x = y
      · by_cases hyz : y = z
        · have d1 : ((((x.toNat : Nat) : Int)) != ((y.toNat : Nat) : Int)) = false := by rw [hxy]; simp
          have d2 : ((((y.toNat : Nat) : Int)) != ((z.toNat : Nat) : Int)) = false := by rw [hyz]; simp
          have HL := hno (fun h => by rcases h with h | h; exact h hxy; exact h hyz)
          clear hxy hyz hyes hno
          go_wp2_with fail
          go_quiet (fail)
          go_wp2_with fail
          go_roundw
          case rel =>
            refine ⟨k + 1, by omega, by go_num, O', co', P, cp, rfl, by rw [HL.out], HO2.drewN _, ?_, hne2, below_drewN hB2 _⟩
            rw [HL.out]
            exact hP2.drewN _
          case measure => simp [intOf]; omega
        · have d1 : ((((x.toNat : Nat) : Int)) != ((y.toNat : Nat) : Int)) = false := by rw [hxy]; simp
          have d2 : ((((y.toNat : Nat) : Int)) != ((z.toNat : Nat) : Int)) = true := by rw [byte_ne, decide_eq_true hyz]
          have HL := hyes (.inr hyz)
          clear hxy hyz hyes hno
          go_wp2_with fail
          go_quiet (fail)
          go_wp2_with (at_builtin; refine wpList_append_Own _ rfl (.tmp 84) (.tmp 86) 32 rfl w.heap.size 3 j0 _ 1 8 Try.underlying32 hj0 hy0 hy1 hy2 rfl P L.length cp _ rfl ((hP2.drewN _).alloc _) _ 1 1 [.int .i64 (k : Int)] rfl rfl (Rd_one (w2.drewN _) _ _) (one_int _) p2 p3 tH ?_; intro P' cp' w3 hP3 hg3 hor3)
          rw [ivs_snoc] at hP3
          have hB3 : Below w.heap.size w w3 := ((below_drewN hB2 _).alloc s2 _).grown hg3 tH (fun q hq => (hP2.lt q hq).1)
          have HO3 := ((HO2.drewN _).alloc _).grown hg3 (fun q hq e => hne2 q e hq)
          have hne3 : ∀ q, blk O' = some q → blk P' ≠ some q := by
            intro q hq e
            rcases hor3 with h | h
            · exact hne2 q hq (h ▸ e)
            · have h1 := (HO2.lt q hq).2
              rw [h] at e
              injection e with e
              simp at e
              omega
          go_wp2_with fail
          go_roundw
          case rel =>
            refine ⟨k + 1, by omega, by go_num, O', co', P', cp', rfl, by rw [HL.out]; simp, HO3, ?_, hne3, hB3⟩
            rw [HL.out]
            simpa using hP3
          case measure => simp [intOf]; omega
      · have d1 : ((((x.toNat : Nat) : Int)) != ((y.toNat : Nat) : Int)) = true := by rw [byte_ne, decide_eq_true hxy]
        have HL := hyes (.inl hxy)
        clear hxy hyes hno
        go_wp2_with fail
        go_quiet (fail)
        go_wp2_with (at_builtin; refine wpList_append_Own _ rfl (.tmp 84) (.tmp 86) 32 rfl w.heap.size 3 j0 _ 1 8 Try.underlying32 hj0 hy0 hy1 hy2 rfl P L.length cp _ rfl ((hP2.drewN _).alloc _) _ 1 1 [.int .i64 (k : Int)] rfl rfl (Rd_one (w2.drewN _) _ _) (one_int _) p2 p3 tH ?_; intro P' cp' w3 hP3 hg3 hor3)
        rw [ivs_snoc] at hP3
        have hB3 : Below w.heap.size w w3 := ((below_drewN hB2 _).alloc s2 _).grown hg3 tH (fun q hq => (hP2.lt q hq).1)
        have HO3 := ((HO2.drewN _).alloc _).grown hg3 (fun q hq e => hne2 q e hq)
        have hne3 : ∀ q, blk O' = some q → blk P' ≠ some q := by
          intro q hq e
          rcases hor3 with h | h
          · exact hne2 q hq (h ▸ e)
          · have h1 := (HO2.lt q hq).2
            rw [h] at e
            injection e with e
            simp at e
            omega
        go_wp2_with fail
        go_roundw
        case rel =>
          refine ⟨k + 1, by omega, by go_num, O', co', P', cp', rfl, by rw [HL.out]; simp, HO3, ?_, hne3, hB3⟩
          rw [HL.out]
          simpa using hP3
        case measure => simp [intOf]; omega
    · obtain rfl : k = n := by omega
      go_wp2
      go_ret3
      refine ⟨O, co, P, cp, by simp [Lo.out], ?_, hP, hne, hB⟩
      show Own _ _ _ _ _ (voteTo a b c k).length _ _
      rw [Lo.out]
      exact hO
end Go.Proofs.Ytgfkpolklianeaa
