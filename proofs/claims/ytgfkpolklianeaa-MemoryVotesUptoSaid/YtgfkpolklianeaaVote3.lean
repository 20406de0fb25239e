import Derived.Test.YtgfkpolklianeaaVote2
import Derived.Test.YtgfkpolklianeaaMade
import Derived.Deep.DeepCutAuto
namespace Go.Proofs.Ytgfkpolklianeaa
set_option linter.unusedSimpArgs false
set_option linter.unusedVariables false
open Go.RowKit

/-- What the program's loop holds behind k rounds. -/
def VoteInv3 (w : World) (a b c : List UInt8) (n k : Nat) (p : Value) (wr : World) : Prop :=
  ∃ B cb, p = .slice B (oddTo a b c k).length cb ∧ Own wr w.heap.size 5 1 (some ⟨w.heap.size, 0, none⟩) n n (bvs (voteTo a b c k ++ List.replicate (n - k) 0)) ∧ Own wr (w.heap.size + 1) 3 1 B (oddTo a b c k).length cb (ivs (oddTo a b c k)) ∧
    Below w.heap.size w wr ∧ w.heap.size + 1 ≤ wr.heap.size

set_option maxHeartbeats 3200000 in
set_option maxRecDepth 100000 in
theorem vote_good (A B C : Option Addr) (a b c : List UInt8) (n ca cb cc : Nat) (w : World) (la : a.length = n) (lb : b.length = n) (lc : c.length = n) (rA : Rd w A (bvs a)) (rB : Rd w B (bvs b)) (rC : Rd w C (bvs c)) (hn : n ≤ 1048576) :
    Calls Try.prog 22 #[.slice A n ca, .slice B n cb, .slice C n cc] w fun e w' => VoteRes w w' (voteTo a b c n, oddTo a b c n, 0) e := by
  obtain ⟨i0, hi0, hz0, hz1, hz2⟩ := info_parts u8info
  obtain ⟨j0, hj0, hy0, hy1, hy2⟩ := info_parts i64info
  have La := Lib.hid la
  have Lb := Lib.hid lb
  have Lc := Lib.hid lc
  have hmk := run_make_rowN (P := Try.prog) 30 5 i0 (.int .u8 0) Try.underlying30 hi0 hz0 .i64 .i64 n n (Nat.le_refl _) (by rw [hz2]; omega) (by omega)
  clear la lb lc
  go_enter Try.func22, Try.ntmps22
  go_wp2_with fail
  obtain ⟨W1, hW1⟩ : ∃ W : World, W = w.alloc (.cells (madeCells #[.int .u8 0] n) 5) := ⟨_, rfl⟩
  have hO1 : Own W1 w.heap.size 5 1 (some ⟨w.heap.size, 0, none⟩) n n (bvs (List.replicate n 0)) := by rw [hW1]; exact Own.made8 w n n (Nat.le_refl _) (by unfold maxLen; omega)
  have hB1 : Below w.heap.size w W1 := by rw [hW1]; exact (by repeat (first | with_reducible exact Below.refl _ _ | with_reducible assumption | with_reducible refine below_drewN ?_ _ | with_reducible refine Below.drew ?_ | with_reducible refine Below.alloc ?_ ?_ _ | with_reducible refine Below.setCell ?_ ?_ _ | with_reducible exact Nat.le_refl _ | (simp; omega) | (simp; done)))
  have hZ1 : w.heap.size + 1 ≤ W1.heap.size := by rw [hW1]; simp
  rw [← hW1]
  clear hW1 hmk
  go_loopw [10, 32] (fun p i wr => ∃ k : Nat, k ≤ n ∧ i = .int .i64 k ∧ VoteInv3 w a b c n k p wr) (fun _ i _ => n - (intOf i).toNat)
  case atStart => exact ⟨0, by omega, by simp, none, 0, rfl, by simpa [voteTo] using hO1, Own.none_ _ _ _ _, hB1, hZ1⟩
  case round =>
    obtain ⟨k, hk, rfl, P, cp, rfl, hO, hP, hB, hZ⟩ := hrel
    clear hO1 hB1 hZ1
    have lp := oddTo_length a b c k
    by_cases h5 : k < n
    · obtain ⟨b1, o1, rfl, hc1⟩ := (rA.below hB).byteD (k := k) (by rw [La.out]; exact h5)
      obtain ⟨b2, o2, rfl, hc2⟩ := (rB.below hB).byteD (k := k) (by rw [Lb.out]; exact h5)
      obtain ⟨b3, o3, rfl, hc3⟩ := (rC.below hB).byteD (k := k) (by rw [Lc.out]; exact h5)
      have HV := Lib.hid (vote_fill a b c k n h5)
      have hyes := fun h => Lib.hid (oddAt_eq (a := a) (b := b) (c := c) (k := k) h)
      have hno := fun h => Lib.hid (oddAt_ne (a := a) (b := b) (c := c) (k := k) h)
      unfold oddAt at hyes hno
      generalize a.getD k 0 = x at *
      generalize b.getD k 0 = y at *
      generalize c.getD k 0 = z at *
      have ev := vote_prog x y z
      have hx256 := byte_lt (vote3 x y z)
      have p2 : (oddTo a b c k).length + 1 ≤ maxLen := by unfold maxLen; omega
      have p3 : ((oddTo a b c k).length + 1) * 8 ≤ 140737488355328 := by omega
      generalize oddTo a b c k = L at *
      obtain ⟨x0, hx0, hc0⟩ := hO.byteAt h5
      have hf0 := hO.frozen (0 + k)
      clear hx0 rA rB rC La Lb Lc
      rw [Nat.zero_add] at hc0 hf0
      go_wp2_with fail
      go_quiet (fail)
      go_upto_region 10 with fail
      obtain ⟨W2, hW2⟩ : ∃ W : World, W = (wr.drewN nq).setCell ⟨w.heap.size, k, none⟩ (.int .u8 ((vote3 x y z).toNat : Int)) := ⟨_, rfl⟩
      have hO2 : Own W2 w.heap.size 5 1 (some ⟨w.heap.size, 0, none⟩) n n (bvs (voteTo a b c (k + 1) ++ List.replicate (n - (k + 1)) 0)) := by
        have := (hO.drewN nq).setB h5 (vote3 x y z)
        rw [HV.out, Nat.zero_add] at this
        rw [hW2]
        exact this
      have hP2 : Own W2 (w.heap.size + 1) 3 1 P L.length cp (ivs L) := by
        rw [hW2]
        exact (hP.drewN nq).setFar (fun e => by have := (hP.lt _ e).1; simp only at this; omega) _
      have hB2 : Below w.heap.size w W2 := by rw [hW2]; exact (below_drewN hB nq).setCell (Nat.le_refl _) _
      have hZ2 : w.heap.size + 1 ≤ W2.heap.size := by rw [hW2]; simpa using hZ
      rw [← hW2]
      have tH : w.heap.size + 1 ≤ (W2.alloc (.cells #[.int .i64 (k : Int)] 3)).heap.size := by simp; omega
      clear hW2 hO hP hB HV hc1 hc2 hc3 hc0 hf0 ev
      by_cases hxy : x = y
      · by_cases hyz : y = z
        · have d1 : ((((x.toNat : Nat) : Int)) != ((y.toNat : Nat) : Int)) = false := by rw [hxy]; simp
          have d2 : ((((y.toNat : Nat) : Int)) != ((z.toNat : Nat) : Int)) = false := by rw [hyz]; simp
          have HL := hno (fun h => by rcases h with h | h; exact h hxy; exact h hyz)
          clear hxy hyz hyes hno
          go_wp2_with fail
          go_roundw
          case rel =>
            refine ⟨k + 1, by omega, by go_num, P, cp, by rw [HL.out], hO2, ?_, hB2, hZ2⟩
            rw [HL.out]
            exact hP2
          case measure => simp [intOf]; omega
        · have d1 : ((((x.toNat : Nat) : Int)) != ((y.toNat : Nat) : Int)) = false := by rw [hxy]; simp
          have d2 : ((((y.toNat : Nat) : Int)) != ((z.toNat : Nat) : Int)) = true := by rw [byte_ne, decide_eq_true hyz]
          have HL := hyes (.inr hyz)
          clear hxy hyz hyes hno
          go_wp2_with (at_builtin; refine wpList_append_Own _ rfl (.tmp 65) (.tmp 67) 32 rfl (w.heap.size + 1) 3 j0 _ 1 8 Try.underlying32 hj0 hy0 hy1 hy2 rfl P L.length cp _ rfl (hP2.alloc _) _ 1 1 [.int .i64 (k : Int)] rfl rfl (Rd_one W2 _ _) (one_int _) p2 p3 tH ?_; intro P' cp' w3 hP3 hg3 hor3)
          rw [ivs_snoc] at hP3
          have hB3 : Below w.heap.size w w3 := (hB2.alloc hB2.size _).grown hg3 (by have := hB2.size; simp; omega) (fun q hq => by have := (hP2.lt q hq).1; omega)
          have HO3 := (hO2.alloc (.cells #[.int .i64 (k : Int)] 3)).grown hg3 (fun q hq e => by have := (hP2.lt q hq).1; simp [blk] at e; omega)
          have z3 := hg3.size
          simp at z3
          go_wp2_with fail
          go_roundw
          case rel =>
            refine ⟨k + 1, by omega, by go_num, P', cp', by rw [HL.out]; simp, HO3, ?_, hB3, by omega⟩
            rw [HL.out]
            simpa using hP3
          case measure => simp [intOf]; omega
      · have d1 : ((((x.toNat : Nat) : Int)) != ((y.toNat : Nat) : Int)) = true := by rw [byte_ne, decide_eq_true hxy]
        have HL := hyes (.inl hxy)
        clear hxy hyes hno
        go_wp2_with (at_builtin; refine wpList_append_Own _ rfl (.tmp 65) (.tmp 67) 32 rfl (w.heap.size + 1) 3 j0 _ 1 8 Try.underlying32 hj0 hy0 hy1 hy2 rfl P L.length cp _ rfl (hP2.alloc _) _ 1 1 [.int .i64 (k : Int)] rfl rfl (Rd_one W2 _ _) (one_int _) p2 p3 tH ?_; intro P' cp' w3 hP3 hg3 hor3)
        rw [ivs_snoc] at hP3
        have hB3 : Below w.heap.size w w3 := (hB2.alloc hB2.size _).grown hg3 (by have := hB2.size; simp; omega) (fun q hq => by have := (hP2.lt q hq).1; omega)
        have HO3 := (hO2.alloc (.cells #[.int .i64 (k : Int)] 3)).grown hg3 (fun q hq e => by have := (hP2.lt q hq).1; simp [blk] at e; omega)
        have z3 := hg3.size
        simp at z3
        go_wp2_with fail
        go_roundw
        case rel =>
          refine ⟨k + 1, by omega, by go_num, P', cp', by rw [HL.out]; simp, HO3, ?_, hB3, by omega⟩
          rw [HL.out]
          simpa using hP3
        case measure => simp [intOf]; omega
    · obtain rfl : k = n := by omega
      have Lo := Lib.hid (voteTo_length a b c k)
      go_wp2
      go_ret3
      refine ⟨some ⟨w.heap.size, 0, none⟩, k, P, cp, by simp [Lo.out], ?_, hP.mono (by omega), (fun q hq e => by have := (hP.lt _ e).1; simp [blk] at hq; omega), hB⟩
      show Own _ _ _ _ _ (voteTo a b c k).length _ _
      rw [Lo.out]
      simpa using hO

theorem vote_any (A B C : Option Addr) (a b c : List UInt8) (n m p ca cb cc : Nat) (w : World) (la : a.length = n) (lb : b.length = m) (lc : c.length = p) (rA : Rd w A (bvs a)) (rB : Rd w B (bvs b)) (rC : Rd w C (bvs c)) (hn : n ≤ 1048576) :
    Calls Try.prog 22 #[.slice A n ca, .slice B m cb, .slice C p cc] w fun e w' => VoteRes w w' (voted a b c) e := by
  unfold voted
  by_cases h : a.length ≠ b.length ∨ b.length ≠ c.length
  · rw [if_pos h]
    exact vote_size A B C n m p ca cb cc w (by omega)
  · rw [if_neg h]
    have e1 : m = n := by omega
    have e2 : p = n := by omega
    subst e1
    subst e2
    rw [la]
    exact vote_good A B C a b c _ ca cb cc w la lb lc rA rB rC hn
theorem voteOf_any (A B C : Option Addr) (a b c : List UInt8) (n m p ca cb cc : Nat) (w : World) (la : a.length = n) (lb : b.length = m) (lc : c.length = p) (rA : Rd w A (bvs a)) (rB : Rd w B (bvs b)) (rC : Rd w C (bvs c)) (hn : n ≤ 1048576) :
    Calls Try.prog 21 #[.slice A n ca, .slice B m cb, .slice C p cc] w fun e w' => VoteRes w w' (voted a b c) e := by
  unfold voted
  by_cases h : a.length ≠ b.length ∨ b.length ≠ c.length
  · rw [if_pos h]
    exact voteOf_size A B C n m p ca cb cc w (by omega)
  · rw [if_neg h]
    have e1 : m = n := by omega
    have e2 : p = n := by omega
    subst e1
    subst e2
    rw [la]
    exact voteOf_good A B C a b c _ ca cb cc w la lb lc rA rB rC hn
end Go.Proofs.Ytgfkpolklianeaa
