/-
  Which giver may be, by the program. Givers that are the same; a slice of pairs is cloned, is written over by its owner.
-/
import Derived.Test.YtianombjgdmbeaaMDeliverGives26
import Derived.Test.YtianombjgdmbeaaMDeliverGives7
import Derived.Test.YtianombjgdmbeaaMDeliverGives11
import Derived.WalkSpells
namespace Go.Proofs.Ytianombjgdmbeaa
set_option linter.unusedSimpArgs false
set_option linter.unusedVariables false
open Go.RowKit

set_option maxHeartbeats 6400000 in
set_option maxRecDepth 100000 in
theorem gives_any (x : Gv) (F : Option Addr) (fn fc : Nat) (A : Option Addr) (an ac : Nat) (w : World) (hf : x.file.length = fn) (ha : x.again.length = an) (hF : Rd w F (bvs x.file)) (hA : Rd w A (gps x.again)) (hfn : fn ≤ 140737488351232) (han : an ≤ 8796093022200) :
    Calls Try.prog 99 #[gvv x F fn fc A an ac] w fun e w' => e = .returned (.bool (gvOk x)) ∧ Below w.heap.size w w' := by
  obtain ⟨r, hr⟩ : ∃ r, gvOk x = r := ⟨_, rfl⟩
  rw [hr]
  have HR := Lib.hid hr
  have CO := Lib.hid (fun (V : World) (hB : Below w.heap.size w V) => offer_is x F fn fc V hf (hF.below hB))
  have CC := Lib.hid (fun (V : World) (p : Nat) (hB : Below w.heap.size w V) (hc : V.cell? ⟨p, 0, none⟩ = some (.int .i64 (fn : Int))) (hp : p < V.heap.size) => containsL_any (fn : Int) p x.again A an ac V ha (hA.below hB) han hc hp)
  have HF := Lib.hid hf
  have HL := Lib.hid ha
  clear hr hf ha hF hA
  obtain ⟨id, name, file, most, burst, stage, first, at_, again, timer, patience, tries, limit⟩ := x
  unfold gvv gvc
  dsimp only at CO CC HF HL ⊢
  have b1 := (Blk.new w 55 #[.int .i64 id, .string name, .slice F fn fc, .int .i64 most, .int .i64 burst, .int .i64 stage, .bool first, .int .i64 at_, .slice A an ac, .int .i64 timer, .int .i64 patience, .int .i64 tries, .int .i64 limit]).alloc (.cells #[.int .i64 (fn : Int)] 3)
  have bl := Blk.new (w.alloc (.cells #[.int .i64 id, .string name, .slice F fn fc, .int .i64 most, .int .i64 burst, .int .i64 stage, .bool first, .int .i64 at_, .slice A an ac, .int .i64 timer, .int .i64 patience, .int .i64 tries, .int .i64 limit] 55)) 3 #[.int .i64 (fn : Int)]
  rw [show (w.alloc (.cells #[.int .i64 id, .string name, .slice F fn fc, .int .i64 most, .int .i64 burst, .int .i64 stage, .bool first, .int .i64 at_, .slice A an ac, .int .i64 timer, .int .i64 patience, .int .i64 tries, .int .i64 limit] 55)).heap.size = w.heap.size + 1 by simp] at bl
  have hB : Below w.heap.size w ((w.alloc (.cells #[.int .i64 id, .string name, .slice F fn fc, .int .i64 most, .int .i64 burst, .int .i64 stage, .bool first, .int .i64 at_, .slice A an ac, .int .i64 timer, .int .i64 patience, .int .i64 tries, .int .i64 limit] 55)).alloc (.cells #[.int .i64 (fn : Int)] 3)) := ((Below.refl _ _).alloc (Nat.le_refl _) _).alloc (by simp) _
  have x2 := b1.cell' (i := 2) rfl
  go_enter Try.func99, Try.ntmps99
  go_upto_region 2 with fail
  clear x2
  generalize (w.alloc (.cells #[.int .i64 id, .string name, .slice F fn fc, .int .i64 most, .int .i64 burst, .int .i64 stage, .bool first, .int .i64 at_, .slice A an ac, .int .i64 timer, .int .i64 patience, .int .i64 tries, .int .i64 limit] 55)).alloc (.cells #[.int .i64 (fn : Int)] 3) = W0 at *
  have x0 := b1.cell' (i := 0) rfl
  have x1 := b1.cell' (i := 1) rfl
  have x2 := b1.cell' (i := 2) rfl
  have x3 := b1.cell' (i := 3) rfl
  have x4 := b1.cell' (i := 4) rfl
  have x10 := b1.cell' (i := 10) rfl
  have x12 := b1.cell' (i := 12) rfl
  go_wp2_with fail
  refine (CO.out _ hB).mono ?_
  intro e w1 hq
  obtain ⟨⟨y0, y1, y2, y3, y4, y5, y6, y7, y8, y9, y10, y11, y12⟩, A1, n1, c1, k, rfl, hk, hb⟩ := hq
  unfold gvv gvc
  dsimp only
  replace b1 := b1.step hb
  replace bl := bl.step hb
  replace hB := hB.trans (hb.mono hB.size)
  clear hb CO x0 x1 x2 x3 x4 x10 x12
  go_upto_region 3 with fail
  replace b1 := b1.alloc (.cells #[.int .i64 y0, .string y1, .slice A1 n1 c1, .int .i64 y3, .int .i64 y4, .int .i64 y5, .bool y6, .int .i64 y7, .slice none 0 0, .int .i64 y9, .int .i64 y10, .int .i64 y11, .int .i64 y12] 55)
  replace bl := bl.alloc (.cells #[.int .i64 y0, .string y1, .slice A1 n1 c1, .int .i64 y3, .int .i64 y4, .int .i64 y5, .bool y6, .int .i64 y7, .slice none 0 0, .int .i64 y9, .int .i64 y10, .int .i64 y11, .int .i64 y12] 55)
  replace hB := hB.alloc hB.size (.cells #[.int .i64 y0, .string y1, .slice A1 n1 c1, .int .i64 y3, .int .i64 y4, .int .i64 y5, .bool y6, .int .i64 y7, .slice none 0 0, .int .i64 y9, .int .i64 y10, .int .i64 y11, .int .i64 y12] 55)
  generalize w1.alloc (.cells #[.int .i64 y0, .string y1, .slice A1 n1 c1, .int .i64 y3, .int .i64 y4, .int .i64 y5, .bool y6, .int .i64 y7, .slice none 0 0, .int .i64 y9, .int .i64 y10, .int .i64 y11, .int .i64 y12] 55) = W at *
  have x5 := b1.cell' (i := 5) rfl
  have x6 := b1.cell' (i := 6) rfl
  have x7 := b1.cell' (i := 7) rfl
  have x8 := b1.cell' (i := 8) rfl
  have x9 := b1.cell' (i := 9) rfl
  have x10 := b1.cell' (i := 10) rfl
  have x11 := b1.cell' (i := 11) rfl
  have x12 := b1.cell' (i := 12) rfl
  have xl := bl.cell' (i := 0) rfl
  have ltl := bl.lt
  cases hO : offB ⟨id, name, file, most, burst, stage, first, at_, again, timer, patience, tries, limit⟩
  · rw [hO] at hk
    have hk0 : ¬ k = 0 := of_decide_eq_false hk
    have ik : (k == 0) = false := by rw [beq_eq_false_iff_ne]; exact hk0
    have ik2 : (k != 0) = true := by rw [bne, ik]; rfl
    have HO := Lib.hid hO
    clear hk hk0 hO
    go_wp2_with fail
    go_ret
    exact ⟨ret_bool (by rw [← HR.out]; exact (gv_off HO.out).symm), hB⟩
  rw [hO] at hk
  obtain rfl : k = 0 := of_decide_eq_true hk
  obtain ⟨hO1, hO2, hO3⟩ := offB_iff.1 hO
  have HO := Lib.hid hO
  clear hk hO
  obtain ⟨-, -, -, ⟨hp1, hp2⟩, -⟩ := hO1
  dsimp only at hp1 hp2
  clear hO2 hO3
  cases hst0 : rngOk stage 0 4
  · have hst := Lib.hid hst0
    clear hst0
    go_wp2_with fail
    refine (din_is stage 0 4 false _ hst).mono ?_
    rintro e _ ⟨rfl, rfl⟩
    go_wp2_with fail
    go_ret
    exact ⟨ret_bool (by rw [← HR.out]; exact (stand_false (.inl hst.out)).symm), hB⟩
  have hst := Lib.hid hst0
  clear hst0
  go_wp2_with fail
  refine (din_is stage 0 4 true _ hst).mono ?_
  rintro e _ ⟨rfl, rfl⟩
  go_wp2_with fail
  cases hat0 : rngOk at_ 0 (fn : Int)
  · have hat := Lib.hid hat0
    clear hat0
    refine (din_is at_ 0 (fn : Int) false _ hat).mono ?_
    rintro e _ ⟨rfl, rfl⟩
    go_wp2_with fail
    go_ret
    exact ⟨ret_bool (by rw [← HR.out]; exact (stand_false (.inr (.inl (by dsimp only; rw [HF.out]; exact hat.out)))).symm), hB⟩
  obtain ⟨hat1, hat2⟩ := rng_iff.1 hat0
  have hat := Lib.hid hat0
  clear hat0
  refine (din_is at_ 0 (fn : Int) true _ hat).mono ?_
  rintro e _ ⟨rfl, rfl⟩
  by_cases bad : stage ≠ 0 ∧ (at_ ≠ (fn : Int) ∨ first = true)
  · obtain ⟨z, q⟩ := bad
    have HS : Hid (gvOk ⟨id, name, file, most, burst, stage, first, at_, again, timer, patience, tries, limit⟩ = false) := Lib.hid (stand_false (.inr (.inr ⟨z, by dsimp only; rw [HF.out]; exact q⟩)))
    have iz : (stage == 0) = false := by rw [beq_eq_false_iff_ne]; exact z
    have iz2 : (stage != 0) = true := by rw [bne, iz]; rfl
    by_cases hq : at_ = (fn : Int)
    · have q2 : first = true := by rcases q with h | h; exact absurd hq h; exact h
      have iq : ¬ at_ < (fn : Int) := by omega
      subst q2
      clear q hq z
      go_wp2_with fail
      go_ret
      exact ⟨ret_bool (by rw [← HR.out]; exact HS.out.symm), hB⟩
    · have iq : at_ < (fn : Int) := by omega
      clear q hq z
      go_wp2_with fail
      go_ret
      exact ⟨ret_bool (by rw [← HR.out]; exact HS.out.symm), hB⟩
  have HST : Hid (standB ⟨id, name, file, most, burst, stage, first, at_, again, timer, patience, tries, limit⟩ = true) := Lib.hid (stand_true hst.out (by dsimp only; rw [HF.out]; exact hat.out) (by
    dsimp only
    rw [HF.out]
    by_cases z : stage = 0
    · exact .inl z
    · refine .inr ⟨?_, ?_⟩
      · exact Classical.byContradiction fun h => bad ⟨z, .inl h⟩
      · cases first
        · rfl
        · exact absurd ⟨z, .inr rfl⟩ bad))
  have key : ((stage == 0) = true ∧ (stage != 0) = false) ∨ ((stage == 0) = false ∧ (stage != 0) = true ∧ ¬ at_ < (fn : Int) ∧ first = false) := by
    by_cases z : stage = 0
    · left
      have iz : (stage == 0) = true := by rw [beq_iff_eq]; exact z
      exact ⟨iz, by rw [bne, iz]; rfl⟩
    · right
      have iz : (stage == 0) = false := by rw [beq_eq_false_iff_ne]; exact z
      have q : at_ = (fn : Int) := Classical.byContradiction fun h => bad ⟨z, .inl h⟩
      refine ⟨iz, by rw [bne, iz]; rfl, by omega, ?_⟩
      cases first
      · rfl
      · exact absurd ⟨z, .inr rfl⟩ bad
  clear bad
  have HLN := Lib.hid (fun (h : ¬ an ≤ 1000) => gv_len (x := ⟨id, name, file, most, burst, stage, first, at_, again, timer, patience, tries, limit⟩) (by dsimp only; rw [HL.out]; exact h))
  have HAA := Lib.hid (fun (h : again.all (gapIn (fn : Int)) = false) => gv_again (x := ⟨id, name, file, most, burst, stage, first, at_, again, timer, patience, tries, limit⟩) (by dsimp only; rw [HF.out]; exact h))
  have HWW := Lib.hid (fun (h : waitB ⟨id, name, file, most, burst, stage, first, at_, again, timer, patience, tries, limit⟩ = false) => gv_wait h)
  have HALL := Lib.hid (fun (hl : an ≤ 1000) (h : again.all (gapIn (fn : Int)) = true) (h2 : waitB ⟨id, name, file, most, burst, stage, first, at_, again, timer, patience, tries, limit⟩ = true) => gv_all (x := ⟨id, name, file, most, burst, stage, first, at_, again, timer, patience, tries, limit⟩) HO.out HST.out (by dsimp only; rw [HL.out]; exact hl) (by dsimp only; rw [HF.out]; exact h) h2)
  rw [HR.out] at HAA HWW HALL HLN
  clear HO HST HR HF
  have CC2 := Lib.hid (CC.out W (w.heap.size + 1) hB xl ltl)
  clear CC xl
  rcases key with ⟨iz, iz2⟩ | ⟨iz, iz2, iq, rfl⟩
  all_goals
    have xl := bl.cell' (i := 0) rfl
    by_cases hl : an ≤ 1000
    rotate_left
    · have hl2 : ¬ (an : Int) ≤ 1000 := by omega
      have HE := Lib.hid (HLN.out hl)
      clear hl
      go_wp2_with fail
      go_ret
      exact ⟨ret_bool HE.out.symm, hB⟩
    have hl2 : (an : Int) ≤ 1000 := by omega
    go_wp2_with fail
    cases hg : again.all (gapIn (fn : Int))
    · have HE := Lib.hid (HAA.out hg)
      simp only [hg] at CC2
      clear hg
      refine CC2.out.mono ?_
      rintro e w2 ⟨rfl, hb⟩
      go_wp2_with fail
      go_ret
      exact ⟨ret_bool HE.out.symm, hB.trans (hb.mono hB.size)⟩
    have HG := Lib.hid hg
    simp only [hg] at CC2
    clear hg
    refine CC2.out.mono ?_
    rintro e w2 ⟨rfl, hb⟩
    replace b1 := b1.step hb
    replace hB := hB.trans (hb.mono hB.size)
    clear x5 x6 x7 x8 x9 x10 x11 x12 xl ltl bl hb
    have x9 := b1.cell' (i := 9) rfl
    have x10 := b1.cell' (i := 10) rfl
    have x11 := b1.cell' (i := 11) rfl
    have x12 := b1.cell' (i := 12) rfl
    go_wp2_with fail
    cases ht0 : rngOk timer 0 (patience - 1)
    · have ht := Lib.hid ht0
      clear ht0
      refine (din_is timer 0 (patience - 1) false _ ht).mono ?_
      rintro e _ ⟨rfl, rfl⟩
      go_wp2_with fail
      go_ret
      exact ⟨ret_bool (HWW.out (by unfold waitB; dsimp only; rw [ht.out]; rfl)).symm, hB⟩
    have ht := Lib.hid ht0
    clear ht0
    refine (din_is timer 0 (patience - 1) true _ ht).mono ?_
    rintro e _ ⟨rfl, rfl⟩
    go_wp2_with fail
    cases hu0 : rngOk tries 0 limit
    · have hu := Lib.hid hu0
      clear hu0
      refine (din_is tries 0 limit false _ hu).mono ?_
      rintro e _ ⟨rfl, rfl⟩
      go_wp2_with fail
      go_ret
      exact ⟨ret_bool (HWW.out (by unfold waitB; dsimp only; rw [hu.out]; simp)).symm, hB⟩
    have hu := Lib.hid hu0
    clear hu0
    refine (din_is tries 0 limit true _ hu).mono ?_
    rintro e _ ⟨rfl, rfl⟩
    go_wp2_with fail
    go_ret
    exact ⟨ret_bool (HALL.out hl HG.out (by unfold waitB; dsimp only; rw [ht.out, hu.out]; rfl)).symm, hB⟩
end Go.Proofs.Ytianombjgdmbeaa
namespace Go.Proofs.Ytianombjgdmbeaa
set_option linter.unusedSimpArgs false
set_option linter.unusedVariables false
open Go.RowKit

set_option maxHeartbeats 6400000 in
set_option maxRecDepth 100000 in
theorem sameGv_yes (x : Gv) (F E : Option Addr) (fn fc ec : Nat) (A B : Option Addr) (an ac bc : Nat) (w : World) (hf : x.file.length = fn) (ha : x.again.length = an) (hfn : fn ≤ 140737488351300) (han : an ≤ 140737488351300) (hF : Rd w F (bvs x.file)) (hE : Rd w E (bvs x.file)) (hA : Rd w A (gps x.again)) (hH : Rd w B (gps x.again)) :
    Calls Try.prog 66 #[gvv x F fn fc A an ac, gvv x E fn ec B an bc] w fun e w' => e = .returned (.bool true) ∧ Below w.heap.size w w' := by
  have CD := Lib.hid (fun (V : World) (hB : Below w.heap.size w V) => sameBytes_yes F E x.file fc ec V (hF.below hB) (hE.below hB))
  have CG := Lib.hid (fun (V : World) (hB : Below w.heap.size w V) => sameGaps_yes A B x.again an ac bc V ha han (hA.below hB) (hH.below hB))
  rw [hf] at CD
  clear hf ha hF hE hA hH
  obtain ⟨id, name, file, most, burst, stage, first, at_, again, timer, patience, tries, limit⟩ := x
  unfold gvv gvc
  dsimp only at CD CG ⊢
  have k1 := (Blk.new w 55 #[.int .i64 id, .string name, .slice F fn fc, .int .i64 most, .int .i64 burst, .int .i64 stage, .bool first, .int .i64 at_, .slice A an ac, .int .i64 timer, .int .i64 patience, .int .i64 tries, .int .i64 limit]).alloc (.cells #[.int .i64 id, .string name, .slice E fn ec, .int .i64 most, .int .i64 burst, .int .i64 stage, .bool first, .int .i64 at_, .slice B an bc, .int .i64 timer, .int .i64 patience, .int .i64 tries, .int .i64 limit] 55)
  have k2 := Blk.new (w.alloc (.cells #[.int .i64 id, .string name, .slice F fn fc, .int .i64 most, .int .i64 burst, .int .i64 stage, .bool first, .int .i64 at_, .slice A an ac, .int .i64 timer, .int .i64 patience, .int .i64 tries, .int .i64 limit] 55)) 55 #[.int .i64 id, .string name, .slice E fn ec, .int .i64 most, .int .i64 burst, .int .i64 stage, .bool first, .int .i64 at_, .slice B an bc, .int .i64 timer, .int .i64 patience, .int .i64 tries, .int .i64 limit]
  rw [show (w.alloc (.cells #[.int .i64 id, .string name, .slice F fn fc, .int .i64 most, .int .i64 burst, .int .i64 stage, .bool first, .int .i64 at_, .slice A an ac, .int .i64 timer, .int .i64 patience, .int .i64 tries, .int .i64 limit] 55)).heap.size = w.heap.size + 1 by simp] at k2
  have hB : Below w.heap.size w ((w.alloc (.cells #[.int .i64 id, .string name, .slice F fn fc, .int .i64 most, .int .i64 burst, .int .i64 stage, .bool first, .int .i64 at_, .slice A an ac, .int .i64 timer, .int .i64 patience, .int .i64 tries, .int .i64 limit] 55)).alloc (.cells #[.int .i64 id, .string name, .slice E fn ec, .int .i64 most, .int .i64 burst, .int .i64 stage, .bool first, .int .i64 at_, .slice B an bc, .int .i64 timer, .int .i64 patience, .int .i64 tries, .int .i64 limit] 55)) := ((Below.refl _ _).alloc (Nat.le_refl _) _).alloc (by simp) _
  go_enter Try.func66, Try.ntmps66
  simp only [List.append_eq, List.cons_append, List.nil_append]
  go_wp2_with fail
  generalize (w.alloc (.cells #[.int .i64 id, .string name, .slice F fn fc, .int .i64 most, .int .i64 burst, .int .i64 stage, .bool first, .int .i64 at_, .slice A an ac, .int .i64 timer, .int .i64 patience, .int .i64 tries, .int .i64 limit] 55)).alloc (.cells #[.int .i64 id, .string name, .slice E fn ec, .int .i64 most, .int .i64 burst, .int .i64 stage, .bool first, .int .i64 at_, .slice B an bc, .int .i64 timer, .int .i64 patience, .int .i64 tries, .int .i64 limit] 55) = W at *
  refine (CD.out _ hB).mono ?_
  rintro e _ ⟨rfl, rfl⟩
  have x3 := k1.cell' (i := 3) rfl
  have y3 := k2.cell' (i := 3) rfl
  have x4 := k1.cell' (i := 4) rfl
  have y4 := k2.cell' (i := 4) rfl
  have x5 := k1.cell' (i := 5) rfl
  have y5 := k2.cell' (i := 5) rfl
  have x6 := k1.cell' (i := 6) rfl
  have y6 := k2.cell' (i := 6) rfl
  have x7 := k1.cell' (i := 7) rfl
  have y7 := k2.cell' (i := 7) rfl
  have x8 := k1.cell' (i := 8) rfl
  have y8 := k2.cell' (i := 8) rfl
  go_wp2_with fail
  refine (CG.out _ hB).mono ?_
  rintro e _ ⟨rfl, j1, rfl⟩
  have k1' := k1.drewN j1
  have k2' := k2.drewN j1
  have hB' := below_drewN hB j1
  clear x3 y3 x4 y4 x5 y5 x6 y6 x7 y7 x8 y8 k1 k2 hB CD CG
  generalize W.drewN j1 = W2 at *
  have x9 := k1'.cell' (i := 9) rfl
  have y9 := k2'.cell' (i := 9) rfl
  have x10 := k1'.cell' (i := 10) rfl
  have y10 := k2'.cell' (i := 10) rfl
  have x11 := k1'.cell' (i := 11) rfl
  have y11 := k2'.cell' (i := 11) rfl
  have x12 := k1'.cell' (i := 12) rfl
  have y12 := k2'.cell' (i := 12) rfl
  go_wp2_with fail
  go_ret
  exact ⟨rfl, hB'⟩
set_option maxHeartbeats 1600000 in
set_option maxRecDepth 100000 in
theorem cloneG (A : Option Addr) (l : List (Int × Int)) (n c : Nat) (w : World) (hl : l.length = n) (ha : Rd w A (gps l)) (hn : n ≤ 8796093022200) :
    Calls Try.prog 96 #[.slice A n c] w fun e w' => ∃ A' c', e = .returned (.slice A' n c') ∧ Own w' w.heap.size 66 2 A' n c' (gps l) ∧ Below w.heap.size w w' := by
  obtain ⟨i0, hi0, hz0, hz1, hz2⟩ := info_parts pairinfo
  have q2 : 0 + n ≤ maxLen := by unfold maxLen; omega
  have q3 : (0 + n) * 16 ≤ 140737488355328 := by omega
  have q1 : Hid ((gps l).length = n * 2) := Lib.hid (by rw [gps_len, hl])
  have hE := fun (W : World) (a : Option Addr) (n c : Nat) => Lib.run_eql_slice_nil (P := Try.prog) W 24 66 a n c 0 0 Try.underlying24
  rcases A with _ | a
  · have hl0 : l = [] := by
      rcases l with _ | ⟨x, l⟩
      · rfl
      · obtain ⟨b, off, e, _⟩ := rdgap_cells ha (i := 0) (x := x) rfl
        cases e
    subst hl0
    obtain rfl : n = 0 := by simpa using hl.symm
    clear q1 q2 q3
    go_enter Try.func96, Try.ntmps96
    go_wp2
    go_ret
    exact ⟨none, 0, rfl, Own.none_ _ _ _ _, Below.refl _ _⟩
  · have hO : Own (w.alloc (.cells #[] 66)) w.heap.size 66 2 (some ⟨w.heap.size, 0, none⟩) 0 0 [] := Own.of_block (heap_alloc_new w _) (Nat.le_refl _) rfl (Nat.le_refl _) (Nat.zero_le _) (by simp) (fun i u h => by simp at h)
    have hR2 := ha.alloc (.cells #[] 66)
    have q4 : w.heap.size ≤ (w.alloc (.cells #[] 66)).heap.size := by simp
    clear hl
    go_enter Try.func96, Try.ntmps96
    go_wp2_with (at_builtin; refine wpList_append_Own _ rfl (.tmp 5) (.tmp 6) 24 rfl w.heap.size 66 i0 _ 2 16 Try.underlying24 hi0 hz0 hz1 hz2 rfl _ 0 0 [] rfl hO (some a) n c (gps l) rfl q1.out hR2 (gps_one _) q2 q3 q4 ?_; intro A' c' w1 hO1 hg1 hor)
    go_ret
    rw [Nat.zero_add, List.nil_append] at hO1
    refine ⟨A', c', rfl, hO1, ?_⟩
    exact ((Below.refl _ _).alloc (Nat.le_refl _) _).grown hg1 (by simp) (fun k hk => by simp [blk] at hk; omega)
set_option maxHeartbeats 3200000 in
set_option maxRecDepth 100000 in
theorem overGaps_any (base : Nat) (A : Option Addr) (n c : Nat) (l : List (Int × Int)) (w : World) (hO : Own w base 66 2 A n c (gps l)) (hn : n ≤ 8796093022200) (hbase : base ≤ w.heap.size) :
    Calls Try.prog 21 #[.slice A n c] w fun e w' => e = .returned (.tuple #[]) ∧ w.grownBy w' (blk A) := by
  obtain ⟨i0, hi0, hz0, hz1, hz2⟩ := info_parts pairinfo
  go_enter Try.func21, Try.ntmps21
  go_wp2_with fail
  go_loopw [2] (fun i wr => ∃ (k : Nat) (xs : List Value), k ≤ n ∧ i = .int .i64 k ∧ Own wr base 66 2 A n c xs ∧ w.grownBy wr (blk A)) (fun i _ => n - (intOf i).toNat)
  case atStart => exact ⟨0, gps l, by omega, by simp, hO, World.grownBy.refl _ _⟩
  case round =>
    obtain ⟨k, xs, hk, rfl, hO', hg⟩ := hrel
    clear hO
    by_cases h5 : k < n
    · have h5i : (k : Int) < (n : Int) := by omega
      have hip : (0 : Int) ≤ (k : Int) := by omega
      obtain ⟨g, off, rfl, hg1, hg2⟩ := hO'.form (by have := hO'.le; omega)
      have hlen := hO'.len
      obtain ⟨u0, hu0⟩ : ∃ u, xs[k * 2]? = some u := ⟨_, List.getElem?_eq_getElem (by omega)⟩
      obtain ⟨u1, hu1⟩ : ∃ u, xs[k * 2 + 1]? = some u := ⟨_, List.getElem?_eq_getElem (by omega)⟩
      have e0 : wr.cell? ⟨g, off + k * 2, none⟩ = some u0 := hO'.cell hu0
      have s0 := hO'.set (k * 2) (by omega) (.int .i64 (-7))
      have e1 : (wr.setCell ⟨g, off + k * 2, none⟩ (.int .i64 (-7))).cell? ⟨g, off + k * 2 + 1, none⟩ = some u1 := s0.cell (i := k * 2 + 1) (by rw [List.getElem?_set_ne (by omega)]; exact hu1)
      have s1 := s0.set (k * 2 + 1) (by omega) (.int .i64 (-7))
      have f0 : ∀ r, wr.frozen? ⟨g, r, none⟩ = false := fun r => hO'.frozen r
      have f1 : ∀ r, (wr.setCell ⟨g, off + k * 2, none⟩ (.int .i64 (-7))).frozen? ⟨g, r, none⟩ = false := fun r => s0.frozen r
      have hg3 := grown_setCell (p := ⟨g, off + k * 2 + 1, none⟩) (grown_setCell (p := ⟨g, off + k * 2, none⟩) hg (.inl rfl) (.int .i64 (-7))) (.inl rfl) (.int .i64 (-7))
      clear hu0 hu1 hlen s0 hg hO'
      go_wp2_with fail
      go_roundw
      case rel => exact ⟨k + 1, _, by omega, by go_num, s1, hg3⟩
      case measure => simp [intOf]; omega
    · have h5i : ¬ (k : Int) < (n : Int) := by omega
      have q4 : n + 2 ≤ maxLen := by unfold maxLen; omega
      have q5 : (n + 2) * 16 ≤ 140737488355328 := by omega
      have hz := hg.size
      have hOn := hO'.alloc (.cells #[.int .i64 (-7), .int .i64 (-7), .int .i64 (-7), .int .i64 (-7)] 66)
      have hR5 := Rd_lit wr [.int .i64 (-7), .int .i64 (-7), .int .i64 (-7), .int .i64 (-7)] 66
      have hbs : base ≤ (wr.alloc (.cells #[.int .i64 (-7), .int .i64 (-7), .int .i64 (-7), .int .i64 (-7)] 66)).heap.size := by simp; omega
      have hone : Hid (∀ u ∈ [Value.int .i64 (-7), .int .i64 (-7), .int .i64 (-7), .int .i64 (-7)], u.oneCell' = true) := Lib.hid (by
        intro u hu
        simp at hu
        rw [hu]
        rfl)
      go_wp2_with (at_builtin; refine wpList_append_Own (wr.alloc (.cells #[.int .i64 (-7), .int .i64 (-7), .int .i64 (-7), .int .i64 (-7)] 66)) rfl (.tmp 13) (.tmp 16) 24 rfl base 66 i0 _ 2 16 Try.underlying24 hi0 hz0 hz1 hz2 rfl A n c xs rfl hOn (some ⟨wr.heap.size, 0, none⟩) 2 2 [.int .i64 (-7), .int .i64 (-7), .int .i64 (-7), .int .i64 (-7)] rfl rfl hR5 hone.out q4 q5 hbs ?_; intro A6 c6 w6 hO6 hg6 hor6)
      go_end0
      exact ⟨rfl, grown_trans (grown_alloc hg _) hg6 (.inl rfl)⟩
end Go.Proofs.Ytianombjgdmbeaa
