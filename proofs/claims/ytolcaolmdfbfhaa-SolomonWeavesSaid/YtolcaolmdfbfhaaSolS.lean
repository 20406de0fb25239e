/-
  The program's register, and its Encode of code words.
-/
import Derived.Test.YtolcaolmdfbfhaaSolG
import Derived.Test.YtolcaolmdfbfhaaSolR
import Derived.Test.YtolcaolmdfbfhaaConcat
namespace Go.Proofs.Ytolcaolmdfbfhaa
set_option linter.unusedSimpArgs false
set_option linter.unusedVariables false
open Go.RowKit

set_option maxHeartbeats 1600000 in
theorem concat_pair (l D : List UInt8) (n m : Nat) (W : World) (A B : Option Addr) (c d : Nat) (hl : l.length = n) (hD : D.length = m) (hn : n ≤ 1048576) (hm : m ≤ 65536) (ha : Rd W A (bvs l)) (hb : Rd W B (bvs D)) :
    Calls Try.prog 68 #[.slice (some ⟨W.heap.size, 0, none⟩) 2 2] (W.alloc (.cells #[.slice A n c, .slice B m d] 22)) fun e w' =>
      ∃ A' c', e = .returned (.slice A' (n + m) c') ∧ Own w' W.heap.size 5 1 A' (n + m) c' (bvs (l ++ D)) ∧ Below W.heap.size W w' := by
  have hR : Rd (W.alloc (.cells #[.slice A n c, .slice B m d] 22)) (some ⟨W.heap.size, 0, none⟩) (([⟨A, l, c⟩, ⟨B, D, d⟩] : List Pc).map Pc.v) := by
    have := Rd_lit W [.slice A n c, .slice B m d] 22
    simpa [Pc.v, hl, hD] using this
  have hJ : joined [⟨A, l, c⟩, ⟨B, D, d⟩] = l ++ D := by simp [joined]
  have hN : (l ++ D).length = n + m := by rw [List.length_append, hl, hD]
  refine (concat_any _ _ 2 2 _ rfl (by decide) hR (fun p hp => ?_) (by rw [hJ, hN]; omega)).mono ?_
  · simp at hp
    rcases hp with rfl | rfl
    · exact ha.alloc _
    · exact hb.alloc _
  rw [hJ]
  rintro e w' ⟨A', c', rfl, hO, hB⟩
  rw [hN] at hO ⊢
  exact ⟨A', c', rfl, hO.mono (by simp), ((Below.refl _ _).alloc (Nat.le_refl _) _).trans (hB.mono (by simp))⟩

theorem bvs_set (R : List UInt8) (i : Nat) (z : UInt8) : (bvs R).toArray.setIfInBounds i (.int .u8 (z.toNat : Int)) = (bvs (R.set i z)).toArray := by
  apply Array.ext'
  simp [bvs, bv, List.map_set]
theorem regs_next (dv data : List UInt8) {k : Nat} (h : k < data.length) : regs dv (data.take (k + 1)) = regStep dv (regs dv (data.take k)) (data.getD k 0) := by
  unfold regs
  rw [List.take_succ_eq_append_getElem h, List.foldl_append]
  show regStep dv _ data[k] = _
  rw [List.getD, List.getElem?_eq_getElem h]
  rfl
theorem shift_splice (R : List UInt8) {ck : Nat} (h : R.length = ck) (h1 : 1 ≤ ck) : (splice (bvs R) 0 (bvs R.tail)).toArray.setIfInBounds (ck - 1) (.int .u8 0) = (bvs (R.tail ++ [0])).toArray := by
  apply Array.ext'
  have e : splice (bvs R) 0 (bvs R.tail) = bvs (R.tail ++ R.drop (ck - 1)) := by
    unfold splice
    rw [bvs_append, List.take_zero, List.nil_append, bvs_length, List.length_tail, h, Nat.zero_add]
    simp [bvs, List.map_drop]
  rw [e]
  obtain ⟨y, hy⟩ : ∃ y, R.drop (ck - 1) = [y] := by
    have : (R.drop (ck - 1)).length = 1 := by simp; omega
    match R.drop (ck - 1), this with
    | [y], _ => exact ⟨y, rfl⟩
  rw [hy]
  have ht : R.tail.length = ck - 1 := by rw [List.length_tail, h]
  simp only [Array.toList_setIfInBounds]
  show (bvs (R.tail ++ [y])).set (ck - 1) _ = bvs (R.tail ++ [0])
  rw [bvs_append, bvs_append, List.set_append_right _ _ (by rw [bvs_length]; omega), bvs_length, ht, Nat.sub_self]
  rfl

set_option maxHeartbeats 6400000 in
set_option maxRecDepth 100000 in
theorem shifted_one (A : Option Addr) (l : List UInt8) (n c : Nat) (b o d : Nat) (dv : List UInt8) (w : World) (hl : l.length = n) (ha : Rd w A (bvs l)) (hdv : dv.length = 1) (hd : Rd w (some ⟨b, o, none⟩) (bvs dv)) (hn : n ≤ 1048576) (hbw : b < w.heap.size) :
    Calls Try.prog 116 #[.slice A n c, .slice (some ⟨b, o, none⟩) 1 d] w fun e w' => ∃ A' c', e = .returned (.slice A' (n + 1) c') ∧ Own w' w.heap.size 5 1 A' (n + 1) c' (bvs (l ++ regs dv l)) ∧ Below w.heap.size w w' := by
  obtain ⟨i0, hi0, hz0, hz1, hz2⟩ := info_parts u8info
  have h1 : 1 ≤ 1 := Nat.le_refl _
  have h64 : 1 ≤ 64 := by omega
  have HL := Lib.hid hl
  have HD := Lib.hid hdv
  have hmk := run_make_rowN (P := Try.prog) 22 5 i0 (.int .u8 0) Try.underlying22 hi0 hz0 .i64 .i64 1 1 (Nat.le_refl _) (by rw [hz2]; omega) (by omega)
  rw [show ((1 : Nat) : Int) = 1 from rfl] at hmk
  have hsz1 : (Try.prog.info? 5).map (·.size) = some 1 := by kernel_rfl
  have hR0 : regs dv (l.take 0) = List.replicate 1 0 := by unfold regs; rw [hdv]; rfl
  have HR0 := Lib.hid hR0
  clear hl hdv hR0
  go_enter Try.func116, Try.ntmps116
  go_wp2_with fail
  obtain ⟨W1, hW1⟩ : ∃ W : World, W = w.alloc (.cells (madeCells #[.int .u8 0] 1) 5) := ⟨_, rfl⟩
  rw [← hW1]
  have hK1 : Blk W1 w.heap.size 5 (bvs (regs dv (l.take 0))).toArray := by
    rw [hW1, HR0.out]
    have h := Blk.new w 5 (madeCells #[.int .u8 0] 1)
    have e : madeCells #[Value.int .u8 0] 1 = (bvs (List.replicate 1 0)).toArray := by
      apply Array.ext'
      rw [toList_madeCells_one]
      simp [bvs, bv]
    unfold Blk at h ⊢
    rw [h, e]
  have hB1 : Below w.heap.size w W1 := by rw [hW1]; exact (by repeat (first | with_reducible exact Below.refl _ _ | with_reducible assumption | with_reducible refine below_drewN ?_ _ | with_reducible refine Below.drew ?_ | with_reducible refine Below.alloc ?_ ?_ _ | with_reducible refine Below.setCell ?_ ?_ _ | with_reducible exact Nat.le_refl _ | (simp; omega) | (simp; done)))
  clear hW1 hmk
  go_loopw [16] (fun iv wr => ∃ i : Nat, i ≤ n ∧ iv = .int .i64 i ∧ Blk wr w.heap.size 5 (bvs (regs dv (l.take i))).toArray ∧ Below w.heap.size w wr) (fun iv _ => n - (intOf iv).toNat)
  case atStart => exact ⟨0, Nat.zero_le _, rfl, hK1, hB1⟩
  case round =>
    obtain ⟨i, hi, rfl, hK, hB⟩ := hrel
    clear hK1 hB1
    have hRl : (regs dv (l.take i)).length = 1 := by
      unfold regs
      rw [regs_len _ (by rw [HD.out]; omega) _ _ (by rw [List.length_replicate]), HD.out]
    have HRL := Lib.hid hRl
    clear hRl
    by_cases h5 : i < n
    · obtain ⟨ba, oa, rfl, hca⟩ := (ha.below hB).byteD (k := i) (by rw [HL.out]; exact h5)
      have HN : Hid (regs dv (l.take (i + 1)) = regStep dv (regs dv (l.take i)) (l.getD i 0)) := regs_next dv l (by rw [HL.out]; exact h5)
      have hba : ba < w.heap.size := by
        obtain ⟨_, _, e, hc⟩ := ha.byte (k := i) (by rw [HL.out]; exact h5)
        injection e with e
        injection e with e1 e2
        subst e1
        exact World.block_lt_of_cell? _ _ hc
      generalize hNe : regs dv (l.take (i + 1)) = RN at *
      have HNe := Lib.hid hNe
      clear hNe
      generalize regs dv (l.take i) = R at *
      generalize l.getD i 0 = x at *
      have hc0 : wr.cell? ⟨w.heap.size, 0, none⟩ = some (.int .u8 ((R.getD 0 0).toNat : Int)) := by
        refine hK.cell' ?_
        rw [List.getElem?_toArray]
        rw [bvs_get (show 0 < R.length by rw [HRL.out]; omega)]
        simp [List.getD, show 0 < R.length by rw [HRL.out]; omega]
      generalize hz0 : R.getD 0 0 = z at *
      have hz := Lib.hid hz0
      clear hz0
      have ex := xor_u8 x z
      have gx := byte_lt x
      have gz := byte_lt z
      have h1i : (1 : Int) ≤ (1 : Int) := by omega
      have h0i : (0 : Int) < (1 : Int) := by omega
      have h5i : (i : Int) < (n : Int) := by omega
      have hne : ¬ ba = w.heap.size := by omega
      go_wp2_with (with_reducible refine wpList_copy_splice rfl (.tmp 25) (.tmp 27) 22 22 rfl 5 Try.underlying22 hsz1 _ _ _ _  0 _ rfl rfl w.heap.size 0 (bvs R) 5 ?h1 (bvs R.tail) ?h2 ?h3 ?h4 (bvs_one _) w.heap.size w ?h5 (Nat.le_refl _) ?h6)
      case h1 => exact hK
      case h2 => simp [bvs_length, HRL.out]
      case h3 => intro h; rw [bvs_length, List.length_tail, HRL.out] at h; omega
      case h4 => simp [bvs_length, HRL.out]
      case h5 => exact hB
      case h6 =>
        intro w1 hg1 hb1
        have hK1 : Blk w1 w.heap.size 5 (splice (bvs R) 0 (bvs R.tail)).toArray := hg1.out
        have hsp := Lib.hid (shift_splice R HRL.out h1)
        have hc1 : ∃ u, w1.cell? ⟨w.heap.size, 1 - 1, none⟩ = some u := by
          have hsz : (splice (bvs R) 0 (bvs R.tail)).length = 1 := by unfold splice; simp [bvs_length, HRL.out] <;> omega
          refine ⟨(splice (bvs R) 0 (bvs R.tail))[1 - 1]'(by omega), hK1.cell' ?_⟩
          rw [List.getElem?_toArray, List.getElem?_eq_getElem (by omega)]
        obtain ⟨u0, hc1⟩ := hc1
        have hf1 := hK1.frozen (1 - 1)
        clear hg1
        go_wp2_with fail
        obtain ⟨W2, hW2⟩ : ∃ W : World, W = w1.setCell ⟨w.heap.size, 0, none⟩ (.int .u8 0) := ⟨_, rfl⟩
        rw [← hW2]
        have hK2 : Blk W2 w.heap.size 5 (bvs (addTo (R.tail ++ [0]) dv (x ^^^ z) 0 0)).toArray := by
          rw [hW2]
          show Blk _ _ _ (bvs (R.tail ++ [0])).toArray
          rw [← hsp.out]
          exact hK1.set_ (1 - 1) _
        have hB2 : Below w.heap.size w W2 := by rw [hW2]; exact hb1.setCell (Nat.le_refl _) _
        clear hW2 hK1 hc1 hf1 hb1
        go_loopw [36] (fun jv wr => ∃ j : Nat, j ≤ 1 ∧ jv = .int .i64 j ∧ Blk wr w.heap.size 5 (bvs (addTo (R.tail ++ [0]) dv (x ^^^ z) 0 j)).toArray ∧ Below w.heap.size w wr) (fun jv _ => 1 - (intOf jv).toNat)
        case atStart => exact ⟨0, Nat.zero_le _, rfl, hK2, hB2⟩
        case round =>
          obtain ⟨j, hj, rfl, hK3, hB3⟩ := hrel
          clear hK2 hB2
          by_cases h6 : j < 1
          · have h6i : (j : Int) < (1 : Int) := by omega
            have hcd := (hd.below hB3).byteE (k := j) (by rw [HD.out]; exact h6)
            have hnb : ¬ b = w.heap.size := by omega
            have hAl : (addTo (R.tail ++ [0]) dv (x ^^^ z) 0 j).length = 1 := by rw [addTo_length, List.length_append, List.length_tail, HRL.out]; simp <;> omega
            have hcr : wr.cell? ⟨w.heap.size, j, none⟩ = some (.int .u8 (((addTo (R.tail ++ [0]) dv (x ^^^ z) 0 j).getD j 0).toNat : Int)) := by
              refine hK3.cell' ?_
              rw [List.getElem?_toArray, bvs_get (show j < (addTo (R.tail ++ [0]) dv (x ^^^ z) 0 j).length by omega)]
              simp [List.getD, show j < (addTo (R.tail ++ [0]) dv (x ^^^ z) 0 j).length by omega]
            have hfr := hK3.frozen j
            have HA : Hid (addTo (R.tail ++ [0]) dv (x ^^^ z) 0 (j + 1) = (addTo (R.tail ++ [0]) dv (x ^^^ z) 0 j).set j ((addTo (R.tail ++ [0]) dv (x ^^^ z) 0 j).getD j 0 ^^^ mulB (x ^^^ z) (dv.getD j 0))) := by
              show (addTo (R.tail ++ [0]) dv (x ^^^ z) 0 j).set (0 + j) ((addTo (R.tail ++ [0]) dv (x ^^^ z) 0 j).getD (0 + j) 0 ^^^ _) = _
              rw [Nat.zero_add]
            have HM := Lib.hid (fun (y : UInt8) w => mulB_q ((x.toNat ^^^ z.toNat : Nat) : Int) _ (x ^^^ z) y w (by rw [UInt8.toNat_xor]) rfl)
            generalize hS : addTo (R.tail ++ [0]) dv (x ^^^ z) 0 j = S at *
            clear hS hAl
            generalize S.getD j 0 = v at *
            generalize dv.getD j 0 = y at *
            have ex := xor_u8 v (mulB (x ^^^ z) y)
            have gv := byte_lt v
            have gy := byte_lt y
            go_upto_region 11 with fail
            go_region_law (first | (go_simp; go_at_call 94; refine (HM.out y _).mono ?_; rintro e w' ⟨rfl, rfl⟩))
            all_goals clear ex
            all_goals go_wp2
            all_goals go_roundw
            all_goals first
              | (simp [intOf] <;> omega)
              | (refine ⟨j + 1, by omega, by go_num, ?_, (hB3.setCell (Nat.le_refl _) _).drew⟩
                 rw [HA.out, ← bvs_set]
                 have := (hK3.set_ j (.int .u8 ((v ^^^ mulB (x ^^^ z) y).toNat : Int))).drew
                 rw [UInt8.toNat_xor] at this ⊢
                 exact this)
          · obtain rfl : j = 1 := by omega
            have hF : regStep dv R x = addTo (R.tail ++ [0]) dv (x ^^^ z) 0 1 := by unfold regStep; rw [hz.out, HD.out]
            go_wp2_with fail
            go_roundw
            case rel => exact ⟨i + 1, by omega, by go_num, by rw [HNe.out, HN.out, hF]; exact hK3, hB3⟩
            case measure => simp [intOf]; omega
    · obtain rfl : i = n := by omega
      have HT : Hid (l.take i = l) := by show _ = _; exact List.take_of_length_le (by rw [HL.out]; exact Nat.le_refl _)
      rw [HT.out] at hK HRL
      have hRd : Rd wr (some ⟨w.heap.size, 0, none⟩) (bvs (regs dv l)) := Rd.of_block hK (fun k u h => by simpa using h)
      go_wp2_with fail
      refine (concat_pair l (regs dv l) i 1 wr A (some ⟨w.heap.size, 0, none⟩) c 1 HL.out HRL.out hn (by omega) (ha.below hB) hRd).mono ?_
      rintro e w2 ⟨A2, c2, rfl, hO2, hb2⟩
      go_wp2
      go_ret
      exact ⟨A2, c2, rfl, hO2.mono hB.size, nextB hB hB.size hb2⟩

set_option maxHeartbeats 6400000 in
set_option maxRecDepth 100000 in
theorem shifted_more (A : Option Addr) (l : List UInt8) (n c : Nat) (b o d ck : Nat) (dv : List UInt8) (w : World) (hl : l.length = n) (ha : Rd w A (bvs l)) (hdv : dv.length = ck) (hd : Rd w (some ⟨b, o, none⟩) (bvs dv)) (h1 : 1 ≤ ck) (hck : ¬ ck = 1) (h64 : ck ≤ 64) (hn : n ≤ 1048576) (hbw : b < w.heap.size) :
    Calls Try.prog 116 #[.slice A n c, .slice (some ⟨b, o, none⟩) ck d] w fun e w' => ∃ A' c', e = .returned (.slice A' (n + ck) c') ∧ Own w' w.heap.size 5 1 A' (n + ck) c' (bvs (l ++ regs dv l)) ∧ Below w.heap.size w w' := by
  obtain ⟨i0, hi0, hz0, hz1, hz2⟩ := info_parts u8info
  have HL := Lib.hid hl
  have HD := Lib.hid hdv
  have hmk := run_make_rowN (P := Try.prog) 22 5 i0 (.int .u8 0) Try.underlying22 hi0 hz0 .i64 .i64 ck ck (Nat.le_refl _) (by rw [hz2]; omega) (by omega)
  have hsz1 : (Try.prog.info? 5).map (·.size) = some 1 := by kernel_rfl
  have hR0 : regs dv (l.take 0) = List.replicate ck 0 := by unfold regs; rw [hdv]; rfl
  have HR0 := Lib.hid hR0
  clear hl hdv hR0
  go_enter Try.func116, Try.ntmps116
  go_wp2_with fail
  obtain ⟨W1, hW1⟩ : ∃ W : World, W = w.alloc (.cells (madeCells #[.int .u8 0] ck) 5) := ⟨_, rfl⟩
  rw [← hW1]
  have hK1 : Blk W1 w.heap.size 5 (bvs (regs dv (l.take 0))).toArray := by
    rw [hW1, HR0.out]
    have h := Blk.new w 5 (madeCells #[.int .u8 0] ck)
    have e : madeCells #[Value.int .u8 0] ck = (bvs (List.replicate ck 0)).toArray := by
      apply Array.ext'
      rw [toList_madeCells_one]
      simp [bvs, bv]
    unfold Blk at h ⊢
    rw [h, e]
  have hB1 : Below w.heap.size w W1 := by rw [hW1]; exact (by repeat (first | with_reducible exact Below.refl _ _ | with_reducible assumption | with_reducible refine below_drewN ?_ _ | with_reducible refine Below.drew ?_ | with_reducible refine Below.alloc ?_ ?_ _ | with_reducible refine Below.setCell ?_ ?_ _ | with_reducible exact Nat.le_refl _ | (simp; omega) | (simp; done)))
  clear hW1 hmk
  go_loopw [16] (fun iv wr => ∃ i : Nat, i ≤ n ∧ iv = .int .i64 i ∧ Blk wr w.heap.size 5 (bvs (regs dv (l.take i))).toArray ∧ Below w.heap.size w wr) (fun iv _ => n - (intOf iv).toNat)
  case atStart => exact ⟨0, Nat.zero_le _, rfl, hK1, hB1⟩
  case round =>
    obtain ⟨i, hi, rfl, hK, hB⟩ := hrel
    clear hK1 hB1
    have hRl : (regs dv (l.take i)).length = ck := by
      unfold regs
      rw [regs_len _ (by rw [HD.out]; omega) _ _ (by rw [List.length_replicate]), HD.out]
    have HRL := Lib.hid hRl
    clear hRl
    by_cases h5 : i < n
    · obtain ⟨ba, oa, rfl, hca⟩ := (ha.below hB).byteD (k := i) (by rw [HL.out]; exact h5)
      have HN : Hid (regs dv (l.take (i + 1)) = regStep dv (regs dv (l.take i)) (l.getD i 0)) := regs_next dv l (by rw [HL.out]; exact h5)
      have hba : ba < w.heap.size := by
        obtain ⟨_, _, e, hc⟩ := ha.byte (k := i) (by rw [HL.out]; exact h5)
        injection e with e
        injection e with e1 e2
        subst e1
        exact World.block_lt_of_cell? _ _ hc
      generalize hNe : regs dv (l.take (i + 1)) = RN at *
      have HNe := Lib.hid hNe
      clear hNe
      generalize regs dv (l.take i) = R at *
      generalize l.getD i 0 = x at *
      have hc0 : wr.cell? ⟨w.heap.size, 0, none⟩ = some (.int .u8 ((R.getD 0 0).toNat : Int)) := by
        refine hK.cell' ?_
        rw [List.getElem?_toArray]
        rw [bvs_get (show 0 < R.length by rw [HRL.out]; omega)]
        simp [List.getD, show 0 < R.length by rw [HRL.out]; omega]
      generalize hz0 : R.getD 0 0 = z at *
      have hz := Lib.hid hz0
      clear hz0
      have ex := xor_u8 x z
      have gx := byte_lt x
      have gz := byte_lt z
      have h1i : (1 : Int) ≤ (ck : Int) := by omega
      have h0i : (0 : Int) < (ck : Int) := by omega
      have h5i : (i : Int) < (n : Int) := by omega
      have hne : ¬ ba = w.heap.size := by omega
      go_wp2_with (with_reducible refine wpList_copy_splice rfl (.tmp 25) (.tmp 27) 22 22 rfl 5 Try.underlying22 hsz1 _ _ _ _  (ck - 1) _ rfl rfl w.heap.size 0 (bvs R) 5 ?h1 (bvs R.tail) ?h2 ?h3 ?h4 (bvs_one _) w.heap.size w ?h5 (Nat.le_refl _) ?h6)
      case h1 => exact hK
      case h2 => simp [bvs_length, HRL.out] <;> omega
      case h3 =>
        intro h j v hv
        refine hK.cell' ?_
        rw [List.getElem?_toArray]
        have e : (bvs R.tail)[j]? = (bvs R)[1 + j]? := by
          simp only [bvs, List.getElem?_map, List.getElem?_tail]
          rw [Nat.add_comm]
        rw [← e]
        exact hv
      case h4 => simp [bvs_length, HRL.out]
      case h5 => exact hB
      case h6 =>
        intro w1 hg1 hb1
        have hK1 : Blk w1 w.heap.size 5 (splice (bvs R) 0 (bvs R.tail)).toArray := hg1.out
        have hsp := Lib.hid (shift_splice R HRL.out h1)
        have hc1 : ∃ u, w1.cell? ⟨w.heap.size, ck - 1, none⟩ = some u := by
          have hsz : (splice (bvs R) 0 (bvs R.tail)).length = ck := by unfold splice; simp [bvs_length, HRL.out] <;> omega
          refine ⟨(splice (bvs R) 0 (bvs R.tail))[ck - 1]'(by omega), hK1.cell' ?_⟩
          rw [List.getElem?_toArray, List.getElem?_eq_getElem (by omega)]
        obtain ⟨u0, hc1⟩ := hc1
        have hf1 := hK1.frozen (ck - 1)
        clear hg1
        go_wp2_with fail
        obtain ⟨W2, hW2⟩ : ∃ W : World, W = w1.setCell ⟨w.heap.size, ck - 1, none⟩ (.int .u8 0) := ⟨_, rfl⟩
        rw [← hW2]
        have hK2 : Blk W2 w.heap.size 5 (bvs (addTo (R.tail ++ [0]) dv (x ^^^ z) 0 0)).toArray := by
          rw [hW2]
          show Blk _ _ _ (bvs (R.tail ++ [0])).toArray
          rw [← hsp.out]
          exact hK1.set_ (ck - 1) _
        have hB2 : Below w.heap.size w W2 := by rw [hW2]; exact hb1.setCell (Nat.le_refl _) _
        clear hW2 hK1 hc1 hf1 hb1
        go_loopw [36] (fun jv wr => ∃ j : Nat, j ≤ ck ∧ jv = .int .i64 j ∧ Blk wr w.heap.size 5 (bvs (addTo (R.tail ++ [0]) dv (x ^^^ z) 0 j)).toArray ∧ Below w.heap.size w wr) (fun jv _ => ck - (intOf jv).toNat)
        case atStart => exact ⟨0, Nat.zero_le _, rfl, hK2, hB2⟩
        case round =>
          obtain ⟨j, hj, rfl, hK3, hB3⟩ := hrel
          clear hK2 hB2
          by_cases h6 : j < ck
          · have h6i : (j : Int) < (ck : Int) := by omega
            have hcd := (hd.below hB3).byteE (k := j) (by rw [HD.out]; exact h6)
            have hnb : ¬ b = w.heap.size := by omega
            have hAl : (addTo (R.tail ++ [0]) dv (x ^^^ z) 0 j).length = ck := by rw [addTo_length, List.length_append, List.length_tail, HRL.out]; simp <;> omega
            have hcr : wr.cell? ⟨w.heap.size, j, none⟩ = some (.int .u8 (((addTo (R.tail ++ [0]) dv (x ^^^ z) 0 j).getD j 0).toNat : Int)) := by
              refine hK3.cell' ?_
              rw [List.getElem?_toArray, bvs_get (show j < (addTo (R.tail ++ [0]) dv (x ^^^ z) 0 j).length by omega)]
              simp [List.getD, show j < (addTo (R.tail ++ [0]) dv (x ^^^ z) 0 j).length by omega]
            have hfr := hK3.frozen j
            have HA : Hid (addTo (R.tail ++ [0]) dv (x ^^^ z) 0 (j + 1) = (addTo (R.tail ++ [0]) dv (x ^^^ z) 0 j).set j ((addTo (R.tail ++ [0]) dv (x ^^^ z) 0 j).getD j 0 ^^^ mulB (x ^^^ z) (dv.getD j 0))) := by
              show (addTo (R.tail ++ [0]) dv (x ^^^ z) 0 j).set (0 + j) ((addTo (R.tail ++ [0]) dv (x ^^^ z) 0 j).getD (0 + j) 0 ^^^ _) = _
              rw [Nat.zero_add]
            have HM := Lib.hid (fun (y : UInt8) w => mulB_q ((x.toNat ^^^ z.toNat : Nat) : Int) _ (x ^^^ z) y w (by rw [UInt8.toNat_xor]) rfl)
            generalize hS : addTo (R.tail ++ [0]) dv (x ^^^ z) 0 j = S at *
            clear hS hAl
            generalize S.getD j 0 = v at *
            generalize dv.getD j 0 = y at *
            have ex := xor_u8 v (mulB (x ^^^ z) y)
            have gv := byte_lt v
            have gy := byte_lt y
            go_upto_region 11 with fail
            go_region_law (first | (go_simp; go_at_call 94; refine (HM.out y _).mono ?_; rintro e w' ⟨rfl, rfl⟩))
            all_goals clear ex
            all_goals go_wp2
            all_goals go_roundw
            all_goals first
              | (simp [intOf] <;> omega)
              | (refine ⟨j + 1, by omega, by go_num, ?_, (hB3.setCell (Nat.le_refl _) _).drew⟩
                 rw [HA.out, ← bvs_set]
                 have := (hK3.set_ j (.int .u8 ((v ^^^ mulB (x ^^^ z) y).toNat : Int))).drew
                 rw [UInt8.toNat_xor] at this ⊢
                 exact this)
          · obtain rfl : j = ck := by omega
            have hF : regStep dv R x = addTo (R.tail ++ [0]) dv (x ^^^ z) 0 j := by unfold regStep; rw [hz.out, HD.out]
            go_wp2_with fail
            go_roundw
            case rel => exact ⟨i + 1, by omega, by go_num, by rw [HNe.out, HN.out, hF]; exact hK3, hB3⟩
            case measure => simp [intOf]; omega
    · obtain rfl : i = n := by omega
      have HT : Hid (l.take i = l) := by show _ = _; exact List.take_of_length_le (by rw [HL.out]; exact Nat.le_refl _)
      rw [HT.out] at hK HRL
      have hRd : Rd wr (some ⟨w.heap.size, 0, none⟩) (bvs (regs dv l)) := Rd.of_block hK (fun k u h => by simpa using h)
      go_wp2_with fail
      refine (concat_pair l (regs dv l) i ck wr A (some ⟨w.heap.size, 0, none⟩) c ck HL.out HRL.out hn (by omega) (ha.below hB) hRd).mono ?_
      rintro e w2 ⟨A2, c2, rfl, hO2, hb2⟩
      go_wp2
      go_ret
      exact ⟨A2, c2, rfl, hO2.mono hB.size, nextB hB hB.size hb2⟩

theorem shifted_any (A : Option Addr) (l : List UInt8) (n c : Nat) (b o d ck : Nat) (dv : List UInt8) (w : World) (hl : l.length = n) (ha : Rd w A (bvs l)) (hdv : dv.length = ck) (hd : Rd w (some ⟨b, o, none⟩) (bvs dv)) (h1 : 1 ≤ ck) (h64 : ck ≤ 64) (hn : n ≤ 1048576) (hbw : b < w.heap.size) :
    Calls Try.prog 116 #[.slice A n c, .slice (some ⟨b, o, none⟩) ck d] w fun e w' => ∃ A' c', e = .returned (.slice A' (n + ck) c') ∧ Own w' w.heap.size 5 1 A' (n + ck) c' (bvs (l ++ regs dv l)) ∧ Below w.heap.size w w' := by
  by_cases hck : ck = 1
  · subst hck
    exact shifted_one A l n c b o d dv w hl ha hdv hd hn hbw
  · exact shifted_more A l n c b o d ck dv w hl ha hdv hd h1 hck h64 hn hbw
end Go.Proofs.Ytolcaolmdfbfhaa
