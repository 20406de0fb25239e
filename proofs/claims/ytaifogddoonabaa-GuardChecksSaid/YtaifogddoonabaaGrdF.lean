/-
  The document's GuardFault.
-/
import Derived.Test.YtaifogddoonabaaGrdK
import Derived.RegionTactic
import Derived.BigQuiet
import Derived.Deep.QuietTactic
namespace Go.Proofs.Ytaifogddoonabaa
set_option linter.unusedSimpArgs false
set_option linter.unusedVariables false
open Go.RowKit

theorem quiet_same {P : Program} {f : FuncId} {args : Array Value} {w : World} {n : Nat} {v : Value}
    (h : Calls P f args (w.drewN n) fun e w' => e = .returned v ∧ w.drewN n = w') : Calls P f args (w.drewN n) fun e w'' => e = .returned v ∧ ∃ m, w'' = w.drewN m :=
  h.mono fun _ _ ⟨he, hm⟩ => ⟨he, n, hm.symm⟩
theorem rin_is (n l m : Int) (r : Bool) (w : World) (h : Hid (rngOk n l m = r)) : Calls Try.prog 29 #[.int .i64 n, .int .i64 l, .int .i64 m] w fun e w' => e = .returned (.bool r) ∧ w = w' := by
  have := rin_any n l m w
  rw [h.out] at this
  exact this
theorem wrap_yes (n : Int) (w : World) (h : Hid (wordOk n = true)) : Calls Try.prog 37 #[.int .i64 n] w fun e w' => e = .returned (.int .i64 n) ∧ w = w' := by
  have := wrap_any n w
  have e := word_fix n
  rw [h.out, beq_iff_eq] at e
  rw [← e] at this
  exact this
theorem wrap_no (n v : Int) (w : World) (h : Hid (wrap64 (wrap32 n) = v)) : Calls Try.prog 37 #[.int .i64 n] w fun e w' => e = .returned (.int .i64 v) ∧ w = w' := by
  have := wrap_any n w
  rw [h.out] at this
  exact this
theorem mayName_is (s : ByteArray) (r : Bool) (w : World) (h : Hid (rnameOk s = r)) : Calls Try.prog 38 #[.string s] w fun e w' => e = .returned (.bool r) ∧ w = w' := by
  have := nameMay_any s w
  rw [h.out] at this
  exact this
theorem txt_none {s : ByteArray} (h : s.size = 0) : (s.toList == (⟨#[]⟩ : ByteArray).toList) = true ∧ (s.toList == []) = true ∧ s.toList.isEmpty = true := by
  obtain rfl : s = ⟨#[]⟩ := ByteArray.ext (Array.eq_empty_of_size_eq_zero h)
  simp
theorem txt_some {s : ByteArray} (h : ¬ s.size = 0) : (s.toList == (⟨#[]⟩ : ByteArray).toList) = false ∧ (s.toList == []) = false ∧ s.toList.isEmpty = false := by
  have hl : s.toList ≠ [] := by
    intro h2
    have e : s.toList = s.data.toList := by rcases s with ⟨⟨d⟩⟩; simp
    have : s.data.toList = [] := by rw [← e]; exact h2
    exact h (by show s.data.size = 0; rw [← Array.length_toList, this]; rfl)
  have hz : (⟨#[]⟩ : ByteArray).toList = [] := by simp
  refine ⟨by rw [hz, beq_eq_false_iff_ne]; exact hl, by rw [beq_eq_false_iff_ne]; exact hl, ?_⟩
  rw [List.isEmpty_eq_false_iff]
  exact hl
theorem name_empty {s : ByteArray} (h : s.size = 0) : nameOk s = true := by
  unfold nameOk
  rw [h]
  rfl
theorem name_some {s : ByteArray} (h : 0 < s.size) : rnameOk s = nameOk s := by
  unfold rnameOk
  rw [decide_eq_true h]
  rfl
set_option maxHeartbeats 6400000 in
set_option maxRecDepth 100000 in
theorem fault_any (g : Grd) (A : Option Addr) (n c : Nat) (w : World) (hn : g.mons.length = n) (hR : Rd w A (mvs g.mons)) :
    Calls Try.prog 19 #[grv g A n c] w fun e w' => e = .returned (.agg #[.int .i64 (grdE g).1, .int .i64 (grdE g).2]) ∧ Below w.heap.size w w' := by
  obtain ⟨mons, silence, most, window, nm⟩ := g
  unfold grv
  dsimp only at hn hR ⊢
  obtain ⟨⟨r1, r2⟩, hr⟩ : ∃ r, grdE ⟨mons, silence, most, window, nm⟩ = r := ⟨_, rfl⟩
  have HR := Lib.hid hr
  rw [hr]
  clear hr
  dsimp only
  have HN := Lib.hid hn
  have HRd := Lib.hid hR
  clear hn hR
  have b1 := (Blk.new w 42 #[.slice A n c, .int .i64 silence, .int .i64 most, .int .i64 window, .string nm]).alloc (.cells #[.int .i64 0, .int .i64 0] 51)
  have b2 := Blk.new (w.alloc (.cells #[.slice A n c, .int .i64 silence, .int .i64 most, .int .i64 window, .string nm] 42)) 51 #[.int .i64 0, .int .i64 0]
  rw [show (w.alloc (.cells #[.slice A n c, .int .i64 silence, .int .i64 most, .int .i64 window, .string nm] 42)).heap.size = w.heap.size + 1 by simp] at b2
  have hB : Below w.heap.size w ((w.alloc (.cells #[.slice A n c, .int .i64 silence, .int .i64 most, .int .i64 window, .string nm] 42)).alloc (.cells #[.int .i64 0, .int .i64 0] 51)) := ((Below.refl _ _).alloc (Nat.le_refl _) _).alloc (by simp) _
  by_cases h32 : 32 < n
  · have i32 : (32 : Int) < (n : Int) := by omega
    obtain ⟨rfl, rfl⟩ : r1 = 1 ∧ r2 = 0 := by
      have := HR.out
      unfold grdE at this
      dsimp only at this
      rw [HN.out, if_pos h32] at this
      injection this with h1 h2
      exact ⟨h1.symm, h2.symm⟩
    go_enter Try.func19, Try.ntmps19
    go_upto_region 1 with fail
    generalize (w.alloc (.cells #[.slice A n c, .int .i64 silence, .int .i64 most, .int .i64 window, .string nm] 42)).alloc (.cells #[.int .i64 0, .int .i64 0] 51) = W0 at *
    have x0 := b1.cell' (i := 0) rfl
    have b2' := b2
    have hB' := hB
    go_wp2_with (refine wpList_store_row rfl 51 (.tmp 2) (.tmp 9) rfl (w.heap.size + 1) #[.int .i64 1, .int .i64 0] rfl rfl 51 _ b2' faultsz rfl (by simp [Value.oneCell']) ?_)
    have b3 := b2'.row #[.int .i64 1, .int .i64 0]
    refine bodyPost_ret (v := .agg #[.int .i64 1, .int .i64 0]) (results_cell_row (ty := 51) rfl _ _ (w.heap.size + 1) 51 _ (0, 0) _ rfl b3 Try.underlying51 rfl faultsz) rfl ?_
    exact ⟨rfl, below_row hB' (by omega) _⟩
  · have i32 : ¬ (32 : Int) < (n : Int) := by omega
    have hG : (match monsE mons 0 with | some e => e | none => tailE silence most window nm) = (r1, r2) := by
      have := HR.out
      unfold grdE at this
      dsimp only at this
      rw [HN.out, if_neg h32] at this
      exact this
    have HG := Lib.hid hG
    clear hG h32 HR
    go_enter Try.func19, Try.ntmps19
    go_upto_region 1 with fail
    generalize (w.alloc (.cells #[.slice A n c, .int .i64 silence, .int .i64 most, .int .i64 window, .string nm] 42)).alloc (.cells #[.int .i64 0, .int .i64 0] 51) = W0 at *
    have x0 := b1.cell' (i := 0) rfl
    go_wp2_with fail
    clear x0
    go_loopw [3] (fun iv wr => ∃ i : Nat, i ≤ n ∧ iv = .int .i64 (i : Int) ∧ Blk wr w.heap.size 42 #[.slice A n c, .int .i64 silence, .int .i64 most, .int .i64 window, .string nm] ∧ Blk wr (w.heap.size + 1) 51 #[.int .i64 0, .int .i64 0] ∧ Below w.heap.size w wr ∧ Hid (∀ (j : Nat) (m : Mon), j < i → mons[j]? = some m → monE m = 0)) (fun iv _ => n - (intOf iv).toNat)
    case atStart => exact ⟨0, Nat.zero_le _, rfl, b1, b2, hB, Lib.hid (fun j m hj _ => by omega)⟩
    case round =>
      clear b1 b2 hB
      obtain ⟨i, hi, rfl, b1, b2, hB, HF⟩ := hrel
      have x0 := b1.cell' (i := 0) rfl
      by_cases h5 : i < n
      · have h5i : (i : Int) < (n : Int) := by omega
        have hip : (0 : Int) ≤ (i : Int) := by omega
        have hiL : i < mons.length := by rw [HN.out]; exact h5
        have hx := List.getElem?_eq_getElem hiL
        obtain ⟨x, hxx⟩ : ∃ x, mons[i] = x := ⟨_, rfl⟩
        rw [hxx] at hx
        clear hxx hiL
        obtain ⟨g, o, rfl, y0, y1, y2, y3, y4, y5⟩ := rdmon_cells (HRd.out.below hB) hx
        have HX := Lib.hid hx
        clear hx
        obtain ⟨e, he⟩ : ∃ e, monE x = e := ⟨_, rfl⟩
        have HE := Lib.hid he
        clear he
        obtain ⟨of, low, high, wait, tier, name⟩ := x
        dsimp only at y0 y1 y2 y3 y4 y5
        have zr := hB.size
        have bm := Blk.new wr 68 #[.int .i64 of, .int .i64 low, .int .i64 high, .int .i64 wait, .int .i64 tier, .string name]
        have c1 := b1.alloc (.cells #[.int .i64 of, .int .i64 low, .int .i64 high, .int .i64 wait, .int .i64 tier, .string name] 68)
        have c2 := b2.alloc (.cells #[.int .i64 of, .int .i64 low, .int .i64 high, .int .i64 wait, .int .i64 tier, .string name] 68)
        have cB := hB.alloc zr (.cells #[.int .i64 of, .int .i64 low, .int .i64 high, .int .i64 wait, .int .i64 tier, .string name] 68)
        have zW : wr.heap.size < (wr.alloc (.cells #[.int .i64 of, .int .i64 low, .int .i64 high, .int .i64 wait, .int .i64 tier, .string name] 68)).heap.size := by simp
        go_upto_region 7 with fail
        clear y0 y1 y2 y3 y4 y5 x0 b1 b2 hB
        generalize wr.alloc (.cells #[.int .i64 of, .int .i64 low, .int .i64 high, .int .i64 wait, .int .i64 tier, .string name] 68) = W at *
        have y0 := bm.cell' (i := 0) rfl
        have y1 := bm.cell' (i := 1) rfl
        have y2 := bm.cell' (i := 2) rfl
        have y3 := bm.cell' (i := 3) rfl
        have y4 := bm.cell' (i := 4) rfl
        cases h1 : rngOk of 0 63
        · have e2 : e = 2 := by rw [← HE.out]; simp [monE, monOk, h1]
          have H1 := Lib.hid h1
          have ie : (e != 0) = true := by rw [bne_iff_ne]; omega
          obtain ⟨rfl, rfl⟩ : r1 = e ∧ r2 = (i : Int) := by
            have := HG.out
            rw [monsE_some HF.out HX.out (by rw [HE.out]; omega), HE.out] at this
            injection this with h1 h2
            exact ⟨h1.symm, h2.symm⟩
          subst e2
          clear h1 HG HE HF ie
          go_quiet ((first | (go_at_call 29; exact quiet_same (by first | exact rin_is _ _ _ _ _ H1))))
          have b2' := c2.drewN nq
          have hB' : Below w.heap.size w (W.drewN nq) := below_drewN cB nq
          go_wp2_with (refine wpList_store_row rfl 51 (.tmp 2) (.tmp 62) rfl (w.heap.size + 1) #[.int .i64 2, .int .i64 (i : Int)] rfl rfl 51 _ b2' faultsz rfl (by simp [Value.oneCell']) ?_)
          have b3 := b2'.row #[.int .i64 2, .int .i64 (i : Int)]
          refine bodyPost_ret (v := .agg #[.int .i64 2, .int .i64 (i : Int)]) (results_cell_row (ty := 51) rfl _ _ (w.heap.size + 1) 51 _ (0, 0) _ rfl b3 Try.underlying51 rfl faultsz) rfl ?_
          exact ⟨rfl, below_row hB' (by omega) _⟩
        have H1 := Lib.hid h1
        cases h2 : wordOk low
        · have e2 : e = 2 := by rw [← HE.out]; simp [monE, monOk, h2]
          have H2 := Lib.hid h2
          obtain ⟨v, hv⟩ : ∃ v, wrap64 (wrap32 low) = v := ⟨_, rfl⟩
          have V := Lib.hid hv
          have iv : (v != low) = true := by
            have := word_fix low
            rw [h2, hv, beq_eq_false_iff_ne] at this
            rw [bne_iff_ne]
            exact fun h => this h.symm
          clear hv
          have ie : (e != 0) = true := by rw [bne_iff_ne]; omega
          obtain ⟨rfl, rfl⟩ : r1 = e ∧ r2 = (i : Int) := by
            have := HG.out
            rw [monsE_some HF.out HX.out (by rw [HE.out]; omega), HE.out] at this
            injection this with h1 h2
            exact ⟨h1.symm, h2.symm⟩
          subst e2
          clear h2 HG HE HF ie
          go_quiet ((first | (go_at_call 29; exact quiet_same (by first | exact rin_is _ _ _ _ _ H1)) | (go_at_call 37; exact quiet_same (by first | exact wrap_no _ _ _ V))))
          have b2' := c2.drewN nq
          have hB' : Below w.heap.size w (W.drewN nq) := below_drewN cB nq
          go_wp2_with (refine wpList_store_row rfl 51 (.tmp 2) (.tmp 62) rfl (w.heap.size + 1) #[.int .i64 2, .int .i64 (i : Int)] rfl rfl 51 _ b2' faultsz rfl (by simp [Value.oneCell']) ?_)
          have b3 := b2'.row #[.int .i64 2, .int .i64 (i : Int)]
          refine bodyPost_ret (v := .agg #[.int .i64 2, .int .i64 (i : Int)]) (results_cell_row (ty := 51) rfl _ _ (w.heap.size + 1) 51 _ (0, 0) _ rfl b3 Try.underlying51 rfl faultsz) rfl ?_
          exact ⟨rfl, below_row hB' (by omega) _⟩
        have H2 := Lib.hid h2
        cases h3 : wordOk high
        · have e2 : e = 2 := by rw [← HE.out]; simp [monE, monOk, h3]
          have H3 := Lib.hid h3
          obtain ⟨v, hv⟩ : ∃ v, wrap64 (wrap32 high) = v := ⟨_, rfl⟩
          have V := Lib.hid hv
          have iv : (v != high) = true := by
            have := word_fix high
            rw [h3, hv, beq_eq_false_iff_ne] at this
            rw [bne_iff_ne]
            exact fun h => this h.symm
          clear hv
          have ie : (e != 0) = true := by rw [bne_iff_ne]; omega
          obtain ⟨rfl, rfl⟩ : r1 = e ∧ r2 = (i : Int) := by
            have := HG.out
            rw [monsE_some HF.out HX.out (by rw [HE.out]; omega), HE.out] at this
            injection this with h1 h2
            exact ⟨h1.symm, h2.symm⟩
          subst e2
          clear h3 HG HE HF ie
          go_quiet ((first | (go_at_call 29; exact quiet_same (by first | exact rin_is _ _ _ _ _ H1)) | (go_at_call 37; exact quiet_same (by first | exact wrap_yes _ _ H2 | exact wrap_no _ _ _ V))))
          have b2' := c2.drewN nq
          have hB' : Below w.heap.size w (W.drewN nq) := below_drewN cB nq
          go_wp2_with (refine wpList_store_row rfl 51 (.tmp 2) (.tmp 62) rfl (w.heap.size + 1) #[.int .i64 2, .int .i64 (i : Int)] rfl rfl 51 _ b2' faultsz rfl (by simp [Value.oneCell']) ?_)
          have b3 := b2'.row #[.int .i64 2, .int .i64 (i : Int)]
          refine bodyPost_ret (v := .agg #[.int .i64 2, .int .i64 (i : Int)]) (results_cell_row (ty := 51) rfl _ _ (w.heap.size + 1) 51 _ (0, 0) _ rfl b3 Try.underlying51 rfl faultsz) rfl ?_
          exact ⟨rfl, below_row hB' (by omega) _⟩
        have H3 := Lib.hid h3
        by_cases h4 : low ≤ high
        rotate_left
        · have e2 : e = 2 := by rw [← HE.out]; simp [monE, monOk, h4]
          have i4 : high < low := by omega
          have ie : (e != 0) = true := by rw [bne_iff_ne]; omega
          obtain ⟨rfl, rfl⟩ : r1 = e ∧ r2 = (i : Int) := by
            have := HG.out
            rw [monsE_some HF.out HX.out (by rw [HE.out]; omega), HE.out] at this
            injection this with h1 h2
            exact ⟨h1.symm, h2.symm⟩
          subst e2
          clear h4 HG HE HF ie
          go_quiet ((first | (go_at_call 29; exact quiet_same (by first | exact rin_is _ _ _ _ _ H1)) | (go_at_call 37; exact quiet_same (by first | exact wrap_yes _ _ H2 | exact wrap_yes _ _ H3))))
          have b2' := c2.drewN nq
          have hB' : Below w.heap.size w (W.drewN nq) := below_drewN cB nq
          go_wp2_with (refine wpList_store_row rfl 51 (.tmp 2) (.tmp 62) rfl (w.heap.size + 1) #[.int .i64 2, .int .i64 (i : Int)] rfl rfl 51 _ b2' faultsz rfl (by simp [Value.oneCell']) ?_)
          have b3 := b2'.row #[.int .i64 2, .int .i64 (i : Int)]
          refine bodyPost_ret (v := .agg #[.int .i64 2, .int .i64 (i : Int)]) (results_cell_row (ty := 51) rfl _ _ (w.heap.size + 1) 51 _ (0, 0) _ rfl b3 Try.underlying51 rfl faultsz) rfl ?_
          exact ⟨rfl, below_row hB' (by omega) _⟩
        cases h5 : rngOk wait 1 1000
        · have e2 : e = 2 := by rw [← HE.out]; simp [monE, monOk, h5]
          have H5 := Lib.hid h5
          have ie : (e != 0) = true := by rw [bne_iff_ne]; omega
          obtain ⟨rfl, rfl⟩ : r1 = e ∧ r2 = (i : Int) := by
            have := HG.out
            rw [monsE_some HF.out HX.out (by rw [HE.out]; omega), HE.out] at this
            injection this with h1 h2
            exact ⟨h1.symm, h2.symm⟩
          subst e2
          clear h5 HG HE HF ie
          go_quiet ((first | (go_at_call 29; exact quiet_same (by first | exact rin_is _ _ _ _ _ H1 | exact rin_is _ _ _ _ _ H5)) | (go_at_call 37; exact quiet_same (by first | exact wrap_yes _ _ H2 | exact wrap_yes _ _ H3))))
          have b2' := c2.drewN nq
          have hB' : Below w.heap.size w (W.drewN nq) := below_drewN cB nq
          go_wp2_with (refine wpList_store_row rfl 51 (.tmp 2) (.tmp 62) rfl (w.heap.size + 1) #[.int .i64 2, .int .i64 (i : Int)] rfl rfl 51 _ b2' faultsz rfl (by simp [Value.oneCell']) ?_)
          have b3 := b2'.row #[.int .i64 2, .int .i64 (i : Int)]
          refine bodyPost_ret (v := .agg #[.int .i64 2, .int .i64 (i : Int)]) (results_cell_row (ty := 51) rfl _ _ (w.heap.size + 1) 51 _ (0, 0) _ rfl b3 Try.underlying51 rfl faultsz) rfl ?_
          exact ⟨rfl, below_row hB' (by omega) _⟩
        have H5 := Lib.hid h5
        cases h6 : rngOk tier 1 3
        · have e2 : e = 2 := by rw [← HE.out]; simp [monE, monOk, h6]
          have H6 := Lib.hid h6
          have ie : (e != 0) = true := by rw [bne_iff_ne]; omega
          obtain ⟨rfl, rfl⟩ : r1 = e ∧ r2 = (i : Int) := by
            have := HG.out
            rw [monsE_some HF.out HX.out (by rw [HE.out]; omega), HE.out] at this
            injection this with h1 h2
            exact ⟨h1.symm, h2.symm⟩
          subst e2
          clear h6 HG HE HF ie
          go_quiet ((first | (go_at_call 29; exact quiet_same (by first | exact rin_is _ _ _ _ _ H1 | exact rin_is _ _ _ _ _ H5 | exact rin_is _ _ _ _ _ H6)) | (go_at_call 37; exact quiet_same (by first | exact wrap_yes _ _ H2 | exact wrap_yes _ _ H3))))
          have b2' := c2.drewN nq
          have hB' : Below w.heap.size w (W.drewN nq) := below_drewN cB nq
          go_wp2_with (refine wpList_store_row rfl 51 (.tmp 2) (.tmp 62) rfl (w.heap.size + 1) #[.int .i64 2, .int .i64 (i : Int)] rfl rfl 51 _ b2' faultsz rfl (by simp [Value.oneCell']) ?_)
          have b3 := b2'.row #[.int .i64 2, .int .i64 (i : Int)]
          refine bodyPost_ret (v := .agg #[.int .i64 2, .int .i64 (i : Int)]) (results_cell_row (ty := 51) rfl _ _ (w.heap.size + 1) 51 _ (0, 0) _ rfl b3 Try.underlying51 rfl faultsz) rfl ?_
          exact ⟨rfl, below_row hB' (by omega) _⟩
        have H6 := Lib.hid h6
        have i4 : ¬ high < low := by omega
        have hE2 : e = if nameOk name then 0 else 10 := by rw [← HE.out]; simp [monE, monOk, h1, h2, h3, h4, h5, h6]
        clear h1 h2 h3 h4 h5 h6
        go_quiet ((first | (go_at_call 29; exact quiet_same (by first | exact rin_is _ _ _ _ _ H1 | exact rin_is _ _ _ _ _ H5 | exact rin_is _ _ _ _ _ H6)) | (go_at_call 37; exact quiet_same (by first | exact wrap_yes _ _ H2 | exact wrap_yes _ _ H3))))
        have c1' := c1.drewN nq
        have b2' := c2.drewN nq
        have hB' : Below w.heap.size w (W.drewN nq) := below_drewN cB nq
        have bm' := bm.drewN nq
        clear c1 c2 cB bm y0 y1 y2 y3 y4 zW
        generalize W.drewN nq = W2 at *
        have y5 := bm'.cell' (i := 5) rfl
        by_cases z : name.size = 0
        · obtain rfl : e = 0 := by rw [hE2, name_empty z]; rfl
          obtain ⟨iz, iz2, iz3⟩ := txt_none z
          have HF2 : Hid (∀ (j : Nat) (m : Mon), j < i + 1 → mons[j]? = some m → monE m = 0) := Lib.hid (fun j m hj hm => by
            rcases Nat.lt_or_ge j i with h | h
            · exact HF.out j m h hm
            · obtain rfl : j = i := by omega
              rw [HX.out] at hm
              injection hm with hm
              rw [← hm]
              exact HE.out)
          clear z hE2 HE HG
          go_wp2_with fail
          go_roundw
          case rel => exact ⟨i + 1, by omega, by go_num, c1', b2', hB', HF2⟩
          case measure => simp [intOf]; omega
        · obtain ⟨iz, iz2, iz3⟩ := txt_some z
          cases h7 : nameOk name
          · have H7 : Hid (rnameOk name = false) := Lib.hid (by rw [name_some (by omega)]; exact h7)
            obtain rfl : e = 10 := by rw [hE2, h7]; rfl
            obtain ⟨rfl, rfl⟩ : r1 = 10 ∧ r2 = (i : Int) := by
              have := HG.out
              rw [monsE_some HF.out HX.out (by rw [HE.out]; omega), HE.out] at this
              injection this with h1 h2
              exact ⟨h1.symm, h2.symm⟩
            clear z h7 hE2 HG HE HF
            go_wp2_with (first
              | (go_at_call 38; refine (mayName_is _ _ _ H7).mono ?_; rintro e w1 ⟨rfl, rfl⟩)
              | (refine wpList_store_row rfl 51 (.tmp 2) (.tmp 73) rfl (w.heap.size + 1) #[.int .i64 10, .int .i64 (i : Int)] rfl rfl 51 _ b2' faultsz rfl (by simp [Value.oneCell']) ?_))
            have b3 := b2'.row #[.int .i64 10, .int .i64 (i : Int)]
            refine bodyPost_ret (v := .agg #[.int .i64 10, .int .i64 (i : Int)]) (results_cell_row (ty := 51) rfl _ _ (w.heap.size + 1) 51 _ (0, 0) _ rfl b3 Try.underlying51 rfl faultsz) rfl ?_
            exact ⟨rfl, below_row hB' (by omega) _⟩
          · have H7 : Hid (rnameOk name = true) := Lib.hid (by rw [name_some (by omega)]; exact h7)
            obtain rfl : e = 0 := by rw [hE2, h7]; rfl
            have HF2 : Hid (∀ (j : Nat) (m : Mon), j < i + 1 → mons[j]? = some m → monE m = 0) := Lib.hid (fun j m hj hm => by
              rcases Nat.lt_or_ge j i with h | h
              · exact HF.out j m h hm
              · obtain rfl : j = i := by omega
                rw [HX.out] at hm
                injection hm with hm
                rw [← hm]
                exact HE.out)
            clear z h7 hE2 HG HE
            go_wp2_with (go_at_call 38; refine (mayName_is _ _ _ H7).mono ?_; rintro e w1 ⟨rfl, rfl⟩)
            go_roundw
            case rel => exact ⟨i + 1, by omega, by go_num, c1', b2', hB', HF2⟩
            case measure => simp [intOf]; omega
      · obtain rfl : i = n := by omega
        have h5i : ¬ (i : Int) < (i : Int) := by omega
        have hT : tailE silence most window nm = (r1, r2) := by
          have := HG.out
          rw [monsE_none (fun j m hm => HF.out j m (by have := (List.getElem?_eq_some_iff.1 hm).1; rw [HN.out] at this; exact this) hm)] at this
          exact this
        have HT := Lib.hid hT
        clear hT HG HF
        have x1 := b1.cell' (i := 1) rfl
        have x2 := b1.cell' (i := 2) rfl
        have x3 := b1.cell' (i := 3) rfl
        have x4 := b1.cell' (i := 4) rfl
        have b2' := b2
        have hB' := hB
        cases h1 : rngOk silence 0 100000
        · have H1 := Lib.hid h1
          obtain ⟨rfl, rfl⟩ : r1 = 2 ∧ r2 = 0 := by
            have := HT.out
            simp only [tailE, h1, Bool.and_false, Bool.false_and, Bool.false_eq_true, if_false, Prod.mk.injEq] at this
            exact ⟨this.1.symm, this.2.symm⟩
          clear h1
          go_wp2_with (first
            | (go_at_call 29; refine Calls.mono (by first | exact rin_is _ _ _ _ _ H1) ?_; rintro e w1 ⟨rfl, rfl⟩)
            | (refine wpList_store_row rfl 51 (.tmp 2) (.tmp 90) rfl (w.heap.size + 1) #[.int .i64 2, .int .i64 0] rfl rfl 51 _ b2' faultsz rfl (by simp [Value.oneCell']) ?_))
          have b3 := b2'.row #[.int .i64 2, .int .i64 0]
          refine bodyPost_ret (v := .agg #[.int .i64 2, .int .i64 0]) (results_cell_row (ty := 51) rfl _ _ (w.heap.size + 1) 51 _ (0, 0) _ rfl b3 Try.underlying51 rfl faultsz) rfl ?_
          exact ⟨rfl, below_row hB' (by omega) _⟩
        have H1 := Lib.hid h1
        cases h2 : rngOk most 1 100
        · have H2 := Lib.hid h2
          obtain ⟨rfl, rfl⟩ : r1 = 2 ∧ r2 = 0 := by
            have := HT.out
            simp only [tailE, h2, Bool.and_false, Bool.false_and, Bool.false_eq_true, if_false, Prod.mk.injEq] at this
            exact ⟨this.1.symm, this.2.symm⟩
          clear h2
          go_wp2_with (first
            | (go_at_call 29; refine Calls.mono (by first | exact rin_is _ _ _ _ _ H1 | exact rin_is _ _ _ _ _ H2) ?_; rintro e w1 ⟨rfl, rfl⟩)
            | (refine wpList_store_row rfl 51 (.tmp 2) (.tmp 90) rfl (w.heap.size + 1) #[.int .i64 2, .int .i64 0] rfl rfl 51 _ b2' faultsz rfl (by simp [Value.oneCell']) ?_))
          have b3 := b2'.row #[.int .i64 2, .int .i64 0]
          refine bodyPost_ret (v := .agg #[.int .i64 2, .int .i64 0]) (results_cell_row (ty := 51) rfl _ _ (w.heap.size + 1) 51 _ (0, 0) _ rfl b3 Try.underlying51 rfl faultsz) rfl ?_
          exact ⟨rfl, below_row hB' (by omega) _⟩
        have H2 := Lib.hid h2
        cases h3 : rngOk window 1 100000
        · have H3 := Lib.hid h3
          obtain ⟨rfl, rfl⟩ : r1 = 2 ∧ r2 = 0 := by
            have := HT.out
            simp only [tailE, h3, Bool.and_false, Bool.false_and, Bool.false_eq_true, if_false, Prod.mk.injEq] at this
            exact ⟨this.1.symm, this.2.symm⟩
          clear h3
          go_wp2_with (first
            | (go_at_call 29; refine Calls.mono (by first | exact rin_is _ _ _ _ _ H1 | exact rin_is _ _ _ _ _ H2 | exact rin_is _ _ _ _ _ H3) ?_; rintro e w1 ⟨rfl, rfl⟩)
            | (refine wpList_store_row rfl 51 (.tmp 2) (.tmp 90) rfl (w.heap.size + 1) #[.int .i64 2, .int .i64 0] rfl rfl 51 _ b2' faultsz rfl (by simp [Value.oneCell']) ?_))
          have b3 := b2'.row #[.int .i64 2, .int .i64 0]
          refine bodyPost_ret (v := .agg #[.int .i64 2, .int .i64 0]) (results_cell_row (ty := 51) rfl _ _ (w.heap.size + 1) 51 _ (0, 0) _ rfl b3 Try.underlying51 rfl faultsz) rfl ?_
          exact ⟨rfl, below_row hB' (by omega) _⟩
        have H3 := Lib.hid h3
        by_cases z : nm.size = 0
        · have hz := name_empty z
          obtain ⟨rfl, rfl⟩ : r1 = 0 ∧ r2 = 0 := by
            have := HT.out
            simp only [tailE, h1, h2, h3, hz, Bool.and_self, if_true, Bool.false_eq_true, if_false, Prod.mk.injEq] at this
            exact ⟨this.1.symm, this.2.symm⟩
          obtain ⟨iz, iz2, iz3⟩ := txt_none z
          clear h1 h2 h3 z hz
          go_wp2_with (first
            | (go_at_call 29; refine Calls.mono (by first | exact rin_is _ _ _ _ _ H1 | exact rin_is _ _ _ _ _ H2 | exact rin_is _ _ _ _ _ H3) ?_; rintro e w1 ⟨rfl, rfl⟩)
            | (refine wpList_store_row rfl 51 (.tmp 2) (.tmp 101) rfl (w.heap.size + 1) #[.int .i64 0, .int .i64 0] rfl rfl 51 _ b2' faultsz rfl (by simp [Value.oneCell']) ?_))
          have b3 := b2'.row #[.int .i64 0, .int .i64 0]
          refine bodyPost_ret (v := .agg #[.int .i64 0, .int .i64 0]) (results_cell_row (ty := 51) rfl _ _ (w.heap.size + 1) 51 _ (0, 0) _ rfl b3 Try.underlying51 rfl faultsz) rfl ?_
          exact ⟨rfl, below_row hB' (by omega) _⟩
        · obtain ⟨iz, iz2, iz3⟩ := txt_some z
          cases h4 : nameOk nm
          · have H4 : Hid (rnameOk nm = false) := Lib.hid (by rw [name_some (by omega)]; exact h4)
            obtain ⟨rfl, rfl⟩ : r1 = 10 ∧ r2 = 0 := by
              have := HT.out
              simp only [tailE, h1, h2, h3, h4, Bool.and_self, if_true, Bool.false_eq_true, if_false, Prod.mk.injEq] at this
              exact ⟨this.1.symm, this.2.symm⟩
            clear h1 h2 h3 h4 z
            go_wp2_with (first
              | (go_at_call 29; refine Calls.mono (by first | exact rin_is _ _ _ _ _ H1 | exact rin_is _ _ _ _ _ H2 | exact rin_is _ _ _ _ _ H3) ?_; rintro e w1 ⟨rfl, rfl⟩)
              | (go_at_call 38; refine (mayName_is _ _ _ H4).mono ?_; rintro e w1 ⟨rfl, rfl⟩)
              | (refine wpList_store_row rfl 51 (.tmp 2) (.tmp 100) rfl (w.heap.size + 1) #[.int .i64 10, .int .i64 0] rfl rfl 51 _ b2' faultsz rfl (by simp [Value.oneCell']) ?_))
            have b3 := b2'.row #[.int .i64 10, .int .i64 0]
            refine bodyPost_ret (v := .agg #[.int .i64 10, .int .i64 0]) (results_cell_row (ty := 51) rfl _ _ (w.heap.size + 1) 51 _ (0, 0) _ rfl b3 Try.underlying51 rfl faultsz) rfl ?_
            exact ⟨rfl, below_row hB' (by omega) _⟩
          · have H4 : Hid (rnameOk nm = true) := Lib.hid (by rw [name_some (by omega)]; exact h4)
            obtain ⟨rfl, rfl⟩ : r1 = 0 ∧ r2 = 0 := by
              have := HT.out
              simp only [tailE, h1, h2, h3, h4, Bool.and_self, if_true, Bool.false_eq_true, if_false, Prod.mk.injEq] at this
              exact ⟨this.1.symm, this.2.symm⟩
            clear h1 h2 h3 h4 z
            go_wp2_with (first
              | (go_at_call 29; refine Calls.mono (by first | exact rin_is _ _ _ _ _ H1 | exact rin_is _ _ _ _ _ H2 | exact rin_is _ _ _ _ _ H3) ?_; rintro e w1 ⟨rfl, rfl⟩)
              | (go_at_call 38; refine (mayName_is _ _ _ H4).mono ?_; rintro e w1 ⟨rfl, rfl⟩)
              | (refine wpList_store_row rfl 51 (.tmp 2) (.tmp 101) rfl (w.heap.size + 1) #[.int .i64 0, .int .i64 0] rfl rfl 51 _ b2' faultsz rfl (by simp [Value.oneCell']) ?_))
            have b3 := b2'.row #[.int .i64 0, .int .i64 0]
            refine bodyPost_ret (v := .agg #[.int .i64 0, .int .i64 0]) (results_cell_row (ty := 51) rfl _ _ (w.heap.size + 1) 51 _ (0, 0) _ rfl b3 Try.underlying51 rfl faultsz) rfl ?_
            exact ⟨rfl, below_row hB' (by omega) _⟩
end Go.Proofs.Ytaifogddoonabaa
