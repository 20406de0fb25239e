/-
  guard.Check.
-/
import Derived.Test.YtaifogddoonabaaGrdC
import Derived.Test.YtaifogddoonabaaBlkRow
import Derived.Test.YtaifogddoonabaaStep
namespace Go.Proofs.Ytaifogddoonabaa
set_option linter.unusedSimpArgs false
set_option linter.unusedVariables false
open Go.RowKit

theorem faultsz : (Try.prog.info? 51).map (·.size) = some 2 := by kernel_rfl
/-- A guard that is wrong neither in its count nor in its monitors. -/
def tailE (silence most window : Int) (nm : ByteArray) : Int × Int := if rngOk silence 0 100000 && rngOk most 1 100 && rngOk window 1 100000 then (if nameOk nm then (0, 0) else (10, 0)) else (2, 0)
set_option maxHeartbeats 3200000 in
set_option maxRecDepth 100000 in
theorem check_any (g : Grd) (A : Option Addr) (n c : Nat) (w : World) (hn : g.mons.length = n) (hR : Rd w A (mvs g.mons)) :
    Calls Try.prog 18 #[grv g A n c] w fun e w' => e = .returned (.agg #[.int .i64 (grdE g).1, .int .i64 (grdE g).2]) ∧ Below w.heap.size w w' := by
  obtain ⟨mons, silence, most, window, nm⟩ := g
  unfold grv
  dsimp only at hn hR ⊢
  obtain ⟨⟨r1, r2⟩, hr⟩ : ∃ r, grdE ⟨mons, silence, most, window, nm⟩ = r := ⟨_, rfl⟩
  have HR := Lib.hid hr
  rw [hr]
  clear hr
  dsimp only
  have HN := Lib.hid hn
  have HRd := Lib.hid hR
  clear hn hR
  have b1 := (Blk.new w 42 #[.slice A n c, .int .i64 silence, .int .i64 most, .int .i64 window, .string nm]).alloc (.cells #[.int .i64 0, .int .i64 0] 51)
  have b2 := Blk.new (w.alloc (.cells #[.slice A n c, .int .i64 silence, .int .i64 most, .int .i64 window, .string nm] 42)) 51 #[.int .i64 0, .int .i64 0]
  rw [show (w.alloc (.cells #[.slice A n c, .int .i64 silence, .int .i64 most, .int .i64 window, .string nm] 42)).heap.size = w.heap.size + 1 by simp] at b2
  have hB : Below w.heap.size w ((w.alloc (.cells #[.slice A n c, .int .i64 silence, .int .i64 most, .int .i64 window, .string nm] 42)).alloc (.cells #[.int .i64 0, .int .i64 0] 51)) := ((Below.refl _ _).alloc (Nat.le_refl _) _).alloc (by simp) _
  by_cases h32 : 32 < n
  · have i32 : (32 : Int) < (n : Int) := by omega
    obtain ⟨rfl, rfl⟩ : r1 = 1 ∧ r2 = 0 := by
      have := HR.out
      unfold grdE at this
      dsimp only at this
      rw [HN.out, if_pos h32] at this
      injection this with h1 h2
      exact ⟨h1.symm, h2.symm⟩
    go_enter Try.func18, Try.ntmps18
    go_upto_region 1 with fail
    generalize (w.alloc (.cells #[.slice A n c, .int .i64 silence, .int .i64 most, .int .i64 window, .string nm] 42)).alloc (.cells #[.int .i64 0, .int .i64 0] 51) = W0 at *
    have x0 := b1.cell' (i := 0) rfl
    have b2' := b2
    have hB' := hB
    go_wp2_with (refine wpList_store_row rfl 51 (.tmp 2) (.tmp 10) rfl (w.heap.size + 1) #[.int .i64 1, .int .i64 0] rfl rfl 51 _ b2' faultsz rfl (by simp [Value.oneCell']) ?_)
    have b3 := b2'.row #[.int .i64 1, .int .i64 0]
    refine bodyPost_ret (v := .agg #[.int .i64 1, .int .i64 0]) (results_cell_row (ty := 51) rfl _ _ (w.heap.size + 1) 51 _ (0, 0) _ rfl b3 Try.underlying51 rfl faultsz) rfl ?_
    exact ⟨rfl, below_row hB' (by omega) _⟩
  · have i32 : ¬ (32 : Int) < (n : Int) := by omega
    have hG : (match monsE mons 0 with | some e => e | none => tailE silence most window nm) = (r1, r2) := by
      have := HR.out
      unfold grdE at this
      dsimp only at this
      rw [HN.out, if_neg h32] at this
      exact this
    have HG := Lib.hid hG
    clear hG h32 HR
    go_enter Try.func18, Try.ntmps18
    go_upto_region 1 with fail
    generalize (w.alloc (.cells #[.slice A n c, .int .i64 silence, .int .i64 most, .int .i64 window, .string nm] 42)).alloc (.cells #[.int .i64 0, .int .i64 0] 51) = W0 at *
    have x0 := b1.cell' (i := 0) rfl
    go_wp2_with fail
    clear x0
    go_loopw [14] (fun iv wr => ∃ i : Nat, i ≤ n ∧ iv = .int .i64 (i : Int) ∧ Blk wr w.heap.size 42 #[.slice A n c, .int .i64 silence, .int .i64 most, .int .i64 window, .string nm] ∧ Blk wr (w.heap.size + 1) 51 #[.int .i64 0, .int .i64 0] ∧ Below w.heap.size w wr ∧ Hid (∀ (j : Nat) (m : Mon), j < i → mons[j]? = some m → monE m = 0)) (fun iv _ => n - (intOf iv).toNat)
    case atStart => exact ⟨0, Nat.zero_le _, rfl, b1, b2, hB, Lib.hid (fun j m hj _ => by omega)⟩
    case round =>
      clear b1 b2 hB
      obtain ⟨i, hi, rfl, b1, b2, hB, HF⟩ := hrel
      by_cases h5 : i < n
      · have h5i : (i : Int) < (n : Int) := by omega
        have hip : (0 : Int) ≤ (i : Int) := by omega
        have hiL : i < mons.length := by rw [HN.out]; exact h5
        have hx := List.getElem?_eq_getElem hiL
        obtain ⟨x, hxx⟩ : ∃ x, mons[i] = x := ⟨_, rfl⟩
        rw [hxx] at hx
        clear hxx hiL
        obtain ⟨g, o, rfl, x0, x1, x2, x3, x4, x5⟩ := rdmon_cells (HRd.out.below hB) hx
        have HX := Lib.hid hx
        clear hx
        obtain ⟨e, he⟩ : ∃ e, monE x = e := ⟨_, rfl⟩
        have HE := Lib.hid he
        have CM := Lib.hid (fun W => monitor_any x W)
        unfold monv at CM
        simp only [he] at CM
        clear he
        obtain ⟨of, low, high, wait, tier, name⟩ := x
        dsimp only at x0 x1 x2 x3 x4 x5 CM
        have zr := hB.size
        by_cases e0 : e = 0
        · subst e0
          have HF2 : Hid (∀ (j : Nat) (m : Mon), j < i + 1 → mons[j]? = some m → monE m = 0) := Lib.hid (fun j m hj hm => by
            rcases Nat.lt_or_ge j i with h | h
            · exact HF.out j m h hm
            · obtain rfl : j = i := by omega
              rw [HX.out] at hm
              injection hm with hm
              rw [← hm]
              exact HE.out)
          go_wp2_with (go_at_call 34; refine (CM.out _).mono ?_; rintro e w1 ⟨rfl, hb⟩)
          go_roundw
          case rel => exact ⟨i + 1, by omega, by go_num, (b1.alloc _).step hb, (b2.alloc _).step hb, (hB.alloc zr _).trans (hb.mono (Nat.le_trans zr (by simp))), HF2⟩
          case measure => simp [intOf]; omega
        · have ie : (e != 0) = true := by rw [bne_iff_ne]; exact e0
          obtain ⟨rfl, rfl⟩ : r1 = e ∧ r2 = (i : Int) := by
            have := HG.out
            rw [monsE_some HF.out HX.out (by rw [HE.out]; exact e0), HE.out] at this
            injection this with h1 h2
            exact ⟨h1.symm, h2.symm⟩
          clear HG e0
          go_wp2_with (first
            | (go_at_call 34; refine (CM.out _).mono ?_; rintro e w1 ⟨rfl, hb⟩; have b2' := (b2.alloc (.cells #[.int .i64 of, .int .i64 low, .int .i64 high, .int .i64 wait, .int .i64 tier, .string name] 68)).step hb; have hB' := (hB.alloc zr (.cells #[.int .i64 of, .int .i64 low, .int .i64 high, .int .i64 wait, .int .i64 tier, .string name] 68)).trans (hb.mono (Nat.le_trans zr (by simp))))
            | (refine wpList_store_row rfl 51 (.tmp 2) (.tmp 25) rfl (w.heap.size + 1) #[.int .i64 r1, .int .i64 (i : Int)] rfl rfl 51 _ b2' faultsz rfl (by simp [Value.oneCell']) ?_))
          have b3 := b2'.row #[.int .i64 r1, .int .i64 (i : Int)]
          refine bodyPost_ret (v := .agg #[.int .i64 r1, .int .i64 (i : Int)]) (results_cell_row (ty := 51) rfl _ _ (w.heap.size + 1) 51 _ (0, 0) _ rfl b3 Try.underlying51 rfl faultsz) rfl ?_
          exact ⟨rfl, below_row hB' (by omega) _⟩
      · obtain rfl : i = n := by omega
        have h5i : ¬ (i : Int) < (i : Int) := by omega
        have hT : tailE silence most window nm = (r1, r2) := by
          have := HG.out
          rw [monsE_none (fun j m hm => HF.out j m (by have := (List.getElem?_eq_some_iff.1 hm).1; rw [HN.out] at this; exact this) hm)] at this
          exact this
        have HT := Lib.hid hT
        clear hT HG HF
        have x1 := b1.cell' (i := 1) rfl
        have x2 := b1.cell' (i := 2) rfl
        have x3 := b1.cell' (i := 3) rfl
        have x4 := b1.cell' (i := 4) rfl
        have b2' := b2
        have hB' := hB
        cases h1 : rngOk silence 0 100000
        · have H1 := Lib.hid h1
          obtain ⟨rfl, rfl⟩ : r1 = 2 ∧ r2 = 0 := by
            have := HT.out
            simp only [tailE, h1, Bool.and_false, Bool.false_and, Bool.false_eq_true, if_false, Prod.mk.injEq] at this
            exact ⟨this.1.symm, this.2.symm⟩
          clear h1
          go_wp2_with (first
            | (go_at_call 35; refine Calls.mono (by first | exact gin_is _ _ _ _ _ H1) ?_; rintro e w1 ⟨rfl, rfl⟩)
            | (refine wpList_store_row rfl 51 (.tmp 2) (.tmp 44) rfl (w.heap.size + 1) #[.int .i64 2, .int .i64 0] rfl rfl 51 _ b2' faultsz rfl (by simp [Value.oneCell']) ?_))
          have b3 := b2'.row #[.int .i64 2, .int .i64 0]
          refine bodyPost_ret (v := .agg #[.int .i64 2, .int .i64 0]) (results_cell_row (ty := 51) rfl _ _ (w.heap.size + 1) 51 _ (0, 0) _ rfl b3 Try.underlying51 rfl faultsz) rfl ?_
          exact ⟨rfl, below_row hB' (by omega) _⟩
        have H1 := Lib.hid h1
        cases h2 : rngOk most 1 100
        · have H2 := Lib.hid h2
          obtain ⟨rfl, rfl⟩ : r1 = 2 ∧ r2 = 0 := by
            have := HT.out
            simp only [tailE, h2, Bool.and_false, Bool.false_and, Bool.false_eq_true, if_false, Prod.mk.injEq] at this
            exact ⟨this.1.symm, this.2.symm⟩
          clear h2
          go_wp2_with (first
            | (go_at_call 35; refine Calls.mono (by first | exact gin_is _ _ _ _ _ H1 | exact gin_is _ _ _ _ _ H2) ?_; rintro e w1 ⟨rfl, rfl⟩)
            | (refine wpList_store_row rfl 51 (.tmp 2) (.tmp 44) rfl (w.heap.size + 1) #[.int .i64 2, .int .i64 0] rfl rfl 51 _ b2' faultsz rfl (by simp [Value.oneCell']) ?_))
          have b3 := b2'.row #[.int .i64 2, .int .i64 0]
          refine bodyPost_ret (v := .agg #[.int .i64 2, .int .i64 0]) (results_cell_row (ty := 51) rfl _ _ (w.heap.size + 1) 51 _ (0, 0) _ rfl b3 Try.underlying51 rfl faultsz) rfl ?_
          exact ⟨rfl, below_row hB' (by omega) _⟩
        have H2 := Lib.hid h2
        cases h3 : rngOk window 1 100000
        · have H3 := Lib.hid h3
          obtain ⟨rfl, rfl⟩ : r1 = 2 ∧ r2 = 0 := by
            have := HT.out
            simp only [tailE, h3, Bool.and_false, Bool.false_and, Bool.false_eq_true, if_false, Prod.mk.injEq] at this
            exact ⟨this.1.symm, this.2.symm⟩
          clear h3
          go_wp2_with (first
            | (go_at_call 35; refine Calls.mono (by first | exact gin_is _ _ _ _ _ H1 | exact gin_is _ _ _ _ _ H2 | exact gin_is _ _ _ _ _ H3) ?_; rintro e w1 ⟨rfl, rfl⟩)
            | (refine wpList_store_row rfl 51 (.tmp 2) (.tmp 44) rfl (w.heap.size + 1) #[.int .i64 2, .int .i64 0] rfl rfl 51 _ b2' faultsz rfl (by simp [Value.oneCell']) ?_))
          have b3 := b2'.row #[.int .i64 2, .int .i64 0]
          refine bodyPost_ret (v := .agg #[.int .i64 2, .int .i64 0]) (results_cell_row (ty := 51) rfl _ _ (w.heap.size + 1) 51 _ (0, 0) _ rfl b3 Try.underlying51 rfl faultsz) rfl ?_
          exact ⟨rfl, below_row hB' (by omega) _⟩
        have H3 := Lib.hid h3
        cases h4 : nameOk nm
        · have H4 := Lib.hid h4
          obtain ⟨rfl, rfl⟩ : r1 = 10 ∧ r2 = 0 := by
            have := HT.out
            simp only [tailE, h1, h2, h3, h4, Bool.and_self, if_true, Bool.false_eq_true, if_false, Prod.mk.injEq] at this
            exact ⟨this.1.symm, this.2.symm⟩
          clear h1 h2 h3 h4
          clear b2' hB'
          go_wp2_with (first
            | (go_at_call 35; refine Calls.mono (by first | exact gin_is _ _ _ _ _ H1 | exact gin_is _ _ _ _ _ H2 | exact gin_is _ _ _ _ _ H3) ?_; rintro e w1 ⟨rfl, rfl⟩)
            | (go_at_call 36; refine (name_is _ _ _ H4).mono ?_; rintro e w1 ⟨rfl, hb⟩; have b2' := b2.step hb; have hB' := hB.trans (hb.mono hB.size))
            | (refine wpList_store_row rfl 51 (.tmp 2) (.tmp 50) rfl (w.heap.size + 1) #[.int .i64 10, .int .i64 0] rfl rfl 51 _ b2' faultsz rfl (by simp [Value.oneCell']) ?_))
          have b3 := b2'.row #[.int .i64 10, .int .i64 0]
          refine bodyPost_ret (v := .agg #[.int .i64 10, .int .i64 0]) (results_cell_row (ty := 51) rfl _ _ (w.heap.size + 1) 51 _ (0, 0) _ rfl b3 Try.underlying51 rfl faultsz) rfl ?_
          exact ⟨rfl, below_row hB' (by omega) _⟩
        · have H4 := Lib.hid h4
          obtain ⟨rfl, rfl⟩ : r1 = 0 ∧ r2 = 0 := by
            have := HT.out
            simp only [tailE, h1, h2, h3, h4, Bool.and_self, if_true, Bool.false_eq_true, if_false, Prod.mk.injEq] at this
            exact ⟨this.1.symm, this.2.symm⟩
          clear h1 h2 h3 h4
          clear b2' hB'
          go_wp2_with (first
            | (go_at_call 35; refine Calls.mono (by first | exact gin_is _ _ _ _ _ H1 | exact gin_is _ _ _ _ _ H2 | exact gin_is _ _ _ _ _ H3) ?_; rintro e w1 ⟨rfl, rfl⟩)
            | (go_at_call 36; refine (name_is _ _ _ H4).mono ?_; rintro e w1 ⟨rfl, hb⟩; have b2' := b2.step hb; have hB' := hB.trans (hb.mono hB.size))
            | (refine wpList_store_row rfl 51 (.tmp 2) (.tmp 51) rfl (w.heap.size + 1) #[.int .i64 0, .int .i64 0] rfl rfl 51 _ b2' faultsz rfl (by simp [Value.oneCell']) ?_))
          have b3 := b2'.row #[.int .i64 0, .int .i64 0]
          refine bodyPost_ret (v := .agg #[.int .i64 0, .int .i64 0]) (results_cell_row (ty := 51) rfl _ _ (w.heap.size + 1) 51 _ (0, 0) _ rfl b3 Try.underlying51 rfl faultsz) rfl ?_
          exact ⟨rfl, below_row hB' (by omega) _⟩
end Go.Proofs.Ytaifogddoonabaa
