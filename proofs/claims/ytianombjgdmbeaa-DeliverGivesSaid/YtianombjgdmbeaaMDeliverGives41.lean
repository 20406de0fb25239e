/-
  A tick of a giver, by the document.
-/
import Derived.Test.YtianombjgdmbeaaMDeliverGives40
import Derived.Test.YtianombjgdmbeaaMDeliverGives26
import Derived.Deep.CutBlock
namespace Go.Proofs.Ytianombjgdmbeaa
set_option linter.unusedSimpArgs false
set_option linter.unusedVariables false
open Go.RowKit

set_option maxHeartbeats 12800000 in
set_option maxRecDepth 100000 in
theorem giveOf_any (x : Gv) (F : Option Addr) (fn fc : Nat) (A : Option Addr) (an ac : Nat) (y : Gv) (ns : List Nt) (k : Int) (w : World) (hR : gvsR x = (y, ns, k)) (hf : x.file.length = fn) (ha : x.again.length = an) (hF : Rd w F (bvs x.file)) (hA : Rd w A (gps x.again)) (hfn : fn ≤ 140737488351232) (han : an ≤ 8796093022200) :
    Calls Try.prog 33 #[gvv x F fn fc A an ac] w fun e w' => GvRes w w' y ns k e := by
  have HR := Lib.hid hR
  have CM := Lib.hid (fun (V : World) (hB : Below w.heap.size w V) => rgMay_any x F fn fc A an ac V hf ha (hF.below hB) (hA.below hB) hfn han)
  have CO := Lib.hid (fun (V : World) (hB : Below w.heap.size w V) => giverOf_any x F fn fc A an ac V hf ha (hF.below hB) (hA.below hB) hfn han)
  have HFL := Lib.hid hf
  have HAL := Lib.hid ha
  obtain ⟨r1, hr1⟩ : ∃ r1, gvOk x = r1 := ⟨_, rfl⟩
  rw [hr1] at CM
  have H1 := Lib.hid hr1
  clear hR hf ha hF hA hr1
  unfold gvv gvc at CM CO ⊢
  have bx := (Blk.new w 55 #[.int .i64 x.id, .string x.name, .slice F fn fc, .int .i64 x.most, .int .i64 x.burst, .int .i64 x.stage, .bool x.first, .int .i64 x.at_, .slice A an ac, .int .i64 x.timer, .int .i64 x.patience, .int .i64 x.tries, .int .i64 x.limit]).alloc (.cells #[.int .i64 0, .string ⟨#[]⟩, .slice none 0 0, .int .i64 0, .int .i64 0, .int .i64 0, .bool false, .int .i64 0, .slice none 0 0, .int .i64 0, .int .i64 0, .int .i64 0, .int .i64 0] 55)
  have br := Blk.new (w.alloc (.cells #[.int .i64 x.id, .string x.name, .slice F fn fc, .int .i64 x.most, .int .i64 x.burst, .int .i64 x.stage, .bool x.first, .int .i64 x.at_, .slice A an ac, .int .i64 x.timer, .int .i64 x.patience, .int .i64 x.tries, .int .i64 x.limit] 55)) 55 #[.int .i64 0, .string ⟨#[]⟩, .slice none 0 0, .int .i64 0, .int .i64 0, .int .i64 0, .bool false, .int .i64 0, .slice none 0 0, .int .i64 0, .int .i64 0, .int .i64 0, .int .i64 0]
  rw [show (w.alloc (.cells #[.int .i64 x.id, .string x.name, .slice F fn fc, .int .i64 x.most, .int .i64 x.burst, .int .i64 x.stage, .bool x.first, .int .i64 x.at_, .slice A an ac, .int .i64 x.timer, .int .i64 x.patience, .int .i64 x.tries, .int .i64 x.limit] 55)).heap.size = w.heap.size + 1 by simp] at br
  have hB : Below w.heap.size w ((w.alloc (.cells #[.int .i64 x.id, .string x.name, .slice F fn fc, .int .i64 x.most, .int .i64 x.burst, .int .i64 x.stage, .bool x.first, .int .i64 x.at_, .slice A an ac, .int .i64 x.timer, .int .i64 x.patience, .int .i64 x.tries, .int .i64 x.limit] 55)).alloc (.cells #[.int .i64 0, .string ⟨#[]⟩, .slice none 0 0, .int .i64 0, .int .i64 0, .int .i64 0, .bool false, .int .i64 0, .slice none 0 0, .int .i64 0, .int .i64 0, .int .i64 0, .int .i64 0] 55)) := ((Below.refl _ _).alloc (Nat.le_refl _) _).alloc (by simp) _
  go_enter Try.func33, Try.ntmps33
  go_upto_region 1 with fail
  generalize (w.alloc (.cells #[.int .i64 x.id, .string x.name, .slice F fn fc, .int .i64 x.most, .int .i64 x.burst, .int .i64 x.stage, .bool x.first, .int .i64 x.at_, .slice A an ac, .int .i64 x.timer, .int .i64 x.patience, .int .i64 x.tries, .int .i64 x.limit] 55)).alloc (.cells #[.int .i64 0, .string ⟨#[]⟩, .slice none 0 0, .int .i64 0, .int .i64 0, .int .i64 0, .bool false, .int .i64 0, .slice none 0 0, .int .i64 0, .int .i64 0, .int .i64 0, .int .i64 0] 55) = W at *
  go_wp2_with (refine wpList_load_row rfl 55 (.tmp 1) rfl w.heap.size rfl 55 #[.int .i64 x.id, .string x.name, .slice F fn fc, .int .i64 x.most, .int .i64 x.burst, .int .i64 x.stage, .bool x.first, .int .i64 x.at_, .slice A an ac, .int .i64 x.timer, .int .i64 x.patience, .int .i64 x.tries, .int .i64 x.limit] (0, 0) _ bx Try.underlying55 rfl giversz ?_)
  refine (CM.out _ hB).mono ?_
  rintro e w1 ⟨rfl, hb⟩
  replace bx := bx.step hb
  replace br := br.step hb
  replace hB := hB.trans (hb.mono hB.size)
  clear hb CM
  cases r1
  ·
    go_wp2_with (refine wpList_store_row rfl 55 (.tmp 2) (.tmp 14) rfl (w.heap.size + 1) #[.int .i64 0, .string ⟨#[]⟩, .slice none 0 0, .int .i64 0, .int .i64 0, .int .i64 0, .bool false, .int .i64 0, .slice none 0 0, .int .i64 0, .int .i64 0, .int .i64 0, .int .i64 0] rfl rfl 55 _ br giversz rfl (by simp [Value.oneCell']) ?_)
    have br2 := br.row #[.int .i64 0, .string ⟨#[]⟩, .slice none 0 0, .int .i64 0, .int .i64 0, .int .i64 0, .bool false, .int .i64 0, .slice none 0 0, .int .i64 0, .int .i64 0, .int .i64 0, .int .i64 0]
    refine bodyPost_ret (v := .tuple #[.agg #[.int .i64 0, .string ⟨#[]⟩, .slice none 0 0, .int .i64 0, .int .i64 0, .int .i64 0, .bool false, .int .i64 0, .slice none 0 0, .int .i64 0, .int .i64 0, .int .i64 0, .int .i64 0], .slice none 0 0, .int .i64 11]) (results_cell_two rfl _ _ (w.heap.size + 1) 55 _ (0, 0) _ rfl rfl rfl br2 Try.underlying55 rfl giversz) rfl ?_
    exact GvRes.give HR.out (gvs_0 H1.out) (gv_out (y := gvZero) (base := w.heap.size + 2) hB (by omega) (by omega) (GvMem.none rfl rfl (Own.none_ _ _ _ _) (Own.none_ _ _ _ _)))
  have zr := br.lt
  go_wp2_with (refine wpList_load_row rfl 55 (.tmp 1) rfl w.heap.size rfl 55 #[.int .i64 x.id, .string x.name, .slice F fn fc, .int .i64 x.most, .int .i64 x.burst, .int .i64 x.stage, .bool x.first, .int .i64 x.at_, .slice A an ac, .int .i64 x.timer, .int .i64 x.patience, .int .i64 x.tries, .int .i64 x.limit] (0, 0) _ bx Try.underlying55 rfl giversz ?_)
  refine (CO.out _ hB).mono ?_
  rintro e w2 ⟨F1, f1, A1, a1, rfl, hOF, hOA, hb⟩
  replace hOF := hOF.mono (base' := w.heap.size + 2) (by omega)
  replace hOA := hOA.mono (base' := w.heap.size + 2) (by omega)
  have z2 := hb.size
  replace bx := bx.step hb
  replace br := br.step hb
  replace hB := hB.trans (hb.mono hB.size)
  clear hb CO
  go_upto_region 4 with fail
  have bp := Blk.new w2 99 #[.int .i64 x.id, .string x.name, .slice F1 fn f1, .int .i64 x.most, .int .i64 x.burst, .int .i64 x.stage, .bool x.first, .int .i64 x.at_, .slice A1 an a1, .int .i64 x.timer, .int .i64 x.patience, .int .i64 x.tries, .int .i64 x.limit]
  have hM := (GvMem.none (y := x) HFL.out HAL.out hOF hOA).alloc (.cells #[.int .i64 x.id, .string x.name, .slice F1 fn f1, .int .i64 x.most, .int .i64 x.burst, .int .i64 x.stage, .bool x.first, .int .i64 x.at_, .slice A1 an a1, .int .i64 x.timer, .int .i64 x.patience, .int .i64 x.tries, .int .i64 x.limit] 99)
  replace bx := bx.alloc (.cells #[.int .i64 x.id, .string x.name, .slice F1 fn f1, .int .i64 x.most, .int .i64 x.burst, .int .i64 x.stage, .bool x.first, .int .i64 x.at_, .slice A1 an a1, .int .i64 x.timer, .int .i64 x.patience, .int .i64 x.tries, .int .i64 x.limit] 99)
  replace br := br.alloc (.cells #[.int .i64 x.id, .string x.name, .slice F1 fn f1, .int .i64 x.most, .int .i64 x.burst, .int .i64 x.stage, .bool x.first, .int .i64 x.at_, .slice A1 an a1, .int .i64 x.timer, .int .i64 x.patience, .int .i64 x.tries, .int .i64 x.limit] 99)
  replace hB := hB.alloc hB.size (.cells #[.int .i64 x.id, .string x.name, .slice F1 fn f1, .int .i64 x.most, .int .i64 x.burst, .int .i64 x.stage, .bool x.first, .int .i64 x.at_, .slice A1 an a1, .int .i64 x.timer, .int .i64 x.patience, .int .i64 x.tries, .int .i64 x.limit] 99)
  have zp : w.heap.size + 2 ≤ w2.heap.size := by omega
  clear z2 zr hOF hOA
  generalize w2.alloc (.cells #[.int .i64 x.id, .string x.name, .slice F1 fn f1, .int .i64 x.most, .int .i64 x.burst, .int .i64 x.stage, .bool x.first, .int .i64 x.at_, .slice A1 an a1, .int .i64 x.timer, .int .i64 x.patience, .int .i64 x.tries, .int .i64 x.limit] 99) = W3 at *
  obtain ⟨P, hP⟩ : ∃ P, w2.heap.size = P := ⟨_, rfl⟩
  rw [hP] at bp zp ⊢
  clear hP
  have p5 : W3.cell? ⟨P, 5, none⟩ = some (.int .i64 x.stage) := bp.cell' (i := 5) rfl
  have hI := GvI.of H1.out
  have hs := gvs_stage H1.out
  obtain ⟨e3, he3⟩ : ∃ e3, (x.stage == 3) = e3 := ⟨_, rfl⟩
  obtain ⟨e4, he4⟩ : ∃ e4, (x.stage == 4) = e4 := ⟨_, rfl⟩
  by_cases hov : x.stage = 3 ∨ x.stage = 4
  ·
    have HO := Lib.hid hov
    have hor : e3 = true ∨ (e3 = false ∧ e4 = true) := by
      rw [← he3, ← he4]
      by_cases h : x.stage = 3
      · exact .inl (beq_t h)
      · exact .inr ⟨beq_f h, beq_t (by omega)⟩
    clear hov hs hI
    rcases hor with rfl | ⟨rfl, rfl⟩
    all_goals
      go_wp2_with (first
        | (refine wpList_load_row rfl 55 (.tmp 35) rfl P rfl 99 #[.int .i64 x.id, .string x.name, .slice F1 fn f1, .int .i64 x.most, .int .i64 x.burst, .int .i64 x.stage, .bool x.first, .int .i64 x.at_, .slice A1 an a1, .int .i64 x.timer, .int .i64 x.patience, .int .i64 x.tries, .int .i64 x.limit] (0, 0) _ bp Try.underlying55 rfl giversz ?_)
        | (refine wpList_store_row rfl 55 (.tmp 2) (.tmp 36) rfl (w.heap.size + 1) #[.int .i64 x.id, .string x.name, .slice F1 fn f1, .int .i64 x.most, .int .i64 x.burst, .int .i64 x.stage, .bool x.first, .int .i64 x.at_, .slice A1 an a1, .int .i64 x.timer, .int .i64 x.patience, .int .i64 x.tries, .int .i64 x.limit] rfl rfl 55 _ br giversz rfl (by simp [Value.oneCell']) ?_))
      have br2 := br.row #[.int .i64 x.id, .string x.name, .slice F1 fn f1, .int .i64 x.most, .int .i64 x.burst, .int .i64 x.stage, .bool x.first, .int .i64 x.at_, .slice A1 an a1, .int .i64 x.timer, .int .i64 x.patience, .int .i64 x.tries, .int .i64 x.limit]
      refine bodyPost_ret (v := .tuple #[.agg #[.int .i64 x.id, .string x.name, .slice F1 fn f1, .int .i64 x.most, .int .i64 x.burst, .int .i64 x.stage, .bool x.first, .int .i64 x.at_, .slice A1 an a1, .int .i64 x.timer, .int .i64 x.patience, .int .i64 x.tries, .int .i64 x.limit], .slice none 0 0, .int .i64 0]) (results_cell_two rfl _ _ (w.heap.size + 1) 55 _ (0, 0) _ rfl rfl rfl br2 Try.underlying55 rfl giversz) rfl ?_
      exact GvRes.give HR.out (gvs_over H1.out HO.out) (gv_out (base := w.heap.size + 2) hB (by omega) (by omega) hM)
  have HO := Lib.hid hov
  obtain rfl : e3 = false := by rw [← he3]; exact beq_f (fun h => hov (.inl h))
  obtain rfl : e4 = false := by rw [← he4]; exact beq_f (fun h => hov (.inr h))
  clear hov
  have hxb := hI.burst
  have HFN := Lib.hid (show fn ≤ 65536 by have := hI.long; rw [HFL.out] at this; exact this)
  have HS := Lib.hid hs
  have hbW : w.heap.size + 2 ≤ W3.heap.size := by have := bp.lt; omega
  obtain ⟨base, hbase⟩ : ∃ b, w.heap.size + 2 = b := ⟨_, rfl⟩
  rw [hbase] at hM zp hbW
  have HBS := Lib.hid hbase
  have ZP := Lib.hid zp
  have start : GrInv W3 base P F1 fn f1 x x.burst.toNat (.slice none 0 0) W3 := ⟨x, [], A1, an, a1, none, 0, 0, [], rfl, bp, hM, Lib.hid hI, Lib.hid rfl, by simp; omega, Lib.hid rfl, Below.refl _ _⟩
  obtain ⟨j0, hj0, hy0, hy1, hy2⟩ := info_parts noteinfo
  go_upto_region 6 with fail
  clear p5 he3 he4 hs hI hM bp hbase
  go_upto_block 0 with fail
  go_cut [6] from 37 to 227 (fun s6 wx => ∃ W, W = wx ∧ GrEnd W3 base P F1 fn f1 x s6 W)
  case first =>
    clear bx br hB
    go_wp2_with fail
    go_loopw [6] (fun s6 wr => ∃ j : Nat, GrInv W3 base P F1 fn f1 x j s6 wr) (fun s6 _ => x.burst.toNat - outLen s6)
    case atStart => exact ⟨_, start⟩
    case round =>
      clear start
      obtain ⟨j, hinv⟩ := hrel
      cases j with
      | zero =>
        have hend := GrInv.done hinv hxb.2
        obtain ⟨y, ms, A, an, ac, O, on, oc, l, rfl, bp, hM, HI, HBU, hj, HN, hBW⟩ := hinv
        have p4 : wr.cell? ⟨P, 4, none⟩ = some (.int .i64 x.burst) := by rw [← HBU.out]; exact bp.cell' (i := 4) rfl
        have hc : decide ((on : Int) < x.burst) = false := decide_eq_false (by omega)
        have HE := Lib.hid hend
        clear bp hM HI HBU hj HN hBW hend
        go_wp2_with fail
        go_meet
        exact ⟨_, rfl, HE.out⟩
      | succ j =>
        obtain ⟨y, ms, A, an, ac, O, on, oc, l, rfl, bp, hM, HI, HBU, hj, HN, hBW⟩ := hinv
        have p4 : wr.cell? ⟨P, 4, none⟩ = some (.int .i64 x.burst) := by rw [← HBU.out]; exact bp.cell' (i := 4) rfl
        have hc : decide ((on : Int) < x.burst) = true := decide_eq_true (by omega)
        have hon : on + 1 ≤ 60 := by omega
        have HJ := Lib.hid hj
        have honb : (on : Int) ≤ 50 := by omega
        clear hj
        have hbr : base ≤ wr.heap.size := by have := hBW.size; omega
        have HFY := Lib.hid hM.fl
        go_upto_region 8 with fail
        clear p4 hc
        have p6 : wr.cell? ⟨P, 6, none⟩ = some (.bool y.first) := bp.cell' (i := 6) rfl
        trace "M0"
        by_cases hf : y.first = true
        · -- A
          as_aux_lemma =>
            rw [hf] at p6
            have HR1 := Lib.hid (givR_first hf)
            clear hf
            have kf := bp.frozen
            go_upto_region 10 with fail
            clear p6 kf
            replace hM : GvMem (wr.setCell ⟨P, 6, none⟩ (.bool false)) base { y with first := false } ms F1 fn f1 A an ac O on oc l := (hM.far_ (i := 6) bp (by decide) (by decide) (by decide) (.bool false)).as rfl rfl
            replace bp : Blk (wr.setCell ⟨P, 6, none⟩ (.bool false)) P 99 (gvc { y with first := false } F1 fn f1 A an ac) := bp.set_ 6 (.bool false)
            replace hBW := hBW.setCell (p := ⟨P, 6, none⟩) zp (.bool false)
            replace hbr : base ≤ (wr.setCell ⟨P, 6, none⟩ (.bool false)).heap.size := by simpa using hbr
            generalize wr.setCell ⟨P, 6, none⟩ (.bool false) = W4 at *
            have CC := Lib.hid (gmeta_res P { y with first := false } F1 fn f1 A an ac W4 HFY.out bp)
            obtain ⟨n, hn⟩ : ∃ n, metaN y = n := ⟨_, rfl⟩
            have HN1 := Lib.hid (show n.data.length = 0 ∧ n.gaps = [] by rw [← hn]; exact ⟨rfl, rfl⟩)
            rw [show metaN { y with first := false } = n from hn] at CC
            rw [hn] at HR1
            clear hn
            go_wp2_with fail
            trace "CA"
            refine CC.out.mono ?_
            intro e w5 hnr
            obtain ⟨D, dc, rfl, hD, hb⟩ := hnr
            have hFr := FreshD.new hM (fun i hi => (hD.lt i hi).1)
            replace hD := hD.mono (base' := base) (by omega)
            have zb := hb.size
            replace bp := bp.step hb
            replace hM := hM.step hb
            replace hBW := hBW.trans (hb.mono hbr)
            replace hbr : base ≤ w5.heap.size := by omega
            clear hb zb CC
            have hO1 := hM.out.alloc (.cells #[.int .i64 n.kind, .int .i64 n.id, .string n.name, .int .i64 n.size, .int .i64 n.sum, .int .i64 n.at_, .slice D 0 dc, .slice none 0 0, .int .i64 n.of_, .int .i64 n.code] 27)
            have hRL := Rd_lit w5 [.int .i64 n.kind, .int .i64 n.id, .string n.name, .int .i64 n.size, .int .i64 n.sum, .int .i64 n.at_, .slice D 0 dc, .slice none 0 0, .int .i64 n.of_, .int .i64 n.code] 27
            have hlone : Hid (∀ u ∈ ([.int .i64 n.kind, .int .i64 n.id, .string n.name, .int .i64 n.size, .int .i64 n.sum, .int .i64 n.at_, .slice D 0 dc, .slice none 0 0, .int .i64 n.of_, .int .i64 n.code] : List Value), u.oneCell' = true) := Lib.hid (by simp [Value.oneCell'])
            have q4 : on + 1 ≤ maxLen := by unfold maxLen; omega
            have q5 : (on + 1) * 120 ≤ 140737488355328 := by omega
            have q6 : base ≤ (w5.alloc (.cells #[.int .i64 n.kind, .int .i64 n.id, .string n.name, .int .i64 n.size, .int .i64 n.sum, .int .i64 n.at_, .slice D 0 dc, .slice none 0 0, .int .i64 n.of_, .int .i64 n.code] 27)).heap.size := by simp; omega
            trace "CB"
            dsimp only
            go_wp2_with (first | (refine wpList_noteRow rfl (.tmp 56) rfl n.kind n.id n.name n.size n.sum n.at_ D 0 dc none 0 0 n.of_ n.code rfl ?_) | (at_builtin; refine wpList_append_Own _ rfl (.tmp 54) (.tmp 57) 45 rfl base 27 j0 _ 10 120 Try.underlying45 hj0 hy0 hy1 hy2 rfl O on oc (nts l) rfl hO1 (some ⟨w5.heap.size, 0, none⟩) 1 1 [.int .i64 n.kind, .int .i64 n.id, .string n.name, .int .i64 n.size, .int .i64 n.sum, .int .i64 n.at_, .slice D 0 dc, .slice none 0 0, .int .i64 n.of_, .int .i64 n.code] rfl rfl hRL hlone.out q4 q5 q6 ?_; intro O5 oc5 w6 hO5 hg5 hor5))
            trace "AP"
            clear hO1 hRL hlone q4 q5 q6
            replace hM := app_more hM bp hBW hbr hg5 hO5 HN1.out.1 HN1.out.2 hD hFr
            obtain ⟨bp, hM, hBW⟩ := hM
            have hbr6 : base ≤ w6.heap.size := by have := hg5.size; simp at this; omega
            clear hO5 hg5 hor5 hD hFr HN1
            trace "MA"
            go_wp2_with fail
            go_roundw
            case rel => exact ⟨j, GrInv.next HR1.out HI HBU HJ.out HN bp hM hBW⟩
            case measure => have := HJ.out; simp only [outLen]; omega
        trace "M1"
        have hf' : y.first = false := by simpa using hf
        rw [hf'] at p6
        have HF := Lib.hid hf'
        clear hf hf'
        have p8 : wr.drew.cell? ⟨P, 8, none⟩ = some (.slice A an ac) := bp.drew.cell' (i := 8) rfl
        have p8w : wr.cell? ⟨P, 8, none⟩ = some (.slice A an ac) := p8
        have HAY := Lib.hid hM.al
        cases hag : y.again with
        | cons g rest =>
          obtain ⟨ga, gb⟩ := g
          have hanp : 0 < an := by have := HAY.out; rw [hag] at this; simp only [List.length_cons] at this; omega
          have hani : (0 : Int) < (an : Int) := by omega
          have hgp := HI.out.gaps (ga, gb) (by rw [hag]; exact List.mem_cons_self)
          rw [hM.fl] at hgp
          dsimp only at hgp
          have hle := hM.again.le
          obtain ⟨g, o, rfl, hg1, hg2⟩ := hM.again.form (by omega)
          have c0 : wr.drew.cell? ⟨g, o, none⟩ = some (.int .i64 ga) := hM.again.drew.cell (i := 0) (by rw [hag]; rfl)
          have c1 : wr.drew.cell? ⟨g, o + 1, none⟩ = some (.int .i64 gb) := hM.again.drew.cell (i := 1) (by rw [hag]; rfl)
          have HA := Lib.hid hag
          clear hag hg1 hg2
          go_upto_region 12 with fail
          clear p6 p8w
          refine heldRegion (fun v => v.cell? ⟨P, 8, none⟩ = some (.slice (some ⟨g, o, none⟩) an ac) ∧ v.cell? ⟨g, o, none⟩ = some (.int .i64 ga) ∧ v.cell? ⟨g, o + 1, none⟩ = some (.int .i64 gb)) 17 (by kernel_rfl) (by kernel_rfl) ⟨p8, c0, c1⟩ (fun hSS => ?_)
          clear hSS
          replace bp := bp.drew
          replace hM := hM.drew
          replace hBW := hBW.drew
          replace hbr : base ≤ wr.drew.heap.size := hbr
          generalize wr.drew = W4 at *
          refine walk_take 0 (v := ?vq0) rfl (by kernel_rfl) (by kernel_rfl) (by kernel_rfl) (fun _ _ _ h => h) (⟨p8, c0, c1⟩) (Or.inl ⟨by rfl, ?yq0⟩) ?rq0
          case yq0 => intro w hSw; obtain ⟨hw1, hw2, hw3⟩ := hSw; (try dsimp only at hSw); go_simp; try rfl
          case' rq0 => try simp only [List.getElem_toArray, List.getElem_cons_succ, List.getElem_cons_zero, Act.put, List.setIfInBounds_toArray, List.set_cons_zero, List.set_cons_succ]
          refine walk_take 1 (v := ?vq1) rfl (by kernel_rfl) (by kernel_rfl) (by kernel_rfl) (fun _ _ _ h => h) (⟨p8, c0, c1⟩) (Or.inl ⟨by rfl, ?yq1⟩) ?rq1
          case yq1 => intro w hSw; obtain ⟨hw1, hw2, hw3⟩ := hSw; (try dsimp only at hSw); go_simp; try rfl
          case' rq1 => try simp only [List.getElem_toArray, List.getElem_cons_succ, List.getElem_cons_zero, Act.put, List.setIfInBounds_toArray, List.set_cons_zero, List.set_cons_succ]
          refine walk_take 2 (v := ?vq2) rfl (by kernel_rfl) (by kernel_rfl) (by kernel_rfl) (fun _ _ _ h => h) (⟨p8, c0, c1⟩) (Or.inl ⟨by rfl, ?yq2⟩) ?rq2
          case yq2 => intro w hSw; obtain ⟨hw1, hw2, hw3⟩ := hSw; (try dsimp only at hSw); go_simp; try rfl
          case' rq2 => try simp only [List.getElem_toArray, List.getElem_cons_succ, List.getElem_cons_zero, Act.put, List.setIfInBounds_toArray, List.set_cons_zero, List.set_cons_succ]
          refine walk_take 3 (v := ?vq3) rfl (by kernel_rfl) (by kernel_rfl) (by kernel_rfl) (fun _ _ _ h => h) (⟨p8, c0, c1⟩) (Or.inl ⟨by rfl, ?yq3⟩) ?rq3
          case yq3 => intro w hSw; obtain ⟨hw1, hw2, hw3⟩ := hSw; (try dsimp only at hSw); go_simp; try rfl
          case' rq3 => try simp only [List.getElem_toArray, List.getElem_cons_succ, List.getElem_cons_zero, Act.put, List.setIfInBounds_toArray, List.set_cons_zero, List.set_cons_succ]
          refine walk_take 4 (v := ?vq4) rfl (by kernel_rfl) (by kernel_rfl) (by kernel_rfl) (fun _ _ _ h => h) (⟨p8, c0, c1⟩) (Or.inl ⟨by rfl, ?yq4⟩) ?rq4
          case yq4 => intro w hSw; obtain ⟨hw1, hw2, hw3⟩ := hSw; (try dsimp only at hSw); go_simp; try rfl
          case' rq4 => try simp only [List.getElem_toArray, List.getElem_cons_succ, List.getElem_cons_zero, Act.put, List.setIfInBounds_toArray, List.set_cons_zero, List.set_cons_succ]
          refine walk_take 5 (v := ?vq5) rfl (by kernel_rfl) (by kernel_rfl) (by kernel_rfl) (fun _ _ _ h => h) (⟨p8, c0, c1⟩) (Or.inl ⟨by rfl, ?yq5⟩) ?rq5
          case yq5 => intro w hSw; obtain ⟨hw1, hw2, hw3⟩ := hSw; (try dsimp only at hSw); go_simp; try rfl
          case' rq5 => try simp only [List.getElem_toArray, List.getElem_cons_succ, List.getElem_cons_zero, Act.put, List.setIfInBounds_toArray, List.set_cons_zero, List.set_cons_succ]
          refine walk_take 6 (v := ?vq6) rfl (by kernel_rfl) (by kernel_rfl) (by kernel_rfl) (fun _ _ _ h => h) (⟨p8, c0, c1⟩) (Or.inl ⟨by rfl, ?yq6⟩) ?rq6
          case yq6 => intro w hSw; obtain ⟨hw1, hw2, hw3⟩ := hSw; (try dsimp only at hSw); go_simp; try rfl
          case' rq6 => try simp only [List.getElem_toArray, List.getElem_cons_succ, List.getElem_cons_zero, Act.put, List.setIfInBounds_toArray, List.set_cons_zero, List.set_cons_succ]
          refine walk_take 7 (v := ?vq7) rfl (by kernel_rfl) (by kernel_rfl) (by kernel_rfl) (fun _ _ _ h => h) (⟨p8, c0, c1⟩) (Or.inl ⟨by rfl, ?yq7⟩) ?rq7
          case yq7 => intro w hSw; obtain ⟨hw1, hw2, hw3⟩ := hSw; (try dsimp only at hSw); go_simp; try rfl
          case' rq7 => try simp only [List.getElem_toArray, List.getElem_cons_succ, List.getElem_cons_zero, Act.put, List.setIfInBounds_toArray, List.set_cons_zero, List.set_cons_succ]
          refine walk_take 8 (v := ?vq8) rfl (by kernel_rfl) (by kernel_rfl) (by kernel_rfl) (fun _ _ _ h => h) (⟨p8, c0, c1⟩) (Or.inl ⟨by rfl, ?yq8⟩) ?rq8
          case yq8 => intro w hSw; obtain ⟨hw1, hw2, hw3⟩ := hSw; (try dsimp only at hSw); go_simp; try rfl
          case' rq8 => try simp only [List.getElem_toArray, List.getElem_cons_succ, List.getElem_cons_zero, Act.put, List.setIfInBounds_toArray, List.set_cons_zero, List.set_cons_succ]
          refine walk_take 9 (v := ?vq9) rfl (by kernel_rfl) (by kernel_rfl) (by kernel_rfl) (fun _ _ _ h => h) (⟨p8, c0, c1⟩) (Or.inl ⟨by rfl, ?yq9⟩) ?rq9
          case yq9 => intro w hSw; obtain ⟨hw1, hw2, hw3⟩ := hSw; (try dsimp only at hSw); go_simp; try rfl
          case' rq9 => try simp only [List.getElem_toArray, List.getElem_cons_succ, List.getElem_cons_zero, Act.put, List.setIfInBounds_toArray, List.set_cons_zero, List.set_cons_succ]
          refine walk_take 10 (v := ?vq10) rfl (by kernel_rfl) (by kernel_rfl) (by kernel_rfl) (fun _ _ _ h => h) (⟨p8, c0, c1⟩) (Or.inl ⟨by rfl, ?yq10⟩) ?rq10
          case yq10 => intro w hSw; obtain ⟨hw1, hw2, hw3⟩ := hSw; (try dsimp only at hSw); go_simp; try rfl
          case' rq10 => try simp only [List.getElem_toArray, List.getElem_cons_succ, List.getElem_cons_zero, Act.put, List.setIfInBounds_toArray, List.set_cons_zero, List.set_cons_succ]
          refine walk_take 11 (v := ?vq11) rfl (by kernel_rfl) (by kernel_rfl) (by kernel_rfl) (fun _ _ _ h => h) (⟨p8, c0, c1⟩) (Or.inl ⟨by rfl, ?yq11⟩) ?rq11
          case yq11 => intro w hSw; obtain ⟨hw1, hw2, hw3⟩ := hSw; (try dsimp only at hSw); go_simp; try rfl
          case' rq11 => try simp only [List.getElem_toArray, List.getElem_cons_succ, List.getElem_cons_zero, Act.put, List.setIfInBounds_toArray, List.set_cons_zero, List.set_cons_succ]
          refine walk_take 12 (v := ?vq12) rfl (by kernel_rfl) (by kernel_rfl) (by kernel_rfl) (fun _ _ _ h => h) (⟨p8, c0, c1⟩) (Or.inl ⟨by rfl, ?yq12⟩) ?rq12
          case yq12 => intro w hSw; obtain ⟨hw1, hw2, hw3⟩ := hSw; (try dsimp only at hSw); go_simp; try rfl
          case' rq12 => try simp only [List.getElem_toArray, List.getElem_cons_succ, List.getElem_cons_zero, Act.put, List.setIfInBounds_toArray, List.set_cons_zero, List.set_cons_succ]
          refine walk_take 13 (v := ?vq13) rfl (by kernel_rfl) (by kernel_rfl) (by kernel_rfl) (fun _ _ _ h => h) (⟨p8, c0, c1⟩) (Or.inl ⟨by rfl, ?yq13⟩) ?rq13
          case yq13 => intro w hSw; obtain ⟨hw1, hw2, hw3⟩ := hSw; (try dsimp only at hSw); go_simp; try rfl
          case' rq13 => try simp only [List.getElem_toArray, List.getElem_cons_succ, List.getElem_cons_zero, Act.put, List.setIfInBounds_toArray, List.set_cons_zero, List.set_cons_succ]
          refine walk_take 14 (v := ?vq14) rfl (by kernel_rfl) (by kernel_rfl) (by kernel_rfl) (fun _ _ _ h => h) (⟨p8, c0, c1⟩) (Or.inl ⟨by rfl, ?yq14⟩) ?rq14
          case yq14 => intro w hSw; obtain ⟨hw1, hw2, hw3⟩ := hSw; (try dsimp only at hSw); go_simp; try rfl
          case' rq14 => try simp only [List.getElem_toArray, List.getElem_cons_succ, List.getElem_cons_zero, Act.put, List.setIfInBounds_toArray, List.set_cons_zero, List.set_cons_succ]
          refine walk_take 15 (v := ?vq15) rfl (by kernel_rfl) (by kernel_rfl) (by kernel_rfl) (fun _ _ _ h => h) (⟨p8, c0, c1⟩) (Or.inl ⟨by rfl, ?yq15⟩) ?rq15
          case yq15 => intro w hSw; obtain ⟨hw1, hw2, hw3⟩ := hSw; (try dsimp only at hSw); go_simp; try rfl
          case' rq15 => try simp only [List.getElem_toArray, List.getElem_cons_succ, List.getElem_cons_zero, Act.put, List.setIfInBounds_toArray, List.set_cons_zero, List.set_cons_succ]
          refine walk_take 16 (v := ?vq16) rfl (by kernel_rfl) (by kernel_rfl) (by kernel_rfl) (fun _ _ _ h => h) (⟨p8, c0, c1⟩) (Or.inl ⟨by rfl, ?yq16⟩) ?rq16
          case yq16 => intro w hSw; obtain ⟨hw1, hw2, hw3⟩ := hSw; (try dsimp only at hSw); go_simp; try rfl
          case' rq16 => try simp only [List.getElem_toArray, List.getElem_cons_succ, List.getElem_cons_zero, Act.put, List.setIfInBounds_toArray, List.set_cons_zero, List.set_cons_succ]
          refine walk_tail (by kernel_rfl) ?_
          simp only [List.drop_succ_cons, List.drop_zero]
          trace "MB"
          rcases hgp with ⟨rfl, rfl⟩ | ⟨h1, h2, h3⟩
          · -- B0
            as_aux_lemma =>
              have HR1 := Lib.hid (givR_0 HF.out HA.out rfl)
              go_upto_region 14 with fail
              clear p8 c0 c1
              have CC := Lib.hid (gmeta_res P y F1 fn f1 (some ⟨g, o, none⟩) an ac W4 HFY.out bp)
              obtain ⟨n, hn⟩ : ∃ n, metaN y = n := ⟨_, rfl⟩
              have HN1 := Lib.hid (show n.data.length = 0 ∧ n.gaps = [] by rw [← hn]; exact ⟨rfl, rfl⟩)
              rw [hn] at CC HR1
              clear hn
              go_wp2_with fail
              trace "CA"
              refine CC.out.mono ?_
              intro e w5 hnr
              obtain ⟨D, dc, rfl, hD, hb⟩ := hnr
              have hFr := FreshD.new hM (fun i hi => (hD.lt i hi).1)
              replace hD := hD.mono (base' := base) (by omega)
              have zb := hb.size
              replace bp := bp.step hb
              replace hM := hM.step hb
              replace hBW := hBW.trans (hb.mono hbr)
              replace hbr : base ≤ w5.heap.size := by omega
              clear hb zb CC
              have hO1 := hM.out.alloc (.cells #[.int .i64 n.kind, .int .i64 n.id, .string n.name, .int .i64 n.size, .int .i64 n.sum, .int .i64 n.at_, .slice D 0 dc, .slice none 0 0, .int .i64 n.of_, .int .i64 n.code] 27)
              have hRL := Rd_lit w5 [.int .i64 n.kind, .int .i64 n.id, .string n.name, .int .i64 n.size, .int .i64 n.sum, .int .i64 n.at_, .slice D 0 dc, .slice none 0 0, .int .i64 n.of_, .int .i64 n.code] 27
              have hlone : Hid (∀ u ∈ ([.int .i64 n.kind, .int .i64 n.id, .string n.name, .int .i64 n.size, .int .i64 n.sum, .int .i64 n.at_, .slice D 0 dc, .slice none 0 0, .int .i64 n.of_, .int .i64 n.code] : List Value), u.oneCell' = true) := Lib.hid (by simp [Value.oneCell'])
              have q4 : on + 1 ≤ maxLen := by unfold maxLen; omega
              have q5 : (on + 1) * 120 ≤ 140737488355328 := by omega
              have q6 : base ≤ (w5.alloc (.cells #[.int .i64 n.kind, .int .i64 n.id, .string n.name, .int .i64 n.size, .int .i64 n.sum, .int .i64 n.at_, .slice D 0 dc, .slice none 0 0, .int .i64 n.of_, .int .i64 n.code] 27)).heap.size := by simp; omega
              trace "CB"
              dsimp only
              go_upto_region 15 with (first | (refine wpList_noteRow rfl (.tmp 86) rfl n.kind n.id n.name n.size n.sum n.at_ D 0 dc none 0 0 n.of_ n.code rfl ?_) | (at_builtin; refine wpList_append_Own _ rfl (.tmp 84) (.tmp 87) 45 rfl base 27 j0 _ 10 120 Try.underlying45 hj0 hy0 hy1 hy2 rfl O on oc (nts l) rfl hO1 (some ⟨w5.heap.size, 0, none⟩) 1 1 [.int .i64 n.kind, .int .i64 n.id, .string n.name, .int .i64 n.size, .int .i64 n.sum, .int .i64 n.at_, .slice D 0 dc, .slice none 0 0, .int .i64 n.of_, .int .i64 n.code] rfl rfl hRL hlone.out q4 q5 q6 ?_; intro O5 oc5 w6 hO5 hg5 hor5))
              trace "AP"
              clear hO1 hRL hlone q4 q5 q6
              replace hM := app_more hM bp hBW hbr hg5 hO5 HN1.out.1 HN1.out.2 hD hFr
              obtain ⟨bp, hM, hBW⟩ := hM
              have hbr6 : base ≤ w6.heap.size := by have := hg5.size; simp at this; omega
              clear hO5 hg5 hor5 hD hFr HN1
              trace "MC"
              have p8 : w6.cell? ⟨P, 8, none⟩ = some (.slice (some ⟨g, o, none⟩) an ac) := bp.cell' (i := 8) rfl
              have kf := bp.frozen
              have z1 : (1 : Int) ≤ (an : Int) := by omega
              have z2 : (an : Int) ≤ (ac : Int) := by omega
              by_cases c : ac = 1
              ·
                have HC := Lib.hid c
                have hD := gr_drop (x := y) bp hM HA.out rfl (A' := some ⟨g, o, none⟩) (ac' := 0) (fun _ => rfl) (fun h => absurd c h) (by omega)
                obtain ⟨bp9, hM9⟩ := hD
                have hBW9 := hBW.setCell (p := ⟨P, 8, none⟩) zp (.slice (some ⟨g, o, none⟩) (an - 1) 0)
                clear bp hM hBW
                go_wp2_with fail
                go_roundw
                case rel => exact ⟨j, GrInv.next HR1.out HI HBU HJ.out HN bp9 hM9 hBW9⟩
                case measure => have := HJ.out; simp only [outLen]; omega
              ·
                have HC := Lib.hid c
                have hD := gr_drop (x := y) bp hM HA.out rfl (A' := some ⟨g, o + 2, none⟩) (ac' := ac - 1) (fun h => absurd h c) (fun _ => rfl) rfl
                obtain ⟨bp9, hM9⟩ := hD
                have hBW9 := hBW.setCell (p := ⟨P, 8, none⟩) zp (.slice (some ⟨g, o + 2, none⟩) (an - 1) (ac - 1))
                clear bp hM hBW
                go_wp2_with fail
                go_roundw
                case rel => exact ⟨j, GrInv.next HR1.out HI HBU HJ.out HN bp9 hM9 hBW9⟩
                case measure => have := HJ.out; simp only [outLen]; omega
          · -- Bp
            obtain ⟨p, rfl⟩ : ∃ p : Nat, ga = (p : Int) := ⟨ga.toNat, by omega⟩
            obtain ⟨t, rfl⟩ : ∃ t : Nat, gb = (t : Int) := ⟨gb.toNat, by omega⟩
            have hm := HI.out.most
            obtain ⟨r, hr⟩ : ∃ r : Nat, min (t : Int) ((p : Int) + y.most) = (r : Int) := ⟨(min (t : Int) ((p : Int) + y.most)).toNat, by omega⟩
            have hpt : p < t := by omega
            have htf : t ≤ fn := by omega
            have hff := HFN.out
            have hR := givR_g HF.out HA.out hpt hm.1 hr
            obtain ⟨y', hR1, hR2⟩ := hR
            have HR1 := Lib.hid hR1
            have HR2 := Lib.hid hR2
            have e0 : ((t : Int) == 0) = false := beq_f (by omega)
            have p3 : W4.cell? ⟨P, 3, none⟩ = some (.int .i64 y.most) := bp.cell' (i := 3) rfl
            have hpr : p < r := by omega
            have hrt : r ≤ t := by omega
            have ways : (decide ((p : Int) + y.most < (t : Int)) = false ∧ r = t) ∨ ((p : Int) + y.most = (r : Int) ∧ decide ((r : Int) < (t : Int)) = true) := by
              by_cases c : (p : Int) + y.most < (t : Int)
              · exact .inr ⟨by omega, decide_eq_true (by omega)⟩
              · exact .inl ⟨decide_eq_false c, by omega⟩
            have hm1 := hm.1
            have hm2 := hm.2
            have hm3 : 0 ≤ (p : Int) + y.most := by omega
            clear h1 h2 h3 hr hR1 hR2 hm
            clear p8 c0 c1
            rcases ways with ⟨hw, hqt2⟩ | ⟨hs, hw⟩
            ·
              as_aux_lemma =>
                have HQT : Hid (r = t) := Lib.hid hqt2
                clear hqt2
                go_upto_region 17 with fail
                clear e0
                go_upto_region 19 with fail
                obtain rfl : r = t := HQT.out
                clear hw p3 hm3
                have CC := Lib.hid (gpiece_res P y F1 fn f1 (some ⟨g, o, none⟩) an ac p r base W4 HFY.out hM.file hff hpr (by omega) bp)
                obtain ⟨n, hn⟩ : ∃ n, pieceN y p r = n := ⟨_, rfl⟩
                have HN1 := Lib.hid (show n.data.length = r - p ∧ n.gaps = [] by rw [← hn]; exact ⟨pieceN_len (by omega) (by rw [HFY.out]; omega), rfl⟩)
                rw [hn] at CC HR1
                clear hn
                go_wp2_with fail
                trace "CA"
                refine CC.out.mono ?_
                intro e w5 hnr
                obtain ⟨D, dc, rfl, hD, hb⟩ := hnr
                have hFr := FreshD.new hM (fun i hi => (hD.lt i hi).1)
                replace hD := hD.mono (base' := base) (by omega)
                have zb := hb.size
                replace bp := bp.step hb
                replace hM := hM.step hb
                replace hBW := hBW.trans (hb.mono hbr)
                replace hbr : base ≤ w5.heap.size := by omega
                clear hb zb CC
                have hO1 := hM.out.alloc (.cells #[.int .i64 n.kind, .int .i64 n.id, .string n.name, .int .i64 n.size, .int .i64 n.sum, .int .i64 n.at_, .slice D (r - p) dc, .slice none 0 0, .int .i64 n.of_, .int .i64 n.code] 27)
                have hRL := Rd_lit w5 [.int .i64 n.kind, .int .i64 n.id, .string n.name, .int .i64 n.size, .int .i64 n.sum, .int .i64 n.at_, .slice D (r - p) dc, .slice none 0 0, .int .i64 n.of_, .int .i64 n.code] 27
                have hlone : Hid (∀ u ∈ ([.int .i64 n.kind, .int .i64 n.id, .string n.name, .int .i64 n.size, .int .i64 n.sum, .int .i64 n.at_, .slice D (r - p) dc, .slice none 0 0, .int .i64 n.of_, .int .i64 n.code] : List Value), u.oneCell' = true) := Lib.hid (by simp [Value.oneCell'])
                have q4 : on + 1 ≤ maxLen := by unfold maxLen; omega
                have q5 : (on + 1) * 120 ≤ 140737488355328 := by omega
                have q6 : base ≤ (w5.alloc (.cells #[.int .i64 n.kind, .int .i64 n.id, .string n.name, .int .i64 n.size, .int .i64 n.sum, .int .i64 n.at_, .slice D (r - p) dc, .slice none 0 0, .int .i64 n.of_, .int .i64 n.code] 27)).heap.size := by simp; omega
                trace "CB"
                dsimp only
                go_upto_region 20 with (first | (refine wpList_noteRow rfl (.tmp 120) rfl n.kind n.id n.name n.size n.sum n.at_ D (r - p) dc none 0 0 n.of_ n.code rfl ?_) | (at_builtin; refine wpList_append_Own _ rfl (.tmp 116) (.tmp 121) 45 rfl base 27 j0 _ 10 120 Try.underlying45 hj0 hy0 hy1 hy2 rfl O on oc (nts l) rfl hO1 (some ⟨w5.heap.size, 0, none⟩) 1 1 [.int .i64 n.kind, .int .i64 n.id, .string n.name, .int .i64 n.size, .int .i64 n.sum, .int .i64 n.at_, .slice D (r - p) dc, .slice none 0 0, .int .i64 n.of_, .int .i64 n.code] rfl rfl hRL hlone.out q4 q5 q6 ?_; intro O5 oc5 w6 hO5 hg5 hor5))
                trace "AP"
                clear hO1 hRL hlone q4 q5 q6
                replace hM := app_more hM bp hBW hbr hg5 hO5 HN1.out.1 HN1.out.2 hD hFr
                obtain ⟨bp, hM, hBW⟩ := hM
                have hbr6 : base ≤ w6.heap.size := by have := hg5.size; simp at this; omega
                clear hO5 hg5 hor5 hD hFr HN1
                have p8 : w6.cell? ⟨P, 8, none⟩ = some (.slice (some ⟨g, o, none⟩) an ac) := bp.cell' (i := 8) rfl
                have kf := hM.again.frozen
                have c0 : w6.cell? ⟨g, o, none⟩ = some (.int .i64 p) := hM.again.cell (i := 0) (by rw [HA.out]; rfl)
                go_upto_region 21 with fail
                trace "PS1"
                replace bp := bp.far (p := ⟨g, o, none⟩) (fun e => (hM.again.notBlk bp (by decide)) (by rw [e]; rfl)) (.int .i64 (r : Int))
                replace hBW := hBW.setCell (p := ⟨g, o, none⟩) (hM.again.lt g rfl).1 (.int .i64 (r : Int))
                replace hM := gv_set0 hM HA.out (r : Int)
                clear c0 p8 kf
                generalize w6.setCell ⟨g, o, none⟩ (.int .i64 (r : Int)) = w6 at *
                have er : ((r : Int) == (r : Int)) = true := beq_t rfl
                obtain rfl : y' = { y with again := rest } := by
                  rcases HR2.out with ⟨_, e⟩ | ⟨h, _⟩
                  · exact e
                  · exact absurd rfl h
                have p8 : w6.cell? ⟨P, 8, none⟩ = some (.slice (some ⟨g, o, none⟩) an ac) := bp.cell' (i := 8) rfl
                have kf := bp.frozen
                have z1 : (1 : Int) ≤ (an : Int) := by omega
                have z2 : (an : Int) ≤ (ac : Int) := by omega
                by_cases c : ac = 1
                ·
                  have HC := Lib.hid c
                  have hD := gr_drop (x := { y with again := ((r : Int), (r : Int)) :: rest }) bp hM rfl rfl (A' := some ⟨g, o, none⟩) (ac' := 0) (fun _ => rfl) (fun h => absurd c h) (by omega)
                  obtain ⟨bp9, hM9⟩ := hD
                  have hBW9 := hBW.setCell (p := ⟨P, 8, none⟩) zp (.slice (some ⟨g, o, none⟩) (an - 1) 0)
                  clear bp hM hBW
                  go_wp2_with fail
                  go_roundw
                  case rel => exact ⟨j, GrInv.next HR1.out HI HBU HJ.out HN bp9 hM9 hBW9⟩
                  case measure => have := HJ.out; simp only [outLen]; omega
                ·
                  have HC := Lib.hid c
                  have hD := gr_drop (x := { y with again := ((r : Int), (r : Int)) :: rest }) bp hM rfl rfl (A' := some ⟨g, o + 2, none⟩) (ac' := ac - 1) (fun h => absurd h c) (fun _ => rfl) rfl
                  obtain ⟨bp9, hM9⟩ := hD
                  have hBW9 := hBW.setCell (p := ⟨P, 8, none⟩) zp (.slice (some ⟨g, o + 2, none⟩) (an - 1) (ac - 1))
                  clear bp hM hBW
                  go_wp2_with fail
                  go_roundw
                  case rel => exact ⟨j, GrInv.next HR1.out HI HBU HJ.out HN bp9 hM9 hBW9⟩
                  case measure => have := HJ.out; simp only [outLen]; omega
            ·
              as_aux_lemma =>
                have HQT : Hid (¬ r = t) := Lib.hid (by have := of_decide_eq_true hw; omega)
                have hwn : decide (r < t) = true := decide_eq_true (by have := of_decide_eq_true hw; omega)
                have hm4 : (p : Int) + y.most ≤ 70000 := by omega
                go_upto_region 17 with fail
                clear e0
                go_upto_region 19 with fail
                clear hw hwn p3 hm3 hm4 hs
                have CC := Lib.hid (gpiece_res P y F1 fn f1 (some ⟨g, o, none⟩) an ac p r base W4 HFY.out hM.file hff hpr (by omega) bp)
                obtain ⟨n, hn⟩ : ∃ n, pieceN y p r = n := ⟨_, rfl⟩
                have HN1 := Lib.hid (show n.data.length = r - p ∧ n.gaps = [] by rw [← hn]; exact ⟨pieceN_len (by omega) (by rw [HFY.out]; omega), rfl⟩)
                rw [hn] at CC HR1
                clear hn
                go_wp2_with fail
                trace "CA"
                refine CC.out.mono ?_
                intro e w5 hnr
                obtain ⟨D, dc, rfl, hD, hb⟩ := hnr
                have hFr := FreshD.new hM (fun i hi => (hD.lt i hi).1)
                replace hD := hD.mono (base' := base) (by omega)
                have zb := hb.size
                replace bp := bp.step hb
                replace hM := hM.step hb
                replace hBW := hBW.trans (hb.mono hbr)
                replace hbr : base ≤ w5.heap.size := by omega
                clear hb zb CC
                have hO1 := hM.out.alloc (.cells #[.int .i64 n.kind, .int .i64 n.id, .string n.name, .int .i64 n.size, .int .i64 n.sum, .int .i64 n.at_, .slice D (r - p) dc, .slice none 0 0, .int .i64 n.of_, .int .i64 n.code] 27)
                have hRL := Rd_lit w5 [.int .i64 n.kind, .int .i64 n.id, .string n.name, .int .i64 n.size, .int .i64 n.sum, .int .i64 n.at_, .slice D (r - p) dc, .slice none 0 0, .int .i64 n.of_, .int .i64 n.code] 27
                have hlone : Hid (∀ u ∈ ([.int .i64 n.kind, .int .i64 n.id, .string n.name, .int .i64 n.size, .int .i64 n.sum, .int .i64 n.at_, .slice D (r - p) dc, .slice none 0 0, .int .i64 n.of_, .int .i64 n.code] : List Value), u.oneCell' = true) := Lib.hid (by simp [Value.oneCell'])
                have q4 : on + 1 ≤ maxLen := by unfold maxLen; omega
                have q5 : (on + 1) * 120 ≤ 140737488355328 := by omega
                have q6 : base ≤ (w5.alloc (.cells #[.int .i64 n.kind, .int .i64 n.id, .string n.name, .int .i64 n.size, .int .i64 n.sum, .int .i64 n.at_, .slice D (r - p) dc, .slice none 0 0, .int .i64 n.of_, .int .i64 n.code] 27)).heap.size := by simp; omega
                trace "CB"
                dsimp only
                go_upto_region 20 with (first | (refine wpList_noteRow rfl (.tmp 120) rfl n.kind n.id n.name n.size n.sum n.at_ D (r - p) dc none 0 0 n.of_ n.code rfl ?_) | (at_builtin; refine wpList_append_Own _ rfl (.tmp 116) (.tmp 121) 45 rfl base 27 j0 _ 10 120 Try.underlying45 hj0 hy0 hy1 hy2 rfl O on oc (nts l) rfl hO1 (some ⟨w5.heap.size, 0, none⟩) 1 1 [.int .i64 n.kind, .int .i64 n.id, .string n.name, .int .i64 n.size, .int .i64 n.sum, .int .i64 n.at_, .slice D (r - p) dc, .slice none 0 0, .int .i64 n.of_, .int .i64 n.code] rfl rfl hRL hlone.out q4 q5 q6 ?_; intro O5 oc5 w6 hO5 hg5 hor5))
                trace "AP"
                clear hO1 hRL hlone q4 q5 q6
                replace hM := app_more hM bp hBW hbr hg5 hO5 HN1.out.1 HN1.out.2 hD hFr
                obtain ⟨bp, hM, hBW⟩ := hM
                have hbr6 : base ≤ w6.heap.size := by have := hg5.size; simp at this; omega
                clear hO5 hg5 hor5 hD hFr HN1
                have p8 : w6.cell? ⟨P, 8, none⟩ = some (.slice (some ⟨g, o, none⟩) an ac) := bp.cell' (i := 8) rfl
                have kf := hM.again.frozen
                have c0 : w6.cell? ⟨g, o, none⟩ = some (.int .i64 p) := hM.again.cell (i := 0) (by rw [HA.out]; rfl)
                go_upto_region 21 with fail
                trace "PS2"
                replace bp := bp.far (p := ⟨g, o, none⟩) (fun e => (hM.again.notBlk bp (by decide)) (by rw [e]; rfl)) (.int .i64 (r : Int))
                replace hBW := hBW.setCell (p := ⟨g, o, none⟩) (hM.again.lt g rfl).1 (.int .i64 (r : Int))
                replace hM := gv_set0 hM HA.out (r : Int)
                clear c0 p8 kf
                generalize w6.setCell ⟨g, o, none⟩ (.int .i64 (r : Int)) = w6 at *
                have er : ((r : Int) == (t : Int)) = false := beq_f (by have := HQT.out; omega)
                obtain rfl : y' = { y with again := ((r : Int), (t : Int)) :: rest } := by
                  rcases HR2.out with ⟨h, _⟩ | ⟨_, e⟩
                  · exact absurd h HQT.out
                  · exact e
                go_wp2_with fail
                go_roundw
                case rel => exact ⟨j, GrInv.next HR1.out HI HBU HJ.out HN bp hM hBW⟩
                case measure => have := HJ.out; simp only [outLen]; omega
        | nil =>
          obtain rfl : an = 0 := by have := HAY.out; rw [hag] at this; simpa using this.symm
          have HA := Lib.hid hag
          clear hag
          have p5 : wr.drew.cell? ⟨P, 5, none⟩ = some (.int .i64 y.stage) := bp.drew.cell' (i := 5) rfl
          have hat := HI.out.at_
          rw [hM.fl] at hat
          obtain ⟨p, hp⟩ : ∃ p : Nat, y.at_ = (p : Int) := ⟨y.at_.toNat, by omega⟩
          have HP := Lib.hid hp
          rw [hp] at hat
          have p7 : wr.drew.cell? ⟨P, 7, none⟩ = some (.int .i64 (p : Int)) := by rw [← hp]; exact bp.drew.cell' (i := 7) rfl
          clear hp
          have p2 : wr.drew.cell? ⟨P, 2, none⟩ = some (.slice F1 fn f1) := bp.drew.cell' (i := 2) rfl
          have p5w : wr.cell? ⟨P, 5, none⟩ = some (.int .i64 y.stage) := p5
          have hff := HFN.out
          go_upto_region 23 with fail
          clear p6 p8w p8
          trace "MD"
          by_cases hst : y.stage = 0
          rotate_left
          · -- C3
            as_aux_lemma =>
              have e5 : (y.stage == 0) = false := beq_f hst
              have HE := Lib.hid (GrEnd.none_ (givR_n HF.out HA.out hst) HI (by omega) HN bp.drew hM.drew hBW.drew)
              clear hst hM bp hBW
              trace "C3"
              refine heldRegion (fun v => v.cell? ⟨P, 5, none⟩ = some (.int .i64 y.stage)) 19 (by kernel_rfl) (by kernel_rfl) p5 (fun hSS => ?_)
              clear hSS
              generalize wr.drew = W4 at *
              refine walk_take 0 (v := ?vr0) rfl (by kernel_rfl) (by kernel_rfl) (by kernel_rfl) (fun _ _ _ h => h) (p5) (Or.inl ⟨by rfl, ?yr0⟩) ?rr0
              case yr0 => intro w hSw; (try dsimp only at hSw); go_simp; try rfl
              case' rr0 => try simp only [List.getElem_toArray, List.getElem_cons_succ, List.getElem_cons_zero, Act.put, List.setIfInBounds_toArray, List.set_cons_zero, List.set_cons_succ]
              refine walk_take 1 (v := ?vr1) rfl (by kernel_rfl) (by kernel_rfl) (by kernel_rfl) (fun _ _ _ h => h) (p5) (Or.inl ⟨by rfl, ?yr1⟩) ?rr1
              case yr1 => intro w hSw; (try dsimp only at hSw); go_simp; try rfl
              case' rr1 => try simp only [List.getElem_toArray, List.getElem_cons_succ, List.getElem_cons_zero, Act.put, List.setIfInBounds_toArray, List.set_cons_zero, List.set_cons_succ]
              refine walk_take 2 (v := ?vr2) rfl (by kernel_rfl) (by kernel_rfl) (by kernel_rfl) (fun _ _ _ h => h) (p5) (Or.inl ⟨by rfl, ?yr2⟩) ?rr2
              case yr2 => intro w hSw; (try dsimp only at hSw); go_simp; try rfl
              case' rr2 => try simp only [List.getElem_toArray, List.getElem_cons_succ, List.getElem_cons_zero, Act.put, List.setIfInBounds_toArray, List.set_cons_zero, List.set_cons_succ]
              refine walk_take 3 (v := ?vr3) rfl (by kernel_rfl) (by kernel_rfl) (by kernel_rfl) (fun _ _ _ h => h) (p5) (Or.inl ⟨by rfl, ?yr3⟩) ?rr3
              case yr3 => intro w hSw; (try dsimp only at hSw); go_simp; try rfl
              case' rr3 => try simp only [List.getElem_toArray, List.getElem_cons_succ, List.getElem_cons_zero, Act.put, List.setIfInBounds_toArray, List.set_cons_zero, List.set_cons_succ]
              refine walk_take 4 (v := ?vr4) rfl (by kernel_rfl) (by kernel_rfl) (by kernel_rfl) (fun _ _ _ h => h) (p5) (Or.inl ⟨by rfl, ?yr4⟩) ?rr4
              case yr4 => intro w hSw; (try dsimp only at hSw); go_simp; try rfl
              case' rr4 => try simp only [List.getElem_toArray, List.getElem_cons_succ, List.getElem_cons_zero, Act.put, List.setIfInBounds_toArray, List.set_cons_zero, List.set_cons_succ]
              refine walk_take 5 (v := ?vr5) rfl (by kernel_rfl) (by kernel_rfl) (by kernel_rfl) (fun _ _ _ h => h) (p5) (Or.inl ⟨by rfl, ?yr5⟩) ?rr5
              case yr5 => intro w hSw; (try dsimp only at hSw); go_simp; try rfl
              case' rr5 => try simp only [List.getElem_toArray, List.getElem_cons_succ, List.getElem_cons_zero, Act.put, List.setIfInBounds_toArray, List.set_cons_zero, List.set_cons_succ]
              refine walk_take 6 (v := ?vr6) rfl (by kernel_rfl) (by kernel_rfl) (by kernel_rfl) (fun _ _ _ h => h) (p5) (Or.inl ⟨by rfl, ?yr6⟩) ?rr6
              case yr6 => intro w hSw; (try dsimp only at hSw); go_simp; try rfl
              case' rr6 => try simp only [List.getElem_toArray, List.getElem_cons_succ, List.getElem_cons_zero, Act.put, List.setIfInBounds_toArray, List.set_cons_zero, List.set_cons_succ]
              refine walk_take 7 (v := undef) rfl (by kernel_rfl) (by kernel_rfl) (by kernel_rfl) (fun _ _ _ h => h) (p5) (Or.inr ⟨by rfl, rfl⟩) ?rr7
              case' rr7 => try simp only [List.getElem_toArray, List.getElem_cons_succ, List.getElem_cons_zero, Act.put, List.setIfInBounds_toArray, List.set_cons_zero, List.set_cons_succ]
              refine walk_take 8 (v := undef) rfl (by kernel_rfl) (by kernel_rfl) (by kernel_rfl) (fun _ _ _ h => h) (p5) (Or.inr ⟨by rfl, rfl⟩) ?rr8
              case' rr8 => try simp only [List.getElem_toArray, List.getElem_cons_succ, List.getElem_cons_zero, Act.put, List.setIfInBounds_toArray, List.set_cons_zero, List.set_cons_succ]
              refine walk_take 9 (v := undef) rfl (by kernel_rfl) (by kernel_rfl) (by kernel_rfl) (fun _ _ _ h => h) (p5) (Or.inr ⟨by rfl, rfl⟩) ?rr9
              case' rr9 => try simp only [List.getElem_toArray, List.getElem_cons_succ, List.getElem_cons_zero, Act.put, List.setIfInBounds_toArray, List.set_cons_zero, List.set_cons_succ]
              refine walk_take 10 (v := undef) rfl (by kernel_rfl) (by kernel_rfl) (by kernel_rfl) (fun _ _ _ h => h) (p5) (Or.inr ⟨by rfl, rfl⟩) ?rr10
              case' rr10 => try simp only [List.getElem_toArray, List.getElem_cons_succ, List.getElem_cons_zero, Act.put, List.setIfInBounds_toArray, List.set_cons_zero, List.set_cons_succ]
              refine walk_take 11 (v := undef) rfl (by kernel_rfl) (by kernel_rfl) (by kernel_rfl) (fun _ _ _ h => h) (p5) (Or.inr ⟨by rfl, rfl⟩) ?rr11
              case' rr11 => try simp only [List.getElem_toArray, List.getElem_cons_succ, List.getElem_cons_zero, Act.put, List.setIfInBounds_toArray, List.set_cons_zero, List.set_cons_succ]
              refine walk_take 12 (v := undef) rfl (by kernel_rfl) (by kernel_rfl) (by kernel_rfl) (fun _ _ _ h => h) (p5) (Or.inr ⟨by rfl, rfl⟩) ?rr12
              case' rr12 => try simp only [List.getElem_toArray, List.getElem_cons_succ, List.getElem_cons_zero, Act.put, List.setIfInBounds_toArray, List.set_cons_zero, List.set_cons_succ]
              refine walk_take 13 (v := undef) rfl (by kernel_rfl) (by kernel_rfl) (by kernel_rfl) (fun _ _ _ h => h) (p5) (Or.inr ⟨by rfl, rfl⟩) ?rr13
              case' rr13 => try simp only [List.getElem_toArray, List.getElem_cons_succ, List.getElem_cons_zero, Act.put, List.setIfInBounds_toArray, List.set_cons_zero, List.set_cons_succ]
              refine walk_take 14 (v := undef) rfl (by kernel_rfl) (by kernel_rfl) (by kernel_rfl) (fun _ _ _ h => h) (p5) (Or.inr ⟨by rfl, rfl⟩) ?rr14
              case' rr14 => try simp only [List.getElem_toArray, List.getElem_cons_succ, List.getElem_cons_zero, Act.put, List.setIfInBounds_toArray, List.set_cons_zero, List.set_cons_succ]
              refine walk_take 15 (v := undef) rfl (by kernel_rfl) (by kernel_rfl) (by kernel_rfl) (fun _ _ _ h => h) (p5) (Or.inr ⟨by rfl, rfl⟩) ?rr15
              case' rr15 => try simp only [List.getElem_toArray, List.getElem_cons_succ, List.getElem_cons_zero, Act.put, List.setIfInBounds_toArray, List.set_cons_zero, List.set_cons_succ]
              refine walk_take 16 (v := undef) rfl (by kernel_rfl) (by kernel_rfl) (by kernel_rfl) (fun _ _ _ h => h) (p5) (Or.inr ⟨by rfl, rfl⟩) ?rr16
              case' rr16 => try simp only [List.getElem_toArray, List.getElem_cons_succ, List.getElem_cons_zero, Act.put, List.setIfInBounds_toArray, List.set_cons_zero, List.set_cons_succ]
              refine walk_take 17 (v := undef) rfl (by kernel_rfl) (by kernel_rfl) (by kernel_rfl) (fun _ _ _ h => h) (p5) (Or.inr ⟨by rfl, rfl⟩) ?rr17
              case' rr17 => try simp only [List.getElem_toArray, List.getElem_cons_succ, List.getElem_cons_zero, Act.put, List.setIfInBounds_toArray, List.set_cons_zero, List.set_cons_succ]
              refine walk_take 18 (v := undef) rfl (by kernel_rfl) (by kernel_rfl) (by kernel_rfl) (fun _ _ _ h => h) (p5) (Or.inr ⟨by rfl, rfl⟩) ?rr18
              case' rr18 => try simp only [List.getElem_toArray, List.getElem_cons_succ, List.getElem_cons_zero, Act.put, List.setIfInBounds_toArray, List.set_cons_zero, List.set_cons_succ]
              refine walk_tail (by kernel_rfl) ?_
              simp only [List.drop_succ_cons, List.drop_zero]
              go_wp2_with fail
              go_meet
              exact ⟨_, rfl, HE.out⟩
          have e5 : (y.stage == 0) = true := beq_t hst
          have HST := Lib.hid hst
          clear hst
          replace bp := bp.drew
          replace hM := hM.drew
          replace hBW := hBW.drew
          replace hbr : base ≤ wr.drew.heap.size := hbr
          by_cases hlt : p < fn
          rotate_left
          · -- C2
            as_aux_lemma =>
              have e7 : decide ((p : Int) < (fn : Int)) = false := decide_eq_false (by omega)
              have e7n : decide (p < fn) = false := decide_eq_false hlt
              have HR1 := Lib.hid (givR_e HF.out HA.out HST.out (by rw [HP.out, HFY.out]; omega))
              refine heldRegion (fun v => v.cell? ⟨P, 5, none⟩ = some (.int .i64 y.stage) ∧ v.cell? ⟨P, 7, none⟩ = some (.int .i64 (p : Int)) ∧ v.cell? ⟨P, 2, none⟩ = some (.slice F1 fn f1)) 19 (by kernel_rfl) (by kernel_rfl) ⟨p5, p7, p2⟩ (fun hSS => ?_)
              clear hSS p5w
              generalize wr.drew = W4 at *
              refine walk_take 0 (v := ?vs0) rfl (by kernel_rfl) (by kernel_rfl) (by kernel_rfl) (fun _ _ _ h => h) (⟨p5, p7, p2⟩) (Or.inl ⟨by rfl, ?ys0⟩) ?rs0
              case ys0 => intro w hSw; obtain ⟨hw1, hw2, hw3⟩ := hSw; (try dsimp only at hSw); go_simp; try rfl
              case' rs0 => try simp only [List.getElem_toArray, List.getElem_cons_succ, List.getElem_cons_zero, Act.put, List.setIfInBounds_toArray, List.set_cons_zero, List.set_cons_succ]
              refine walk_take 1 (v := ?vs1) rfl (by kernel_rfl) (by kernel_rfl) (by kernel_rfl) (fun _ _ _ h => h) (⟨p5, p7, p2⟩) (Or.inl ⟨by rfl, ?ys1⟩) ?rs1
              case ys1 => intro w hSw; obtain ⟨hw1, hw2, hw3⟩ := hSw; (try dsimp only at hSw); go_simp; try rfl
              case' rs1 => try simp only [List.getElem_toArray, List.getElem_cons_succ, List.getElem_cons_zero, Act.put, List.setIfInBounds_toArray, List.set_cons_zero, List.set_cons_succ]
              refine walk_take 2 (v := ?vs2) rfl (by kernel_rfl) (by kernel_rfl) (by kernel_rfl) (fun _ _ _ h => h) (⟨p5, p7, p2⟩) (Or.inl ⟨by rfl, ?ys2⟩) ?rs2
              case ys2 => intro w hSw; obtain ⟨hw1, hw2, hw3⟩ := hSw; (try dsimp only at hSw); go_simp; try rfl
              case' rs2 => try simp only [List.getElem_toArray, List.getElem_cons_succ, List.getElem_cons_zero, Act.put, List.setIfInBounds_toArray, List.set_cons_zero, List.set_cons_succ]
              refine walk_take 3 (v := ?vs3) rfl (by kernel_rfl) (by kernel_rfl) (by kernel_rfl) (fun _ _ _ h => h) (⟨p5, p7, p2⟩) (Or.inl ⟨by rfl, ?ys3⟩) ?rs3
              case ys3 => intro w hSw; obtain ⟨hw1, hw2, hw3⟩ := hSw; (try dsimp only at hSw); go_simp; try rfl
              case' rs3 => try simp only [List.getElem_toArray, List.getElem_cons_succ, List.getElem_cons_zero, Act.put, List.setIfInBounds_toArray, List.set_cons_zero, List.set_cons_succ]
              refine walk_take 4 (v := ?vs4) rfl (by kernel_rfl) (by kernel_rfl) (by kernel_rfl) (fun _ _ _ h => h) (⟨p5, p7, p2⟩) (Or.inl ⟨by rfl, ?ys4⟩) ?rs4
              case ys4 => intro w hSw; obtain ⟨hw1, hw2, hw3⟩ := hSw; (try dsimp only at hSw); go_simp; try rfl
              case' rs4 => try simp only [List.getElem_toArray, List.getElem_cons_succ, List.getElem_cons_zero, Act.put, List.setIfInBounds_toArray, List.set_cons_zero, List.set_cons_succ]
              refine walk_take 5 (v := ?vs5) rfl (by kernel_rfl) (by kernel_rfl) (by kernel_rfl) (fun _ _ _ h => h) (⟨p5, p7, p2⟩) (Or.inl ⟨by rfl, ?ys5⟩) ?rs5
              case ys5 => intro w hSw; obtain ⟨hw1, hw2, hw3⟩ := hSw; (try dsimp only at hSw); go_simp; try rfl
              case' rs5 => try simp only [List.getElem_toArray, List.getElem_cons_succ, List.getElem_cons_zero, Act.put, List.setIfInBounds_toArray, List.set_cons_zero, List.set_cons_succ]
              refine walk_take 6 (v := ?vs6) rfl (by kernel_rfl) (by kernel_rfl) (by kernel_rfl) (fun _ _ _ h => h) (⟨p5, p7, p2⟩) (Or.inl ⟨by rfl, ?ys6⟩) ?rs6
              case ys6 => intro w hSw; obtain ⟨hw1, hw2, hw3⟩ := hSw; (try dsimp only at hSw); go_simp; try rfl
              case' rs6 => try simp only [List.getElem_toArray, List.getElem_cons_succ, List.getElem_cons_zero, Act.put, List.setIfInBounds_toArray, List.set_cons_zero, List.set_cons_succ]
              refine walk_take 7 (v := ?vs7) rfl (by kernel_rfl) (by kernel_rfl) (by kernel_rfl) (fun _ _ _ h => h) (⟨p5, p7, p2⟩) (Or.inl ⟨by rfl, ?ys7⟩) ?rs7
              case ys7 => intro w hSw; obtain ⟨hw1, hw2, hw3⟩ := hSw; (try dsimp only at hSw); go_simp; try rfl
              case' rs7 => try simp only [List.getElem_toArray, List.getElem_cons_succ, List.getElem_cons_zero, Act.put, List.setIfInBounds_toArray, List.set_cons_zero, List.set_cons_succ]
              refine walk_take 8 (v := ?vs8) rfl (by kernel_rfl) (by kernel_rfl) (by kernel_rfl) (fun _ _ _ h => h) (⟨p5, p7, p2⟩) (Or.inl ⟨by rfl, ?ys8⟩) ?rs8
              case ys8 => intro w hSw; obtain ⟨hw1, hw2, hw3⟩ := hSw; (try dsimp only at hSw); go_simp; try rfl
              case' rs8 => try simp only [List.getElem_toArray, List.getElem_cons_succ, List.getElem_cons_zero, Act.put, List.setIfInBounds_toArray, List.set_cons_zero, List.set_cons_succ]
              refine walk_take 9 (v := ?vs9) rfl (by kernel_rfl) (by kernel_rfl) (by kernel_rfl) (fun _ _ _ h => h) (⟨p5, p7, p2⟩) (Or.inl ⟨by rfl, ?ys9⟩) ?rs9
              case ys9 => intro w hSw; obtain ⟨hw1, hw2, hw3⟩ := hSw; (try dsimp only at hSw); go_simp; try rfl
              case' rs9 => try simp only [List.getElem_toArray, List.getElem_cons_succ, List.getElem_cons_zero, Act.put, List.setIfInBounds_toArray, List.set_cons_zero, List.set_cons_succ]
              refine walk_take 10 (v := ?vs10) rfl (by kernel_rfl) (by kernel_rfl) (by kernel_rfl) (fun _ _ _ h => h) (⟨p5, p7, p2⟩) (Or.inl ⟨by rfl, ?ys10⟩) ?rs10
              case ys10 => intro w hSw; obtain ⟨hw1, hw2, hw3⟩ := hSw; (try dsimp only at hSw); go_simp; try rfl
              case' rs10 => try simp only [List.getElem_toArray, List.getElem_cons_succ, List.getElem_cons_zero, Act.put, List.setIfInBounds_toArray, List.set_cons_zero, List.set_cons_succ]
              refine walk_take 11 (v := ?vs11) rfl (by kernel_rfl) (by kernel_rfl) (by kernel_rfl) (fun _ _ _ h => h) (⟨p5, p7, p2⟩) (Or.inl ⟨by rfl, ?ys11⟩) ?rs11
              case ys11 => intro w hSw; obtain ⟨hw1, hw2, hw3⟩ := hSw; (try dsimp only at hSw); go_simp; try rfl
              case' rs11 => try simp only [List.getElem_toArray, List.getElem_cons_succ, List.getElem_cons_zero, Act.put, List.setIfInBounds_toArray, List.set_cons_zero, List.set_cons_succ]
              refine walk_take 12 (v := ?vs12) rfl (by kernel_rfl) (by kernel_rfl) (by kernel_rfl) (fun _ _ _ h => h) (⟨p5, p7, p2⟩) (Or.inl ⟨by rfl, ?ys12⟩) ?rs12
              case ys12 => intro w hSw; obtain ⟨hw1, hw2, hw3⟩ := hSw; (try dsimp only at hSw); go_simp; try rfl
              case' rs12 => try simp only [List.getElem_toArray, List.getElem_cons_succ, List.getElem_cons_zero, Act.put, List.setIfInBounds_toArray, List.set_cons_zero, List.set_cons_succ]
              refine walk_take 13 (v := ?vs13) rfl (by kernel_rfl) (by kernel_rfl) (by kernel_rfl) (fun _ _ _ h => h) (⟨p5, p7, p2⟩) (Or.inl ⟨by rfl, ?ys13⟩) ?rs13
              case ys13 => intro w hSw; obtain ⟨hw1, hw2, hw3⟩ := hSw; (try dsimp only at hSw); go_simp; try rfl
              case' rs13 => try simp only [List.getElem_toArray, List.getElem_cons_succ, List.getElem_cons_zero, Act.put, List.setIfInBounds_toArray, List.set_cons_zero, List.set_cons_succ]
              refine walk_take 14 (v := ?vs14) rfl (by kernel_rfl) (by kernel_rfl) (by kernel_rfl) (fun _ _ _ h => h) (⟨p5, p7, p2⟩) (Or.inl ⟨by rfl, ?ys14⟩) ?rs14
              case ys14 => intro w hSw; obtain ⟨hw1, hw2, hw3⟩ := hSw; (try dsimp only at hSw); go_simp; try rfl
              case' rs14 => try simp only [List.getElem_toArray, List.getElem_cons_succ, List.getElem_cons_zero, Act.put, List.setIfInBounds_toArray, List.set_cons_zero, List.set_cons_succ]
              refine walk_take 15 (v := ?vs15) rfl (by kernel_rfl) (by kernel_rfl) (by kernel_rfl) (fun _ _ _ h => h) (⟨p5, p7, p2⟩) (Or.inl ⟨by rfl, ?ys15⟩) ?rs15
              case ys15 => intro w hSw; obtain ⟨hw1, hw2, hw3⟩ := hSw; (try dsimp only at hSw); go_simp; try rfl
              case' rs15 => try simp only [List.getElem_toArray, List.getElem_cons_succ, List.getElem_cons_zero, Act.put, List.setIfInBounds_toArray, List.set_cons_zero, List.set_cons_succ]
              refine walk_take 16 (v := ?vs16) rfl (by kernel_rfl) (by kernel_rfl) (by kernel_rfl) (fun _ _ _ h => h) (⟨p5, p7, p2⟩) (Or.inl ⟨by rfl, ?ys16⟩) ?rs16
              case ys16 => intro w hSw; obtain ⟨hw1, hw2, hw3⟩ := hSw; (try dsimp only at hSw); go_simp; try rfl
              case' rs16 => try simp only [List.getElem_toArray, List.getElem_cons_succ, List.getElem_cons_zero, Act.put, List.setIfInBounds_toArray, List.set_cons_zero, List.set_cons_succ]
              refine walk_take 17 (v := ?vs17) rfl (by kernel_rfl) (by kernel_rfl) (by kernel_rfl) (fun _ _ _ h => h) (⟨p5, p7, p2⟩) (Or.inl ⟨by rfl, ?ys17⟩) ?rs17
              case ys17 => intro w hSw; obtain ⟨hw1, hw2, hw3⟩ := hSw; (try dsimp only at hSw); go_simp; try rfl
              case' rs17 => try simp only [List.getElem_toArray, List.getElem_cons_succ, List.getElem_cons_zero, Act.put, List.setIfInBounds_toArray, List.set_cons_zero, List.set_cons_succ]
              refine walk_take 18 (v := ?vs18) rfl (by kernel_rfl) (by kernel_rfl) (by kernel_rfl) (fun _ _ _ h => h) (⟨p5, p7, p2⟩) (Or.inl ⟨by rfl, ?ys18⟩) ?rs18
              case ys18 => intro w hSw; obtain ⟨hw1, hw2, hw3⟩ := hSw; (try dsimp only at hSw); go_simp; try rfl
              case' rs18 => try simp only [List.getElem_toArray, List.getElem_cons_succ, List.getElem_cons_zero, Act.put, List.setIfInBounds_toArray, List.set_cons_zero, List.set_cons_succ]
              refine walk_tail (by kernel_rfl) ?_
              simp only [List.drop_succ_cons, List.drop_zero]
              trace "C2"
              go_upto_region 30 with fail
              clear p5 p7 p2 e5 e7 e7n
              have CC := Lib.hid (gend_res P y F1 fn f1 A 0 ac W4 HFY.out hM.file.rd (by omega) bp)
              obtain ⟨n, hn⟩ : ∃ n, endN y = n := ⟨_, rfl⟩
              have HN1 := Lib.hid (show n.data.length = 0 ∧ n.gaps = [] by rw [← hn]; exact ⟨rfl, rfl⟩)
              rw [hn] at CC HR1
              clear hn
              go_wp2_with fail
              trace "CA"
              refine CC.out.mono ?_
              intro e w5 hnr
              obtain ⟨D, dc, rfl, hD, hb⟩ := hnr
              have hFr := FreshD.new hM (fun i hi => (hD.lt i hi).1)
              replace hD := hD.mono (base' := base) (by omega)
              have zb := hb.size
              replace bp := bp.step hb
              replace hM := hM.step hb
              replace hBW := hBW.trans (hb.mono hbr)
              replace hbr : base ≤ w5.heap.size := by omega
              clear hb zb CC
              have hO1 := hM.out.alloc (.cells #[.int .i64 n.kind, .int .i64 n.id, .string n.name, .int .i64 n.size, .int .i64 n.sum, .int .i64 n.at_, .slice D 0 dc, .slice none 0 0, .int .i64 n.of_, .int .i64 n.code] 27)
              have hRL := Rd_lit w5 [.int .i64 n.kind, .int .i64 n.id, .string n.name, .int .i64 n.size, .int .i64 n.sum, .int .i64 n.at_, .slice D 0 dc, .slice none 0 0, .int .i64 n.of_, .int .i64 n.code] 27
              have hlone : Hid (∀ u ∈ ([.int .i64 n.kind, .int .i64 n.id, .string n.name, .int .i64 n.size, .int .i64 n.sum, .int .i64 n.at_, .slice D 0 dc, .slice none 0 0, .int .i64 n.of_, .int .i64 n.code] : List Value), u.oneCell' = true) := Lib.hid (by simp [Value.oneCell'])
              have q4 : on + 1 ≤ maxLen := by unfold maxLen; omega
              have q5 : (on + 1) * 120 ≤ 140737488355328 := by omega
              have q6 : base ≤ (w5.alloc (.cells #[.int .i64 n.kind, .int .i64 n.id, .string n.name, .int .i64 n.size, .int .i64 n.sum, .int .i64 n.at_, .slice D 0 dc, .slice none 0 0, .int .i64 n.of_, .int .i64 n.code] 27)).heap.size := by simp; omega
              trace "CB"
              dsimp only
              go_upto_region 31 with (first | (refine wpList_noteRow rfl (.tmp 213) rfl n.kind n.id n.name n.size n.sum n.at_ D 0 dc none 0 0 n.of_ n.code rfl ?_) | (at_builtin; refine wpList_append_Own _ rfl (.tmp 211) (.tmp 214) 45 rfl base 27 j0 _ 10 120 Try.underlying45 hj0 hy0 hy1 hy2 rfl O on oc (nts l) rfl hO1 (some ⟨w5.heap.size, 0, none⟩) 1 1 [.int .i64 n.kind, .int .i64 n.id, .string n.name, .int .i64 n.size, .int .i64 n.sum, .int .i64 n.at_, .slice D 0 dc, .slice none 0 0, .int .i64 n.of_, .int .i64 n.code] rfl rfl hRL hlone.out q4 q5 q6 ?_; intro O5 oc5 w6 hO5 hg5 hor5))
              trace "AP"
              clear hO1 hRL hlone q4 q5 q6
              replace hM := app_more hM bp hBW hbr hg5 hO5 HN1.out.1 HN1.out.2 hD hFr
              obtain ⟨bp, hM, hBW⟩ := hM
              have hbr6 : base ≤ w6.heap.size := by have := hg5.size; simp at this; omega
              clear hO5 hg5 hor5 hD hFr HN1
              trace "ME"
              have kf := bp.frozen
              have y5 : w6.cell? ⟨P, 5, none⟩ = some (.int .i64 y.stage) := bp.cell' (i := 5) rfl
              have b5 := bp.set_ 5 (.int .i64 1)
              have z9 : (w6.setCell ⟨P, 5, none⟩ (.int .i64 1)).cell? ⟨P, 9, none⟩ = some (.int .i64 y.timer) := b5.cell' (i := 9) rfl
              have kf5 := b5.frozen
              have b9 := b5.set_ 9 (.int .i64 0)
              have z11 : ((w6.setCell ⟨P, 5, none⟩ (.int .i64 1)).setCell ⟨P, 9, none⟩ (.int .i64 0)).cell? ⟨P, 11, none⟩ = some (.int .i64 y.tries) := b9.cell' (i := 11) rfl
              have kf9 := b9.frozen
              go_wp2_with fail
              go_meet
              exact ⟨_, rfl, GrEnd.last HR1.out HI hon HN (b9.set_ 11 (.int .i64 0)) ((((hM.far_ (i := 5) bp (by decide) (by decide) (by decide) (.int .i64 1)).far_ (i := 9) b5 (by decide) (by decide) (by decide) (.int .i64 0)).far_ (i := 11) b9 (by decide) (by decide) (by decide) (.int .i64 0)).as rfl rfl) (((hBW.setCell (p := ⟨P, 5, none⟩) zp _).setCell (p := ⟨P, 9, none⟩) zp _).setCell (p := ⟨P, 11, none⟩) zp _)⟩
          · -- C1
            have e7 : decide ((p : Int) < (fn : Int)) = true := decide_eq_true (by omega)
            have e7n : decide (p < fn) = true := decide_eq_true hlt
            have hm := HI.out.most
            obtain ⟨r, hr⟩ : ∃ r : Nat, min (fn : Int) ((p : Int) + y.most) = (r : Int) := ⟨(min (fn : Int) ((p : Int) + y.most)).toNat, by omega⟩
            have HR1 := Lib.hid (givR_r HF.out HA.out HST.out HP.out HFY.out hlt hr)
            have hpr : p < r := by omega
            have hrt : r ≤ fn := by omega
            refine heldRegion (fun v => v.cell? ⟨P, 5, none⟩ = some (.int .i64 y.stage) ∧ v.cell? ⟨P, 7, none⟩ = some (.int .i64 (p : Int)) ∧ v.cell? ⟨P, 2, none⟩ = some (.slice F1 fn f1)) 19 (by kernel_rfl) (by kernel_rfl) ⟨p5, p7, p2⟩ (fun hSS => ?_)
            clear hSS p5w
            generalize wr.drew = W4 at *
            refine walk_take 0 (v := ?vu0) rfl (by kernel_rfl) (by kernel_rfl) (by kernel_rfl) (fun _ _ _ h => h) (⟨p5, p7, p2⟩) (Or.inl ⟨by rfl, ?yu0⟩) ?ru0
            case yu0 => intro w hSw; obtain ⟨hw1, hw2, hw3⟩ := hSw; (try dsimp only at hSw); go_simp; try rfl
            case' ru0 => try simp only [List.getElem_toArray, List.getElem_cons_succ, List.getElem_cons_zero, Act.put, List.setIfInBounds_toArray, List.set_cons_zero, List.set_cons_succ]
            refine walk_take 1 (v := ?vu1) rfl (by kernel_rfl) (by kernel_rfl) (by kernel_rfl) (fun _ _ _ h => h) (⟨p5, p7, p2⟩) (Or.inl ⟨by rfl, ?yu1⟩) ?ru1
            case yu1 => intro w hSw; obtain ⟨hw1, hw2, hw3⟩ := hSw; (try dsimp only at hSw); go_simp; try rfl
            case' ru1 => try simp only [List.getElem_toArray, List.getElem_cons_succ, List.getElem_cons_zero, Act.put, List.setIfInBounds_toArray, List.set_cons_zero, List.set_cons_succ]
            refine walk_take 2 (v := ?vu2) rfl (by kernel_rfl) (by kernel_rfl) (by kernel_rfl) (fun _ _ _ h => h) (⟨p5, p7, p2⟩) (Or.inl ⟨by rfl, ?yu2⟩) ?ru2
            case yu2 => intro w hSw; obtain ⟨hw1, hw2, hw3⟩ := hSw; (try dsimp only at hSw); go_simp; try rfl
            case' ru2 => try simp only [List.getElem_toArray, List.getElem_cons_succ, List.getElem_cons_zero, Act.put, List.setIfInBounds_toArray, List.set_cons_zero, List.set_cons_succ]
            refine walk_take 3 (v := ?vu3) rfl (by kernel_rfl) (by kernel_rfl) (by kernel_rfl) (fun _ _ _ h => h) (⟨p5, p7, p2⟩) (Or.inl ⟨by rfl, ?yu3⟩) ?ru3
            case yu3 => intro w hSw; obtain ⟨hw1, hw2, hw3⟩ := hSw; (try dsimp only at hSw); go_simp; try rfl
            case' ru3 => try simp only [List.getElem_toArray, List.getElem_cons_succ, List.getElem_cons_zero, Act.put, List.setIfInBounds_toArray, List.set_cons_zero, List.set_cons_succ]
            refine walk_take 4 (v := ?vu4) rfl (by kernel_rfl) (by kernel_rfl) (by kernel_rfl) (fun _ _ _ h => h) (⟨p5, p7, p2⟩) (Or.inl ⟨by rfl, ?yu4⟩) ?ru4
            case yu4 => intro w hSw; obtain ⟨hw1, hw2, hw3⟩ := hSw; (try dsimp only at hSw); go_simp; try rfl
            case' ru4 => try simp only [List.getElem_toArray, List.getElem_cons_succ, List.getElem_cons_zero, Act.put, List.setIfInBounds_toArray, List.set_cons_zero, List.set_cons_succ]
            refine walk_take 5 (v := ?vu5) rfl (by kernel_rfl) (by kernel_rfl) (by kernel_rfl) (fun _ _ _ h => h) (⟨p5, p7, p2⟩) (Or.inl ⟨by rfl, ?yu5⟩) ?ru5
            case yu5 => intro w hSw; obtain ⟨hw1, hw2, hw3⟩ := hSw; (try dsimp only at hSw); go_simp; try rfl
            case' ru5 => try simp only [List.getElem_toArray, List.getElem_cons_succ, List.getElem_cons_zero, Act.put, List.setIfInBounds_toArray, List.set_cons_zero, List.set_cons_succ]
            refine walk_take 6 (v := ?vu6) rfl (by kernel_rfl) (by kernel_rfl) (by kernel_rfl) (fun _ _ _ h => h) (⟨p5, p7, p2⟩) (Or.inl ⟨by rfl, ?yu6⟩) ?ru6
            case yu6 => intro w hSw; obtain ⟨hw1, hw2, hw3⟩ := hSw; (try dsimp only at hSw); go_simp; try rfl
            case' ru6 => try simp only [List.getElem_toArray, List.getElem_cons_succ, List.getElem_cons_zero, Act.put, List.setIfInBounds_toArray, List.set_cons_zero, List.set_cons_succ]
            refine walk_take 7 (v := ?vu7) rfl (by kernel_rfl) (by kernel_rfl) (by kernel_rfl) (fun _ _ _ h => h) (⟨p5, p7, p2⟩) (Or.inl ⟨by rfl, ?yu7⟩) ?ru7
            case yu7 => intro w hSw; obtain ⟨hw1, hw2, hw3⟩ := hSw; (try dsimp only at hSw); go_simp; try rfl
            case' ru7 => try simp only [List.getElem_toArray, List.getElem_cons_succ, List.getElem_cons_zero, Act.put, List.setIfInBounds_toArray, List.set_cons_zero, List.set_cons_succ]
            refine walk_take 8 (v := ?vu8) rfl (by kernel_rfl) (by kernel_rfl) (by kernel_rfl) (fun _ _ _ h => h) (⟨p5, p7, p2⟩) (Or.inl ⟨by rfl, ?yu8⟩) ?ru8
            case yu8 => intro w hSw; obtain ⟨hw1, hw2, hw3⟩ := hSw; (try dsimp only at hSw); go_simp; try rfl
            case' ru8 => try simp only [List.getElem_toArray, List.getElem_cons_succ, List.getElem_cons_zero, Act.put, List.setIfInBounds_toArray, List.set_cons_zero, List.set_cons_succ]
            refine walk_take 9 (v := ?vu9) rfl (by kernel_rfl) (by kernel_rfl) (by kernel_rfl) (fun _ _ _ h => h) (⟨p5, p7, p2⟩) (Or.inl ⟨by rfl, ?yu9⟩) ?ru9
            case yu9 => intro w hSw; obtain ⟨hw1, hw2, hw3⟩ := hSw; (try dsimp only at hSw); go_simp; try rfl
            case' ru9 => try simp only [List.getElem_toArray, List.getElem_cons_succ, List.getElem_cons_zero, Act.put, List.setIfInBounds_toArray, List.set_cons_zero, List.set_cons_succ]
            refine walk_take 10 (v := ?vu10) rfl (by kernel_rfl) (by kernel_rfl) (by kernel_rfl) (fun _ _ _ h => h) (⟨p5, p7, p2⟩) (Or.inl ⟨by rfl, ?yu10⟩) ?ru10
            case yu10 => intro w hSw; obtain ⟨hw1, hw2, hw3⟩ := hSw; (try dsimp only at hSw); go_simp; try rfl
            case' ru10 => try simp only [List.getElem_toArray, List.getElem_cons_succ, List.getElem_cons_zero, Act.put, List.setIfInBounds_toArray, List.set_cons_zero, List.set_cons_succ]
            refine walk_take 11 (v := ?vu11) rfl (by kernel_rfl) (by kernel_rfl) (by kernel_rfl) (fun _ _ _ h => h) (⟨p5, p7, p2⟩) (Or.inl ⟨by rfl, ?yu11⟩) ?ru11
            case yu11 => intro w hSw; obtain ⟨hw1, hw2, hw3⟩ := hSw; (try dsimp only at hSw); go_simp; try rfl
            case' ru11 => try simp only [List.getElem_toArray, List.getElem_cons_succ, List.getElem_cons_zero, Act.put, List.setIfInBounds_toArray, List.set_cons_zero, List.set_cons_succ]
            refine walk_take 12 (v := ?vu12) rfl (by kernel_rfl) (by kernel_rfl) (by kernel_rfl) (fun _ _ _ h => h) (⟨p5, p7, p2⟩) (Or.inl ⟨by rfl, ?yu12⟩) ?ru12
            case yu12 => intro w hSw; obtain ⟨hw1, hw2, hw3⟩ := hSw; (try dsimp only at hSw); go_simp; try rfl
            case' ru12 => try simp only [List.getElem_toArray, List.getElem_cons_succ, List.getElem_cons_zero, Act.put, List.setIfInBounds_toArray, List.set_cons_zero, List.set_cons_succ]
            refine walk_take 13 (v := ?vu13) rfl (by kernel_rfl) (by kernel_rfl) (by kernel_rfl) (fun _ _ _ h => h) (⟨p5, p7, p2⟩) (Or.inl ⟨by rfl, ?yu13⟩) ?ru13
            case yu13 => intro w hSw; obtain ⟨hw1, hw2, hw3⟩ := hSw; (try dsimp only at hSw); go_simp; try rfl
            case' ru13 => try simp only [List.getElem_toArray, List.getElem_cons_succ, List.getElem_cons_zero, Act.put, List.setIfInBounds_toArray, List.set_cons_zero, List.set_cons_succ]
            refine walk_take 14 (v := ?vu14) rfl (by kernel_rfl) (by kernel_rfl) (by kernel_rfl) (fun _ _ _ h => h) (⟨p5, p7, p2⟩) (Or.inl ⟨by rfl, ?yu14⟩) ?ru14
            case yu14 => intro w hSw; obtain ⟨hw1, hw2, hw3⟩ := hSw; (try dsimp only at hSw); go_simp; try rfl
            case' ru14 => try simp only [List.getElem_toArray, List.getElem_cons_succ, List.getElem_cons_zero, Act.put, List.setIfInBounds_toArray, List.set_cons_zero, List.set_cons_succ]
            refine walk_take 15 (v := ?vu15) rfl (by kernel_rfl) (by kernel_rfl) (by kernel_rfl) (fun _ _ _ h => h) (⟨p5, p7, p2⟩) (Or.inl ⟨by rfl, ?yu15⟩) ?ru15
            case yu15 => intro w hSw; obtain ⟨hw1, hw2, hw3⟩ := hSw; (try dsimp only at hSw); go_simp; try rfl
            case' ru15 => try simp only [List.getElem_toArray, List.getElem_cons_succ, List.getElem_cons_zero, Act.put, List.setIfInBounds_toArray, List.set_cons_zero, List.set_cons_succ]
            refine walk_take 16 (v := ?vu16) rfl (by kernel_rfl) (by kernel_rfl) (by kernel_rfl) (fun _ _ _ h => h) (⟨p5, p7, p2⟩) (Or.inl ⟨by rfl, ?yu16⟩) ?ru16
            case yu16 => intro w hSw; obtain ⟨hw1, hw2, hw3⟩ := hSw; (try dsimp only at hSw); go_simp; try rfl
            case' ru16 => try simp only [List.getElem_toArray, List.getElem_cons_succ, List.getElem_cons_zero, Act.put, List.setIfInBounds_toArray, List.set_cons_zero, List.set_cons_succ]
            refine walk_take 17 (v := ?vu17) rfl (by kernel_rfl) (by kernel_rfl) (by kernel_rfl) (fun _ _ _ h => h) (⟨p5, p7, p2⟩) (Or.inl ⟨by rfl, ?yu17⟩) ?ru17
            case yu17 => intro w hSw; obtain ⟨hw1, hw2, hw3⟩ := hSw; (try dsimp only at hSw); go_simp; try rfl
            case' ru17 => try simp only [List.getElem_toArray, List.getElem_cons_succ, List.getElem_cons_zero, Act.put, List.setIfInBounds_toArray, List.set_cons_zero, List.set_cons_succ]
            refine walk_take 18 (v := ?vu18) rfl (by kernel_rfl) (by kernel_rfl) (by kernel_rfl) (fun _ _ _ h => h) (⟨p5, p7, p2⟩) (Or.inl ⟨by rfl, ?yu18⟩) ?ru18
            case yu18 => intro w hSw; obtain ⟨hw1, hw2, hw3⟩ := hSw; (try dsimp only at hSw); go_simp; try rfl
            case' ru18 => try simp only [List.getElem_toArray, List.getElem_cons_succ, List.getElem_cons_zero, Act.put, List.setIfInBounds_toArray, List.set_cons_zero, List.set_cons_succ]
            refine walk_tail (by kernel_rfl) ?_
            simp only [List.drop_succ_cons, List.drop_zero]
            trace "C1"
            go_upto_region 24 with fail
            clear p5 p7 p2 e5 e7 e7n
            have p7 : W4.drew.cell? ⟨P, 7, none⟩ = some (.int .i64 (p : Int)) := by rw [← HP.out]; exact bp.drew.cell' (i := 7) rfl
            have p3 : W4.drew.cell? ⟨P, 3, none⟩ = some (.int .i64 y.most) := bp.drew.cell' (i := 3) rfl
            obtain ⟨sm, hsm⟩ : ∃ sm : Nat, (p : Int) + y.most = (sm : Int) := ⟨((p : Int) + y.most).toNat, by omega⟩
            have hsb : sm ≤ 70000 := by omega
            have ways : (decide ((fn : Int) < (sm : Int)) = true ∧ r = fn) ∨ (decide ((fn : Int) < (sm : Int)) = false ∧ r = sm) := by
              by_cases c : (fn : Int) < (sm : Int)
              · exact .inl ⟨decide_eq_true c, by omega⟩
              · exact .inr ⟨decide_eq_false c, by omega⟩
            have hwr : IntKind.i64.wrap ((p : Int) + y.most) = (sm : Int) := by rw [hsm]; exact IntWalk.i64_in _ (by omega)
            clear hr hm hsm
            refine heldRegion (fun v => v.cell? ⟨P, 7, none⟩ = some (.int .i64 (p : Int)) ∧ v.cell? ⟨P, 3, none⟩ = some (.int .i64 y.most)) 11 (by kernel_rfl) (by kernel_rfl) ⟨p7, p3⟩ (fun hSS => ?_)
            clear hSS
            replace bp := bp.drew
            replace hM := hM.drew
            replace hBW := hBW.drew
            replace hbr : base ≤ W4.drew.heap.size := hbr
            generalize W4.drew = W7 at *
            refine walk_take 0 (v := ?vv0) rfl (by kernel_rfl) (by kernel_rfl) (by kernel_rfl) (fun _ _ _ h => h) (⟨p7, p3⟩) (Or.inl ⟨by rfl, ?yv0⟩) ?rv0
            case yv0 => intro w hSw; obtain ⟨hw1, hw2⟩ := hSw; (try dsimp only at hSw); go_simp; try rfl
            case' rv0 => try simp only [List.getElem_toArray, List.getElem_cons_succ, List.getElem_cons_zero, Act.put, List.setIfInBounds_toArray, List.set_cons_zero, List.set_cons_succ]
            refine walk_take 1 (v := ?vv1) rfl (by kernel_rfl) (by kernel_rfl) (by kernel_rfl) (fun _ _ _ h => h) (⟨p7, p3⟩) (Or.inl ⟨by rfl, ?yv1⟩) ?rv1
            case yv1 => intro w hSw; obtain ⟨hw1, hw2⟩ := hSw; (try dsimp only at hSw); go_simp; try rfl
            case' rv1 => try simp only [List.getElem_toArray, List.getElem_cons_succ, List.getElem_cons_zero, Act.put, List.setIfInBounds_toArray, List.set_cons_zero, List.set_cons_succ]
            refine walk_take 2 (v := ?vv2) rfl (by kernel_rfl) (by kernel_rfl) (by kernel_rfl) (fun _ _ _ h => h) (⟨p7, p3⟩) (Or.inl ⟨by rfl, ?yv2⟩) ?rv2
            case yv2 => intro w hSw; obtain ⟨hw1, hw2⟩ := hSw; (try dsimp only at hSw); go_simp; try rfl
            case' rv2 => try simp only [List.getElem_toArray, List.getElem_cons_succ, List.getElem_cons_zero, Act.put, List.setIfInBounds_toArray, List.set_cons_zero, List.set_cons_succ]
            refine walk_take 3 (v := ?vv3) rfl (by kernel_rfl) (by kernel_rfl) (by kernel_rfl) (fun _ _ _ h => h) (⟨p7, p3⟩) (Or.inl ⟨by rfl, ?yv3⟩) ?rv3
            case yv3 => intro w hSw; obtain ⟨hw1, hw2⟩ := hSw; (try dsimp only at hSw); go_simp; try rfl
            case' rv3 => try simp only [List.getElem_toArray, List.getElem_cons_succ, List.getElem_cons_zero, Act.put, List.setIfInBounds_toArray, List.set_cons_zero, List.set_cons_succ]
            refine walk_take 4 (v := ?vv4) rfl (by kernel_rfl) (by kernel_rfl) (by kernel_rfl) (fun _ _ _ h => h) (⟨p7, p3⟩) (Or.inl ⟨by rfl, ?yv4⟩) ?rv4
            case yv4 => intro w hSw; obtain ⟨hw1, hw2⟩ := hSw; (try dsimp only at hSw); go_simp; try rfl
            case' rv4 => try simp only [List.getElem_toArray, List.getElem_cons_succ, List.getElem_cons_zero, Act.put, List.setIfInBounds_toArray, List.set_cons_zero, List.set_cons_succ]
            refine walk_take 5 (v := ?vv5) rfl (by kernel_rfl) (by kernel_rfl) (by kernel_rfl) (fun _ _ _ h => h) (⟨p7, p3⟩) (Or.inl ⟨by rfl, ?yv5⟩) ?rv5
            case yv5 => intro w hSw; obtain ⟨hw1, hw2⟩ := hSw; (try dsimp only at hSw); go_simp; try rfl
            case' rv5 => try simp only [List.getElem_toArray, List.getElem_cons_succ, List.getElem_cons_zero, Act.put, List.setIfInBounds_toArray, List.set_cons_zero, List.set_cons_succ]
            refine walk_take 6 (v := ?vv6) rfl (by kernel_rfl) (by kernel_rfl) (by kernel_rfl) (fun _ _ _ h => h) (⟨p7, p3⟩) (Or.inl ⟨by rfl, ?yv6⟩) ?rv6
            case yv6 => intro w hSw; obtain ⟨hw1, hw2⟩ := hSw; (try dsimp only at hSw); go_simp; try rfl
            case' rv6 => try simp only [List.getElem_toArray, List.getElem_cons_succ, List.getElem_cons_zero, Act.put, List.setIfInBounds_toArray, List.set_cons_zero, List.set_cons_succ]
            refine walk_take 7 (v := ?vv7) rfl (by kernel_rfl) (by kernel_rfl) (by kernel_rfl) (fun _ _ _ h => h) (⟨p7, p3⟩) (Or.inl ⟨by rfl, ?yv7⟩) ?rv7
            case yv7 => intro w hSw; obtain ⟨hw1, hw2⟩ := hSw; (try dsimp only at hSw); go_simp; try rfl
            case' rv7 => try simp only [List.getElem_toArray, List.getElem_cons_succ, List.getElem_cons_zero, Act.put, List.setIfInBounds_toArray, List.set_cons_zero, List.set_cons_succ]
            refine walk_take 8 (v := ?vv8) rfl (by kernel_rfl) (by kernel_rfl) (by kernel_rfl) (fun _ _ _ h => h) (⟨p7, p3⟩) (Or.inl ⟨by rfl, ?yv8⟩) ?rv8
            case yv8 => intro w hSw; obtain ⟨hw1, hw2⟩ := hSw; (try dsimp only at hSw); go_simp; try rfl
            case' rv8 => try simp only [List.getElem_toArray, List.getElem_cons_succ, List.getElem_cons_zero, Act.put, List.setIfInBounds_toArray, List.set_cons_zero, List.set_cons_succ]
            refine walk_take 9 (v := ?vv9) rfl (by kernel_rfl) (by kernel_rfl) (by kernel_rfl) (fun _ _ _ h => h) (⟨p7, p3⟩) (Or.inl ⟨by rfl, ?yv9⟩) ?rv9
            case yv9 => intro w hSw; obtain ⟨hw1, hw2⟩ := hSw; (try dsimp only at hSw); go_simp; try rfl
            case' rv9 => try simp only [List.getElem_toArray, List.getElem_cons_succ, List.getElem_cons_zero, Act.put, List.setIfInBounds_toArray, List.set_cons_zero, List.set_cons_succ]
            refine walk_take 10 (v := ?vv10) rfl (by kernel_rfl) (by kernel_rfl) (by kernel_rfl) (fun _ _ _ h => h) (⟨p7, p3⟩) (Or.inl ⟨by rfl, ?yv10⟩) ?rv10
            case yv10 => intro w hSw; obtain ⟨hw1, hw2⟩ := hSw; (try dsimp only at hSw); go_simp; try rfl
            case' rv10 => try simp only [List.getElem_toArray, List.getElem_cons_succ, List.getElem_cons_zero, Act.put, List.setIfInBounds_toArray, List.set_cons_zero, List.set_cons_succ]
            refine walk_tail (by kernel_rfl) ?_
            simp only [List.drop_succ_cons, List.drop_zero]
            clear hwr
            have p2 : W7.cell? ⟨P, 2, none⟩ = some (.slice F1 fn f1) := bp.cell' (i := 2) rfl
            trace "MF"
            rcases ways with ⟨hw, rfl⟩ | ⟨hw, rfl⟩
            ·
              as_aux_lemma =>
                have hwn : decide (r < sm) = true := decide_eq_true (by have := of_decide_eq_true hw; omega)
                go_upto_region 27 with fail
                clear hw hwn p3 p2
                have CC := Lib.hid (gpiece_res P y F1 r f1 A 0 ac p r base W7 HFY.out hM.file hff hpr hrt bp)
                obtain ⟨n, hn⟩ : ∃ n, pieceN y p r = n := ⟨_, rfl⟩
                have HN1 := Lib.hid (show n.data.length = r - p ∧ n.gaps = [] by rw [← hn]; exact ⟨pieceN_len (by omega) (by rw [HFY.out]; omega), rfl⟩)
                rw [hn] at CC HR1
                clear hn
                go_wp2_with fail
                trace "CA"
                refine CC.out.mono ?_
                intro e w5 hnr
                obtain ⟨D, dc, rfl, hD, hb⟩ := hnr
                have hFr := FreshD.new hM (fun i hi => (hD.lt i hi).1)
                replace hD := hD.mono (base' := base) (by omega)
                have zb := hb.size
                replace bp := bp.step hb
                replace hM := hM.step hb
                replace hBW := hBW.trans (hb.mono hbr)
                replace hbr : base ≤ w5.heap.size := by omega
                clear hb zb CC
                have hO1 := hM.out.alloc (.cells #[.int .i64 n.kind, .int .i64 n.id, .string n.name, .int .i64 n.size, .int .i64 n.sum, .int .i64 n.at_, .slice D (r - p) dc, .slice none 0 0, .int .i64 n.of_, .int .i64 n.code] 27)
                have hRL := Rd_lit w5 [.int .i64 n.kind, .int .i64 n.id, .string n.name, .int .i64 n.size, .int .i64 n.sum, .int .i64 n.at_, .slice D (r - p) dc, .slice none 0 0, .int .i64 n.of_, .int .i64 n.code] 27
                have hlone : Hid (∀ u ∈ ([.int .i64 n.kind, .int .i64 n.id, .string n.name, .int .i64 n.size, .int .i64 n.sum, .int .i64 n.at_, .slice D (r - p) dc, .slice none 0 0, .int .i64 n.of_, .int .i64 n.code] : List Value), u.oneCell' = true) := Lib.hid (by simp [Value.oneCell'])
                have q4 : on + 1 ≤ maxLen := by unfold maxLen; omega
                have q5 : (on + 1) * 120 ≤ 140737488355328 := by omega
                have q6 : base ≤ (w5.alloc (.cells #[.int .i64 n.kind, .int .i64 n.id, .string n.name, .int .i64 n.size, .int .i64 n.sum, .int .i64 n.at_, .slice D (r - p) dc, .slice none 0 0, .int .i64 n.of_, .int .i64 n.code] 27)).heap.size := by simp; omega
                trace "CB"
                dsimp only
                go_upto_region 28 with (first | (refine wpList_noteRow rfl (.tmp 197) rfl n.kind n.id n.name n.size n.sum n.at_ D (r - p) dc none 0 0 n.of_ n.code rfl ?_) | (at_builtin; refine wpList_append_Own _ rfl (.tmp 189) (.tmp 198) 45 rfl base 27 j0 _ 10 120 Try.underlying45 hj0 hy0 hy1 hy2 rfl O on oc (nts l) rfl hO1 (some ⟨w5.heap.size, 0, none⟩) 1 1 [.int .i64 n.kind, .int .i64 n.id, .string n.name, .int .i64 n.size, .int .i64 n.sum, .int .i64 n.at_, .slice D (r - p) dc, .slice none 0 0, .int .i64 n.of_, .int .i64 n.code] rfl rfl hRL hlone.out q4 q5 q6 ?_; intro O5 oc5 w6 hO5 hg5 hor5))
                trace "AP"
                clear hO1 hRL hlone q4 q5 q6
                replace hM := app_more hM bp hBW hbr hg5 hO5 HN1.out.1 HN1.out.2 hD hFr
                obtain ⟨bp, hM, hBW⟩ := hM
                have hbr6 : base ≤ w6.heap.size := by have := hg5.size; simp at this; omega
                clear hO5 hg5 hor5 hD hFr HN1
                have p7' : w6.cell? ⟨P, 7, none⟩ = some (.int .i64 (p : Int)) := by rw [← HP.out]; exact bp.cell' (i := 7) rfl
                have kf := bp.frozen
                go_wp2_with fail
                trace "AT"
                replace hM : GvMem (w6.setCell ⟨P, 7, none⟩ (.int .i64 (r : Int))) base { y with at_ := (r : Int) } _ F1 r f1 A 0 ac _ _ _ _ := (hM.far_ (i := 7) bp (by decide) (by decide) (by decide) (.int .i64 (r : Int))).as rfl rfl
                replace bp : Blk (w6.setCell ⟨P, 7, none⟩ (.int .i64 (r : Int))) P 99 (gvc { y with at_ := (r : Int) } F1 r f1 A 0 ac) := bp.set_ 7 (.int .i64 (r : Int))
                replace hBW := hBW.setCell (p := ⟨P, 7, none⟩) zp (.int .i64 (r : Int))
                go_roundw
                case rel => exact ⟨j, GrInv.next HR1.out HI HBU HJ.out HN bp hM hBW⟩
                case measure => have := HJ.out; simp only [outLen]; omega
            ·
              as_aux_lemma =>
                have hwn : decide (fn < r) = false := decide_eq_false (by omega)
                go_upto_region 27 with fail
                clear hw hwn p3 p2
                have CC := Lib.hid (gpiece_res P y F1 fn f1 A 0 ac p r base W7 HFY.out hM.file hff hpr hrt bp)
                obtain ⟨n, hn⟩ : ∃ n, pieceN y p r = n := ⟨_, rfl⟩
                have HN1 := Lib.hid (show n.data.length = r - p ∧ n.gaps = [] by rw [← hn]; exact ⟨pieceN_len (by omega) (by rw [HFY.out]; omega), rfl⟩)
                rw [hn] at CC HR1
                clear hn
                go_wp2_with fail
                trace "CA"
                refine CC.out.mono ?_
                intro e w5 hnr
                obtain ⟨D, dc, rfl, hD, hb⟩ := hnr
                have hFr := FreshD.new hM (fun i hi => (hD.lt i hi).1)
                replace hD := hD.mono (base' := base) (by omega)
                have zb := hb.size
                replace bp := bp.step hb
                replace hM := hM.step hb
                replace hBW := hBW.trans (hb.mono hbr)
                replace hbr : base ≤ w5.heap.size := by omega
                clear hb zb CC
                have hO1 := hM.out.alloc (.cells #[.int .i64 n.kind, .int .i64 n.id, .string n.name, .int .i64 n.size, .int .i64 n.sum, .int .i64 n.at_, .slice D (r - p) dc, .slice none 0 0, .int .i64 n.of_, .int .i64 n.code] 27)
                have hRL := Rd_lit w5 [.int .i64 n.kind, .int .i64 n.id, .string n.name, .int .i64 n.size, .int .i64 n.sum, .int .i64 n.at_, .slice D (r - p) dc, .slice none 0 0, .int .i64 n.of_, .int .i64 n.code] 27
                have hlone : Hid (∀ u ∈ ([.int .i64 n.kind, .int .i64 n.id, .string n.name, .int .i64 n.size, .int .i64 n.sum, .int .i64 n.at_, .slice D (r - p) dc, .slice none 0 0, .int .i64 n.of_, .int .i64 n.code] : List Value), u.oneCell' = true) := Lib.hid (by simp [Value.oneCell'])
                have q4 : on + 1 ≤ maxLen := by unfold maxLen; omega
                have q5 : (on + 1) * 120 ≤ 140737488355328 := by omega
                have q6 : base ≤ (w5.alloc (.cells #[.int .i64 n.kind, .int .i64 n.id, .string n.name, .int .i64 n.size, .int .i64 n.sum, .int .i64 n.at_, .slice D (r - p) dc, .slice none 0 0, .int .i64 n.of_, .int .i64 n.code] 27)).heap.size := by simp; omega
                trace "CB"
                dsimp only
                go_upto_region 28 with (first | (refine wpList_noteRow rfl (.tmp 197) rfl n.kind n.id n.name n.size n.sum n.at_ D (r - p) dc none 0 0 n.of_ n.code rfl ?_) | (at_builtin; refine wpList_append_Own _ rfl (.tmp 189) (.tmp 198) 45 rfl base 27 j0 _ 10 120 Try.underlying45 hj0 hy0 hy1 hy2 rfl O on oc (nts l) rfl hO1 (some ⟨w5.heap.size, 0, none⟩) 1 1 [.int .i64 n.kind, .int .i64 n.id, .string n.name, .int .i64 n.size, .int .i64 n.sum, .int .i64 n.at_, .slice D (r - p) dc, .slice none 0 0, .int .i64 n.of_, .int .i64 n.code] rfl rfl hRL hlone.out q4 q5 q6 ?_; intro O5 oc5 w6 hO5 hg5 hor5))
                trace "AP"
                clear hO1 hRL hlone q4 q5 q6
                replace hM := app_more hM bp hBW hbr hg5 hO5 HN1.out.1 HN1.out.2 hD hFr
                obtain ⟨bp, hM, hBW⟩ := hM
                have hbr6 : base ≤ w6.heap.size := by have := hg5.size; simp at this; omega
                clear hO5 hg5 hor5 hD hFr HN1
                have p7' : w6.cell? ⟨P, 7, none⟩ = some (.int .i64 (p : Int)) := by rw [← HP.out]; exact bp.cell' (i := 7) rfl
                have kf := bp.frozen
                go_wp2_with fail
                trace "AT"
                replace hM : GvMem (w6.setCell ⟨P, 7, none⟩ (.int .i64 (r : Int))) base { y with at_ := (r : Int) } _ F1 fn f1 A 0 ac _ _ _ _ := (hM.far_ (i := 7) bp (by decide) (by decide) (by decide) (.int .i64 (r : Int))).as rfl rfl
                replace bp : Blk (w6.setCell ⟨P, 7, none⟩ (.int .i64 (r : Int))) P 99 (gvc { y with at_ := (r : Int) } F1 fn f1 A 0 ac) := bp.set_ 7 (.int .i64 (r : Int))
                replace hBW := hBW.setCell (p := ⟨P, 7, none⟩) zp (.int .i64 (r : Int))
                go_roundw
                case rel => exact ⟨j, GrInv.next HR1.out HI HBU HJ.out HN bp hM hBW⟩
                case measure => have := HJ.out; simp only [outLen]; omega
  case rest =>
    trace "MR"
    obtain ⟨W, rfl, hend⟩ := hcut
    obtain ⟨y, ms, A2, an2, ac2, O, on, oc, l, rfl, bp, hM, HI, hon, HN, hBW⟩ := hend
    have hbase := HBS.out
    replace bx := bx.below hBW (by omega)
    replace br := br.below hBW (by omega)
    replace hB := hB.trans (hBW.mono (by omega))
    have hbr : base ≤ W.heap.size := by have := hBW.size; omega
    clear hBW start zp hbW
    have hBW : Below base W W := Below.refl _ _
    have zp : base ≤ P := ZP.out
    have b5 : W.cell? ⟨w.heap.size, 5, none⟩ = some (.int .i64 x.stage) := bx.cell' (i := 5) rfl
    have HIY := HI.out
    have hff := HFN.out
    have HFY := Lib.hid hM.fl
    obtain ⟨-, -, -, -, -, -, ⟨t0, t1, t2⟩, ⟨s0, s1, s2⟩⟩ := HIY
    by_cases hw : x.stage = 1 ∨ x.stage = 2
    rotate_left
    ·
      have e1 : (x.stage == 1) = false := beq_f (fun h => hw (.inl h))
      have e2 : (x.stage == 2) = false := beq_f (fun h => hw (.inr h))
      have HE := Lib.hid ((gvs_go H1.out HO.out HN.out).trans (by rw [givW_no hw]))
      clear hw
      go_upto_region 43 with fail
      clear b5 e1 e2
      have bq : Blk W P 99 #[.int .i64 y.id, .string y.name, .slice F1 fn f1, .int .i64 y.most, .int .i64 y.burst, .int .i64 y.stage, .bool y.first, .int .i64 y.at_, .slice A2 an2 ac2, .int .i64 y.timer, .int .i64 y.patience, .int .i64 y.tries, .int .i64 y.limit] := bp
      clear bp
      go_wp2_with (first
        | (refine wpList_load_row rfl 55 (.tmp 300) rfl P rfl 99 #[.int .i64 y.id, .string y.name, .slice F1 fn f1, .int .i64 y.most, .int .i64 y.burst, .int .i64 y.stage, .bool y.first, .int .i64 y.at_, .slice A2 an2 ac2, .int .i64 y.timer, .int .i64 y.patience, .int .i64 y.tries, .int .i64 y.limit] (0, 0) _ bq Try.underlying55 rfl giversz ?_)
        | (refine wpList_store_row rfl 55 (.tmp 2) (.tmp 301) rfl (w.heap.size + 1) #[.int .i64 y.id, .string y.name, .slice F1 fn f1, .int .i64 y.most, .int .i64 y.burst, .int .i64 y.stage, .bool y.first, .int .i64 y.at_, .slice A2 an2 ac2, .int .i64 y.timer, .int .i64 y.patience, .int .i64 y.tries, .int .i64 y.limit] rfl rfl 55 _ br giversz rfl (by simp [Value.oneCell']) ?_))
      have br2 := br.row #[.int .i64 y.id, .string y.name, .slice F1 fn f1, .int .i64 y.most, .int .i64 y.burst, .int .i64 y.stage, .bool y.first, .int .i64 y.at_, .slice A2 an2 ac2, .int .i64 y.timer, .int .i64 y.patience, .int .i64 y.tries, .int .i64 y.limit]
      refine bodyPost_ret (v := .tuple #[.agg #[.int .i64 y.id, .string y.name, .slice F1 fn f1, .int .i64 y.most, .int .i64 y.burst, .int .i64 y.stage, .bool y.first, .int .i64 y.at_, .slice A2 an2 ac2, .int .i64 y.timer, .int .i64 y.patience, .int .i64 y.tries, .int .i64 y.limit], .slice O on oc, .int .i64 0]) (results_cell_two rfl _ _ (w.heap.size + 1) 55 _ (0, 0) _ rfl rfl rfl br2 Try.underlying55 rfl giversz) rfl ?_
      exact GvRes.give HR.out HE.out (gv_out (y := y) (base := base) hB (by omega) (by have := HBS.out; omega) hM)
    have HEW := Lib.hid ((gvs_go H1.out HO.out HN.out).trans (by rw [givW_yes hw]))
    have ways : (x.stage == 1) = true ∨ ((x.stage == 1) = false ∧ (x.stage == 2) = true) := by
      rcases hw with h | h
      · exact .inl (beq_t h)
      · exact .inr ⟨beq_f (by omega), beq_t h⟩
    clear hw
    have kf := bp.frozen
    have y9 : W.cell? ⟨P, 9, none⟩ = some (.int .i64 y.timer) := bp.cell' (i := 9) rfl
    rcases ways with e1 | ⟨e1, e2⟩
    ·
      as_aux_lemma =>
        go_upto_region 36 with fail
        clear e1
        clear kf y9 b5 hBW bx
        replace hM := (hM.far_ (i := 9) bp (by decide) (by decide) (by decide) (.int .i64 (y.timer + 1))).as (z := { y with timer := y.timer + 1 }) rfl rfl
        replace bp : Blk (W.setCell ⟨P, 9, none⟩ (.int .i64 (y.timer + 1))) P 99 (gvc { y with timer := y.timer + 1 } F1 fn f1 A2 an2 ac2) := bp.set_ 9 (.int .i64 (y.timer + 1))
        replace hB := hB.setCell (p := ⟨P, 9, none⟩) (by show w.heap.size ≤ P; have := HBS.out; omega) (.int .i64 (y.timer + 1))
        replace br := br.far (p := ⟨P, 9, none⟩) (by show w.heap.size + 1 ≠ P; have := HBS.out; omega) (.int .i64 (y.timer + 1))
        replace hbr : base ≤ (W.setCell ⟨P, 9, none⟩ (.int .i64 (y.timer + 1))).heap.size := by simpa using hbr
        generalize W.setCell ⟨P, 9, none⟩ (.int .i64 (y.timer + 1)) = V1 at *
        have y9 : V1.drew.cell? ⟨P, 9, none⟩ = some (.int .i64 (y.timer + 1)) := bp.drew.cell' (i := 9) rfl
        have y10 : V1.drew.cell? ⟨P, 10, none⟩ = some (.int .i64 y.patience) := bp.drew.cell' (i := 10) rfl
        obtain ⟨ep, hep⟩ : ∃ ep, (y.timer + 1 == y.patience) = ep := ⟨_, rfl⟩
        refine heldRegion (fun v => v.cell? ⟨P, 9, none⟩ = some (.int .i64 (y.timer + 1)) ∧ v.cell? ⟨P, 10, none⟩ = some (.int .i64 y.patience)) 10 (by kernel_rfl) (by kernel_rfl) ⟨y9, y10⟩ (fun hSS => ?_)
        clear hSS
        replace hM := hM.drew
        replace bp := bp.drew
        replace hB := hB.drew
        replace br := br.drew
        replace hbr : base ≤ V1.drew.heap.size := hbr
        generalize V1.drew = V2 at *
        refine walk_take 0 (v := ?vwaa0) rfl (by kernel_rfl) (by kernel_rfl) (by kernel_rfl) (fun _ _ _ h => h) (⟨y9, y10⟩) (Or.inl ⟨by rfl, ?ywaa0⟩) ?rwaa0
        case ywaa0 => intro w hSw; obtain ⟨hw1, hw2⟩ := hSw; (try dsimp only at hSw); go_simp; try rfl
        case' rwaa0 => try simp only [List.getElem_toArray, List.getElem_cons_succ, List.getElem_cons_zero, Act.put, List.setIfInBounds_toArray, List.set_cons_zero, List.set_cons_succ]
        refine walk_take 1 (v := ?vwaa1) rfl (by kernel_rfl) (by kernel_rfl) (by kernel_rfl) (fun _ _ _ h => h) (⟨y9, y10⟩) (Or.inl ⟨by rfl, ?ywaa1⟩) ?rwaa1
        case ywaa1 => intro w hSw; obtain ⟨hw1, hw2⟩ := hSw; (try dsimp only at hSw); go_simp; try rfl
        case' rwaa1 => try simp only [List.getElem_toArray, List.getElem_cons_succ, List.getElem_cons_zero, Act.put, List.setIfInBounds_toArray, List.set_cons_zero, List.set_cons_succ]
        refine walk_take 2 (v := ?vwaa2) rfl (by kernel_rfl) (by kernel_rfl) (by kernel_rfl) (fun _ _ _ h => h) (⟨y9, y10⟩) (Or.inl ⟨by rfl, ?ywaa2⟩) ?rwaa2
        case ywaa2 => intro w hSw; obtain ⟨hw1, hw2⟩ := hSw; (try dsimp only at hSw); go_simp; try rfl
        case' rwaa2 => try simp only [List.getElem_toArray, List.getElem_cons_succ, List.getElem_cons_zero, Act.put, List.setIfInBounds_toArray, List.set_cons_zero, List.set_cons_succ]
        refine walk_take 3 (v := ?vwaa3) rfl (by kernel_rfl) (by kernel_rfl) (by kernel_rfl) (fun _ _ _ h => h) (⟨y9, y10⟩) (Or.inl ⟨by rfl, ?ywaa3⟩) ?rwaa3
        case ywaa3 => intro w hSw; obtain ⟨hw1, hw2⟩ := hSw; (try dsimp only at hSw); go_simp; try rfl
        case' rwaa3 => try simp only [List.getElem_toArray, List.getElem_cons_succ, List.getElem_cons_zero, Act.put, List.setIfInBounds_toArray, List.set_cons_zero, List.set_cons_succ]
        refine walk_take 4 (v := ?vwaa4) rfl (by kernel_rfl) (by kernel_rfl) (by kernel_rfl) (fun _ _ _ h => h) (⟨y9, y10⟩) (Or.inl ⟨by rfl, ?ywaa4⟩) ?rwaa4
        case ywaa4 => intro w hSw; obtain ⟨hw1, hw2⟩ := hSw; (try dsimp only at hSw); go_simp; try rfl
        case' rwaa4 => try simp only [List.getElem_toArray, List.getElem_cons_succ, List.getElem_cons_zero, Act.put, List.setIfInBounds_toArray, List.set_cons_zero, List.set_cons_succ]
        refine walk_take 5 (v := ?vwaa5) rfl (by kernel_rfl) (by kernel_rfl) (by kernel_rfl) (fun _ _ _ h => h) (⟨y9, y10⟩) (Or.inl ⟨by rfl, ?ywaa5⟩) ?rwaa5
        case ywaa5 => intro w hSw; obtain ⟨hw1, hw2⟩ := hSw; (try dsimp only at hSw); go_simp; try rfl
        case' rwaa5 => try simp only [List.getElem_toArray, List.getElem_cons_succ, List.getElem_cons_zero, Act.put, List.setIfInBounds_toArray, List.set_cons_zero, List.set_cons_succ]
        refine walk_take 6 (v := ?vwaa6) rfl (by kernel_rfl) (by kernel_rfl) (by kernel_rfl) (fun _ _ _ h => h) (⟨y9, y10⟩) (Or.inl ⟨by rfl, ?ywaa6⟩) ?rwaa6
        case ywaa6 => intro w hSw; obtain ⟨hw1, hw2⟩ := hSw; (try dsimp only at hSw); go_simp; try rfl
        case' rwaa6 => try simp only [List.getElem_toArray, List.getElem_cons_succ, List.getElem_cons_zero, Act.put, List.setIfInBounds_toArray, List.set_cons_zero, List.set_cons_succ]
        refine walk_take 7 (v := ?vwaa7) rfl (by kernel_rfl) (by kernel_rfl) (by kernel_rfl) (fun _ _ _ h => h) (⟨y9, y10⟩) (Or.inl ⟨by rfl, ?ywaa7⟩) ?rwaa7
        case ywaa7 => intro w hSw; obtain ⟨hw1, hw2⟩ := hSw; (try dsimp only at hSw); go_simp; try rfl
        case' rwaa7 => try simp only [List.getElem_toArray, List.getElem_cons_succ, List.getElem_cons_zero, Act.put, List.setIfInBounds_toArray, List.set_cons_zero, List.set_cons_succ]
        refine walk_take 8 (v := ?vwaa8) rfl (by kernel_rfl) (by kernel_rfl) (by kernel_rfl) (fun _ _ _ h => h) (⟨y9, y10⟩) (Or.inl ⟨by rfl, ?ywaa8⟩) ?rwaa8
        case ywaa8 => intro w hSw; obtain ⟨hw1, hw2⟩ := hSw; (try dsimp only at hSw); go_simp; try rfl
        case' rwaa8 => try simp only [List.getElem_toArray, List.getElem_cons_succ, List.getElem_cons_zero, Act.put, List.setIfInBounds_toArray, List.set_cons_zero, List.set_cons_succ]
        refine walk_take 9 (v := ?vwaa9) rfl (by kernel_rfl) (by kernel_rfl) (by kernel_rfl) (fun _ _ _ h => h) (⟨y9, y10⟩) (Or.inl ⟨by rfl, ?ywaa9⟩) ?rwaa9
        case ywaa9 => intro w hSw; obtain ⟨hw1, hw2⟩ := hSw; (try dsimp only at hSw); go_simp; try rfl
        case' rwaa9 => try simp only [List.getElem_toArray, List.getElem_cons_succ, List.getElem_cons_zero, Act.put, List.setIfInBounds_toArray, List.set_cons_zero, List.set_cons_succ]
        refine walk_tail (by kernel_rfl) ?_
        simp only [List.drop_succ_cons, List.drop_zero]
        trace "WAa"
        by_cases hp : y.timer + 1 = y.patience
        rotate_left
        ·
          obtain rfl : ep = false := by rw [← hep]; exact beq_f hp
          have HE := Lib.hid (HEW.out.trans (by rw [waitR_a hp]))
          clear hp
          go_upto_region 43 with fail
          clear y9 y10 hep
          have bq : Blk V2 P 99 #[.int .i64 y.id, .string y.name, .slice F1 fn f1, .int .i64 y.most, .int .i64 y.burst, .int .i64 y.stage, .bool y.first, .int .i64 y.at_, .slice A2 an2 ac2, .int .i64 (y.timer + 1), .int .i64 y.patience, .int .i64 y.tries, .int .i64 y.limit] := bp
          clear bp
          go_wp2_with (first
            | (refine wpList_load_row rfl 55 (.tmp 300) rfl P rfl 99 #[.int .i64 y.id, .string y.name, .slice F1 fn f1, .int .i64 y.most, .int .i64 y.burst, .int .i64 y.stage, .bool y.first, .int .i64 y.at_, .slice A2 an2 ac2, .int .i64 (y.timer + 1), .int .i64 y.patience, .int .i64 y.tries, .int .i64 y.limit] (0, 0) _ bq Try.underlying55 rfl giversz ?_)
            | (refine wpList_store_row rfl 55 (.tmp 2) (.tmp 301) rfl (w.heap.size + 1) #[.int .i64 y.id, .string y.name, .slice F1 fn f1, .int .i64 y.most, .int .i64 y.burst, .int .i64 y.stage, .bool y.first, .int .i64 y.at_, .slice A2 an2 ac2, .int .i64 (y.timer + 1), .int .i64 y.patience, .int .i64 y.tries, .int .i64 y.limit] rfl rfl 55 _ br giversz rfl (by simp [Value.oneCell']) ?_))
          have br2 := br.row #[.int .i64 y.id, .string y.name, .slice F1 fn f1, .int .i64 y.most, .int .i64 y.burst, .int .i64 y.stage, .bool y.first, .int .i64 y.at_, .slice A2 an2 ac2, .int .i64 (y.timer + 1), .int .i64 y.patience, .int .i64 y.tries, .int .i64 y.limit]
          refine bodyPost_ret (v := .tuple #[.agg #[.int .i64 y.id, .string y.name, .slice F1 fn f1, .int .i64 y.most, .int .i64 y.burst, .int .i64 y.stage, .bool y.first, .int .i64 y.at_, .slice A2 an2 ac2, .int .i64 (y.timer + 1), .int .i64 y.patience, .int .i64 y.tries, .int .i64 y.limit], .slice O on oc, .int .i64 0]) (results_cell_two rfl _ _ (w.heap.size + 1) 55 _ (0, 0) _ rfl rfl rfl br2 Try.underlying55 rfl giversz) rfl ?_
          exact GvRes.give HR.out HE.out (gv_out (y := { y with timer := y.timer + 1 }) (base := base) hB (by omega) (by have := HBS.out; omega) hM)
        obtain rfl : ep = true := by rw [← hep]; exact beq_t hp
        have HPP := Lib.hid hp
        clear hp
        have kf := bp.frozen
        have y9' : V2.cell? ⟨P, 9, none⟩ = some (.int .i64 (y.timer + 1)) := y9
        go_upto_region 38 with fail
        clear y9 y9' y10 hep kf
        replace hM := (hM.far_ (i := 9) bp (by decide) (by decide) (by decide) (.int .i64 0)).as (z := { y with timer := 0 }) rfl rfl
        replace bp : Blk (V2.setCell ⟨P, 9, none⟩ (.int .i64 0)) P 99 (gvc { y with timer := 0 } F1 fn f1 A2 an2 ac2) := bp.set_ 9 (.int .i64 0)
        replace hB := hB.setCell (p := ⟨P, 9, none⟩) (by show w.heap.size ≤ P; have := HBS.out; omega) (.int .i64 0)
        replace br := br.far (p := ⟨P, 9, none⟩) (by show w.heap.size + 1 ≠ P; have := HBS.out; omega) (.int .i64 0)
        replace hbr : base ≤ (V2.setCell ⟨P, 9, none⟩ (.int .i64 0)).heap.size := by simpa using hbr
        generalize V2.setCell ⟨P, 9, none⟩ (.int .i64 0) = V3 at *
        have kf := bp.frozen
        have y11 : V3.cell? ⟨P, 11, none⟩ = some (.int .i64 y.tries) := bp.cell' (i := 11) rfl
        go_upto_region 39 with fail
        clear kf y11
        replace hM := (hM.far_ (i := 11) bp (by decide) (by decide) (by decide) (.int .i64 (y.tries + 1))).as (z := { y with timer := 0, tries := y.tries + 1 }) rfl rfl
        replace bp : Blk (V3.setCell ⟨P, 11, none⟩ (.int .i64 (y.tries + 1))) P 99 (gvc { y with timer := 0, tries := y.tries + 1 } F1 fn f1 A2 an2 ac2) := bp.set_ 11 (.int .i64 (y.tries + 1))
        replace hB := hB.setCell (p := ⟨P, 11, none⟩) (by show w.heap.size ≤ P; have := HBS.out; omega) (.int .i64 (y.tries + 1))
        replace br := br.far (p := ⟨P, 11, none⟩) (by show w.heap.size + 1 ≠ P; have := HBS.out; omega) (.int .i64 (y.tries + 1))
        replace hbr : base ≤ (V3.setCell ⟨P, 11, none⟩ (.int .i64 (y.tries + 1))).heap.size := by simpa using hbr
        generalize V3.setCell ⟨P, 11, none⟩ (.int .i64 (y.tries + 1)) = V4 at *
        have y11 : V4.drew.cell? ⟨P, 11, none⟩ = some (.int .i64 (y.tries + 1)) := bp.drew.cell' (i := 11) rfl
        have y12 : V4.drew.cell? ⟨P, 12, none⟩ = some (.int .i64 y.limit) := bp.drew.cell' (i := 12) rfl
        obtain ⟨eq_, heq_⟩ : ∃ eq_, decide (y.limit < y.tries + 1) = eq_ := ⟨_, rfl⟩
        refine heldRegion (fun v => v.cell? ⟨P, 11, none⟩ = some (.int .i64 (y.tries + 1)) ∧ v.cell? ⟨P, 12, none⟩ = some (.int .i64 y.limit)) 10 (by kernel_rfl) (by kernel_rfl) ⟨y11, y12⟩ (fun hSS => ?_)
        clear hSS
        replace hM := hM.drew
        replace bp := bp.drew
        replace hB := hB.drew
        replace br := br.drew
        replace hbr : base ≤ V4.drew.heap.size := hbr
        generalize V4.drew = V5 at *
        refine walk_take 0 (v := ?vwba0) rfl (by kernel_rfl) (by kernel_rfl) (by kernel_rfl) (fun _ _ _ h => h) (⟨y11, y12⟩) (Or.inl ⟨by rfl, ?ywba0⟩) ?rwba0
        case ywba0 => intro w hSw; obtain ⟨hw1, hw2⟩ := hSw; (try dsimp only at hSw); go_simp; try rfl
        case' rwba0 => try simp only [List.getElem_toArray, List.getElem_cons_succ, List.getElem_cons_zero, Act.put, List.setIfInBounds_toArray, List.set_cons_zero, List.set_cons_succ]
        refine walk_take 1 (v := ?vwba1) rfl (by kernel_rfl) (by kernel_rfl) (by kernel_rfl) (fun _ _ _ h => h) (⟨y11, y12⟩) (Or.inl ⟨by rfl, ?ywba1⟩) ?rwba1
        case ywba1 => intro w hSw; obtain ⟨hw1, hw2⟩ := hSw; (try dsimp only at hSw); go_simp; try rfl
        case' rwba1 => try simp only [List.getElem_toArray, List.getElem_cons_succ, List.getElem_cons_zero, Act.put, List.setIfInBounds_toArray, List.set_cons_zero, List.set_cons_succ]
        refine walk_take 2 (v := ?vwba2) rfl (by kernel_rfl) (by kernel_rfl) (by kernel_rfl) (fun _ _ _ h => h) (⟨y11, y12⟩) (Or.inl ⟨by rfl, ?ywba2⟩) ?rwba2
        case ywba2 => intro w hSw; obtain ⟨hw1, hw2⟩ := hSw; (try dsimp only at hSw); go_simp; try rfl
        case' rwba2 => try simp only [List.getElem_toArray, List.getElem_cons_succ, List.getElem_cons_zero, Act.put, List.setIfInBounds_toArray, List.set_cons_zero, List.set_cons_succ]
        refine walk_take 3 (v := ?vwba3) rfl (by kernel_rfl) (by kernel_rfl) (by kernel_rfl) (fun _ _ _ h => h) (⟨y11, y12⟩) (Or.inl ⟨by rfl, ?ywba3⟩) ?rwba3
        case ywba3 => intro w hSw; obtain ⟨hw1, hw2⟩ := hSw; (try dsimp only at hSw); go_simp; try rfl
        case' rwba3 => try simp only [List.getElem_toArray, List.getElem_cons_succ, List.getElem_cons_zero, Act.put, List.setIfInBounds_toArray, List.set_cons_zero, List.set_cons_succ]
        refine walk_take 4 (v := ?vwba4) rfl (by kernel_rfl) (by kernel_rfl) (by kernel_rfl) (fun _ _ _ h => h) (⟨y11, y12⟩) (Or.inl ⟨by rfl, ?ywba4⟩) ?rwba4
        case ywba4 => intro w hSw; obtain ⟨hw1, hw2⟩ := hSw; (try dsimp only at hSw); go_simp; try rfl
        case' rwba4 => try simp only [List.getElem_toArray, List.getElem_cons_succ, List.getElem_cons_zero, Act.put, List.setIfInBounds_toArray, List.set_cons_zero, List.set_cons_succ]
        refine walk_take 5 (v := ?vwba5) rfl (by kernel_rfl) (by kernel_rfl) (by kernel_rfl) (fun _ _ _ h => h) (⟨y11, y12⟩) (Or.inl ⟨by rfl, ?ywba5⟩) ?rwba5
        case ywba5 => intro w hSw; obtain ⟨hw1, hw2⟩ := hSw; (try dsimp only at hSw); go_simp; try rfl
        case' rwba5 => try simp only [List.getElem_toArray, List.getElem_cons_succ, List.getElem_cons_zero, Act.put, List.setIfInBounds_toArray, List.set_cons_zero, List.set_cons_succ]
        refine walk_take 6 (v := ?vwba6) rfl (by kernel_rfl) (by kernel_rfl) (by kernel_rfl) (fun _ _ _ h => h) (⟨y11, y12⟩) (Or.inl ⟨by rfl, ?ywba6⟩) ?rwba6
        case ywba6 => intro w hSw; obtain ⟨hw1, hw2⟩ := hSw; (try dsimp only at hSw); go_simp; try rfl
        case' rwba6 => try simp only [List.getElem_toArray, List.getElem_cons_succ, List.getElem_cons_zero, Act.put, List.setIfInBounds_toArray, List.set_cons_zero, List.set_cons_succ]
        refine walk_take 7 (v := ?vwba7) rfl (by kernel_rfl) (by kernel_rfl) (by kernel_rfl) (fun _ _ _ h => h) (⟨y11, y12⟩) (Or.inl ⟨by rfl, ?ywba7⟩) ?rwba7
        case ywba7 => intro w hSw; obtain ⟨hw1, hw2⟩ := hSw; (try dsimp only at hSw); go_simp; try rfl
        case' rwba7 => try simp only [List.getElem_toArray, List.getElem_cons_succ, List.getElem_cons_zero, Act.put, List.setIfInBounds_toArray, List.set_cons_zero, List.set_cons_succ]
        refine walk_take 8 (v := ?vwba8) rfl (by kernel_rfl) (by kernel_rfl) (by kernel_rfl) (fun _ _ _ h => h) (⟨y11, y12⟩) (Or.inl ⟨by rfl, ?ywba8⟩) ?rwba8
        case ywba8 => intro w hSw; obtain ⟨hw1, hw2⟩ := hSw; (try dsimp only at hSw); go_simp; try rfl
        case' rwba8 => try simp only [List.getElem_toArray, List.getElem_cons_succ, List.getElem_cons_zero, Act.put, List.setIfInBounds_toArray, List.set_cons_zero, List.set_cons_succ]
        refine walk_take 9 (v := ?vwba9) rfl (by kernel_rfl) (by kernel_rfl) (by kernel_rfl) (fun _ _ _ h => h) (⟨y11, y12⟩) (Or.inl ⟨by rfl, ?ywba9⟩) ?rwba9
        case ywba9 => intro w hSw; obtain ⟨hw1, hw2⟩ := hSw; (try dsimp only at hSw); go_simp; try rfl
        case' rwba9 => try simp only [List.getElem_toArray, List.getElem_cons_succ, List.getElem_cons_zero, Act.put, List.setIfInBounds_toArray, List.set_cons_zero, List.set_cons_succ]
        refine walk_tail (by kernel_rfl) ?_
        simp only [List.drop_succ_cons, List.drop_zero]
        trace "WBa"
        by_cases hq : y.limit < y.tries + 1
        ·
          obtain rfl : eq_ = true := by rw [← heq_]; exact decide_eq_true hq
          have HE := Lib.hid (HEW.out.trans (by rw [waitR_b HPP.out hq]))
          clear hq
          have kf := bp.frozen
          have y11' : V5.cell? ⟨P, 11, none⟩ = some (.int .i64 (y.tries + 1)) := y11
          trace "WDa"
          go_upto_region 41 with fail
          trace "WEa"
          clear y11 y11' y12 heq_ kf
          replace hM := (hM.far_ (i := 11) bp (by decide) (by decide) (by decide) (.int .i64 y.limit)).as (z := { y with timer := 0, tries := y.limit }) rfl rfl
          replace bp : Blk (V5.setCell ⟨P, 11, none⟩ (.int .i64 y.limit)) P 99 (gvc { y with timer := 0, tries := y.limit } F1 fn f1 A2 an2 ac2) := bp.set_ 11 (.int .i64 y.limit)
          replace hB := hB.setCell (p := ⟨P, 11, none⟩) (by show w.heap.size ≤ P; have := HBS.out; omega) (.int .i64 y.limit)
          replace br := br.far (p := ⟨P, 11, none⟩) (by show w.heap.size + 1 ≠ P; have := HBS.out; omega) (.int .i64 y.limit)
          replace hbr : base ≤ (V5.setCell ⟨P, 11, none⟩ (.int .i64 y.limit)).heap.size := by simpa using hbr
          generalize V5.setCell ⟨P, 11, none⟩ (.int .i64 y.limit) = V6 at *
          trace "WFa"
          have kf := bp.frozen
          have y5 : V6.cell? ⟨P, 5, none⟩ = some (.int .i64 y.stage) := bp.cell' (i := 5) rfl
          go_upto_region 43 with fail
          trace "WGa"
          clear kf y5
          replace hM := (hM.far_ (i := 5) bp (by decide) (by decide) (by decide) (.int .i64 4)).as (z := { y with timer := 0, tries := y.limit, stage := 4 }) rfl rfl
          replace bp : Blk (V6.setCell ⟨P, 5, none⟩ (.int .i64 4)) P 99 (gvc { y with timer := 0, tries := y.limit, stage := 4 } F1 fn f1 A2 an2 ac2) := bp.set_ 5 (.int .i64 4)
          replace hB := hB.setCell (p := ⟨P, 5, none⟩) (by show w.heap.size ≤ P; have := HBS.out; omega) (.int .i64 4)
          replace br := br.far (p := ⟨P, 5, none⟩) (by show w.heap.size + 1 ≠ P; have := HBS.out; omega) (.int .i64 4)
          replace hbr : base ≤ (V6.setCell ⟨P, 5, none⟩ (.int .i64 4)).heap.size := by simpa using hbr
          generalize V6.setCell ⟨P, 5, none⟩ (.int .i64 4) = V7 at *
          trace "WHa"
          have bq : Blk V7 P 99 #[.int .i64 y.id, .string y.name, .slice F1 fn f1, .int .i64 y.most, .int .i64 y.burst, .int .i64 (4), .bool y.first, .int .i64 y.at_, .slice A2 an2 ac2, .int .i64 (0), .int .i64 y.patience, .int .i64 (y.limit), .int .i64 y.limit] := bp
          clear bp
          go_wp2_with (first
            | (refine wpList_load_row rfl 55 (.tmp 300) rfl P rfl 99 #[.int .i64 y.id, .string y.name, .slice F1 fn f1, .int .i64 y.most, .int .i64 y.burst, .int .i64 (4), .bool y.first, .int .i64 y.at_, .slice A2 an2 ac2, .int .i64 (0), .int .i64 y.patience, .int .i64 (y.limit), .int .i64 y.limit] (0, 0) _ bq Try.underlying55 rfl giversz ?_)
            | (refine wpList_store_row rfl 55 (.tmp 2) (.tmp 301) rfl (w.heap.size + 1) #[.int .i64 y.id, .string y.name, .slice F1 fn f1, .int .i64 y.most, .int .i64 y.burst, .int .i64 (4), .bool y.first, .int .i64 y.at_, .slice A2 an2 ac2, .int .i64 (0), .int .i64 y.patience, .int .i64 (y.limit), .int .i64 y.limit] rfl rfl 55 _ br giversz rfl (by simp [Value.oneCell']) ?_))
          have br2 := br.row #[.int .i64 y.id, .string y.name, .slice F1 fn f1, .int .i64 y.most, .int .i64 y.burst, .int .i64 (4), .bool y.first, .int .i64 y.at_, .slice A2 an2 ac2, .int .i64 (0), .int .i64 y.patience, .int .i64 (y.limit), .int .i64 y.limit]
          refine bodyPost_ret (v := .tuple #[.agg #[.int .i64 y.id, .string y.name, .slice F1 fn f1, .int .i64 y.most, .int .i64 y.burst, .int .i64 (4), .bool y.first, .int .i64 y.at_, .slice A2 an2 ac2, .int .i64 (0), .int .i64 y.patience, .int .i64 (y.limit), .int .i64 y.limit], .slice O on oc, .int .i64 0]) (results_cell_two rfl _ _ (w.heap.size + 1) 55 _ (0, 0) _ rfl rfl rfl br2 Try.underlying55 rfl giversz) rfl ?_
          exact GvRes.give HR.out HE.out (gv_out (y := { y with timer := 0, tries := y.limit, stage := 4 }) (base := base) hB (by omega) (by have := HBS.out; omega) hM)
        ·
          obtain rfl : eq_ = false := by rw [← heq_]; exact decide_eq_false hq
          have HE := Lib.hid (HEW.out.trans (by rw [waitR_c HPP.out hq]))
          clear hq
          trace "WIa"
          go_upto_region 42 with fail
          clear y11 y12 heq_
          have hBW : Below base V5 V5 := Below.refl _ _
          have CC := Lib.hid (gend_res P { y with timer := 0, tries := y.tries + 1 } F1 fn f1 A2 an2 ac2 V5 HFY.out hM.file.rd (by omega) bp)
          obtain ⟨n, hn⟩ : ∃ n, endN y = n := ⟨_, rfl⟩
          have HN1 := Lib.hid (show n.data.length = 0 ∧ n.gaps = [] by rw [← hn]; exact ⟨rfl, rfl⟩)
          rw [show endN { y with timer := 0, tries := y.tries + 1 } = n from hn] at CC
          rw [hn] at HE
          clear hn
          trace "WJa"
          go_wp2_with fail
          trace "CA"
          refine CC.out.mono ?_
          intro e w5 hnr
          obtain ⟨D, dc, rfl, hD, hb⟩ := hnr
          have hFr := FreshD.new hM (fun i hi => (hD.lt i hi).1)
          replace hD := hD.mono (base' := base) (by omega)
          have zb := hb.size
          replace bp := bp.step hb
          replace hM := hM.step hb
          replace hBW := hBW.trans (hb.mono hbr)
          replace hbr : base ≤ w5.heap.size := by omega
          clear hb zb CC
          have hO1 := hM.out.alloc (.cells #[.int .i64 n.kind, .int .i64 n.id, .string n.name, .int .i64 n.size, .int .i64 n.sum, .int .i64 n.at_, .slice D 0 dc, .slice none 0 0, .int .i64 n.of_, .int .i64 n.code] 27)
          have hRL := Rd_lit w5 [.int .i64 n.kind, .int .i64 n.id, .string n.name, .int .i64 n.size, .int .i64 n.sum, .int .i64 n.at_, .slice D 0 dc, .slice none 0 0, .int .i64 n.of_, .int .i64 n.code] 27
          have hlone : Hid (∀ u ∈ ([.int .i64 n.kind, .int .i64 n.id, .string n.name, .int .i64 n.size, .int .i64 n.sum, .int .i64 n.at_, .slice D 0 dc, .slice none 0 0, .int .i64 n.of_, .int .i64 n.code] : List Value), u.oneCell' = true) := Lib.hid (by simp [Value.oneCell'])
          have q4 : on + 1 ≤ maxLen := by unfold maxLen; omega
          have q5 : (on + 1) * 120 ≤ 140737488355328 := by omega
          have q6 : base ≤ (w5.alloc (.cells #[.int .i64 n.kind, .int .i64 n.id, .string n.name, .int .i64 n.size, .int .i64 n.sum, .int .i64 n.at_, .slice D 0 dc, .slice none 0 0, .int .i64 n.of_, .int .i64 n.code] 27)).heap.size := by simp; omega
          trace "CB"
          dsimp only
          go_upto_region 43 with (first | (refine wpList_noteRow rfl (.tmp 295) rfl n.kind n.id n.name n.size n.sum n.at_ D 0 dc none 0 0 n.of_ n.code rfl ?_) | (at_builtin; refine wpList_append_Own _ rfl (.tmp 293) (.tmp 296) 45 rfl base 27 j0 _ 10 120 Try.underlying45 hj0 hy0 hy1 hy2 rfl O on oc (nts l) rfl hO1 (some ⟨w5.heap.size, 0, none⟩) 1 1 [.int .i64 n.kind, .int .i64 n.id, .string n.name, .int .i64 n.size, .int .i64 n.sum, .int .i64 n.at_, .slice D 0 dc, .slice none 0 0, .int .i64 n.of_, .int .i64 n.code] rfl rfl hRL hlone.out q4 q5 q6 ?_; intro O5 oc5 w6 hO5 hg5 hor5))
          trace "AP"
          clear hO1 hRL hlone q4 q5 q6
          replace hM := app_more hM bp hBW hbr hg5 hO5 HN1.out.1 HN1.out.2 hD hFr
          obtain ⟨bp, hM, hBW⟩ := hM
          have hbr6 : base ≤ w6.heap.size := by have := hg5.size; simp at this; omega
          clear hO5 hg5 hor5 hD hFr HN1
          trace "WCa"
          replace br := br.below hBW (by omega)
          replace hB := hB.trans (hBW.mono (by omega))
          have bq : Blk w6 P 99 #[.int .i64 y.id, .string y.name, .slice F1 fn f1, .int .i64 y.most, .int .i64 y.burst, .int .i64 y.stage, .bool y.first, .int .i64 y.at_, .slice A2 an2 ac2, .int .i64 (0), .int .i64 y.patience, .int .i64 (y.tries + 1), .int .i64 y.limit] := bp
          clear bp
          go_wp2_with (first
            | (refine wpList_load_row rfl 55 (.tmp 300) rfl P rfl 99 #[.int .i64 y.id, .string y.name, .slice F1 fn f1, .int .i64 y.most, .int .i64 y.burst, .int .i64 y.stage, .bool y.first, .int .i64 y.at_, .slice A2 an2 ac2, .int .i64 (0), .int .i64 y.patience, .int .i64 (y.tries + 1), .int .i64 y.limit] (0, 0) _ bq Try.underlying55 rfl giversz ?_)
            | (refine wpList_store_row rfl 55 (.tmp 2) (.tmp 301) rfl (w.heap.size + 1) #[.int .i64 y.id, .string y.name, .slice F1 fn f1, .int .i64 y.most, .int .i64 y.burst, .int .i64 y.stage, .bool y.first, .int .i64 y.at_, .slice A2 an2 ac2, .int .i64 (0), .int .i64 y.patience, .int .i64 (y.tries + 1), .int .i64 y.limit] rfl rfl 55 _ br giversz rfl (by simp [Value.oneCell']) ?_))
          have br2 := br.row #[.int .i64 y.id, .string y.name, .slice F1 fn f1, .int .i64 y.most, .int .i64 y.burst, .int .i64 y.stage, .bool y.first, .int .i64 y.at_, .slice A2 an2 ac2, .int .i64 (0), .int .i64 y.patience, .int .i64 (y.tries + 1), .int .i64 y.limit]
          refine bodyPost_ret (v := .tuple #[.agg #[.int .i64 y.id, .string y.name, .slice F1 fn f1, .int .i64 y.most, .int .i64 y.burst, .int .i64 y.stage, .bool y.first, .int .i64 y.at_, .slice A2 an2 ac2, .int .i64 (0), .int .i64 y.patience, .int .i64 (y.tries + 1), .int .i64 y.limit], .slice O5 (on + 1) oc5, .int .i64 0]) (results_cell_two rfl _ _ (w.heap.size + 1) 55 _ (0, 0) _ rfl rfl rfl br2 Try.underlying55 rfl giversz) rfl ?_
          exact GvRes.give HR.out HE.out (gv_out (y := { y with timer := 0, tries := y.tries + 1 }) (base := base) hB (by omega) (by have := HBS.out; omega) hM)
    ·
      as_aux_lemma =>
        go_upto_region 36 with fail
        clear e1 e2
        clear kf y9 b5 hBW bx
        replace hM := (hM.far_ (i := 9) bp (by decide) (by decide) (by decide) (.int .i64 (y.timer + 1))).as (z := { y with timer := y.timer + 1 }) rfl rfl
        replace bp : Blk (W.setCell ⟨P, 9, none⟩ (.int .i64 (y.timer + 1))) P 99 (gvc { y with timer := y.timer + 1 } F1 fn f1 A2 an2 ac2) := bp.set_ 9 (.int .i64 (y.timer + 1))
        replace hB := hB.setCell (p := ⟨P, 9, none⟩) (by show w.heap.size ≤ P; have := HBS.out; omega) (.int .i64 (y.timer + 1))
        replace br := br.far (p := ⟨P, 9, none⟩) (by show w.heap.size + 1 ≠ P; have := HBS.out; omega) (.int .i64 (y.timer + 1))
        replace hbr : base ≤ (W.setCell ⟨P, 9, none⟩ (.int .i64 (y.timer + 1))).heap.size := by simpa using hbr
        generalize W.setCell ⟨P, 9, none⟩ (.int .i64 (y.timer + 1)) = V1 at *
        have y9 : V1.drew.cell? ⟨P, 9, none⟩ = some (.int .i64 (y.timer + 1)) := bp.drew.cell' (i := 9) rfl
        have y10 : V1.drew.cell? ⟨P, 10, none⟩ = some (.int .i64 y.patience) := bp.drew.cell' (i := 10) rfl
        obtain ⟨ep, hep⟩ : ∃ ep, (y.timer + 1 == y.patience) = ep := ⟨_, rfl⟩
        refine heldRegion (fun v => v.cell? ⟨P, 9, none⟩ = some (.int .i64 (y.timer + 1)) ∧ v.cell? ⟨P, 10, none⟩ = some (.int .i64 y.patience)) 10 (by kernel_rfl) (by kernel_rfl) ⟨y9, y10⟩ (fun hSS => ?_)
        clear hSS
        replace hM := hM.drew
        replace bp := bp.drew
        replace hB := hB.drew
        replace br := br.drew
        replace hbr : base ≤ V1.drew.heap.size := hbr
        generalize V1.drew = V2 at *
        refine walk_take 0 (v := ?vwab0) rfl (by kernel_rfl) (by kernel_rfl) (by kernel_rfl) (fun _ _ _ h => h) (⟨y9, y10⟩) (Or.inl ⟨by rfl, ?ywab0⟩) ?rwab0
        case ywab0 => intro w hSw; obtain ⟨hw1, hw2⟩ := hSw; (try dsimp only at hSw); go_simp; try rfl
        case' rwab0 => try simp only [List.getElem_toArray, List.getElem_cons_succ, List.getElem_cons_zero, Act.put, List.setIfInBounds_toArray, List.set_cons_zero, List.set_cons_succ]
        refine walk_take 1 (v := ?vwab1) rfl (by kernel_rfl) (by kernel_rfl) (by kernel_rfl) (fun _ _ _ h => h) (⟨y9, y10⟩) (Or.inl ⟨by rfl, ?ywab1⟩) ?rwab1
        case ywab1 => intro w hSw; obtain ⟨hw1, hw2⟩ := hSw; (try dsimp only at hSw); go_simp; try rfl
        case' rwab1 => try simp only [List.getElem_toArray, List.getElem_cons_succ, List.getElem_cons_zero, Act.put, List.setIfInBounds_toArray, List.set_cons_zero, List.set_cons_succ]
        refine walk_take 2 (v := ?vwab2) rfl (by kernel_rfl) (by kernel_rfl) (by kernel_rfl) (fun _ _ _ h => h) (⟨y9, y10⟩) (Or.inl ⟨by rfl, ?ywab2⟩) ?rwab2
        case ywab2 => intro w hSw; obtain ⟨hw1, hw2⟩ := hSw; (try dsimp only at hSw); go_simp; try rfl
        case' rwab2 => try simp only [List.getElem_toArray, List.getElem_cons_succ, List.getElem_cons_zero, Act.put, List.setIfInBounds_toArray, List.set_cons_zero, List.set_cons_succ]
        refine walk_take 3 (v := ?vwab3) rfl (by kernel_rfl) (by kernel_rfl) (by kernel_rfl) (fun _ _ _ h => h) (⟨y9, y10⟩) (Or.inl ⟨by rfl, ?ywab3⟩) ?rwab3
        case ywab3 => intro w hSw; obtain ⟨hw1, hw2⟩ := hSw; (try dsimp only at hSw); go_simp; try rfl
        case' rwab3 => try simp only [List.getElem_toArray, List.getElem_cons_succ, List.getElem_cons_zero, Act.put, List.setIfInBounds_toArray, List.set_cons_zero, List.set_cons_succ]
        refine walk_take 4 (v := ?vwab4) rfl (by kernel_rfl) (by kernel_rfl) (by kernel_rfl) (fun _ _ _ h => h) (⟨y9, y10⟩) (Or.inl ⟨by rfl, ?ywab4⟩) ?rwab4
        case ywab4 => intro w hSw; obtain ⟨hw1, hw2⟩ := hSw; (try dsimp only at hSw); go_simp; try rfl
        case' rwab4 => try simp only [List.getElem_toArray, List.getElem_cons_succ, List.getElem_cons_zero, Act.put, List.setIfInBounds_toArray, List.set_cons_zero, List.set_cons_succ]
        refine walk_take 5 (v := ?vwab5) rfl (by kernel_rfl) (by kernel_rfl) (by kernel_rfl) (fun _ _ _ h => h) (⟨y9, y10⟩) (Or.inl ⟨by rfl, ?ywab5⟩) ?rwab5
        case ywab5 => intro w hSw; obtain ⟨hw1, hw2⟩ := hSw; (try dsimp only at hSw); go_simp; try rfl
        case' rwab5 => try simp only [List.getElem_toArray, List.getElem_cons_succ, List.getElem_cons_zero, Act.put, List.setIfInBounds_toArray, List.set_cons_zero, List.set_cons_succ]
        refine walk_take 6 (v := ?vwab6) rfl (by kernel_rfl) (by kernel_rfl) (by kernel_rfl) (fun _ _ _ h => h) (⟨y9, y10⟩) (Or.inl ⟨by rfl, ?ywab6⟩) ?rwab6
        case ywab6 => intro w hSw; obtain ⟨hw1, hw2⟩ := hSw; (try dsimp only at hSw); go_simp; try rfl
        case' rwab6 => try simp only [List.getElem_toArray, List.getElem_cons_succ, List.getElem_cons_zero, Act.put, List.setIfInBounds_toArray, List.set_cons_zero, List.set_cons_succ]
        refine walk_take 7 (v := ?vwab7) rfl (by kernel_rfl) (by kernel_rfl) (by kernel_rfl) (fun _ _ _ h => h) (⟨y9, y10⟩) (Or.inl ⟨by rfl, ?ywab7⟩) ?rwab7
        case ywab7 => intro w hSw; obtain ⟨hw1, hw2⟩ := hSw; (try dsimp only at hSw); go_simp; try rfl
        case' rwab7 => try simp only [List.getElem_toArray, List.getElem_cons_succ, List.getElem_cons_zero, Act.put, List.setIfInBounds_toArray, List.set_cons_zero, List.set_cons_succ]
        refine walk_take 8 (v := ?vwab8) rfl (by kernel_rfl) (by kernel_rfl) (by kernel_rfl) (fun _ _ _ h => h) (⟨y9, y10⟩) (Or.inl ⟨by rfl, ?ywab8⟩) ?rwab8
        case ywab8 => intro w hSw; obtain ⟨hw1, hw2⟩ := hSw; (try dsimp only at hSw); go_simp; try rfl
        case' rwab8 => try simp only [List.getElem_toArray, List.getElem_cons_succ, List.getElem_cons_zero, Act.put, List.setIfInBounds_toArray, List.set_cons_zero, List.set_cons_succ]
        refine walk_take 9 (v := ?vwab9) rfl (by kernel_rfl) (by kernel_rfl) (by kernel_rfl) (fun _ _ _ h => h) (⟨y9, y10⟩) (Or.inl ⟨by rfl, ?ywab9⟩) ?rwab9
        case ywab9 => intro w hSw; obtain ⟨hw1, hw2⟩ := hSw; (try dsimp only at hSw); go_simp; try rfl
        case' rwab9 => try simp only [List.getElem_toArray, List.getElem_cons_succ, List.getElem_cons_zero, Act.put, List.setIfInBounds_toArray, List.set_cons_zero, List.set_cons_succ]
        refine walk_tail (by kernel_rfl) ?_
        simp only [List.drop_succ_cons, List.drop_zero]
        trace "WAb"
        by_cases hp : y.timer + 1 = y.patience
        rotate_left
        ·
          obtain rfl : ep = false := by rw [← hep]; exact beq_f hp
          have HE := Lib.hid (HEW.out.trans (by rw [waitR_a hp]))
          clear hp
          go_upto_region 43 with fail
          clear y9 y10 hep
          have bq : Blk V2 P 99 #[.int .i64 y.id, .string y.name, .slice F1 fn f1, .int .i64 y.most, .int .i64 y.burst, .int .i64 y.stage, .bool y.first, .int .i64 y.at_, .slice A2 an2 ac2, .int .i64 (y.timer + 1), .int .i64 y.patience, .int .i64 y.tries, .int .i64 y.limit] := bp
          clear bp
          go_wp2_with (first
            | (refine wpList_load_row rfl 55 (.tmp 300) rfl P rfl 99 #[.int .i64 y.id, .string y.name, .slice F1 fn f1, .int .i64 y.most, .int .i64 y.burst, .int .i64 y.stage, .bool y.first, .int .i64 y.at_, .slice A2 an2 ac2, .int .i64 (y.timer + 1), .int .i64 y.patience, .int .i64 y.tries, .int .i64 y.limit] (0, 0) _ bq Try.underlying55 rfl giversz ?_)
            | (refine wpList_store_row rfl 55 (.tmp 2) (.tmp 301) rfl (w.heap.size + 1) #[.int .i64 y.id, .string y.name, .slice F1 fn f1, .int .i64 y.most, .int .i64 y.burst, .int .i64 y.stage, .bool y.first, .int .i64 y.at_, .slice A2 an2 ac2, .int .i64 (y.timer + 1), .int .i64 y.patience, .int .i64 y.tries, .int .i64 y.limit] rfl rfl 55 _ br giversz rfl (by simp [Value.oneCell']) ?_))
          have br2 := br.row #[.int .i64 y.id, .string y.name, .slice F1 fn f1, .int .i64 y.most, .int .i64 y.burst, .int .i64 y.stage, .bool y.first, .int .i64 y.at_, .slice A2 an2 ac2, .int .i64 (y.timer + 1), .int .i64 y.patience, .int .i64 y.tries, .int .i64 y.limit]
          refine bodyPost_ret (v := .tuple #[.agg #[.int .i64 y.id, .string y.name, .slice F1 fn f1, .int .i64 y.most, .int .i64 y.burst, .int .i64 y.stage, .bool y.first, .int .i64 y.at_, .slice A2 an2 ac2, .int .i64 (y.timer + 1), .int .i64 y.patience, .int .i64 y.tries, .int .i64 y.limit], .slice O on oc, .int .i64 0]) (results_cell_two rfl _ _ (w.heap.size + 1) 55 _ (0, 0) _ rfl rfl rfl br2 Try.underlying55 rfl giversz) rfl ?_
          exact GvRes.give HR.out HE.out (gv_out (y := { y with timer := y.timer + 1 }) (base := base) hB (by omega) (by have := HBS.out; omega) hM)
        obtain rfl : ep = true := by rw [← hep]; exact beq_t hp
        have HPP := Lib.hid hp
        clear hp
        have kf := bp.frozen
        have y9' : V2.cell? ⟨P, 9, none⟩ = some (.int .i64 (y.timer + 1)) := y9
        go_upto_region 38 with fail
        clear y9 y9' y10 hep kf
        replace hM := (hM.far_ (i := 9) bp (by decide) (by decide) (by decide) (.int .i64 0)).as (z := { y with timer := 0 }) rfl rfl
        replace bp : Blk (V2.setCell ⟨P, 9, none⟩ (.int .i64 0)) P 99 (gvc { y with timer := 0 } F1 fn f1 A2 an2 ac2) := bp.set_ 9 (.int .i64 0)
        replace hB := hB.setCell (p := ⟨P, 9, none⟩) (by show w.heap.size ≤ P; have := HBS.out; omega) (.int .i64 0)
        replace br := br.far (p := ⟨P, 9, none⟩) (by show w.heap.size + 1 ≠ P; have := HBS.out; omega) (.int .i64 0)
        replace hbr : base ≤ (V2.setCell ⟨P, 9, none⟩ (.int .i64 0)).heap.size := by simpa using hbr
        generalize V2.setCell ⟨P, 9, none⟩ (.int .i64 0) = V3 at *
        have kf := bp.frozen
        have y11 : V3.cell? ⟨P, 11, none⟩ = some (.int .i64 y.tries) := bp.cell' (i := 11) rfl
        go_upto_region 39 with fail
        clear kf y11
        replace hM := (hM.far_ (i := 11) bp (by decide) (by decide) (by decide) (.int .i64 (y.tries + 1))).as (z := { y with timer := 0, tries := y.tries + 1 }) rfl rfl
        replace bp : Blk (V3.setCell ⟨P, 11, none⟩ (.int .i64 (y.tries + 1))) P 99 (gvc { y with timer := 0, tries := y.tries + 1 } F1 fn f1 A2 an2 ac2) := bp.set_ 11 (.int .i64 (y.tries + 1))
        replace hB := hB.setCell (p := ⟨P, 11, none⟩) (by show w.heap.size ≤ P; have := HBS.out; omega) (.int .i64 (y.tries + 1))
        replace br := br.far (p := ⟨P, 11, none⟩) (by show w.heap.size + 1 ≠ P; have := HBS.out; omega) (.int .i64 (y.tries + 1))
        replace hbr : base ≤ (V3.setCell ⟨P, 11, none⟩ (.int .i64 (y.tries + 1))).heap.size := by simpa using hbr
        generalize V3.setCell ⟨P, 11, none⟩ (.int .i64 (y.tries + 1)) = V4 at *
        have y11 : V4.drew.cell? ⟨P, 11, none⟩ = some (.int .i64 (y.tries + 1)) := bp.drew.cell' (i := 11) rfl
        have y12 : V4.drew.cell? ⟨P, 12, none⟩ = some (.int .i64 y.limit) := bp.drew.cell' (i := 12) rfl
        obtain ⟨eq_, heq_⟩ : ∃ eq_, decide (y.limit < y.tries + 1) = eq_ := ⟨_, rfl⟩
        refine heldRegion (fun v => v.cell? ⟨P, 11, none⟩ = some (.int .i64 (y.tries + 1)) ∧ v.cell? ⟨P, 12, none⟩ = some (.int .i64 y.limit)) 10 (by kernel_rfl) (by kernel_rfl) ⟨y11, y12⟩ (fun hSS => ?_)
        clear hSS
        replace hM := hM.drew
        replace bp := bp.drew
        replace hB := hB.drew
        replace br := br.drew
        replace hbr : base ≤ V4.drew.heap.size := hbr
        generalize V4.drew = V5 at *
        refine walk_take 0 (v := ?vwbb0) rfl (by kernel_rfl) (by kernel_rfl) (by kernel_rfl) (fun _ _ _ h => h) (⟨y11, y12⟩) (Or.inl ⟨by rfl, ?ywbb0⟩) ?rwbb0
        case ywbb0 => intro w hSw; obtain ⟨hw1, hw2⟩ := hSw; (try dsimp only at hSw); go_simp; try rfl
        case' rwbb0 => try simp only [List.getElem_toArray, List.getElem_cons_succ, List.getElem_cons_zero, Act.put, List.setIfInBounds_toArray, List.set_cons_zero, List.set_cons_succ]
        refine walk_take 1 (v := ?vwbb1) rfl (by kernel_rfl) (by kernel_rfl) (by kernel_rfl) (fun _ _ _ h => h) (⟨y11, y12⟩) (Or.inl ⟨by rfl, ?ywbb1⟩) ?rwbb1
        case ywbb1 => intro w hSw; obtain ⟨hw1, hw2⟩ := hSw; (try dsimp only at hSw); go_simp; try rfl
        case' rwbb1 => try simp only [List.getElem_toArray, List.getElem_cons_succ, List.getElem_cons_zero, Act.put, List.setIfInBounds_toArray, List.set_cons_zero, List.set_cons_succ]
        refine walk_take 2 (v := ?vwbb2) rfl (by kernel_rfl) (by kernel_rfl) (by kernel_rfl) (fun _ _ _ h => h) (⟨y11, y12⟩) (Or.inl ⟨by rfl, ?ywbb2⟩) ?rwbb2
        case ywbb2 => intro w hSw; obtain ⟨hw1, hw2⟩ := hSw; (try dsimp only at hSw); go_simp; try rfl
        case' rwbb2 => try simp only [List.getElem_toArray, List.getElem_cons_succ, List.getElem_cons_zero, Act.put, List.setIfInBounds_toArray, List.set_cons_zero, List.set_cons_succ]
        refine walk_take 3 (v := ?vwbb3) rfl (by kernel_rfl) (by kernel_rfl) (by kernel_rfl) (fun _ _ _ h => h) (⟨y11, y12⟩) (Or.inl ⟨by rfl, ?ywbb3⟩) ?rwbb3
        case ywbb3 => intro w hSw; obtain ⟨hw1, hw2⟩ := hSw; (try dsimp only at hSw); go_simp; try rfl
        case' rwbb3 => try simp only [List.getElem_toArray, List.getElem_cons_succ, List.getElem_cons_zero, Act.put, List.setIfInBounds_toArray, List.set_cons_zero, List.set_cons_succ]
        refine walk_take 4 (v := ?vwbb4) rfl (by kernel_rfl) (by kernel_rfl) (by kernel_rfl) (fun _ _ _ h => h) (⟨y11, y12⟩) (Or.inl ⟨by rfl, ?ywbb4⟩) ?rwbb4
        case ywbb4 => intro w hSw; obtain ⟨hw1, hw2⟩ := hSw; (try dsimp only at hSw); go_simp; try rfl
        case' rwbb4 => try simp only [List.getElem_toArray, List.getElem_cons_succ, List.getElem_cons_zero, Act.put, List.setIfInBounds_toArray, List.set_cons_zero, List.set_cons_succ]
        refine walk_take 5 (v := ?vwbb5) rfl (by kernel_rfl) (by kernel_rfl) (by kernel_rfl) (fun _ _ _ h => h) (⟨y11, y12⟩) (Or.inl ⟨by rfl, ?ywbb5⟩) ?rwbb5
        case ywbb5 => intro w hSw; obtain ⟨hw1, hw2⟩ := hSw; (try dsimp only at hSw); go_simp; try rfl
        case' rwbb5 => try simp only [List.getElem_toArray, List.getElem_cons_succ, List.getElem_cons_zero, Act.put, List.setIfInBounds_toArray, List.set_cons_zero, List.set_cons_succ]
        refine walk_take 6 (v := ?vwbb6) rfl (by kernel_rfl) (by kernel_rfl) (by kernel_rfl) (fun _ _ _ h => h) (⟨y11, y12⟩) (Or.inl ⟨by rfl, ?ywbb6⟩) ?rwbb6
        case ywbb6 => intro w hSw; obtain ⟨hw1, hw2⟩ := hSw; (try dsimp only at hSw); go_simp; try rfl
        case' rwbb6 => try simp only [List.getElem_toArray, List.getElem_cons_succ, List.getElem_cons_zero, Act.put, List.setIfInBounds_toArray, List.set_cons_zero, List.set_cons_succ]
        refine walk_take 7 (v := ?vwbb7) rfl (by kernel_rfl) (by kernel_rfl) (by kernel_rfl) (fun _ _ _ h => h) (⟨y11, y12⟩) (Or.inl ⟨by rfl, ?ywbb7⟩) ?rwbb7
        case ywbb7 => intro w hSw; obtain ⟨hw1, hw2⟩ := hSw; (try dsimp only at hSw); go_simp; try rfl
        case' rwbb7 => try simp only [List.getElem_toArray, List.getElem_cons_succ, List.getElem_cons_zero, Act.put, List.setIfInBounds_toArray, List.set_cons_zero, List.set_cons_succ]
        refine walk_take 8 (v := ?vwbb8) rfl (by kernel_rfl) (by kernel_rfl) (by kernel_rfl) (fun _ _ _ h => h) (⟨y11, y12⟩) (Or.inl ⟨by rfl, ?ywbb8⟩) ?rwbb8
        case ywbb8 => intro w hSw; obtain ⟨hw1, hw2⟩ := hSw; (try dsimp only at hSw); go_simp; try rfl
        case' rwbb8 => try simp only [List.getElem_toArray, List.getElem_cons_succ, List.getElem_cons_zero, Act.put, List.setIfInBounds_toArray, List.set_cons_zero, List.set_cons_succ]
        refine walk_take 9 (v := ?vwbb9) rfl (by kernel_rfl) (by kernel_rfl) (by kernel_rfl) (fun _ _ _ h => h) (⟨y11, y12⟩) (Or.inl ⟨by rfl, ?ywbb9⟩) ?rwbb9
        case ywbb9 => intro w hSw; obtain ⟨hw1, hw2⟩ := hSw; (try dsimp only at hSw); go_simp; try rfl
        case' rwbb9 => try simp only [List.getElem_toArray, List.getElem_cons_succ, List.getElem_cons_zero, Act.put, List.setIfInBounds_toArray, List.set_cons_zero, List.set_cons_succ]
        refine walk_tail (by kernel_rfl) ?_
        simp only [List.drop_succ_cons, List.drop_zero]
        trace "WBb"
        by_cases hq : y.limit < y.tries + 1
        ·
          obtain rfl : eq_ = true := by rw [← heq_]; exact decide_eq_true hq
          have HE := Lib.hid (HEW.out.trans (by rw [waitR_b HPP.out hq]))
          clear hq
          have kf := bp.frozen
          have y11' : V5.cell? ⟨P, 11, none⟩ = some (.int .i64 (y.tries + 1)) := y11
          trace "WDb"
          go_upto_region 41 with fail
          trace "WEb"
          clear y11 y11' y12 heq_ kf
          replace hM := (hM.far_ (i := 11) bp (by decide) (by decide) (by decide) (.int .i64 y.limit)).as (z := { y with timer := 0, tries := y.limit }) rfl rfl
          replace bp : Blk (V5.setCell ⟨P, 11, none⟩ (.int .i64 y.limit)) P 99 (gvc { y with timer := 0, tries := y.limit } F1 fn f1 A2 an2 ac2) := bp.set_ 11 (.int .i64 y.limit)
          replace hB := hB.setCell (p := ⟨P, 11, none⟩) (by show w.heap.size ≤ P; have := HBS.out; omega) (.int .i64 y.limit)
          replace br := br.far (p := ⟨P, 11, none⟩) (by show w.heap.size + 1 ≠ P; have := HBS.out; omega) (.int .i64 y.limit)
          replace hbr : base ≤ (V5.setCell ⟨P, 11, none⟩ (.int .i64 y.limit)).heap.size := by simpa using hbr
          generalize V5.setCell ⟨P, 11, none⟩ (.int .i64 y.limit) = V6 at *
          trace "WFb"
          have kf := bp.frozen
          have y5 : V6.cell? ⟨P, 5, none⟩ = some (.int .i64 y.stage) := bp.cell' (i := 5) rfl
          go_upto_region 43 with fail
          trace "WGb"
          clear kf y5
          replace hM := (hM.far_ (i := 5) bp (by decide) (by decide) (by decide) (.int .i64 4)).as (z := { y with timer := 0, tries := y.limit, stage := 4 }) rfl rfl
          replace bp : Blk (V6.setCell ⟨P, 5, none⟩ (.int .i64 4)) P 99 (gvc { y with timer := 0, tries := y.limit, stage := 4 } F1 fn f1 A2 an2 ac2) := bp.set_ 5 (.int .i64 4)
          replace hB := hB.setCell (p := ⟨P, 5, none⟩) (by show w.heap.size ≤ P; have := HBS.out; omega) (.int .i64 4)
          replace br := br.far (p := ⟨P, 5, none⟩) (by show w.heap.size + 1 ≠ P; have := HBS.out; omega) (.int .i64 4)
          replace hbr : base ≤ (V6.setCell ⟨P, 5, none⟩ (.int .i64 4)).heap.size := by simpa using hbr
          generalize V6.setCell ⟨P, 5, none⟩ (.int .i64 4) = V7 at *
          trace "WHb"
          have bq : Blk V7 P 99 #[.int .i64 y.id, .string y.name, .slice F1 fn f1, .int .i64 y.most, .int .i64 y.burst, .int .i64 (4), .bool y.first, .int .i64 y.at_, .slice A2 an2 ac2, .int .i64 (0), .int .i64 y.patience, .int .i64 (y.limit), .int .i64 y.limit] := bp
          clear bp
          go_wp2_with (first
            | (refine wpList_load_row rfl 55 (.tmp 300) rfl P rfl 99 #[.int .i64 y.id, .string y.name, .slice F1 fn f1, .int .i64 y.most, .int .i64 y.burst, .int .i64 (4), .bool y.first, .int .i64 y.at_, .slice A2 an2 ac2, .int .i64 (0), .int .i64 y.patience, .int .i64 (y.limit), .int .i64 y.limit] (0, 0) _ bq Try.underlying55 rfl giversz ?_)
            | (refine wpList_store_row rfl 55 (.tmp 2) (.tmp 301) rfl (w.heap.size + 1) #[.int .i64 y.id, .string y.name, .slice F1 fn f1, .int .i64 y.most, .int .i64 y.burst, .int .i64 (4), .bool y.first, .int .i64 y.at_, .slice A2 an2 ac2, .int .i64 (0), .int .i64 y.patience, .int .i64 (y.limit), .int .i64 y.limit] rfl rfl 55 _ br giversz rfl (by simp [Value.oneCell']) ?_))
          have br2 := br.row #[.int .i64 y.id, .string y.name, .slice F1 fn f1, .int .i64 y.most, .int .i64 y.burst, .int .i64 (4), .bool y.first, .int .i64 y.at_, .slice A2 an2 ac2, .int .i64 (0), .int .i64 y.patience, .int .i64 (y.limit), .int .i64 y.limit]
          refine bodyPost_ret (v := .tuple #[.agg #[.int .i64 y.id, .string y.name, .slice F1 fn f1, .int .i64 y.most, .int .i64 y.burst, .int .i64 (4), .bool y.first, .int .i64 y.at_, .slice A2 an2 ac2, .int .i64 (0), .int .i64 y.patience, .int .i64 (y.limit), .int .i64 y.limit], .slice O on oc, .int .i64 0]) (results_cell_two rfl _ _ (w.heap.size + 1) 55 _ (0, 0) _ rfl rfl rfl br2 Try.underlying55 rfl giversz) rfl ?_
          exact GvRes.give HR.out HE.out (gv_out (y := { y with timer := 0, tries := y.limit, stage := 4 }) (base := base) hB (by omega) (by have := HBS.out; omega) hM)
        ·
          obtain rfl : eq_ = false := by rw [← heq_]; exact decide_eq_false hq
          have HE := Lib.hid (HEW.out.trans (by rw [waitR_c HPP.out hq]))
          clear hq
          trace "WIb"
          go_upto_region 42 with fail
          clear y11 y12 heq_
          have hBW : Below base V5 V5 := Below.refl _ _
          have CC := Lib.hid (gend_res P { y with timer := 0, tries := y.tries + 1 } F1 fn f1 A2 an2 ac2 V5 HFY.out hM.file.rd (by omega) bp)
          obtain ⟨n, hn⟩ : ∃ n, endN y = n := ⟨_, rfl⟩
          have HN1 := Lib.hid (show n.data.length = 0 ∧ n.gaps = [] by rw [← hn]; exact ⟨rfl, rfl⟩)
          rw [show endN { y with timer := 0, tries := y.tries + 1 } = n from hn] at CC
          rw [hn] at HE
          clear hn
          trace "WJb"
          go_wp2_with fail
          trace "CA"
          refine CC.out.mono ?_
          intro e w5 hnr
          obtain ⟨D, dc, rfl, hD, hb⟩ := hnr
          have hFr := FreshD.new hM (fun i hi => (hD.lt i hi).1)
          replace hD := hD.mono (base' := base) (by omega)
          have zb := hb.size
          replace bp := bp.step hb
          replace hM := hM.step hb
          replace hBW := hBW.trans (hb.mono hbr)
          replace hbr : base ≤ w5.heap.size := by omega
          clear hb zb CC
          have hO1 := hM.out.alloc (.cells #[.int .i64 n.kind, .int .i64 n.id, .string n.name, .int .i64 n.size, .int .i64 n.sum, .int .i64 n.at_, .slice D 0 dc, .slice none 0 0, .int .i64 n.of_, .int .i64 n.code] 27)
          have hRL := Rd_lit w5 [.int .i64 n.kind, .int .i64 n.id, .string n.name, .int .i64 n.size, .int .i64 n.sum, .int .i64 n.at_, .slice D 0 dc, .slice none 0 0, .int .i64 n.of_, .int .i64 n.code] 27
          have hlone : Hid (∀ u ∈ ([.int .i64 n.kind, .int .i64 n.id, .string n.name, .int .i64 n.size, .int .i64 n.sum, .int .i64 n.at_, .slice D 0 dc, .slice none 0 0, .int .i64 n.of_, .int .i64 n.code] : List Value), u.oneCell' = true) := Lib.hid (by simp [Value.oneCell'])
          have q4 : on + 1 ≤ maxLen := by unfold maxLen; omega
          have q5 : (on + 1) * 120 ≤ 140737488355328 := by omega
          have q6 : base ≤ (w5.alloc (.cells #[.int .i64 n.kind, .int .i64 n.id, .string n.name, .int .i64 n.size, .int .i64 n.sum, .int .i64 n.at_, .slice D 0 dc, .slice none 0 0, .int .i64 n.of_, .int .i64 n.code] 27)).heap.size := by simp; omega
          trace "CB"
          dsimp only
          go_upto_region 43 with (first | (refine wpList_noteRow rfl (.tmp 295) rfl n.kind n.id n.name n.size n.sum n.at_ D 0 dc none 0 0 n.of_ n.code rfl ?_) | (at_builtin; refine wpList_append_Own _ rfl (.tmp 293) (.tmp 296) 45 rfl base 27 j0 _ 10 120 Try.underlying45 hj0 hy0 hy1 hy2 rfl O on oc (nts l) rfl hO1 (some ⟨w5.heap.size, 0, none⟩) 1 1 [.int .i64 n.kind, .int .i64 n.id, .string n.name, .int .i64 n.size, .int .i64 n.sum, .int .i64 n.at_, .slice D 0 dc, .slice none 0 0, .int .i64 n.of_, .int .i64 n.code] rfl rfl hRL hlone.out q4 q5 q6 ?_; intro O5 oc5 w6 hO5 hg5 hor5))
          trace "AP"
          clear hO1 hRL hlone q4 q5 q6
          replace hM := app_more hM bp hBW hbr hg5 hO5 HN1.out.1 HN1.out.2 hD hFr
          obtain ⟨bp, hM, hBW⟩ := hM
          have hbr6 : base ≤ w6.heap.size := by have := hg5.size; simp at this; omega
          clear hO5 hg5 hor5 hD hFr HN1
          trace "WCb"
          replace br := br.below hBW (by omega)
          replace hB := hB.trans (hBW.mono (by omega))
          have bq : Blk w6 P 99 #[.int .i64 y.id, .string y.name, .slice F1 fn f1, .int .i64 y.most, .int .i64 y.burst, .int .i64 y.stage, .bool y.first, .int .i64 y.at_, .slice A2 an2 ac2, .int .i64 (0), .int .i64 y.patience, .int .i64 (y.tries + 1), .int .i64 y.limit] := bp
          clear bp
          go_wp2_with (first
            | (refine wpList_load_row rfl 55 (.tmp 300) rfl P rfl 99 #[.int .i64 y.id, .string y.name, .slice F1 fn f1, .int .i64 y.most, .int .i64 y.burst, .int .i64 y.stage, .bool y.first, .int .i64 y.at_, .slice A2 an2 ac2, .int .i64 (0), .int .i64 y.patience, .int .i64 (y.tries + 1), .int .i64 y.limit] (0, 0) _ bq Try.underlying55 rfl giversz ?_)
            | (refine wpList_store_row rfl 55 (.tmp 2) (.tmp 301) rfl (w.heap.size + 1) #[.int .i64 y.id, .string y.name, .slice F1 fn f1, .int .i64 y.most, .int .i64 y.burst, .int .i64 y.stage, .bool y.first, .int .i64 y.at_, .slice A2 an2 ac2, .int .i64 (0), .int .i64 y.patience, .int .i64 (y.tries + 1), .int .i64 y.limit] rfl rfl 55 _ br giversz rfl (by simp [Value.oneCell']) ?_))
          have br2 := br.row #[.int .i64 y.id, .string y.name, .slice F1 fn f1, .int .i64 y.most, .int .i64 y.burst, .int .i64 y.stage, .bool y.first, .int .i64 y.at_, .slice A2 an2 ac2, .int .i64 (0), .int .i64 y.patience, .int .i64 (y.tries + 1), .int .i64 y.limit]
          refine bodyPost_ret (v := .tuple #[.agg #[.int .i64 y.id, .string y.name, .slice F1 fn f1, .int .i64 y.most, .int .i64 y.burst, .int .i64 y.stage, .bool y.first, .int .i64 y.at_, .slice A2 an2 ac2, .int .i64 (0), .int .i64 y.patience, .int .i64 (y.tries + 1), .int .i64 y.limit], .slice O5 (on + 1) oc5, .int .i64 0]) (results_cell_two rfl _ _ (w.heap.size + 1) 55 _ (0, 0) _ rfl rfl rfl br2 Try.underlying55 rfl giversz) rfl ?_
          exact GvRes.give HR.out HE.out (gv_out (y := { y with timer := 0, tries := y.tries + 1 }) (base := base) hB (by omega) (by have := HBS.out; omega) hM)
end Go.Proofs.Ytianombjgdmbeaa
