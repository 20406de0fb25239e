/-
  A giver is asked for gaps ((*giver).asked). A note comes to a giver at work (deliver.Reply$1).
-/
import Derived.Test.YtianombjgdmbeaaMDeliverReplies23
import Derived.Test.YtianombjgdmbeaaMDeliverReplies24
import Derived.Test.YtianombjgdmbeaaMDeliverReplies28
import Derived.Test.YtianombjgdmbeaaMDeliverReplies19
import Derived.BigQuiet
import Derived.Deep.QuietTactic
namespace Go.Proofs.Ytianombjgdmbeaa
set_option linter.unusedSimpArgs false
set_option linter.unusedVariables false
open Go.RowKit


set_option maxHeartbeats 12800000 in
set_option maxRecDepth 100000 in
theorem asked_any (x : Gv) (gs : List (Int × Int)) (G : Option Addr) (gn gc : Nat) (F : Option Addr) (fn fc : Nat) (A : Option Addr) (an ac : Nat) (base q : Nat) (w : World) (hq : Blk w q 94 (gw x F fn fc A an ac none 0 0)) (hfl : x.file.length = fn) (hal : x.again.length = an) (han : an ≤ 1000) (hOA : Own w base 66 2 A an ac (gps x.again)) (hG : Rd w G (gps gs)) (hgn : gs.length = gn) (hgm : gn ≤ 8796093022200) (hGb : ∀ i, blk G = some i → i < base) (hgs : ∀ g ∈ gs, g.2 = 0 → g.1 = 0) (hqb : base ≤ q) (hbase : base ≤ w.heap.size) :
    Calls Try.prog 65 #[.pointer (some ⟨q, 0, none⟩), .slice G gn gc] w fun e w' => ∃ A' m ac', e = .returned (.tuple #[]) ∧ Blk w' q 94 (gw { x with again := askAll (fn : Int) x.again gs } F fn fc A' m ac' none 0 0) ∧ (askAll (fn : Int) x.again gs).length = m ∧ Own w' base 66 2 A' m ac' (gps (askAll (fn : Int) x.again gs)) ∧ Turned w w' (fun i => i = q ∨ blk A = some i) := by
  obtain ⟨j0, hj0, hy0, hy1, hy2⟩ := info_parts pairinfo
  have HG := Lib.hid hG
  have HGL := Lib.hid hgn
  have HFL := Lib.hid hfl
  have HAL := Lib.hid hal
  have HGS := Lib.hid hgs
  have HGB := Lib.hid hGb
  clear hG hgn hfl hal hgs hGb
  obtain ⟨id, name, file, most, burst, stage, first, at_, again, timer, patience, tries, limit⟩ := x
  unfold gw at hq ⊢
  dsimp only at hq hOA HFL HAL ⊢
  have hlq := hq.lt
  go_enter Try.func65, Try.ntmps65
  go_wp2_with fail
  go_loopw [9] (fun iv wr => ∃ (i : Nat) (A2 : Option Addr) (a2 m : Nat), i ≤ gn ∧ iv = .int .i64 (i : Int) ∧ m ≤ 1000 ∧ Hid ((askAll (fn : Int) again (gs.take i)).length = m) ∧ Own wr base 66 2 A2 m a2 (gps (askAll (fn : Int) again (gs.take i))) ∧ Blk wr q 94 #[.int .i64 id, .string name, .slice F fn fc, .int .i64 most, .int .i64 burst, .int .i64 stage, .bool first, .int .i64 at_, .slice A2 m a2, .int .i64 timer, .int .i64 patience, .int .i64 tries, .int .i64 limit, .slice none 0 0] ∧ Turned w wr (fun i => i = q ∨ blk A = some i) ∧ (blk A2 = blk A ∨ ∀ i, blk A2 = some i → w.heap.size ≤ i)) (fun iv _ => gn - (intOf iv).toNat)
  case atStart => exact ⟨0, A, ac, an, Nat.zero_le _, rfl, han, Lib.hid HAL.out, hOA, hq, Turned.refl _ _, .inl rfl⟩
  case round =>
    have HNA := Lib.hid (hOA.notBlk hq (by decide))
    have HLA := Lib.hid (fun i hi => (hOA.lt i hi))
    clear hOA hq han
    obtain ⟨i, A2, a2, m, hi, rfl, hm, HM, hOA, bq, hT, hAA⟩ := hrel
    have zT := hT.size
    have hRG : Rd wr G (gps gs) := HG.out.turned hT (fun j hj hS => by
      have h1 := HGB.out j hj
      rcases hS with h | h
      · omega
      · have := (HLA.out j h).1; omega)
    by_cases h5 : i < gn
    ·
      have h5i : (i : Int) < (gn : Int) := by omega
      have hip : (0 : Int) ≤ (i : Int) := by omega
      obtain ⟨x, hx⟩ : ∃ x, gs[i]? = some x := ⟨_, List.getElem?_eq_getElem (by rw [HGL.out]; exact h5)⟩
      have HT : Hid (gs.take (i + 1) = gs.take i ++ [x]) := Lib.hid (by rw [List.take_add_one, hx]; rfl)
      have HZ := Lib.hid (HGS.out x (List.mem_of_getElem? hx))
      obtain ⟨g, oo, rfl, f0, f1⟩ := rdgap_cells hRG hx
      clear hx hRG
      obtain ⟨x1, x2⟩ := x
      dsimp only at f0 f1 HT HZ
      obtain ⟨mt, hmt⟩ : ∃ mt, (decide (x1 = 0) && decide (x2 = 0)) = mt := ⟨_, rfl⟩
      have hE : ∀ w, (Op.equalIn 10000 66 (.agg #[.int .i64 x1, .int .i64 x2]) (.agg #[.int .i64 0, .int .i64 0])).run Try.prog w = .ok mt w := fun w => by rw [eq_pair, hmt]
      have HMT : Hid (mt = true ↔ x2 = 0) := Lib.hid (by rw [← hmt]; simp only [Bool.and_eq_true, decide_eq_true_eq]; exact ⟨fun h => h.2, fun h => ⟨HZ.out h, h⟩⟩)
      clear hmt
      have lz := bq.lt
      have p2c := bq.cell' (i := 2) rfl
      go_upto_region 4 with fail
      clear f0 f1 p2c
      have bt := Blk.new wr 66 #[.int .i64 x1, .int .i64 x2]
      have hOA0 := hOA
      replace bq := bq.alloc (.cells #[.int .i64 x1, .int .i64 x2] 66)
      replace hOA := hOA.alloc (.cells #[.int .i64 x1, .int .i64 x2] 66)
      replace hT := hT.step (v' := wr.alloc (.cells #[.int .i64 x1, .int .i64 x2] 66)) ((Below.refl _ _).alloc (Nat.le_refl _) _)
      have hOAlt : ∀ j, blk A2 = some j → j < wr.heap.size := fun j hj => (hOA0.lt j hj).2
      have lz2 : wr.heap.size < (wr.alloc (.cells #[.int .i64 x1, .int .i64 x2] 66)).heap.size := by simp
      clear hOA0
      generalize wr.alloc (.cells #[.int .i64 x1, .int .i64 x2] 66) = V at *
      have q0 := bt.cell' (i := 0) rfl
      have q1 := bt.cell' (i := 1) rfl
      have p2c := bq.cell' (i := 2) rfl
      have kt := bt.frozen
      have nqt : ¬ (q = wr.heap.size) := by omega
      have ntq : ¬ (wr.heap.size = q) := by omega
      by_cases c : (fn : Int) < x2
      ·
        have HQ : Hid (min x2 (fn : Int) = (fn : Int)) := Lib.hid (by omega)
        have hmin : min x2 (fn : Int) = (fn : Int) := HQ.out
        go_still_tail 10, (by kernel_rfl)
        go_upto_region 5 with fail
        clear q0 q1 p2c kt
        replace bt := (bt.set_ 1 (.int .i64 (fn : Int))).drew
        replace hT := (hT.set (p := ⟨wr.heap.size, 1, none⟩) (fun h => absurd h (by show ¬ wr.heap.size < w.heap.size; omega)) (.int .i64 (fn : Int))).drewN 1
        replace hOA := (hOA.setFar (p := ⟨wr.heap.size, 1, none⟩) (fun e => Nat.lt_irrefl _ (hOAlt _ e)) (.int .i64 (fn : Int))).drew
        replace bq := (bq.far (p := ⟨wr.heap.size, 1, none⟩) nqt (.int .i64 (fn : Int))).drew
        have lz4 : wr.heap.size < ((V.setCell ⟨wr.heap.size, 1, none⟩ (.int .i64 (fn : Int))).drew).heap.size := by simpa using lz2
        have hT4 : Turned w (V.setCell ⟨wr.heap.size, 1, none⟩ (.int .i64 (fn : Int))).drew (fun i => i = q ∨ blk A = some i) := hT
        clear hT lz2 hmin
        generalize (V.setCell ⟨wr.heap.size, 1, none⟩ (.int .i64 (fn : Int))).drew = V3 at *
        have q0 := bt.cell' (i := 0) rfl
        have q1 := bt.cell' (i := 1) rfl
        have p8 := bq.cell' (i := 8) rfl
        by_cases app : m < 1000 ∧ (x2 = 0 ∨ x1 < (fn : Int))
        ·
          obtain ⟨am, app⟩ := app
          have ami : (m : Int) < 1000 := by omega
          have HY : Hid (askAll (fn : Int) again (gs.take (i + 1)) = askAll (fn : Int) again (gs.take i) ++ [(x1, (fn : Int))]) := Lib.hid (by rw [HT.out, askAll_snoc, askG_yes (by rw [HM.out]; exact am) HQ.out app])
          have ways : mt = true ∨ (mt = false ∧ x1 < (fn : Int)) := by
            by_cases z : x2 = 0
            · exact .inl (HMT.out.2 z)
            · refine .inr ⟨?_, by omega⟩
              cases hm : mt
              · rfl
              · exact absurd (HMT.out.1 hm) z
          clear app c
          rcases ways with rfl | ⟨rfl, lt⟩
          ·
            go_upto_region 6 with fail
            clear q0 q1 p8
            refine heldRegion (fun v => Blk v q 94 #[.int .i64 id, .string name, .slice F fn fc, .int .i64 most, .int .i64 burst, .int .i64 stage, .bool first, .int .i64 at_, .slice A2 m a2, .int .i64 timer, .int .i64 patience, .int .i64 tries, .int .i64 limit, .slice none 0 0] ∧ Blk v wr.heap.size 66 #[.int .i64 x1, .int .i64 (fn : Int)]) 9 (by kernel_rfl) (by kernel_rfl) ⟨bq.drew, bt.drew⟩ (fun hSS => ?_)
            replace bq := bq.drew
            replace bt := bt.drew
            replace hOA := hOA.drew
            replace lz4 : wr.heap.size < V3.drew.heap.size := lz4
            have hT5 : Turned w V3.drew (fun i => i = q ∨ blk A = some i) := hT4.drewN 1
            clear hT4 hSS
            generalize V3.drew = V4 at *
            refine walk_take 0 (v := ?va0) rfl (by kernel_rfl) (by kernel_rfl) (by kernel_rfl) (fun _ _ _ h => h) (⟨bq, bt⟩) (Or.inl ⟨by rfl, ?ya0⟩) ?ra0
            case ya0 => intro w hSw; obtain ⟨hwq, hwt⟩ := _root_.id hSw; have e8 := hwq.cell' (i := 8) rfl; have e0 := hwt.cell' (i := 0) rfl; have e1 := hwt.cell' (i := 1) rfl; have hSx := hSw; (try dsimp only at hSw); go_simp; try rfl
            case' ra0 => try simp only [List.getElem_toArray, List.getElem_cons_succ, List.getElem_cons_zero, Act.put, List.setIfInBounds_toArray, List.set_cons_zero, List.set_cons_succ]
            refine walk_take 1 (v := ?va1) rfl (by kernel_rfl) (by kernel_rfl) (by kernel_rfl) (fun _ _ _ h => h) (⟨bq, bt⟩) (Or.inl ⟨by rfl, ?ya1⟩) ?ra1
            case ya1 => intro w hSw; obtain ⟨hwq, hwt⟩ := _root_.id hSw; have e8 := hwq.cell' (i := 8) rfl; have e0 := hwt.cell' (i := 0) rfl; have e1 := hwt.cell' (i := 1) rfl; have hSx := hSw; (try dsimp only at hSw); go_simp; try rfl
            case' ra1 => try simp only [List.getElem_toArray, List.getElem_cons_succ, List.getElem_cons_zero, Act.put, List.setIfInBounds_toArray, List.set_cons_zero, List.set_cons_succ]
            refine walk_take 2 (v := ?va2) rfl (by kernel_rfl) (by kernel_rfl) (by kernel_rfl) (fun _ _ _ h => h) (⟨bq, bt⟩) (Or.inl ⟨by rfl, ?ya2⟩) ?ra2
            case ya2 => intro w hSw; obtain ⟨hwq, hwt⟩ := _root_.id hSw; have e8 := hwq.cell' (i := 8) rfl; have e0 := hwt.cell' (i := 0) rfl; have e1 := hwt.cell' (i := 1) rfl; have hSx := hSw; (try dsimp only at hSw); go_simp; try rfl
            case' ra2 => try simp only [List.getElem_toArray, List.getElem_cons_succ, List.getElem_cons_zero, Act.put, List.setIfInBounds_toArray, List.set_cons_zero, List.set_cons_succ]
            refine walk_take 3 (v := ?va3) rfl (by kernel_rfl) (by kernel_rfl) (by kernel_rfl) (fun _ _ _ h => h) (⟨bq, bt⟩) (Or.inl ⟨by rfl, ?ya3⟩) ?ra3
            case ya3 => intro w hSw; obtain ⟨hwq, hwt⟩ := _root_.id hSw; have e8 := hwq.cell' (i := 8) rfl; have e0 := hwt.cell' (i := 0) rfl; have e1 := hwt.cell' (i := 1) rfl; have hSx := hSw; (try dsimp only at hSw); go_simp; try rfl
            case' ra3 => try simp only [List.getElem_toArray, List.getElem_cons_succ, List.getElem_cons_zero, Act.put, List.setIfInBounds_toArray, List.set_cons_zero, List.set_cons_succ]
            refine walk_take 4 (v := ?va4) rfl (by kernel_rfl) (by kernel_rfl) (by kernel_rfl) (fun _ _ _ h => h) (⟨bq, bt⟩) (Or.inl ⟨by rfl, ?ya4⟩) ?ra4
            case ya4 => intro w hSw; obtain ⟨hwq, hwt⟩ := _root_.id hSw; have e8 := hwq.cell' (i := 8) rfl; have e0 := hwt.cell' (i := 0) rfl; have e1 := hwt.cell' (i := 1) rfl; have hSx := hSw; (try dsimp only at hSw); go_simp; try rfl
            case' ra4 => try simp only [List.getElem_toArray, List.getElem_cons_succ, List.getElem_cons_zero, Act.put, List.setIfInBounds_toArray, List.set_cons_zero, List.set_cons_succ]
            refine walk_take 5 (v := ?va5) rfl (by kernel_rfl) (by kernel_rfl) (by kernel_rfl) (fun _ _ _ h => h) (⟨bq, bt⟩) (Or.inl ⟨by rfl, ?ya5⟩) ?ra5
            case ya5 => intro w hSw; obtain ⟨hwq, hwt⟩ := _root_.id hSw; have e8 := hwq.cell' (i := 8) rfl; have e0 := hwt.cell' (i := 0) rfl; have e1 := hwt.cell' (i := 1) rfl; have hSx := hSw; (try dsimp only at hSw); go_simp; try rfl
            case' ra5 => try simp only [List.getElem_toArray, List.getElem_cons_succ, List.getElem_cons_zero, Act.put, List.setIfInBounds_toArray, List.set_cons_zero, List.set_cons_succ]
            refine walk_take 6 (v := ?va6) rfl (by kernel_rfl) (by kernel_rfl) (by kernel_rfl) (fun _ _ _ h => h) (⟨bq, bt⟩) (Or.inl ⟨by rfl, ?ya6⟩) ?ra6
            case ya6 => intro w hSw; obtain ⟨hwq, hwt⟩ := _root_.id hSw; have e8 := hwq.cell' (i := 8) rfl; have e0 := hwt.cell' (i := 0) rfl; have e1 := hwt.cell' (i := 1) rfl; have hSx := hSw; (try dsimp only at hSw); go_simp; try rfl
            case' ra6 => try simp only [List.getElem_toArray, List.getElem_cons_succ, List.getElem_cons_zero, Act.put, List.setIfInBounds_toArray, List.set_cons_zero, List.set_cons_succ]
            refine walk_step 7 rfl (by kernel_rfl) (by kernel_rfl) (fun K hK => ?bsa)
            case bsa =>
              go_simp
              have hR5 := Rd_lit V4 [.int .i64 x1, .int .i64 (fn : Int)] 66
              have bq2 := bq.alloc (.cells #[.int .i64 x1, .int .i64 (fn : Int)] 66)
              have bt2 := bt.alloc (.cells #[.int .i64 x1, .int .i64 (fn : Int)] 66)
              have hO2 := hOA.alloc (.cells #[.int .i64 x1, .int .i64 (fn : Int)] 66)
              have hT6 := hT5.step (v' := V4.alloc (.cells #[.int .i64 x1, .int .i64 (fn : Int)] 66)) ((Below.refl _ _).alloc (Nat.le_refl _) _)
              have hbs : base ≤ (V4.alloc (.cells #[.int .i64 x1, .int .i64 (fn : Int)] 66)).heap.size := by have := bq2.lt; omega
              refine hK _ _ ⟨bq2, bt2⟩ ?_
              clear hK K hT5
              try simp only [List.getElem_toArray, List.getElem_cons_succ, List.getElem_cons_zero, Act.put, List.setIfInBounds_toArray, List.set_cons_zero, List.set_cons_succ]
              have q4 : m + 1 ≤ maxLen := by unfold maxLen; omega
              have q5 : (m + 1) * 16 ≤ 140737488355328 := by omega
              have hone : Hid (∀ u ∈ [Value.int .i64 x1, .int .i64 (fn : Int)], u.oneCell' = true) := Lib.hid (gps_one [(x1, (fn : Int))])
              refine walk_step 8 rfl (by kernel_rfl) (by kernel_rfl) (fun K hK => ?apa)
              case apa =>
                rw [if_pos (by kernel_rfl)]
                refine wp_append_Own _ (.tmp 48) (.tmp 50) 24 rfl base 66 j0 _ 2 16 Try.underlying24 hj0 hy0 hy1 hy2 rfl A2 m a2 (gps (askAll (fn : Int) again (gs.take i))) rfl hO2 (some ⟨V4.heap.size, 0, none⟩) 1 1 [.int .i64 x1, .int .i64 (fn : Int)] rfl rfl hR5 hone.out q4 q5 hbs ?_
                intro A6 c6 w6 hO6 hg6 hor6
                have bq6 := bq2.grown hg6 (fun e => (hO2.notBlk bq2 (by decide)) e.symm)
                have bt6 := bt2.grown hg6 (fun e => by have := hOAlt _ e.symm; omega)
                refine hK _ _ ⟨bq6, bt6⟩ ?_
                clear hK K
                try simp only [List.getElem_toArray, List.getElem_cons_succ, List.getElem_cons_zero, Act.put, List.setIfInBounds_toArray, List.set_cons_zero, List.set_cons_succ]
                refine walk_tail (by kernel_rfl) ?_
                simp only [List.drop_succ_cons, List.drop_zero]
                have kf6 := bq6.frozen
                have y6 := bq6.cell' (i := 8) rfl
                go_upto_region 7 with fail
                have bq7 := bq6.set_ 8 (.slice A6 (m + 1) c6)
                have hO7 := hO6.setFar (p := ⟨q, 8, none⟩) (hO6.notBlk bq6 (by decide)) (.slice A6 (m + 1) c6)
                have hT7 := (hT6.grown hg6 (fun j hj hlt => by
                  rcases hAA with h | h
                  · exact .inr (by rw [← h]; exact hj)
                  · have := h j hj; omega)).set (p := ⟨q, 8, none⟩) (fun _ => .inl rfl) (.slice A6 (m + 1) c6)
                have hAA7 : blk A6 = blk A ∨ ∀ j, blk A6 = some j → w.heap.size ≤ j := by
                  rcases hor6 with h | h
                  · rw [h]; exact hAA
                  · refine .inr (fun j hj => ?_)
                    rw [h] at hj
                    have h2 := Option.some.inj hj
                    have h3 : V4.heap.size < (V4.alloc (.cells #[.int .i64 x1, .int .i64 (fn : Int)] 66)).heap.size := by simp
                    have h4 : j = (V4.alloc (.cells #[.int .i64 x1, .int .i64 (fn : Int)] 66)).heap.size := h2.symm
                    omega
                clear bq bt bq2 bt2 hOA hO2 hT6 bq6 bt6 hO6 hg6 hor6 kf6 y6 hR5
                generalize w6.setCell ⟨q, 8, none⟩ (.slice A6 (m + 1) c6) = V7 at *
                go_wp2_with fail
                go_roundw
                case rel =>
                  refine ⟨i + 1, A6, c6, m + 1, by omega, by go_num, by omega, Lib.hid (by rw [HY.out, List.length_append, HM.out]; rfl), ?_, bq7, hT7, hAA7⟩
                  rw [HY.out]
                  have e : gps (askAll (fn : Int) again (gs.take i) ++ [(x1, (fn : Int))]) = gps (askAll (fn : Int) again (gs.take i)) ++ [.int .i64 x1, .int .i64 (fn : Int)] := by simp [gps, gpc]
                  rw [e]
                  exact hO7
                case measure => simp [intOf]; omega
          ·
            go_upto_region 6 with fail
            clear q0 q1 p8
            refine heldRegion (fun v => Blk v q 94 #[.int .i64 id, .string name, .slice F fn fc, .int .i64 most, .int .i64 burst, .int .i64 stage, .bool first, .int .i64 at_, .slice A2 m a2, .int .i64 timer, .int .i64 patience, .int .i64 tries, .int .i64 limit, .slice none 0 0] ∧ Blk v wr.heap.size 66 #[.int .i64 x1, .int .i64 (fn : Int)]) 9 (by kernel_rfl) (by kernel_rfl) ⟨bq.drew, bt.drew⟩ (fun hSS => ?_)
            replace bq := bq.drew
            replace bt := bt.drew
            replace hOA := hOA.drew
            replace lz4 : wr.heap.size < V3.drew.heap.size := lz4
            have hT5 : Turned w V3.drew (fun i => i = q ∨ blk A = some i) := hT4.drewN 1
            clear hT4 hSS
            generalize V3.drew = V4 at *
            refine walk_take 0 (v := ?vb0) rfl (by kernel_rfl) (by kernel_rfl) (by kernel_rfl) (fun _ _ _ h => h) (⟨bq, bt⟩) (Or.inl ⟨by rfl, ?yb0⟩) ?rb0
            case yb0 => intro w hSw; obtain ⟨hwq, hwt⟩ := _root_.id hSw; have e8 := hwq.cell' (i := 8) rfl; have e0 := hwt.cell' (i := 0) rfl; have e1 := hwt.cell' (i := 1) rfl; have hSx := hSw; (try dsimp only at hSw); go_simp; try rfl
            case' rb0 => try simp only [List.getElem_toArray, List.getElem_cons_succ, List.getElem_cons_zero, Act.put, List.setIfInBounds_toArray, List.set_cons_zero, List.set_cons_succ]
            refine walk_take 1 (v := ?vb1) rfl (by kernel_rfl) (by kernel_rfl) (by kernel_rfl) (fun _ _ _ h => h) (⟨bq, bt⟩) (Or.inl ⟨by rfl, ?yb1⟩) ?rb1
            case yb1 => intro w hSw; obtain ⟨hwq, hwt⟩ := _root_.id hSw; have e8 := hwq.cell' (i := 8) rfl; have e0 := hwt.cell' (i := 0) rfl; have e1 := hwt.cell' (i := 1) rfl; have hSx := hSw; (try dsimp only at hSw); go_simp; try rfl
            case' rb1 => try simp only [List.getElem_toArray, List.getElem_cons_succ, List.getElem_cons_zero, Act.put, List.setIfInBounds_toArray, List.set_cons_zero, List.set_cons_succ]
            refine walk_take 2 (v := ?vb2) rfl (by kernel_rfl) (by kernel_rfl) (by kernel_rfl) (fun _ _ _ h => h) (⟨bq, bt⟩) (Or.inl ⟨by rfl, ?yb2⟩) ?rb2
            case yb2 => intro w hSw; obtain ⟨hwq, hwt⟩ := _root_.id hSw; have e8 := hwq.cell' (i := 8) rfl; have e0 := hwt.cell' (i := 0) rfl; have e1 := hwt.cell' (i := 1) rfl; have hSx := hSw; (try dsimp only at hSw); go_simp; try rfl
            case' rb2 => try simp only [List.getElem_toArray, List.getElem_cons_succ, List.getElem_cons_zero, Act.put, List.setIfInBounds_toArray, List.set_cons_zero, List.set_cons_succ]
            refine walk_take 3 (v := ?vb3) rfl (by kernel_rfl) (by kernel_rfl) (by kernel_rfl) (fun _ _ _ h => h) (⟨bq, bt⟩) (Or.inl ⟨by rfl, ?yb3⟩) ?rb3
            case yb3 => intro w hSw; obtain ⟨hwq, hwt⟩ := _root_.id hSw; have e8 := hwq.cell' (i := 8) rfl; have e0 := hwt.cell' (i := 0) rfl; have e1 := hwt.cell' (i := 1) rfl; have hSx := hSw; (try dsimp only at hSw); go_simp; try rfl
            case' rb3 => try simp only [List.getElem_toArray, List.getElem_cons_succ, List.getElem_cons_zero, Act.put, List.setIfInBounds_toArray, List.set_cons_zero, List.set_cons_succ]
            refine walk_take 4 (v := ?vb4) rfl (by kernel_rfl) (by kernel_rfl) (by kernel_rfl) (fun _ _ _ h => h) (⟨bq, bt⟩) (Or.inl ⟨by rfl, ?yb4⟩) ?rb4
            case yb4 => intro w hSw; obtain ⟨hwq, hwt⟩ := _root_.id hSw; have e8 := hwq.cell' (i := 8) rfl; have e0 := hwt.cell' (i := 0) rfl; have e1 := hwt.cell' (i := 1) rfl; have hSx := hSw; (try dsimp only at hSw); go_simp; try rfl
            case' rb4 => try simp only [List.getElem_toArray, List.getElem_cons_succ, List.getElem_cons_zero, Act.put, List.setIfInBounds_toArray, List.set_cons_zero, List.set_cons_succ]
            refine walk_take 5 (v := ?vb5) rfl (by kernel_rfl) (by kernel_rfl) (by kernel_rfl) (fun _ _ _ h => h) (⟨bq, bt⟩) (Or.inl ⟨by rfl, ?yb5⟩) ?rb5
            case yb5 => intro w hSw; obtain ⟨hwq, hwt⟩ := _root_.id hSw; have e8 := hwq.cell' (i := 8) rfl; have e0 := hwt.cell' (i := 0) rfl; have e1 := hwt.cell' (i := 1) rfl; have hSx := hSw; (try dsimp only at hSw); go_simp; try rfl
            case' rb5 => try simp only [List.getElem_toArray, List.getElem_cons_succ, List.getElem_cons_zero, Act.put, List.setIfInBounds_toArray, List.set_cons_zero, List.set_cons_succ]
            refine walk_take 6 (v := ?vb6) rfl (by kernel_rfl) (by kernel_rfl) (by kernel_rfl) (fun _ _ _ h => h) (⟨bq, bt⟩) (Or.inl ⟨by rfl, ?yb6⟩) ?rb6
            case yb6 => intro w hSw; obtain ⟨hwq, hwt⟩ := _root_.id hSw; have e8 := hwq.cell' (i := 8) rfl; have e0 := hwt.cell' (i := 0) rfl; have e1 := hwt.cell' (i := 1) rfl; have hSx := hSw; (try dsimp only at hSw); go_simp; try rfl
            case' rb6 => try simp only [List.getElem_toArray, List.getElem_cons_succ, List.getElem_cons_zero, Act.put, List.setIfInBounds_toArray, List.set_cons_zero, List.set_cons_succ]
            refine walk_step 7 rfl (by kernel_rfl) (by kernel_rfl) (fun K hK => ?bsb)
            case bsb =>
              go_simp
              have hR5 := Rd_lit V4 [.int .i64 x1, .int .i64 (fn : Int)] 66
              have bq2 := bq.alloc (.cells #[.int .i64 x1, .int .i64 (fn : Int)] 66)
              have bt2 := bt.alloc (.cells #[.int .i64 x1, .int .i64 (fn : Int)] 66)
              have hO2 := hOA.alloc (.cells #[.int .i64 x1, .int .i64 (fn : Int)] 66)
              have hT6 := hT5.step (v' := V4.alloc (.cells #[.int .i64 x1, .int .i64 (fn : Int)] 66)) ((Below.refl _ _).alloc (Nat.le_refl _) _)
              have hbs : base ≤ (V4.alloc (.cells #[.int .i64 x1, .int .i64 (fn : Int)] 66)).heap.size := by have := bq2.lt; omega
              refine hK _ _ ⟨bq2, bt2⟩ ?_
              clear hK K hT5
              try simp only [List.getElem_toArray, List.getElem_cons_succ, List.getElem_cons_zero, Act.put, List.setIfInBounds_toArray, List.set_cons_zero, List.set_cons_succ]
              have q4 : m + 1 ≤ maxLen := by unfold maxLen; omega
              have q5 : (m + 1) * 16 ≤ 140737488355328 := by omega
              have hone : Hid (∀ u ∈ [Value.int .i64 x1, .int .i64 (fn : Int)], u.oneCell' = true) := Lib.hid (gps_one [(x1, (fn : Int))])
              refine walk_step 8 rfl (by kernel_rfl) (by kernel_rfl) (fun K hK => ?apb)
              case apb =>
                rw [if_pos (by kernel_rfl)]
                refine wp_append_Own _ (.tmp 48) (.tmp 50) 24 rfl base 66 j0 _ 2 16 Try.underlying24 hj0 hy0 hy1 hy2 rfl A2 m a2 (gps (askAll (fn : Int) again (gs.take i))) rfl hO2 (some ⟨V4.heap.size, 0, none⟩) 1 1 [.int .i64 x1, .int .i64 (fn : Int)] rfl rfl hR5 hone.out q4 q5 hbs ?_
                intro A6 c6 w6 hO6 hg6 hor6
                have bq6 := bq2.grown hg6 (fun e => (hO2.notBlk bq2 (by decide)) e.symm)
                have bt6 := bt2.grown hg6 (fun e => by have := hOAlt _ e.symm; omega)
                refine hK _ _ ⟨bq6, bt6⟩ ?_
                clear hK K
                try simp only [List.getElem_toArray, List.getElem_cons_succ, List.getElem_cons_zero, Act.put, List.setIfInBounds_toArray, List.set_cons_zero, List.set_cons_succ]
                refine walk_tail (by kernel_rfl) ?_
                simp only [List.drop_succ_cons, List.drop_zero]
                have kf6 := bq6.frozen
                have y6 := bq6.cell' (i := 8) rfl
                go_upto_region 7 with fail
                have bq7 := bq6.set_ 8 (.slice A6 (m + 1) c6)
                have hO7 := hO6.setFar (p := ⟨q, 8, none⟩) (hO6.notBlk bq6 (by decide)) (.slice A6 (m + 1) c6)
                have hT7 := (hT6.grown hg6 (fun j hj hlt => by
                  rcases hAA with h | h
                  · exact .inr (by rw [← h]; exact hj)
                  · have := h j hj; omega)).set (p := ⟨q, 8, none⟩) (fun _ => .inl rfl) (.slice A6 (m + 1) c6)
                have hAA7 : blk A6 = blk A ∨ ∀ j, blk A6 = some j → w.heap.size ≤ j := by
                  rcases hor6 with h | h
                  · rw [h]; exact hAA
                  · refine .inr (fun j hj => ?_)
                    rw [h] at hj
                    have h2 := Option.some.inj hj
                    have h3 : V4.heap.size < (V4.alloc (.cells #[.int .i64 x1, .int .i64 (fn : Int)] 66)).heap.size := by simp
                    have h4 : j = (V4.alloc (.cells #[.int .i64 x1, .int .i64 (fn : Int)] 66)).heap.size := h2.symm
                    omega
                clear bq bt bq2 bt2 hOA hO2 hT6 bq6 bt6 hO6 hg6 hor6 kf6 y6 hR5
                generalize w6.setCell ⟨q, 8, none⟩ (.slice A6 (m + 1) c6) = V7 at *
                go_wp2_with fail
                go_roundw
                case rel =>
                  refine ⟨i + 1, A6, c6, m + 1, by omega, by go_num, by omega, Lib.hid (by rw [HY.out, List.length_append, HM.out]; rfl), ?_, bq7, hT7, hAA7⟩
                  rw [HY.out]
                  have e : gps (askAll (fn : Int) again (gs.take i) ++ [(x1, (fn : Int))]) = gps (askAll (fn : Int) again (gs.take i)) ++ [.int .i64 x1, .int .i64 (fn : Int)] := by simp [gps, gpc]
                  rw [e]
                  exact hO7
                case measure => simp [intOf]; omega
        ·
          have HY : Hid (askAll (fn : Int) again (gs.take (i + 1)) = askAll (fn : Int) again (gs.take i)) := Lib.hid (by
            rw [HT.out, askAll_snoc]
            by_cases am : m < 1000
            · exact askG_no HQ.out (fun h => app ⟨am, h⟩)
            · exact askG_full _ (by rw [HM.out]; omega))
          have ways : ¬ (m : Int) < 1000 ∨ ((m : Int) < 1000 ∧ mt = false ∧ ¬ x1 < (fn : Int)) := by
            by_cases am : m < 1000
            · refine .inr ⟨by omega, ?_, fun h => app ⟨am, .inr h⟩⟩
              cases hm : mt
              · rfl
              · exact absurd ⟨am, .inl (HMT.out.1 hm)⟩ app
            · exact .inl (by omega)
          clear app c
          rcases ways with g1 | ⟨g1, rfl, g3⟩
          all_goals
            go_wp2_with fail
            go_roundw
            case rel => exact ⟨i + 1, A2, a2, m, by omega, by go_num, by omega, Lib.hid (by rw [HY.out]; exact HM.out), by rw [HY.out]; exact hOA, bq, hT4, hAA⟩
            case measure => simp [intOf]; omega
      ·
        have HQ : Hid (min x2 (fn : Int) = x2) := Lib.hid (by omega)
        have hmin : min x2 (fn : Int) = x2 := HQ.out
        go_still_tail 10, (by kernel_rfl)
        go_upto_region 5 with fail
        clear q0 q1 p2c kt
        replace bt := (bt.set_ 1 (.int .i64 x2)).drew
        replace hT := (hT.set (p := ⟨wr.heap.size, 1, none⟩) (fun h => absurd h (by show ¬ wr.heap.size < w.heap.size; omega)) (.int .i64 x2)).drewN 1
        replace hOA := (hOA.setFar (p := ⟨wr.heap.size, 1, none⟩) (fun e => Nat.lt_irrefl _ (hOAlt _ e)) (.int .i64 x2)).drew
        replace bq := (bq.far (p := ⟨wr.heap.size, 1, none⟩) nqt (.int .i64 x2)).drew
        have lz4 : wr.heap.size < ((V.setCell ⟨wr.heap.size, 1, none⟩ (.int .i64 x2)).drew).heap.size := by simpa using lz2
        have hT4 : Turned w (V.setCell ⟨wr.heap.size, 1, none⟩ (.int .i64 x2)).drew (fun i => i = q ∨ blk A = some i) := hT
        clear hT lz2 hmin
        generalize (V.setCell ⟨wr.heap.size, 1, none⟩ (.int .i64 x2)).drew = V3 at *
        have q0 := bt.cell' (i := 0) rfl
        have q1 := bt.cell' (i := 1) rfl
        have p8 := bq.cell' (i := 8) rfl
        by_cases app : m < 1000 ∧ (x2 = 0 ∨ x1 < x2)
        ·
          obtain ⟨am, app⟩ := app
          have ami : (m : Int) < 1000 := by omega
          have HY : Hid (askAll (fn : Int) again (gs.take (i + 1)) = askAll (fn : Int) again (gs.take i) ++ [(x1, x2)]) := Lib.hid (by rw [HT.out, askAll_snoc, askG_yes (by rw [HM.out]; exact am) HQ.out app])
          have ways : mt = true ∨ (mt = false ∧ x1 < x2) := by
            by_cases z : x2 = 0
            · exact .inl (HMT.out.2 z)
            · refine .inr ⟨?_, by omega⟩
              cases hm : mt
              · rfl
              · exact absurd (HMT.out.1 hm) z
          clear app c
          rcases ways with rfl | ⟨rfl, lt⟩
          ·
            go_upto_region 6 with fail
            clear q0 q1 p8
            refine heldRegion (fun v => Blk v q 94 #[.int .i64 id, .string name, .slice F fn fc, .int .i64 most, .int .i64 burst, .int .i64 stage, .bool first, .int .i64 at_, .slice A2 m a2, .int .i64 timer, .int .i64 patience, .int .i64 tries, .int .i64 limit, .slice none 0 0] ∧ Blk v wr.heap.size 66 #[.int .i64 x1, .int .i64 x2]) 9 (by kernel_rfl) (by kernel_rfl) ⟨bq.drew, bt.drew⟩ (fun hSS => ?_)
            replace bq := bq.drew
            replace bt := bt.drew
            replace hOA := hOA.drew
            replace lz4 : wr.heap.size < V3.drew.heap.size := lz4
            have hT5 : Turned w V3.drew (fun i => i = q ∨ blk A = some i) := hT4.drewN 1
            clear hT4 hSS
            generalize V3.drew = V4 at *
            refine walk_take 0 (v := ?vc0) rfl (by kernel_rfl) (by kernel_rfl) (by kernel_rfl) (fun _ _ _ h => h) (⟨bq, bt⟩) (Or.inl ⟨by rfl, ?yc0⟩) ?rc0
            case yc0 => intro w hSw; obtain ⟨hwq, hwt⟩ := _root_.id hSw; have e8 := hwq.cell' (i := 8) rfl; have e0 := hwt.cell' (i := 0) rfl; have e1 := hwt.cell' (i := 1) rfl; have hSx := hSw; (try dsimp only at hSw); go_simp; try rfl
            case' rc0 => try simp only [List.getElem_toArray, List.getElem_cons_succ, List.getElem_cons_zero, Act.put, List.setIfInBounds_toArray, List.set_cons_zero, List.set_cons_succ]
            refine walk_take 1 (v := ?vc1) rfl (by kernel_rfl) (by kernel_rfl) (by kernel_rfl) (fun _ _ _ h => h) (⟨bq, bt⟩) (Or.inl ⟨by rfl, ?yc1⟩) ?rc1
            case yc1 => intro w hSw; obtain ⟨hwq, hwt⟩ := _root_.id hSw; have e8 := hwq.cell' (i := 8) rfl; have e0 := hwt.cell' (i := 0) rfl; have e1 := hwt.cell' (i := 1) rfl; have hSx := hSw; (try dsimp only at hSw); go_simp; try rfl
            case' rc1 => try simp only [List.getElem_toArray, List.getElem_cons_succ, List.getElem_cons_zero, Act.put, List.setIfInBounds_toArray, List.set_cons_zero, List.set_cons_succ]
            refine walk_take 2 (v := ?vc2) rfl (by kernel_rfl) (by kernel_rfl) (by kernel_rfl) (fun _ _ _ h => h) (⟨bq, bt⟩) (Or.inl ⟨by rfl, ?yc2⟩) ?rc2
            case yc2 => intro w hSw; obtain ⟨hwq, hwt⟩ := _root_.id hSw; have e8 := hwq.cell' (i := 8) rfl; have e0 := hwt.cell' (i := 0) rfl; have e1 := hwt.cell' (i := 1) rfl; have hSx := hSw; (try dsimp only at hSw); go_simp; try rfl
            case' rc2 => try simp only [List.getElem_toArray, List.getElem_cons_succ, List.getElem_cons_zero, Act.put, List.setIfInBounds_toArray, List.set_cons_zero, List.set_cons_succ]
            refine walk_take 3 (v := ?vc3) rfl (by kernel_rfl) (by kernel_rfl) (by kernel_rfl) (fun _ _ _ h => h) (⟨bq, bt⟩) (Or.inl ⟨by rfl, ?yc3⟩) ?rc3
            case yc3 => intro w hSw; obtain ⟨hwq, hwt⟩ := _root_.id hSw; have e8 := hwq.cell' (i := 8) rfl; have e0 := hwt.cell' (i := 0) rfl; have e1 := hwt.cell' (i := 1) rfl; have hSx := hSw; (try dsimp only at hSw); go_simp; try rfl
            case' rc3 => try simp only [List.getElem_toArray, List.getElem_cons_succ, List.getElem_cons_zero, Act.put, List.setIfInBounds_toArray, List.set_cons_zero, List.set_cons_succ]
            refine walk_take 4 (v := ?vc4) rfl (by kernel_rfl) (by kernel_rfl) (by kernel_rfl) (fun _ _ _ h => h) (⟨bq, bt⟩) (Or.inl ⟨by rfl, ?yc4⟩) ?rc4
            case yc4 => intro w hSw; obtain ⟨hwq, hwt⟩ := _root_.id hSw; have e8 := hwq.cell' (i := 8) rfl; have e0 := hwt.cell' (i := 0) rfl; have e1 := hwt.cell' (i := 1) rfl; have hSx := hSw; (try dsimp only at hSw); go_simp; try rfl
            case' rc4 => try simp only [List.getElem_toArray, List.getElem_cons_succ, List.getElem_cons_zero, Act.put, List.setIfInBounds_toArray, List.set_cons_zero, List.set_cons_succ]
            refine walk_take 5 (v := ?vc5) rfl (by kernel_rfl) (by kernel_rfl) (by kernel_rfl) (fun _ _ _ h => h) (⟨bq, bt⟩) (Or.inl ⟨by rfl, ?yc5⟩) ?rc5
            case yc5 => intro w hSw; obtain ⟨hwq, hwt⟩ := _root_.id hSw; have e8 := hwq.cell' (i := 8) rfl; have e0 := hwt.cell' (i := 0) rfl; have e1 := hwt.cell' (i := 1) rfl; have hSx := hSw; (try dsimp only at hSw); go_simp; try rfl
            case' rc5 => try simp only [List.getElem_toArray, List.getElem_cons_succ, List.getElem_cons_zero, Act.put, List.setIfInBounds_toArray, List.set_cons_zero, List.set_cons_succ]
            refine walk_take 6 (v := ?vc6) rfl (by kernel_rfl) (by kernel_rfl) (by kernel_rfl) (fun _ _ _ h => h) (⟨bq, bt⟩) (Or.inl ⟨by rfl, ?yc6⟩) ?rc6
            case yc6 => intro w hSw; obtain ⟨hwq, hwt⟩ := _root_.id hSw; have e8 := hwq.cell' (i := 8) rfl; have e0 := hwt.cell' (i := 0) rfl; have e1 := hwt.cell' (i := 1) rfl; have hSx := hSw; (try dsimp only at hSw); go_simp; try rfl
            case' rc6 => try simp only [List.getElem_toArray, List.getElem_cons_succ, List.getElem_cons_zero, Act.put, List.setIfInBounds_toArray, List.set_cons_zero, List.set_cons_succ]
            refine walk_step 7 rfl (by kernel_rfl) (by kernel_rfl) (fun K hK => ?bsc)
            case bsc =>
              go_simp
              have hR5 := Rd_lit V4 [.int .i64 x1, .int .i64 x2] 66
              have bq2 := bq.alloc (.cells #[.int .i64 x1, .int .i64 x2] 66)
              have bt2 := bt.alloc (.cells #[.int .i64 x1, .int .i64 x2] 66)
              have hO2 := hOA.alloc (.cells #[.int .i64 x1, .int .i64 x2] 66)
              have hT6 := hT5.step (v' := V4.alloc (.cells #[.int .i64 x1, .int .i64 x2] 66)) ((Below.refl _ _).alloc (Nat.le_refl _) _)
              have hbs : base ≤ (V4.alloc (.cells #[.int .i64 x1, .int .i64 x2] 66)).heap.size := by have := bq2.lt; omega
              refine hK _ _ ⟨bq2, bt2⟩ ?_
              clear hK K hT5
              try simp only [List.getElem_toArray, List.getElem_cons_succ, List.getElem_cons_zero, Act.put, List.setIfInBounds_toArray, List.set_cons_zero, List.set_cons_succ]
              have q4 : m + 1 ≤ maxLen := by unfold maxLen; omega
              have q5 : (m + 1) * 16 ≤ 140737488355328 := by omega
              have hone : Hid (∀ u ∈ [Value.int .i64 x1, .int .i64 x2], u.oneCell' = true) := Lib.hid (gps_one [(x1, x2)])
              refine walk_step 8 rfl (by kernel_rfl) (by kernel_rfl) (fun K hK => ?apc)
              case apc =>
                rw [if_pos (by kernel_rfl)]
                refine wp_append_Own _ (.tmp 48) (.tmp 50) 24 rfl base 66 j0 _ 2 16 Try.underlying24 hj0 hy0 hy1 hy2 rfl A2 m a2 (gps (askAll (fn : Int) again (gs.take i))) rfl hO2 (some ⟨V4.heap.size, 0, none⟩) 1 1 [.int .i64 x1, .int .i64 x2] rfl rfl hR5 hone.out q4 q5 hbs ?_
                intro A6 c6 w6 hO6 hg6 hor6
                have bq6 := bq2.grown hg6 (fun e => (hO2.notBlk bq2 (by decide)) e.symm)
                have bt6 := bt2.grown hg6 (fun e => by have := hOAlt _ e.symm; omega)
                refine hK _ _ ⟨bq6, bt6⟩ ?_
                clear hK K
                try simp only [List.getElem_toArray, List.getElem_cons_succ, List.getElem_cons_zero, Act.put, List.setIfInBounds_toArray, List.set_cons_zero, List.set_cons_succ]
                refine walk_tail (by kernel_rfl) ?_
                simp only [List.drop_succ_cons, List.drop_zero]
                have kf6 := bq6.frozen
                have y6 := bq6.cell' (i := 8) rfl
                go_upto_region 7 with fail
                have bq7 := bq6.set_ 8 (.slice A6 (m + 1) c6)
                have hO7 := hO6.setFar (p := ⟨q, 8, none⟩) (hO6.notBlk bq6 (by decide)) (.slice A6 (m + 1) c6)
                have hT7 := (hT6.grown hg6 (fun j hj hlt => by
                  rcases hAA with h | h
                  · exact .inr (by rw [← h]; exact hj)
                  · have := h j hj; omega)).set (p := ⟨q, 8, none⟩) (fun _ => .inl rfl) (.slice A6 (m + 1) c6)
                have hAA7 : blk A6 = blk A ∨ ∀ j, blk A6 = some j → w.heap.size ≤ j := by
                  rcases hor6 with h | h
                  · rw [h]; exact hAA
                  · refine .inr (fun j hj => ?_)
                    rw [h] at hj
                    have h2 := Option.some.inj hj
                    have h3 : V4.heap.size < (V4.alloc (.cells #[.int .i64 x1, .int .i64 x2] 66)).heap.size := by simp
                    have h4 : j = (V4.alloc (.cells #[.int .i64 x1, .int .i64 x2] 66)).heap.size := h2.symm
                    omega
                clear bq bt bq2 bt2 hOA hO2 hT6 bq6 bt6 hO6 hg6 hor6 kf6 y6 hR5
                generalize w6.setCell ⟨q, 8, none⟩ (.slice A6 (m + 1) c6) = V7 at *
                go_wp2_with fail
                go_roundw
                case rel =>
                  refine ⟨i + 1, A6, c6, m + 1, by omega, by go_num, by omega, Lib.hid (by rw [HY.out, List.length_append, HM.out]; rfl), ?_, bq7, hT7, hAA7⟩
                  rw [HY.out]
                  have e : gps (askAll (fn : Int) again (gs.take i) ++ [(x1, x2)]) = gps (askAll (fn : Int) again (gs.take i)) ++ [.int .i64 x1, .int .i64 x2] := by simp [gps, gpc]
                  rw [e]
                  exact hO7
                case measure => simp [intOf]; omega
          ·
            go_upto_region 6 with fail
            clear q0 q1 p8
            refine heldRegion (fun v => Blk v q 94 #[.int .i64 id, .string name, .slice F fn fc, .int .i64 most, .int .i64 burst, .int .i64 stage, .bool first, .int .i64 at_, .slice A2 m a2, .int .i64 timer, .int .i64 patience, .int .i64 tries, .int .i64 limit, .slice none 0 0] ∧ Blk v wr.heap.size 66 #[.int .i64 x1, .int .i64 x2]) 9 (by kernel_rfl) (by kernel_rfl) ⟨bq.drew, bt.drew⟩ (fun hSS => ?_)
            replace bq := bq.drew
            replace bt := bt.drew
            replace hOA := hOA.drew
            replace lz4 : wr.heap.size < V3.drew.heap.size := lz4
            have hT5 : Turned w V3.drew (fun i => i = q ∨ blk A = some i) := hT4.drewN 1
            clear hT4 hSS
            generalize V3.drew = V4 at *
            refine walk_take 0 (v := ?vd0) rfl (by kernel_rfl) (by kernel_rfl) (by kernel_rfl) (fun _ _ _ h => h) (⟨bq, bt⟩) (Or.inl ⟨by rfl, ?yd0⟩) ?rd0
            case yd0 => intro w hSw; obtain ⟨hwq, hwt⟩ := _root_.id hSw; have e8 := hwq.cell' (i := 8) rfl; have e0 := hwt.cell' (i := 0) rfl; have e1 := hwt.cell' (i := 1) rfl; have hSx := hSw; (try dsimp only at hSw); go_simp; try rfl
            case' rd0 => try simp only [List.getElem_toArray, List.getElem_cons_succ, List.getElem_cons_zero, Act.put, List.setIfInBounds_toArray, List.set_cons_zero, List.set_cons_succ]
            refine walk_take 1 (v := ?vd1) rfl (by kernel_rfl) (by kernel_rfl) (by kernel_rfl) (fun _ _ _ h => h) (⟨bq, bt⟩) (Or.inl ⟨by rfl, ?yd1⟩) ?rd1
            case yd1 => intro w hSw; obtain ⟨hwq, hwt⟩ := _root_.id hSw; have e8 := hwq.cell' (i := 8) rfl; have e0 := hwt.cell' (i := 0) rfl; have e1 := hwt.cell' (i := 1) rfl; have hSx := hSw; (try dsimp only at hSw); go_simp; try rfl
            case' rd1 => try simp only [List.getElem_toArray, List.getElem_cons_succ, List.getElem_cons_zero, Act.put, List.setIfInBounds_toArray, List.set_cons_zero, List.set_cons_succ]
            refine walk_take 2 (v := ?vd2) rfl (by kernel_rfl) (by kernel_rfl) (by kernel_rfl) (fun _ _ _ h => h) (⟨bq, bt⟩) (Or.inl ⟨by rfl, ?yd2⟩) ?rd2
            case yd2 => intro w hSw; obtain ⟨hwq, hwt⟩ := _root_.id hSw; have e8 := hwq.cell' (i := 8) rfl; have e0 := hwt.cell' (i := 0) rfl; have e1 := hwt.cell' (i := 1) rfl; have hSx := hSw; (try dsimp only at hSw); go_simp; try rfl
            case' rd2 => try simp only [List.getElem_toArray, List.getElem_cons_succ, List.getElem_cons_zero, Act.put, List.setIfInBounds_toArray, List.set_cons_zero, List.set_cons_succ]
            refine walk_take 3 (v := ?vd3) rfl (by kernel_rfl) (by kernel_rfl) (by kernel_rfl) (fun _ _ _ h => h) (⟨bq, bt⟩) (Or.inl ⟨by rfl, ?yd3⟩) ?rd3
            case yd3 => intro w hSw; obtain ⟨hwq, hwt⟩ := _root_.id hSw; have e8 := hwq.cell' (i := 8) rfl; have e0 := hwt.cell' (i := 0) rfl; have e1 := hwt.cell' (i := 1) rfl; have hSx := hSw; (try dsimp only at hSw); go_simp; try rfl
            case' rd3 => try simp only [List.getElem_toArray, List.getElem_cons_succ, List.getElem_cons_zero, Act.put, List.setIfInBounds_toArray, List.set_cons_zero, List.set_cons_succ]
            refine walk_take 4 (v := ?vd4) rfl (by kernel_rfl) (by kernel_rfl) (by kernel_rfl) (fun _ _ _ h => h) (⟨bq, bt⟩) (Or.inl ⟨by rfl, ?yd4⟩) ?rd4
            case yd4 => intro w hSw; obtain ⟨hwq, hwt⟩ := _root_.id hSw; have e8 := hwq.cell' (i := 8) rfl; have e0 := hwt.cell' (i := 0) rfl; have e1 := hwt.cell' (i := 1) rfl; have hSx := hSw; (try dsimp only at hSw); go_simp; try rfl
            case' rd4 => try simp only [List.getElem_toArray, List.getElem_cons_succ, List.getElem_cons_zero, Act.put, List.setIfInBounds_toArray, List.set_cons_zero, List.set_cons_succ]
            refine walk_take 5 (v := ?vd5) rfl (by kernel_rfl) (by kernel_rfl) (by kernel_rfl) (fun _ _ _ h => h) (⟨bq, bt⟩) (Or.inl ⟨by rfl, ?yd5⟩) ?rd5
            case yd5 => intro w hSw; obtain ⟨hwq, hwt⟩ := _root_.id hSw; have e8 := hwq.cell' (i := 8) rfl; have e0 := hwt.cell' (i := 0) rfl; have e1 := hwt.cell' (i := 1) rfl; have hSx := hSw; (try dsimp only at hSw); go_simp; try rfl
            case' rd5 => try simp only [List.getElem_toArray, List.getElem_cons_succ, List.getElem_cons_zero, Act.put, List.setIfInBounds_toArray, List.set_cons_zero, List.set_cons_succ]
            refine walk_take 6 (v := ?vd6) rfl (by kernel_rfl) (by kernel_rfl) (by kernel_rfl) (fun _ _ _ h => h) (⟨bq, bt⟩) (Or.inl ⟨by rfl, ?yd6⟩) ?rd6
            case yd6 => intro w hSw; obtain ⟨hwq, hwt⟩ := _root_.id hSw; have e8 := hwq.cell' (i := 8) rfl; have e0 := hwt.cell' (i := 0) rfl; have e1 := hwt.cell' (i := 1) rfl; have hSx := hSw; (try dsimp only at hSw); go_simp; try rfl
            case' rd6 => try simp only [List.getElem_toArray, List.getElem_cons_succ, List.getElem_cons_zero, Act.put, List.setIfInBounds_toArray, List.set_cons_zero, List.set_cons_succ]
            refine walk_step 7 rfl (by kernel_rfl) (by kernel_rfl) (fun K hK => ?bsd)
            case bsd =>
              go_simp
              have hR5 := Rd_lit V4 [.int .i64 x1, .int .i64 x2] 66
              have bq2 := bq.alloc (.cells #[.int .i64 x1, .int .i64 x2] 66)
              have bt2 := bt.alloc (.cells #[.int .i64 x1, .int .i64 x2] 66)
              have hO2 := hOA.alloc (.cells #[.int .i64 x1, .int .i64 x2] 66)
              have hT6 := hT5.step (v' := V4.alloc (.cells #[.int .i64 x1, .int .i64 x2] 66)) ((Below.refl _ _).alloc (Nat.le_refl _) _)
              have hbs : base ≤ (V4.alloc (.cells #[.int .i64 x1, .int .i64 x2] 66)).heap.size := by have := bq2.lt; omega
              refine hK _ _ ⟨bq2, bt2⟩ ?_
              clear hK K hT5
              try simp only [List.getElem_toArray, List.getElem_cons_succ, List.getElem_cons_zero, Act.put, List.setIfInBounds_toArray, List.set_cons_zero, List.set_cons_succ]
              have q4 : m + 1 ≤ maxLen := by unfold maxLen; omega
              have q5 : (m + 1) * 16 ≤ 140737488355328 := by omega
              have hone : Hid (∀ u ∈ [Value.int .i64 x1, .int .i64 x2], u.oneCell' = true) := Lib.hid (gps_one [(x1, x2)])
              refine walk_step 8 rfl (by kernel_rfl) (by kernel_rfl) (fun K hK => ?apd)
              case apd =>
                rw [if_pos (by kernel_rfl)]
                refine wp_append_Own _ (.tmp 48) (.tmp 50) 24 rfl base 66 j0 _ 2 16 Try.underlying24 hj0 hy0 hy1 hy2 rfl A2 m a2 (gps (askAll (fn : Int) again (gs.take i))) rfl hO2 (some ⟨V4.heap.size, 0, none⟩) 1 1 [.int .i64 x1, .int .i64 x2] rfl rfl hR5 hone.out q4 q5 hbs ?_
                intro A6 c6 w6 hO6 hg6 hor6
                have bq6 := bq2.grown hg6 (fun e => (hO2.notBlk bq2 (by decide)) e.symm)
                have bt6 := bt2.grown hg6 (fun e => by have := hOAlt _ e.symm; omega)
                refine hK _ _ ⟨bq6, bt6⟩ ?_
                clear hK K
                try simp only [List.getElem_toArray, List.getElem_cons_succ, List.getElem_cons_zero, Act.put, List.setIfInBounds_toArray, List.set_cons_zero, List.set_cons_succ]
                refine walk_tail (by kernel_rfl) ?_
                simp only [List.drop_succ_cons, List.drop_zero]
                have kf6 := bq6.frozen
                have y6 := bq6.cell' (i := 8) rfl
                go_upto_region 7 with fail
                have bq7 := bq6.set_ 8 (.slice A6 (m + 1) c6)
                have hO7 := hO6.setFar (p := ⟨q, 8, none⟩) (hO6.notBlk bq6 (by decide)) (.slice A6 (m + 1) c6)
                have hT7 := (hT6.grown hg6 (fun j hj hlt => by
                  rcases hAA with h | h
                  · exact .inr (by rw [← h]; exact hj)
                  · have := h j hj; omega)).set (p := ⟨q, 8, none⟩) (fun _ => .inl rfl) (.slice A6 (m + 1) c6)
                have hAA7 : blk A6 = blk A ∨ ∀ j, blk A6 = some j → w.heap.size ≤ j := by
                  rcases hor6 with h | h
                  · rw [h]; exact hAA
                  · refine .inr (fun j hj => ?_)
                    rw [h] at hj
                    have h2 := Option.some.inj hj
                    have h3 : V4.heap.size < (V4.alloc (.cells #[.int .i64 x1, .int .i64 x2] 66)).heap.size := by simp
                    have h4 : j = (V4.alloc (.cells #[.int .i64 x1, .int .i64 x2] 66)).heap.size := h2.symm
                    omega
                clear bq bt bq2 bt2 hOA hO2 hT6 bq6 bt6 hO6 hg6 hor6 kf6 y6 hR5
                generalize w6.setCell ⟨q, 8, none⟩ (.slice A6 (m + 1) c6) = V7 at *
                go_wp2_with fail
                go_roundw
                case rel =>
                  refine ⟨i + 1, A6, c6, m + 1, by omega, by go_num, by omega, Lib.hid (by rw [HY.out, List.length_append, HM.out]; rfl), ?_, bq7, hT7, hAA7⟩
                  rw [HY.out]
                  have e : gps (askAll (fn : Int) again (gs.take i) ++ [(x1, x2)]) = gps (askAll (fn : Int) again (gs.take i)) ++ [.int .i64 x1, .int .i64 x2] := by simp [gps, gpc]
                  rw [e]
                  exact hO7
                case measure => simp [intOf]; omega
        ·
          have HY : Hid (askAll (fn : Int) again (gs.take (i + 1)) = askAll (fn : Int) again (gs.take i)) := Lib.hid (by
            rw [HT.out, askAll_snoc]
            by_cases am : m < 1000
            · exact askG_no HQ.out (fun h => app ⟨am, h⟩)
            · exact askG_full _ (by rw [HM.out]; omega))
          have ways : ¬ (m : Int) < 1000 ∨ ((m : Int) < 1000 ∧ mt = false ∧ ¬ x1 < x2) := by
            by_cases am : m < 1000
            · refine .inr ⟨by omega, ?_, fun h => app ⟨am, .inr h⟩⟩
              cases hm : mt
              · rfl
              · exact absurd ⟨am, .inl (HMT.out.1 hm)⟩ app
            · exact .inl (by omega)
          clear app c
          rcases ways with g1 | ⟨g1, rfl, g3⟩
          all_goals
            go_wp2_with fail
            go_roundw
            case rel => exact ⟨i + 1, A2, a2, m, by omega, by go_num, by omega, Lib.hid (by rw [HY.out]; exact HM.out), by rw [HY.out]; exact hOA, bq, hT4, hAA⟩
            case measure => simp [intOf]; omega
    ·
      obtain rfl : i = gn := by omega
      have h5i : ¬ (i : Int) < (i : Int) := by omega
      have HE : Hid (askAll (fn : Int) again gs = askAll (fn : Int) again (gs.take i)) := Lib.hid (by rw [List.take_of_length_le (by rw [HGL.out]; omega)])
      go_wp2_with fail
      go_end0
      rw [HE.out]
      exact ⟨rfl, A2, m, a2, bq, HM.out, hOA, hT⟩
end Go.Proofs.Ytianombjgdmbeaa
namespace Go.Proofs.Ytianombjgdmbeaa
set_option linter.unusedSimpArgs false
set_option linter.unusedVariables false
open Go.RowKit

theorem gap_zero {n : Nt} (h : noteOk n = true) : ∀ g ∈ n.gaps, g.2 = 0 → g.1 = 0 := by
  intro g hg h2
  have hk := note_kind' h
  have hr := note_rng h
  by_cases h4 : n.kind = 4
  · unfold kindOk at hk
    rw [if_neg (by omega), if_neg (by omega), if_neg (by omega), if_pos h4] at hk
    simp only [Bool.and_eq_true, List.all_eq_true] at hk
    have := hk.2 g hg
    unfold gapOk at this
    simp only [Bool.or_eq_true, decide_eq_true_eq] at this
    omega
  · have hz : n.gaps.length = 0 := by
      unfold noteOk bareOk at h
      simp only [Bool.and_eq_true, Bool.or_eq_true, decide_eq_true_eq] at h
      rcases h.1.2.1.1.2 with h1 | h1
      · exact absurd h1 h4
      · exact h1
    have : n.gaps = [] := List.eq_nil_of_length_eq_zero hz
    rw [this] at hg
    cases hg
set_option maxHeartbeats 12800000 in
set_option maxRecDepth 100000 in
theorem doReply_any (x : Gv) (F : Option Addr) (fn fc : Nat) (A : Option Addr) (an ac : Nat) (n : Nt) (D : Option Addr) (dn dc : Nat) (G : Option Addr) (gn gc : Nat) (y : Gv) (ns : List Nt) (k : Int) (nb q base : Nat) (w : World) (hR : replyR x n = (y, ns, k)) (hok : gvOk x = true) (hq : Blk w q 94 (gw x F fn fc A an ac none 0 0)) (hn : Blk w nb 27 #[.int .i64 n.kind, .int .i64 n.id, .string n.name, .int .i64 n.size, .int .i64 n.sum, .int .i64 n.at_, .slice D dn dc, .slice G gn gc, .int .i64 n.of_, .int .i64 n.code])
    (hf : x.file.length = fn) (ha : x.again.length = an) (hOF : Own w base 5 1 F fn fc (bvs x.file)) (hOA : Own w base 66 2 A an ac (gps x.again)) (hd : n.data.length = dn) (hg : n.gaps.length = gn) (hG : Rd w G (gps n.gaps)) (hGb : ∀ i, blk G = some i → i < base) (hgn : gn ≤ 8796093022200) (hqb : base ≤ q) (hnb : nb < base) (hbase : base ≤ w.heap.size) :
    Calls Try.prog 63 #[.pointer (some ⟨q, 0, none⟩), .pointer (some ⟨nb, 0, none⟩)] w fun e w' => DoG w w' base q F fn fc y ns k e := by
  have HR := Lib.hid hR
  have CM := Lib.hid (may_any n D dn dc G gn gc w hd hg hG)
  have han : an ≤ 1000 := by have h := (gv_parts hok).2.2.1; omega
  have HG := Lib.hid hG
  have HFL := Lib.hid hf
  have HAL := Lib.hid ha
  have HGL := Lib.hid hg
  have H1 := Lib.hid hok
  obtain ⟨r2, hr2⟩ : ∃ r2, noteOk n = r2 := ⟨_, rfl⟩
  rw [hr2] at CM
  have H2 := Lib.hid hr2
  have HGZ := Lib.hid (fun (h : noteOk n = true) => gap_zero h)
  have HGB := Lib.hid hGb
  clear hR hok hf ha hd hg hG hr2 hGb
  obtain ⟨id, name, file, most, burst, stage, first, at_, again, timer, patience, tries, limit⟩ := x
  obtain ⟨nk, nid, nn, ns_, nsum, nat_, nd, ng, nof, ncode⟩ := n
  unfold gw at hq
  unfold ntv at CM
  dsimp only at CM hq hn HR HG HFL HAL HGL H1 H2 HGZ hOF hOA ⊢
  go_enter Try.func63, Try.ntmps63
  go_wp2_with (refine wpList_load_row rfl 27 (.tmp 1) rfl nb rfl 27 #[.int .i64 nk, .int .i64 nid, .string nn, .int .i64 ns_, .int .i64 nsum, .int .i64 nat_, .slice D dn dc, .slice G gn gc, .int .i64 nof, .int .i64 ncode] (0, 0) _ hn Try.underlying27 rfl notesz ?_)
  refine CM.out.mono ?_
  rintro e w1 ⟨rfl, hb⟩
  have bq := hq.step hb
  have bn := hn.step hb
  have hOF1 := hOF.step hb
  have hOA1 := hOA.step hb
  have hRG := HG.out.below hb
  have hB : Below base w w1 := hb.mono hbase
  have z1 := hb.size
  have lq := bq.lt
  clear hq hn hOF hOA hb CM HG
  cases r2
  ·
    go_wp2_with fail
    go_ret
    exact DoG.of HR.out (reply_8 H1.out H2.out) ⟨A, an, ac, none, 0, 0, [], rfl, bq, GvMem.none HFL.out HAL.out hOF1 hOA1, hB⟩
  have n1 := bn.cell' (i := 1) rfl
  have p0 := bq.cell' (i := 0) rfl
  by_cases hid : nid = id
  rotate_left
  ·
    have i1 := bne_t hid
    have HI := Lib.hid hid
    clear hid
    go_wp2_with fail
    go_quiet (fail)
    generalize nq = jq
    clear n1 p0
    replace bq := bq.drewN jq
    replace bn := bn.drewN jq
    replace hOF1 := hOF1.drewN jq
    replace hOA1 := hOA1.drewN jq
    replace hRG := hRG.drewN jq
    replace hB := below_drewN hB jq
    replace lq : q < (w1.drewN jq).heap.size := lq
    replace z1 : w.heap.size ≤ (w1.drewN jq).heap.size := z1
    generalize w1.drewN jq = V1 at *
    go_wp2_with fail
    go_ret
    exact DoG.of HR.out (reply_10 H1.out H2.out HI.out) ⟨A, an, ac, none, 0, 0, [], rfl, bq, GvMem.none HFL.out HAL.out hOF1 hOA1, hB⟩
  have i1 := bne_f hid
  have HI := Lib.hid hid
  clear hid
  go_wp2_with fail
  go_quiet (fail)
  generalize nq = jq
  clear n1 p0
  replace bq := bq.drewN jq
  replace bn := bn.drewN jq
  replace hOF1 := hOF1.drewN jq
  replace hOA1 := hOA1.drewN jq
  replace hRG := hRG.drewN jq
  replace hB := below_drewN hB jq
  replace lq : q < (w1.drewN jq).heap.size := lq
  replace z1 : w.heap.size ≤ (w1.drewN jq).heap.size := z1
  generalize w1.drewN jq = V1 at *
  have n0 := bn.cell' (i := 0) rfl
  by_cases hk : nk < 4
  ·
    have i4 := bne_t (show nk ≠ 4 by omega)
    have i5 := bne_t (show nk ≠ 5 by omega)
    have i6 := bne_t (show nk ≠ 6 by omega)
    have HK := Lib.hid hk
    clear hk
    go_wp2_with fail
    go_ret
    exact DoG.of HR.out (reply_6 H1.out H2.out HI.out HK.out) ⟨A, an, ac, none, 0, 0, [], rfl, bq, GvMem.none HFL.out HAL.out hOF1 hOA1, hB⟩
  have hrg := note_rng H2.out
  dsimp only at hrg
  have HK4 : Hid (4 ≤ nk) := Lib.hid (by omega)
  have key : (nk = 4 ∧ (nk != 4) = false) ∨ (nk = 6 ∧ (nk != 4) = true ∧ (nk != 5) = true ∧ (nk != 6) = false) ∨ (nk = 5 ∧ (nk != 4) = true ∧ (nk != 5) = false) := by
    rcases hrg with h | h | h | h | h | h
    · omega
    · omega
    · omega
    · exact .inl ⟨h, bne_f h⟩
    · exact .inr (.inr ⟨h, bne_t (by omega), bne_f h⟩)
    · exact .inr (.inl ⟨h, bne_t (by omega), bne_t (by omega), bne_f h⟩)
  clear hk hrg
  have p5 := bq.cell' (i := 5) rfl
  by_cases hs4 : stage = 4
  ·
    have j4 := beq_t hs4
    have HS := Lib.hid hs4
    clear hs4
    rcases key with ⟨-, k4⟩ | ⟨-, k4, k5, k6⟩ | ⟨-, k4, k5⟩
    all_goals
      go_wp2_with fail
      go_ret
      exact DoG.of HR.out (reply_f H1.out H2.out HI.out (Int.not_lt.2 HK4.out) HS.out) ⟨A, an, ac, none, 0, 0, [], rfl, bq, GvMem.none HFL.out HAL.out hOF1 hOA1, hB⟩
  have j4 := beq_f hs4
  have HS := Lib.hid hs4
  clear hs4
  by_cases hk5 : nk = 5
  ·
    have i4 := bne_t (show nk ≠ 4 by omega)
    have i5 := bne_f hk5
    have e5 := beq_t hk5
    have HK5 := Lib.hid hk5
    clear hk5 key
    have n9 := bn.cell' (i := 9) rfl
    have CE := Lib.hid (ended_any ⟨id, name, file, most, burst, stage, first, at_, again, timer, patience, tries, limit⟩ ncode F fn fc A an ac none 0 0 [] base q V1 bq HFL.out HAL.out hOA1 (Own.none_ _ _ _ _) (by omega) (by omega))
    go_wp2_with fail
    refine CE.out.mono ?_
    rintro e w2 ⟨A2, an2, a2, O2, oc2, rfl, bq2, hal2, hOA2, hOO2, hT⟩
    have hOF2 := hOF1.turned hT (fun i hi hS => by
      rcases hS with h | h
      · exact (hOF1.notBlk bq (by decide)) (by rw [hi, h])
      · cases h)
    have hB2 := hB.trans (hT.below (N := base) (fun i hS => by
      rcases hS with h | h
      · omega
      · cases h) (by omega))
    have HAL2 := Lib.hid hal2
    clear CE hT hOF1 bq hB hal2
    go_wp2_with fail
    go_ret
    exact DoG.of HR.out (reply_d H1.out H2.out HI.out (Int.not_lt.2 HK4.out) HS.out HK5.out) ⟨A2, an2, a2, O2, 1, oc2, [⟨seenDone id, none, 0, none, 0⟩], rfl, bq2, gv_seen2 (by rw [endG_file]; exact HFL.out) HAL2.out (by rw [endG_file]; exact hOF2) hOA2 hOO2, hB2⟩
  have e5 := beq_f hk5
  have HK5 := Lib.hid hk5
  clear hk5
  have key2 : (nk != 4) = false ∨ ((nk != 4) = true ∧ (nk != 5) = true ∧ (nk != 6) = false) := by
    rcases key with ⟨_, h⟩ | ⟨_, h1, h2, h3⟩ | ⟨h, _⟩
    · exact .inl h
    · exact .inr ⟨h1, h2, h3⟩
    · exact absurd h HK5.out
  clear key
  by_cases hs3 : stage = 3
  ·
    have j3 := beq_t hs3
    have HS3 := Lib.hid hs3
    clear hs3
    rcases key2 with k4 | ⟨k4, k5, k6⟩
    all_goals
      go_wp2_with fail
      go_ret
      exact DoG.of HR.out (reply_o H1.out H2.out HI.out (Int.not_lt.2 HK4.out) HS.out HK5.out HS3.out) ⟨A, an, ac, none, 0, 0, [], rfl, bq, GvMem.none HFL.out HAL.out hOF1 hOA1, hB⟩
  have j3 := beq_f hs3
  have HS3 := Lib.hid hs3
  clear hs3
  have HPP := Lib.hid (reply_h H1.out H2.out HI.out (Int.not_lt.2 HK4.out) HS.out HK5.out HS3.out)
  have HGZ2 := Lib.hid (HGZ.out H2.out)
  clear HGZ HS HK5 HS3 H2 HI HK4
  have n8 := bn.cell' (i := 8) rfl
  have n7 := bn.cell' (i := 7) rfl
  have nqb : ¬ (nb = q) := by omega
  have nbq : ¬ (q = nb) := by omega
  have kf := bq.frozen
  have y9 := bq.cell' (i := 9) rfl
  have b9 := bq.set_ 9 (.int .i64 0)
  have kf9 := b9.frozen
  have y11 := b9.cell' (i := 11) rfl
  have b11 := b9.set_ 11 (.int .i64 0)
  have xG : blk G ≠ some q := fun e => by have := HGB.out q e; omega
  have xF := hOF1.notBlk bq (by decide)
  have xA := hOA1.notBlk bq (by decide)
  rcases key2 with k4 | ⟨k4, k5, k6⟩
  all_goals
    go_upto_region 15 with fail
    replace bn := (bn.far (p := ⟨q, 9, none⟩) nqb (.int .i64 0)).far (p := ⟨q, 11, none⟩) nqb (.int .i64 0)
    replace hOF1 := (hOF1.setFar (p := ⟨q, 9, none⟩) xF (.int .i64 0)).setFar (p := ⟨q, 11, none⟩) xF (.int .i64 0)
    replace hOA1 := (hOA1.setFar (p := ⟨q, 9, none⟩) xA (.int .i64 0)).setFar (p := ⟨q, 11, none⟩) xA (.int .i64 0)
    replace hRG := (hRG.setCell (p := ⟨q, 9, none⟩) xG (.int .i64 0)).setCell (p := ⟨q, 11, none⟩) xG (.int .i64 0)
    replace hB := (hB.setCell (p := ⟨q, 9, none⟩) hqb (.int .i64 0)).setCell (p := ⟨q, 11, none⟩) hqb (.int .i64 0)
    have z2 : base ≤ ((V1.setCell ⟨q, 9, none⟩ (.int .i64 0)).setCell ⟨q, 11, none⟩ (.int .i64 0)).heap.size := by simp; omega
    clear kf y9 b9 kf9 y11 bq n0 n8 n7 p5 lq z1
    generalize (V1.setCell ⟨q, 9, none⟩ (.int .i64 0)).setCell ⟨q, 11, none⟩ (.int .i64 0) = V2 at *
    have n8 := bn.cell' (i := 8) rfl
    have n7 := bn.cell' (i := 7) rfl
    have p5 := b11.cell' (i := 5) rfl
    by_cases hst : nof = 3 ∧ stage = 1
    ·
      have HST := Lib.hid hst
      obtain ⟨h3, h1⟩ := hst
      have k3 := beq_t h3
      have l1 := beq_t h1
      clear h3 h1
      have kf := b11.frozen
      have ys := b11.cell' (i := 5) rfl
      have b5 := b11.set_ 5 (.int .i64 2)
      go_upto_region 17 with fail
      replace bn := bn.far (p := ⟨q, 5, none⟩) nqb (.int .i64 2)
      replace hOF1 := hOF1.setFar (p := ⟨q, 5, none⟩) xF (.int .i64 2)
      replace hOA1 := hOA1.setFar (p := ⟨q, 5, none⟩) xA (.int .i64 2)
      replace hRG := hRG.setCell (p := ⟨q, 5, none⟩) xG (.int .i64 2)
      replace hB := hB.setCell (p := ⟨q, 5, none⟩) hqb (.int .i64 2)
      replace z2 : base ≤ (V2.setCell ⟨q, 5, none⟩ (.int .i64 2)).heap.size := by simp; omega
      clear kf ys b11 n8 n7 p5
      generalize V2.setCell ⟨q, 5, none⟩ (.int .i64 2) = V3 at *
      have n7 := bn.cell' (i := 7) rfl
      have CA := Lib.hid (asked_any ⟨id, name, file, most, burst, 2, first, at_, again, 0, patience, 0, limit⟩ ng G gn gc F fn fc A an ac base q V3 b5 HFL.out HAL.out han hOA1 hRG HGL.out hgn HGB.out HGZ2.out hqb z2)
      go_wp2_with fail
      refine CA.out.mono ?_
      rintro e w2 ⟨A2, m, a2, rfl, bq2, hm, hOA2, hT⟩
      have hOF2 := hOF1.turned hT (fun i hi hS => by
        rcases hS with h | h
        · exact xF (by rw [hi, h])
        · exact (hOF1.apart hOA1 (by decide)) i hi h)
      have hB2 := hB.trans (hT.below (N := base) (fun i hS => by
        rcases hS with h | h
        · omega
        · exact (hOA1.lt i h).1) z2)
      have HM := Lib.hid hm
      clear CA hT hm
      go_wp2_with fail
      go_ret
      exact DoG.of HR.out (HPP.out.trans (by unfold heardG; dsimp only; rw [if_pos HST.out, HFL.out])) (y' := ⟨id, name, file, most, burst, 2, first, at_, askAll (fn : Int) again ng, 0, patience, 0, limit⟩) ⟨A2, m, a2, none, 0, 0, [], rfl, bq2, GvMem.none HFL.out HM.out hOF2 hOA2, hB2⟩
    ·
      have HST := Lib.hid hst
      have ways : (nof == 3) = false ∨ ((nof == 3) = true ∧ (stage == 1) = false) := by
        by_cases h3 : nof = 3
        · exact .inr ⟨beq_t h3, beq_f (fun h1 => hst ⟨h3, h1⟩)⟩
        · exact .inl (beq_f h3)
      clear hst
      rcases ways with k3 | ⟨k3, l1⟩
      all_goals
        have CA := Lib.hid (asked_any ⟨id, name, file, most, burst, stage, first, at_, again, 0, patience, 0, limit⟩ ng G gn gc F fn fc A an ac base q V2 b11 HFL.out HAL.out han hOA1 hRG HGL.out hgn HGB.out HGZ2.out hqb z2)
        go_wp2_with fail
        refine CA.out.mono ?_
        rintro e w2 ⟨A2, m, a2, rfl, bq2, hm, hOA2, hT⟩
        have hOF2 := hOF1.turned hT (fun i hi hS => by
          rcases hS with h | h
          · exact xF (by rw [hi, h])
          · exact (hOF1.apart hOA1 (by decide)) i hi h)
        have hB2 := hB.trans (hT.below (N := base) (fun i hS => by
          rcases hS with h | h
          · omega
          · exact (hOA1.lt i h).1) z2)
        have HM := Lib.hid hm
        clear CA hT hm
        go_wp2_with fail
        go_ret
        exact DoG.of HR.out (HPP.out.trans (by unfold heardG; dsimp only; rw [if_neg HST.out, HFL.out])) (y' := ⟨id, name, file, most, burst, stage, first, at_, askAll (fn : Int) again ng, 0, patience, 0, limit⟩) ⟨A2, m, a2, none, 0, 0, [], rfl, bq2, GvMem.none HFL.out HM.out hOF2 hOA2, hB2⟩
end Go.Proofs.Ytianombjgdmbeaa
