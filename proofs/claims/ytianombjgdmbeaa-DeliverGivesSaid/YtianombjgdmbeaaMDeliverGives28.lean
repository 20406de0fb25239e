/-
  giving: a func is done with a giver that may be. A file's sum, by the document: plainly, and FileSum walked.
-/
import Derived.Test.YtianombjgdmbeaaMDeliverGives24
import Derived.Test.YtianombjgdmbeaaMDeliverGives27
import Derived.Test.YtianombjgdmbeaaMDeliverGives25
import Derived.Test.YtianombjgdmbeaaMDeliverGives3
import Derived.Test.YtianombjgdmbeaaMDeliverGives6
import Derived.Laws.BitsLemmas
import Derived.RegionTactic
import Derived.Deep.DeepCutAuto
namespace Go.Proofs.Ytianombjgdmbeaa
set_option linter.unusedSimpArgs false
set_option linter.unusedVariables false
open Go.RowKit

set_option maxHeartbeats 12800000 in
set_option maxRecDepth 100000 in
theorem giving_Give (q0 : Value) (x : Gv) (F : Option Addr) (fn fc : Nat) (A : Option Addr) (an ac : Nat) (y : Gv) (ns : List Nt) (k : Int) (w : World) (hf : x.file.length = fn) (ha : x.again.length = an) (hF : Rd w F (bvs x.file)) (hA : Rd w A (gps x.again)) (hfn : fn ≤ 140737488351232) (han : an ≤ 8796093022200) (hya : y.again.length ≤ 8796093022200)
    (hz : gvOk x = false → y = gvZero ∧ ns = [] ∧ k = 11)
    (HC : ∀ (V : World) (q base : Nat) (F1 A1 : Option Addr) (f1 a1 : Nat), gvOk x = true → Below w.heap.size w V → Blk V q 94 (gw x F1 fn f1 A1 an a1 none 0 0) → Own V base 5 1 F1 fn f1 (bvs x.file) → Own V base 66 2 A1 an a1 (gps x.again) → w.heap.size ≤ base → base ≤ q → base ≤ V.heap.size →
      Calls Try.prog 70 #[.pointer (some ⟨q, 0, none⟩)] V fun e w' => DoG V w' base q F1 fn f1 y ns k e) :
    Calls Try.prog 62 #[gvv x F fn fc A an ac, .func (.func 70) #[] #[]] w fun e w' => GvRes w w' y ns k e := by
  have CM := Lib.hid (fun (V : World) (hB : Below w.heap.size w V) => gives_any x F fn fc A an ac V hf ha (hF.below hB) (hA.below hB) hfn han)
  have CF := Lib.hid (fun (V : World) (hB : Below w.heap.size w V) => clone_n F x.file fn fc V hf (hF.below hB) (by omega))
  have CA := Lib.hid (fun (V : World) (hB : Below w.heap.size w V) => cloneG A x.again an ac V ha (hA.below hB) han)
  obtain ⟨r1, hr1⟩ : ∃ r1, gvOk x = r1 := ⟨_, rfl⟩
  rw [hr1] at CM
  have H1 := Lib.hid hr1
  have HZ := Lib.hid hz
  have HCc := Lib.hid HC
  clear hr1 hz HC hf ha hF hA
  obtain ⟨id, name, file, most, burst, stage, first, at_, again, timer, patience, tries, limit⟩ := x
  unfold gvv gvc
  unfold gvv gvc at CM
  unfold gw at HCc
  dsimp only at CM CF CA HCc H1 HZ ⊢
  have bx := (Blk.new w 55 #[.int .i64 id, .string name, .slice F fn fc, .int .i64 most, .int .i64 burst, .int .i64 stage, .bool first, .int .i64 at_, .slice A an ac, .int .i64 timer, .int .i64 patience, .int .i64 tries, .int .i64 limit]).alloc (.cells #[.int .i64 0, .string ⟨#[]⟩, .slice none 0 0, .int .i64 0, .int .i64 0, .int .i64 0, .bool false, .int .i64 0, .slice none 0 0, .int .i64 0, .int .i64 0, .int .i64 0, .int .i64 0] 55)
  have br := Blk.new (w.alloc (.cells #[.int .i64 id, .string name, .slice F fn fc, .int .i64 most, .int .i64 burst, .int .i64 stage, .bool first, .int .i64 at_, .slice A an ac, .int .i64 timer, .int .i64 patience, .int .i64 tries, .int .i64 limit] 55)) 55 #[.int .i64 0, .string ⟨#[]⟩, .slice none 0 0, .int .i64 0, .int .i64 0, .int .i64 0, .bool false, .int .i64 0, .slice none 0 0, .int .i64 0, .int .i64 0, .int .i64 0, .int .i64 0]
  rw [show (w.alloc (.cells #[.int .i64 id, .string name, .slice F fn fc, .int .i64 most, .int .i64 burst, .int .i64 stage, .bool first, .int .i64 at_, .slice A an ac, .int .i64 timer, .int .i64 patience, .int .i64 tries, .int .i64 limit] 55)).heap.size = w.heap.size + 1 by simp] at br
  have hB : Below w.heap.size w ((w.alloc (.cells #[.int .i64 id, .string name, .slice F fn fc, .int .i64 most, .int .i64 burst, .int .i64 stage, .bool first, .int .i64 at_, .slice A an ac, .int .i64 timer, .int .i64 patience, .int .i64 tries, .int .i64 limit] 55)).alloc (.cells #[.int .i64 0, .string ⟨#[]⟩, .slice none 0 0, .int .i64 0, .int .i64 0, .int .i64 0, .bool false, .int .i64 0, .slice none 0 0, .int .i64 0, .int .i64 0, .int .i64 0, .int .i64 0] 55)) := ((Below.refl _ _).alloc (Nat.le_refl _) _).alloc (by simp) _
  go_enter Try.func62, Try.ntmps62
  go_upto_region 1 with fail
  generalize (w.alloc (.cells #[.int .i64 id, .string name, .slice F fn fc, .int .i64 most, .int .i64 burst, .int .i64 stage, .bool first, .int .i64 at_, .slice A an ac, .int .i64 timer, .int .i64 patience, .int .i64 tries, .int .i64 limit] 55)).alloc (.cells #[.int .i64 0, .string ⟨#[]⟩, .slice none 0 0, .int .i64 0, .int .i64 0, .int .i64 0, .bool false, .int .i64 0, .slice none 0 0, .int .i64 0, .int .i64 0, .int .i64 0, .int .i64 0] 55) = W at *
  go_wp2_with (refine wpList_load_row rfl 55 (.tmp 2) rfl w.heap.size rfl 55 #[.int .i64 id, .string name, .slice F fn fc, .int .i64 most, .int .i64 burst, .int .i64 stage, .bool first, .int .i64 at_, .slice A an ac, .int .i64 timer, .int .i64 patience, .int .i64 tries, .int .i64 limit] (0, 0) _ bx Try.underlying55 rfl giversz ?_)
  refine (CM.out _ hB).mono ?_
  rintro e w1 ⟨rfl, hb⟩
  replace bx := bx.step hb
  replace br := br.step hb
  replace hB := hB.trans (hb.mono hB.size)
  clear hb CM
  cases r1
  ·
    go_wp2_with (refine wpList_store_row rfl 55 (.tmp 4) (.tmp 12) rfl (w.heap.size + 1) #[.int .i64 0, .string ⟨#[]⟩, .slice none 0 0, .int .i64 0, .int .i64 0, .int .i64 0, .bool false, .int .i64 0, .slice none 0 0, .int .i64 0, .int .i64 0, .int .i64 0, .int .i64 0] rfl rfl 55 _ br giversz rfl (by simp [Value.oneCell']) ?_)
    have br2 := br.row #[.int .i64 0, .string ⟨#[]⟩, .slice none 0 0, .int .i64 0, .int .i64 0, .int .i64 0, .bool false, .int .i64 0, .slice none 0 0, .int .i64 0, .int .i64 0, .int .i64 0, .int .i64 0]
    refine bodyPost_ret (v := .tuple #[.agg #[.int .i64 0, .string ⟨#[]⟩, .slice none 0 0, .int .i64 0, .int .i64 0, .int .i64 0, .bool false, .int .i64 0, .slice none 0 0, .int .i64 0, .int .i64 0, .int .i64 0, .int .i64 0], .slice none 0 0, .int .i64 11]) (results_cell_two rfl _ _ (w.heap.size + 1) 55 _ (0, 0) _ rfl rfl rfl br2 Try.underlying55 rfl giversz) rfl ?_
    obtain ⟨e1, e2, e3⟩ := HZ.out H1.out
    rw [e1, e2, e3]
    exact gv_out (y := gvZero) (base := w.heap.size + 2) hB (by omega) (by omega) (GvMem.none rfl rfl (Own.none_ _ _ _ _) (Own.none_ _ _ _ _))
  go_upto_region 4 with (refine wpList_load_row rfl 55 (.tmp 2) rfl w.heap.size rfl 55 #[.int .i64 id, .string name, .slice F fn fc, .int .i64 most, .int .i64 burst, .int .i64 stage, .bool first, .int .i64 at_, .slice A an ac, .int .i64 timer, .int .i64 patience, .int .i64 tries, .int .i64 limit] (0, 0) _ bx Try.underlying55 rfl giversz ?_)
  have zr := br.lt
  have bq := Blk.new w1 94 #[.int .i64 id, .string name, .slice F fn fc, .int .i64 most, .int .i64 burst, .int .i64 stage, .bool first, .int .i64 at_, .slice A an ac, .int .i64 timer, .int .i64 patience, .int .i64 tries, .int .i64 limit, .slice none 0 0]
  replace br := br.alloc (.cells #[.int .i64 id, .string name, .slice F fn fc, .int .i64 most, .int .i64 burst, .int .i64 stage, .bool first, .int .i64 at_, .slice A an ac, .int .i64 timer, .int .i64 patience, .int .i64 tries, .int .i64 limit, .slice none 0 0] 94)
  replace hB := hB.alloc hB.size (.cells #[.int .i64 id, .string name, .slice F fn fc, .int .i64 most, .int .i64 burst, .int .i64 stage, .bool first, .int .i64 at_, .slice A an ac, .int .i64 timer, .int .i64 patience, .int .i64 tries, .int .i64 limit, .slice none 0 0] 94)
  clear bx
  have s8 := bq.cell' (i := 8) rfl
  refine heldRegion (fun v => v.cell? ⟨w1.heap.size, 8, none⟩ = some (.slice A an ac)) 18 (by kernel_rfl) (by kernel_rfl) s8 (fun hSS => ?_)
  clear s8 hSS
  replace bq := bq.drew
  replace br := br.drew
  replace hB := hB.drew
  generalize (w1.alloc (.cells #[.int .i64 id, .string name, .slice F fn fc, .int .i64 most, .int .i64 burst, .int .i64 stage, .bool first, .int .i64 at_, .slice A an ac, .int .i64 timer, .int .i64 patience, .int .i64 tries, .int .i64 limit, .slice none 0 0] 94)).drew = V at *
  have hS8 : V.cell? ⟨w1.heap.size, 8, none⟩ = some (.slice A an ac) := bq.cell' (i := 8) rfl
  refine walk_take 0 (v := ?va0) rfl (by kernel_rfl) (by kernel_rfl) (by kernel_rfl) (fun _ _ _ h => h) (hS8) (Or.inl ⟨by rfl, ?ya0⟩) ?ra0
  case ya0 => intro w hSw; (try dsimp only at hSw); go_simp; try rfl
  case' ra0 => try simp only [List.getElem_toArray, List.getElem_cons_succ, List.getElem_cons_zero, Act.put, List.setIfInBounds_toArray, List.set_cons_zero, List.set_cons_succ]
  refine walk_take 1 (v := ?va1) rfl (by kernel_rfl) (by kernel_rfl) (by kernel_rfl) (fun _ _ _ h => h) (hS8) (Or.inl ⟨by rfl, ?ya1⟩) ?ra1
  case ya1 => intro w hSw; (try dsimp only at hSw); go_simp; try rfl
  case' ra1 => try simp only [List.getElem_toArray, List.getElem_cons_succ, List.getElem_cons_zero, Act.put, List.setIfInBounds_toArray, List.set_cons_zero, List.set_cons_succ]
  refine walk_take 2 (v := ?va2) rfl (by kernel_rfl) (by kernel_rfl) (by kernel_rfl) (fun _ _ _ h => h) (hS8) (Or.inl ⟨by rfl, ?ya2⟩) ?ra2
  case ya2 => intro w hSw; (try dsimp only at hSw); go_simp; try rfl
  case' ra2 => try simp only [List.getElem_toArray, List.getElem_cons_succ, List.getElem_cons_zero, Act.put, List.setIfInBounds_toArray, List.set_cons_zero, List.set_cons_succ]
  refine walk_take 3 (v := ?va3) rfl (by kernel_rfl) (by kernel_rfl) (by kernel_rfl) (fun _ _ _ h => h) (hS8) (Or.inl ⟨by rfl, ?ya3⟩) ?ra3
  case ya3 => intro w hSw; (try dsimp only at hSw); go_simp; try rfl
  case' ra3 => try simp only [List.getElem_toArray, List.getElem_cons_succ, List.getElem_cons_zero, Act.put, List.setIfInBounds_toArray, List.set_cons_zero, List.set_cons_succ]
  refine walk_take 4 (v := ?va4) rfl (by kernel_rfl) (by kernel_rfl) (by kernel_rfl) (fun _ _ _ h => h) (hS8) (Or.inl ⟨by rfl, ?ya4⟩) ?ra4
  case ya4 => intro w hSw; (try dsimp only at hSw); go_simp; try rfl
  case' ra4 => try simp only [List.getElem_toArray, List.getElem_cons_succ, List.getElem_cons_zero, Act.put, List.setIfInBounds_toArray, List.set_cons_zero, List.set_cons_succ]
  refine walk_take 5 (v := ?va5) rfl (by kernel_rfl) (by kernel_rfl) (by kernel_rfl) (fun _ _ _ h => h) (hS8) (Or.inl ⟨by rfl, ?ya5⟩) ?ra5
  case ya5 => intro w hSw; (try dsimp only at hSw); go_simp; try rfl
  case' ra5 => try simp only [List.getElem_toArray, List.getElem_cons_succ, List.getElem_cons_zero, Act.put, List.setIfInBounds_toArray, List.set_cons_zero, List.set_cons_succ]
  refine walk_take 8 (v := ?va8) rfl (by kernel_rfl) (by kernel_rfl) (by kernel_rfl) (fun _ _ _ h => h) (hS8) (Or.inl ⟨by rfl, ?ya8⟩) ?ra8
  case ya8 => intro w hSw; (try dsimp only at hSw); go_simp; try rfl
  case' ra8 => try simp only [List.getElem_toArray, List.getElem_cons_succ, List.getElem_cons_zero, Act.put, List.setIfInBounds_toArray, List.set_cons_zero, List.set_cons_succ]
  refine walk_take 9 (v := ?va9) rfl (by kernel_rfl) (by kernel_rfl) (by kernel_rfl) (fun _ _ _ h => h) (hS8) (Or.inl ⟨by rfl, ?ya9⟩) ?ra9
  case ya9 => intro w hSw; (try dsimp only at hSw); go_simp; try rfl
  case' ra9 => try simp only [List.getElem_toArray, List.getElem_cons_succ, List.getElem_cons_zero, Act.put, List.setIfInBounds_toArray, List.set_cons_zero, List.set_cons_succ]
  refine walk_take 10 (v := ?va10) rfl (by kernel_rfl) (by kernel_rfl) (by kernel_rfl) (fun _ _ _ h => h) (hS8) (Or.inl ⟨by rfl, ?ya10⟩) ?ra10
  case ya10 => intro w hSw; (try dsimp only at hSw); go_simp; try rfl
  case' ra10 => try simp only [List.getElem_toArray, List.getElem_cons_succ, List.getElem_cons_zero, Act.put, List.setIfInBounds_toArray, List.set_cons_zero, List.set_cons_succ]
  refine walk_take 11 (v := ?va11) rfl (by kernel_rfl) (by kernel_rfl) (by kernel_rfl) (fun _ _ _ h => h) (hS8) (Or.inl ⟨by rfl, ?ya11⟩) ?ra11
  case ya11 => intro w hSw; (try dsimp only at hSw); go_simp; try rfl
  case' ra11 => try simp only [List.getElem_toArray, List.getElem_cons_succ, List.getElem_cons_zero, Act.put, List.setIfInBounds_toArray, List.set_cons_zero, List.set_cons_succ]
  refine walk_take 12 (v := ?va12) rfl (by kernel_rfl) (by kernel_rfl) (by kernel_rfl) (fun _ _ _ h => h) (hS8) (Or.inl ⟨by rfl, ?ya12⟩) ?ra12
  case ya12 => intro w hSw; (try dsimp only at hSw); go_simp; try rfl
  case' ra12 => try simp only [List.getElem_toArray, List.getElem_cons_succ, List.getElem_cons_zero, Act.put, List.setIfInBounds_toArray, List.set_cons_zero, List.set_cons_succ]
  refine walk_step 6 rfl (by kernel_rfl) (by kernel_rfl) (fun K hK => ?c6)
  case c6 =>
    have y2 := bq.cell' (i := 2) rfl
    go_simp
    refine hK _ _ hS8 ?_
    clear hK K y2
    try simp only [List.getElem_toArray, List.getElem_cons_succ, List.getElem_cons_zero, Act.put, List.setIfInBounds_toArray, List.set_cons_zero, List.set_cons_succ]
    refine walk_step 7 rfl (by kernel_rfl) (by kernel_rfl) (fun K hK => ?c7)
    case c7 =>
      go_simp
      refine (CF.out _ hB).mono ?_
      rintro e v2 ⟨F1, f1, rfl, hOF, hb⟩
      have lq := bq.lt
      have zv := hb.size
      replace bq := bq.step hb
      replace br := br.step hb
      replace hB := hB.trans (hb.mono hB.size)
      replace hOF := hOF.mono (base' := w.heap.size + 2) (by omega)
      replace hS8 := bq.cell' (i := 8) rfl
      refine hK _ _ hS8 ?_
      clear hK K hb CF
      try simp only [List.getElem_toArray, List.getElem_cons_succ, List.getElem_cons_zero, Act.put, List.setIfInBounds_toArray, List.set_cons_zero, List.set_cons_succ]
      refine walk_step 13 rfl (by kernel_rfl) (by kernel_rfl) (fun K hK => ?c13)
      case c13 =>
        go_simp
        refine (CA.out _ hB).mono ?_
        rintro e v3 ⟨A1, a1, rfl, hOA, hb⟩
        have zv3 := hb.size
        replace bq := bq.step hb
        replace br := br.step hb
        replace hB := hB.trans (hb.mono hB.size)
        replace hOF := hOF.step hb
        replace hOA := hOA.mono (base' := w.heap.size + 2) (by omega)
        replace hS8 := bq.cell' (i := 8) rfl
        refine hK _ _ hS8 ?_
        clear hK K hb CA
        try simp only [List.getElem_toArray, List.getElem_cons_succ, List.getElem_cons_zero, Act.put, List.setIfInBounds_toArray, List.set_cons_zero, List.set_cons_succ]
        refine walk_take 14 (v := ?vc14) rfl (by kernel_rfl) (by kernel_rfl) (by kernel_rfl) (fun _ _ _ h => h) (hS8) (Or.inl ⟨by rfl, ?yc14⟩) ?rc14
        case yc14 => intro w hSw; (try dsimp only at hSw); go_simp; try rfl
        case' rc14 => try simp only [List.getElem_toArray, List.getElem_cons_succ, List.getElem_cons_zero, Act.put, List.setIfInBounds_toArray, List.set_cons_zero, List.set_cons_succ]
        refine walk_take 15 (v := ?vc15) rfl (by kernel_rfl) (by kernel_rfl) (by kernel_rfl) (fun _ _ _ h => h) (hS8) (Or.inl ⟨by rfl, ?yc15⟩) ?rc15
        case yc15 => intro w hSw; (try dsimp only at hSw); go_simp; try rfl
        case' rc15 => try simp only [List.getElem_toArray, List.getElem_cons_succ, List.getElem_cons_zero, Act.put, List.setIfInBounds_toArray, List.set_cons_zero, List.set_cons_succ]
        refine walk_take 16 (v := ?vc16) rfl (by kernel_rfl) (by kernel_rfl) (by kernel_rfl) (fun _ _ _ h => h) (hS8) (Or.inl ⟨by rfl, ?yc16⟩) ?rc16
        case yc16 => intro w hSw; (try dsimp only at hSw); go_simp; try rfl
        case' rc16 => try simp only [List.getElem_toArray, List.getElem_cons_succ, List.getElem_cons_zero, Act.put, List.setIfInBounds_toArray, List.set_cons_zero, List.set_cons_succ]
        have kf := bq.frozen
        have y2 := bq.cell' (i := 2) rfl
        have b2 := bq.set_ 2 (.slice F1 fn f1)
        have kf2 := b2.frozen
        have y8 := b2.cell' (i := 8) rfl
        have b8 := b2.set_ 8 (.slice A1 an a1)
        have xF := hOF.notBlk bq (by decide)
        have xA := hOA.notBlk bq (by decide)
        refine walk_step 17 rfl (by kernel_rfl) (by kernel_rfl) (fun K hK => ?c17)
        case c17 =>
          go_simp
          refine hK _ _ y8 ?_
          clear hK K
          try simp only [List.getElem_toArray, List.getElem_cons_succ, List.getElem_cons_zero, Act.put, List.setIfInBounds_toArray, List.set_cons_zero, List.set_cons_succ]
          refine walk_tail (by kernel_rfl) ?_
          simp only [List.drop_succ_cons, List.drop_zero]
          go_upto_region 5 with fail
          clear kf y2 kf2 y8 b2
          have lq3 : w1.heap.size < v3.heap.size := bq.lt
          replace hOF := (hOF.setFar (p := ⟨w1.heap.size, 2, none⟩) xF (.slice F1 fn f1)).setFar (p := ⟨w1.heap.size, 8, none⟩) xF (.slice A1 an a1)
          replace hOA := (hOA.setFar (p := ⟨w1.heap.size, 2, none⟩) xA (.slice F1 fn f1)).setFar (p := ⟨w1.heap.size, 8, none⟩) xA (.slice A1 an a1)
          replace br := (br.far (p := ⟨w1.heap.size, 2, none⟩) (by show w.heap.size + 1 ≠ w1.heap.size; omega) (.slice F1 fn f1)).far (p := ⟨w1.heap.size, 8, none⟩) (by show w.heap.size + 1 ≠ w1.heap.size; omega) (.slice A1 an a1)
          replace hB := (hB.setCell (p := ⟨w1.heap.size, 2, none⟩) (by show w.heap.size ≤ w1.heap.size; omega) (.slice F1 fn f1)).setCell (p := ⟨w1.heap.size, 8, none⟩) (by show w.heap.size ≤ w1.heap.size; omega) (.slice A1 an a1)
          have lq4 : w1.heap.size < ((v3.setCell ⟨w1.heap.size, 2, none⟩ (.slice F1 fn f1)).setCell ⟨w1.heap.size, 8, none⟩ (.slice A1 an a1)).heap.size := by simpa using lq3
          clear bq xF xA
          generalize (v3.setCell ⟨w1.heap.size, 2, none⟩ (.slice F1 fn f1)).setCell ⟨w1.heap.size, 8, none⟩ (.slice A1 an a1) = V4 at *
          have HC4 := Lib.hid (HCc.out V4 w1.heap.size (w.heap.size + 2) F1 A1 f1 a1 H1.out hB b8 hOF hOA (by omega) (by omega) (by omega))
          clear HCc hOF hOA b8
          go_wp2_with fail
          refine HC4.out.mono ?_
          intro e w5 h5
          obtain ⟨A2, an2, a2, O, on, oc, l, rfl, bq, hM, hb⟩ := h5
          replace br := br.below hb (by omega)
          replace hB := hB.trans (hb.mono (by omega))
          have lq5 := bq.lt
          obtain ⟨m1, m2, m3, m4, m5, m6, m7, m8, m9⟩ := hM
          have han2 : an2 ≤ 8796093022200 := by omega
          have CG := Lib.hid (cloneG A2 y.again an2 a2 w5 m2 m6.rd han2)
          obtain ⟨HM1, HM2, HM3, HM4⟩ : Hid (y.file.length = fn) ∧ Hid (y.again.length = an2) ∧ Hid (ns.length = on) ∧ Hid (l.map NtR.n = ns) := ⟨Lib.hid m1, Lib.hid m2, Lib.hid m3, Lib.hid m4⟩
          have hlo := Lib.hid (fun (i : Nat) (x : NtR) (hx : l[i]? = some x) (q : Nat) (hq : blk x.G = some q) => (m8.ltG hx hq).2)
          clear hb HC4 m1 m2 m3 m4 hya m6
          unfold gw at bq
          obtain ⟨yid, yname, yfile, ymost, yburst, ystage, yfirst, yat_, yagain, ytimer, ypatience, ytries, ylimit⟩ := y
          dsimp only at bq CG HM1 HM2 m5
          have y8 := bq.cell' (i := 8) rfl
          go_wp2_with fail
          refine CG.out.mono ?_
          rintro e w6 ⟨A3, a3, rfl, hOA, hb⟩
          have z6 := hb.size
          replace bq := bq.step hb
          replace br := br.step hb
          replace hB := hB.trans (hb.mono hB.size)
          replace m5 := m5.step hb
          replace m7 := m7.step hb
          replace m8 := m8.step hb
          have hfar : Far l F1 A3 := fun i x hx => ⟨(m9 i x hx).1, fun q hq hq2 => by have h1 := (hOA.lt q hq).1; have h2 := hlo.out i x hx q hq2; omega⟩
          replace hOA := hOA.mono (base' := w.heap.size + 2) (by omega)
          clear hb CG y8 hlo m9
          have kf := bq.frozen
          have y8 := bq.cell' (i := 8) rfl
          go_upto_region 7 with fail
          clear kf y8
          have x5 := m5.notBlk bq (by decide)
          have x7 := m7.notBlk bq (by decide)
          have xA := hOA.notBlk bq (by decide)
          replace m8 : OwnParts (w6.setCell ⟨w1.heap.size, 8, none⟩ (.slice A3 an2 a3)) (w.heap.size + 2) l := m8.map (fun e s A n c xs h he => h.setFar (p := ⟨w1.heap.size, 8, none⟩) (h.notBlk bq (by rcases he with rfl | rfl <;> decide)) _)
          replace m5 := m5.setFar (p := ⟨w1.heap.size, 8, none⟩) x5 (.slice A3 an2 a3)
          replace m7 := m7.setFar (p := ⟨w1.heap.size, 8, none⟩) x7 (.slice A3 an2 a3)
          replace hOA := hOA.setFar (p := ⟨w1.heap.size, 8, none⟩) xA (.slice A3 an2 a3)
          replace br := br.far (p := ⟨w1.heap.size, 8, none⟩) (by show w.heap.size + 1 ≠ w1.heap.size; omega) (.slice A3 an2 a3)
          replace hB := hB.setCell (p := ⟨w1.heap.size, 8, none⟩) (by show w.heap.size ≤ w1.heap.size; omega) (.slice A3 an2 a3)
          replace bq := bq.set_ 8 (.slice A3 an2 a3)
          generalize w6.setCell ⟨w1.heap.size, 8, none⟩ (.slice A3 an2 a3) = V7 at *
          refine heldRegion (fun v => Blk v w1.heap.size 94 #[.int .i64 yid, .string yname, .slice F1 fn f1, .int .i64 ymost, .int .i64 yburst, .int .i64 ystage, .bool yfirst, .int .i64 yat_, .slice A3 an2 a3, .int .i64 ytimer, .int .i64 ypatience, .int .i64 ytries, .int .i64 ylimit, .slice O on oc]) 11 (by kernel_rfl) (by kernel_rfl) bq.drew (fun hSS => ?_)
          replace bq := bq.drew
          replace br := br.drew
          replace hB := hB.drew
          replace m5 := m5.drew
          replace m7 := m7.drew
          replace m8 : OwnParts V7.drew (w.heap.size + 2) l := m8.map (fun e s A n c xs h he => h.drew)
          replace hOA := hOA.drew
          clear hSS
          generalize V7.drew = V8 at *
          refine walk_take 0 (v := ?vb0) rfl (by kernel_rfl) (by kernel_rfl) (by kernel_rfl) (fun _ _ _ h => h) (bq) (Or.inl ⟨by rfl, ?yb0⟩) ?rb0
          case yb0 => intro w hSw; obtain hw := _root_.id hSw; have e0 := hw.cell' (i := 0) rfl; have e1 := hw.cell' (i := 1) rfl; have e2 := hw.cell' (i := 2) rfl; have e3 := hw.cell' (i := 3) rfl; have e4 := hw.cell' (i := 4) rfl; have e5 := hw.cell' (i := 5) rfl; have e6 := hw.cell' (i := 6) rfl; have e7 := hw.cell' (i := 7) rfl; have e8 := hw.cell' (i := 8) rfl; have e9 := hw.cell' (i := 9) rfl; have e10 := hw.cell' (i := 10) rfl; have e11 := hw.cell' (i := 11) rfl; have e12 := hw.cell' (i := 12) rfl; have e13 := hw.cell' (i := 13) rfl; have hSx := hSw; (try dsimp only at hSw); go_simp; try rfl
          case' rb0 => try simp only [List.getElem_toArray, List.getElem_cons_succ, List.getElem_cons_zero, Act.put, List.setIfInBounds_toArray, List.set_cons_zero, List.set_cons_succ]
          refine walk_take 1 (v := ?vb1) rfl (by kernel_rfl) (by kernel_rfl) (by kernel_rfl) (fun _ _ _ h => h) (bq) (Or.inl ⟨by rfl, ?yb1⟩) ?rb1
          case yb1 => intro w hSw; obtain hw := _root_.id hSw; have e0 := hw.cell' (i := 0) rfl; have e1 := hw.cell' (i := 1) rfl; have e2 := hw.cell' (i := 2) rfl; have e3 := hw.cell' (i := 3) rfl; have e4 := hw.cell' (i := 4) rfl; have e5 := hw.cell' (i := 5) rfl; have e6 := hw.cell' (i := 6) rfl; have e7 := hw.cell' (i := 7) rfl; have e8 := hw.cell' (i := 8) rfl; have e9 := hw.cell' (i := 9) rfl; have e10 := hw.cell' (i := 10) rfl; have e11 := hw.cell' (i := 11) rfl; have e12 := hw.cell' (i := 12) rfl; have e13 := hw.cell' (i := 13) rfl; have hSx := hSw; (try dsimp only at hSw); go_simp; try rfl
          case' rb1 => try simp only [List.getElem_toArray, List.getElem_cons_succ, List.getElem_cons_zero, Act.put, List.setIfInBounds_toArray, List.set_cons_zero, List.set_cons_succ]
          refine walk_take 2 (v := ?vb2) rfl (by kernel_rfl) (by kernel_rfl) (by kernel_rfl) (fun _ _ _ h => h) (bq) (Or.inl ⟨by rfl, ?yb2⟩) ?rb2
          case yb2 => intro w hSw; obtain hw := _root_.id hSw; have e0 := hw.cell' (i := 0) rfl; have e1 := hw.cell' (i := 1) rfl; have e2 := hw.cell' (i := 2) rfl; have e3 := hw.cell' (i := 3) rfl; have e4 := hw.cell' (i := 4) rfl; have e5 := hw.cell' (i := 5) rfl; have e6 := hw.cell' (i := 6) rfl; have e7 := hw.cell' (i := 7) rfl; have e8 := hw.cell' (i := 8) rfl; have e9 := hw.cell' (i := 9) rfl; have e10 := hw.cell' (i := 10) rfl; have e11 := hw.cell' (i := 11) rfl; have e12 := hw.cell' (i := 12) rfl; have e13 := hw.cell' (i := 13) rfl; have hSx := hSw; (try dsimp only at hSw); go_simp; try rfl
          case' rb2 => try simp only [List.getElem_toArray, List.getElem_cons_succ, List.getElem_cons_zero, Act.put, List.setIfInBounds_toArray, List.set_cons_zero, List.set_cons_succ]
          refine walk_take 3 (v := ?vb3) rfl (by kernel_rfl) (by kernel_rfl) (by kernel_rfl) (fun _ _ _ h => h) (bq) (Or.inl ⟨by rfl, ?yb3⟩) ?rb3
          case yb3 => intro w hSw; obtain hw := _root_.id hSw; have e0 := hw.cell' (i := 0) rfl; have e1 := hw.cell' (i := 1) rfl; have e2 := hw.cell' (i := 2) rfl; have e3 := hw.cell' (i := 3) rfl; have e4 := hw.cell' (i := 4) rfl; have e5 := hw.cell' (i := 5) rfl; have e6 := hw.cell' (i := 6) rfl; have e7 := hw.cell' (i := 7) rfl; have e8 := hw.cell' (i := 8) rfl; have e9 := hw.cell' (i := 9) rfl; have e10 := hw.cell' (i := 10) rfl; have e11 := hw.cell' (i := 11) rfl; have e12 := hw.cell' (i := 12) rfl; have e13 := hw.cell' (i := 13) rfl; have hSx := hSw; (try dsimp only at hSw); go_simp; try rfl
          case' rb3 => try simp only [List.getElem_toArray, List.getElem_cons_succ, List.getElem_cons_zero, Act.put, List.setIfInBounds_toArray, List.set_cons_zero, List.set_cons_succ]
          refine walk_take 4 (v := ?vb4) rfl (by kernel_rfl) (by kernel_rfl) (by kernel_rfl) (fun _ _ _ h => h) (bq) (Or.inl ⟨by rfl, ?yb4⟩) ?rb4
          case yb4 => intro w hSw; obtain hw := _root_.id hSw; have e0 := hw.cell' (i := 0) rfl; have e1 := hw.cell' (i := 1) rfl; have e2 := hw.cell' (i := 2) rfl; have e3 := hw.cell' (i := 3) rfl; have e4 := hw.cell' (i := 4) rfl; have e5 := hw.cell' (i := 5) rfl; have e6 := hw.cell' (i := 6) rfl; have e7 := hw.cell' (i := 7) rfl; have e8 := hw.cell' (i := 8) rfl; have e9 := hw.cell' (i := 9) rfl; have e10 := hw.cell' (i := 10) rfl; have e11 := hw.cell' (i := 11) rfl; have e12 := hw.cell' (i := 12) rfl; have e13 := hw.cell' (i := 13) rfl; have hSx := hSw; (try dsimp only at hSw); go_simp; try rfl
          case' rb4 => try simp only [List.getElem_toArray, List.getElem_cons_succ, List.getElem_cons_zero, Act.put, List.setIfInBounds_toArray, List.set_cons_zero, List.set_cons_succ]
          refine walk_take 5 (v := ?vb5) rfl (by kernel_rfl) (by kernel_rfl) (by kernel_rfl) (fun _ _ _ h => h) (bq) (Or.inl ⟨by rfl, ?yb5⟩) ?rb5
          case yb5 => intro w hSw; obtain hw := _root_.id hSw; have e0 := hw.cell' (i := 0) rfl; have e1 := hw.cell' (i := 1) rfl; have e2 := hw.cell' (i := 2) rfl; have e3 := hw.cell' (i := 3) rfl; have e4 := hw.cell' (i := 4) rfl; have e5 := hw.cell' (i := 5) rfl; have e6 := hw.cell' (i := 6) rfl; have e7 := hw.cell' (i := 7) rfl; have e8 := hw.cell' (i := 8) rfl; have e9 := hw.cell' (i := 9) rfl; have e10 := hw.cell' (i := 10) rfl; have e11 := hw.cell' (i := 11) rfl; have e12 := hw.cell' (i := 12) rfl; have e13 := hw.cell' (i := 13) rfl; have hSx := hSw; (try dsimp only at hSw); go_simp; try rfl
          case' rb5 => try simp only [List.getElem_toArray, List.getElem_cons_succ, List.getElem_cons_zero, Act.put, List.setIfInBounds_toArray, List.set_cons_zero, List.set_cons_succ]
          refine walk_take 6 (v := ?vb6) rfl (by kernel_rfl) (by kernel_rfl) (by kernel_rfl) (fun _ _ _ h => h) (bq) (Or.inl ⟨by rfl, ?yb6⟩) ?rb6
          case yb6 => intro w hSw; obtain hw := _root_.id hSw; have e0 := hw.cell' (i := 0) rfl; have e1 := hw.cell' (i := 1) rfl; have e2 := hw.cell' (i := 2) rfl; have e3 := hw.cell' (i := 3) rfl; have e4 := hw.cell' (i := 4) rfl; have e5 := hw.cell' (i := 5) rfl; have e6 := hw.cell' (i := 6) rfl; have e7 := hw.cell' (i := 7) rfl; have e8 := hw.cell' (i := 8) rfl; have e9 := hw.cell' (i := 9) rfl; have e10 := hw.cell' (i := 10) rfl; have e11 := hw.cell' (i := 11) rfl; have e12 := hw.cell' (i := 12) rfl; have e13 := hw.cell' (i := 13) rfl; have hSx := hSw; (try dsimp only at hSw); go_simp; try rfl
          case' rb6 => try simp only [List.getElem_toArray, List.getElem_cons_succ, List.getElem_cons_zero, Act.put, List.setIfInBounds_toArray, List.set_cons_zero, List.set_cons_succ]
          refine walk_take 7 (v := ?vb7) rfl (by kernel_rfl) (by kernel_rfl) (by kernel_rfl) (fun _ _ _ h => h) (bq) (Or.inl ⟨by rfl, ?yb7⟩) ?rb7
          case yb7 => intro w hSw; obtain hw := _root_.id hSw; have e0 := hw.cell' (i := 0) rfl; have e1 := hw.cell' (i := 1) rfl; have e2 := hw.cell' (i := 2) rfl; have e3 := hw.cell' (i := 3) rfl; have e4 := hw.cell' (i := 4) rfl; have e5 := hw.cell' (i := 5) rfl; have e6 := hw.cell' (i := 6) rfl; have e7 := hw.cell' (i := 7) rfl; have e8 := hw.cell' (i := 8) rfl; have e9 := hw.cell' (i := 9) rfl; have e10 := hw.cell' (i := 10) rfl; have e11 := hw.cell' (i := 11) rfl; have e12 := hw.cell' (i := 12) rfl; have e13 := hw.cell' (i := 13) rfl; have hSx := hSw; (try dsimp only at hSw); go_simp; try rfl
          case' rb7 => try simp only [List.getElem_toArray, List.getElem_cons_succ, List.getElem_cons_zero, Act.put, List.setIfInBounds_toArray, List.set_cons_zero, List.set_cons_succ]
          refine walk_take 8 (v := ?vb8) rfl (by kernel_rfl) (by kernel_rfl) (by kernel_rfl) (fun _ _ _ h => h) (bq) (Or.inl ⟨by rfl, ?yb8⟩) ?rb8
          case yb8 => intro w hSw; obtain hw := _root_.id hSw; have e0 := hw.cell' (i := 0) rfl; have e1 := hw.cell' (i := 1) rfl; have e2 := hw.cell' (i := 2) rfl; have e3 := hw.cell' (i := 3) rfl; have e4 := hw.cell' (i := 4) rfl; have e5 := hw.cell' (i := 5) rfl; have e6 := hw.cell' (i := 6) rfl; have e7 := hw.cell' (i := 7) rfl; have e8 := hw.cell' (i := 8) rfl; have e9 := hw.cell' (i := 9) rfl; have e10 := hw.cell' (i := 10) rfl; have e11 := hw.cell' (i := 11) rfl; have e12 := hw.cell' (i := 12) rfl; have e13 := hw.cell' (i := 13) rfl; have hSx := hSw; (try dsimp only at hSw); go_simp; try rfl
          case' rb8 => try simp only [List.getElem_toArray, List.getElem_cons_succ, List.getElem_cons_zero, Act.put, List.setIfInBounds_toArray, List.set_cons_zero, List.set_cons_succ]
          refine walk_step 9 rfl (by kernel_rfl) (by kernel_rfl) (fun K hK => ?c9)
          case c9 =>
            rw [if_pos (by kernel_rfl)]
            refine wp_store_row 55 (.tmp 4) (.tmp 52) rfl (w.heap.size + 1) #[.int .i64 yid, .string yname, .slice F1 fn f1, .int .i64 ymost, .int .i64 yburst, .int .i64 ystage, .bool yfirst, .int .i64 yat_, .slice A3 an2 a3, .int .i64 ytimer, .int .i64 ypatience, .int .i64 ytries, .int .i64 ylimit] rfl rfl 55 _ br giversz rfl (by simp [Value.oneCell']) ?_
            have bq9 := bq.farRow (g := w.heap.size + 1) (by omega) #[.int .i64 yid, .string yname, .slice F1 fn f1, .int .i64 ymost, .int .i64 yburst, .int .i64 ystage, .bool yfirst, .int .i64 yat_, .slice A3 an2 a3, .int .i64 ytimer, .int .i64 ypatience, .int .i64 ytries, .int .i64 ylimit]
            have br2 := br.row #[.int .i64 yid, .string yname, .slice F1 fn f1, .int .i64 ymost, .int .i64 yburst, .int .i64 ystage, .bool yfirst, .int .i64 yat_, .slice A3 an2 a3, .int .i64 ytimer, .int .i64 ypatience, .int .i64 ytries, .int .i64 ylimit]
            refine hK _ _ bq9 ?_
            clear hK K
            try simp only [List.getElem_toArray, List.getElem_cons_succ, List.getElem_cons_zero, Act.put, List.setIfInBounds_toArray, List.set_cons_zero, List.set_cons_succ]
            refine walk_take 10 (v := ?vd10) rfl (by kernel_rfl) (by kernel_rfl) (by kernel_rfl) (fun _ _ _ h => h) (bq9) (Or.inl ⟨by rfl, ?yd10⟩) ?rd10
            case yd10 => intro w hSw; (try dsimp only at hSw); go_simp; try rfl
            case' rd10 => try simp only [List.getElem_toArray, List.getElem_cons_succ, List.getElem_cons_zero, Act.put, List.setIfInBounds_toArray, List.set_cons_zero, List.set_cons_succ]
            refine walk_tail (by kernel_rfl) ?_
            simp only [List.drop_succ_cons, List.drop_zero]
            go_wp2_with fail
            refine bodyPost_ret (v := .tuple #[.agg #[.int .i64 yid, .string yname, .slice F1 fn f1, .int .i64 ymost, .int .i64 yburst, .int .i64 ystage, .bool yfirst, .int .i64 yat_, .slice A3 an2 a3, .int .i64 ytimer, .int .i64 ypatience, .int .i64 ytries, .int .i64 ylimit], .slice O on oc, .int .i64 k]) (results_cell_two rfl _ _ (w.heap.size + 1) 55 _ (0, 0) _ rfl rfl rfl br2 Try.underlying55 rfl giversz) rfl ?_
            exact gv_out (y := ⟨yid, yname, yfile, ymost, yburst, ystage, yfirst, yat_, yagain, ytimer, ypatience, ytries, ylimit⟩) (base := w.heap.size + 2) hB (by omega) (by omega) ⟨HM1.out, HM2.out, HM3.out, HM4.out, m5, hOA, m7, m8, hfar⟩
end Go.Proofs.Ytianombjgdmbeaa
namespace Go.Proofs.Ytianombjgdmbeaa
set_option linter.unusedSimpArgs false
set_option linter.unusedVariables false
open Go.RowKit

/-- What a byte weighs in the sum. -/
def wgt (i : Nat) : Nat := if i % 4 = 0 then 16777216 else if i % 4 = 1 then 65536 else if i % 4 = 2 then 256 else 1
def fsumTo (l : List UInt8) : Nat → Nat
  | 0 => 0
  | k + 1 => fsumTo l k + (l.getD k 0).toNat * wgt k
def fileSum (l : List UInt8) : Int := ((fsumTo l l.length % 4294967296 : Nat) : Int)
theorem i64_mask32 (n : Int) : bits .and .i64 n 4294967295 = n % 4294967296 := by
  have h32 : (BitVec.ofInt 64 4294967295).toNat = 2 ^ 32 - 1 := by decide
  have key : (BitVec.ofInt 64 n &&& BitVec.ofInt 64 4294967295).toNat = (n % ((2 ^ 64 : Nat) : Int)).toNat % 2 ^ 32 := by
    rw [BitVec.toNat_and, BitVec.toNat_ofInt, h32, Nat.and_two_pow_sub_one_eq_mod]
  show IntKind.i64.wrap ((BitVec.ofInt 64 n &&& BitVec.ofInt 64 4294967295).toNat : Nat) = n % 4294967296
  rw [key, IntKind.wrap_i64]
  omega
theorem sum_step {S y a : Int} (h : S % 4294967296 = a % 4294967296) : wrap64 (S + y) % 4294967296 = (a + y) % 4294967296 := by
  unfold wrap64
  omega
theorem fsum_step (l : List UInt8) (k : Nat) (c : Int) (hk : k < l.length) (hc : (wgt k : Int) = c) : ((fsumTo l (k + 1) : Nat) : Int) = (fsumTo l k : Int) + (l[k].toNat : Int) * c := by
  show ((fsumTo l k + (l.getD k 0).toNat * wgt k : Nat) : Int) = _
  rw [List.getD_eq_getElem?_getD, List.getElem?_eq_getElem hk, Option.getD_some, Int.natCast_add, Int.natCast_mul, hc]
set_option maxHeartbeats 1600000 in
set_option maxRecDepth 100000 in
theorem fileSum_any (A : Option Addr) (l : List UInt8) (n c : Nat) (w : World) (hn : l.length = n) (ha : Rd w A (bvs l)) (hz : n ≤ 140737488351300) :
    Calls Try.prog 18 #[.slice A n c] w fun e w' => e = .returned (.int .i64 (fileSum l)) ∧ w' = w := by
  have hmask := i64_mask32
  have HN := Lib.hid hn
  have HA := Lib.hid ha
  clear hn ha
  go_enter Try.func18, Try.ntmps18
  go_wp2_with fail
  go_loop [3, 4] (fun sv iv => ∃ (i : Nat) (S : Int), i ≤ n ∧ sv = .int .i64 S ∧ iv = .int .i64 (i : Int) ∧ Hid (S % 4294967296 = (fsumTo l i : Int) % 4294967296)) (fun _ iv => n - (intOf iv).toNat)
  case atStart => exact ⟨0, 0, Nat.zero_le _, rfl, rfl, Lib.hid rfl⟩
  case round =>
    obtain ⟨i, S, hi, rfl, rfl, HS⟩ := hrel
    by_cases h5 : i < n
    · have h5i : (i : Int) < (n : Int) := by omega
      have hip : (0 : Int) ≤ (i : Int) := by omega
      have hil : i < l.length := by rw [HN.out]; exact h5
      obtain ⟨b, o, rfl, hc⟩ := HA.out.byte hil
      have hx := byte_lt l[i]
      have HF := Lib.hid (fun (c : Int) (hc : (wgt i : Int) = c) => fsum_step l i c hil hc)
      generalize l[i].toNat = x at *
      clear hil
      have r4 : i % 4 = 0 ∨ i % 4 = 1 ∨ i % 4 = 2 ∨ i % 4 = 3 := by omega
      rcases r4 with r | r | r | r
      · have HW : Hid ((wgt i : Int) = 16777216) := Lib.hid (by unfold wgt; simp [r])
        have ri : (i : Int) % 4 = 0 := by omega
        clear r
        go_wp2_with fail
        go_round
        case rel => exact ⟨i + 1, _, by omega, rfl, by go_num, Lib.hid (by rw [HF.out 16777216 HW.out]; first | exact sum_step HS.out | (rw [Int.mul_one]; exact sum_step HS.out))⟩
        case measure => simp [intOf]; omega
      · have HW : Hid ((wgt i : Int) = 65536) := Lib.hid (by unfold wgt; simp [r])
        have ri : (i : Int) % 4 = 1 := by omega
        clear r
        go_wp2_with fail
        go_round
        case rel => exact ⟨i + 1, _, by omega, rfl, by go_num, Lib.hid (by rw [HF.out 65536 HW.out]; first | exact sum_step HS.out | (rw [Int.mul_one]; exact sum_step HS.out))⟩
        case measure => simp [intOf]; omega
      · have HW : Hid ((wgt i : Int) = 256) := Lib.hid (by unfold wgt; simp [r])
        have ri : (i : Int) % 4 = 2 := by omega
        clear r
        go_wp2_with fail
        go_round
        case rel => exact ⟨i + 1, _, by omega, rfl, by go_num, Lib.hid (by rw [HF.out 256 HW.out]; first | exact sum_step HS.out | (rw [Int.mul_one]; exact sum_step HS.out))⟩
        case measure => simp [intOf]; omega
      · have HW : Hid ((wgt i : Int) = 1) := Lib.hid (by unfold wgt; simp [r])
        have ri : (i : Int) % 4 = 3 := by omega
        clear r
        go_wp2_with fail
        go_round
        case rel => exact ⟨i + 1, _, by omega, rfl, by go_num, Lib.hid (by rw [HF.out 1 HW.out]; first | exact sum_step HS.out | (rw [Int.mul_one]; exact sum_step HS.out))⟩
        case measure => simp [intOf]; omega
    · obtain rfl : i = n := by omega
      have h5i : ¬ (i : Int) < (i : Int) := by omega
      go_wp2_with fail
      go_ret
      refine ⟨?_, rfl⟩
      apply ret_int
      unfold fileSum
      rw [HN.out, HS.out]
      omega
end Go.Proofs.Ytianombjgdmbeaa
