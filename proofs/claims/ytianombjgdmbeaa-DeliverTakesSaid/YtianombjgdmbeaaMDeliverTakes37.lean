/-
  taking: a func is done with a taker that may be.
-/
import Derived.Test.YtianombjgdmbeaaMDeliverTakes1
import Derived.WalkSpells
import Derived.Test.YtianombjgdmbeaaMDeliverTakes33
import Derived.Test.YtianombjgdmbeaaMDeliverTakes36
import Derived.Test.YtianombjgdmbeaaMDeliverTakes30
namespace Go.Proofs.Ytianombjgdmbeaa
set_option linter.unusedSimpArgs false
set_option linter.unusedVariables false
open Go.RowKit

set_option maxHeartbeats 1600000 in
set_option maxRecDepth 100000 in
/-- slices.Clone of bytes: memory of its own. -/
theorem clone_any (A : Option Addr) (l : List UInt8) (c : Nat) (w : World) (ha : Rd w A (bvs l)) (hn : l.length ≤ 140737488351300) :
    Calls Try.prog 52 #[.slice A l.length c] w fun e w' => ∃ A' c', e = .returned (.slice A' l.length c') ∧ Own w' w.heap.size 5 1 A' l.length c' (bvs l) ∧ Below w.heap.size w w' := by
  obtain ⟨i0, hi0, hz0, hz1, hz2⟩ := info_parts u8info
  have q2 : 0 + l.length ≤ maxLen := by unfold maxLen; omega
  have q3 : (0 + l.length) * 1 ≤ 140737488355328 := by omega
  have q1 : Hid ((bvs l).length = l.length * 1) := by show _ = _; simp [bvs]
  have hE := fun (W : World) (a : Option Addr) (n c : Nat) => Lib.run_eql_slice_nil (P := Try.prog) W 23 5 a n c 0 0 Try.underlying23
  rcases A with _ | a
  · have hl : l = [] := by
      rcases l with _ | ⟨x, l⟩
      · rfl
      · obtain ⟨b, off, e, _⟩ := ha.byte (k := 0) (by simp)
        cases e
    subst hl
    clear q1 q2 q3
    go_enter Try.func52, Try.ntmps52
    go_wp2
    go_ret
    exact ⟨none, 0, rfl, Own.none_ _ _ _ _, Below.refl _ _⟩
  · have hO : Own (w.alloc (.cells #[] 5)) w.heap.size 5 1 (some ⟨w.heap.size, 0, none⟩) 0 0 [] := Own.of_block (heap_alloc_new w _) (Nat.le_refl _) rfl (Nat.le_refl _) (Nat.zero_le _) (by simp) (fun i u h => by simp at h)
    have hR2 := ha.alloc (.cells #[] 5)
    have q4 : w.heap.size ≤ (w.alloc (.cells #[] 5)).heap.size := by simp
    go_enter Try.func52, Try.ntmps52
    go_wp2_with (at_builtin; refine wpList_append_Own _ rfl (.tmp 5) (.tmp 6) 23 rfl w.heap.size 5 i0 _ 1 1 Try.underlying23 hi0 hz0 hz1 hz2 rfl _ 0 0 [] rfl hO (some a) l.length c (bvs l) rfl q1.out hR2 (bvs_one _) q2 q3 q4 ?_; intro A' c' w1 hO1 hg1 hor)
    go_ret
    rw [Nat.zero_add, List.nil_append] at hO1
    refine ⟨A', c', rfl, hO1, ?_⟩
    exact ((Below.refl _ _).alloc (Nat.le_refl _) _).grown hg1 (by simp) (fun k hk => by simp [blk] at hk; omega)
theorem clone_n (A : Option Addr) (l : List UInt8) (n c : Nat) (w : World) (hl : l.length = n) (ha : Rd w A (bvs l)) (hn : n ≤ 140737488351300) :
    Calls Try.prog 52 #[.slice A n c] w fun e w' => ∃ A' c', e = .returned (.slice A' n c') ∧ Own w' w.heap.size 5 1 A' n c' (bvs l) ∧ Below w.heap.size w w' := by
  subst hl
  exact clone_any A l c w ha hn
end Go.Proofs.Ytianombjgdmbeaa
namespace Go.Proofs.Ytianombjgdmbeaa
set_option linter.unusedSimpArgs false
set_option linter.unusedVariables false
open Go.RowKit

set_option maxHeartbeats 12800000 in
set_option maxRecDepth 100000 in
theorem taking_Take (q0 : Value) (x : Tk) (F : Option Addr) (fn fc : Nat) (A : Option Addr) (an ac : Nat) (y : Tk) (ns : List Nt) (k : Int) (w : World) (hf : x.file.length = fn) (ha : x.have_.length = an) (hF : Rd w F (bvs x.file)) (hA : Rd w A (gps x.have_)) (hfn : fn ≤ 140737488351232) (hfc : fn ≤ fc) (han : an ≤ 8796093022200)
    (hz : tkOk x = false → y = tkZero ∧ ns = [] ∧ k = 11)
    (HC : ∀ (V : World) (q base : Nat) (F1 A1 : Option Addr) (f1 a1 : Nat), tkOk x = true → Below w.heap.size w V → Blk V q 86 (tw x A1 an a1 F1 fn f1 none 0 0) → Own V base 5 1 F1 fn f1 (bvs x.file) → Own V base 66 2 A1 an a1 (gps x.have_) → w.heap.size ≤ base → base ≤ q → base ≤ V.heap.size →
      Calls Try.prog 76 #[.pointer (some ⟨q, 0, none⟩), q0] V fun e w' => DoT V w' base q y ns k e) :
    Calls Try.prog 55 #[tvv x F fn fc A an ac, .func (.func 76) #[] #[q0]] w fun e w' => TkRes w w' y ns k e := by
  have CM := Lib.hid (fun (V : World) (hB : Below w.heap.size w V) => takes_any x A an ac F fn fc V ha hf (hA.below hB) (hF.below hB) han hfn hfc)
  have CF := Lib.hid (fun (V : World) (hB : Below w.heap.size w V) => clone_n F x.file fn fc V hf (hF.below hB) (by omega))
  have CA := Lib.hid (fun (V : World) (hB : Below w.heap.size w V) => cloneG A x.have_ an ac V ha (hA.below hB) han)
  obtain ⟨r1, hr1⟩ : ∃ r1, tkOk x = r1 := ⟨_, rfl⟩
  rw [hr1] at CM
  have H1 := Lib.hid hr1
  have HZ := Lib.hid hz
  have HCc := Lib.hid HC
  clear hr1 hz HC hf ha hF hA
  obtain ⟨id, known, name, size, ended, last, sum, have_, file, stage, timer, patience, tries, limit⟩ := x
  unfold tvv tkv tkc
  unfold tkv tkc at CM
  unfold tw at HCc
  dsimp only at CM CF CA HCc H1 HZ ⊢
  have bx := (Blk.new w 44 #[.int .i64 id, .bool known, .string name, .int .i64 size, .bool ended, .int .i64 last, .int .i64 sum, .slice A an ac, .slice F fn fc, .int .i64 stage, .int .i64 timer, .int .i64 patience, .int .i64 tries, .int .i64 limit]).alloc (.cells #[.int .i64 0, .bool false, .string ⟨#[]⟩, .int .i64 0, .bool false, .int .i64 0, .int .i64 0, .slice none 0 0, .slice none 0 0, .int .i64 0, .int .i64 0, .int .i64 0, .int .i64 0, .int .i64 0] 44)
  have br := Blk.new (w.alloc (.cells #[.int .i64 id, .bool known, .string name, .int .i64 size, .bool ended, .int .i64 last, .int .i64 sum, .slice A an ac, .slice F fn fc, .int .i64 stage, .int .i64 timer, .int .i64 patience, .int .i64 tries, .int .i64 limit] 44)) 44 #[.int .i64 0, .bool false, .string ⟨#[]⟩, .int .i64 0, .bool false, .int .i64 0, .int .i64 0, .slice none 0 0, .slice none 0 0, .int .i64 0, .int .i64 0, .int .i64 0, .int .i64 0, .int .i64 0]
  rw [show (w.alloc (.cells #[.int .i64 id, .bool known, .string name, .int .i64 size, .bool ended, .int .i64 last, .int .i64 sum, .slice A an ac, .slice F fn fc, .int .i64 stage, .int .i64 timer, .int .i64 patience, .int .i64 tries, .int .i64 limit] 44)).heap.size = w.heap.size + 1 by simp] at br
  have hB : Below w.heap.size w ((w.alloc (.cells #[.int .i64 id, .bool known, .string name, .int .i64 size, .bool ended, .int .i64 last, .int .i64 sum, .slice A an ac, .slice F fn fc, .int .i64 stage, .int .i64 timer, .int .i64 patience, .int .i64 tries, .int .i64 limit] 44)).alloc (.cells #[.int .i64 0, .bool false, .string ⟨#[]⟩, .int .i64 0, .bool false, .int .i64 0, .int .i64 0, .slice none 0 0, .slice none 0 0, .int .i64 0, .int .i64 0, .int .i64 0, .int .i64 0, .int .i64 0] 44)) := ((Below.refl _ _).alloc (Nat.le_refl _) _).alloc (by simp) _
  go_enter Try.func55, Try.ntmps55
  go_upto_region 1 with fail
  generalize (w.alloc (.cells #[.int .i64 id, .bool known, .string name, .int .i64 size, .bool ended, .int .i64 last, .int .i64 sum, .slice A an ac, .slice F fn fc, .int .i64 stage, .int .i64 timer, .int .i64 patience, .int .i64 tries, .int .i64 limit] 44)).alloc (.cells #[.int .i64 0, .bool false, .string ⟨#[]⟩, .int .i64 0, .bool false, .int .i64 0, .int .i64 0, .slice none 0 0, .slice none 0 0, .int .i64 0, .int .i64 0, .int .i64 0, .int .i64 0, .int .i64 0] 44) = W at *
  go_wp2_with (refine wpList_load_row rfl 44 (.tmp 2) rfl w.heap.size rfl 44 #[.int .i64 id, .bool known, .string name, .int .i64 size, .bool ended, .int .i64 last, .int .i64 sum, .slice A an ac, .slice F fn fc, .int .i64 stage, .int .i64 timer, .int .i64 patience, .int .i64 tries, .int .i64 limit] (0, 0) _ bx Try.underlying44 rfl takersz ?_)
  refine (CM.out _ hB).mono ?_
  rintro e w1 ⟨rfl, hb⟩
  replace bx := bx.step hb
  replace br := br.step hb
  replace hB := hB.trans (hb.mono hB.size)
  clear hb CM
  cases r1
  ·
    go_wp2_with (refine wpList_store_row rfl 44 (.tmp 4) (.tmp 12) rfl (w.heap.size + 1) #[.int .i64 0, .bool false, .string ⟨#[]⟩, .int .i64 0, .bool false, .int .i64 0, .int .i64 0, .slice none 0 0, .slice none 0 0, .int .i64 0, .int .i64 0, .int .i64 0, .int .i64 0, .int .i64 0] rfl rfl 44 _ br takersz rfl (by simp [Value.oneCell']) ?_)
    have br2 := br.row #[.int .i64 0, .bool false, .string ⟨#[]⟩, .int .i64 0, .bool false, .int .i64 0, .int .i64 0, .slice none 0 0, .slice none 0 0, .int .i64 0, .int .i64 0, .int .i64 0, .int .i64 0, .int .i64 0]
    refine bodyPost_ret (v := .tuple #[.agg #[.int .i64 0, .bool false, .string ⟨#[]⟩, .int .i64 0, .bool false, .int .i64 0, .int .i64 0, .slice none 0 0, .slice none 0 0, .int .i64 0, .int .i64 0, .int .i64 0, .int .i64 0, .int .i64 0], .slice none 0 0, .int .i64 11]) (results_cell_two rfl _ _ (w.heap.size + 1) 44 _ (0, 0) _ rfl rfl rfl br2 Try.underlying44 rfl takersz) rfl ?_
    obtain ⟨e1, e2, e3⟩ := HZ.out H1.out
    rw [e1, e2, e3]
    exact tk_out (y := tkZero) (base := w.heap.size + 2) hB (by omega) (by omega) (GvMem.none rfl rfl (Own.none_ _ _ _ _) (Own.none_ _ _ _ _))
  go_upto_region 4 with (refine wpList_load_row rfl 44 (.tmp 2) rfl w.heap.size rfl 44 #[.int .i64 id, .bool known, .string name, .int .i64 size, .bool ended, .int .i64 last, .int .i64 sum, .slice A an ac, .slice F fn fc, .int .i64 stage, .int .i64 timer, .int .i64 patience, .int .i64 tries, .int .i64 limit] (0, 0) _ bx Try.underlying44 rfl takersz ?_)
  have zr := br.lt
  have bq := Blk.new w1 86 #[.int .i64 id, .bool known, .string name, .int .i64 size, .bool ended, .int .i64 last, .int .i64 sum, .slice A an ac, .slice F fn fc, .int .i64 stage, .int .i64 timer, .int .i64 patience, .int .i64 tries, .int .i64 limit, .slice none 0 0]
  replace br := br.alloc (.cells #[.int .i64 id, .bool known, .string name, .int .i64 size, .bool ended, .int .i64 last, .int .i64 sum, .slice A an ac, .slice F fn fc, .int .i64 stage, .int .i64 timer, .int .i64 patience, .int .i64 tries, .int .i64 limit, .slice none 0 0] 86)
  replace hB := hB.alloc hB.size (.cells #[.int .i64 id, .bool known, .string name, .int .i64 size, .bool ended, .int .i64 last, .int .i64 sum, .slice A an ac, .slice F fn fc, .int .i64 stage, .int .i64 timer, .int .i64 patience, .int .i64 tries, .int .i64 limit, .slice none 0 0] 86)
  clear bx
  have s8 := bq.cell' (i := 8) rfl
  refine heldRegion (fun v => v.cell? ⟨w1.heap.size, 8, none⟩ = some (.slice F fn fc)) 18 (by kernel_rfl) (by kernel_rfl) s8 (fun hSS => ?_)
  clear s8 hSS
  replace bq := bq.drew
  replace br := br.drew
  replace hB := hB.drew
  generalize (w1.alloc (.cells #[.int .i64 id, .bool known, .string name, .int .i64 size, .bool ended, .int .i64 last, .int .i64 sum, .slice A an ac, .slice F fn fc, .int .i64 stage, .int .i64 timer, .int .i64 patience, .int .i64 tries, .int .i64 limit, .slice none 0 0] 86)).drew = V at *
  have hS8 : V.cell? ⟨w1.heap.size, 8, none⟩ = some (.slice F fn fc) := bq.cell' (i := 8) rfl
  refine walk_take 0 (v := ?va0) rfl (by kernel_rfl) (by kernel_rfl) (by kernel_rfl) (fun _ _ _ h => h) (hS8) (Or.inl ⟨by rfl, ?ya0⟩) ?ra0
  case ya0 => intro w hSw; (try dsimp only at hSw); go_simp; try rfl
  case' ra0 => try simp only [List.getElem_toArray, List.getElem_cons_succ, List.getElem_cons_zero, Act.put, List.setIfInBounds_toArray, List.set_cons_zero, List.set_cons_succ]
  refine walk_take 1 (v := ?va1) rfl (by kernel_rfl) (by kernel_rfl) (by kernel_rfl) (fun _ _ _ h => h) (hS8) (Or.inl ⟨by rfl, ?ya1⟩) ?ra1
  case ya1 => intro w hSw; (try dsimp only at hSw); go_simp; try rfl
  case' ra1 => try simp only [List.getElem_toArray, List.getElem_cons_succ, List.getElem_cons_zero, Act.put, List.setIfInBounds_toArray, List.set_cons_zero, List.set_cons_succ]
  refine walk_take 2 (v := ?va2) rfl (by kernel_rfl) (by kernel_rfl) (by kernel_rfl) (fun _ _ _ h => h) (hS8) (Or.inl ⟨by rfl, ?ya2⟩) ?ra2
  case ya2 => intro w hSw; (try dsimp only at hSw); go_simp; try rfl
  case' ra2 => try simp only [List.getElem_toArray, List.getElem_cons_succ, List.getElem_cons_zero, Act.put, List.setIfInBounds_toArray, List.set_cons_zero, List.set_cons_succ]
  refine walk_take 3 (v := ?va3) rfl (by kernel_rfl) (by kernel_rfl) (by kernel_rfl) (fun _ _ _ h => h) (hS8) (Or.inl ⟨by rfl, ?ya3⟩) ?ra3
  case ya3 => intro w hSw; (try dsimp only at hSw); go_simp; try rfl
  case' ra3 => try simp only [List.getElem_toArray, List.getElem_cons_succ, List.getElem_cons_zero, Act.put, List.setIfInBounds_toArray, List.set_cons_zero, List.set_cons_succ]
  refine walk_take 4 (v := ?va4) rfl (by kernel_rfl) (by kernel_rfl) (by kernel_rfl) (fun _ _ _ h => h) (hS8) (Or.inl ⟨by rfl, ?ya4⟩) ?ra4
  case ya4 => intro w hSw; (try dsimp only at hSw); go_simp; try rfl
  case' ra4 => try simp only [List.getElem_toArray, List.getElem_cons_succ, List.getElem_cons_zero, Act.put, List.setIfInBounds_toArray, List.set_cons_zero, List.set_cons_succ]
  refine walk_take 5 (v := ?va5) rfl (by kernel_rfl) (by kernel_rfl) (by kernel_rfl) (fun _ _ _ h => h) (hS8) (Or.inl ⟨by rfl, ?ya5⟩) ?ra5
  case ya5 => intro w hSw; (try dsimp only at hSw); go_simp; try rfl
  case' ra5 => try simp only [List.getElem_toArray, List.getElem_cons_succ, List.getElem_cons_zero, Act.put, List.setIfInBounds_toArray, List.set_cons_zero, List.set_cons_succ]
  refine walk_take 8 (v := ?va8) rfl (by kernel_rfl) (by kernel_rfl) (by kernel_rfl) (fun _ _ _ h => h) (hS8) (Or.inl ⟨by rfl, ?ya8⟩) ?ra8
  case ya8 => intro w hSw; (try dsimp only at hSw); go_simp; try rfl
  case' ra8 => try simp only [List.getElem_toArray, List.getElem_cons_succ, List.getElem_cons_zero, Act.put, List.setIfInBounds_toArray, List.set_cons_zero, List.set_cons_succ]
  refine walk_take 9 (v := ?va9) rfl (by kernel_rfl) (by kernel_rfl) (by kernel_rfl) (fun _ _ _ h => h) (hS8) (Or.inl ⟨by rfl, ?ya9⟩) ?ra9
  case ya9 => intro w hSw; (try dsimp only at hSw); go_simp; try rfl
  case' ra9 => try simp only [List.getElem_toArray, List.getElem_cons_succ, List.getElem_cons_zero, Act.put, List.setIfInBounds_toArray, List.set_cons_zero, List.set_cons_succ]
  refine walk_take 10 (v := ?va10) rfl (by kernel_rfl) (by kernel_rfl) (by kernel_rfl) (fun _ _ _ h => h) (hS8) (Or.inl ⟨by rfl, ?ya10⟩) ?ra10
  case ya10 => intro w hSw; (try dsimp only at hSw); go_simp; try rfl
  case' ra10 => try simp only [List.getElem_toArray, List.getElem_cons_succ, List.getElem_cons_zero, Act.put, List.setIfInBounds_toArray, List.set_cons_zero, List.set_cons_succ]
  refine walk_take 11 (v := ?va11) rfl (by kernel_rfl) (by kernel_rfl) (by kernel_rfl) (fun _ _ _ h => h) (hS8) (Or.inl ⟨by rfl, ?ya11⟩) ?ra11
  case ya11 => intro w hSw; (try dsimp only at hSw); go_simp; try rfl
  case' ra11 => try simp only [List.getElem_toArray, List.getElem_cons_succ, List.getElem_cons_zero, Act.put, List.setIfInBounds_toArray, List.set_cons_zero, List.set_cons_succ]
  refine walk_take 12 (v := ?va12) rfl (by kernel_rfl) (by kernel_rfl) (by kernel_rfl) (fun _ _ _ h => h) (hS8) (Or.inl ⟨by rfl, ?ya12⟩) ?ra12
  case ya12 => intro w hSw; (try dsimp only at hSw); go_simp; try rfl
  case' ra12 => try simp only [List.getElem_toArray, List.getElem_cons_succ, List.getElem_cons_zero, Act.put, List.setIfInBounds_toArray, List.set_cons_zero, List.set_cons_succ]
  refine walk_step 6 rfl (by kernel_rfl) (by kernel_rfl) (fun K hK => ?c6)
  case c6 =>
    have y2 := bq.cell' (i := 7) rfl
    go_simp
    refine hK _ _ hS8 ?_
    clear hK K y2
    try simp only [List.getElem_toArray, List.getElem_cons_succ, List.getElem_cons_zero, Act.put, List.setIfInBounds_toArray, List.set_cons_zero, List.set_cons_succ]
    refine walk_step 7 rfl (by kernel_rfl) (by kernel_rfl) (fun K hK => ?c7)
    case c7 =>
      go_simp
      refine (CA.out _ hB).mono ?_
      rintro e v2 ⟨A1, a1, rfl, hOA, hb⟩
      have lq := bq.lt
      have zv := hb.size
      replace bq := bq.step hb
      replace br := br.step hb
      replace hB := hB.trans (hb.mono hB.size)
      replace hOA := hOA.mono (base' := w.heap.size + 2) (by omega)
      replace hS8 := bq.cell' (i := 8) rfl
      refine hK _ _ hS8 ?_
      clear hK K hb CA
      try simp only [List.getElem_toArray, List.getElem_cons_succ, List.getElem_cons_zero, Act.put, List.setIfInBounds_toArray, List.set_cons_zero, List.set_cons_succ]
      refine walk_step 13 rfl (by kernel_rfl) (by kernel_rfl) (fun K hK => ?c13)
      case c13 =>
        go_simp
        refine (CF.out _ hB).mono ?_
        rintro e v3 ⟨F1, f1, rfl, hOF, hb⟩
        have zv3 := hb.size
        replace bq := bq.step hb
        replace br := br.step hb
        replace hB := hB.trans (hb.mono hB.size)
        replace hOA := hOA.step hb
        replace hOF := hOF.mono (base' := w.heap.size + 2) (by omega)
        replace hS8 := bq.cell' (i := 8) rfl
        refine hK _ _ hS8 ?_
        clear hK K hb CF
        try simp only [List.getElem_toArray, List.getElem_cons_succ, List.getElem_cons_zero, Act.put, List.setIfInBounds_toArray, List.set_cons_zero, List.set_cons_succ]
        refine walk_take 14 (v := ?vc14) rfl (by kernel_rfl) (by kernel_rfl) (by kernel_rfl) (fun _ _ _ h => h) (hS8) (Or.inl ⟨by rfl, ?yc14⟩) ?rc14
        case yc14 => intro w hSw; (try dsimp only at hSw); go_simp; try rfl
        case' rc14 => try simp only [List.getElem_toArray, List.getElem_cons_succ, List.getElem_cons_zero, Act.put, List.setIfInBounds_toArray, List.set_cons_zero, List.set_cons_succ]
        refine walk_take 15 (v := ?vc15) rfl (by kernel_rfl) (by kernel_rfl) (by kernel_rfl) (fun _ _ _ h => h) (hS8) (Or.inl ⟨by rfl, ?yc15⟩) ?rc15
        case yc15 => intro w hSw; (try dsimp only at hSw); go_simp; try rfl
        case' rc15 => try simp only [List.getElem_toArray, List.getElem_cons_succ, List.getElem_cons_zero, Act.put, List.setIfInBounds_toArray, List.set_cons_zero, List.set_cons_succ]
        refine walk_take 16 (v := ?vc16) rfl (by kernel_rfl) (by kernel_rfl) (by kernel_rfl) (fun _ _ _ h => h) (hS8) (Or.inl ⟨by rfl, ?yc16⟩) ?rc16
        case yc16 => intro w hSw; (try dsimp only at hSw); go_simp; try rfl
        case' rc16 => try simp only [List.getElem_toArray, List.getElem_cons_succ, List.getElem_cons_zero, Act.put, List.setIfInBounds_toArray, List.set_cons_zero, List.set_cons_succ]
        have kf := bq.frozen
        have y2 := bq.cell' (i := 7) rfl
        have b2 := bq.set_ 7 (.slice A1 an a1)
        have kf2 := b2.frozen
        have y8 := b2.cell' (i := 8) rfl
        have b8 := b2.set_ 8 (.slice F1 fn f1)
        have xF := hOF.notBlk bq (by decide)
        have xA := hOA.notBlk bq (by decide)
        refine walk_step 17 rfl (by kernel_rfl) (by kernel_rfl) (fun K hK => ?c17)
        case c17 =>
          go_simp
          refine hK _ _ y8 ?_
          clear hK K
          try simp only [List.getElem_toArray, List.getElem_cons_succ, List.getElem_cons_zero, Act.put, List.setIfInBounds_toArray, List.set_cons_zero, List.set_cons_succ]
          refine walk_tail (by kernel_rfl) ?_
          simp only [List.drop_succ_cons, List.drop_zero]
          go_upto_region 5 with fail
          clear kf y2 kf2 y8 b2
          have lq3 : w1.heap.size < v3.heap.size := bq.lt
          replace hOF := (hOF.setFar (p := ⟨w1.heap.size, 7, none⟩) xF (.slice A1 an a1)).setFar (p := ⟨w1.heap.size, 8, none⟩) xF (.slice F1 fn f1)
          replace hOA := (hOA.setFar (p := ⟨w1.heap.size, 7, none⟩) xA (.slice A1 an a1)).setFar (p := ⟨w1.heap.size, 8, none⟩) xA (.slice F1 fn f1)
          replace br := (br.far (p := ⟨w1.heap.size, 7, none⟩) (by show w.heap.size + 1 ≠ w1.heap.size; omega) (.slice A1 an a1)).far (p := ⟨w1.heap.size, 8, none⟩) (by show w.heap.size + 1 ≠ w1.heap.size; omega) (.slice F1 fn f1)
          replace hB := (hB.setCell (p := ⟨w1.heap.size, 7, none⟩) (by show w.heap.size ≤ w1.heap.size; omega) (.slice A1 an a1)).setCell (p := ⟨w1.heap.size, 8, none⟩) (by show w.heap.size ≤ w1.heap.size; omega) (.slice F1 fn f1)
          have lq4 : w1.heap.size < ((v3.setCell ⟨w1.heap.size, 7, none⟩ (.slice A1 an a1)).setCell ⟨w1.heap.size, 8, none⟩ (.slice F1 fn f1)).heap.size := by simpa using lq3
          clear bq xF xA
          generalize (v3.setCell ⟨w1.heap.size, 7, none⟩ (.slice A1 an a1)).setCell ⟨w1.heap.size, 8, none⟩ (.slice F1 fn f1) = V4 at *
          have HC4 := Lib.hid (HCc.out V4 w1.heap.size (w.heap.size + 2) F1 A1 f1 a1 H1.out hB b8 hOF hOA (by omega) (by omega) (by omega))
          clear HCc hOF hOA b8
          go_wp2_with fail
          refine HC4.out.mono ?_
          intro e w5 h5
          obtain ⟨F2, yn, f2, A2, yan, a2, O, on, oc, l, rfl, bq, hM, hb⟩ := h5
          replace br := br.below hb (by omega)
          replace hB := hB.trans (hb.mono (by omega))
          have lq5 := bq.lt
          clear hb HC4
          have HMM := Lib.hid hM
          clear hM
          unfold tw at bq
          obtain ⟨yid, yknown, yname, ysize, yended, ylast, ysum, yhave_, yfile, ystage, ytimer, ypatience, ytries, ylimit⟩ := y
          dsimp only at bq
          go_upto_region 6 with fail
          refine heldRegion (fun v => Blk v w1.heap.size 86 #[.int .i64 yid, .bool yknown, .string yname, .int .i64 ysize, .bool yended, .int .i64 ylast, .int .i64 ysum, .slice A2 yan a2, .slice F2 yn f2, .int .i64 ystage, .int .i64 ytimer, .int .i64 ypatience, .int .i64 ytries, .int .i64 ylimit, .slice O on oc]) 11 (by kernel_rfl) (by kernel_rfl) bq.drew (fun hSS => ?_)
          replace bq := bq.drew
          replace br := br.drew
          replace hB := hB.drew
          have hM2 : GvMem w5.drew (w.heap.size + 2) (pg ⟨yid, yknown, yname, ysize, yended, ylast, ysum, yhave_, yfile, ystage, ytimer, ypatience, ytries, ylimit⟩) ns F2 yn f2 A2 yan a2 O on oc l := HMM.out.map fun e s A n c xs h => h.drew
          clear hSS HMM
          generalize w5.drew = V8 at *
          refine walk_take 0 (v := ?vb0) rfl (by kernel_rfl) (by kernel_rfl) (by kernel_rfl) (fun _ _ _ h => h) (bq) (Or.inl ⟨by rfl, ?yb0⟩) ?rb0
          case yb0 => intro w hSw; obtain hw := _root_.id hSw; have e0 := hw.cell' (i := 0) rfl; have e1 := hw.cell' (i := 1) rfl; have e2 := hw.cell' (i := 2) rfl; have e3 := hw.cell' (i := 3) rfl; have e4 := hw.cell' (i := 4) rfl; have e5 := hw.cell' (i := 5) rfl; have e6 := hw.cell' (i := 6) rfl; have e7 := hw.cell' (i := 7) rfl; have e8 := hw.cell' (i := 8) rfl; have e9 := hw.cell' (i := 9) rfl; have e10 := hw.cell' (i := 10) rfl; have e11 := hw.cell' (i := 11) rfl; have e12 := hw.cell' (i := 12) rfl; have e13 := hw.cell' (i := 13) rfl; have e14 := hw.cell' (i := 14) rfl; have hSx := hSw; (try dsimp only at hSw); go_simp; try rfl
          case' rb0 => try simp only [List.getElem_toArray, List.getElem_cons_succ, List.getElem_cons_zero, Act.put, List.setIfInBounds_toArray, List.set_cons_zero, List.set_cons_succ]
          refine walk_take 1 (v := ?vb1) rfl (by kernel_rfl) (by kernel_rfl) (by kernel_rfl) (fun _ _ _ h => h) (bq) (Or.inl ⟨by rfl, ?yb1⟩) ?rb1
          case yb1 => intro w hSw; obtain hw := _root_.id hSw; have e0 := hw.cell' (i := 0) rfl; have e1 := hw.cell' (i := 1) rfl; have e2 := hw.cell' (i := 2) rfl; have e3 := hw.cell' (i := 3) rfl; have e4 := hw.cell' (i := 4) rfl; have e5 := hw.cell' (i := 5) rfl; have e6 := hw.cell' (i := 6) rfl; have e7 := hw.cell' (i := 7) rfl; have e8 := hw.cell' (i := 8) rfl; have e9 := hw.cell' (i := 9) rfl; have e10 := hw.cell' (i := 10) rfl; have e11 := hw.cell' (i := 11) rfl; have e12 := hw.cell' (i := 12) rfl; have e13 := hw.cell' (i := 13) rfl; have e14 := hw.cell' (i := 14) rfl; have hSx := hSw; (try dsimp only at hSw); go_simp; try rfl
          case' rb1 => try simp only [List.getElem_toArray, List.getElem_cons_succ, List.getElem_cons_zero, Act.put, List.setIfInBounds_toArray, List.set_cons_zero, List.set_cons_succ]
          refine walk_take 2 (v := ?vb2) rfl (by kernel_rfl) (by kernel_rfl) (by kernel_rfl) (fun _ _ _ h => h) (bq) (Or.inl ⟨by rfl, ?yb2⟩) ?rb2
          case yb2 => intro w hSw; obtain hw := _root_.id hSw; have e0 := hw.cell' (i := 0) rfl; have e1 := hw.cell' (i := 1) rfl; have e2 := hw.cell' (i := 2) rfl; have e3 := hw.cell' (i := 3) rfl; have e4 := hw.cell' (i := 4) rfl; have e5 := hw.cell' (i := 5) rfl; have e6 := hw.cell' (i := 6) rfl; have e7 := hw.cell' (i := 7) rfl; have e8 := hw.cell' (i := 8) rfl; have e9 := hw.cell' (i := 9) rfl; have e10 := hw.cell' (i := 10) rfl; have e11 := hw.cell' (i := 11) rfl; have e12 := hw.cell' (i := 12) rfl; have e13 := hw.cell' (i := 13) rfl; have e14 := hw.cell' (i := 14) rfl; have hSx := hSw; (try dsimp only at hSw); go_simp; try rfl
          case' rb2 => try simp only [List.getElem_toArray, List.getElem_cons_succ, List.getElem_cons_zero, Act.put, List.setIfInBounds_toArray, List.set_cons_zero, List.set_cons_succ]
          refine walk_take 3 (v := ?vb3) rfl (by kernel_rfl) (by kernel_rfl) (by kernel_rfl) (fun _ _ _ h => h) (bq) (Or.inl ⟨by rfl, ?yb3⟩) ?rb3
          case yb3 => intro w hSw; obtain hw := _root_.id hSw; have e0 := hw.cell' (i := 0) rfl; have e1 := hw.cell' (i := 1) rfl; have e2 := hw.cell' (i := 2) rfl; have e3 := hw.cell' (i := 3) rfl; have e4 := hw.cell' (i := 4) rfl; have e5 := hw.cell' (i := 5) rfl; have e6 := hw.cell' (i := 6) rfl; have e7 := hw.cell' (i := 7) rfl; have e8 := hw.cell' (i := 8) rfl; have e9 := hw.cell' (i := 9) rfl; have e10 := hw.cell' (i := 10) rfl; have e11 := hw.cell' (i := 11) rfl; have e12 := hw.cell' (i := 12) rfl; have e13 := hw.cell' (i := 13) rfl; have e14 := hw.cell' (i := 14) rfl; have hSx := hSw; (try dsimp only at hSw); go_simp; try rfl
          case' rb3 => try simp only [List.getElem_toArray, List.getElem_cons_succ, List.getElem_cons_zero, Act.put, List.setIfInBounds_toArray, List.set_cons_zero, List.set_cons_succ]
          refine walk_take 4 (v := ?vb4) rfl (by kernel_rfl) (by kernel_rfl) (by kernel_rfl) (fun _ _ _ h => h) (bq) (Or.inl ⟨by rfl, ?yb4⟩) ?rb4
          case yb4 => intro w hSw; obtain hw := _root_.id hSw; have e0 := hw.cell' (i := 0) rfl; have e1 := hw.cell' (i := 1) rfl; have e2 := hw.cell' (i := 2) rfl; have e3 := hw.cell' (i := 3) rfl; have e4 := hw.cell' (i := 4) rfl; have e5 := hw.cell' (i := 5) rfl; have e6 := hw.cell' (i := 6) rfl; have e7 := hw.cell' (i := 7) rfl; have e8 := hw.cell' (i := 8) rfl; have e9 := hw.cell' (i := 9) rfl; have e10 := hw.cell' (i := 10) rfl; have e11 := hw.cell' (i := 11) rfl; have e12 := hw.cell' (i := 12) rfl; have e13 := hw.cell' (i := 13) rfl; have e14 := hw.cell' (i := 14) rfl; have hSx := hSw; (try dsimp only at hSw); go_simp; try rfl
          case' rb4 => try simp only [List.getElem_toArray, List.getElem_cons_succ, List.getElem_cons_zero, Act.put, List.setIfInBounds_toArray, List.set_cons_zero, List.set_cons_succ]
          refine walk_take 5 (v := ?vb5) rfl (by kernel_rfl) (by kernel_rfl) (by kernel_rfl) (fun _ _ _ h => h) (bq) (Or.inl ⟨by rfl, ?yb5⟩) ?rb5
          case yb5 => intro w hSw; obtain hw := _root_.id hSw; have e0 := hw.cell' (i := 0) rfl; have e1 := hw.cell' (i := 1) rfl; have e2 := hw.cell' (i := 2) rfl; have e3 := hw.cell' (i := 3) rfl; have e4 := hw.cell' (i := 4) rfl; have e5 := hw.cell' (i := 5) rfl; have e6 := hw.cell' (i := 6) rfl; have e7 := hw.cell' (i := 7) rfl; have e8 := hw.cell' (i := 8) rfl; have e9 := hw.cell' (i := 9) rfl; have e10 := hw.cell' (i := 10) rfl; have e11 := hw.cell' (i := 11) rfl; have e12 := hw.cell' (i := 12) rfl; have e13 := hw.cell' (i := 13) rfl; have e14 := hw.cell' (i := 14) rfl; have hSx := hSw; (try dsimp only at hSw); go_simp; try rfl
          case' rb5 => try simp only [List.getElem_toArray, List.getElem_cons_succ, List.getElem_cons_zero, Act.put, List.setIfInBounds_toArray, List.set_cons_zero, List.set_cons_succ]
          refine walk_take 6 (v := ?vb6) rfl (by kernel_rfl) (by kernel_rfl) (by kernel_rfl) (fun _ _ _ h => h) (bq) (Or.inl ⟨by rfl, ?yb6⟩) ?rb6
          case yb6 => intro w hSw; obtain hw := _root_.id hSw; have e0 := hw.cell' (i := 0) rfl; have e1 := hw.cell' (i := 1) rfl; have e2 := hw.cell' (i := 2) rfl; have e3 := hw.cell' (i := 3) rfl; have e4 := hw.cell' (i := 4) rfl; have e5 := hw.cell' (i := 5) rfl; have e6 := hw.cell' (i := 6) rfl; have e7 := hw.cell' (i := 7) rfl; have e8 := hw.cell' (i := 8) rfl; have e9 := hw.cell' (i := 9) rfl; have e10 := hw.cell' (i := 10) rfl; have e11 := hw.cell' (i := 11) rfl; have e12 := hw.cell' (i := 12) rfl; have e13 := hw.cell' (i := 13) rfl; have e14 := hw.cell' (i := 14) rfl; have hSx := hSw; (try dsimp only at hSw); go_simp; try rfl
          case' rb6 => try simp only [List.getElem_toArray, List.getElem_cons_succ, List.getElem_cons_zero, Act.put, List.setIfInBounds_toArray, List.set_cons_zero, List.set_cons_succ]
          refine walk_take 7 (v := ?vb7) rfl (by kernel_rfl) (by kernel_rfl) (by kernel_rfl) (fun _ _ _ h => h) (bq) (Or.inl ⟨by rfl, ?yb7⟩) ?rb7
          case yb7 => intro w hSw; obtain hw := _root_.id hSw; have e0 := hw.cell' (i := 0) rfl; have e1 := hw.cell' (i := 1) rfl; have e2 := hw.cell' (i := 2) rfl; have e3 := hw.cell' (i := 3) rfl; have e4 := hw.cell' (i := 4) rfl; have e5 := hw.cell' (i := 5) rfl; have e6 := hw.cell' (i := 6) rfl; have e7 := hw.cell' (i := 7) rfl; have e8 := hw.cell' (i := 8) rfl; have e9 := hw.cell' (i := 9) rfl; have e10 := hw.cell' (i := 10) rfl; have e11 := hw.cell' (i := 11) rfl; have e12 := hw.cell' (i := 12) rfl; have e13 := hw.cell' (i := 13) rfl; have e14 := hw.cell' (i := 14) rfl; have hSx := hSw; (try dsimp only at hSw); go_simp; try rfl
          case' rb7 => try simp only [List.getElem_toArray, List.getElem_cons_succ, List.getElem_cons_zero, Act.put, List.setIfInBounds_toArray, List.set_cons_zero, List.set_cons_succ]
          refine walk_take 8 (v := ?vb8) rfl (by kernel_rfl) (by kernel_rfl) (by kernel_rfl) (fun _ _ _ h => h) (bq) (Or.inl ⟨by rfl, ?yb8⟩) ?rb8
          case yb8 => intro w hSw; obtain hw := _root_.id hSw; have e0 := hw.cell' (i := 0) rfl; have e1 := hw.cell' (i := 1) rfl; have e2 := hw.cell' (i := 2) rfl; have e3 := hw.cell' (i := 3) rfl; have e4 := hw.cell' (i := 4) rfl; have e5 := hw.cell' (i := 5) rfl; have e6 := hw.cell' (i := 6) rfl; have e7 := hw.cell' (i := 7) rfl; have e8 := hw.cell' (i := 8) rfl; have e9 := hw.cell' (i := 9) rfl; have e10 := hw.cell' (i := 10) rfl; have e11 := hw.cell' (i := 11) rfl; have e12 := hw.cell' (i := 12) rfl; have e13 := hw.cell' (i := 13) rfl; have e14 := hw.cell' (i := 14) rfl; have hSx := hSw; (try dsimp only at hSw); go_simp; try rfl
          case' rb8 => try simp only [List.getElem_toArray, List.getElem_cons_succ, List.getElem_cons_zero, Act.put, List.setIfInBounds_toArray, List.set_cons_zero, List.set_cons_succ]
          refine walk_step 9 rfl (by kernel_rfl) (by kernel_rfl) (fun K hK => ?c9)
          case c9 =>
            rw [if_pos (by kernel_rfl)]
            refine wp_store_row 44 (.tmp 4) (.tmp 42) rfl (w.heap.size + 1) #[.int .i64 yid, .bool yknown, .string yname, .int .i64 ysize, .bool yended, .int .i64 ylast, .int .i64 ysum, .slice A2 yan a2, .slice F2 yn f2, .int .i64 ystage, .int .i64 ytimer, .int .i64 ypatience, .int .i64 ytries, .int .i64 ylimit] rfl rfl 44 _ br takersz rfl (by simp [Value.oneCell']) ?_
            have bq9 := bq.farRow (g := w.heap.size + 1) (by omega) #[.int .i64 yid, .bool yknown, .string yname, .int .i64 ysize, .bool yended, .int .i64 ylast, .int .i64 ysum, .slice A2 yan a2, .slice F2 yn f2, .int .i64 ystage, .int .i64 ytimer, .int .i64 ypatience, .int .i64 ytries, .int .i64 ylimit]
            have br2 := br.row #[.int .i64 yid, .bool yknown, .string yname, .int .i64 ysize, .bool yended, .int .i64 ylast, .int .i64 ysum, .slice A2 yan a2, .slice F2 yn f2, .int .i64 ystage, .int .i64 ytimer, .int .i64 ypatience, .int .i64 ytries, .int .i64 ylimit]
            refine hK _ _ bq9 ?_
            clear hK K
            try simp only [List.getElem_toArray, List.getElem_cons_succ, List.getElem_cons_zero, Act.put, List.setIfInBounds_toArray, List.set_cons_zero, List.set_cons_succ]
            refine walk_take 10 (v := ?vd10) rfl (by kernel_rfl) (by kernel_rfl) (by kernel_rfl) (fun _ _ _ h => h) (bq9) (Or.inl ⟨by rfl, ?yd10⟩) ?rd10
            case yd10 => intro w hSw; (try dsimp only at hSw); go_simp; try rfl
            case' rd10 => try simp only [List.getElem_toArray, List.getElem_cons_succ, List.getElem_cons_zero, Act.put, List.setIfInBounds_toArray, List.set_cons_zero, List.set_cons_succ]
            refine walk_tail (by kernel_rfl) ?_
            simp only [List.drop_succ_cons, List.drop_zero]
            go_wp2_with fail
            refine bodyPost_ret (v := .tuple #[.agg #[.int .i64 yid, .bool yknown, .string yname, .int .i64 ysize, .bool yended, .int .i64 ylast, .int .i64 ysum, .slice A2 yan a2, .slice F2 yn f2, .int .i64 ystage, .int .i64 ytimer, .int .i64 ypatience, .int .i64 ytries, .int .i64 ylimit], .slice O on oc, .int .i64 k]) (results_cell_two rfl _ _ (w.heap.size + 1) 44 _ (0, 0) _ rfl rfl rfl br2 Try.underlying44 rfl takersz) rfl ?_
            exact tk_out (y := ⟨yid, yknown, yname, ysize, yended, ylast, ysum, yhave_, yfile, ystage, ytimer, ypatience, ytries, ylimit⟩) (base := w.heap.size + 2) hB (by omega) (by omega) hM2
end Go.Proofs.Ytianombjgdmbeaa
