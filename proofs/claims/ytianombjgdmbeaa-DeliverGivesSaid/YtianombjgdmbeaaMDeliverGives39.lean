/-
  The document's giver: its end note. The document's giver: a piece's note.
-/
import Derived.Test.YtianombjgdmbeaaMDeliverGives38
import Derived.Test.YtianombjgdmbeaaMDeliverGives28
import Derived.Deep.RegionLaw
import Derived.Deep.RegionHeld3
import Derived.Test.YtianombjgdmbeaaMDeliverGives35
import Derived.Test.YtianombjgdmbeaaMDeliverGives11
namespace Go.Proofs.Ytianombjgdmbeaa
set_option linter.unusedSimpArgs false
set_option linter.unusedVariables false
open Go.RowKit

set_option maxHeartbeats 3200000 in
set_option maxRecDepth 100000 in
theorem gend_any (g : Nat) (x : Gv) (F : Option Addr) (fn fc : Nat) (A : Option Addr) (an ac : Nat) (w : World) (hf : x.file.length = fn) (hF : Rd w F (bvs x.file)) (hz : fn ≤ 140737488351300) (hg : Blk w g 99 (gvc x F fn fc A an ac)) :
    Calls Try.prog 69 #[.pointer (some ⟨g, 0, none⟩)] w fun e w' => e = .returned (ntv (endN x) none 0 0 none 0 0) ∧ Below w.heap.size w w' := by
  have hl := hg.lt
  have HL := Lib.hid hf
  clear hf
  obtain ⟨id, name, file, most, burst, stage, first, at_, again, timer, patience, tries, limit⟩ := x
  unfold gvc at hg
  unfold endN ntv
  dsimp only at HL hg hF ⊢
  go_enter Try.func69, Try.ntmps69
  go_wp2_with fail
  go_region_held3 (fun W => W.cell? ⟨g, 0, none⟩ = some (.int .i64 id) ∧ W.cell? ⟨g, 2, none⟩ = some (.slice F fn fc) ∧ Rd W F (bvs file)) (exact ⟨(hg.alloc _).cell' (i := 0) rfl, (hg.alloc _).cell' (i := 2) rfl, hF.alloc _⟩) ((go_at_call 18; refine (fileSum_any F file fn fc _ HL.out ((hF.alloc _).drew) hz).mono ?_; rintro e w' ⟨rfl, rfl⟩))
  go_wp2_with fail
  have kk := (Blk.new w 27 #[.int .i64 3, .int .i64 id, .string ⟨#[]⟩, .int .i64 (fn : Int), .int .i64 (fileSum file), .int .i64 0, .slice none 0 0, .slice none 0 0, .int .i64 0, .int .i64 0]).drew
  refine bodyPost_ret (v := .agg #[.int .i64 3, .int .i64 id, .string ⟨#[]⟩, .int .i64 (fn : Int), .int .i64 (fileSum file), .int .i64 0, .slice none 0 0, .slice none 0 0, .int .i64 0, .int .i64 0]) (results_cell_row (ty := 27) rfl _ _ w.heap.size 27 _ (0, 0) _ rfl kk Try.underlying27 rfl gnotesz) rfl ?_
  exact ⟨by rw [HL.out], ((Below.refl _ _).alloc (Nat.le_refl _) _).drew⟩
end Go.Proofs.Ytianombjgdmbeaa
namespace Go.Proofs.Ytianombjgdmbeaa
set_option linter.unusedSimpArgs false
set_option linter.unusedVariables false
open Go.RowKit

set_option maxHeartbeats 3200000 in
set_option maxRecDepth 100000 in
theorem gpiece_any (g : Nat) (x : Gv) (F : Option Addr) (fn fc : Nat) (A : Option Addr) (an ac : Nat) (p q base : Nat) (w : World) (hf : x.file.length = fn) (hF : Own w base 5 1 F fn fc (bvs x.file)) (hz : fn ≤ 65536) (hpq : p < q) (hq : q ≤ fn) (hg : Blk w g 99 (gvc x F fn fc A an ac)) :
    Calls Try.prog 68 #[.pointer (some ⟨g, 0, none⟩), .int .i64 (p : Int), .int .i64 (q : Int)] w fun e w' => ∃ D dc, e = .returned (ntv (pieceN x p q) D (q - p) dc none 0 0) ∧ Own w' w.heap.size 5 1 D (q - p) dc (bvs (cutL x.file p q)) ∧ Below w.heap.size w w' := by
  obtain ⟨i0, hi0, hz0, hz1, hz2⟩ := info_parts u8info
  have hl := hg.lt
  have hle := hF.le
  obtain ⟨b, off, rfl, hb1, hb2⟩ := hF.form (by omega)
  have hlen : (cutL x.file p q).length = q - p := by
    have := cutL_len (l := x.file) (a := (p : Int)) (b := (q : Int)) (by omega) (by omega) (by omega)
    omega
  have hR : Rd w (some ⟨b, off + p, none⟩) (bvs (cutL x.file p q)) := by rw [cut_bvs]; exact (hF.rd.take q).drop_lit p
  have HLN : Hid ((bvs (cutL x.file p q)).length = (q - p) * 1) := Lib.hid (by rw [bvs_length, hlen, Nat.mul_one])
  have HR := Lib.hid hR
  clear hf hF hlen hR
  unfold pieceN ntv
  dsimp only
  have d0 : (w.alloc (.cells #[.int .i64 0, .int .i64 0, .string ⟨#[]⟩, .int .i64 0, .int .i64 0, .int .i64 0, .slice none 0 0, .slice none 0 0, .int .i64 0, .int .i64 0] 27)).drew.cell? ⟨g, 0, none⟩ = some (.int .i64 x.id) := (hg.alloc _).cell' (i := 0) rfl
  have d2 : (w.alloc (.cells #[.int .i64 0, .int .i64 0, .string ⟨#[]⟩, .int .i64 0, .int .i64 0, .int .i64 0, .slice none 0 0, .slice none 0 0, .int .i64 0, .int .i64 0] 27)).drew.cell? ⟨g, 2, none⟩ = some (.slice (some ⟨b, off, none⟩) fn fc) := (hg.alloc _).cell' (i := 2) rfl
  have bn := (Blk.new w 27 #[.int .i64 0, .int .i64 0, .string ⟨#[]⟩, .int .i64 0, .int .i64 0, .int .i64 0, .slice none 0 0, .slice none 0 0, .int .i64 0, .int .i64 0]).drew
  have hB : Below w.heap.size w (w.alloc (.cells #[.int .i64 0, .int .i64 0, .string ⟨#[]⟩, .int .i64 0, .int .i64 0, .int .i64 0, .slice none 0 0, .slice none 0 0, .int .i64 0, .int .i64 0] 27)).drew := ((Below.refl _ _).alloc (Nat.le_refl _) _).drew
  go_enter Try.func68, Try.ntmps68
  go_upto_region 1 with fail
  refine heldRegion (fun v => v.cell? ⟨g, 0, none⟩ = some (.int .i64 x.id) ∧ v.cell? ⟨g, 2, none⟩ = some (.slice (some ⟨b, off, none⟩) fn fc)) 16 (by kernel_rfl) (by kernel_rfl) ⟨d0, d2⟩ (fun hSS => ?_)
  clear hSS
  generalize (w.alloc (.cells #[.int .i64 0, .int .i64 0, .string ⟨#[]⟩, .int .i64 0, .int .i64 0, .int .i64 0, .slice none 0 0, .slice none 0 0, .int .i64 0, .int .i64 0] 27)).drew = V at *
  have f1 : q ≤ fc := by omega
  have f2 : p ≤ q := by omega
  have f3 : ¬ fc = p := by omega
  refine walk_take 0 (v := ?va0) rfl (by kernel_rfl) (by kernel_rfl) (by kernel_rfl) (fun _ _ _ h => h) (⟨d0, d2⟩) (Or.inl ⟨by rfl, ?ya0⟩) ?ra0
  case ya0 => intro w hSw; obtain ⟨hw1, hw2⟩ := hSw; (try dsimp only at hSw); go_simp; try rfl
  case' ra0 => try simp only [List.getElem_toArray, List.getElem_cons_succ, List.getElem_cons_zero, Act.put, List.setIfInBounds_toArray, List.set_cons_zero, List.set_cons_succ]
  refine walk_take 1 (v := ?va1) rfl (by kernel_rfl) (by kernel_rfl) (by kernel_rfl) (fun _ _ _ h => h) (⟨d0, d2⟩) (Or.inl ⟨by rfl, ?ya1⟩) ?ra1
  case ya1 => intro w hSw; obtain ⟨hw1, hw2⟩ := hSw; (try dsimp only at hSw); go_simp; try rfl
  case' ra1 => try simp only [List.getElem_toArray, List.getElem_cons_succ, List.getElem_cons_zero, Act.put, List.setIfInBounds_toArray, List.set_cons_zero, List.set_cons_succ]
  refine walk_take 2 (v := ?va2) rfl (by kernel_rfl) (by kernel_rfl) (by kernel_rfl) (fun _ _ _ h => h) (⟨d0, d2⟩) (Or.inl ⟨by rfl, ?ya2⟩) ?ra2
  case ya2 => intro w hSw; obtain ⟨hw1, hw2⟩ := hSw; (try dsimp only at hSw); go_simp; try rfl
  case' ra2 => try simp only [List.getElem_toArray, List.getElem_cons_succ, List.getElem_cons_zero, Act.put, List.setIfInBounds_toArray, List.set_cons_zero, List.set_cons_succ]
  refine walk_take 3 (v := ?va3) rfl (by kernel_rfl) (by kernel_rfl) (by kernel_rfl) (fun _ _ _ h => h) (⟨d0, d2⟩) (Or.inl ⟨by rfl, ?ya3⟩) ?ra3
  case ya3 => intro w hSw; obtain ⟨hw1, hw2⟩ := hSw; (try dsimp only at hSw); go_simp; try rfl
  case' ra3 => try simp only [List.getElem_toArray, List.getElem_cons_succ, List.getElem_cons_zero, Act.put, List.setIfInBounds_toArray, List.set_cons_zero, List.set_cons_succ]
  refine walk_take 4 (v := ?va4) rfl (by kernel_rfl) (by kernel_rfl) (by kernel_rfl) (fun _ _ _ h => h) (⟨d0, d2⟩) (Or.inl ⟨by rfl, ?ya4⟩) ?ra4
  case ya4 => intro w hSw; obtain ⟨hw1, hw2⟩ := hSw; (try dsimp only at hSw); go_simp; try rfl
  case' ra4 => try simp only [List.getElem_toArray, List.getElem_cons_succ, List.getElem_cons_zero, Act.put, List.setIfInBounds_toArray, List.set_cons_zero, List.set_cons_succ]
  refine walk_take 5 (v := ?va5) rfl (by kernel_rfl) (by kernel_rfl) (by kernel_rfl) (fun _ _ _ h => h) (⟨d0, d2⟩) (Or.inl ⟨by rfl, ?ya5⟩) ?ra5
  case ya5 => intro w hSw; obtain ⟨hw1, hw2⟩ := hSw; (try dsimp only at hSw); go_simp; try rfl
  case' ra5 => try simp only [List.getElem_toArray, List.getElem_cons_succ, List.getElem_cons_zero, Act.put, List.setIfInBounds_toArray, List.set_cons_zero, List.set_cons_succ]
  refine walk_take 6 (v := ?va6) rfl (by kernel_rfl) (by kernel_rfl) (by kernel_rfl) (fun _ _ _ h => h) (⟨d0, d2⟩) (Or.inl ⟨by rfl, ?ya6⟩) ?ra6
  case ya6 => intro w hSw; obtain ⟨hw1, hw2⟩ := hSw; (try dsimp only at hSw); go_simp; try rfl
  case' ra6 => try simp only [List.getElem_toArray, List.getElem_cons_succ, List.getElem_cons_zero, Act.put, List.setIfInBounds_toArray, List.set_cons_zero, List.set_cons_succ]
  refine walk_take 7 (v := ?va7) rfl (by kernel_rfl) (by kernel_rfl) (by kernel_rfl) (fun _ _ _ h => h) (⟨d0, d2⟩) (Or.inl ⟨by rfl, ?ya7⟩) ?ra7
  case ya7 => intro w hSw; obtain ⟨hw1, hw2⟩ := hSw; (try dsimp only at hSw); go_simp; try rfl
  case' ra7 => try simp only [List.getElem_toArray, List.getElem_cons_succ, List.getElem_cons_zero, Act.put, List.setIfInBounds_toArray, List.set_cons_zero, List.set_cons_succ]
  refine walk_take 8 (v := ?va8) rfl (by kernel_rfl) (by kernel_rfl) (by kernel_rfl) (fun _ _ _ h => h) (⟨d0, d2⟩) (Or.inl ⟨by rfl, ?ya8⟩) ?ra8
  case ya8 => intro w hSw; obtain ⟨hw1, hw2⟩ := hSw; (try dsimp only at hSw); go_simp; try rfl
  case' ra8 => try simp only [List.getElem_toArray, List.getElem_cons_succ, List.getElem_cons_zero, Act.put, List.setIfInBounds_toArray, List.set_cons_zero, List.set_cons_succ]
  refine walk_take 9 (v := ?va9) rfl (by kernel_rfl) (by kernel_rfl) (by kernel_rfl) (fun _ _ _ h => h) (⟨d0, d2⟩) (Or.inl ⟨by rfl, ?ya9⟩) ?ra9
  case ya9 => intro w hSw; obtain ⟨hw1, hw2⟩ := hSw; (try dsimp only at hSw); go_simp; try rfl
  case' ra9 => try simp only [List.getElem_toArray, List.getElem_cons_succ, List.getElem_cons_zero, Act.put, List.setIfInBounds_toArray, List.set_cons_zero, List.set_cons_succ]
  refine walk_take 10 (v := ?va10) rfl (by kernel_rfl) (by kernel_rfl) (by kernel_rfl) (fun _ _ _ h => h) (⟨d0, d2⟩) (Or.inl ⟨by rfl, ?ya10⟩) ?ra10
  case ya10 => intro w hSw; obtain ⟨hw1, hw2⟩ := hSw; (try dsimp only at hSw); go_simp; try rfl
  case' ra10 => try simp only [List.getElem_toArray, List.getElem_cons_succ, List.getElem_cons_zero, Act.put, List.setIfInBounds_toArray, List.set_cons_zero, List.set_cons_succ]
  refine walk_take 11 (v := ?va11) rfl (by kernel_rfl) (by kernel_rfl) (by kernel_rfl) (fun _ _ _ h => h) (⟨d0, d2⟩) (Or.inl ⟨by rfl, ?ya11⟩) ?ra11
  case ya11 => intro w hSw; obtain ⟨hw1, hw2⟩ := hSw; (try dsimp only at hSw); go_simp; try rfl
  case' ra11 => try simp only [List.getElem_toArray, List.getElem_cons_succ, List.getElem_cons_zero, Act.put, List.setIfInBounds_toArray, List.set_cons_zero, List.set_cons_succ]
  refine walk_take 12 (v := ?va12) rfl (by kernel_rfl) (by kernel_rfl) (by kernel_rfl) (fun _ _ _ h => h) (⟨d0, d2⟩) (Or.inl ⟨by rfl, ?ya12⟩) ?ra12
  case ya12 => intro w hSw; obtain ⟨hw1, hw2⟩ := hSw; (try dsimp only at hSw); go_simp; try rfl
  case' ra12 => try simp only [List.getElem_toArray, List.getElem_cons_succ, List.getElem_cons_zero, Act.put, List.setIfInBounds_toArray, List.set_cons_zero, List.set_cons_succ]
  refine walk_take 13 (v := ?va13) rfl (by kernel_rfl) (by kernel_rfl) (by kernel_rfl) (fun _ _ _ h => h) (⟨d0, d2⟩) (Or.inl ⟨by rfl, ?ya13⟩) ?ra13
  case ya13 => intro w hSw; obtain ⟨hw1, hw2⟩ := hSw; (try dsimp only at hSw); go_simp; try rfl
  case' ra13 => try simp only [List.getElem_toArray, List.getElem_cons_succ, List.getElem_cons_zero, Act.put, List.setIfInBounds_toArray, List.set_cons_zero, List.set_cons_succ]
  have hzb := bn.lt
  have hRV := HR.out.below hB
  have q4 : 0 + (q - p) ≤ maxLen := by unfold maxLen; omega
  have q5 : (0 + (q - p)) * 1 ≤ 140737488355328 := by omega
  have q6 : w.heap.size + 1 ≤ V.heap.size := by omega
  refine walk_step 14 rfl (by kernel_rfl) (by kernel_rfl) (fun K hK => ?c14)
  case c14 =>
    rw [if_pos (by kernel_rfl)]
    refine wp_append_Own _ (.const (.slice none 0 0)) (.tmp 20) 23 rfl (w.heap.size + 1) 5 i0 _ 1 1 Try.underlying23 hi0 hz0 hz1 hz2 rfl none 0 0 [] rfl (Own.none_ _ _ _ _) (some ⟨b, off + p, none⟩) (q - p) (fc - p) (bvs (cutL x.file p q)) (by rfl) HLN.out hRV (bvs_one _) q4 q5 q6 ?_
    intro D dc w5 hO5 hg5 hor5
    rw [Nat.zero_add] at hO5
    have d0' : w5.cell? ⟨g, 0, none⟩ = some (.int .i64 x.id) := by
      have h1 : V.heap[g]? = some (.cells (gvc x (some ⟨b, off, none⟩) fn fc A an ac) 99 (0, 0)) := (hB.block g hl).trans hg
      have h2 : Blk w5 g 99 (gvc x (some ⟨b, off, none⟩) fn fc A an ac) := Blk.grown h1 hg5 (by simp [blk])
      exact h2.cell' (i := 0) rfl
    have d2' : w5.cell? ⟨g, 2, none⟩ = some (.slice (some ⟨b, off, none⟩) fn fc) := by
      have h1 : V.heap[g]? = some (.cells (gvc x (some ⟨b, off, none⟩) fn fc A an ac) 99 (0, 0)) := (hB.block g hl).trans hg
      have h2 : Blk w5 g 99 (gvc x (some ⟨b, off, none⟩) fn fc A an ac) := Blk.grown h1 hg5 (by simp [blk])
      exact h2.cell' (i := 2) rfl
    have bn5 := bn.grown hg5 (by simp [blk])
    have hB5 : Below w.heap.size w w5 := Below.grown' (A := Option.none) hB hg5 hB.size (fun k hk => by simp [blk] at hk)
    refine hK _ _ ⟨d0', d2'⟩ ?_
    clear hK K d0 d2 bn hB hg5 hor5
    try simp only [List.getElem_toArray, List.getElem_cons_succ, List.getElem_cons_zero, Act.put, List.setIfInBounds_toArray, List.set_cons_zero, List.set_cons_succ]
    refine walk_take 15 (v := ?vb15) rfl (by kernel_rfl) (by kernel_rfl) (by kernel_rfl) (fun _ _ _ h => h) (⟨d0', d2'⟩) (Or.inl ⟨by rfl, ?yb15⟩) ?rb15
    case yb15 => intro w hSw; obtain ⟨hw1, hw2⟩ := hSw; (try dsimp only at hSw); go_simp; try rfl
    case' rb15 => try simp only [List.getElem_toArray, List.getElem_cons_succ, List.getElem_cons_zero, Act.put, List.setIfInBounds_toArray, List.set_cons_zero, List.set_cons_succ]
    refine walk_tail (by kernel_rfl) ?_
    simp only [List.drop_succ_cons, List.drop_zero]
    go_wp2_with (refine wpList_store_row rfl 27 (.tmp 6) (.tmp 22) rfl w.heap.size #[.int .i64 2, .int .i64 x.id, .string ⟨#[]⟩, .int .i64 0, .int .i64 0, .int .i64 (p : Int), .slice D (q - p) dc, .slice none 0 0, .int .i64 0, .int .i64 0] rfl rfl 27 _ bn5 gnotesz rfl (by simp [Value.oneCell']) ?_)
    have bn6 := bn5.row #[.int .i64 2, .int .i64 x.id, .string ⟨#[]⟩, .int .i64 0, .int .i64 0, .int .i64 (p : Int), .slice D (q - p) dc, .slice none 0 0, .int .i64 0, .int .i64 0]
    refine bodyPost_ret (v := .agg #[.int .i64 2, .int .i64 x.id, .string ⟨#[]⟩, .int .i64 0, .int .i64 0, .int .i64 (p : Int), .slice D (q - p) dc, .slice none 0 0, .int .i64 0, .int .i64 0]) (results_cell_row (ty := 27) rfl _ _ w.heap.size 27 _ (0, 0) _ rfl bn6 Try.underlying27 rfl gnotesz) rfl ?_
    exact ⟨D, dc, rfl, (hO5.rowFar (r := w.heap.size) (by omega) _).mono (by omega), below_row hB5 (Nat.le_refl _) _⟩
end Go.Proofs.Ytianombjgdmbeaa
