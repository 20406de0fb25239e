/-
  The document's NoteOf: a meta. The document's NoteOf: a piece.
-/
import Derived.Test.YtianombjgdmbeaaMDeliverDecodes32
namespace Go.Proofs.Ytianombjgdmbeaa
set_option linter.unusedSimpArgs false
set_option linter.unusedVariables false
open Go.RowKit

set_option maxHeartbeats 6400000 in
set_option maxRecDepth 100000 in
theorem noteOf_1 (A : Option Addr) (l : List UInt8) (n cap : Nat) (w : World) (hl : l.length = n) (ha : Rd w A (bvs l)) (hc : n ≤ cap) (hn : n ≤ 140737488351232) (h4 : 4 ≤ n) (hk : (bAt l 0 : Int) = 1) :
    Calls Try.prog 15 #[.slice A n cap] w fun e w' => DecRes w w' (decR l) e := by
  have hbv : bvs (l.drop 3) = (bvs l).drop 3 := by simp [bvs, List.map_drop]
  obtain ⟨b, o, rfl, c0⟩ := ha.byte (k := 0) (by omega)
  have c1 := ha.cell (bvs_get (k := 1) (l := l) (by omega))
  have c2 := ha.cell (bvs_get (k := 2) (l := l) (by omega))
  have hR3 : Rd w (some ⟨b, o + 3, none⟩) (bvs (l.drop 3)) := by rw [hbv]; exact ha.drop_lit 3
  rw [← bAt_in (l := l) (i := 0) (by omega)] at c0
  rw [← bAt_in (l := l) (i := 1) (by omega)] at c1
  rw [← bAt_in (l := l) (i := 2) (by omega)] at c2
  rw [Nat.add_zero] at c0
  have b1 := bAt_lt l 1
  have b2 := bAt_lt l 2
  have HDN := Lib.hid (decR_none (l := l) (by omega) hk rfl)
  have HDS := Lib.hid (fun nt => decR_some (l := l) (n := nt) (by omega) hk rfl)
  have kb0 : 0 ≤ (1 : Int) ∧ (1 : Int) < 256 := by have := bAt_lt l 0; omega
  have hcm : (l.drop 3).length = n - 3 := by rw [List.length_drop, hl]
  rw [hk] at c0
  have HL := Lib.hid hl
  clear hbv hk hl ha
  generalize bAt l 1 = x1 at *
  generalize bAt l 2 = x2 at *
  have o1 : bits .or .i64 ((x1 : Int) * 256) (x2 : Int) = (x1 : Int) * 256 + (x2 : Int) := by
    have h := or_i64 (x := x1 * 256) (y := x2) (m := 8) (by omega) (by omega) (by omega)
    rw [show ((x1 * 256 : Nat) : Int) = (x1 : Int) * 256 by omega] at h
    rw [h]
    omega
  obtain ⟨id, hid⟩ : ∃ id, (x1 : Int) * 256 + (x2 : Int) = id := ⟨_, rfl⟩
  rw [hid] at o1 HDN HDS
  obtain ⟨c, hcc⟩ : ∃ c, l.drop 3 = c := ⟨_, rfl⟩
  rw [hcc] at hR3 HDN HDS hcm
  obtain ⟨m, rfl⟩ : ∃ m, n = m + 3 := ⟨n - 3, by omega⟩
  obtain ⟨d, rfl⟩ : ∃ d, cap = d + 3 := ⟨cap - 3, by omega⟩
  rw [Nat.add_sub_cancel] at hcm
  have hm1 : 1 ≤ m := by omega
  have hmd : m ≤ d := by omega
  clear hcc hid
  have n4 : ¬ (m : Int) + 3 < 4 := by omega
  have n4n : ¬ m + 3 < 4 := by omega
  have pi0 : (0 : Int) < (m : Int) + 3 := by omega
  have pi1 : (1 : Int) < (m : Int) + 3 := by omega
  have pi2 : (2 : Int) < (m : Int) + 3 := by omega
  have pi3 : (3 : Int) ≤ (m : Int) + 3 := by omega
  have pi3d : (3 : Int) ≤ (d : Int) + 3 := by omega
  have j0 : 0 < m + 3 := by omega
  have j1 : 1 < m + 3 := by omega
  have j2 : 2 < m + 3 := by omega
  have j3 : 3 ≤ m + 3 := by omega
  have j4 : ¬ d + 3 = 3 := by omega
  have hV0 : Below w.heap.size w (w.alloc (.cells #[.int .i64 0, .int .i64 0, .string ⟨#[]⟩, .int .i64 0, .int .i64 0, .int .i64 0, .slice none 0 0, .slice none 0 0, .int .i64 0, .int .i64 0] 27)) := (Below.refl _ _).alloc (Nat.le_refl _) _
  have z0 := (Blk.new w 27 #[.int .i64 0, .int .i64 0, .string ⟨#[]⟩, .int .i64 0, .int .i64 0, .int .i64 0, .slice none 0 0, .slice none 0 0, .int .i64 0, .int .i64 0])
  have d0 : (w.alloc (.cells #[.int .i64 0, .int .i64 0, .string ⟨#[]⟩, .int .i64 0, .int .i64 0, .int .i64 0, .slice none 0 0, .slice none 0 0, .int .i64 0, .int .i64 0] 27)).drew.cell? ⟨b, o, none⟩ = some (.int .u8 1) := (World.cell?_of_block (w := w) (a := ⟨b, o, none⟩) (hV0.block b (World.block_lt_of_cell? _ _ c0))).trans c0
  have d1 : (w.alloc (.cells #[.int .i64 0, .int .i64 0, .string ⟨#[]⟩, .int .i64 0, .int .i64 0, .int .i64 0, .slice none 0 0, .slice none 0 0, .int .i64 0, .int .i64 0] 27)).drew.cell? ⟨b, o + 1, none⟩ = some (.int .u8 (x1 : Int)) := (World.cell?_of_block (w := w) (a := ⟨b, o + 1, none⟩) (hV0.block b (World.block_lt_of_cell? _ _ c1))).trans c1
  have d2 : (w.alloc (.cells #[.int .i64 0, .int .i64 0, .string ⟨#[]⟩, .int .i64 0, .int .i64 0, .int .i64 0, .slice none 0 0, .slice none 0 0, .int .i64 0, .int .i64 0] 27)).drew.cell? ⟨b, o + 2, none⟩ = some (.int .u8 (x2 : Int)) := (World.cell?_of_block (w := w) (a := ⟨b, o + 2, none⟩) (hV0.block b (World.block_lt_of_cell? _ _ c2))).trans c2
  have HRw := Lib.hid hR3
  have hlb : b < _ := World.block_lt_of_cell? _ _ d0
  have hlw : b < w.heap.size := World.block_lt_of_cell? _ _ c0
  clear c0 c1 c2
  go_enter Try.func15, Try.ntmps15
  go_upto_region 3 with fail
  refine heldRegion (fun v => v.cell? ⟨b, o, none⟩ = some (.int .u8 1) ∧ v.cell? ⟨b, o + 1, none⟩ = some (.int .u8 (x1 : Int)) ∧ v.cell? ⟨b, o + 2, none⟩ = some (.int .u8 (x2 : Int))) 16 (by kernel_rfl) (by kernel_rfl) ⟨d0, d1, d2⟩ (fun hSS => ?_)
  clear hSS
  replace z0 := z0.drew
  replace hV0 := hV0.drew
  have zV : (w.alloc (.cells #[.int .i64 0, .int .i64 0, .string ⟨#[]⟩, .int .i64 0, .int .i64 0, .int .i64 0, .slice none 0 0, .slice none 0 0, .int .i64 0, .int .i64 0] 27)).drew.heap.size = w.heap.size + 1 := by simp
  have HZV := Lib.hid zV
  clear zV
  generalize (w.alloc (.cells #[.int .i64 0, .int .i64 0, .string ⟨#[]⟩, .int .i64 0, .int .i64 0, .int .i64 0, .slice none 0 0, .slice none 0 0, .int .i64 0, .int .i64 0] 27)).drew = V at *
  refine walk_take 0 (v := ?va0) rfl (by kernel_rfl) (by kernel_rfl) (by kernel_rfl) (fun _ _ _ h => h) (⟨d0, d1, d2⟩) (Or.inl ⟨by rfl, ?ya0⟩) ?ra0
  case ya0 => intro w hSw; obtain ⟨hw0, hw1, hw2⟩ := hSw; (try dsimp only at hSw); go_simp; try rfl
  case' ra0 => try simp only [List.getElem_toArray, List.getElem_cons_succ, List.getElem_cons_zero, Act.put, List.setIfInBounds_toArray, List.set_cons_zero, List.set_cons_succ]
  refine walk_take 1 (v := ?va1) rfl (by kernel_rfl) (by kernel_rfl) (by kernel_rfl) (fun _ _ _ h => h) (⟨d0, d1, d2⟩) (Or.inl ⟨by rfl, ?ya1⟩) ?ra1
  case ya1 => intro w hSw; obtain ⟨hw0, hw1, hw2⟩ := hSw; (try dsimp only at hSw); go_simp; try rfl
  case' ra1 => try simp only [List.getElem_toArray, List.getElem_cons_succ, List.getElem_cons_zero, Act.put, List.setIfInBounds_toArray, List.set_cons_zero, List.set_cons_succ]
  refine walk_take 2 (v := ?va2) rfl (by kernel_rfl) (by kernel_rfl) (by kernel_rfl) (fun _ _ _ h => h) (⟨d0, d1, d2⟩) (Or.inl ⟨by rfl, ?ya2⟩) ?ra2
  case ya2 => intro w hSw; obtain ⟨hw0, hw1, hw2⟩ := hSw; (try dsimp only at hSw); go_simp; try rfl
  case' ra2 => try simp only [List.getElem_toArray, List.getElem_cons_succ, List.getElem_cons_zero, Act.put, List.setIfInBounds_toArray, List.set_cons_zero, List.set_cons_succ]
  refine walk_take 3 (v := ?va3) rfl (by kernel_rfl) (by kernel_rfl) (by kernel_rfl) (fun _ _ _ h => h) (⟨d0, d1, d2⟩) (Or.inl ⟨by rfl, ?ya3⟩) ?ra3
  case ya3 => intro w hSw; obtain ⟨hw0, hw1, hw2⟩ := hSw; (try dsimp only at hSw); go_simp; try rfl
  case' ra3 => try simp only [List.getElem_toArray, List.getElem_cons_succ, List.getElem_cons_zero, Act.put, List.setIfInBounds_toArray, List.set_cons_zero, List.set_cons_succ]
  refine walk_take 4 (v := ?va4) rfl (by kernel_rfl) (by kernel_rfl) (by kernel_rfl) (fun _ _ _ h => h) (⟨d0, d1, d2⟩) (Or.inl ⟨by rfl, ?ya4⟩) ?ra4
  case ya4 => intro w hSw; obtain ⟨hw0, hw1, hw2⟩ := hSw; (try dsimp only at hSw); go_simp; try rfl
  case' ra4 => try simp only [List.getElem_toArray, List.getElem_cons_succ, List.getElem_cons_zero, Act.put, List.setIfInBounds_toArray, List.set_cons_zero, List.set_cons_succ]
  refine walk_take 5 (v := ?va5) rfl (by kernel_rfl) (by kernel_rfl) (by kernel_rfl) (fun _ _ _ h => h) (⟨d0, d1, d2⟩) (Or.inl ⟨by rfl, ?ya5⟩) ?ra5
  case ya5 => intro w hSw; obtain ⟨hw0, hw1, hw2⟩ := hSw; (try dsimp only at hSw); go_simp; try rfl
  case' ra5 => try simp only [List.getElem_toArray, List.getElem_cons_succ, List.getElem_cons_zero, Act.put, List.setIfInBounds_toArray, List.set_cons_zero, List.set_cons_succ]
  refine walk_take 6 (v := ?va6) rfl (by kernel_rfl) (by kernel_rfl) (by kernel_rfl) (fun _ _ _ h => h) (⟨d0, d1, d2⟩) (Or.inl ⟨by rfl, ?ya6⟩) ?ra6
  case ya6 => intro w hSw; obtain ⟨hw0, hw1, hw2⟩ := hSw; (try dsimp only at hSw); go_simp; try rfl
  case' ra6 => try simp only [List.getElem_toArray, List.getElem_cons_succ, List.getElem_cons_zero, Act.put, List.setIfInBounds_toArray, List.set_cons_zero, List.set_cons_succ]
  refine walk_take 7 (v := ?va7) rfl (by kernel_rfl) (by kernel_rfl) (by kernel_rfl) (fun _ _ _ h => h) (⟨d0, d1, d2⟩) (Or.inl ⟨by rfl, ?ya7⟩) ?ra7
  case ya7 => intro w hSw; obtain ⟨hw0, hw1, hw2⟩ := hSw; (try dsimp only at hSw); go_simp; try rfl
  case' ra7 => try simp only [List.getElem_toArray, List.getElem_cons_succ, List.getElem_cons_zero, Act.put, List.setIfInBounds_toArray, List.set_cons_zero, List.set_cons_succ]
  refine walk_take 8 (v := ?va8) rfl (by kernel_rfl) (by kernel_rfl) (by kernel_rfl) (fun _ _ _ h => h) (⟨d0, d1, d2⟩) (Or.inl ⟨by rfl, ?ya8⟩) ?ra8
  case ya8 => intro w hSw; obtain ⟨hw0, hw1, hw2⟩ := hSw; (try dsimp only at hSw); go_simp; try rfl
  case' ra8 => try simp only [List.getElem_toArray, List.getElem_cons_succ, List.getElem_cons_zero, Act.put, List.setIfInBounds_toArray, List.set_cons_zero, List.set_cons_succ]
  refine walk_take 9 (v := ?va9) rfl (by kernel_rfl) (by kernel_rfl) (by kernel_rfl) (fun _ _ _ h => h) (⟨d0, d1, d2⟩) (Or.inl ⟨by rfl, ?ya9⟩) ?ra9
  case ya9 => intro w hSw; obtain ⟨hw0, hw1, hw2⟩ := hSw; (try dsimp only at hSw); go_simp; try rfl
  case' ra9 => try simp only [List.getElem_toArray, List.getElem_cons_succ, List.getElem_cons_zero, Act.put, List.setIfInBounds_toArray, List.set_cons_zero, List.set_cons_succ]
  refine walk_take 10 (v := ?va10) rfl (by kernel_rfl) (by kernel_rfl) (by kernel_rfl) (fun _ _ _ h => h) (⟨d0, d1, d2⟩) (Or.inl ⟨by rfl, ?ya10⟩) ?ra10
  case ya10 => intro w hSw; obtain ⟨hw0, hw1, hw2⟩ := hSw; (try dsimp only at hSw); go_simp; try rfl
  case' ra10 => try simp only [List.getElem_toArray, List.getElem_cons_succ, List.getElem_cons_zero, Act.put, List.setIfInBounds_toArray, List.set_cons_zero, List.set_cons_succ]
  refine walk_take 11 (v := ?va11) rfl (by kernel_rfl) (by kernel_rfl) (by kernel_rfl) (fun _ _ _ h => h) (⟨d0, d1, d2⟩) (Or.inl ⟨by rfl, ?ya11⟩) ?ra11
  case ya11 => intro w hSw; obtain ⟨hw0, hw1, hw2⟩ := hSw; (try dsimp only at hSw); go_simp; try rfl
  case' ra11 => try simp only [List.getElem_toArray, List.getElem_cons_succ, List.getElem_cons_zero, Act.put, List.setIfInBounds_toArray, List.set_cons_zero, List.set_cons_succ]
  refine walk_take 12 (v := ?va12) rfl (by kernel_rfl) (by kernel_rfl) (by kernel_rfl) (fun _ _ _ h => h) (⟨d0, d1, d2⟩) (Or.inl ⟨by rfl, ?ya12⟩) ?ra12
  case ya12 => intro w hSw; obtain ⟨hw0, hw1, hw2⟩ := hSw; (try dsimp only at hSw); go_simp; try rfl
  case' ra12 => try simp only [List.getElem_toArray, List.getElem_cons_succ, List.getElem_cons_zero, Act.put, List.setIfInBounds_toArray, List.set_cons_zero, List.set_cons_succ]
  refine walk_take 13 (v := ?va13) rfl (by kernel_rfl) (by kernel_rfl) (by kernel_rfl) (fun _ _ _ h => h) (⟨d0, d1, d2⟩) (Or.inl ⟨by rfl, ?ya13⟩) ?ra13
  case ya13 => intro w hSw; obtain ⟨hw0, hw1, hw2⟩ := hSw; (try dsimp only at hSw); go_simp; try rfl
  case' ra13 => try simp only [List.getElem_toArray, List.getElem_cons_succ, List.getElem_cons_zero, Act.put, List.setIfInBounds_toArray, List.set_cons_zero, List.set_cons_succ]
  refine walk_take 14 (v := ?va14) rfl (by kernel_rfl) (by kernel_rfl) (by kernel_rfl) (fun _ _ _ h => h) (⟨d0, d1, d2⟩) (Or.inl ⟨by rfl, ?ya14⟩) ?ra14
  case ya14 => intro w hSw; obtain ⟨hw0, hw1, hw2⟩ := hSw; (try dsimp only at hSw); go_simp; try rfl
  case' ra14 => try simp only [List.getElem_toArray, List.getElem_cons_succ, List.getElem_cons_zero, Act.put, List.setIfInBounds_toArray, List.set_cons_zero, List.set_cons_succ]
  refine walk_step 15 rfl (by kernel_rfl) (by kernel_rfl) (fun K hK => ?al)
  case al =>
    go_simp
    have e0 : (V.alloc (.cells #[.int .i64 0, .int .i64 0, .string ⟨#[]⟩, .int .i64 0, .int .i64 0, .int .i64 0, .slice none 0 0, .slice none 0 0, .int .i64 0, .int .i64 0] 27)).cell? ⟨b, o, none⟩ = some (.int .u8 1) := (World.cell?_of_block (w := V) (a := ⟨b, o, none⟩) (Below.heap_alloc V _ b hlb)).trans d0
    have e1 : (V.alloc (.cells #[.int .i64 0, .int .i64 0, .string ⟨#[]⟩, .int .i64 0, .int .i64 0, .int .i64 0, .slice none 0 0, .slice none 0 0, .int .i64 0, .int .i64 0] 27)).cell? ⟨b, o + 1, none⟩ = some (.int .u8 (x1 : Int)) := (World.cell?_of_block (w := V) (a := ⟨b, o + 1, none⟩) (Below.heap_alloc V _ b hlb)).trans d1
    have e2 : (V.alloc (.cells #[.int .i64 0, .int .i64 0, .string ⟨#[]⟩, .int .i64 0, .int .i64 0, .int .i64 0, .slice none 0 0, .slice none 0 0, .int .i64 0, .int .i64 0] 27)).cell? ⟨b, o + 2, none⟩ = some (.int .u8 (x2 : Int)) := (World.cell?_of_block (w := V) (a := ⟨b, o + 2, none⟩) (Below.heap_alloc V _ b hlb)).trans d2
    refine hK _ _ ⟨e0, e1, e2⟩ ?_
    clear hK K e0 e1 e2 d0 d1 d2
    try simp only [List.getElem_toArray, List.getElem_cons_succ, List.getElem_cons_zero, Act.put, List.setIfInBounds_toArray, List.set_cons_zero, List.set_cons_succ]
    have wx : IntKind.i64.wrap (x1 : Int) = (x1 : Int) := by rw [IntKind.wrap_i64]; omega
    have wy : IntKind.i64.wrap (x2 : Int) = (x2 : Int) := by rw [IntKind.wrap_i64]; omega
    have wz : IntKind.i64.wrap ((x1 : Int) * 256) = (x1 : Int) * 256 := by rw [IntKind.wrap_i64]; omega
    have wk : IntKind.i64.wrap 1 = 1 := by rw [IntKind.wrap_i64]; omega
    simp only [wx, wy, wz, wk, o1]
    clear wx wy wz wk o1 b1 b2 kb0
    refine walk_tail (by kernel_rfl) ?_
    simp only [List.drop_succ_cons, List.drop_zero]
    have hB := (hV0.alloc hV0.size (.cells #[.int .i64 0, .int .i64 0, .string ⟨#[]⟩, .int .i64 0, .int .i64 0, .int .i64 0, .slice none 0 0, .slice none 0 0, .int .i64 0, .int .i64 0] 27))
    have bq := Blk.new V 27 #[.int .i64 0, .int .i64 0, .string ⟨#[]⟩, .int .i64 0, .int .i64 0, .int .i64 0, .slice none 0 0, .slice none 0 0, .int .i64 0, .int .i64 0]
    replace z0 := z0.alloc (.cells #[.int .i64 0, .int .i64 0, .string ⟨#[]⟩, .int .i64 0, .int .i64 0, .int .i64 0, .slice none 0 0, .slice none 0 0, .int .i64 0, .int .i64 0] 27)
    have hRc := (hR3.below hV0).alloc (.cells #[.int .i64 0, .int .i64 0, .string ⟨#[]⟩, .int .i64 0, .int .i64 0, .int .i64 0, .slice none 0 0, .slice none 0 0, .int .i64 0, .int .i64 0] 27)
    rw [HZV.out] at bq ⊢
    clear hV0 hR3 HZV
    generalize V.alloc (.cells #[.int .i64 0, .int .i64 0, .string ⟨#[]⟩, .int .i64 0, .int .i64 0, .int .i64 0, .slice none 0 0, .slice none 0 0, .int .i64 0, .int .i64 0] 27) = W at *
    go_upto_region 4 with (refine wpList_store_row rfl 27 (.tmp 4) (.tmp 25) rfl (w.heap.size + 1) #[.int .i64 1, .int .i64 id, .string ⟨#[]⟩, .int .i64 0, .int .i64 0, .int .i64 0, .slice none 0 0, .slice none 0 0, .int .i64 0, .int .i64 0] rfl rfl 27 _ bq notesz rfl (by simp [Value.oneCell']) ?_)
    replace bq := bq.row #[.int .i64 1, .int .i64 id, .string ⟨#[]⟩, .int .i64 0, .int .i64 0, .int .i64 0, .slice none 0 0, .slice none 0 0, .int .i64 0, .int .i64 0]
    have br := z0.farRow (g := w.heap.size + 1) (by omega) #[.int .i64 1, .int .i64 id, .string ⟨#[]⟩, .int .i64 0, .int .i64 0, .int .i64 0, .slice none 0 0, .slice none 0 0, .int .i64 0, .int .i64 0]
    replace hB := below_row hB (g := w.heap.size + 1) (by omega) #[.int .i64 1, .int .i64 id, .string ⟨#[]⟩, .int .i64 0, .int .i64 0, .int .i64 0, .slice none 0 0, .slice none 0 0, .int .i64 0, .int .i64 0]
    replace hRc := hRc.turned (grownBy_turned (grown_row W (w.heap.size + 1) #[.int .i64 1, .int .i64 id, .string ⟨#[]⟩, .int .i64 0, .int .i64 0, .int .i64 0, .slice none 0 0, .slice none 0 0, .int .i64 0, .int .i64 0])) (fun q hq e => by
      have h1 : w.heap.size + 1 = q := Option.some.inj e
      have h2 : b = q := Option.some.inj hq
      omega)
    clear z0
    generalize W.setRow (w.heap.size + 1) #[.int .i64 1, .int .i64 id, .string ⟨#[]⟩, .int .i64 0, .int .i64 0, .int .i64 0, .slice none 0 0, .slice none 0 0, .int .i64 0, .int .i64 0] = W2 at *
    have x0 := bq.cell' (i := 0) rfl
    by_cases hm : m < 4
    ·
      have hmi : ¬ (4 : Int) ≤ (m : Int) := by omega
      have HDC : Hid (decC 1 id c = some (⟨1, id, ⟨#[]⟩, 0, 0, 0, [], [], 0, 0⟩ : Nt)) := Lib.hid (by rw [decC_1, if_neg (by omega), if_neg (by omega)])
      clear hm hRc
      have HE := Lib.hid (HDS.out _ HDC.out)
      have hD8 : Own W2 (w.heap.size + 2) 5 1 none 0 0 (bvs (⟨1, id, ⟨#[]⟩, 0, 0, 0, [], [], 0, 0⟩ : Nt).data) := (Own.none_ _ _ _ _)
      have hG8 : Own W2 (w.heap.size + 2) 66 2 none 0 0 (gps (⟨1, id, ⟨#[]⟩, 0, 0, 0, [], [], 0, 0⟩ : Nt).gaps) := (Own.none_ _ _ _ _)
      have CM := Lib.hid (noteMay_any (⟨1, id, ⟨#[]⟩, 0, 0, 0, [], [], 0, 0⟩ : Nt) none 0 0 none 0 0 W2 rfl rfl hG8.rd (by omega) (by omega))
      obtain ⟨ok, hok⟩ : ∃ ok, noteOk (⟨1, id, ⟨#[]⟩, 0, 0, 0, [], [], 0, 0⟩ : Nt) = ok := ⟨_, rfl⟩
      rw [hok] at CM HE
      unfold ntv at CM
      dsimp only at CM
      clear hok HDC HDN HDS
      go_wp2_with (refine wpList_load_row rfl 27 (.tmp 4) rfl (w.heap.size + 1) rfl 27 #[.int .i64 1, .int .i64 id, .string ⟨#[]⟩, .int .i64 0, .int .i64 0, .int .i64 0, .slice none 0 0, .slice none 0 0, .int .i64 0, .int .i64 0] (0, 0) _ bq Try.underlying27 rfl notesz ?_)
      refine CM.out.mono ?_
      rintro e w9 ⟨rfl, hb9⟩
      replace bq := bq.step hb9
      replace br := br.step hb9
      replace hB := hB.trans (hb9.mono hB.size)
      have hD9 : Own w9 (w.heap.size + 2) 5 1 none 0 0 (bvs (⟨1, id, ⟨#[]⟩, 0, 0, 0, [], [], 0, 0⟩ : Nt).data) := hD8.below hb9
      have hG9 : Own w9 (w.heap.size + 2) 66 2 none 0 0 (gps (⟨1, id, ⟨#[]⟩, 0, 0, 0, [], [], 0, 0⟩ : Nt).gaps) := hG8.below hb9
      clear hb9 CM hD8 hG8
      cases ok
      ·
        go_wp2_with (refine wpList_store_row rfl 27 (.tmp 2) (.tmp 125) rfl w.heap.size #[.int .i64 0, .int .i64 0, .string ⟨#[]⟩, .int .i64 0, .int .i64 0, .int .i64 0, .slice none 0 0, .slice none 0 0, .int .i64 0, .int .i64 0] rfl rfl 27 _ br notesz rfl (by simp [Value.oneCell']) ?_)
        have br9 := br.row #[.int .i64 0, .int .i64 0, .string ⟨#[]⟩, .int .i64 0, .int .i64 0, .int .i64 0, .slice none 0 0, .slice none 0 0, .int .i64 0, .int .i64 0]
        refine bodyPost_ret (v := .tuple #[.agg #[.int .i64 0, .int .i64 0, .string ⟨#[]⟩, .int .i64 0, .int .i64 0, .int .i64 0, .slice none 0 0, .slice none 0 0, .int .i64 0, .int .i64 0], .int .i64 8]) (results_cn (ty := 27) Try.results15 _ _ w.heap.size 27 _ (0, 0) _ rfl rfl br9 Try.underlying27 rfl notesz) rfl ?_
        rw [show decR l = (ntZero, 8) from HE.out]
        exact ⟨none, 0, none, 0, rfl, Own.none_ _ _ _ _, Own.none_ _ _ _ _, below_row hB (Nat.le_refl _) _⟩
      ·
        go_wp2_with (first
          | (refine wpList_load_row rfl 27 (.tmp 4) rfl (w.heap.size + 1) rfl 27 #[.int .i64 1, .int .i64 id, .string ⟨#[]⟩, .int .i64 0, .int .i64 0, .int .i64 0, .slice none 0 0, .slice none 0 0, .int .i64 0, .int .i64 0] (0, 0) _ bq Try.underlying27 rfl notesz ?_)
          | (refine wpList_store_row rfl 27 (.tmp 2) (.tmp 126) rfl w.heap.size #[.int .i64 1, .int .i64 id, .string ⟨#[]⟩, .int .i64 0, .int .i64 0, .int .i64 0, .slice none 0 0, .slice none 0 0, .int .i64 0, .int .i64 0] rfl rfl 27 _ br notesz rfl (by simp [Value.oneCell']) ?_))
        have br9 := br.row #[.int .i64 1, .int .i64 id, .string ⟨#[]⟩, .int .i64 0, .int .i64 0, .int .i64 0, .slice none 0 0, .slice none 0 0, .int .i64 0, .int .i64 0]
        refine bodyPost_ret (v := .tuple #[.agg #[.int .i64 1, .int .i64 id, .string ⟨#[]⟩, .int .i64 0, .int .i64 0, .int .i64 0, .slice none 0 0, .slice none 0 0, .int .i64 0, .int .i64 0], .int .i64 0]) (results_cn (ty := 27) Try.results15 _ _ w.heap.size 27 _ (0, 0) _ rfl rfl br9 Try.underlying27 rfl notesz) rfl ?_
        rw [show decR l = ((⟨1, id, ⟨#[]⟩, 0, 0, 0, [], [], 0, 0⟩ : Nt), 0) from HE.out]
        exact ⟨none, 0, none, 0, rfl, (hD9.rowFar (r := w.heap.size) (by omega) _).mono (by omega), (hG9.rowFar (r := w.heap.size) (by omega) _).mono (by omega), below_row hB (Nat.le_refl _) _⟩
    obtain ⟨e, rfl⟩ : ∃ e, m = e + 4 := ⟨m - 4, by omega⟩
    obtain ⟨f, rfl⟩ : ∃ f, d = f + 4 := ⟨d - 4, by omega⟩
    have hmi : (4 : Int) ≤ (e : Int) + 4 := by omega
    have hmn : 4 ≤ e + 4 := by omega
    have hfi : (4 : Int) ≤ (f : Int) + 4 := by omega
    have hef : e ≤ f := by omega
    have CF := Lib.hid (fourOf_any (some ⟨b, o + 3, none⟩) c (e + 4) (f + 4) W2 hcm (by omega) hRc)
    obtain ⟨x, hx⟩ : ∃ x, fAt c 0 = x := ⟨_, rfl⟩
    obtain ⟨t, ht⟩ : ∃ t, c.drop 4 = t := ⟨_, rfl⟩
    have htl : t.length = e := by rw [← ht, List.length_drop]; omega
    have hRt : Rd W2 (nxtA (some ⟨b, o + 3, none⟩) (f + 4) 4) (bvs t) := by rw [← ht]; exact hRc.nxt (by omega)
    have hbq : b ≠ w.heap.size + 1 := by omega
    rw [hx] at CF
    have HDC : Hid (decC 1 id c = some (⟨1, id, strOf t, x, 0, 0, [], [], 0, 0⟩ : Nt)) := Lib.hid (by rw [decC_1, if_pos (by omega), if_pos (by omega), hx, ht])
    clear hx ht hm hRc
    by_cases hf0 : f = 0
    ·
      obtain rfl : f = 0 := hf0
      obtain rfl : e = 0 := by omega
      have hRa : Rd W2 (some ⟨b, o + 3, none⟩) (bvs t) := by
        have : t = [] := List.eq_nil_of_length_eq_zero htl
        rw [this]
        exact Rd.nil _ _
      clear hRt
      trace "P1"
      have kf := bq.frozen
      have y3 := bq.cell' (i := 3) rfl
      go_upto_region 8 with fail
      trace "Q0"
      go_upto_region 9 with (go_at_call 44; refine CF.out.mono ?_; rintro e9 _ ⟨rfl, k9, rfl⟩)
      trace "Q1"
      clear kf y3 CF
      replace bq := (bq.drewN k9).set_ 3 (.int .i64 x)
      replace br := (br.drewN k9).far (p := ⟨w.heap.size + 1, 3, none⟩) (by show w.heap.size ≠ w.heap.size + 1; omega) (.int .i64 x)
      replace hB := (below_drewN hB k9).setCell (p := ⟨w.heap.size + 1, 3, none⟩) (by show w.heap.size ≤ w.heap.size + 1; omega) (.int .i64 x)
      trace "Q2"
      replace hRa := (hRa.drewN k9).setCell (p := ⟨w.heap.size + 1, 3, none⟩) (fun h => hbq (Option.some.inj h)) (.int .i64 x)
      generalize (W2.drewN k9).setCell ⟨w.heap.size + 1, 3, none⟩ (.int .i64 x) = W3 at *
      trace "P2"
      have hv : (convert 23 9 (.slice (some ⟨b, o + 3, none⟩) 0 0)).run Try.prog W3 = .ok (.string (strOf t)) W3 := by
        have := run_convert_Rd W3 23 5 Try.underlying23 Try.underlying5 (some ⟨b, o + 3, none⟩) t 0 hRa 9 Try.underlying9
        rw [htl] at this
        exact this
      have kf := bq.frozen
      have y2 := bq.cell' (i := 2) rfl
      trace "P3"
      go_upto_region 33 with fail
      trace "P4"
      clear kf y2 hv hRa htl
      replace bq := bq.set_ 2 (.string (strOf t))
      replace br := br.far (p := ⟨w.heap.size + 1, 2, none⟩) (by show w.heap.size ≠ w.heap.size + 1; omega) (.string (strOf t))
      replace hB := hB.setCell (p := ⟨w.heap.size + 1, 2, none⟩) (by show w.heap.size ≤ w.heap.size + 1; omega) (.string (strOf t))
      generalize W3.setCell ⟨w.heap.size + 1, 2, none⟩ (.string (strOf t)) = W4 at *
      trace "P5"
      have HE := Lib.hid (HDS.out _ HDC.out)
      have hD8 : Own W4 (w.heap.size + 2) 5 1 none 0 0 (bvs (⟨1, id, strOf t, x, 0, 0, [], [], 0, 0⟩ : Nt).data) := (Own.none_ _ _ _ _)
      have hG8 : Own W4 (w.heap.size + 2) 66 2 none 0 0 (gps (⟨1, id, strOf t, x, 0, 0, [], [], 0, 0⟩ : Nt).gaps) := (Own.none_ _ _ _ _)
      have CM := Lib.hid (noteMay_any (⟨1, id, strOf t, x, 0, 0, [], [], 0, 0⟩ : Nt) none 0 0 none 0 0 W4 rfl rfl hG8.rd (by omega) (by omega))
      obtain ⟨ok, hok⟩ : ∃ ok, noteOk (⟨1, id, strOf t, x, 0, 0, [], [], 0, 0⟩ : Nt) = ok := ⟨_, rfl⟩
      rw [hok] at CM HE
      unfold ntv at CM
      dsimp only at CM
      clear hok HDC HDN HDS
      go_wp2_with (refine wpList_load_row rfl 27 (.tmp 4) rfl (w.heap.size + 1) rfl 27 #[.int .i64 1, .int .i64 id, .string (strOf t), .int .i64 x, .int .i64 0, .int .i64 0, .slice none 0 0, .slice none 0 0, .int .i64 0, .int .i64 0] (0, 0) _ bq Try.underlying27 rfl notesz ?_)
      refine CM.out.mono ?_
      rintro e w9 ⟨rfl, hb9⟩
      replace bq := bq.step hb9
      replace br := br.step hb9
      replace hB := hB.trans (hb9.mono hB.size)
      have hD9 : Own w9 (w.heap.size + 2) 5 1 none 0 0 (bvs (⟨1, id, strOf t, x, 0, 0, [], [], 0, 0⟩ : Nt).data) := hD8.below hb9
      have hG9 : Own w9 (w.heap.size + 2) 66 2 none 0 0 (gps (⟨1, id, strOf t, x, 0, 0, [], [], 0, 0⟩ : Nt).gaps) := hG8.below hb9
      clear hb9 CM hD8 hG8
      cases ok
      ·
        go_wp2_with (refine wpList_store_row rfl 27 (.tmp 2) (.tmp 125) rfl w.heap.size #[.int .i64 0, .int .i64 0, .string ⟨#[]⟩, .int .i64 0, .int .i64 0, .int .i64 0, .slice none 0 0, .slice none 0 0, .int .i64 0, .int .i64 0] rfl rfl 27 _ br notesz rfl (by simp [Value.oneCell']) ?_)
        have br9 := br.row #[.int .i64 0, .int .i64 0, .string ⟨#[]⟩, .int .i64 0, .int .i64 0, .int .i64 0, .slice none 0 0, .slice none 0 0, .int .i64 0, .int .i64 0]
        refine bodyPost_ret (v := .tuple #[.agg #[.int .i64 0, .int .i64 0, .string ⟨#[]⟩, .int .i64 0, .int .i64 0, .int .i64 0, .slice none 0 0, .slice none 0 0, .int .i64 0, .int .i64 0], .int .i64 8]) (results_cn (ty := 27) Try.results15 _ _ w.heap.size 27 _ (0, 0) _ rfl rfl br9 Try.underlying27 rfl notesz) rfl ?_
        rw [show decR l = (ntZero, 8) from HE.out]
        exact ⟨none, 0, none, 0, rfl, Own.none_ _ _ _ _, Own.none_ _ _ _ _, below_row hB (Nat.le_refl _) _⟩
      ·
        go_wp2_with (first
          | (refine wpList_load_row rfl 27 (.tmp 4) rfl (w.heap.size + 1) rfl 27 #[.int .i64 1, .int .i64 id, .string (strOf t), .int .i64 x, .int .i64 0, .int .i64 0, .slice none 0 0, .slice none 0 0, .int .i64 0, .int .i64 0] (0, 0) _ bq Try.underlying27 rfl notesz ?_)
          | (refine wpList_store_row rfl 27 (.tmp 2) (.tmp 126) rfl w.heap.size #[.int .i64 1, .int .i64 id, .string (strOf t), .int .i64 x, .int .i64 0, .int .i64 0, .slice none 0 0, .slice none 0 0, .int .i64 0, .int .i64 0] rfl rfl 27 _ br notesz rfl (by simp [Value.oneCell']) ?_))
        have br9 := br.row #[.int .i64 1, .int .i64 id, .string (strOf t), .int .i64 x, .int .i64 0, .int .i64 0, .slice none 0 0, .slice none 0 0, .int .i64 0, .int .i64 0]
        refine bodyPost_ret (v := .tuple #[.agg #[.int .i64 1, .int .i64 id, .string (strOf t), .int .i64 x, .int .i64 0, .int .i64 0, .slice none 0 0, .slice none 0 0, .int .i64 0, .int .i64 0], .int .i64 0]) (results_cn (ty := 27) Try.results15 _ _ w.heap.size 27 _ (0, 0) _ rfl rfl br9 Try.underlying27 rfl notesz) rfl ?_
        rw [show decR l = ((⟨1, id, strOf t, x, 0, 0, [], [], 0, 0⟩ : Nt), 0) from HE.out]
        exact ⟨none, 0, none, 0, rfl, (hD9.rowFar (r := w.heap.size) (by omega) _).mono (by omega), (hG9.rowFar (r := w.heap.size) (by omega) _).mono (by omega), below_row hB (Nat.le_refl _) _⟩
    ·
      have hRa : Rd W2 (some ⟨b, o + 3 + 4, none⟩) (bvs t) := by
        unfold nxtA at hRt
        rw [if_neg (by omega)] at hRt
        exact hRt
      clear hRt
      trace "P1"
      have kf := bq.frozen
      have y3 := bq.cell' (i := 3) rfl
      go_upto_region 8 with fail
      trace "Q0"
      go_upto_region 9 with (go_at_call 44; refine CF.out.mono ?_; rintro e9 _ ⟨rfl, k9, rfl⟩)
      trace "Q1"
      clear kf y3 CF
      replace bq := (bq.drewN k9).set_ 3 (.int .i64 x)
      replace br := (br.drewN k9).far (p := ⟨w.heap.size + 1, 3, none⟩) (by show w.heap.size ≠ w.heap.size + 1; omega) (.int .i64 x)
      replace hB := (below_drewN hB k9).setCell (p := ⟨w.heap.size + 1, 3, none⟩) (by show w.heap.size ≤ w.heap.size + 1; omega) (.int .i64 x)
      trace "Q2"
      replace hRa := (hRa.drewN k9).setCell (p := ⟨w.heap.size + 1, 3, none⟩) (fun h => hbq (Option.some.inj h)) (.int .i64 x)
      generalize (W2.drewN k9).setCell ⟨w.heap.size + 1, 3, none⟩ (.int .i64 x) = W3 at *
      trace "P2"
      have hv : (convert 23 9 (.slice (some ⟨b, o + 3 + 4, none⟩) e f)).run Try.prog W3 = .ok (.string (strOf t)) W3 := by
        have := run_convert_Rd W3 23 5 Try.underlying23 Try.underlying5 (some ⟨b, o + 3 + 4, none⟩) t f hRa 9 Try.underlying9
        rw [htl] at this
        exact this
      have kf := bq.frozen
      have y2 := bq.cell' (i := 2) rfl
      trace "P3"
      go_upto_region 33 with fail
      trace "P4"
      clear kf y2 hv hRa htl
      replace bq := bq.set_ 2 (.string (strOf t))
      replace br := br.far (p := ⟨w.heap.size + 1, 2, none⟩) (by show w.heap.size ≠ w.heap.size + 1; omega) (.string (strOf t))
      replace hB := hB.setCell (p := ⟨w.heap.size + 1, 2, none⟩) (by show w.heap.size ≤ w.heap.size + 1; omega) (.string (strOf t))
      generalize W3.setCell ⟨w.heap.size + 1, 2, none⟩ (.string (strOf t)) = W4 at *
      trace "P5"
      have HE := Lib.hid (HDS.out _ HDC.out)
      have hD8 : Own W4 (w.heap.size + 2) 5 1 none 0 0 (bvs (⟨1, id, strOf t, x, 0, 0, [], [], 0, 0⟩ : Nt).data) := (Own.none_ _ _ _ _)
      have hG8 : Own W4 (w.heap.size + 2) 66 2 none 0 0 (gps (⟨1, id, strOf t, x, 0, 0, [], [], 0, 0⟩ : Nt).gaps) := (Own.none_ _ _ _ _)
      have CM := Lib.hid (noteMay_any (⟨1, id, strOf t, x, 0, 0, [], [], 0, 0⟩ : Nt) none 0 0 none 0 0 W4 rfl rfl hG8.rd (by omega) (by omega))
      obtain ⟨ok, hok⟩ : ∃ ok, noteOk (⟨1, id, strOf t, x, 0, 0, [], [], 0, 0⟩ : Nt) = ok := ⟨_, rfl⟩
      rw [hok] at CM HE
      unfold ntv at CM
      dsimp only at CM
      clear hok HDC HDN HDS
      go_wp2_with (refine wpList_load_row rfl 27 (.tmp 4) rfl (w.heap.size + 1) rfl 27 #[.int .i64 1, .int .i64 id, .string (strOf t), .int .i64 x, .int .i64 0, .int .i64 0, .slice none 0 0, .slice none 0 0, .int .i64 0, .int .i64 0] (0, 0) _ bq Try.underlying27 rfl notesz ?_)
      refine CM.out.mono ?_
      rintro e w9 ⟨rfl, hb9⟩
      replace bq := bq.step hb9
      replace br := br.step hb9
      replace hB := hB.trans (hb9.mono hB.size)
      have hD9 : Own w9 (w.heap.size + 2) 5 1 none 0 0 (bvs (⟨1, id, strOf t, x, 0, 0, [], [], 0, 0⟩ : Nt).data) := hD8.below hb9
      have hG9 : Own w9 (w.heap.size + 2) 66 2 none 0 0 (gps (⟨1, id, strOf t, x, 0, 0, [], [], 0, 0⟩ : Nt).gaps) := hG8.below hb9
      clear hb9 CM hD8 hG8
      cases ok
      ·
        go_wp2_with (refine wpList_store_row rfl 27 (.tmp 2) (.tmp 125) rfl w.heap.size #[.int .i64 0, .int .i64 0, .string ⟨#[]⟩, .int .i64 0, .int .i64 0, .int .i64 0, .slice none 0 0, .slice none 0 0, .int .i64 0, .int .i64 0] rfl rfl 27 _ br notesz rfl (by simp [Value.oneCell']) ?_)
        have br9 := br.row #[.int .i64 0, .int .i64 0, .string ⟨#[]⟩, .int .i64 0, .int .i64 0, .int .i64 0, .slice none 0 0, .slice none 0 0, .int .i64 0, .int .i64 0]
        refine bodyPost_ret (v := .tuple #[.agg #[.int .i64 0, .int .i64 0, .string ⟨#[]⟩, .int .i64 0, .int .i64 0, .int .i64 0, .slice none 0 0, .slice none 0 0, .int .i64 0, .int .i64 0], .int .i64 8]) (results_cn (ty := 27) Try.results15 _ _ w.heap.size 27 _ (0, 0) _ rfl rfl br9 Try.underlying27 rfl notesz) rfl ?_
        rw [show decR l = (ntZero, 8) from HE.out]
        exact ⟨none, 0, none, 0, rfl, Own.none_ _ _ _ _, Own.none_ _ _ _ _, below_row hB (Nat.le_refl _) _⟩
      ·
        go_wp2_with (first
          | (refine wpList_load_row rfl 27 (.tmp 4) rfl (w.heap.size + 1) rfl 27 #[.int .i64 1, .int .i64 id, .string (strOf t), .int .i64 x, .int .i64 0, .int .i64 0, .slice none 0 0, .slice none 0 0, .int .i64 0, .int .i64 0] (0, 0) _ bq Try.underlying27 rfl notesz ?_)
          | (refine wpList_store_row rfl 27 (.tmp 2) (.tmp 126) rfl w.heap.size #[.int .i64 1, .int .i64 id, .string (strOf t), .int .i64 x, .int .i64 0, .int .i64 0, .slice none 0 0, .slice none 0 0, .int .i64 0, .int .i64 0] rfl rfl 27 _ br notesz rfl (by simp [Value.oneCell']) ?_))
        have br9 := br.row #[.int .i64 1, .int .i64 id, .string (strOf t), .int .i64 x, .int .i64 0, .int .i64 0, .slice none 0 0, .slice none 0 0, .int .i64 0, .int .i64 0]
        refine bodyPost_ret (v := .tuple #[.agg #[.int .i64 1, .int .i64 id, .string (strOf t), .int .i64 x, .int .i64 0, .int .i64 0, .slice none 0 0, .slice none 0 0, .int .i64 0, .int .i64 0], .int .i64 0]) (results_cn (ty := 27) Try.results15 _ _ w.heap.size 27 _ (0, 0) _ rfl rfl br9 Try.underlying27 rfl notesz) rfl ?_
        rw [show decR l = ((⟨1, id, strOf t, x, 0, 0, [], [], 0, 0⟩ : Nt), 0) from HE.out]
        exact ⟨none, 0, none, 0, rfl, (hD9.rowFar (r := w.heap.size) (by omega) _).mono (by omega), (hG9.rowFar (r := w.heap.size) (by omega) _).mono (by omega), below_row hB (Nat.le_refl _) _⟩
end Go.Proofs.Ytianombjgdmbeaa
namespace Go.Proofs.Ytianombjgdmbeaa
set_option linter.unusedSimpArgs false
set_option linter.unusedVariables false
open Go.RowKit

set_option maxHeartbeats 6400000 in
set_option maxRecDepth 100000 in
theorem noteOf_2 (A : Option Addr) (l : List UInt8) (n cap : Nat) (w : World) (hl : l.length = n) (ha : Rd w A (bvs l)) (hc : n ≤ cap) (hn : n ≤ 140737488351232) (h4 : 4 ≤ n) (hk : (bAt l 0 : Int) = 2) :
    Calls Try.prog 15 #[.slice A n cap] w fun e w' => DecRes w w' (decR l) e := by
  have hbv : bvs (l.drop 3) = (bvs l).drop 3 := by simp [bvs, List.map_drop]
  obtain ⟨b, o, rfl, c0⟩ := ha.byte (k := 0) (by omega)
  have c1 := ha.cell (bvs_get (k := 1) (l := l) (by omega))
  have c2 := ha.cell (bvs_get (k := 2) (l := l) (by omega))
  have hR3 : Rd w (some ⟨b, o + 3, none⟩) (bvs (l.drop 3)) := by rw [hbv]; exact ha.drop_lit 3
  rw [← bAt_in (l := l) (i := 0) (by omega)] at c0
  rw [← bAt_in (l := l) (i := 1) (by omega)] at c1
  rw [← bAt_in (l := l) (i := 2) (by omega)] at c2
  rw [Nat.add_zero] at c0
  have b1 := bAt_lt l 1
  have b2 := bAt_lt l 2
  have HDN := Lib.hid (decR_none (l := l) (by omega) hk rfl)
  have HDS := Lib.hid (fun nt => decR_some (l := l) (n := nt) (by omega) hk rfl)
  have kb0 : 0 ≤ (2 : Int) ∧ (2 : Int) < 256 := by have := bAt_lt l 0; omega
  have hcm : (l.drop 3).length = n - 3 := by rw [List.length_drop, hl]
  rw [hk] at c0
  have HL := Lib.hid hl
  clear hbv hk hl ha
  generalize bAt l 1 = x1 at *
  generalize bAt l 2 = x2 at *
  have o1 : bits .or .i64 ((x1 : Int) * 256) (x2 : Int) = (x1 : Int) * 256 + (x2 : Int) := by
    have h := or_i64 (x := x1 * 256) (y := x2) (m := 8) (by omega) (by omega) (by omega)
    rw [show ((x1 * 256 : Nat) : Int) = (x1 : Int) * 256 by omega] at h
    rw [h]
    omega
  obtain ⟨id, hid⟩ : ∃ id, (x1 : Int) * 256 + (x2 : Int) = id := ⟨_, rfl⟩
  rw [hid] at o1 HDN HDS
  obtain ⟨c, hcc⟩ : ∃ c, l.drop 3 = c := ⟨_, rfl⟩
  rw [hcc] at hR3 HDN HDS hcm
  obtain ⟨m, rfl⟩ : ∃ m, n = m + 3 := ⟨n - 3, by omega⟩
  obtain ⟨d, rfl⟩ : ∃ d, cap = d + 3 := ⟨cap - 3, by omega⟩
  rw [Nat.add_sub_cancel] at hcm
  have hm1 : 1 ≤ m := by omega
  have hmd : m ≤ d := by omega
  clear hcc hid
  have n4 : ¬ (m : Int) + 3 < 4 := by omega
  have n4n : ¬ m + 3 < 4 := by omega
  have pi0 : (0 : Int) < (m : Int) + 3 := by omega
  have pi1 : (1 : Int) < (m : Int) + 3 := by omega
  have pi2 : (2 : Int) < (m : Int) + 3 := by omega
  have pi3 : (3 : Int) ≤ (m : Int) + 3 := by omega
  have pi3d : (3 : Int) ≤ (d : Int) + 3 := by omega
  have j0 : 0 < m + 3 := by omega
  have j1 : 1 < m + 3 := by omega
  have j2 : 2 < m + 3 := by omega
  have j3 : 3 ≤ m + 3 := by omega
  have j4 : ¬ d + 3 = 3 := by omega
  have hV0 : Below w.heap.size w (w.alloc (.cells #[.int .i64 0, .int .i64 0, .string ⟨#[]⟩, .int .i64 0, .int .i64 0, .int .i64 0, .slice none 0 0, .slice none 0 0, .int .i64 0, .int .i64 0] 27)) := (Below.refl _ _).alloc (Nat.le_refl _) _
  have z0 := (Blk.new w 27 #[.int .i64 0, .int .i64 0, .string ⟨#[]⟩, .int .i64 0, .int .i64 0, .int .i64 0, .slice none 0 0, .slice none 0 0, .int .i64 0, .int .i64 0])
  have d0 : (w.alloc (.cells #[.int .i64 0, .int .i64 0, .string ⟨#[]⟩, .int .i64 0, .int .i64 0, .int .i64 0, .slice none 0 0, .slice none 0 0, .int .i64 0, .int .i64 0] 27)).drew.cell? ⟨b, o, none⟩ = some (.int .u8 2) := (World.cell?_of_block (w := w) (a := ⟨b, o, none⟩) (hV0.block b (World.block_lt_of_cell? _ _ c0))).trans c0
  have d1 : (w.alloc (.cells #[.int .i64 0, .int .i64 0, .string ⟨#[]⟩, .int .i64 0, .int .i64 0, .int .i64 0, .slice none 0 0, .slice none 0 0, .int .i64 0, .int .i64 0] 27)).drew.cell? ⟨b, o + 1, none⟩ = some (.int .u8 (x1 : Int)) := (World.cell?_of_block (w := w) (a := ⟨b, o + 1, none⟩) (hV0.block b (World.block_lt_of_cell? _ _ c1))).trans c1
  have d2 : (w.alloc (.cells #[.int .i64 0, .int .i64 0, .string ⟨#[]⟩, .int .i64 0, .int .i64 0, .int .i64 0, .slice none 0 0, .slice none 0 0, .int .i64 0, .int .i64 0] 27)).drew.cell? ⟨b, o + 2, none⟩ = some (.int .u8 (x2 : Int)) := (World.cell?_of_block (w := w) (a := ⟨b, o + 2, none⟩) (hV0.block b (World.block_lt_of_cell? _ _ c2))).trans c2
  have HRw := Lib.hid hR3
  have hlb : b < _ := World.block_lt_of_cell? _ _ d0
  have hlw : b < w.heap.size := World.block_lt_of_cell? _ _ c0
  clear c0 c1 c2
  go_enter Try.func15, Try.ntmps15
  go_upto_region 3 with fail
  refine heldRegion (fun v => v.cell? ⟨b, o, none⟩ = some (.int .u8 2) ∧ v.cell? ⟨b, o + 1, none⟩ = some (.int .u8 (x1 : Int)) ∧ v.cell? ⟨b, o + 2, none⟩ = some (.int .u8 (x2 : Int))) 16 (by kernel_rfl) (by kernel_rfl) ⟨d0, d1, d2⟩ (fun hSS => ?_)
  clear hSS
  replace z0 := z0.drew
  replace hV0 := hV0.drew
  have zV : (w.alloc (.cells #[.int .i64 0, .int .i64 0, .string ⟨#[]⟩, .int .i64 0, .int .i64 0, .int .i64 0, .slice none 0 0, .slice none 0 0, .int .i64 0, .int .i64 0] 27)).drew.heap.size = w.heap.size + 1 := by simp
  have HZV := Lib.hid zV
  clear zV
  generalize (w.alloc (.cells #[.int .i64 0, .int .i64 0, .string ⟨#[]⟩, .int .i64 0, .int .i64 0, .int .i64 0, .slice none 0 0, .slice none 0 0, .int .i64 0, .int .i64 0] 27)).drew = V at *
  refine walk_take 0 (v := ?va0) rfl (by kernel_rfl) (by kernel_rfl) (by kernel_rfl) (fun _ _ _ h => h) (⟨d0, d1, d2⟩) (Or.inl ⟨by rfl, ?ya0⟩) ?ra0
  case ya0 => intro w hSw; obtain ⟨hw0, hw1, hw2⟩ := hSw; (try dsimp only at hSw); go_simp; try rfl
  case' ra0 => try simp only [List.getElem_toArray, List.getElem_cons_succ, List.getElem_cons_zero, Act.put, List.setIfInBounds_toArray, List.set_cons_zero, List.set_cons_succ]
  refine walk_take 1 (v := ?va1) rfl (by kernel_rfl) (by kernel_rfl) (by kernel_rfl) (fun _ _ _ h => h) (⟨d0, d1, d2⟩) (Or.inl ⟨by rfl, ?ya1⟩) ?ra1
  case ya1 => intro w hSw; obtain ⟨hw0, hw1, hw2⟩ := hSw; (try dsimp only at hSw); go_simp; try rfl
  case' ra1 => try simp only [List.getElem_toArray, List.getElem_cons_succ, List.getElem_cons_zero, Act.put, List.setIfInBounds_toArray, List.set_cons_zero, List.set_cons_succ]
  refine walk_take 2 (v := ?va2) rfl (by kernel_rfl) (by kernel_rfl) (by kernel_rfl) (fun _ _ _ h => h) (⟨d0, d1, d2⟩) (Or.inl ⟨by rfl, ?ya2⟩) ?ra2
  case ya2 => intro w hSw; obtain ⟨hw0, hw1, hw2⟩ := hSw; (try dsimp only at hSw); go_simp; try rfl
  case' ra2 => try simp only [List.getElem_toArray, List.getElem_cons_succ, List.getElem_cons_zero, Act.put, List.setIfInBounds_toArray, List.set_cons_zero, List.set_cons_succ]
  refine walk_take 3 (v := ?va3) rfl (by kernel_rfl) (by kernel_rfl) (by kernel_rfl) (fun _ _ _ h => h) (⟨d0, d1, d2⟩) (Or.inl ⟨by rfl, ?ya3⟩) ?ra3
  case ya3 => intro w hSw; obtain ⟨hw0, hw1, hw2⟩ := hSw; (try dsimp only at hSw); go_simp; try rfl
  case' ra3 => try simp only [List.getElem_toArray, List.getElem_cons_succ, List.getElem_cons_zero, Act.put, List.setIfInBounds_toArray, List.set_cons_zero, List.set_cons_succ]
  refine walk_take 4 (v := ?va4) rfl (by kernel_rfl) (by kernel_rfl) (by kernel_rfl) (fun _ _ _ h => h) (⟨d0, d1, d2⟩) (Or.inl ⟨by rfl, ?ya4⟩) ?ra4
  case ya4 => intro w hSw; obtain ⟨hw0, hw1, hw2⟩ := hSw; (try dsimp only at hSw); go_simp; try rfl
  case' ra4 => try simp only [List.getElem_toArray, List.getElem_cons_succ, List.getElem_cons_zero, Act.put, List.setIfInBounds_toArray, List.set_cons_zero, List.set_cons_succ]
  refine walk_take 5 (v := ?va5) rfl (by kernel_rfl) (by kernel_rfl) (by kernel_rfl) (fun _ _ _ h => h) (⟨d0, d1, d2⟩) (Or.inl ⟨by rfl, ?ya5⟩) ?ra5
  case ya5 => intro w hSw; obtain ⟨hw0, hw1, hw2⟩ := hSw; (try dsimp only at hSw); go_simp; try rfl
  case' ra5 => try simp only [List.getElem_toArray, List.getElem_cons_succ, List.getElem_cons_zero, Act.put, List.setIfInBounds_toArray, List.set_cons_zero, List.set_cons_succ]
  refine walk_take 6 (v := ?va6) rfl (by kernel_rfl) (by kernel_rfl) (by kernel_rfl) (fun _ _ _ h => h) (⟨d0, d1, d2⟩) (Or.inl ⟨by rfl, ?ya6⟩) ?ra6
  case ya6 => intro w hSw; obtain ⟨hw0, hw1, hw2⟩ := hSw; (try dsimp only at hSw); go_simp; try rfl
  case' ra6 => try simp only [List.getElem_toArray, List.getElem_cons_succ, List.getElem_cons_zero, Act.put, List.setIfInBounds_toArray, List.set_cons_zero, List.set_cons_succ]
  refine walk_take 7 (v := ?va7) rfl (by kernel_rfl) (by kernel_rfl) (by kernel_rfl) (fun _ _ _ h => h) (⟨d0, d1, d2⟩) (Or.inl ⟨by rfl, ?ya7⟩) ?ra7
  case ya7 => intro w hSw; obtain ⟨hw0, hw1, hw2⟩ := hSw; (try dsimp only at hSw); go_simp; try rfl
  case' ra7 => try simp only [List.getElem_toArray, List.getElem_cons_succ, List.getElem_cons_zero, Act.put, List.setIfInBounds_toArray, List.set_cons_zero, List.set_cons_succ]
  refine walk_take 8 (v := ?va8) rfl (by kernel_rfl) (by kernel_rfl) (by kernel_rfl) (fun _ _ _ h => h) (⟨d0, d1, d2⟩) (Or.inl ⟨by rfl, ?ya8⟩) ?ra8
  case ya8 => intro w hSw; obtain ⟨hw0, hw1, hw2⟩ := hSw; (try dsimp only at hSw); go_simp; try rfl
  case' ra8 => try simp only [List.getElem_toArray, List.getElem_cons_succ, List.getElem_cons_zero, Act.put, List.setIfInBounds_toArray, List.set_cons_zero, List.set_cons_succ]
  refine walk_take 9 (v := ?va9) rfl (by kernel_rfl) (by kernel_rfl) (by kernel_rfl) (fun _ _ _ h => h) (⟨d0, d1, d2⟩) (Or.inl ⟨by rfl, ?ya9⟩) ?ra9
  case ya9 => intro w hSw; obtain ⟨hw0, hw1, hw2⟩ := hSw; (try dsimp only at hSw); go_simp; try rfl
  case' ra9 => try simp only [List.getElem_toArray, List.getElem_cons_succ, List.getElem_cons_zero, Act.put, List.setIfInBounds_toArray, List.set_cons_zero, List.set_cons_succ]
  refine walk_take 10 (v := ?va10) rfl (by kernel_rfl) (by kernel_rfl) (by kernel_rfl) (fun _ _ _ h => h) (⟨d0, d1, d2⟩) (Or.inl ⟨by rfl, ?ya10⟩) ?ra10
  case ya10 => intro w hSw; obtain ⟨hw0, hw1, hw2⟩ := hSw; (try dsimp only at hSw); go_simp; try rfl
  case' ra10 => try simp only [List.getElem_toArray, List.getElem_cons_succ, List.getElem_cons_zero, Act.put, List.setIfInBounds_toArray, List.set_cons_zero, List.set_cons_succ]
  refine walk_take 11 (v := ?va11) rfl (by kernel_rfl) (by kernel_rfl) (by kernel_rfl) (fun _ _ _ h => h) (⟨d0, d1, d2⟩) (Or.inl ⟨by rfl, ?ya11⟩) ?ra11
  case ya11 => intro w hSw; obtain ⟨hw0, hw1, hw2⟩ := hSw; (try dsimp only at hSw); go_simp; try rfl
  case' ra11 => try simp only [List.getElem_toArray, List.getElem_cons_succ, List.getElem_cons_zero, Act.put, List.setIfInBounds_toArray, List.set_cons_zero, List.set_cons_succ]
  refine walk_take 12 (v := ?va12) rfl (by kernel_rfl) (by kernel_rfl) (by kernel_rfl) (fun _ _ _ h => h) (⟨d0, d1, d2⟩) (Or.inl ⟨by rfl, ?ya12⟩) ?ra12
  case ya12 => intro w hSw; obtain ⟨hw0, hw1, hw2⟩ := hSw; (try dsimp only at hSw); go_simp; try rfl
  case' ra12 => try simp only [List.getElem_toArray, List.getElem_cons_succ, List.getElem_cons_zero, Act.put, List.setIfInBounds_toArray, List.set_cons_zero, List.set_cons_succ]
  refine walk_take 13 (v := ?va13) rfl (by kernel_rfl) (by kernel_rfl) (by kernel_rfl) (fun _ _ _ h => h) (⟨d0, d1, d2⟩) (Or.inl ⟨by rfl, ?ya13⟩) ?ra13
  case ya13 => intro w hSw; obtain ⟨hw0, hw1, hw2⟩ := hSw; (try dsimp only at hSw); go_simp; try rfl
  case' ra13 => try simp only [List.getElem_toArray, List.getElem_cons_succ, List.getElem_cons_zero, Act.put, List.setIfInBounds_toArray, List.set_cons_zero, List.set_cons_succ]
  refine walk_take 14 (v := ?va14) rfl (by kernel_rfl) (by kernel_rfl) (by kernel_rfl) (fun _ _ _ h => h) (⟨d0, d1, d2⟩) (Or.inl ⟨by rfl, ?ya14⟩) ?ra14
  case ya14 => intro w hSw; obtain ⟨hw0, hw1, hw2⟩ := hSw; (try dsimp only at hSw); go_simp; try rfl
  case' ra14 => try simp only [List.getElem_toArray, List.getElem_cons_succ, List.getElem_cons_zero, Act.put, List.setIfInBounds_toArray, List.set_cons_zero, List.set_cons_succ]
  refine walk_step 15 rfl (by kernel_rfl) (by kernel_rfl) (fun K hK => ?al)
  case al =>
    go_simp
    have e0 : (V.alloc (.cells #[.int .i64 0, .int .i64 0, .string ⟨#[]⟩, .int .i64 0, .int .i64 0, .int .i64 0, .slice none 0 0, .slice none 0 0, .int .i64 0, .int .i64 0] 27)).cell? ⟨b, o, none⟩ = some (.int .u8 2) := (World.cell?_of_block (w := V) (a := ⟨b, o, none⟩) (Below.heap_alloc V _ b hlb)).trans d0
    have e1 : (V.alloc (.cells #[.int .i64 0, .int .i64 0, .string ⟨#[]⟩, .int .i64 0, .int .i64 0, .int .i64 0, .slice none 0 0, .slice none 0 0, .int .i64 0, .int .i64 0] 27)).cell? ⟨b, o + 1, none⟩ = some (.int .u8 (x1 : Int)) := (World.cell?_of_block (w := V) (a := ⟨b, o + 1, none⟩) (Below.heap_alloc V _ b hlb)).trans d1
    have e2 : (V.alloc (.cells #[.int .i64 0, .int .i64 0, .string ⟨#[]⟩, .int .i64 0, .int .i64 0, .int .i64 0, .slice none 0 0, .slice none 0 0, .int .i64 0, .int .i64 0] 27)).cell? ⟨b, o + 2, none⟩ = some (.int .u8 (x2 : Int)) := (World.cell?_of_block (w := V) (a := ⟨b, o + 2, none⟩) (Below.heap_alloc V _ b hlb)).trans d2
    refine hK _ _ ⟨e0, e1, e2⟩ ?_
    clear hK K e0 e1 e2 d0 d1 d2
    try simp only [List.getElem_toArray, List.getElem_cons_succ, List.getElem_cons_zero, Act.put, List.setIfInBounds_toArray, List.set_cons_zero, List.set_cons_succ]
    have wx : IntKind.i64.wrap (x1 : Int) = (x1 : Int) := by rw [IntKind.wrap_i64]; omega
    have wy : IntKind.i64.wrap (x2 : Int) = (x2 : Int) := by rw [IntKind.wrap_i64]; omega
    have wz : IntKind.i64.wrap ((x1 : Int) * 256) = (x1 : Int) * 256 := by rw [IntKind.wrap_i64]; omega
    have wk : IntKind.i64.wrap 2 = 2 := by rw [IntKind.wrap_i64]; omega
    simp only [wx, wy, wz, wk, o1]
    clear wx wy wz wk o1 b1 b2 kb0
    refine walk_tail (by kernel_rfl) ?_
    simp only [List.drop_succ_cons, List.drop_zero]
    have hB := (hV0.alloc hV0.size (.cells #[.int .i64 0, .int .i64 0, .string ⟨#[]⟩, .int .i64 0, .int .i64 0, .int .i64 0, .slice none 0 0, .slice none 0 0, .int .i64 0, .int .i64 0] 27))
    have bq := Blk.new V 27 #[.int .i64 0, .int .i64 0, .string ⟨#[]⟩, .int .i64 0, .int .i64 0, .int .i64 0, .slice none 0 0, .slice none 0 0, .int .i64 0, .int .i64 0]
    replace z0 := z0.alloc (.cells #[.int .i64 0, .int .i64 0, .string ⟨#[]⟩, .int .i64 0, .int .i64 0, .int .i64 0, .slice none 0 0, .slice none 0 0, .int .i64 0, .int .i64 0] 27)
    have hRc := (hR3.below hV0).alloc (.cells #[.int .i64 0, .int .i64 0, .string ⟨#[]⟩, .int .i64 0, .int .i64 0, .int .i64 0, .slice none 0 0, .slice none 0 0, .int .i64 0, .int .i64 0] 27)
    rw [HZV.out] at bq ⊢
    clear hV0 hR3 HZV
    generalize V.alloc (.cells #[.int .i64 0, .int .i64 0, .string ⟨#[]⟩, .int .i64 0, .int .i64 0, .int .i64 0, .slice none 0 0, .slice none 0 0, .int .i64 0, .int .i64 0] 27) = W at *
    go_upto_region 4 with (refine wpList_store_row rfl 27 (.tmp 4) (.tmp 25) rfl (w.heap.size + 1) #[.int .i64 2, .int .i64 id, .string ⟨#[]⟩, .int .i64 0, .int .i64 0, .int .i64 0, .slice none 0 0, .slice none 0 0, .int .i64 0, .int .i64 0] rfl rfl 27 _ bq notesz rfl (by simp [Value.oneCell']) ?_)
    replace bq := bq.row #[.int .i64 2, .int .i64 id, .string ⟨#[]⟩, .int .i64 0, .int .i64 0, .int .i64 0, .slice none 0 0, .slice none 0 0, .int .i64 0, .int .i64 0]
    have br := z0.farRow (g := w.heap.size + 1) (by omega) #[.int .i64 2, .int .i64 id, .string ⟨#[]⟩, .int .i64 0, .int .i64 0, .int .i64 0, .slice none 0 0, .slice none 0 0, .int .i64 0, .int .i64 0]
    replace hB := below_row hB (g := w.heap.size + 1) (by omega) #[.int .i64 2, .int .i64 id, .string ⟨#[]⟩, .int .i64 0, .int .i64 0, .int .i64 0, .slice none 0 0, .slice none 0 0, .int .i64 0, .int .i64 0]
    replace hRc := hRc.turned (grownBy_turned (grown_row W (w.heap.size + 1) #[.int .i64 2, .int .i64 id, .string ⟨#[]⟩, .int .i64 0, .int .i64 0, .int .i64 0, .slice none 0 0, .slice none 0 0, .int .i64 0, .int .i64 0])) (fun q hq e => by
      have h1 : w.heap.size + 1 = q := Option.some.inj e
      have h2 : b = q := Option.some.inj hq
      omega)
    clear z0
    generalize W.setRow (w.heap.size + 1) #[.int .i64 2, .int .i64 id, .string ⟨#[]⟩, .int .i64 0, .int .i64 0, .int .i64 0, .slice none 0 0, .slice none 0 0, .int .i64 0, .int .i64 0] = W2 at *
    have x0 := bq.cell' (i := 0) rfl
    by_cases hm : m < 4
    ·
      have hmi : ¬ (4 : Int) ≤ (m : Int) := by omega
      have HDC : Hid (decC 2 id c = some (⟨2, id, ⟨#[]⟩, 0, 0, 0, [], [], 0, 0⟩ : Nt)) := Lib.hid (by rw [decC_2, if_neg (by omega), if_neg (by omega)])
      clear hm hRc
      have HE := Lib.hid (HDS.out _ HDC.out)
      have hD8 : Own W2 (w.heap.size + 2) 5 1 none 0 0 (bvs (⟨2, id, ⟨#[]⟩, 0, 0, 0, [], [], 0, 0⟩ : Nt).data) := (Own.none_ _ _ _ _)
      have hG8 : Own W2 (w.heap.size + 2) 66 2 none 0 0 (gps (⟨2, id, ⟨#[]⟩, 0, 0, 0, [], [], 0, 0⟩ : Nt).gaps) := (Own.none_ _ _ _ _)
      have CM := Lib.hid (noteMay_any (⟨2, id, ⟨#[]⟩, 0, 0, 0, [], [], 0, 0⟩ : Nt) none 0 0 none 0 0 W2 rfl rfl hG8.rd (by omega) (by omega))
      obtain ⟨ok, hok⟩ : ∃ ok, noteOk (⟨2, id, ⟨#[]⟩, 0, 0, 0, [], [], 0, 0⟩ : Nt) = ok := ⟨_, rfl⟩
      rw [hok] at CM HE
      unfold ntv at CM
      dsimp only at CM
      clear hok HDC HDN HDS
      go_wp2_with (refine wpList_load_row rfl 27 (.tmp 4) rfl (w.heap.size + 1) rfl 27 #[.int .i64 2, .int .i64 id, .string ⟨#[]⟩, .int .i64 0, .int .i64 0, .int .i64 0, .slice none 0 0, .slice none 0 0, .int .i64 0, .int .i64 0] (0, 0) _ bq Try.underlying27 rfl notesz ?_)
      refine CM.out.mono ?_
      rintro e w9 ⟨rfl, hb9⟩
      replace bq := bq.step hb9
      replace br := br.step hb9
      replace hB := hB.trans (hb9.mono hB.size)
      have hD9 : Own w9 (w.heap.size + 2) 5 1 none 0 0 (bvs (⟨2, id, ⟨#[]⟩, 0, 0, 0, [], [], 0, 0⟩ : Nt).data) := hD8.below hb9
      have hG9 : Own w9 (w.heap.size + 2) 66 2 none 0 0 (gps (⟨2, id, ⟨#[]⟩, 0, 0, 0, [], [], 0, 0⟩ : Nt).gaps) := hG8.below hb9
      clear hb9 CM hD8 hG8
      cases ok
      ·
        go_wp2_with (refine wpList_store_row rfl 27 (.tmp 2) (.tmp 125) rfl w.heap.size #[.int .i64 0, .int .i64 0, .string ⟨#[]⟩, .int .i64 0, .int .i64 0, .int .i64 0, .slice none 0 0, .slice none 0 0, .int .i64 0, .int .i64 0] rfl rfl 27 _ br notesz rfl (by simp [Value.oneCell']) ?_)
        have br9 := br.row #[.int .i64 0, .int .i64 0, .string ⟨#[]⟩, .int .i64 0, .int .i64 0, .int .i64 0, .slice none 0 0, .slice none 0 0, .int .i64 0, .int .i64 0]
        refine bodyPost_ret (v := .tuple #[.agg #[.int .i64 0, .int .i64 0, .string ⟨#[]⟩, .int .i64 0, .int .i64 0, .int .i64 0, .slice none 0 0, .slice none 0 0, .int .i64 0, .int .i64 0], .int .i64 8]) (results_cn (ty := 27) Try.results15 _ _ w.heap.size 27 _ (0, 0) _ rfl rfl br9 Try.underlying27 rfl notesz) rfl ?_
        rw [show decR l = (ntZero, 8) from HE.out]
        exact ⟨none, 0, none, 0, rfl, Own.none_ _ _ _ _, Own.none_ _ _ _ _, below_row hB (Nat.le_refl _) _⟩
      ·
        go_wp2_with (first
          | (refine wpList_load_row rfl 27 (.tmp 4) rfl (w.heap.size + 1) rfl 27 #[.int .i64 2, .int .i64 id, .string ⟨#[]⟩, .int .i64 0, .int .i64 0, .int .i64 0, .slice none 0 0, .slice none 0 0, .int .i64 0, .int .i64 0] (0, 0) _ bq Try.underlying27 rfl notesz ?_)
          | (refine wpList_store_row rfl 27 (.tmp 2) (.tmp 126) rfl w.heap.size #[.int .i64 2, .int .i64 id, .string ⟨#[]⟩, .int .i64 0, .int .i64 0, .int .i64 0, .slice none 0 0, .slice none 0 0, .int .i64 0, .int .i64 0] rfl rfl 27 _ br notesz rfl (by simp [Value.oneCell']) ?_))
        have br9 := br.row #[.int .i64 2, .int .i64 id, .string ⟨#[]⟩, .int .i64 0, .int .i64 0, .int .i64 0, .slice none 0 0, .slice none 0 0, .int .i64 0, .int .i64 0]
        refine bodyPost_ret (v := .tuple #[.agg #[.int .i64 2, .int .i64 id, .string ⟨#[]⟩, .int .i64 0, .int .i64 0, .int .i64 0, .slice none 0 0, .slice none 0 0, .int .i64 0, .int .i64 0], .int .i64 0]) (results_cn (ty := 27) Try.results15 _ _ w.heap.size 27 _ (0, 0) _ rfl rfl br9 Try.underlying27 rfl notesz) rfl ?_
        rw [show decR l = ((⟨2, id, ⟨#[]⟩, 0, 0, 0, [], [], 0, 0⟩ : Nt), 0) from HE.out]
        exact ⟨none, 0, none, 0, rfl, (hD9.rowFar (r := w.heap.size) (by omega) _).mono (by omega), (hG9.rowFar (r := w.heap.size) (by omega) _).mono (by omega), below_row hB (Nat.le_refl _) _⟩
    obtain ⟨e, rfl⟩ : ∃ e, m = e + 4 := ⟨m - 4, by omega⟩
    obtain ⟨f, rfl⟩ : ∃ f, d = f + 4 := ⟨d - 4, by omega⟩
    have hmi : (4 : Int) ≤ (e : Int) + 4 := by omega
    have hmn : 4 ≤ e + 4 := by omega
    have hfi : (4 : Int) ≤ (f : Int) + 4 := by omega
    have hef : e ≤ f := by omega
    have CF := Lib.hid (fourOf_any (some ⟨b, o + 3, none⟩) c (e + 4) (f + 4) W2 hcm (by omega) hRc)
    obtain ⟨x, hx⟩ : ∃ x, fAt c 0 = x := ⟨_, rfl⟩
    obtain ⟨t, ht⟩ : ∃ t, c.drop 4 = t := ⟨_, rfl⟩
    have htl : t.length = e := by rw [← ht, List.length_drop]; omega
    have hRt : Rd W2 (nxtA (some ⟨b, o + 3, none⟩) (f + 4) 4) (bvs t) := by rw [← ht]; exact hRc.nxt (by omega)
    have hbq : b ≠ w.heap.size + 1 := by omega
    rw [hx] at CF
    have HDC : Hid (decC 2 id c = some (⟨2, id, ⟨#[]⟩, 0, 0, x, t, [], 0, 0⟩ : Nt)) := Lib.hid (by rw [decC_2, if_pos (by omega), if_pos (by omega), hx, ht])
    clear hx ht hm hRc
    obtain ⟨i0, hi0, hz0, hz1, hz2⟩ := info_parts u8info
    by_cases hf0 : f = 0
    ·
      obtain rfl : f = 0 := hf0
      obtain rfl : e = 0 := by omega
      have hRa : Rd W2 (some ⟨b, o + 3, none⟩) (bvs t) := by
        have : t = [] := List.eq_nil_of_length_eq_zero htl
        rw [this]
        exact Rd.nil _ _
      clear hRt
      obtain rfl : t = [] := List.eq_nil_of_length_eq_zero htl
      have kf := bq.frozen
      have y3 := bq.cell' (i := 5) rfl
      go_upto_region 12 with fail
      trace "Q0"
      go_upto_region 13 with (go_at_call 44; refine CF.out.mono ?_; rintro e9 _ ⟨rfl, k9, rfl⟩)
      trace "Q1"
      clear kf y3 CF
      replace bq := (bq.drewN k9).set_ 5 (.int .i64 x)
      replace br := (br.drewN k9).far (p := ⟨w.heap.size + 1, 5, none⟩) (by show w.heap.size ≠ w.heap.size + 1; omega) (.int .i64 x)
      replace hB := (below_drewN hB k9).setCell (p := ⟨w.heap.size + 1, 5, none⟩) (by show w.heap.size ≤ w.heap.size + 1; omega) (.int .i64 x)
      trace "Q2"
      replace hRa := (hRa.drewN k9).setCell (p := ⟨w.heap.size + 1, 5, none⟩) (fun h => hbq (Option.some.inj h)) (.int .i64 x)
      generalize (W2.drewN k9).setCell ⟨w.heap.size + 1, 5, none⟩ (.int .i64 x) = W3 at *
      have q4 : 0 + 0 ≤ maxLen := by unfold maxLen; omega
      have q5 : (0 + 0) * 1 ≤ 140737488355328 := by omega
      have q6 : w.heap.size + 2 ≤ W3.heap.size := by have := bq.lt; omega
      have HLN : Hid ((bvs []).length = 0 * 1) := Lib.hid (by rw [bvs_length, Nat.mul_one] <;> rfl)
      go_upto_region 33 with (at_builtin; refine wpList_append_Own W3 rfl (.const (.slice none 0 0)) (.tmp 51) 23 rfl (w.heap.size + 2) 5 i0 _ 1 1 Try.underlying23 hi0 hz0 hz1 hz2 rfl none 0 0 [] rfl (Own.none_ _ _ _ _) (some ⟨b, o + 3, none⟩) 0 0 (bvs []) rfl HLN.out hRa (bvs_one []) q4 q5 q6 ?_; intro D dc w5 hO5 hg5 hor5; simp only [Nat.zero_add, List.nil_append] at hO5; simp only [Nat.zero_add]; have hb5 := below_of_grown hg5; have k5 := bq.step hb5; have kf5 := k5.frozen; have y6 := k5.cell' (i := 6) rfl)
      replace bq := k5
      replace br := br.step hb5
      replace hB := hB.trans (hb5.mono hB.size)
      have hO6 := hO5.setFar (p := ⟨w.heap.size + 1, 6, none⟩) (fun h => by have h1 := (hO5.lt _ h).1; have h2 : w.heap.size + 2 ≤ w.heap.size + 1 := h1; omega) (.slice D 0 dc)
      clear q4 q5 q6 hg5 hor5 hb5 k5 kf5 y6 hRa HLN hO5
      replace bq := bq.set_ 6 (.slice D 0 dc)
      replace br := br.far (p := ⟨w.heap.size + 1, 6, none⟩) (by show w.heap.size ≠ w.heap.size + 1; omega) (.slice D 0 dc)
      replace hB := hB.setCell (p := ⟨w.heap.size + 1, 6, none⟩) (by show w.heap.size ≤ w.heap.size + 1; omega) (.slice D 0 dc)
      generalize w5.setCell ⟨w.heap.size + 1, 6, none⟩ (.slice D 0 dc) = W4 at *
      have HE := Lib.hid (HDS.out _ HDC.out)
      have hD8 : Own W4 (w.heap.size + 2) 5 1 D 0 dc (bvs (⟨2, id, ⟨#[]⟩, 0, 0, x, [], [], 0, 0⟩ : Nt).data) := hO6
      have hG8 : Own W4 (w.heap.size + 2) 66 2 none 0 0 (gps (⟨2, id, ⟨#[]⟩, 0, 0, x, [], [], 0, 0⟩ : Nt).gaps) := (Own.none_ _ _ _ _)
      have CM := Lib.hid (noteMay_any (⟨2, id, ⟨#[]⟩, 0, 0, x, [], [], 0, 0⟩ : Nt) D 0 dc none 0 0 W4 rfl rfl hG8.rd (by omega) (by omega))
      obtain ⟨ok, hok⟩ : ∃ ok, noteOk (⟨2, id, ⟨#[]⟩, 0, 0, x, [], [], 0, 0⟩ : Nt) = ok := ⟨_, rfl⟩
      rw [hok] at CM HE
      unfold ntv at CM
      dsimp only at CM
      clear hok HDC HDN HDS
      go_wp2_with (refine wpList_load_row rfl 27 (.tmp 4) rfl (w.heap.size + 1) rfl 27 #[.int .i64 2, .int .i64 id, .string ⟨#[]⟩, .int .i64 0, .int .i64 0, .int .i64 x, .slice D 0 dc, .slice none 0 0, .int .i64 0, .int .i64 0] (0, 0) _ bq Try.underlying27 rfl notesz ?_)
      refine CM.out.mono ?_
      rintro e w9 ⟨rfl, hb9⟩
      replace bq := bq.step hb9
      replace br := br.step hb9
      replace hB := hB.trans (hb9.mono hB.size)
      have hD9 : Own w9 (w.heap.size + 2) 5 1 D 0 dc (bvs (⟨2, id, ⟨#[]⟩, 0, 0, x, [], [], 0, 0⟩ : Nt).data) := hD8.below hb9
      have hG9 : Own w9 (w.heap.size + 2) 66 2 none 0 0 (gps (⟨2, id, ⟨#[]⟩, 0, 0, x, [], [], 0, 0⟩ : Nt).gaps) := hG8.below hb9
      clear hb9 CM hD8 hG8
      cases ok
      ·
        go_wp2_with (refine wpList_store_row rfl 27 (.tmp 2) (.tmp 125) rfl w.heap.size #[.int .i64 0, .int .i64 0, .string ⟨#[]⟩, .int .i64 0, .int .i64 0, .int .i64 0, .slice none 0 0, .slice none 0 0, .int .i64 0, .int .i64 0] rfl rfl 27 _ br notesz rfl (by simp [Value.oneCell']) ?_)
        have br9 := br.row #[.int .i64 0, .int .i64 0, .string ⟨#[]⟩, .int .i64 0, .int .i64 0, .int .i64 0, .slice none 0 0, .slice none 0 0, .int .i64 0, .int .i64 0]
        refine bodyPost_ret (v := .tuple #[.agg #[.int .i64 0, .int .i64 0, .string ⟨#[]⟩, .int .i64 0, .int .i64 0, .int .i64 0, .slice none 0 0, .slice none 0 0, .int .i64 0, .int .i64 0], .int .i64 8]) (results_cn (ty := 27) Try.results15 _ _ w.heap.size 27 _ (0, 0) _ rfl rfl br9 Try.underlying27 rfl notesz) rfl ?_
        rw [show decR l = (ntZero, 8) from HE.out]
        exact ⟨none, 0, none, 0, rfl, Own.none_ _ _ _ _, Own.none_ _ _ _ _, below_row hB (Nat.le_refl _) _⟩
      ·
        go_wp2_with (first
          | (refine wpList_load_row rfl 27 (.tmp 4) rfl (w.heap.size + 1) rfl 27 #[.int .i64 2, .int .i64 id, .string ⟨#[]⟩, .int .i64 0, .int .i64 0, .int .i64 x, .slice D 0 dc, .slice none 0 0, .int .i64 0, .int .i64 0] (0, 0) _ bq Try.underlying27 rfl notesz ?_)
          | (refine wpList_store_row rfl 27 (.tmp 2) (.tmp 126) rfl w.heap.size #[.int .i64 2, .int .i64 id, .string ⟨#[]⟩, .int .i64 0, .int .i64 0, .int .i64 x, .slice D 0 dc, .slice none 0 0, .int .i64 0, .int .i64 0] rfl rfl 27 _ br notesz rfl (by simp [Value.oneCell']) ?_))
        have br9 := br.row #[.int .i64 2, .int .i64 id, .string ⟨#[]⟩, .int .i64 0, .int .i64 0, .int .i64 x, .slice D 0 dc, .slice none 0 0, .int .i64 0, .int .i64 0]
        refine bodyPost_ret (v := .tuple #[.agg #[.int .i64 2, .int .i64 id, .string ⟨#[]⟩, .int .i64 0, .int .i64 0, .int .i64 x, .slice D 0 dc, .slice none 0 0, .int .i64 0, .int .i64 0], .int .i64 0]) (results_cn (ty := 27) Try.results15 _ _ w.heap.size 27 _ (0, 0) _ rfl rfl br9 Try.underlying27 rfl notesz) rfl ?_
        rw [show decR l = ((⟨2, id, ⟨#[]⟩, 0, 0, x, [], [], 0, 0⟩ : Nt), 0) from HE.out]
        exact ⟨D, dc, none, 0, rfl, (hD9.rowFar (r := w.heap.size) (by omega) _).mono (by omega), (hG9.rowFar (r := w.heap.size) (by omega) _).mono (by omega), below_row hB (Nat.le_refl _) _⟩
    ·
      have hRa : Rd W2 (some ⟨b, o + 3 + 4, none⟩) (bvs t) := by
        unfold nxtA at hRt
        rw [if_neg (by omega)] at hRt
        exact hRt
      clear hRt
      subst htl
      have htl : t.length = t.length := rfl
      have kf := bq.frozen
      have y3 := bq.cell' (i := 5) rfl
      go_upto_region 12 with fail
      trace "Q0"
      go_upto_region 13 with (go_at_call 44; refine CF.out.mono ?_; rintro e9 _ ⟨rfl, k9, rfl⟩)
      trace "Q1"
      clear kf y3 CF
      replace bq := (bq.drewN k9).set_ 5 (.int .i64 x)
      replace br := (br.drewN k9).far (p := ⟨w.heap.size + 1, 5, none⟩) (by show w.heap.size ≠ w.heap.size + 1; omega) (.int .i64 x)
      replace hB := (below_drewN hB k9).setCell (p := ⟨w.heap.size + 1, 5, none⟩) (by show w.heap.size ≤ w.heap.size + 1; omega) (.int .i64 x)
      trace "Q2"
      replace hRa := (hRa.drewN k9).setCell (p := ⟨w.heap.size + 1, 5, none⟩) (fun h => hbq (Option.some.inj h)) (.int .i64 x)
      generalize (W2.drewN k9).setCell ⟨w.heap.size + 1, 5, none⟩ (.int .i64 x) = W3 at *
      have q4 : 0 + t.length ≤ maxLen := by unfold maxLen; omega
      have q5 : (0 + t.length) * 1 ≤ 140737488355328 := by omega
      have q6 : w.heap.size + 2 ≤ W3.heap.size := by have := bq.lt; omega
      have HLN : Hid ((bvs t).length = t.length * 1) := Lib.hid (by rw [bvs_length, Nat.mul_one] <;> rfl)
      go_upto_region 33 with (at_builtin; refine wpList_append_Own W3 rfl (.const (.slice none 0 0)) (.tmp 51) 23 rfl (w.heap.size + 2) 5 i0 _ 1 1 Try.underlying23 hi0 hz0 hz1 hz2 rfl none 0 0 [] rfl (Own.none_ _ _ _ _) (some ⟨b, o + 3 + 4, none⟩) t.length f (bvs t) rfl HLN.out hRa (bvs_one t) q4 q5 q6 ?_; intro D dc w5 hO5 hg5 hor5; simp only [Nat.zero_add, List.nil_append] at hO5; simp only [Nat.zero_add]; have hb5 := below_of_grown hg5; have k5 := bq.step hb5; have kf5 := k5.frozen; have y6 := k5.cell' (i := 6) rfl)
      replace bq := k5
      replace br := br.step hb5
      replace hB := hB.trans (hb5.mono hB.size)
      have hO6 := hO5.setFar (p := ⟨w.heap.size + 1, 6, none⟩) (fun h => by have h1 := (hO5.lt _ h).1; have h2 : w.heap.size + 2 ≤ w.heap.size + 1 := h1; omega) (.slice D t.length dc)
      clear q4 q5 q6 hg5 hor5 hb5 k5 kf5 y6 hRa HLN hO5
      replace bq := bq.set_ 6 (.slice D t.length dc)
      replace br := br.far (p := ⟨w.heap.size + 1, 6, none⟩) (by show w.heap.size ≠ w.heap.size + 1; omega) (.slice D t.length dc)
      replace hB := hB.setCell (p := ⟨w.heap.size + 1, 6, none⟩) (by show w.heap.size ≤ w.heap.size + 1; omega) (.slice D t.length dc)
      generalize w5.setCell ⟨w.heap.size + 1, 6, none⟩ (.slice D t.length dc) = W4 at *
      have HE := Lib.hid (HDS.out _ HDC.out)
      have hD8 : Own W4 (w.heap.size + 2) 5 1 D t.length dc (bvs (⟨2, id, ⟨#[]⟩, 0, 0, x, t, [], 0, 0⟩ : Nt).data) := hO6
      have hG8 : Own W4 (w.heap.size + 2) 66 2 none 0 0 (gps (⟨2, id, ⟨#[]⟩, 0, 0, x, t, [], 0, 0⟩ : Nt).gaps) := (Own.none_ _ _ _ _)
      have CM := Lib.hid (noteMay_any (⟨2, id, ⟨#[]⟩, 0, 0, x, t, [], 0, 0⟩ : Nt) D t.length dc none 0 0 W4 rfl rfl hG8.rd (by omega) (by omega))
      obtain ⟨ok, hok⟩ : ∃ ok, noteOk (⟨2, id, ⟨#[]⟩, 0, 0, x, t, [], 0, 0⟩ : Nt) = ok := ⟨_, rfl⟩
      rw [hok] at CM HE
      unfold ntv at CM
      dsimp only at CM
      clear hok HDC HDN HDS
      go_wp2_with (refine wpList_load_row rfl 27 (.tmp 4) rfl (w.heap.size + 1) rfl 27 #[.int .i64 2, .int .i64 id, .string ⟨#[]⟩, .int .i64 0, .int .i64 0, .int .i64 x, .slice D t.length dc, .slice none 0 0, .int .i64 0, .int .i64 0] (0, 0) _ bq Try.underlying27 rfl notesz ?_)
      refine CM.out.mono ?_
      rintro e w9 ⟨rfl, hb9⟩
      replace bq := bq.step hb9
      replace br := br.step hb9
      replace hB := hB.trans (hb9.mono hB.size)
      have hD9 : Own w9 (w.heap.size + 2) 5 1 D t.length dc (bvs (⟨2, id, ⟨#[]⟩, 0, 0, x, t, [], 0, 0⟩ : Nt).data) := hD8.below hb9
      have hG9 : Own w9 (w.heap.size + 2) 66 2 none 0 0 (gps (⟨2, id, ⟨#[]⟩, 0, 0, x, t, [], 0, 0⟩ : Nt).gaps) := hG8.below hb9
      clear hb9 CM hD8 hG8
      cases ok
      ·
        go_wp2_with (refine wpList_store_row rfl 27 (.tmp 2) (.tmp 125) rfl w.heap.size #[.int .i64 0, .int .i64 0, .string ⟨#[]⟩, .int .i64 0, .int .i64 0, .int .i64 0, .slice none 0 0, .slice none 0 0, .int .i64 0, .int .i64 0] rfl rfl 27 _ br notesz rfl (by simp [Value.oneCell']) ?_)
        have br9 := br.row #[.int .i64 0, .int .i64 0, .string ⟨#[]⟩, .int .i64 0, .int .i64 0, .int .i64 0, .slice none 0 0, .slice none 0 0, .int .i64 0, .int .i64 0]
        refine bodyPost_ret (v := .tuple #[.agg #[.int .i64 0, .int .i64 0, .string ⟨#[]⟩, .int .i64 0, .int .i64 0, .int .i64 0, .slice none 0 0, .slice none 0 0, .int .i64 0, .int .i64 0], .int .i64 8]) (results_cn (ty := 27) Try.results15 _ _ w.heap.size 27 _ (0, 0) _ rfl rfl br9 Try.underlying27 rfl notesz) rfl ?_
        rw [show decR l = (ntZero, 8) from HE.out]
        exact ⟨none, 0, none, 0, rfl, Own.none_ _ _ _ _, Own.none_ _ _ _ _, below_row hB (Nat.le_refl _) _⟩
      ·
        go_wp2_with (first
          | (refine wpList_load_row rfl 27 (.tmp 4) rfl (w.heap.size + 1) rfl 27 #[.int .i64 2, .int .i64 id, .string ⟨#[]⟩, .int .i64 0, .int .i64 0, .int .i64 x, .slice D t.length dc, .slice none 0 0, .int .i64 0, .int .i64 0] (0, 0) _ bq Try.underlying27 rfl notesz ?_)
          | (refine wpList_store_row rfl 27 (.tmp 2) (.tmp 126) rfl w.heap.size #[.int .i64 2, .int .i64 id, .string ⟨#[]⟩, .int .i64 0, .int .i64 0, .int .i64 x, .slice D t.length dc, .slice none 0 0, .int .i64 0, .int .i64 0] rfl rfl 27 _ br notesz rfl (by simp [Value.oneCell']) ?_))
        have br9 := br.row #[.int .i64 2, .int .i64 id, .string ⟨#[]⟩, .int .i64 0, .int .i64 0, .int .i64 x, .slice D t.length dc, .slice none 0 0, .int .i64 0, .int .i64 0]
        refine bodyPost_ret (v := .tuple #[.agg #[.int .i64 2, .int .i64 id, .string ⟨#[]⟩, .int .i64 0, .int .i64 0, .int .i64 x, .slice D t.length dc, .slice none 0 0, .int .i64 0, .int .i64 0], .int .i64 0]) (results_cn (ty := 27) Try.results15 _ _ w.heap.size 27 _ (0, 0) _ rfl rfl br9 Try.underlying27 rfl notesz) rfl ?_
        rw [show decR l = ((⟨2, id, ⟨#[]⟩, 0, 0, x, t, [], 0, 0⟩ : Nt), 0) from HE.out]
        exact ⟨D, dc, none, 0, rfl, (hD9.rowFar (r := w.heap.size) (by omega) _).mono (by omega), (hG9.rowFar (r := w.heap.size) (by omega) _).mono (by omega), below_row hB (Nat.le_refl _) _⟩
end Go.Proofs.Ytianombjgdmbeaa
