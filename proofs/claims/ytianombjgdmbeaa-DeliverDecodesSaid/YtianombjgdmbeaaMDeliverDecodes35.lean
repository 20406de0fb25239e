/-
  The document's NoteOf: gaps. The document's NoteOf, of any bytes.
-/
import Derived.Test.YtianombjgdmbeaaMDeliverDecodes32
import Derived.Test.YtianombjgdmbeaaMDeliverDecodes14
import Derived.Test.YtianombjgdmbeaaMDeliverDecodes33
import Derived.Test.YtianombjgdmbeaaMDeliverDecodes34
namespace Go.Proofs.Ytianombjgdmbeaa
set_option linter.unusedSimpArgs false
set_option linter.unusedVariables false
open Go.RowKit

set_option maxHeartbeats 6400000 in
set_option maxRecDepth 100000 in
theorem noteOf_4 (A : Option Addr) (l : List UInt8) (n cap : Nat) (w : World) (hl : l.length = n) (ha : Rd w A (bvs l)) (hc : n ≤ cap) (hn : n ≤ 140737488351232) (h4 : 4 ≤ n) (hk : (bAt l 0 : Int) = 4) :
    Calls Try.prog 15 #[.slice A n cap] w fun e w' => DecRes w w' (decR l) e := by
  have hbv : bvs (l.drop 3) = (bvs l).drop 3 := by simp [bvs, List.map_drop]
  obtain ⟨b, o, rfl, c0⟩ := ha.byte (k := 0) (by omega)
  have c1 := ha.cell (bvs_get (k := 1) (l := l) (by omega))
  have c2 := ha.cell (bvs_get (k := 2) (l := l) (by omega))
  have hR3 : Rd w (some ⟨b, o + 3, none⟩) (bvs (l.drop 3)) := by rw [hbv]; exact ha.drop_lit 3
  rw [← bAt_in (l := l) (i := 0) (by omega)] at c0
  rw [← bAt_in (l := l) (i := 1) (by omega)] at c1
  rw [← bAt_in (l := l) (i := 2) (by omega)] at c2
  rw [Nat.add_zero] at c0
  have b1 := bAt_lt l 1
  have b2 := bAt_lt l 2
  have HDN := Lib.hid (decR_none (l := l) (by omega) hk rfl)
  have HDS := Lib.hid (fun nt => decR_some (l := l) (n := nt) (by omega) hk rfl)
  have kb0 : 0 ≤ (4 : Int) ∧ (4 : Int) < 256 := by have := bAt_lt l 0; omega
  have hcm : (l.drop 3).length = n - 3 := by rw [List.length_drop, hl]
  rw [hk] at c0
  have HL := Lib.hid hl
  clear hbv hk hl ha
  generalize bAt l 1 = x1 at *
  generalize bAt l 2 = x2 at *
  have o1 : bits .or .i64 ((x1 : Int) * 256) (x2 : Int) = (x1 : Int) * 256 + (x2 : Int) := by
    have h := or_i64 (x := x1 * 256) (y := x2) (m := 8) (by omega) (by omega) (by omega)
    rw [show ((x1 * 256 : Nat) : Int) = (x1 : Int) * 256 by omega] at h
    rw [h]
    omega
  obtain ⟨id, hid⟩ : ∃ id, (x1 : Int) * 256 + (x2 : Int) = id := ⟨_, rfl⟩
  rw [hid] at o1 HDN HDS
  obtain ⟨c, hcc⟩ : ∃ c, l.drop 3 = c := ⟨_, rfl⟩
  rw [hcc] at hR3 HDN HDS hcm
  obtain ⟨m, rfl⟩ : ∃ m, n = m + 3 := ⟨n - 3, by omega⟩
  obtain ⟨d, rfl⟩ : ∃ d, cap = d + 3 := ⟨cap - 3, by omega⟩
  rw [Nat.add_sub_cancel] at hcm
  have hm1 : 1 ≤ m := by omega
  have hmd : m ≤ d := by omega
  clear hcc hid
  have n4 : ¬ (m : Int) + 3 < 4 := by omega
  have n4n : ¬ m + 3 < 4 := by omega
  have pi0 : (0 : Int) < (m : Int) + 3 := by omega
  have pi1 : (1 : Int) < (m : Int) + 3 := by omega
  have pi2 : (2 : Int) < (m : Int) + 3 := by omega
  have pi3 : (3 : Int) ≤ (m : Int) + 3 := by omega
  have pi3d : (3 : Int) ≤ (d : Int) + 3 := by omega
  have j0 : 0 < m + 3 := by omega
  have j1 : 1 < m + 3 := by omega
  have j2 : 2 < m + 3 := by omega
  have j3 : 3 ≤ m + 3 := by omega
  have j4 : ¬ d + 3 = 3 := by omega
  have hV0 : Below w.heap.size w (w.alloc (.cells #[.int .i64 0, .int .i64 0, .string ⟨#[]⟩, .int .i64 0, .int .i64 0, .int .i64 0, .slice none 0 0, .slice none 0 0, .int .i64 0, .int .i64 0] 27)) := (Below.refl _ _).alloc (Nat.le_refl _) _
  have z0 := (Blk.new w 27 #[.int .i64 0, .int .i64 0, .string ⟨#[]⟩, .int .i64 0, .int .i64 0, .int .i64 0, .slice none 0 0, .slice none 0 0, .int .i64 0, .int .i64 0])
  have d0 : (w.alloc (.cells #[.int .i64 0, .int .i64 0, .string ⟨#[]⟩, .int .i64 0, .int .i64 0, .int .i64 0, .slice none 0 0, .slice none 0 0, .int .i64 0, .int .i64 0] 27)).drew.cell? ⟨b, o, none⟩ = some (.int .u8 4) := (World.cell?_of_block (w := w) (a := ⟨b, o, none⟩) (hV0.block b (World.block_lt_of_cell? _ _ c0))).trans c0
  have d1 : (w.alloc (.cells #[.int .i64 0, .int .i64 0, .string ⟨#[]⟩, .int .i64 0, .int .i64 0, .int .i64 0, .slice none 0 0, .slice none 0 0, .int .i64 0, .int .i64 0] 27)).drew.cell? ⟨b, o + 1, none⟩ = some (.int .u8 (x1 : Int)) := (World.cell?_of_block (w := w) (a := ⟨b, o + 1, none⟩) (hV0.block b (World.block_lt_of_cell? _ _ c1))).trans c1
  have d2 : (w.alloc (.cells #[.int .i64 0, .int .i64 0, .string ⟨#[]⟩, .int .i64 0, .int .i64 0, .int .i64 0, .slice none 0 0, .slice none 0 0, .int .i64 0, .int .i64 0] 27)).drew.cell? ⟨b, o + 2, none⟩ = some (.int .u8 (x2 : Int)) := (World.cell?_of_block (w := w) (a := ⟨b, o + 2, none⟩) (hV0.block b (World.block_lt_of_cell? _ _ c2))).trans c2
  have HRw := Lib.hid hR3
  have hlb : b < _ := World.block_lt_of_cell? _ _ d0
  have hlw : b < w.heap.size := World.block_lt_of_cell? _ _ c0
  clear c0 c1 c2
  go_enter Try.func15, Try.ntmps15
  go_upto_region 3 with fail
  refine heldRegion (fun v => v.cell? ⟨b, o, none⟩ = some (.int .u8 4) ∧ v.cell? ⟨b, o + 1, none⟩ = some (.int .u8 (x1 : Int)) ∧ v.cell? ⟨b, o + 2, none⟩ = some (.int .u8 (x2 : Int))) 16 (by kernel_rfl) (by kernel_rfl) ⟨d0, d1, d2⟩ (fun hSS => ?_)
  clear hSS
  replace z0 := z0.drew
  replace hV0 := hV0.drew
  have zV : (w.alloc (.cells #[.int .i64 0, .int .i64 0, .string ⟨#[]⟩, .int .i64 0, .int .i64 0, .int .i64 0, .slice none 0 0, .slice none 0 0, .int .i64 0, .int .i64 0] 27)).drew.heap.size = w.heap.size + 1 := by simp
  have HZV := Lib.hid zV
  clear zV
  generalize (w.alloc (.cells #[.int .i64 0, .int .i64 0, .string ⟨#[]⟩, .int .i64 0, .int .i64 0, .int .i64 0, .slice none 0 0, .slice none 0 0, .int .i64 0, .int .i64 0] 27)).drew = V at *
  refine walk_take 0 (v := ?va0) rfl (by kernel_rfl) (by kernel_rfl) (by kernel_rfl) (fun _ _ _ h => h) (⟨d0, d1, d2⟩) (Or.inl ⟨by rfl, ?ya0⟩) ?ra0
  case ya0 => intro w hSw; obtain ⟨hw0, hw1, hw2⟩ := hSw; (try dsimp only at hSw); go_simp; try rfl
  case' ra0 => try simp only [List.getElem_toArray, List.getElem_cons_succ, List.getElem_cons_zero, Act.put, List.setIfInBounds_toArray, List.set_cons_zero, List.set_cons_succ]
  refine walk_take 1 (v := ?va1) rfl (by kernel_rfl) (by kernel_rfl) (by kernel_rfl) (fun _ _ _ h => h) (⟨d0, d1, d2⟩) (Or.inl ⟨by rfl, ?ya1⟩) ?ra1
  case ya1 => intro w hSw; obtain ⟨hw0, hw1, hw2⟩ := hSw; (try dsimp only at hSw); go_simp; try rfl
  case' ra1 => try simp only [List.getElem_toArray, List.getElem_cons_succ, List.getElem_cons_zero, Act.put, List.setIfInBounds_toArray, List.set_cons_zero, List.set_cons_succ]
  refine walk_take 2 (v := ?va2) rfl (by kernel_rfl) (by kernel_rfl) (by kernel_rfl) (fun _ _ _ h => h) (⟨d0, d1, d2⟩) (Or.inl ⟨by rfl, ?ya2⟩) ?ra2
  case ya2 => intro w hSw; obtain ⟨hw0, hw1, hw2⟩ := hSw; (try dsimp only at hSw); go_simp; try rfl
  case' ra2 => try simp only [List.getElem_toArray, List.getElem_cons_succ, List.getElem_cons_zero, Act.put, List.setIfInBounds_toArray, List.set_cons_zero, List.set_cons_succ]
  refine walk_take 3 (v := ?va3) rfl (by kernel_rfl) (by kernel_rfl) (by kernel_rfl) (fun _ _ _ h => h) (⟨d0, d1, d2⟩) (Or.inl ⟨by rfl, ?ya3⟩) ?ra3
  case ya3 => intro w hSw; obtain ⟨hw0, hw1, hw2⟩ := hSw; (try dsimp only at hSw); go_simp; try rfl
  case' ra3 => try simp only [List.getElem_toArray, List.getElem_cons_succ, List.getElem_cons_zero, Act.put, List.setIfInBounds_toArray, List.set_cons_zero, List.set_cons_succ]
  refine walk_take 4 (v := ?va4) rfl (by kernel_rfl) (by kernel_rfl) (by kernel_rfl) (fun _ _ _ h => h) (⟨d0, d1, d2⟩) (Or.inl ⟨by rfl, ?ya4⟩) ?ra4
  case ya4 => intro w hSw; obtain ⟨hw0, hw1, hw2⟩ := hSw; (try dsimp only at hSw); go_simp; try rfl
  case' ra4 => try simp only [List.getElem_toArray, List.getElem_cons_succ, List.getElem_cons_zero, Act.put, List.setIfInBounds_toArray, List.set_cons_zero, List.set_cons_succ]
  refine walk_take 5 (v := ?va5) rfl (by kernel_rfl) (by kernel_rfl) (by kernel_rfl) (fun _ _ _ h => h) (⟨d0, d1, d2⟩) (Or.inl ⟨by rfl, ?ya5⟩) ?ra5
  case ya5 => intro w hSw; obtain ⟨hw0, hw1, hw2⟩ := hSw; (try dsimp only at hSw); go_simp; try rfl
  case' ra5 => try simp only [List.getElem_toArray, List.getElem_cons_succ, List.getElem_cons_zero, Act.put, List.setIfInBounds_toArray, List.set_cons_zero, List.set_cons_succ]
  refine walk_take 6 (v := ?va6) rfl (by kernel_rfl) (by kernel_rfl) (by kernel_rfl) (fun _ _ _ h => h) (⟨d0, d1, d2⟩) (Or.inl ⟨by rfl, ?ya6⟩) ?ra6
  case ya6 => intro w hSw; obtain ⟨hw0, hw1, hw2⟩ := hSw; (try dsimp only at hSw); go_simp; try rfl
  case' ra6 => try simp only [List.getElem_toArray, List.getElem_cons_succ, List.getElem_cons_zero, Act.put, List.setIfInBounds_toArray, List.set_cons_zero, List.set_cons_succ]
  refine walk_take 7 (v := ?va7) rfl (by kernel_rfl) (by kernel_rfl) (by kernel_rfl) (fun _ _ _ h => h) (⟨d0, d1, d2⟩) (Or.inl ⟨by rfl, ?ya7⟩) ?ra7
  case ya7 => intro w hSw; obtain ⟨hw0, hw1, hw2⟩ := hSw; (try dsimp only at hSw); go_simp; try rfl
  case' ra7 => try simp only [List.getElem_toArray, List.getElem_cons_succ, List.getElem_cons_zero, Act.put, List.setIfInBounds_toArray, List.set_cons_zero, List.set_cons_succ]
  refine walk_take 8 (v := ?va8) rfl (by kernel_rfl) (by kernel_rfl) (by kernel_rfl) (fun _ _ _ h => h) (⟨d0, d1, d2⟩) (Or.inl ⟨by rfl, ?ya8⟩) ?ra8
  case ya8 => intro w hSw; obtain ⟨hw0, hw1, hw2⟩ := hSw; (try dsimp only at hSw); go_simp; try rfl
  case' ra8 => try simp only [List.getElem_toArray, List.getElem_cons_succ, List.getElem_cons_zero, Act.put, List.setIfInBounds_toArray, List.set_cons_zero, List.set_cons_succ]
  refine walk_take 9 (v := ?va9) rfl (by kernel_rfl) (by kernel_rfl) (by kernel_rfl) (fun _ _ _ h => h) (⟨d0, d1, d2⟩) (Or.inl ⟨by rfl, ?ya9⟩) ?ra9
  case ya9 => intro w hSw; obtain ⟨hw0, hw1, hw2⟩ := hSw; (try dsimp only at hSw); go_simp; try rfl
  case' ra9 => try simp only [List.getElem_toArray, List.getElem_cons_succ, List.getElem_cons_zero, Act.put, List.setIfInBounds_toArray, List.set_cons_zero, List.set_cons_succ]
  refine walk_take 10 (v := ?va10) rfl (by kernel_rfl) (by kernel_rfl) (by kernel_rfl) (fun _ _ _ h => h) (⟨d0, d1, d2⟩) (Or.inl ⟨by rfl, ?ya10⟩) ?ra10
  case ya10 => intro w hSw; obtain ⟨hw0, hw1, hw2⟩ := hSw; (try dsimp only at hSw); go_simp; try rfl
  case' ra10 => try simp only [List.getElem_toArray, List.getElem_cons_succ, List.getElem_cons_zero, Act.put, List.setIfInBounds_toArray, List.set_cons_zero, List.set_cons_succ]
  refine walk_take 11 (v := ?va11) rfl (by kernel_rfl) (by kernel_rfl) (by kernel_rfl) (fun _ _ _ h => h) (⟨d0, d1, d2⟩) (Or.inl ⟨by rfl, ?ya11⟩) ?ra11
  case ya11 => intro w hSw; obtain ⟨hw0, hw1, hw2⟩ := hSw; (try dsimp only at hSw); go_simp; try rfl
  case' ra11 => try simp only [List.getElem_toArray, List.getElem_cons_succ, List.getElem_cons_zero, Act.put, List.setIfInBounds_toArray, List.set_cons_zero, List.set_cons_succ]
  refine walk_take 12 (v := ?va12) rfl (by kernel_rfl) (by kernel_rfl) (by kernel_rfl) (fun _ _ _ h => h) (⟨d0, d1, d2⟩) (Or.inl ⟨by rfl, ?ya12⟩) ?ra12
  case ya12 => intro w hSw; obtain ⟨hw0, hw1, hw2⟩ := hSw; (try dsimp only at hSw); go_simp; try rfl
  case' ra12 => try simp only [List.getElem_toArray, List.getElem_cons_succ, List.getElem_cons_zero, Act.put, List.setIfInBounds_toArray, List.set_cons_zero, List.set_cons_succ]
  refine walk_take 13 (v := ?va13) rfl (by kernel_rfl) (by kernel_rfl) (by kernel_rfl) (fun _ _ _ h => h) (⟨d0, d1, d2⟩) (Or.inl ⟨by rfl, ?ya13⟩) ?ra13
  case ya13 => intro w hSw; obtain ⟨hw0, hw1, hw2⟩ := hSw; (try dsimp only at hSw); go_simp; try rfl
  case' ra13 => try simp only [List.getElem_toArray, List.getElem_cons_succ, List.getElem_cons_zero, Act.put, List.setIfInBounds_toArray, List.set_cons_zero, List.set_cons_succ]
  refine walk_take 14 (v := ?va14) rfl (by kernel_rfl) (by kernel_rfl) (by kernel_rfl) (fun _ _ _ h => h) (⟨d0, d1, d2⟩) (Or.inl ⟨by rfl, ?ya14⟩) ?ra14
  case ya14 => intro w hSw; obtain ⟨hw0, hw1, hw2⟩ := hSw; (try dsimp only at hSw); go_simp; try rfl
  case' ra14 => try simp only [List.getElem_toArray, List.getElem_cons_succ, List.getElem_cons_zero, Act.put, List.setIfInBounds_toArray, List.set_cons_zero, List.set_cons_succ]
  refine walk_step 15 rfl (by kernel_rfl) (by kernel_rfl) (fun K hK => ?al)
  case al =>
    go_simp
    have e0 : (V.alloc (.cells #[.int .i64 0, .int .i64 0, .string ⟨#[]⟩, .int .i64 0, .int .i64 0, .int .i64 0, .slice none 0 0, .slice none 0 0, .int .i64 0, .int .i64 0] 27)).cell? ⟨b, o, none⟩ = some (.int .u8 4) := (World.cell?_of_block (w := V) (a := ⟨b, o, none⟩) (Below.heap_alloc V _ b hlb)).trans d0
    have e1 : (V.alloc (.cells #[.int .i64 0, .int .i64 0, .string ⟨#[]⟩, .int .i64 0, .int .i64 0, .int .i64 0, .slice none 0 0, .slice none 0 0, .int .i64 0, .int .i64 0] 27)).cell? ⟨b, o + 1, none⟩ = some (.int .u8 (x1 : Int)) := (World.cell?_of_block (w := V) (a := ⟨b, o + 1, none⟩) (Below.heap_alloc V _ b hlb)).trans d1
    have e2 : (V.alloc (.cells #[.int .i64 0, .int .i64 0, .string ⟨#[]⟩, .int .i64 0, .int .i64 0, .int .i64 0, .slice none 0 0, .slice none 0 0, .int .i64 0, .int .i64 0] 27)).cell? ⟨b, o + 2, none⟩ = some (.int .u8 (x2 : Int)) := (World.cell?_of_block (w := V) (a := ⟨b, o + 2, none⟩) (Below.heap_alloc V _ b hlb)).trans d2
    refine hK _ _ ⟨e0, e1, e2⟩ ?_
    clear hK K e0 e1 e2 d0 d1 d2
    try simp only [List.getElem_toArray, List.getElem_cons_succ, List.getElem_cons_zero, Act.put, List.setIfInBounds_toArray, List.set_cons_zero, List.set_cons_succ]
    have wx : IntKind.i64.wrap (x1 : Int) = (x1 : Int) := by rw [IntKind.wrap_i64]; omega
    have wy : IntKind.i64.wrap (x2 : Int) = (x2 : Int) := by rw [IntKind.wrap_i64]; omega
    have wz : IntKind.i64.wrap ((x1 : Int) * 256) = (x1 : Int) * 256 := by rw [IntKind.wrap_i64]; omega
    have wk : IntKind.i64.wrap 4 = 4 := by rw [IntKind.wrap_i64]; omega
    simp only [wx, wy, wz, wk, o1]
    clear wx wy wz wk o1 b1 b2 kb0
    refine walk_tail (by kernel_rfl) ?_
    simp only [List.drop_succ_cons, List.drop_zero]
    have hB := (hV0.alloc hV0.size (.cells #[.int .i64 0, .int .i64 0, .string ⟨#[]⟩, .int .i64 0, .int .i64 0, .int .i64 0, .slice none 0 0, .slice none 0 0, .int .i64 0, .int .i64 0] 27))
    have bq := Blk.new V 27 #[.int .i64 0, .int .i64 0, .string ⟨#[]⟩, .int .i64 0, .int .i64 0, .int .i64 0, .slice none 0 0, .slice none 0 0, .int .i64 0, .int .i64 0]
    replace z0 := z0.alloc (.cells #[.int .i64 0, .int .i64 0, .string ⟨#[]⟩, .int .i64 0, .int .i64 0, .int .i64 0, .slice none 0 0, .slice none 0 0, .int .i64 0, .int .i64 0] 27)
    have hRc := (hR3.below hV0).alloc (.cells #[.int .i64 0, .int .i64 0, .string ⟨#[]⟩, .int .i64 0, .int .i64 0, .int .i64 0, .slice none 0 0, .slice none 0 0, .int .i64 0, .int .i64 0] 27)
    rw [HZV.out] at bq ⊢
    clear hV0 hR3 HZV
    generalize V.alloc (.cells #[.int .i64 0, .int .i64 0, .string ⟨#[]⟩, .int .i64 0, .int .i64 0, .int .i64 0, .slice none 0 0, .slice none 0 0, .int .i64 0, .int .i64 0] 27) = W at *
    go_upto_region 4 with (refine wpList_store_row rfl 27 (.tmp 4) (.tmp 25) rfl (w.heap.size + 1) #[.int .i64 4, .int .i64 id, .string ⟨#[]⟩, .int .i64 0, .int .i64 0, .int .i64 0, .slice none 0 0, .slice none 0 0, .int .i64 0, .int .i64 0] rfl rfl 27 _ bq notesz rfl (by simp [Value.oneCell']) ?_)
    replace bq := bq.row #[.int .i64 4, .int .i64 id, .string ⟨#[]⟩, .int .i64 0, .int .i64 0, .int .i64 0, .slice none 0 0, .slice none 0 0, .int .i64 0, .int .i64 0]
    have br := z0.farRow (g := w.heap.size + 1) (by omega) #[.int .i64 4, .int .i64 id, .string ⟨#[]⟩, .int .i64 0, .int .i64 0, .int .i64 0, .slice none 0 0, .slice none 0 0, .int .i64 0, .int .i64 0]
    replace hB := below_row hB (g := w.heap.size + 1) (by omega) #[.int .i64 4, .int .i64 id, .string ⟨#[]⟩, .int .i64 0, .int .i64 0, .int .i64 0, .slice none 0 0, .slice none 0 0, .int .i64 0, .int .i64 0]
    replace hRc := hRc.turned (grownBy_turned (grown_row W (w.heap.size + 1) #[.int .i64 4, .int .i64 id, .string ⟨#[]⟩, .int .i64 0, .int .i64 0, .int .i64 0, .slice none 0 0, .slice none 0 0, .int .i64 0, .int .i64 0])) (fun q hq e => by
      have h1 : w.heap.size + 1 = q := Option.some.inj e
      have h2 : b = q := Option.some.inj hq
      omega)
    clear z0
    generalize W.setRow (w.heap.size + 1) #[.int .i64 4, .int .i64 id, .string ⟨#[]⟩, .int .i64 0, .int .i64 0, .int .i64 0, .slice none 0 0, .slice none 0 0, .int .i64 0, .int .i64 0] = W2 at *
    have x0 := bq.cell' (i := 0) rfl
    obtain ⟨j0, hj0, hy0, hy1, hy2⟩ := info_parts pairinfo
    obtain ⟨r, hr⟩ : ∃ r, m % 8 = r := ⟨_, rfl⟩
    have hri : (m : Int) % 8 = (r : Int) := by omega
    have hrt : (m : Int).tmod 8 = (r : Int) := by rw [Int.tmod_eq_emod_of_nonneg (by omega)]; exact hri
    by_cases hr0 : r = 0
    rotate_left
    ·
      have hmb : ((r : Int) == 0) = false := by rw [beq_eq_false_iff_ne]; omega
      have hmc : ((r : Int) != 0) = true := by rw [bne, hmb]; rfl
      have HZ := Lib.hid (HDN.out (by rw [decC_4, if_neg (by rw [hcm]; omega)]))
      clear hRc hr hri hr0
      go_wp2_with (refine wpList_store_row rfl 27 (.tmp 2) (.tmp 78) rfl w.heap.size #[.int .i64 0, .int .i64 0, .string ⟨#[]⟩, .int .i64 0, .int .i64 0, .int .i64 0, .slice none 0 0, .slice none 0 0, .int .i64 0, .int .i64 0] rfl rfl 27 _ br notesz rfl (by simp [Value.oneCell']) ?_)
      have br9 := br.row #[.int .i64 0, .int .i64 0, .string ⟨#[]⟩, .int .i64 0, .int .i64 0, .int .i64 0, .slice none 0 0, .slice none 0 0, .int .i64 0, .int .i64 0]
      refine bodyPost_ret (v := .tuple #[.agg #[.int .i64 0, .int .i64 0, .string ⟨#[]⟩, .int .i64 0, .int .i64 0, .int .i64 0, .slice none 0 0, .slice none 0 0, .int .i64 0, .int .i64 0], .int .i64 8]) (results_cn (ty := 27) Try.results15 _ _ w.heap.size 27 _ (0, 0) _ rfl rfl br9 Try.underlying27 rfl notesz) rfl ?_
      rw [HZ.out]
      exact ⟨none, 0, none, 0, rfl, Own.none_ _ _ _ _, Own.none_ _ _ _ _, below_row hB (Nat.le_refl _) _⟩
    subst hr0
    by_cases hm : m ≤ 160
    rotate_left
    ·
      have hmi : ¬ (m : Int) ≤ 160 := by omega
      have HZ := Lib.hid (HDN.out (by rw [decC_4, if_neg (by rw [hcm]; omega)]))
      clear hRc hr hri
      go_wp2_with (refine wpList_store_row rfl 27 (.tmp 2) (.tmp 78) rfl w.heap.size #[.int .i64 0, .int .i64 0, .string ⟨#[]⟩, .int .i64 0, .int .i64 0, .int .i64 0, .slice none 0 0, .slice none 0 0, .int .i64 0, .int .i64 0] rfl rfl 27 _ br notesz rfl (by simp [Value.oneCell']) ?_)
      have br9 := br.row #[.int .i64 0, .int .i64 0, .string ⟨#[]⟩, .int .i64 0, .int .i64 0, .int .i64 0, .slice none 0 0, .slice none 0 0, .int .i64 0, .int .i64 0]
      refine bodyPost_ret (v := .tuple #[.agg #[.int .i64 0, .int .i64 0, .string ⟨#[]⟩, .int .i64 0, .int .i64 0, .int .i64 0, .slice none 0 0, .slice none 0 0, .int .i64 0, .int .i64 0], .int .i64 8]) (results_cn (ty := 27) Try.results15 _ _ w.heap.size 27 _ (0, 0) _ rfl rfl br9 Try.underlying27 rfl notesz) rfl ?_
      rw [HZ.out]
      exact ⟨none, 0, none, 0, rfl, Own.none_ _ _ _ _, Own.none_ _ _ _ _, below_row hB (Nat.le_refl _) _⟩
    have hmi : (m : Int) ≤ 160 := by omega
    have HDC : Hid (decC 4 id c = some (⟨4, id, ⟨#[]⟩, 0, 0, 0, [], gapsOf c (c.length / 8), 0, 0⟩ : Nt)) := Lib.hid (by rw [decC_4, if_pos (by rw [hcm]; omega)])
    have HCM := Lib.hid hcm
    have HR8 := Lib.hid hr
    have HMD := Lib.hid hmd
    have CF := Lib.hid (fun (i : Nat) (V : World) (hB : Below w.heap.size w V) (hi : i + 4 ≤ m) => fourOf_any (some ⟨b, o + 3 + i, none⟩) (c.drop i) (m - i) (d - i) V (by rw [List.length_drop, HCM.out]) (by omega) (by
      rw [show bvs (c.drop i) = (bvs c).drop i by simp [bvs, List.map_drop]]
      exact (HRw.out.below hB).drop_lit i))
    simp only [fAt_drop, Nat.add_zero] at CF
    go_upto_region 21 with fail
    trace "G1"
    clear hri hrt hr hRc
    go_wp2_with fail
    trace "G2"
    go_loopw [6] (fun iv wr => ∃ (j i : Nat) (G : Option Addr) (gc : Nat), i = 8 * j ∧ i ≤ m ∧ iv = .int .i64 (i : Int) ∧ Blk wr (w.heap.size + 1) 27 #[.int .i64 4, .int .i64 id, .string ⟨#[]⟩, .int .i64 0, .int .i64 0, .int .i64 0, .slice none 0 0, .slice G j gc, .int .i64 0, .int .i64 0] ∧ Own wr (w.heap.size + 2) 66 2 G j gc (gps (gapsOf c j)) ∧ Blk wr w.heap.size 27 #[.int .i64 0, .int .i64 0, .string ⟨#[]⟩, .int .i64 0, .int .i64 0, .int .i64 0, .slice none 0 0, .slice none 0 0, .int .i64 0, .int .i64 0] ∧ Below w.heap.size w wr) (fun iv _ => m - (intOf iv).toNat)
    case atStart => exact ⟨0, 0, none, 0, rfl, by omega, rfl, bq, Own.none_ _ _ _ _, br, hB⟩
    case round =>
      clear bq br hB
      obtain ⟨j, i, G, gc, hij, him, rfl, bq, hO, br, hB⟩ := hrel
      have HIJ := Lib.hid hij
      by_cases hlt : i < m
      rotate_left
      ·
        obtain rfl : i = m := by omega
        have hnl : ¬ (i : Int) < (i : Int) := by omega
        have e8 : c.length / 8 = j := by rw [HCM.out]; omega
        rw [e8] at HDC
        have hj20 : j ≤ 20 := by omega
        have HGL : Hid ((gapsOf c j).length = j) := Lib.hid (gapsOf_len c j)
        obtain ⟨gs, hgs⟩ : ∃ gs, gapsOf c j = gs := ⟨_, rfl⟩
        rw [hgs] at hO HDC HGL
        clear hgs hij e8 CF
        obtain rfl : gs.length = j := HGL.out
        trace "G3"
        go_upto_region 33 with fail
        trace "G4"
        have HE := Lib.hid (HDS.out _ HDC.out)
        have hD8 : Own wr (w.heap.size + 2) 5 1 none 0 0 (bvs (⟨4, id, ⟨#[]⟩, 0, 0, 0, [], gs, 0, 0⟩ : Nt).data) := (Own.none_ _ _ _ _)
        have hG8 : Own wr (w.heap.size + 2) 66 2 G gs.length gc (gps (⟨4, id, ⟨#[]⟩, 0, 0, 0, [], gs, 0, 0⟩ : Nt).gaps) := hO
        have CM := Lib.hid (noteMay_any (⟨4, id, ⟨#[]⟩, 0, 0, 0, [], gs, 0, 0⟩ : Nt) none 0 0 G gs.length gc wr rfl rfl hG8.rd (by omega) (by omega))
        obtain ⟨ok, hok⟩ : ∃ ok, noteOk (⟨4, id, ⟨#[]⟩, 0, 0, 0, [], gs, 0, 0⟩ : Nt) = ok := ⟨_, rfl⟩
        rw [hok] at CM HE
        unfold ntv at CM
        dsimp only at CM
        clear hok HDC HDN HDS
        go_wp2_with (refine wpList_load_row rfl 27 (.tmp 4) rfl (w.heap.size + 1) rfl 27 #[.int .i64 4, .int .i64 id, .string ⟨#[]⟩, .int .i64 0, .int .i64 0, .int .i64 0, .slice none 0 0, .slice G gs.length gc, .int .i64 0, .int .i64 0] (0, 0) _ bq Try.underlying27 rfl notesz ?_)
        refine CM.out.mono ?_
        rintro e w9 ⟨rfl, hb9⟩
        replace bq := bq.step hb9
        replace br := br.step hb9
        replace hB := hB.trans (hb9.mono hB.size)
        have hD9 : Own w9 (w.heap.size + 2) 5 1 none 0 0 (bvs (⟨4, id, ⟨#[]⟩, 0, 0, 0, [], gs, 0, 0⟩ : Nt).data) := hD8.below hb9
        have hG9 : Own w9 (w.heap.size + 2) 66 2 G gs.length gc (gps (⟨4, id, ⟨#[]⟩, 0, 0, 0, [], gs, 0, 0⟩ : Nt).gaps) := hG8.below hb9
        clear hb9 CM hD8 hG8
        cases ok
        ·
          go_wp2_with (refine wpList_store_row rfl 27 (.tmp 2) (.tmp 125) rfl w.heap.size #[.int .i64 0, .int .i64 0, .string ⟨#[]⟩, .int .i64 0, .int .i64 0, .int .i64 0, .slice none 0 0, .slice none 0 0, .int .i64 0, .int .i64 0] rfl rfl 27 _ br notesz rfl (by simp [Value.oneCell']) ?_)
          have br9 := br.row #[.int .i64 0, .int .i64 0, .string ⟨#[]⟩, .int .i64 0, .int .i64 0, .int .i64 0, .slice none 0 0, .slice none 0 0, .int .i64 0, .int .i64 0]
          refine bodyPost_ret (v := .tuple #[.agg #[.int .i64 0, .int .i64 0, .string ⟨#[]⟩, .int .i64 0, .int .i64 0, .int .i64 0, .slice none 0 0, .slice none 0 0, .int .i64 0, .int .i64 0], .int .i64 8]) (results_cn (ty := 27) Try.results15 _ _ w.heap.size 27 _ (0, 0) _ rfl rfl br9 Try.underlying27 rfl notesz) rfl ?_
          rw [show decR l = (ntZero, 8) from HE.out]
          exact ⟨none, 0, none, 0, rfl, Own.none_ _ _ _ _, Own.none_ _ _ _ _, below_row hB (Nat.le_refl _) _⟩
        ·
          go_wp2_with (first
            | (refine wpList_load_row rfl 27 (.tmp 4) rfl (w.heap.size + 1) rfl 27 #[.int .i64 4, .int .i64 id, .string ⟨#[]⟩, .int .i64 0, .int .i64 0, .int .i64 0, .slice none 0 0, .slice G gs.length gc, .int .i64 0, .int .i64 0] (0, 0) _ bq Try.underlying27 rfl notesz ?_)
            | (refine wpList_store_row rfl 27 (.tmp 2) (.tmp 126) rfl w.heap.size #[.int .i64 4, .int .i64 id, .string ⟨#[]⟩, .int .i64 0, .int .i64 0, .int .i64 0, .slice none 0 0, .slice G gs.length gc, .int .i64 0, .int .i64 0] rfl rfl 27 _ br notesz rfl (by simp [Value.oneCell']) ?_))
          have br9 := br.row #[.int .i64 4, .int .i64 id, .string ⟨#[]⟩, .int .i64 0, .int .i64 0, .int .i64 0, .slice none 0 0, .slice G gs.length gc, .int .i64 0, .int .i64 0]
          refine bodyPost_ret (v := .tuple #[.agg #[.int .i64 4, .int .i64 id, .string ⟨#[]⟩, .int .i64 0, .int .i64 0, .int .i64 0, .slice none 0 0, .slice G gs.length gc, .int .i64 0, .int .i64 0], .int .i64 0]) (results_cn (ty := 27) Try.results15 _ _ w.heap.size 27 _ (0, 0) _ rfl rfl br9 Try.underlying27 rfl notesz) rfl ?_
          rw [show decR l = ((⟨4, id, ⟨#[]⟩, 0, 0, 0, [], gs, 0, 0⟩ : Nt), 0) from HE.out]
          exact ⟨none, 0, G, gc, rfl, (hD9.rowFar (r := w.heap.size) (by omega) _).mono (by omega), (hG9.rowFar (r := w.heap.size) (by omega) _).mono (by omega), below_row hB (Nat.le_refl _) _⟩
      ·
        have hlti : (i : Int) < (m : Int) := by omega
        have h8 : i + 8 ≤ m := by have := HR8.out; omega
        have hid_ : ¬ d = i := by have := HMD.out; omega
        have hid4 : ¬ d = i + 4 := by have := HMD.out; omega
        have k1 : (i : Int) ≤ (m : Int) := by omega
        have k2 : (i : Int) + 4 ≤ (m : Int) := by omega
        have k3 : (i : Int) ≤ (d : Int) := by have := HMD.out; omega
        have k4 : (i : Int) + 4 ≤ (d : Int) := by have := HMD.out; omega
        have k5 : (0 : Int) ≤ (i : Int) := by omega
        have k6 : (0 : Int) ≤ (i : Int) + 4 := by omega
        have k7 : (i : Int) + 4 ≤ 200 := by omega
        have HGS := Lib.hid (gapsOf_succ c j)
        obtain ⟨x, hx⟩ : ∃ x, fAt c (8 * j) = x := ⟨_, rfl⟩
        obtain ⟨z, hz⟩ : ∃ z, fAt c (8 * j + 4) = z := ⟨_, rfl⟩
        rw [hx, hz] at HGS
        have C1 := Lib.hid (fun (V : World) (hB : Below w.heap.size w V) => CF.out i V hB (by omega))
        have C2 := Lib.hid (fun (V : World) (hB : Below w.heap.size w V) => CF.out (i + 4) V hB (by omega))
        rw [hij, hx, ← hij] at C1
        rw [hij, hz, ← hij] at C2
        clear hx hz hij CF
        go_upto_region 24 with fail
        trace "G5"
        replace bq := bq.drew
        replace hO := hO.drew
        replace br := br.drew
        replace hB := hB.drew
        have d7 : wr.drew.cell? ⟨w.heap.size + 1, 7, none⟩ = some (.slice G j gc) := bq.cell' (i := 7) rfl
        refine heldRegion (fun v => v.cell? ⟨w.heap.size + 1, 7, none⟩ = some (.slice G j gc)) 14 (by kernel_rfl) (by kernel_rfl) d7 (fun hSS => ?_)
        clear hSS
        generalize wr.drew = V at *
        refine walk_take 0 (v := ?vg0) rfl (by kernel_rfl) (by kernel_rfl) (by kernel_rfl) (fun _ _ _ h => h) (d7) (Or.inl ⟨by rfl, ?yg0⟩) ?rg0
        case yg0 => intro w hSw; (try dsimp only at hSw); go_simp; try rfl
        case' rg0 => try simp only [List.getElem_toArray, List.getElem_cons_succ, List.getElem_cons_zero, Act.put, List.setIfInBounds_toArray, List.set_cons_zero, List.set_cons_succ]
        refine walk_take 1 (v := ?vg1) rfl (by kernel_rfl) (by kernel_rfl) (by kernel_rfl) (fun _ _ _ h => h) (d7) (Or.inl ⟨by rfl, ?yg1⟩) ?rg1
        case yg1 => intro w hSw; (try dsimp only at hSw); go_simp; try rfl
        case' rg1 => try simp only [List.getElem_toArray, List.getElem_cons_succ, List.getElem_cons_zero, Act.put, List.setIfInBounds_toArray, List.set_cons_zero, List.set_cons_succ]
        refine walk_take 2 (v := ?vg2) rfl (by kernel_rfl) (by kernel_rfl) (by kernel_rfl) (fun _ _ _ h => h) (d7) (Or.inl ⟨by rfl, ?yg2⟩) ?rg2
        case yg2 => intro w hSw; (try dsimp only at hSw); go_simp; try rfl
        case' rg2 => try simp only [List.getElem_toArray, List.getElem_cons_succ, List.getElem_cons_zero, Act.put, List.setIfInBounds_toArray, List.set_cons_zero, List.set_cons_succ]
        refine walk_take 3 (v := ?vg3) rfl (by kernel_rfl) (by kernel_rfl) (by kernel_rfl) (fun _ _ _ h => h) (d7) (Or.inl ⟨by rfl, ?yg3⟩) ?rg3
        case yg3 => intro w hSw; (try dsimp only at hSw); go_simp; try rfl
        case' rg3 => try simp only [List.getElem_toArray, List.getElem_cons_succ, List.getElem_cons_zero, Act.put, List.setIfInBounds_toArray, List.set_cons_zero, List.set_cons_succ]
        refine walk_take 4 (v := ?vg4) rfl (by kernel_rfl) (by kernel_rfl) (by kernel_rfl) (fun _ _ _ h => h) (d7) (Or.inl ⟨by rfl, ?yg4⟩) ?rg4
        case yg4 => intro w hSw; (try dsimp only at hSw); go_simp; try rfl
        case' rg4 => try simp only [List.getElem_toArray, List.getElem_cons_succ, List.getElem_cons_zero, Act.put, List.setIfInBounds_toArray, List.set_cons_zero, List.set_cons_succ]
        refine walk_take 6 (v := ?vg6) rfl (by kernel_rfl) (by kernel_rfl) (by kernel_rfl) (fun _ _ _ h => h) (d7) (Or.inl ⟨by rfl, ?yg6⟩) ?rg6
        case yg6 => intro w hSw; (try dsimp only at hSw); go_simp; try rfl
        case' rg6 => try simp only [List.getElem_toArray, List.getElem_cons_succ, List.getElem_cons_zero, Act.put, List.setIfInBounds_toArray, List.set_cons_zero, List.set_cons_succ]
        refine walk_take 7 (v := ?vg7) rfl (by kernel_rfl) (by kernel_rfl) (by kernel_rfl) (fun _ _ _ h => h) (d7) (Or.inl ⟨by rfl, ?yg7⟩) ?rg7
        case yg7 => intro w hSw; (try dsimp only at hSw); go_simp; try rfl
        case' rg7 => try simp only [List.getElem_toArray, List.getElem_cons_succ, List.getElem_cons_zero, Act.put, List.setIfInBounds_toArray, List.set_cons_zero, List.set_cons_succ]
        refine walk_take 8 (v := ?vg8) rfl (by kernel_rfl) (by kernel_rfl) (by kernel_rfl) (fun _ _ _ h => h) (d7) (Or.inl ⟨by rfl, ?yg8⟩) ?rg8
        case yg8 => intro w hSw; (try dsimp only at hSw); go_simp; try rfl
        case' rg8 => try simp only [List.getElem_toArray, List.getElem_cons_succ, List.getElem_cons_zero, Act.put, List.setIfInBounds_toArray, List.set_cons_zero, List.set_cons_succ]
        have w4 : IntKind.i64.wrap ((i : Int) + 4) = (i : Int) + 4 := by rw [IntKind.wrap_i64]; omega
        simp only [w4]
        clear w4
        have t4 : ((i : Int) + 4).toNat = i + 4 := by omega
        refine walk_take 9 (v := ?vh9) rfl (by kernel_rfl) (by kernel_rfl) (by kernel_rfl) (fun _ _ _ h => h) (d7) (Or.inl ⟨by rfl, ?yh9⟩) ?rh9
        case yh9 => intro w hSw; (try dsimp only at hSw); go_simp; try rfl
        case' rh9 => try simp only [List.getElem_toArray, List.getElem_cons_succ, List.getElem_cons_zero, Act.put, List.setIfInBounds_toArray, List.set_cons_zero, List.set_cons_succ]
        refine walk_step 5 rfl (by kernel_rfl) (by kernel_rfl) (fun K hK => ?e1)
        case e1 =>
          go_simp
          refine (C1.out V hB).mono ?_
          rintro e9 _ ⟨rfl, k9, rfl⟩
          have d72 : (V.drewN k9).cell? ⟨w.heap.size + 1, 7, none⟩ = some (.slice G j gc) := d7
          refine hK _ _ d72 ?_
          clear hK K C1 d7
          replace bq := bq.drewN k9
          replace hO := hO.drewN k9
          replace br := br.drewN k9
          replace hB := below_drewN hB k9
          generalize V.drewN k9 = V1 at *
          try simp only [List.getElem_toArray, List.getElem_cons_succ, List.getElem_cons_zero, Act.put, List.setIfInBounds_toArray, List.set_cons_zero, List.set_cons_succ]
          refine walk_step 10 rfl (by kernel_rfl) (by kernel_rfl) (fun K hK => ?e2)
          case e2 =>
            go_simp
            refine (C2.out V1 hB).mono ?_
            rintro e9 _ ⟨rfl, k8, rfl⟩
            have d73 : (V1.drewN k8).cell? ⟨w.heap.size + 1, 7, none⟩ = some (.slice G j gc) := d72
            refine hK _ _ d73 ?_
            clear hK K C2 d72
            replace bq := bq.drewN k8
            replace hO := hO.drewN k8
            replace br := br.drewN k8
            replace hB := below_drewN hB k8
            generalize V1.drewN k8 = V2 at *
            try simp only [List.getElem_toArray, List.getElem_cons_succ, List.getElem_cons_zero, Act.put, List.setIfInBounds_toArray, List.set_cons_zero, List.set_cons_succ]
            refine walk_take 11 (v := ?vm11) rfl (by kernel_rfl) (by kernel_rfl) (by kernel_rfl) (fun _ _ _ h => h) (d73) (Or.inl ⟨by rfl, ?ym11⟩) ?rm11
            case ym11 => intro w hSw; (try dsimp only at hSw); go_simp; try rfl
            case' rm11 => try simp only [List.getElem_toArray, List.getElem_cons_succ, List.getElem_cons_zero, Act.put, List.setIfInBounds_toArray, List.set_cons_zero, List.set_cons_succ]
            have hRL := Rd_lit V2 [.int .i64 x, .int .i64 z] 66
            have bq2 := bq.alloc (.cells #[.int .i64 x, .int .i64 z] 66)
            have br2 := br.alloc (.cells #[.int .i64 x, .int .i64 z] 66)
            have hO2 := hO.alloc (.cells #[.int .i64 x, .int .i64 z] 66)
            have hB2 := hB.alloc hB.size (.cells #[.int .i64 x, .int .i64 z] 66)
            have d74 : (V2.alloc (.cells #[.int .i64 x, .int .i64 z] 66)).cell? ⟨w.heap.size + 1, 7, none⟩ = some (.slice G j gc) := bq2.cell' (i := 7) rfl
            have hbs : w.heap.size + 2 ≤ (V2.alloc (.cells #[.int .i64 x, .int .i64 z] 66)).heap.size := by have := bq2.lt; omega
            refine walk_step 12 rfl (by kernel_rfl) (by kernel_rfl) (fun K hK => ?bs)
            case bs =>
              go_simp
              refine hK _ _ d74 ?_
              clear hK K
              try simp only [List.getElem_toArray, List.getElem_cons_succ, List.getElem_cons_zero, Act.put, List.setIfInBounds_toArray, List.set_cons_zero, List.set_cons_succ]
              have hj20 : j ≤ 20 := by have := HIJ.out; omega
              have q4 : j + 1 ≤ maxLen := by unfold maxLen; omega
              have q5 : (j + 1) * 16 ≤ 140737488355328 := by omega
              have hone : Hid (∀ u ∈ [Value.int .i64 x, .int .i64 z], u.oneCell' = true) := Lib.hid (gps_one [(x, z)])
              refine walk_step 13 rfl (by kernel_rfl) (by kernel_rfl) (fun K hK => ?ap)
              case ap =>
                rw [if_pos (by kernel_rfl)]
                refine wp_append_Own _ (.tmp 86) (.tmp 97) 24 rfl (w.heap.size + 2) 66 j0 _ 2 16 Try.underlying24 hj0 hy0 hy1 hy2 rfl G j gc (gps (gapsOf c j)) rfl hO2 (some ⟨V2.heap.size, 0, none⟩) 1 1 [.int .i64 x, .int .i64 z] rfl rfl hRL hone.out q4 q5 hbs ?_
                intro G6 c6 w6 hO6 hg6 hor6
                have bq6 := bq2.grown hg6 (fun e => (hO2.notBlk bq2 (by decide)) e.symm)
                have br6 := br2.grown hg6 (fun e => (hO2.notBlk br2 (by decide)) e.symm)
                have hB6 := Below.grown' (A := G) hB2 hg6 hB2.size (fun k hk => by have := (hO2.lt k hk).1; omega)
                have d76 : w6.cell? ⟨w.heap.size + 1, 7, none⟩ = some (.slice G j gc) := bq6.cell' (i := 7) rfl
                refine hK _ _ d76 ?_
                clear hK K hRL bq2 br2 hO2 hB2 d74 hbs q4 q5 hone bq br hO hB d73 hg6 hor6
                try simp only [List.getElem_toArray, List.getElem_cons_succ, List.getElem_cons_zero, Act.put, List.setIfInBounds_toArray, List.set_cons_zero, List.set_cons_succ]
                have kf := bq6.frozen
                refine walk_tail (by kernel_rfl) ?_
                simp only [List.drop_succ_cons, List.drop_zero]
                go_wp2_with fail
                go_roundw
                case rel =>
                  refine ⟨j + 1, i + 8, G6, c6, by have := HIJ.out; omega, h8, by go_num, bq6.set_ 7 (.slice G6 (j + 1) c6), ?_, br6.far (p := ⟨w.heap.size + 1, 7, none⟩) (by show w.heap.size ≠ w.heap.size + 1; omega) _, hB6.setCell (p := ⟨w.heap.size + 1, 7, none⟩) (by show w.heap.size ≤ w.heap.size + 1; omega) _⟩
                  have e : gps (gapsOf c (j + 1)) = gps (gapsOf c j) ++ [.int .i64 x, .int .i64 z] := by rw [HGS.out]; simp [gps, gpc]
                  rw [e]
                  exact hO6.setFar (p := ⟨w.heap.size + 1, 7, none⟩) (hO6.notBlk bq6 (by decide)) _
                case measure => simp [intOf]; omega
end Go.Proofs.Ytianombjgdmbeaa
namespace Go.Proofs.Ytianombjgdmbeaa
set_option linter.unusedSimpArgs false
set_option linter.unusedVariables false
open Go.RowKit

set_option maxHeartbeats 1600000 in
set_option maxRecDepth 100000 in
theorem noteOf_s (A : Option Addr) (l : List UInt8) (n cap : Nat) (w : World) (hl : l.length = n) (h4 : n < 4) :
    Calls Try.prog 15 #[.slice A n cap] w fun e w' => DecRes w w' (decR l) e := by
  have HZ : Hid (decR l = (ntZero, 8)) := Lib.hid (by unfold decR; rw [if_pos (by omega)])
  have br := Blk.new w 27 #[.int .i64 0, .int .i64 0, .string ⟨#[]⟩, .int .i64 0, .int .i64 0, .int .i64 0, .slice none 0 0, .slice none 0 0, .int .i64 0, .int .i64 0]
  have hB : Below w.heap.size w (w.alloc (.cells #[.int .i64 0, .int .i64 0, .string ⟨#[]⟩, .int .i64 0, .int .i64 0, .int .i64 0, .slice none 0 0, .slice none 0 0, .int .i64 0, .int .i64 0] 27)) := (Below.refl _ _).alloc (Nat.le_refl _) _
  have h4i : (n : Int) < 4 := by omega
  clear hl
  go_enter Try.func15, Try.ntmps15
  go_upto_region 2 with fail
  generalize w.alloc (.cells #[.int .i64 0, .int .i64 0, .string ⟨#[]⟩, .int .i64 0, .int .i64 0, .int .i64 0, .slice none 0 0, .slice none 0 0, .int .i64 0, .int .i64 0] 27) = W at *
  go_wp2_with (refine wpList_store_row rfl 27 (.tmp 2) (.tmp 10) rfl w.heap.size #[.int .i64 0, .int .i64 0, .string ⟨#[]⟩, .int .i64 0, .int .i64 0, .int .i64 0, .slice none 0 0, .slice none 0 0, .int .i64 0, .int .i64 0] rfl rfl 27 _ br notesz rfl (by simp [Value.oneCell']) ?_)
  have br9 := br.row #[.int .i64 0, .int .i64 0, .string ⟨#[]⟩, .int .i64 0, .int .i64 0, .int .i64 0, .slice none 0 0, .slice none 0 0, .int .i64 0, .int .i64 0]
  refine bodyPost_ret (v := .tuple #[.agg #[.int .i64 0, .int .i64 0, .string ⟨#[]⟩, .int .i64 0, .int .i64 0, .int .i64 0, .slice none 0 0, .slice none 0 0, .int .i64 0, .int .i64 0], .int .i64 8]) (results_cn (ty := 27) Try.results15 _ _ w.heap.size 27 _ (0, 0) _ rfl rfl br9 Try.underlying27 rfl notesz) rfl ?_
  rw [HZ.out]
  exact ⟨none, 0, none, 0, rfl, Own.none_ _ _ _ _, Own.none_ _ _ _ _, below_row hB (Nat.le_refl _) _⟩
theorem noteOf_any (A : Option Addr) (l : List UInt8) (n cap : Nat) (w : World) (hl : l.length = n) (ha : Rd w A (bvs l)) (hc : n ≤ cap) (hn : n ≤ 140737488351232) :
    Calls Try.prog 15 #[.slice A n cap] w fun e w' => DecRes w w' (decR l) e := by
  by_cases h4 : n < 4
  · exact noteOf_s A l n cap w hl h4
  have h4 : 4 ≤ n := by omega
  obtain ⟨kd, hk⟩ : ∃ kd, (bAt l 0 : Int) = kd := ⟨_, rfl⟩
  by_cases k1 : kd = 1
  · exact noteOf_1 A l n cap w hl ha hc hn h4 (hk.trans k1)
  by_cases k2 : kd = 2
  · exact noteOf_2 A l n cap w hl ha hc hn h4 (hk.trans k2)
  by_cases k3 : kd = 3
  · exact noteOf_3 A l n cap w hl ha hc hn h4 (hk.trans k3)
  by_cases k4 : kd = 4
  · exact noteOf_4 A l n cap w hl ha hc hn h4 (hk.trans k4)
  by_cases k5 : kd = 5
  · exact noteOf_5 A l n cap w hl ha hc hn h4 (hk.trans k5)
  by_cases k6 : kd = 6
  · exact noteOf_6 A l n cap w hl ha hc hn h4 (hk.trans k6)
  exact noteOf_o A l n cap w hl ha hc hn h4 kd hk k1 k2 k3 k4 k5 k6
end Go.Proofs.Ytianombjgdmbeaa
