/-
  The document's NoteOf: none of the kinds. The document's NoteOf: an end.
-/
import Derived.Test.YtianombjgdmbeaaMDeliverDecodes32
import Derived.Test.YtianombjgdmbeaaMDeliverDecodes14
namespace Go.Proofs.Ytianombjgdmbeaa
set_option linter.unusedSimpArgs false
set_option linter.unusedVariables false
open Go.RowKit

set_option maxHeartbeats 6400000 in
set_option maxRecDepth 100000 in
theorem noteOf_o (A : Option Addr) (l : List UInt8) (n cap : Nat) (w : World) (hl : l.length = n) (ha : Rd w A (bvs l)) (hc : n ≤ cap) (hn : n ≤ 140737488351232) (h4 : 4 ≤ n) (kd : Int) (hk : (bAt l 0 : Int) = kd) (h1 : kd ≠ 1) (h2 : kd ≠ 2) (h3 : kd ≠ 3) (h4' : kd ≠ 4) (h5 : kd ≠ 5) (h6 : kd ≠ 6) :
    Calls Try.prog 15 #[.slice A n cap] w fun e w' => DecRes w w' (decR l) e := by
  have hbv : bvs (l.drop 3) = (bvs l).drop 3 := by simp [bvs, List.map_drop]
  obtain ⟨b, o, rfl, c0⟩ := ha.byte (k := 0) (by omega)
  have c1 := ha.cell (bvs_get (k := 1) (l := l) (by omega))
  have c2 := ha.cell (bvs_get (k := 2) (l := l) (by omega))
  have hR3 : Rd w (some ⟨b, o + 3, none⟩) (bvs (l.drop 3)) := by rw [hbv]; exact ha.drop_lit 3
  rw [← bAt_in (l := l) (i := 0) (by omega)] at c0
  rw [← bAt_in (l := l) (i := 1) (by omega)] at c1
  rw [← bAt_in (l := l) (i := 2) (by omega)] at c2
  rw [Nat.add_zero] at c0
  have b1 := bAt_lt l 1
  have b2 := bAt_lt l 2
  have HDN := Lib.hid (decR_none (l := l) (by omega) hk rfl)
  have HDS := Lib.hid (fun nt => decR_some (l := l) (n := nt) (by omega) hk rfl)
  have kb0 : 0 ≤ (kd : Int) ∧ (kd : Int) < 256 := by have := bAt_lt l 0; omega
  have hcm : (l.drop 3).length = n - 3 := by rw [List.length_drop, hl]
  rw [hk] at c0
  have HL := Lib.hid hl
  clear hbv hk hl ha
  generalize bAt l 1 = x1 at *
  generalize bAt l 2 = x2 at *
  have o1 : bits .or .i64 ((x1 : Int) * 256) (x2 : Int) = (x1 : Int) * 256 + (x2 : Int) := by
    have h := or_i64 (x := x1 * 256) (y := x2) (m := 8) (by omega) (by omega) (by omega)
    rw [show ((x1 * 256 : Nat) : Int) = (x1 : Int) * 256 by omega] at h
    rw [h]
    omega
  obtain ⟨id, hid⟩ : ∃ id, (x1 : Int) * 256 + (x2 : Int) = id := ⟨_, rfl⟩
  rw [hid] at o1 HDN HDS
  obtain ⟨c, hcc⟩ : ∃ c, l.drop 3 = c := ⟨_, rfl⟩
  rw [hcc] at hR3 HDN HDS hcm
  obtain ⟨m, rfl⟩ : ∃ m, n = m + 3 := ⟨n - 3, by omega⟩
  obtain ⟨d, rfl⟩ : ∃ d, cap = d + 3 := ⟨cap - 3, by omega⟩
  rw [Nat.add_sub_cancel] at hcm
  have hm1 : 1 ≤ m := by omega
  have hmd : m ≤ d := by omega
  clear hcc hid
  have n4 : ¬ (m : Int) + 3 < 4 := by omega
  have n4n : ¬ m + 3 < 4 := by omega
  have pi0 : (0 : Int) < (m : Int) + 3 := by omega
  have pi1 : (1 : Int) < (m : Int) + 3 := by omega
  have pi2 : (2 : Int) < (m : Int) + 3 := by omega
  have pi3 : (3 : Int) ≤ (m : Int) + 3 := by omega
  have pi3d : (3 : Int) ≤ (d : Int) + 3 := by omega
  have j0 : 0 < m + 3 := by omega
  have j1 : 1 < m + 3 := by omega
  have j2 : 2 < m + 3 := by omega
  have j3 : 3 ≤ m + 3 := by omega
  have j4 : ¬ d + 3 = 3 := by omega
  have hV0 : Below w.heap.size w (w.alloc (.cells #[.int .i64 0, .int .i64 0, .string ⟨#[]⟩, .int .i64 0, .int .i64 0, .int .i64 0, .slice none 0 0, .slice none 0 0, .int .i64 0, .int .i64 0] 27)) := (Below.refl _ _).alloc (Nat.le_refl _) _
  have z0 := (Blk.new w 27 #[.int .i64 0, .int .i64 0, .string ⟨#[]⟩, .int .i64 0, .int .i64 0, .int .i64 0, .slice none 0 0, .slice none 0 0, .int .i64 0, .int .i64 0])
  have d0 : (w.alloc (.cells #[.int .i64 0, .int .i64 0, .string ⟨#[]⟩, .int .i64 0, .int .i64 0, .int .i64 0, .slice none 0 0, .slice none 0 0, .int .i64 0, .int .i64 0] 27)).drew.cell? ⟨b, o, none⟩ = some (.int .u8 kd) := (World.cell?_of_block (w := w) (a := ⟨b, o, none⟩) (hV0.block b (World.block_lt_of_cell? _ _ c0))).trans c0
  have d1 : (w.alloc (.cells #[.int .i64 0, .int .i64 0, .string ⟨#[]⟩, .int .i64 0, .int .i64 0, .int .i64 0, .slice none 0 0, .slice none 0 0, .int .i64 0, .int .i64 0] 27)).drew.cell? ⟨b, o + 1, none⟩ = some (.int .u8 (x1 : Int)) := (World.cell?_of_block (w := w) (a := ⟨b, o + 1, none⟩) (hV0.block b (World.block_lt_of_cell? _ _ c1))).trans c1
  have d2 : (w.alloc (.cells #[.int .i64 0, .int .i64 0, .string ⟨#[]⟩, .int .i64 0, .int .i64 0, .int .i64 0, .slice none 0 0, .slice none 0 0, .int .i64 0, .int .i64 0] 27)).drew.cell? ⟨b, o + 2, none⟩ = some (.int .u8 (x2 : Int)) := (World.cell?_of_block (w := w) (a := ⟨b, o + 2, none⟩) (hV0.block b (World.block_lt_of_cell? _ _ c2))).trans c2
  have HRw := Lib.hid hR3
  have hlb : b < _ := World.block_lt_of_cell? _ _ d0
  have hlw : b < w.heap.size := World.block_lt_of_cell? _ _ c0
  clear c0 c1 c2
  go_enter Try.func15, Try.ntmps15
  go_upto_region 3 with fail
  refine heldRegion (fun v => v.cell? ⟨b, o, none⟩ = some (.int .u8 kd) ∧ v.cell? ⟨b, o + 1, none⟩ = some (.int .u8 (x1 : Int)) ∧ v.cell? ⟨b, o + 2, none⟩ = some (.int .u8 (x2 : Int))) 16 (by kernel_rfl) (by kernel_rfl) ⟨d0, d1, d2⟩ (fun hSS => ?_)
  clear hSS
  replace z0 := z0.drew
  replace hV0 := hV0.drew
  have zV : (w.alloc (.cells #[.int .i64 0, .int .i64 0, .string ⟨#[]⟩, .int .i64 0, .int .i64 0, .int .i64 0, .slice none 0 0, .slice none 0 0, .int .i64 0, .int .i64 0] 27)).drew.heap.size = w.heap.size + 1 := by simp
  have HZV := Lib.hid zV
  clear zV
  generalize (w.alloc (.cells #[.int .i64 0, .int .i64 0, .string ⟨#[]⟩, .int .i64 0, .int .i64 0, .int .i64 0, .slice none 0 0, .slice none 0 0, .int .i64 0, .int .i64 0] 27)).drew = V at *
  refine walk_take 0 (v := ?va0) rfl (by kernel_rfl) (by kernel_rfl) (by kernel_rfl) (fun _ _ _ h => h) (⟨d0, d1, d2⟩) (Or.inl ⟨by rfl, ?ya0⟩) ?ra0
  case ya0 => intro w hSw; obtain ⟨hw0, hw1, hw2⟩ := hSw; (try dsimp only at hSw); go_simp; try rfl
  case' ra0 => try simp only [List.getElem_toArray, List.getElem_cons_succ, List.getElem_cons_zero, Act.put, List.setIfInBounds_toArray, List.set_cons_zero, List.set_cons_succ]
  refine walk_take 1 (v := ?va1) rfl (by kernel_rfl) (by kernel_rfl) (by kernel_rfl) (fun _ _ _ h => h) (⟨d0, d1, d2⟩) (Or.inl ⟨by rfl, ?ya1⟩) ?ra1
  case ya1 => intro w hSw; obtain ⟨hw0, hw1, hw2⟩ := hSw; (try dsimp only at hSw); go_simp; try rfl
  case' ra1 => try simp only [List.getElem_toArray, List.getElem_cons_succ, List.getElem_cons_zero, Act.put, List.setIfInBounds_toArray, List.set_cons_zero, List.set_cons_succ]
  refine walk_take 2 (v := ?va2) rfl (by kernel_rfl) (by kernel_rfl) (by kernel_rfl) (fun _ _ _ h => h) (⟨d0, d1, d2⟩) (Or.inl ⟨by rfl, ?ya2⟩) ?ra2
  case ya2 => intro w hSw; obtain ⟨hw0, hw1, hw2⟩ := hSw; (try dsimp only at hSw); go_simp; try rfl
  case' ra2 => try simp only [List.getElem_toArray, List.getElem_cons_succ, List.getElem_cons_zero, Act.put, List.setIfInBounds_toArray, List.set_cons_zero, List.set_cons_succ]
  refine walk_take 3 (v := ?va3) rfl (by kernel_rfl) (by kernel_rfl) (by kernel_rfl) (fun _ _ _ h => h) (⟨d0, d1, d2⟩) (Or.inl ⟨by rfl, ?ya3⟩) ?ra3
  case ya3 => intro w hSw; obtain ⟨hw0, hw1, hw2⟩ := hSw; (try dsimp only at hSw); go_simp; try rfl
  case' ra3 => try simp only [List.getElem_toArray, List.getElem_cons_succ, List.getElem_cons_zero, Act.put, List.setIfInBounds_toArray, List.set_cons_zero, List.set_cons_succ]
  refine walk_take 4 (v := ?va4) rfl (by kernel_rfl) (by kernel_rfl) (by kernel_rfl) (fun _ _ _ h => h) (⟨d0, d1, d2⟩) (Or.inl ⟨by rfl, ?ya4⟩) ?ra4
  case ya4 => intro w hSw; obtain ⟨hw0, hw1, hw2⟩ := hSw; (try dsimp only at hSw); go_simp; try rfl
  case' ra4 => try simp only [List.getElem_toArray, List.getElem_cons_succ, List.getElem_cons_zero, Act.put, List.setIfInBounds_toArray, List.set_cons_zero, List.set_cons_succ]
  refine walk_take 5 (v := ?va5) rfl (by kernel_rfl) (by kernel_rfl) (by kernel_rfl) (fun _ _ _ h => h) (⟨d0, d1, d2⟩) (Or.inl ⟨by rfl, ?ya5⟩) ?ra5
  case ya5 => intro w hSw; obtain ⟨hw0, hw1, hw2⟩ := hSw; (try dsimp only at hSw); go_simp; try rfl
  case' ra5 => try simp only [List.getElem_toArray, List.getElem_cons_succ, List.getElem_cons_zero, Act.put, List.setIfInBounds_toArray, List.set_cons_zero, List.set_cons_succ]
  refine walk_take 6 (v := ?va6) rfl (by kernel_rfl) (by kernel_rfl) (by kernel_rfl) (fun _ _ _ h => h) (⟨d0, d1, d2⟩) (Or.inl ⟨by rfl, ?ya6⟩) ?ra6
  case ya6 => intro w hSw; obtain ⟨hw0, hw1, hw2⟩ := hSw; (try dsimp only at hSw); go_simp; try rfl
  case' ra6 => try simp only [List.getElem_toArray, List.getElem_cons_succ, List.getElem_cons_zero, Act.put, List.setIfInBounds_toArray, List.set_cons_zero, List.set_cons_succ]
  refine walk_take 7 (v := ?va7) rfl (by kernel_rfl) (by kernel_rfl) (by kernel_rfl) (fun _ _ _ h => h) (⟨d0, d1, d2⟩) (Or.inl ⟨by rfl, ?ya7⟩) ?ra7
  case ya7 => intro w hSw; obtain ⟨hw0, hw1, hw2⟩ := hSw; (try dsimp only at hSw); go_simp; try rfl
  case' ra7 => try simp only [List.getElem_toArray, List.getElem_cons_succ, List.getElem_cons_zero, Act.put, List.setIfInBounds_toArray, List.set_cons_zero, List.set_cons_succ]
  refine walk_take 8 (v := ?va8) rfl (by kernel_rfl) (by kernel_rfl) (by kernel_rfl) (fun _ _ _ h => h) (⟨d0, d1, d2⟩) (Or.inl ⟨by rfl, ?ya8⟩) ?ra8
  case ya8 => intro w hSw; obtain ⟨hw0, hw1, hw2⟩ := hSw; (try dsimp only at hSw); go_simp; try rfl
  case' ra8 => try simp only [List.getElem_toArray, List.getElem_cons_succ, List.getElem_cons_zero, Act.put, List.setIfInBounds_toArray, List.set_cons_zero, List.set_cons_succ]
  refine walk_take 9 (v := ?va9) rfl (by kernel_rfl) (by kernel_rfl) (by kernel_rfl) (fun _ _ _ h => h) (⟨d0, d1, d2⟩) (Or.inl ⟨by rfl, ?ya9⟩) ?ra9
  case ya9 => intro w hSw; obtain ⟨hw0, hw1, hw2⟩ := hSw; (try dsimp only at hSw); go_simp; try rfl
  case' ra9 => try simp only [List.getElem_toArray, List.getElem_cons_succ, List.getElem_cons_zero, Act.put, List.setIfInBounds_toArray, List.set_cons_zero, List.set_cons_succ]
  refine walk_take 10 (v := ?va10) rfl (by kernel_rfl) (by kernel_rfl) (by kernel_rfl) (fun _ _ _ h => h) (⟨d0, d1, d2⟩) (Or.inl ⟨by rfl, ?ya10⟩) ?ra10
  case ya10 => intro w hSw; obtain ⟨hw0, hw1, hw2⟩ := hSw; (try dsimp only at hSw); go_simp; try rfl
  case' ra10 => try simp only [List.getElem_toArray, List.getElem_cons_succ, List.getElem_cons_zero, Act.put, List.setIfInBounds_toArray, List.set_cons_zero, List.set_cons_succ]
  refine walk_take 11 (v := ?va11) rfl (by kernel_rfl) (by kernel_rfl) (by kernel_rfl) (fun _ _ _ h => h) (⟨d0, d1, d2⟩) (Or.inl ⟨by rfl, ?ya11⟩) ?ra11
  case ya11 => intro w hSw; obtain ⟨hw0, hw1, hw2⟩ := hSw; (try dsimp only at hSw); go_simp; try rfl
  case' ra11 => try simp only [List.getElem_toArray, List.getElem_cons_succ, List.getElem_cons_zero, Act.put, List.setIfInBounds_toArray, List.set_cons_zero, List.set_cons_succ]
  refine walk_take 12 (v := ?va12) rfl (by kernel_rfl) (by kernel_rfl) (by kernel_rfl) (fun _ _ _ h => h) (⟨d0, d1, d2⟩) (Or.inl ⟨by rfl, ?ya12⟩) ?ra12
  case ya12 => intro w hSw; obtain ⟨hw0, hw1, hw2⟩ := hSw; (try dsimp only at hSw); go_simp; try rfl
  case' ra12 => try simp only [List.getElem_toArray, List.getElem_cons_succ, List.getElem_cons_zero, Act.put, List.setIfInBounds_toArray, List.set_cons_zero, List.set_cons_succ]
  refine walk_take 13 (v := ?va13) rfl (by kernel_rfl) (by kernel_rfl) (by kernel_rfl) (fun _ _ _ h => h) (⟨d0, d1, d2⟩) (Or.inl ⟨by rfl, ?ya13⟩) ?ra13
  case ya13 => intro w hSw; obtain ⟨hw0, hw1, hw2⟩ := hSw; (try dsimp only at hSw); go_simp; try rfl
  case' ra13 => try simp only [List.getElem_toArray, List.getElem_cons_succ, List.getElem_cons_zero, Act.put, List.setIfInBounds_toArray, List.set_cons_zero, List.set_cons_succ]
  refine walk_take 14 (v := ?va14) rfl (by kernel_rfl) (by kernel_rfl) (by kernel_rfl) (fun _ _ _ h => h) (⟨d0, d1, d2⟩) (Or.inl ⟨by rfl, ?ya14⟩) ?ra14
  case ya14 => intro w hSw; obtain ⟨hw0, hw1, hw2⟩ := hSw; (try dsimp only at hSw); go_simp; try rfl
  case' ra14 => try simp only [List.getElem_toArray, List.getElem_cons_succ, List.getElem_cons_zero, Act.put, List.setIfInBounds_toArray, List.set_cons_zero, List.set_cons_succ]
  refine walk_step 15 rfl (by kernel_rfl) (by kernel_rfl) (fun K hK => ?al)
  case al =>
    go_simp
    have e0 : (V.alloc (.cells #[.int .i64 0, .int .i64 0, .string ⟨#[]⟩, .int .i64 0, .int .i64 0, .int .i64 0, .slice none 0 0, .slice none 0 0, .int .i64 0, .int .i64 0] 27)).cell? ⟨b, o, none⟩ = some (.int .u8 kd) := (World.cell?_of_block (w := V) (a := ⟨b, o, none⟩) (Below.heap_alloc V _ b hlb)).trans d0
    have e1 : (V.alloc (.cells #[.int .i64 0, .int .i64 0, .string ⟨#[]⟩, .int .i64 0, .int .i64 0, .int .i64 0, .slice none 0 0, .slice none 0 0, .int .i64 0, .int .i64 0] 27)).cell? ⟨b, o + 1, none⟩ = some (.int .u8 (x1 : Int)) := (World.cell?_of_block (w := V) (a := ⟨b, o + 1, none⟩) (Below.heap_alloc V _ b hlb)).trans d1
    have e2 : (V.alloc (.cells #[.int .i64 0, .int .i64 0, .string ⟨#[]⟩, .int .i64 0, .int .i64 0, .int .i64 0, .slice none 0 0, .slice none 0 0, .int .i64 0, .int .i64 0] 27)).cell? ⟨b, o + 2, none⟩ = some (.int .u8 (x2 : Int)) := (World.cell?_of_block (w := V) (a := ⟨b, o + 2, none⟩) (Below.heap_alloc V _ b hlb)).trans d2
    refine hK _ _ ⟨e0, e1, e2⟩ ?_
    clear hK K e0 e1 e2 d0 d1 d2
    try simp only [List.getElem_toArray, List.getElem_cons_succ, List.getElem_cons_zero, Act.put, List.setIfInBounds_toArray, List.set_cons_zero, List.set_cons_succ]
    have wx : IntKind.i64.wrap (x1 : Int) = (x1 : Int) := by rw [IntKind.wrap_i64]; omega
    have wy : IntKind.i64.wrap (x2 : Int) = (x2 : Int) := by rw [IntKind.wrap_i64]; omega
    have wz : IntKind.i64.wrap ((x1 : Int) * 256) = (x1 : Int) * 256 := by rw [IntKind.wrap_i64]; omega
    have wk : IntKind.i64.wrap kd = kd := by rw [IntKind.wrap_i64]; omega
    simp only [wx, wy, wz, wk, o1]
    clear wx wy wz wk o1 b1 b2 kb0
    refine walk_tail (by kernel_rfl) ?_
    simp only [List.drop_succ_cons, List.drop_zero]
    have hB := (hV0.alloc hV0.size (.cells #[.int .i64 0, .int .i64 0, .string ⟨#[]⟩, .int .i64 0, .int .i64 0, .int .i64 0, .slice none 0 0, .slice none 0 0, .int .i64 0, .int .i64 0] 27))
    have bq := Blk.new V 27 #[.int .i64 0, .int .i64 0, .string ⟨#[]⟩, .int .i64 0, .int .i64 0, .int .i64 0, .slice none 0 0, .slice none 0 0, .int .i64 0, .int .i64 0]
    replace z0 := z0.alloc (.cells #[.int .i64 0, .int .i64 0, .string ⟨#[]⟩, .int .i64 0, .int .i64 0, .int .i64 0, .slice none 0 0, .slice none 0 0, .int .i64 0, .int .i64 0] 27)
    have hRc := (hR3.below hV0).alloc (.cells #[.int .i64 0, .int .i64 0, .string ⟨#[]⟩, .int .i64 0, .int .i64 0, .int .i64 0, .slice none 0 0, .slice none 0 0, .int .i64 0, .int .i64 0] 27)
    rw [HZV.out] at bq ⊢
    clear hV0 hR3 HZV
    generalize V.alloc (.cells #[.int .i64 0, .int .i64 0, .string ⟨#[]⟩, .int .i64 0, .int .i64 0, .int .i64 0, .slice none 0 0, .slice none 0 0, .int .i64 0, .int .i64 0] 27) = W at *
    go_upto_region 4 with (refine wpList_store_row rfl 27 (.tmp 4) (.tmp 25) rfl (w.heap.size + 1) #[.int .i64 kd, .int .i64 id, .string ⟨#[]⟩, .int .i64 0, .int .i64 0, .int .i64 0, .slice none 0 0, .slice none 0 0, .int .i64 0, .int .i64 0] rfl rfl 27 _ bq notesz rfl (by simp [Value.oneCell']) ?_)
    replace bq := bq.row #[.int .i64 kd, .int .i64 id, .string ⟨#[]⟩, .int .i64 0, .int .i64 0, .int .i64 0, .slice none 0 0, .slice none 0 0, .int .i64 0, .int .i64 0]
    have br := z0.farRow (g := w.heap.size + 1) (by omega) #[.int .i64 kd, .int .i64 id, .string ⟨#[]⟩, .int .i64 0, .int .i64 0, .int .i64 0, .slice none 0 0, .slice none 0 0, .int .i64 0, .int .i64 0]
    replace hB := below_row hB (g := w.heap.size + 1) (by omega) #[.int .i64 kd, .int .i64 id, .string ⟨#[]⟩, .int .i64 0, .int .i64 0, .int .i64 0, .slice none 0 0, .slice none 0 0, .int .i64 0, .int .i64 0]
    replace hRc := hRc.turned (grownBy_turned (grown_row W (w.heap.size + 1) #[.int .i64 kd, .int .i64 id, .string ⟨#[]⟩, .int .i64 0, .int .i64 0, .int .i64 0, .slice none 0 0, .slice none 0 0, .int .i64 0, .int .i64 0])) (fun q hq e => by
      have h1 : w.heap.size + 1 = q := Option.some.inj e
      have h2 : b = q := Option.some.inj hq
      omega)
    clear z0
    generalize W.setRow (w.heap.size + 1) #[.int .i64 kd, .int .i64 id, .string ⟨#[]⟩, .int .i64 0, .int .i64 0, .int .i64 0, .slice none 0 0, .slice none 0 0, .int .i64 0, .int .i64 0] = W2 at *
    have x0 := bq.cell' (i := 0) rfl
    have HDC := Lib.hid (decC_o kd id c h1 h2 h3 h4' h5 h6)
    have k1 : (kd == 1) = false := by rw [beq_eq_false_iff_ne]; exact h1
    have k2 : (kd == 2) = false := by rw [beq_eq_false_iff_ne]; exact h2
    have k3 : (kd == 3) = false := by rw [beq_eq_false_iff_ne]; exact h3
    have k4 : (kd == 4) = false := by rw [beq_eq_false_iff_ne]; exact h4'
    have k5 : (kd == 5) = false := by rw [beq_eq_false_iff_ne]; exact h5
    have k6 : (kd == 6) = false := by rw [beq_eq_false_iff_ne]; exact h6
    clear h1 h2 h3 h4' h5 h6 hRc
    have HE := Lib.hid (HDS.out _ HDC.out)
    have hD8 : Own W2 (w.heap.size + 2) 5 1 none 0 0 (bvs (⟨kd, id, ⟨#[]⟩, 0, 0, 0, [], [], 0, 0⟩ : Nt).data) := (Own.none_ _ _ _ _)
    have hG8 : Own W2 (w.heap.size + 2) 66 2 none 0 0 (gps (⟨kd, id, ⟨#[]⟩, 0, 0, 0, [], [], 0, 0⟩ : Nt).gaps) := (Own.none_ _ _ _ _)
    have CM := Lib.hid (noteMay_any (⟨kd, id, ⟨#[]⟩, 0, 0, 0, [], [], 0, 0⟩ : Nt) none 0 0 none 0 0 W2 rfl rfl hG8.rd (by omega) (by omega))
    obtain ⟨ok, hok⟩ : ∃ ok, noteOk (⟨kd, id, ⟨#[]⟩, 0, 0, 0, [], [], 0, 0⟩ : Nt) = ok := ⟨_, rfl⟩
    rw [hok] at CM HE
    unfold ntv at CM
    dsimp only at CM
    clear hok HDC HDN HDS
    go_wp2_with (refine wpList_load_row rfl 27 (.tmp 4) rfl (w.heap.size + 1) rfl 27 #[.int .i64 kd, .int .i64 id, .string ⟨#[]⟩, .int .i64 0, .int .i64 0, .int .i64 0, .slice none 0 0, .slice none 0 0, .int .i64 0, .int .i64 0] (0, 0) _ bq Try.underlying27 rfl notesz ?_)
    refine CM.out.mono ?_
    rintro e w9 ⟨rfl, hb9⟩
    replace bq := bq.step hb9
    replace br := br.step hb9
    replace hB := hB.trans (hb9.mono hB.size)
    have hD9 : Own w9 (w.heap.size + 2) 5 1 none 0 0 (bvs (⟨kd, id, ⟨#[]⟩, 0, 0, 0, [], [], 0, 0⟩ : Nt).data) := hD8.below hb9
    have hG9 : Own w9 (w.heap.size + 2) 66 2 none 0 0 (gps (⟨kd, id, ⟨#[]⟩, 0, 0, 0, [], [], 0, 0⟩ : Nt).gaps) := hG8.below hb9
    clear hb9 CM hD8 hG8
    cases ok
    ·
      go_wp2_with (refine wpList_store_row rfl 27 (.tmp 2) (.tmp 125) rfl w.heap.size #[.int .i64 0, .int .i64 0, .string ⟨#[]⟩, .int .i64 0, .int .i64 0, .int .i64 0, .slice none 0 0, .slice none 0 0, .int .i64 0, .int .i64 0] rfl rfl 27 _ br notesz rfl (by simp [Value.oneCell']) ?_)
      have br9 := br.row #[.int .i64 0, .int .i64 0, .string ⟨#[]⟩, .int .i64 0, .int .i64 0, .int .i64 0, .slice none 0 0, .slice none 0 0, .int .i64 0, .int .i64 0]
      refine bodyPost_ret (v := .tuple #[.agg #[.int .i64 0, .int .i64 0, .string ⟨#[]⟩, .int .i64 0, .int .i64 0, .int .i64 0, .slice none 0 0, .slice none 0 0, .int .i64 0, .int .i64 0], .int .i64 8]) (results_cn (ty := 27) Try.results15 _ _ w.heap.size 27 _ (0, 0) _ rfl rfl br9 Try.underlying27 rfl notesz) rfl ?_
      rw [show decR l = (ntZero, 8) from HE.out]
      exact ⟨none, 0, none, 0, rfl, Own.none_ _ _ _ _, Own.none_ _ _ _ _, below_row hB (Nat.le_refl _) _⟩
    ·
      go_wp2_with (first
        | (refine wpList_load_row rfl 27 (.tmp 4) rfl (w.heap.size + 1) rfl 27 #[.int .i64 kd, .int .i64 id, .string ⟨#[]⟩, .int .i64 0, .int .i64 0, .int .i64 0, .slice none 0 0, .slice none 0 0, .int .i64 0, .int .i64 0] (0, 0) _ bq Try.underlying27 rfl notesz ?_)
        | (refine wpList_store_row rfl 27 (.tmp 2) (.tmp 126) rfl w.heap.size #[.int .i64 kd, .int .i64 id, .string ⟨#[]⟩, .int .i64 0, .int .i64 0, .int .i64 0, .slice none 0 0, .slice none 0 0, .int .i64 0, .int .i64 0] rfl rfl 27 _ br notesz rfl (by simp [Value.oneCell']) ?_))
      have br9 := br.row #[.int .i64 kd, .int .i64 id, .string ⟨#[]⟩, .int .i64 0, .int .i64 0, .int .i64 0, .slice none 0 0, .slice none 0 0, .int .i64 0, .int .i64 0]
      refine bodyPost_ret (v := .tuple #[.agg #[.int .i64 kd, .int .i64 id, .string ⟨#[]⟩, .int .i64 0, .int .i64 0, .int .i64 0, .slice none 0 0, .slice none 0 0, .int .i64 0, .int .i64 0], .int .i64 0]) (results_cn (ty := 27) Try.results15 _ _ w.heap.size 27 _ (0, 0) _ rfl rfl br9 Try.underlying27 rfl notesz) rfl ?_
      rw [show decR l = ((⟨kd, id, ⟨#[]⟩, 0, 0, 0, [], [], 0, 0⟩ : Nt), 0) from HE.out]
      exact ⟨none, 0, none, 0, rfl, (hD9.rowFar (r := w.heap.size) (by omega) _).mono (by omega), (hG9.rowFar (r := w.heap.size) (by omega) _).mono (by omega), below_row hB (Nat.le_refl _) _⟩
end Go.Proofs.Ytianombjgdmbeaa
namespace Go.Proofs.Ytianombjgdmbeaa
set_option linter.unusedSimpArgs false
set_option linter.unusedVariables false
open Go.RowKit

set_option maxHeartbeats 6400000 in
set_option maxRecDepth 100000 in
theorem noteOf_3 (A : Option Addr) (l : List UInt8) (n cap : Nat) (w : World) (hl : l.length = n) (ha : Rd w A (bvs l)) (hc : n ≤ cap) (hn : n ≤ 140737488351232) (h4 : 4 ≤ n) (hk : (bAt l 0 : Int) = 3) :
    Calls Try.prog 15 #[.slice A n cap] w fun e w' => DecRes w w' (decR l) e := by
  have hbv : bvs (l.drop 3) = (bvs l).drop 3 := by simp [bvs, List.map_drop]
  obtain ⟨b, o, rfl, c0⟩ := ha.byte (k := 0) (by omega)
  have c1 := ha.cell (bvs_get (k := 1) (l := l) (by omega))
  have c2 := ha.cell (bvs_get (k := 2) (l := l) (by omega))
  have hR3 : Rd w (some ⟨b, o + 3, none⟩) (bvs (l.drop 3)) := by rw [hbv]; exact ha.drop_lit 3
  rw [← bAt_in (l := l) (i := 0) (by omega)] at c0
  rw [← bAt_in (l := l) (i := 1) (by omega)] at c1
  rw [← bAt_in (l := l) (i := 2) (by omega)] at c2
  rw [Nat.add_zero] at c0
  have b1 := bAt_lt l 1
  have b2 := bAt_lt l 2
  have HDN := Lib.hid (decR_none (l := l) (by omega) hk rfl)
  have HDS := Lib.hid (fun nt => decR_some (l := l) (n := nt) (by omega) hk rfl)
  have kb0 : 0 ≤ (3 : Int) ∧ (3 : Int) < 256 := by have := bAt_lt l 0; omega
  have hcm : (l.drop 3).length = n - 3 := by rw [List.length_drop, hl]
  rw [hk] at c0
  have HL := Lib.hid hl
  clear hbv hk hl ha
  generalize bAt l 1 = x1 at *
  generalize bAt l 2 = x2 at *
  have o1 : bits .or .i64 ((x1 : Int) * 256) (x2 : Int) = (x1 : Int) * 256 + (x2 : Int) := by
    have h := or_i64 (x := x1 * 256) (y := x2) (m := 8) (by omega) (by omega) (by omega)
    rw [show ((x1 * 256 : Nat) : Int) = (x1 : Int) * 256 by omega] at h
    rw [h]
    omega
  obtain ⟨id, hid⟩ : ∃ id, (x1 : Int) * 256 + (x2 : Int) = id := ⟨_, rfl⟩
  rw [hid] at o1 HDN HDS
  obtain ⟨c, hcc⟩ : ∃ c, l.drop 3 = c := ⟨_, rfl⟩
  rw [hcc] at hR3 HDN HDS hcm
  obtain ⟨m, rfl⟩ : ∃ m, n = m + 3 := ⟨n - 3, by omega⟩
  obtain ⟨d, rfl⟩ : ∃ d, cap = d + 3 := ⟨cap - 3, by omega⟩
  rw [Nat.add_sub_cancel] at hcm
  have hm1 : 1 ≤ m := by omega
  have hmd : m ≤ d := by omega
  clear hcc hid
  have n4 : ¬ (m : Int) + 3 < 4 := by omega
  have n4n : ¬ m + 3 < 4 := by omega
  have pi0 : (0 : Int) < (m : Int) + 3 := by omega
  have pi1 : (1 : Int) < (m : Int) + 3 := by omega
  have pi2 : (2 : Int) < (m : Int) + 3 := by omega
  have pi3 : (3 : Int) ≤ (m : Int) + 3 := by omega
  have pi3d : (3 : Int) ≤ (d : Int) + 3 := by omega
  have j0 : 0 < m + 3 := by omega
  have j1 : 1 < m + 3 := by omega
  have j2 : 2 < m + 3 := by omega
  have j3 : 3 ≤ m + 3 := by omega
  have j4 : ¬ d + 3 = 3 := by omega
  have hV0 : Below w.heap.size w (w.alloc (.cells #[.int .i64 0, .int .i64 0, .string ⟨#[]⟩, .int .i64 0, .int .i64 0, .int .i64 0, .slice none 0 0, .slice none 0 0, .int .i64 0, .int .i64 0] 27)) := (Below.refl _ _).alloc (Nat.le_refl _) _
  have z0 := (Blk.new w 27 #[.int .i64 0, .int .i64 0, .string ⟨#[]⟩, .int .i64 0, .int .i64 0, .int .i64 0, .slice none 0 0, .slice none 0 0, .int .i64 0, .int .i64 0])
  have d0 : (w.alloc (.cells #[.int .i64 0, .int .i64 0, .string ⟨#[]⟩, .int .i64 0, .int .i64 0, .int .i64 0, .slice none 0 0, .slice none 0 0, .int .i64 0, .int .i64 0] 27)).drew.cell? ⟨b, o, none⟩ = some (.int .u8 3) := (World.cell?_of_block (w := w) (a := ⟨b, o, none⟩) (hV0.block b (World.block_lt_of_cell? _ _ c0))).trans c0
  have d1 : (w.alloc (.cells #[.int .i64 0, .int .i64 0, .string ⟨#[]⟩, .int .i64 0, .int .i64 0, .int .i64 0, .slice none 0 0, .slice none 0 0, .int .i64 0, .int .i64 0] 27)).drew.cell? ⟨b, o + 1, none⟩ = some (.int .u8 (x1 : Int)) := (World.cell?_of_block (w := w) (a := ⟨b, o + 1, none⟩) (hV0.block b (World.block_lt_of_cell? _ _ c1))).trans c1
  have d2 : (w.alloc (.cells #[.int .i64 0, .int .i64 0, .string ⟨#[]⟩, .int .i64 0, .int .i64 0, .int .i64 0, .slice none 0 0, .slice none 0 0, .int .i64 0, .int .i64 0] 27)).drew.cell? ⟨b, o + 2, none⟩ = some (.int .u8 (x2 : Int)) := (World.cell?_of_block (w := w) (a := ⟨b, o + 2, none⟩) (hV0.block b (World.block_lt_of_cell? _ _ c2))).trans c2
  have HRw := Lib.hid hR3
  have hlb : b < _ := World.block_lt_of_cell? _ _ d0
  have hlw : b < w.heap.size := World.block_lt_of_cell? _ _ c0
  clear c0 c1 c2
  go_enter Try.func15, Try.ntmps15
  go_upto_region 3 with fail
  refine heldRegion (fun v => v.cell? ⟨b, o, none⟩ = some (.int .u8 3) ∧ v.cell? ⟨b, o + 1, none⟩ = some (.int .u8 (x1 : Int)) ∧ v.cell? ⟨b, o + 2, none⟩ = some (.int .u8 (x2 : Int))) 16 (by kernel_rfl) (by kernel_rfl) ⟨d0, d1, d2⟩ (fun hSS => ?_)
  clear hSS
  replace z0 := z0.drew
  replace hV0 := hV0.drew
  have zV : (w.alloc (.cells #[.int .i64 0, .int .i64 0, .string ⟨#[]⟩, .int .i64 0, .int .i64 0, .int .i64 0, .slice none 0 0, .slice none 0 0, .int .i64 0, .int .i64 0] 27)).drew.heap.size = w.heap.size + 1 := by simp
  have HZV := Lib.hid zV
  clear zV
  generalize (w.alloc (.cells #[.int .i64 0, .int .i64 0, .string ⟨#[]⟩, .int .i64 0, .int .i64 0, .int .i64 0, .slice none 0 0, .slice none 0 0, .int .i64 0, .int .i64 0] 27)).drew = V at *
  refine walk_take 0 (v := ?va0) rfl (by kernel_rfl) (by kernel_rfl) (by kernel_rfl) (fun _ _ _ h => h) (⟨d0, d1, d2⟩) (Or.inl ⟨by rfl, ?ya0⟩) ?ra0
  case ya0 => intro w hSw; obtain ⟨hw0, hw1, hw2⟩ := hSw; (try dsimp only at hSw); go_simp; try rfl
  case' ra0 => try simp only [List.getElem_toArray, List.getElem_cons_succ, List.getElem_cons_zero, Act.put, List.setIfInBounds_toArray, List.set_cons_zero, List.set_cons_succ]
  refine walk_take 1 (v := ?va1) rfl (by kernel_rfl) (by kernel_rfl) (by kernel_rfl) (fun _ _ _ h => h) (⟨d0, d1, d2⟩) (Or.inl ⟨by rfl, ?ya1⟩) ?ra1
  case ya1 => intro w hSw; obtain ⟨hw0, hw1, hw2⟩ := hSw; (try dsimp only at hSw); go_simp; try rfl
  case' ra1 => try simp only [List.getElem_toArray, List.getElem_cons_succ, List.getElem_cons_zero, Act.put, List.setIfInBounds_toArray, List.set_cons_zero, List.set_cons_succ]
  refine walk_take 2 (v := ?va2) rfl (by kernel_rfl) (by kernel_rfl) (by kernel_rfl) (fun _ _ _ h => h) (⟨d0, d1, d2⟩) (Or.inl ⟨by rfl, ?ya2⟩) ?ra2
  case ya2 => intro w hSw; obtain ⟨hw0, hw1, hw2⟩ := hSw; (try dsimp only at hSw); go_simp; try rfl
  case' ra2 => try simp only [List.getElem_toArray, List.getElem_cons_succ, List.getElem_cons_zero, Act.put, List.setIfInBounds_toArray, List.set_cons_zero, List.set_cons_succ]
  refine walk_take 3 (v := ?va3) rfl (by kernel_rfl) (by kernel_rfl) (by kernel_rfl) (fun _ _ _ h => h) (⟨d0, d1, d2⟩) (Or.inl ⟨by rfl, ?ya3⟩) ?ra3
  case ya3 => intro w hSw; obtain ⟨hw0, hw1, hw2⟩ := hSw; (try dsimp only at hSw); go_simp; try rfl
  case' ra3 => try simp only [List.getElem_toArray, List.getElem_cons_succ, List.getElem_cons_zero, Act.put, List.setIfInBounds_toArray, List.set_cons_zero, List.set_cons_succ]
  refine walk_take 4 (v := ?va4) rfl (by kernel_rfl) (by kernel_rfl) (by kernel_rfl) (fun _ _ _ h => h) (⟨d0, d1, d2⟩) (Or.inl ⟨by rfl, ?ya4⟩) ?ra4
  case ya4 => intro w hSw; obtain ⟨hw0, hw1, hw2⟩ := hSw; (try dsimp only at hSw); go_simp; try rfl
  case' ra4 => try simp only [List.getElem_toArray, List.getElem_cons_succ, List.getElem_cons_zero, Act.put, List.setIfInBounds_toArray, List.set_cons_zero, List.set_cons_succ]
  refine walk_take 5 (v := ?va5) rfl (by kernel_rfl) (by kernel_rfl) (by kernel_rfl) (fun _ _ _ h => h) (⟨d0, d1, d2⟩) (Or.inl ⟨by rfl, ?ya5⟩) ?ra5
  case ya5 => intro w hSw; obtain ⟨hw0, hw1, hw2⟩ := hSw; (try dsimp only at hSw); go_simp; try rfl
  case' ra5 => try simp only [List.getElem_toArray, List.getElem_cons_succ, List.getElem_cons_zero, Act.put, List.setIfInBounds_toArray, List.set_cons_zero, List.set_cons_succ]
  refine walk_take 6 (v := ?va6) rfl (by kernel_rfl) (by kernel_rfl) (by kernel_rfl) (fun _ _ _ h => h) (⟨d0, d1, d2⟩) (Or.inl ⟨by rfl, ?ya6⟩) ?ra6
  case ya6 => intro w hSw; obtain ⟨hw0, hw1, hw2⟩ := hSw; (try dsimp only at hSw); go_simp; try rfl
  case' ra6 => try simp only [List.getElem_toArray, List.getElem_cons_succ, List.getElem_cons_zero, Act.put, List.setIfInBounds_toArray, List.set_cons_zero, List.set_cons_succ]
  refine walk_take 7 (v := ?va7) rfl (by kernel_rfl) (by kernel_rfl) (by kernel_rfl) (fun _ _ _ h => h) (⟨d0, d1, d2⟩) (Or.inl ⟨by rfl, ?ya7⟩) ?ra7
  case ya7 => intro w hSw; obtain ⟨hw0, hw1, hw2⟩ := hSw; (try dsimp only at hSw); go_simp; try rfl
  case' ra7 => try simp only [List.getElem_toArray, List.getElem_cons_succ, List.getElem_cons_zero, Act.put, List.setIfInBounds_toArray, List.set_cons_zero, List.set_cons_succ]
  refine walk_take 8 (v := ?va8) rfl (by kernel_rfl) (by kernel_rfl) (by kernel_rfl) (fun _ _ _ h => h) (⟨d0, d1, d2⟩) (Or.inl ⟨by rfl, ?ya8⟩) ?ra8
  case ya8 => intro w hSw; obtain ⟨hw0, hw1, hw2⟩ := hSw; (try dsimp only at hSw); go_simp; try rfl
  case' ra8 => try simp only [List.getElem_toArray, List.getElem_cons_succ, List.getElem_cons_zero, Act.put, List.setIfInBounds_toArray, List.set_cons_zero, List.set_cons_succ]
  refine walk_take 9 (v := ?va9) rfl (by kernel_rfl) (by kernel_rfl) (by kernel_rfl) (fun _ _ _ h => h) (⟨d0, d1, d2⟩) (Or.inl ⟨by rfl, ?ya9⟩) ?ra9
  case ya9 => intro w hSw; obtain ⟨hw0, hw1, hw2⟩ := hSw; (try dsimp only at hSw); go_simp; try rfl
  case' ra9 => try simp only [List.getElem_toArray, List.getElem_cons_succ, List.getElem_cons_zero, Act.put, List.setIfInBounds_toArray, List.set_cons_zero, List.set_cons_succ]
  refine walk_take 10 (v := ?va10) rfl (by kernel_rfl) (by kernel_rfl) (by kernel_rfl) (fun _ _ _ h => h) (⟨d0, d1, d2⟩) (Or.inl ⟨by rfl, ?ya10⟩) ?ra10
  case ya10 => intro w hSw; obtain ⟨hw0, hw1, hw2⟩ := hSw; (try dsimp only at hSw); go_simp; try rfl
  case' ra10 => try simp only [List.getElem_toArray, List.getElem_cons_succ, List.getElem_cons_zero, Act.put, List.setIfInBounds_toArray, List.set_cons_zero, List.set_cons_succ]
  refine walk_take 11 (v := ?va11) rfl (by kernel_rfl) (by kernel_rfl) (by kernel_rfl) (fun _ _ _ h => h) (⟨d0, d1, d2⟩) (Or.inl ⟨by rfl, ?ya11⟩) ?ra11
  case ya11 => intro w hSw; obtain ⟨hw0, hw1, hw2⟩ := hSw; (try dsimp only at hSw); go_simp; try rfl
  case' ra11 => try simp only [List.getElem_toArray, List.getElem_cons_succ, List.getElem_cons_zero, Act.put, List.setIfInBounds_toArray, List.set_cons_zero, List.set_cons_succ]
  refine walk_take 12 (v := ?va12) rfl (by kernel_rfl) (by kernel_rfl) (by kernel_rfl) (fun _ _ _ h => h) (⟨d0, d1, d2⟩) (Or.inl ⟨by rfl, ?ya12⟩) ?ra12
  case ya12 => intro w hSw; obtain ⟨hw0, hw1, hw2⟩ := hSw; (try dsimp only at hSw); go_simp; try rfl
  case' ra12 => try simp only [List.getElem_toArray, List.getElem_cons_succ, List.getElem_cons_zero, Act.put, List.setIfInBounds_toArray, List.set_cons_zero, List.set_cons_succ]
  refine walk_take 13 (v := ?va13) rfl (by kernel_rfl) (by kernel_rfl) (by kernel_rfl) (fun _ _ _ h => h) (⟨d0, d1, d2⟩) (Or.inl ⟨by rfl, ?ya13⟩) ?ra13
  case ya13 => intro w hSw; obtain ⟨hw0, hw1, hw2⟩ := hSw; (try dsimp only at hSw); go_simp; try rfl
  case' ra13 => try simp only [List.getElem_toArray, List.getElem_cons_succ, List.getElem_cons_zero, Act.put, List.setIfInBounds_toArray, List.set_cons_zero, List.set_cons_succ]
  refine walk_take 14 (v := ?va14) rfl (by kernel_rfl) (by kernel_rfl) (by kernel_rfl) (fun _ _ _ h => h) (⟨d0, d1, d2⟩) (Or.inl ⟨by rfl, ?ya14⟩) ?ra14
  case ya14 => intro w hSw; obtain ⟨hw0, hw1, hw2⟩ := hSw; (try dsimp only at hSw); go_simp; try rfl
  case' ra14 => try simp only [List.getElem_toArray, List.getElem_cons_succ, List.getElem_cons_zero, Act.put, List.setIfInBounds_toArray, List.set_cons_zero, List.set_cons_succ]
  refine walk_step 15 rfl (by kernel_rfl) (by kernel_rfl) (fun K hK => ?al)
  case al =>
    go_simp
    have e0 : (V.alloc (.cells #[.int .i64 0, .int .i64 0, .string ⟨#[]⟩, .int .i64 0, .int .i64 0, .int .i64 0, .slice none 0 0, .slice none 0 0, .int .i64 0, .int .i64 0] 27)).cell? ⟨b, o, none⟩ = some (.int .u8 3) := (World.cell?_of_block (w := V) (a := ⟨b, o, none⟩) (Below.heap_alloc V _ b hlb)).trans d0
    have e1 : (V.alloc (.cells #[.int .i64 0, .int .i64 0, .string ⟨#[]⟩, .int .i64 0, .int .i64 0, .int .i64 0, .slice none 0 0, .slice none 0 0, .int .i64 0, .int .i64 0] 27)).cell? ⟨b, o + 1, none⟩ = some (.int .u8 (x1 : Int)) := (World.cell?_of_block (w := V) (a := ⟨b, o + 1, none⟩) (Below.heap_alloc V _ b hlb)).trans d1
    have e2 : (V.alloc (.cells #[.int .i64 0, .int .i64 0, .string ⟨#[]⟩, .int .i64 0, .int .i64 0, .int .i64 0, .slice none 0 0, .slice none 0 0, .int .i64 0, .int .i64 0] 27)).cell? ⟨b, o + 2, none⟩ = some (.int .u8 (x2 : Int)) := (World.cell?_of_block (w := V) (a := ⟨b, o + 2, none⟩) (Below.heap_alloc V _ b hlb)).trans d2
    refine hK _ _ ⟨e0, e1, e2⟩ ?_
    clear hK K e0 e1 e2 d0 d1 d2
    try simp only [List.getElem_toArray, List.getElem_cons_succ, List.getElem_cons_zero, Act.put, List.setIfInBounds_toArray, List.set_cons_zero, List.set_cons_succ]
    have wx : IntKind.i64.wrap (x1 : Int) = (x1 : Int) := by rw [IntKind.wrap_i64]; omega
    have wy : IntKind.i64.wrap (x2 : Int) = (x2 : Int) := by rw [IntKind.wrap_i64]; omega
    have wz : IntKind.i64.wrap ((x1 : Int) * 256) = (x1 : Int) * 256 := by rw [IntKind.wrap_i64]; omega
    have wk : IntKind.i64.wrap 3 = 3 := by rw [IntKind.wrap_i64]; omega
    simp only [wx, wy, wz, wk, o1]
    clear wx wy wz wk o1 b1 b2 kb0
    refine walk_tail (by kernel_rfl) ?_
    simp only [List.drop_succ_cons, List.drop_zero]
    have hB := (hV0.alloc hV0.size (.cells #[.int .i64 0, .int .i64 0, .string ⟨#[]⟩, .int .i64 0, .int .i64 0, .int .i64 0, .slice none 0 0, .slice none 0 0, .int .i64 0, .int .i64 0] 27))
    have bq := Blk.new V 27 #[.int .i64 0, .int .i64 0, .string ⟨#[]⟩, .int .i64 0, .int .i64 0, .int .i64 0, .slice none 0 0, .slice none 0 0, .int .i64 0, .int .i64 0]
    replace z0 := z0.alloc (.cells #[.int .i64 0, .int .i64 0, .string ⟨#[]⟩, .int .i64 0, .int .i64 0, .int .i64 0, .slice none 0 0, .slice none 0 0, .int .i64 0, .int .i64 0] 27)
    have hRc := (hR3.below hV0).alloc (.cells #[.int .i64 0, .int .i64 0, .string ⟨#[]⟩, .int .i64 0, .int .i64 0, .int .i64 0, .slice none 0 0, .slice none 0 0, .int .i64 0, .int .i64 0] 27)
    rw [HZV.out] at bq ⊢
    clear hV0 hR3 HZV
    generalize V.alloc (.cells #[.int .i64 0, .int .i64 0, .string ⟨#[]⟩, .int .i64 0, .int .i64 0, .int .i64 0, .slice none 0 0, .slice none 0 0, .int .i64 0, .int .i64 0] 27) = W at *
    go_upto_region 4 with (refine wpList_store_row rfl 27 (.tmp 4) (.tmp 25) rfl (w.heap.size + 1) #[.int .i64 3, .int .i64 id, .string ⟨#[]⟩, .int .i64 0, .int .i64 0, .int .i64 0, .slice none 0 0, .slice none 0 0, .int .i64 0, .int .i64 0] rfl rfl 27 _ bq notesz rfl (by simp [Value.oneCell']) ?_)
    replace bq := bq.row #[.int .i64 3, .int .i64 id, .string ⟨#[]⟩, .int .i64 0, .int .i64 0, .int .i64 0, .slice none 0 0, .slice none 0 0, .int .i64 0, .int .i64 0]
    have br := z0.farRow (g := w.heap.size + 1) (by omega) #[.int .i64 3, .int .i64 id, .string ⟨#[]⟩, .int .i64 0, .int .i64 0, .int .i64 0, .slice none 0 0, .slice none 0 0, .int .i64 0, .int .i64 0]
    replace hB := below_row hB (g := w.heap.size + 1) (by omega) #[.int .i64 3, .int .i64 id, .string ⟨#[]⟩, .int .i64 0, .int .i64 0, .int .i64 0, .slice none 0 0, .slice none 0 0, .int .i64 0, .int .i64 0]
    replace hRc := hRc.turned (grownBy_turned (grown_row W (w.heap.size + 1) #[.int .i64 3, .int .i64 id, .string ⟨#[]⟩, .int .i64 0, .int .i64 0, .int .i64 0, .slice none 0 0, .slice none 0 0, .int .i64 0, .int .i64 0])) (fun q hq e => by
      have h1 : w.heap.size + 1 = q := Option.some.inj e
      have h2 : b = q := Option.some.inj hq
      omega)
    clear z0
    generalize W.setRow (w.heap.size + 1) #[.int .i64 3, .int .i64 id, .string ⟨#[]⟩, .int .i64 0, .int .i64 0, .int .i64 0, .slice none 0 0, .slice none 0 0, .int .i64 0, .int .i64 0] = W2 at *
    have x0 := bq.cell' (i := 0) rfl
    by_cases hm : m = 8
    rotate_left
    ·
      have hmb : ((m : Int) == 8) = false := by rw [beq_eq_false_iff_ne]; omega
      have hmc : ((m : Int) != 8) = true := by rw [bne, hmb]; rfl
      have HZ := Lib.hid (HDN.out (by rw [decC_3, if_neg (by rw [hcm]; exact hm)]))
      clear hm hRc
      go_wp2_with (refine wpList_store_row rfl 27 (.tmp 2) (.tmp 59) rfl w.heap.size #[.int .i64 0, .int .i64 0, .string ⟨#[]⟩, .int .i64 0, .int .i64 0, .int .i64 0, .slice none 0 0, .slice none 0 0, .int .i64 0, .int .i64 0] rfl rfl 27 _ br notesz rfl (by simp [Value.oneCell']) ?_)
      have br9 := br.row #[.int .i64 0, .int .i64 0, .string ⟨#[]⟩, .int .i64 0, .int .i64 0, .int .i64 0, .slice none 0 0, .slice none 0 0, .int .i64 0, .int .i64 0]
      refine bodyPost_ret (v := .tuple #[.agg #[.int .i64 0, .int .i64 0, .string ⟨#[]⟩, .int .i64 0, .int .i64 0, .int .i64 0, .slice none 0 0, .slice none 0 0, .int .i64 0, .int .i64 0], .int .i64 8]) (results_cn (ty := 27) Try.results15 _ _ w.heap.size 27 _ (0, 0) _ rfl rfl br9 Try.underlying27 rfl notesz) rfl ?_
      rw [HZ.out]
      exact ⟨none, 0, none, 0, rfl, Own.none_ _ _ _ _, Own.none_ _ _ _ _, below_row hB (Nat.le_refl _) _⟩
    subst hm
    obtain ⟨x, hx⟩ : ∃ x, fAt c 0 = x := ⟨_, rfl⟩
    obtain ⟨z, hz⟩ : ∃ z, fAt c 4 = z := ⟨_, rfl⟩
    have HDC : Hid (decC 3 id c = some (⟨3, id, ⟨#[]⟩, x, z, 0, [], [], 0, 0⟩ : Nt)) := Lib.hid (by rw [decC_3, if_pos hcm, hx, hz])
    have hcd : (c.drop 4).length = 4 := by rw [List.length_drop, hcm]
    have hz2 : fAt (c.drop 4) 0 = z := by rw [fAt_drop]; exact hz
    have CF := Lib.hid (fun (V : World) (hB : Below W2.heap.size W2 V) => fourOf_any (some ⟨b, o + 3, none⟩) c 8 d V hcm (by omega) (hRc.below hB))
    have hRd : Rd W2 (some ⟨b, o + 3 + 4, none⟩) (bvs (c.drop 4)) := by
      rw [show bvs (c.drop 4) = (bvs c).drop 4 by simp [bvs, List.map_drop]]
      exact hRc.drop_lit 4
    have CG := Lib.hid (fun (V : World) (hB : Below W2.heap.size W2 V) => fourOf_any (some ⟨b, o + 3 + 4, none⟩) (c.drop 4) 4 (d - 4) V hcd (by omega) (hRd.below hB))
    rw [hx] at CF
    rw [hz2] at CG
    have f4 : ¬ d = 4 := by omega
    have f5 : (4 : Int) ≤ (d : Int) := by omega
    clear hx hz hcd hz2 hRd hRc
    go_upto_region 17 with fail
    refine heldRegion (fun v => True) 7 (by kernel_rfl) (by kernel_rfl) trivial (fun hSS => ?_)
    clear hSS
    replace bq := bq.drew
    replace br := br.drew
    replace hB := hB.drew
    have hW : Below W2.heap.size W2 W2.drew := (Below.refl _ _).drew
    generalize W2.drew = V at *
    refine walk_take 0 (v := ?vg0) rfl (by kernel_rfl) (by kernel_rfl) (by kernel_rfl) (fun _ _ _ h => h) (trivial) (Or.inl ⟨by rfl, ?yg0⟩) ?rg0
    case yg0 => intro w hSw; (try dsimp only at hSw); go_simp; try rfl
    case' rg0 => try simp only [List.getElem_toArray, List.getElem_cons_succ, List.getElem_cons_zero, Act.put, List.setIfInBounds_toArray, List.set_cons_zero, List.set_cons_succ]
    refine walk_take 2 (v := ?vg2) rfl (by kernel_rfl) (by kernel_rfl) (by kernel_rfl) (fun _ _ _ h => h) (trivial) (Or.inl ⟨by rfl, ?yg2⟩) ?rg2
    case yg2 => intro w hSw; (try dsimp only at hSw); go_simp; try rfl
    case' rg2 => try simp only [List.getElem_toArray, List.getElem_cons_succ, List.getElem_cons_zero, Act.put, List.setIfInBounds_toArray, List.set_cons_zero, List.set_cons_succ]
    refine walk_take 3 (v := ?vg3) rfl (by kernel_rfl) (by kernel_rfl) (by kernel_rfl) (fun _ _ _ h => h) (trivial) (Or.inl ⟨by rfl, ?yg3⟩) ?rg3
    case yg3 => intro w hSw; (try dsimp only at hSw); go_simp; try rfl
    case' rg3 => try simp only [List.getElem_toArray, List.getElem_cons_succ, List.getElem_cons_zero, Act.put, List.setIfInBounds_toArray, List.set_cons_zero, List.set_cons_succ]
    refine walk_step 1 rfl (by kernel_rfl) (by kernel_rfl) (fun K hK => ?e1)
    case e1 =>
      go_simp
      refine (CF.out V hW).mono ?_
      rintro e9 _ ⟨rfl, k9, rfl⟩
      refine hK _ _ trivial ?_
      clear hK K CF
      replace bq := bq.drewN k9
      replace br := br.drewN k9
      replace hB := below_drewN hB k9
      replace hW := below_drewN hW k9
      generalize V.drewN k9 = V1 at *
      try simp only [List.getElem_toArray, List.getElem_cons_succ, List.getElem_cons_zero, Act.put, List.setIfInBounds_toArray, List.set_cons_zero, List.set_cons_succ]
      refine walk_take 5 (v := ?vh5) rfl (by kernel_rfl) (by kernel_rfl) (by kernel_rfl) (fun _ _ _ h => h) (trivial) (Or.inl ⟨by rfl, ?yh5⟩) ?rh5
      case yh5 => intro w hSw; (try dsimp only at hSw); go_simp; try rfl
      case' rh5 => try simp only [List.getElem_toArray, List.getElem_cons_succ, List.getElem_cons_zero, Act.put, List.setIfInBounds_toArray, List.set_cons_zero, List.set_cons_succ]
      refine walk_step 4 rfl (by kernel_rfl) (by kernel_rfl) (fun K hK => ?e2)
      case e2 =>
        go_simp
        refine (CG.out V1 hW).mono ?_
        rintro e9 _ ⟨rfl, k8, rfl⟩
        refine hK _ _ trivial ?_
        clear hK K CG
        replace bq := bq.drewN k8
        replace br := br.drewN k8
        replace hB := below_drewN hB k8
        clear hW
        generalize V1.drewN k8 = V2 at *
        try simp only [List.getElem_toArray, List.getElem_cons_succ, List.getElem_cons_zero, Act.put, List.setIfInBounds_toArray, List.set_cons_zero, List.set_cons_succ]
        refine walk_step 6 rfl (by kernel_rfl) (by kernel_rfl) (fun K hK => ?e3)
        case e3 =>
          have kf := bq.frozen
          have y3 := bq.cell' (i := 3) rfl
          go_simp
          refine hK _ _ trivial ?_
          clear hK K kf y3
          replace bq := bq.set_ 3 (.int .i64 x)
          replace br := br.far (p := ⟨w.heap.size + 1, 3, none⟩) (by show w.heap.size ≠ w.heap.size + 1; omega) (.int .i64 x)
          replace hB := hB.setCell (p := ⟨w.heap.size + 1, 3, none⟩) (by show w.heap.size ≤ w.heap.size + 1; omega) (.int .i64 x)
          generalize V2.setCell ⟨w.heap.size + 1, 3, none⟩ (.int .i64 x) = V3 at *
          try simp only [List.getElem_toArray, List.getElem_cons_succ, List.getElem_cons_zero, Act.put, List.setIfInBounds_toArray, List.set_cons_zero, List.set_cons_succ]
          refine walk_tail (by kernel_rfl) ?_
          simp only [List.drop_succ_cons, List.drop_zero]
          have kf := bq.frozen
          have y4 := bq.cell' (i := 4) rfl
          go_upto_region 33 with fail
          clear kf y4
          replace bq := bq.set_ 4 (.int .i64 z)
          replace br := br.far (p := ⟨w.heap.size + 1, 4, none⟩) (by show w.heap.size ≠ w.heap.size + 1; omega) (.int .i64 z)
          replace hB := hB.setCell (p := ⟨w.heap.size + 1, 4, none⟩) (by show w.heap.size ≤ w.heap.size + 1; omega) (.int .i64 z)
          generalize V3.setCell ⟨w.heap.size + 1, 4, none⟩ (.int .i64 z) = V4 at *
          have HE := Lib.hid (HDS.out _ HDC.out)
          have hD8 : Own V4 (w.heap.size + 2) 5 1 none 0 0 (bvs (⟨3, id, ⟨#[]⟩, x, z, 0, [], [], 0, 0⟩ : Nt).data) := (Own.none_ _ _ _ _)
          have hG8 : Own V4 (w.heap.size + 2) 66 2 none 0 0 (gps (⟨3, id, ⟨#[]⟩, x, z, 0, [], [], 0, 0⟩ : Nt).gaps) := (Own.none_ _ _ _ _)
          have CM := Lib.hid (noteMay_any (⟨3, id, ⟨#[]⟩, x, z, 0, [], [], 0, 0⟩ : Nt) none 0 0 none 0 0 V4 rfl rfl hG8.rd (by omega) (by omega))
          obtain ⟨ok, hok⟩ : ∃ ok, noteOk (⟨3, id, ⟨#[]⟩, x, z, 0, [], [], 0, 0⟩ : Nt) = ok := ⟨_, rfl⟩
          rw [hok] at CM HE
          unfold ntv at CM
          dsimp only at CM
          clear hok HDC HDN HDS
          go_wp2_with (refine wpList_load_row rfl 27 (.tmp 4) rfl (w.heap.size + 1) rfl 27 #[.int .i64 3, .int .i64 id, .string ⟨#[]⟩, .int .i64 x, .int .i64 z, .int .i64 0, .slice none 0 0, .slice none 0 0, .int .i64 0, .int .i64 0] (0, 0) _ bq Try.underlying27 rfl notesz ?_)
          refine CM.out.mono ?_
          rintro e w9 ⟨rfl, hb9⟩
          replace bq := bq.step hb9
          replace br := br.step hb9
          replace hB := hB.trans (hb9.mono hB.size)
          have hD9 : Own w9 (w.heap.size + 2) 5 1 none 0 0 (bvs (⟨3, id, ⟨#[]⟩, x, z, 0, [], [], 0, 0⟩ : Nt).data) := hD8.below hb9
          have hG9 : Own w9 (w.heap.size + 2) 66 2 none 0 0 (gps (⟨3, id, ⟨#[]⟩, x, z, 0, [], [], 0, 0⟩ : Nt).gaps) := hG8.below hb9
          clear hb9 CM hD8 hG8
          cases ok
          ·
            go_wp2_with (refine wpList_store_row rfl 27 (.tmp 2) (.tmp 125) rfl w.heap.size #[.int .i64 0, .int .i64 0, .string ⟨#[]⟩, .int .i64 0, .int .i64 0, .int .i64 0, .slice none 0 0, .slice none 0 0, .int .i64 0, .int .i64 0] rfl rfl 27 _ br notesz rfl (by simp [Value.oneCell']) ?_)
            have br9 := br.row #[.int .i64 0, .int .i64 0, .string ⟨#[]⟩, .int .i64 0, .int .i64 0, .int .i64 0, .slice none 0 0, .slice none 0 0, .int .i64 0, .int .i64 0]
            refine bodyPost_ret (v := .tuple #[.agg #[.int .i64 0, .int .i64 0, .string ⟨#[]⟩, .int .i64 0, .int .i64 0, .int .i64 0, .slice none 0 0, .slice none 0 0, .int .i64 0, .int .i64 0], .int .i64 8]) (results_cn (ty := 27) Try.results15 _ _ w.heap.size 27 _ (0, 0) _ rfl rfl br9 Try.underlying27 rfl notesz) rfl ?_
            rw [show decR l = (ntZero, 8) from HE.out]
            exact ⟨none, 0, none, 0, rfl, Own.none_ _ _ _ _, Own.none_ _ _ _ _, below_row hB (Nat.le_refl _) _⟩
          ·
            go_wp2_with (first
              | (refine wpList_load_row rfl 27 (.tmp 4) rfl (w.heap.size + 1) rfl 27 #[.int .i64 3, .int .i64 id, .string ⟨#[]⟩, .int .i64 x, .int .i64 z, .int .i64 0, .slice none 0 0, .slice none 0 0, .int .i64 0, .int .i64 0] (0, 0) _ bq Try.underlying27 rfl notesz ?_)
              | (refine wpList_store_row rfl 27 (.tmp 2) (.tmp 126) rfl w.heap.size #[.int .i64 3, .int .i64 id, .string ⟨#[]⟩, .int .i64 x, .int .i64 z, .int .i64 0, .slice none 0 0, .slice none 0 0, .int .i64 0, .int .i64 0] rfl rfl 27 _ br notesz rfl (by simp [Value.oneCell']) ?_))
            have br9 := br.row #[.int .i64 3, .int .i64 id, .string ⟨#[]⟩, .int .i64 x, .int .i64 z, .int .i64 0, .slice none 0 0, .slice none 0 0, .int .i64 0, .int .i64 0]
            refine bodyPost_ret (v := .tuple #[.agg #[.int .i64 3, .int .i64 id, .string ⟨#[]⟩, .int .i64 x, .int .i64 z, .int .i64 0, .slice none 0 0, .slice none 0 0, .int .i64 0, .int .i64 0], .int .i64 0]) (results_cn (ty := 27) Try.results15 _ _ w.heap.size 27 _ (0, 0) _ rfl rfl br9 Try.underlying27 rfl notesz) rfl ?_
            rw [show decR l = ((⟨3, id, ⟨#[]⟩, x, z, 0, [], [], 0, 0⟩ : Nt), 0) from HE.out]
            exact ⟨none, 0, none, 0, rfl, (hD9.rowFar (r := w.heap.size) (by omega) _).mono (by omega), (hG9.rowFar (r := w.heap.size) (by omega) _).mono (by omega), below_row hB (Nat.le_refl _) _⟩
end Go.Proofs.Ytianombjgdmbeaa
