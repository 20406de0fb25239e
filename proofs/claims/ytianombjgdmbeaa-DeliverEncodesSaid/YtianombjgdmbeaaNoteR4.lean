/-
  The bytes of notes of kind 4, by the document.
-/
import Derived.Test.YtianombjgdmbeaaNoteR5
import Derived.Test.YtianombjgdmbeaaAppS
import Derived.Test.YtianombjgdmbeaaHeld2
import Derived.Test.YtianombjgdmbeaaNoteZ
namespace Go.Proofs.Ytianombjgdmbeaa
set_option linter.unusedSimpArgs false
set_option linter.unusedVariables false
open Go.RowKit

set_option maxHeartbeats 3200000 in
set_option maxRecDepth 100000 in
theorem rbytes_4 (id : Int) (name : ByteArray) (size sum at_ : Int) (data : List UInt8) (gaps : List (Int × Int)) (of_ code : Int) (D : Option Addr) (dn dc : Nat) (G : Option Addr) (gn gc : Nat) (w : World) (hd : data.length = dn) (hg : gaps.length = gn) (hG : Rd w G (gps gaps)) (hD : Rd w D (bvs data)) (hdn : dn ≤ 140737488351232) (hgn : gn ≤ 8796093022200) (hno : noteOk (⟨4, id, name, size, sum, at_, data, gaps, of_, code⟩ : Nt) = true) :
    Calls Try.prog 10 #[ntv (⟨4, id, name, size, sum, at_, data, gaps, of_, code⟩ : Nt) D dn dc G gn gc] w fun e w' => ∃ A c, e = .returned (.tuple #[.slice A (3 + 8 * gn) c, .int .i64 0]) ∧ Own w' w.heap.size 5 1 A (3 + 8 * gn) c (bvs (hdB 4 id ++ gaps.flatMap gapB)) ∧ Below w.heap.size w w' := by
  obtain ⟨i0, hi0, hz0, hz1, hz2⟩ := info_parts u8info
  have CM := Lib.hid (fun (V : World) (hB : Below w.heap.size w V) => noteMay_any (⟨4, id, name, size, sum, at_, data, gaps, of_, code⟩ : Nt) D dn dc G gn gc V hd hg (hG.below hB) hdn hgn)
  simp only [hno] at CM
  have hK := note_kind' hno
  simp only [kindOk] at hK
  have hgl : gn ≤ 20 := by simp at hK; omega
  have HD := Lib.hid hD
  have HG := Lib.hid hG
  have HN := Lib.hid hd
  have HM := Lib.hid hg
  clear hno hd hg hG hD hK
  unfold ntv at CM ⊢
  dsimp only at CM ⊢
  have b1 := Blk.new w 27 #[.int .i64 4, .int .i64 id, .string name, .int .i64 size, .int .i64 sum, .int .i64 at_, .slice D dn dc, .slice G gn gc, .int .i64 of_, .int .i64 code]
  have hB : Below w.heap.size w (w.alloc (.cells #[.int .i64 4, .int .i64 id, .string name, .int .i64 size, .int .i64 sum, .int .i64 at_, .slice D dn dc, .slice G gn gc, .int .i64 of_, .int .i64 code] 27)) := (Below.refl _ _).alloc (Nat.le_refl _) _
  go_enter Try.func10, Try.ntmps10
  go_wp2_with fail
  refine (CM.out _ hB).mono ?_
  rintro e w1 ⟨rfl, hb⟩
  replace b1 := b1.step hb
  replace hB := hB.trans (hb.mono hB.size)
  clear hb CM
  have x0 := b1.cell' (i := 0) rfl
  have x1 := b1.cell' (i := 1) rfl
  go_upto_region 4 with fail
  have e3 : (#[.int .u8 4, .int .u8 (id / 256 % 256), .int .u8 (id % 256)] : Array Value) = (bvs (hdB 4 id)).toArray := by
    show _ = #[bv (bOf 4), bv (bOf (id / 256)), bv (bOf id)]
    rw [← bv_mod, ← bv_mod, ← bv_mod]
    rfl
  have z1 : w.heap.size + 1 ≤ w1.heap.size := b1.lt
  have hO3 : Own (w1.alloc (.cells #[.int .u8 4, .int .u8 (id / 256 % 256), .int .u8 (id % 256)] 5)) (w.heap.size + 1) 5 1 (some ⟨w1.heap.size, 0, none⟩) 3 3 (bvs (hdB 4 id)) := by
    rw [e3]
    exact Own.of_block (heap_alloc_new w1 _) z1 rfl (Nat.le_refl _) (by unfold maxLen; omega) (by simp [hdB, bvs]) (fun i u h => by simpa using h)
  have hb3 := hB.alloc (by omega) (.cells #[.int .u8 4, .int .u8 (id / 256 % 256), .int .u8 (id % 256)] 5)
  have b3 := b1.alloc (.cells #[.int .u8 4, .int .u8 (id / 256 % 256), .int .u8 (id % 256)] 5)
  clear e3 b1 hB x0 x1
  generalize w1.alloc (.cells #[.int .u8 4, .int .u8 (id / 256 % 256), .int .u8 (id % 256)] 5) = W3 at *
  have x0 := b3.cell' (i := 0) rfl
  go_wp2_with fail
  clear x0
  go_loopw [4, 5] (fun av iv wr => ∃ (i : Nat) (A1 : Option Addr) (c1 : Nat), i ≤ gn ∧ av = .slice A1 (3 + 8 * i) c1 ∧ iv = .int .i64 (i : Int) ∧ Own wr (w.heap.size + 1) 5 1 A1 (3 + 8 * i) c1 (bvs (hdB 4 id ++ (gaps.take i).flatMap gapB)) ∧ Below w.heap.size w wr ∧ Blk wr w.heap.size 27 #[.int .i64 4, .int .i64 id, .string name, .int .i64 size, .int .i64 sum, .int .i64 at_, .slice D dn dc, .slice G gn gc, .int .i64 of_, .int .i64 code]) (fun _ iv _ => gn - (intOf iv).toNat)
  case atStart => exact ⟨0, some ⟨w1.heap.size, 0, none⟩, 3, Nat.zero_le _, rfl, rfl, by simpa using hO3, hb3, b3⟩
  case round =>
    clear hO3 hb3 b3
    obtain ⟨i, A1, c1, hi, rfl, rfl, hO, hb, hN⟩ := hrel
    have x0 := hN.cell' (i := 0) rfl
    have x7 := hN.cell' (i := 7) rfl
    by_cases h5 : i < gn
    · have h5i : (i : Int) < (gn : Int) := by omega
      have hip : (0 : Int) ≤ (i : Int) := by omega
      have hiz : i < gaps.length := by rw [HM.out]; exact h5
      obtain ⟨x, hx⟩ : ∃ x, gaps[i]? = some x := ⟨_, List.getElem?_eq_getElem hiz⟩
      have HT : Hid (gaps.take (i + 1) = gaps.take i ++ [x]) := Lib.hid (by rw [List.take_add_one, hx]; rfl)
      have k0 : Hid ((gps gaps)[i * 2]? = some (.int .i64 x.1)) := Lib.hid ((gps_get hx (j := 0) (by omega)).trans rfl)
      have k1 : Hid ((gps gaps)[i * 2 + 1]? = some (.int .i64 x.2)) := Lib.hid ((gps_get hx (j := 1) (by omega)).trans rfl)
      have hRG := HG.out.below hb
      obtain ⟨g, o, rfl, -, -⟩ := rdgap_cells hRG hx
      clear hx hiz
      go_upto_region 15 with fail
      clear x0 x7
      replace hO := hO.drew
      replace hb := hb.drew
      replace hN := hN.drew
      replace hRG := hRG.drew
      refine heldRegion (fun v => Blk v w.heap.size 27 #[.int .i64 4, .int .i64 id, .string name, .int .i64 size, .int .i64 sum, .int .i64 at_, .slice D dn dc, .slice (some ⟨g, o, none⟩) gn gc, .int .i64 of_, .int .i64 code] ∧ Rd v (some ⟨g, o, none⟩) (gps gaps)) 16 (by kernel_rfl) (by kernel_rfl) ⟨hN, hRG⟩ (fun hSS => ?_)
      generalize wr.drew = V at *
      refine walk_take 0 (v := ?va0) rfl (by kernel_rfl) (by kernel_rfl) (by kernel_rfl) (fun _ _ _ h => h) (hSS) (Or.inl ⟨by rfl, ?ya0⟩) ?ra0
      case ya0 => intro w hSw; obtain ⟨hw, hr⟩ := _root_.id hSw; have e7 := hw.cell' (i := 7) rfl; have f0 : w.cell? ⟨g, o + i * 2, none⟩ = some (.int .i64 x.1) := hr.cell k0.out; have f1 : w.cell? ⟨g, o + i * 2 + 1, none⟩ = some (.int .i64 x.2) := hr.cell k1.out; have hSx := hSw; (try dsimp only at hSw); go_simp; try rfl
      case' ra0 => try simp only [List.getElem_toArray, List.getElem_cons_succ, List.getElem_cons_zero, Act.put, List.setIfInBounds_toArray, List.set_cons_zero, List.set_cons_succ]
      refine walk_take 1 (v := ?va1) rfl (by kernel_rfl) (by kernel_rfl) (by kernel_rfl) (fun _ _ _ h => h) (hSS) (Or.inl ⟨by rfl, ?ya1⟩) ?ra1
      case ya1 => intro w hSw; obtain ⟨hw, hr⟩ := _root_.id hSw; have e7 := hw.cell' (i := 7) rfl; have f0 : w.cell? ⟨g, o + i * 2, none⟩ = some (.int .i64 x.1) := hr.cell k0.out; have f1 : w.cell? ⟨g, o + i * 2 + 1, none⟩ = some (.int .i64 x.2) := hr.cell k1.out; have hSx := hSw; (try dsimp only at hSw); go_simp; try rfl
      case' ra1 => try simp only [List.getElem_toArray, List.getElem_cons_succ, List.getElem_cons_zero, Act.put, List.setIfInBounds_toArray, List.set_cons_zero, List.set_cons_succ]
      refine walk_take 2 (v := ?va2) rfl (by kernel_rfl) (by kernel_rfl) (by kernel_rfl) (fun _ _ _ h => h) (hSS) (Or.inl ⟨by rfl, ?ya2⟩) ?ra2
      case ya2 => intro w hSw; obtain ⟨hw, hr⟩ := _root_.id hSw; have e7 := hw.cell' (i := 7) rfl; have f0 : w.cell? ⟨g, o + i * 2, none⟩ = some (.int .i64 x.1) := hr.cell k0.out; have f1 : w.cell? ⟨g, o + i * 2 + 1, none⟩ = some (.int .i64 x.2) := hr.cell k1.out; have hSx := hSw; (try dsimp only at hSw); go_simp; try rfl
      case' ra2 => try simp only [List.getElem_toArray, List.getElem_cons_succ, List.getElem_cons_zero, Act.put, List.setIfInBounds_toArray, List.set_cons_zero, List.set_cons_succ]
      refine walk_take 3 (v := ?va3) rfl (by kernel_rfl) (by kernel_rfl) (by kernel_rfl) (fun _ _ _ h => h) (hSS) (Or.inl ⟨by rfl, ?ya3⟩) ?ra3
      case ya3 => intro w hSw; obtain ⟨hw, hr⟩ := _root_.id hSw; have e7 := hw.cell' (i := 7) rfl; have f0 : w.cell? ⟨g, o + i * 2, none⟩ = some (.int .i64 x.1) := hr.cell k0.out; have f1 : w.cell? ⟨g, o + i * 2 + 1, none⟩ = some (.int .i64 x.2) := hr.cell k1.out; have hSx := hSw; (try dsimp only at hSw); go_simp; try rfl
      case' ra3 => try simp only [List.getElem_toArray, List.getElem_cons_succ, List.getElem_cons_zero, Act.put, List.setIfInBounds_toArray, List.set_cons_zero, List.set_cons_succ]
      refine walk_take 4 (v := ?va4) rfl (by kernel_rfl) (by kernel_rfl) (by kernel_rfl) (fun _ _ _ h => h) (hSS) (Or.inl ⟨by rfl, ?ya4⟩) ?ra4
      case ya4 => intro w hSw; obtain ⟨hw, hr⟩ := _root_.id hSw; have e7 := hw.cell' (i := 7) rfl; have f0 : w.cell? ⟨g, o + i * 2, none⟩ = some (.int .i64 x.1) := hr.cell k0.out; have f1 : w.cell? ⟨g, o + i * 2 + 1, none⟩ = some (.int .i64 x.2) := hr.cell k1.out; have hSx := hSw; (try dsimp only at hSw); go_simp; try rfl
      case' ra4 => try simp only [List.getElem_toArray, List.getElem_cons_succ, List.getElem_cons_zero, Act.put, List.setIfInBounds_toArray, List.set_cons_zero, List.set_cons_succ]
      refine walk_take 5 (v := ?va5) rfl (by kernel_rfl) (by kernel_rfl) (by kernel_rfl) (fun _ _ _ h => h) (hSS) (Or.inl ⟨by rfl, ?ya5⟩) ?ra5
      case ya5 => intro w hSw; obtain ⟨hw, hr⟩ := _root_.id hSw; have e7 := hw.cell' (i := 7) rfl; have f0 : w.cell? ⟨g, o + i * 2, none⟩ = some (.int .i64 x.1) := hr.cell k0.out; have f1 : w.cell? ⟨g, o + i * 2 + 1, none⟩ = some (.int .i64 x.2) := hr.cell k1.out; have hSx := hSw; (try dsimp only at hSw); go_simp; try rfl
      case' ra5 => try simp only [List.getElem_toArray, List.getElem_cons_succ, List.getElem_cons_zero, Act.put, List.setIfInBounds_toArray, List.set_cons_zero, List.set_cons_succ]
      refine walk_take 6 (v := ?va6) rfl (by kernel_rfl) (by kernel_rfl) (by kernel_rfl) (fun _ _ _ h => h) (hSS) (Or.inl ⟨by rfl, ?ya6⟩) ?ra6
      case ya6 => intro w hSw; obtain ⟨hw, hr⟩ := _root_.id hSw; have e7 := hw.cell' (i := 7) rfl; have f0 : w.cell? ⟨g, o + i * 2, none⟩ = some (.int .i64 x.1) := hr.cell k0.out; have f1 : w.cell? ⟨g, o + i * 2 + 1, none⟩ = some (.int .i64 x.2) := hr.cell k1.out; have hSx := hSw; (try dsimp only at hSw); go_simp; try rfl
      case' ra6 => try simp only [List.getElem_toArray, List.getElem_cons_succ, List.getElem_cons_zero, Act.put, List.setIfInBounds_toArray, List.set_cons_zero, List.set_cons_succ]
      refine walk_take 9 (v := ?va9) rfl (by kernel_rfl) (by kernel_rfl) (by kernel_rfl) (fun _ _ _ h => h) (hSS) (Or.inl ⟨by rfl, ?ya9⟩) ?ra9
      case ya9 => intro w hSw; obtain ⟨hw, hr⟩ := _root_.id hSw; have e7 := hw.cell' (i := 7) rfl; have f0 : w.cell? ⟨g, o + i * 2, none⟩ = some (.int .i64 x.1) := hr.cell k0.out; have f1 : w.cell? ⟨g, o + i * 2 + 1, none⟩ = some (.int .i64 x.2) := hr.cell k1.out; have hSx := hSw; (try dsimp only at hSw); go_simp; try rfl
      case' ra9 => try simp only [List.getElem_toArray, List.getElem_cons_succ, List.getElem_cons_zero, Act.put, List.setIfInBounds_toArray, List.set_cons_zero, List.set_cons_succ]
      refine walk_take 10 (v := ?va10) rfl (by kernel_rfl) (by kernel_rfl) (by kernel_rfl) (fun _ _ _ h => h) (hSS) (Or.inl ⟨by rfl, ?ya10⟩) ?ra10
      case ya10 => intro w hSw; obtain ⟨hw, hr⟩ := _root_.id hSw; have e7 := hw.cell' (i := 7) rfl; have f0 : w.cell? ⟨g, o + i * 2, none⟩ = some (.int .i64 x.1) := hr.cell k0.out; have f1 : w.cell? ⟨g, o + i * 2 + 1, none⟩ = some (.int .i64 x.2) := hr.cell k1.out; have hSx := hSw; (try dsimp only at hSw); go_simp; try rfl
      case' ra10 => try simp only [List.getElem_toArray, List.getElem_cons_succ, List.getElem_cons_zero, Act.put, List.setIfInBounds_toArray, List.set_cons_zero, List.set_cons_succ]
      refine walk_take 11 (v := ?va11) rfl (by kernel_rfl) (by kernel_rfl) (by kernel_rfl) (fun _ _ _ h => h) (hSS) (Or.inl ⟨by rfl, ?ya11⟩) ?ra11
      case ya11 => intro w hSw; obtain ⟨hw, hr⟩ := _root_.id hSw; have e7 := hw.cell' (i := 7) rfl; have f0 : w.cell? ⟨g, o + i * 2, none⟩ = some (.int .i64 x.1) := hr.cell k0.out; have f1 : w.cell? ⟨g, o + i * 2 + 1, none⟩ = some (.int .i64 x.2) := hr.cell k1.out; have hSx := hSw; (try dsimp only at hSw); go_simp; try rfl
      case' ra11 => try simp only [List.getElem_toArray, List.getElem_cons_succ, List.getElem_cons_zero, Act.put, List.setIfInBounds_toArray, List.set_cons_zero, List.set_cons_succ]
      refine walk_take 12 (v := ?va12) rfl (by kernel_rfl) (by kernel_rfl) (by kernel_rfl) (fun _ _ _ h => h) (hSS) (Or.inl ⟨by rfl, ?ya12⟩) ?ra12
      case ya12 => intro w hSw; obtain ⟨hw, hr⟩ := _root_.id hSw; have e7 := hw.cell' (i := 7) rfl; have f0 : w.cell? ⟨g, o + i * 2, none⟩ = some (.int .i64 x.1) := hr.cell k0.out; have f1 : w.cell? ⟨g, o + i * 2 + 1, none⟩ = some (.int .i64 x.2) := hr.cell k1.out; have hSx := hSw; (try dsimp only at hSw); go_simp; try rfl
      case' ra12 => try simp only [List.getElem_toArray, List.getElem_cons_succ, List.getElem_cons_zero, Act.put, List.setIfInBounds_toArray, List.set_cons_zero, List.set_cons_succ]
      refine walk_take 13 (v := ?va13) rfl (by kernel_rfl) (by kernel_rfl) (by kernel_rfl) (fun _ _ _ h => h) (hSS) (Or.inl ⟨by rfl, ?ya13⟩) ?ra13
      case ya13 => intro w hSw; obtain ⟨hw, hr⟩ := _root_.id hSw; have e7 := hw.cell' (i := 7) rfl; have f0 : w.cell? ⟨g, o + i * 2, none⟩ = some (.int .i64 x.1) := hr.cell k0.out; have f1 : w.cell? ⟨g, o + i * 2 + 1, none⟩ = some (.int .i64 x.2) := hr.cell k1.out; have hSx := hSw; (try dsimp only at hSw); go_simp; try rfl
      case' ra13 => try simp only [List.getElem_toArray, List.getElem_cons_succ, List.getElem_cons_zero, Act.put, List.setIfInBounds_toArray, List.set_cons_zero, List.set_cons_succ]
      refine walk_take 14 (v := ?va14) rfl (by kernel_rfl) (by kernel_rfl) (by kernel_rfl) (fun _ _ _ h => h) (hSS) (Or.inl ⟨by rfl, ?ya14⟩) ?ra14
      case ya14 => intro w hSw; obtain ⟨hw, hr⟩ := _root_.id hSw; have e7 := hw.cell' (i := 7) rfl; have f0 : w.cell? ⟨g, o + i * 2, none⟩ = some (.int .i64 x.1) := hr.cell k0.out; have f1 : w.cell? ⟨g, o + i * 2 + 1, none⟩ = some (.int .i64 x.2) := hr.cell k1.out; have hSx := hSw; (try dsimp only at hSw); go_simp; try rfl
      case' ra14 => try simp only [List.getElem_toArray, List.getElem_cons_succ, List.getElem_cons_zero, Act.put, List.setIfInBounds_toArray, List.set_cons_zero, List.set_cons_succ]
      refine walk_step 7 rfl (by kernel_rfl) (by kernel_rfl) (fun K hK => ?c7)
      case c7 =>
        go_simp
        refine (four_any _ _).mono ?_
        rintro e v2 ⟨rfl, rfl⟩
        have b4 := hN.alloc (.cells #[bv (bOf (x.1 / 16777216)), bv (bOf (x.1 / 65536)), bv (bOf (x.1 / 256)), bv (bOf x.1)] 5)
        have hO4 := hO.alloc (.cells #[bv (bOf (x.1 / 16777216)), bv (bOf (x.1 / 65536)), bv (bOf (x.1 / 256)), bv (bOf x.1)] 5)
        have z3 := hN.lt
        have hb4 := hb.alloc (by omega) (.cells #[bv (bOf (x.1 / 16777216)), bv (bOf (x.1 / 65536)), bv (bOf (x.1 / 256)), bv (bOf x.1)] 5)
        have hr4 := hRG.alloc (.cells #[bv (bOf (x.1 / 16777216)), bv (bOf (x.1 / 65536)), bv (bOf (x.1 / 256)), bv (bOf x.1)] 5)
        have hR4 := Rd_lit V [bv (bOf (x.1 / 16777216)), bv (bOf (x.1 / 65536)), bv (bOf (x.1 / 256)), bv (bOf x.1)] 5
        refine hK _ _ ⟨b4, hr4⟩ ?_
        clear hK K hSS
        try simp only [List.getElem_toArray, List.getElem_cons_succ, List.getElem_cons_zero, Act.put, List.setIfInBounds_toArray, List.set_cons_zero, List.set_cons_succ]
        refine walk_step 8 rfl (by kernel_rfl) (by kernel_rfl) (fun K hK => ?c8)
        case c8 =>
          have q4 : 3 + 8 * i + 4 ≤ maxLen := by unfold maxLen; omega
          have q5 : (3 + 8 * i + 4) * 1 ≤ 140737488355328 := by omega
          have z4 : w.heap.size + 1 ≤ (V.alloc (.cells #[bv (bOf (x.1 / 16777216)), bv (bOf (x.1 / 65536)), bv (bOf (x.1 / 256)), bv (bOf x.1)] 5)).heap.size := b4.lt
          rw [if_pos (by kernel_rfl)]
          refine wp_append_Own _ (.tmp 62) (.tmp 69) 23 rfl (w.heap.size + 1) 5 i0 _ 1 1 Try.underlying23 hi0 hz0 hz1 hz2 rfl A1 (3 + 8 * i) c1 _ rfl hO4 (some ⟨V.heap.size, 0, none⟩) 4 4 (bvs (be4 x.1)) rfl rfl hR4 (bvs_one (be4 x.1)) q4 q5 z4 ?_
          intro A5 c5 w5 hO5 hg5 hor5
          have hne5 : some w.heap.size ≠ blk A1 := fun e1 => by have := (hO.lt _ e1.symm).1; omega
          have b5 := b4.grown hg5 hne5
          have hb5 := hb4.grown hg5 (by omega) (fun q hq => by have := (hO4.lt q hq).1; omega)
          have hr5 := HG.out.below hb5
          have z6 : w.heap.size + 1 ≤ w5.heap.size := b5.lt
          refine hK _ _ ⟨b5, hr5⟩ ?_
          clear hK K b4 hb4 hr4 hR4 hg5 hor5 hne5 hr5
          try simp only [List.getElem_toArray, List.getElem_cons_succ, List.getElem_cons_zero, Act.put, List.setIfInBounds_toArray, List.set_cons_zero, List.set_cons_succ]
          refine walk_step 15 rfl (by kernel_rfl) (by kernel_rfl) (fun K hK => ?c15)
          case c15 =>
            go_simp
            refine (four_any _ _).mono ?_
            rintro e v6 ⟨rfl, rfl⟩
            have b7 := b5.alloc (.cells #[bv (bOf (x.2 / 16777216)), bv (bOf (x.2 / 65536)), bv (bOf (x.2 / 256)), bv (bOf x.2)] 5)
            have hO7 := hO5.alloc (.cells #[bv (bOf (x.2 / 16777216)), bv (bOf (x.2 / 65536)), bv (bOf (x.2 / 256)), bv (bOf x.2)] 5)
            have hb7 := hb5.alloc (by omega) (.cells #[bv (bOf (x.2 / 16777216)), bv (bOf (x.2 / 65536)), bv (bOf (x.2 / 256)), bv (bOf x.2)] 5)
            have hr7 := HG.out.below hb7
            have hR7 := Rd_lit w5 [bv (bOf (x.2 / 16777216)), bv (bOf (x.2 / 65536)), bv (bOf (x.2 / 256)), bv (bOf x.2)] 5
            refine hK _ _ ⟨b7, hr7⟩ ?_
            clear hK K hr7
            try simp only [List.getElem_toArray, List.getElem_cons_succ, List.getElem_cons_zero, Act.put, List.setIfInBounds_toArray, List.set_cons_zero, List.set_cons_succ]
            refine walk_tail (by kernel_rfl) ?_
            simp only [List.drop_succ_cons, List.drop_zero]
            have q6 : 3 + 8 * i + 4 + 4 ≤ maxLen := by unfold maxLen; omega
            have q7 : (3 + 8 * i + 4 + 4) * 1 ≤ 140737488355328 := by omega
            have z7 : w.heap.size + 1 ≤ (w5.alloc (.cells #[bv (bOf (x.2 / 16777216)), bv (bOf (x.2 / 65536)), bv (bOf (x.2 / 256)), bv (bOf x.2)] 5)).heap.size := b7.lt
            go_wp2_with (at_builtin; refine wpList_append_Own _ rfl (.tmp 70) (.tmp 77) 23 rfl (w.heap.size + 1) 5 i0 _ 1 1 Try.underlying23 hi0 hz0 hz1 hz2 rfl A5 (3 + 8 * i + 4) c5 _ rfl hO7 (some ⟨w5.heap.size, 0, none⟩) 4 4 (bvs (be4 x.2)) rfl rfl hR7 (bvs_one (be4 x.2)) q6 q7 z7 ?_; intro A6 c6 w6 hO6 hg6 hor6)
            have hne6 : some w.heap.size ≠ blk A5 := fun e1 => by have := (hO5.lt _ e1.symm).1; omega
            have b8 := b7.grown hg6 hne6
            have hb8 := hb7.grown hg6 (by omega) (fun q hq => by have := (hO7.lt q hq).1; omega)
            clear b7 hb7 hR7 hg6 hor6 hne6 z7
            go_roundw
            case rel =>
              refine ⟨i + 1, A6, c6, by omega, by rw [show 3 + 8 * (i + 1) = 3 + 8 * i + 4 + 4 by omega], by go_num, ?_, hb8, b8⟩
              rw [show 3 + 8 * (i + 1) = 3 + 8 * i + 4 + 4 by omega, HT.out, List.flatMap_append, List.flatMap_singleton]
              rw [← bvs_append, ← bvs_append] at hO6
              simpa [gapB, List.append_assoc] using hO6
            case measure => simp [intOf]; omega
    · obtain rfl : i = gn := by omega
      have h5i : ¬ (i : Int) < (i : Int) := by omega
      go_wp2_with fail
      refine bodyPost_ret (v := .tuple #[.slice A1 (3 + 8 * i) c1, .int .i64 0]) (by simp [results, Try.results10, go_sem]) rfl ?_
      have e : gaps.take i = gaps := List.take_of_length_le (by rw [HM.out]; omega)
      rw [e] at hO
      exact ⟨A1, c1, rfl, hO.mono (by omega), hb⟩
end Go.Proofs.Ytianombjgdmbeaa
