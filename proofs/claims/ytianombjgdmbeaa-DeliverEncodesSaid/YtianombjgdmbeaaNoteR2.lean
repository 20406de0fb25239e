/-
  The bytes of notes of kind 2, by the document.
-/
import Derived.Test.YtianombjgdmbeaaNoteR5
import Derived.Test.YtianombjgdmbeaaAppS
import Derived.Test.YtianombjgdmbeaaHeld2
import Derived.Test.YtianombjgdmbeaaNoteZ
namespace Go.Proofs.Ytianombjgdmbeaa
set_option linter.unusedSimpArgs false
set_option linter.unusedVariables false
open Go.RowKit

set_option maxHeartbeats 3200000 in
set_option maxRecDepth 100000 in
theorem rbytes_2 (id : Int) (name : ByteArray) (size sum at_ : Int) (data : List UInt8) (gaps : List (Int × Int)) (of_ code : Int) (D : Option Addr) (dn dc : Nat) (G : Option Addr) (gn gc : Nat) (w : World) (hd : data.length = dn) (hg : gaps.length = gn) (hG : Rd w G (gps gaps)) (hD : Rd w D (bvs data)) (hdn : dn ≤ 140737488351232) (hgn : gn ≤ 8796093022200) (hno : noteOk (⟨2, id, name, size, sum, at_, data, gaps, of_, code⟩ : Nt) = true) :
    Calls Try.prog 10 #[ntv (⟨2, id, name, size, sum, at_, data, gaps, of_, code⟩ : Nt) D dn dc G gn gc] w fun e w' => ∃ A c, e = .returned (.tuple #[.slice A (7 + dn) c, .int .i64 0]) ∧ Own w' w.heap.size 5 1 A (7 + dn) c (bvs (hdB 2 id ++ be4 at_ ++ data)) ∧ Below w.heap.size w w' := by
  obtain ⟨i0, hi0, hz0, hz1, hz2⟩ := info_parts u8info
  have CM := Lib.hid (fun (V : World) (hB : Below w.heap.size w V) => noteMay_any (⟨2, id, name, size, sum, at_, data, gaps, of_, code⟩ : Nt) D dn dc G gn gc V hd hg (hG.below hB) hdn hgn)
  simp only [hno] at CM
  have hK := note_kind' hno
  simp only [kindOk] at hK
  have hdl : dn ≤ 1024 := by simp at hK; omega
  have HD := Lib.hid hD
  have HG := Lib.hid hG
  have HN := Lib.hid hd
  have HM := Lib.hid hg
  clear hno hd hg hG hD hK
  unfold ntv at CM ⊢
  dsimp only at CM ⊢
  have b1 := Blk.new w 27 #[.int .i64 2, .int .i64 id, .string name, .int .i64 size, .int .i64 sum, .int .i64 at_, .slice D dn dc, .slice G gn gc, .int .i64 of_, .int .i64 code]
  have hB : Below w.heap.size w (w.alloc (.cells #[.int .i64 2, .int .i64 id, .string name, .int .i64 size, .int .i64 sum, .int .i64 at_, .slice D dn dc, .slice G gn gc, .int .i64 of_, .int .i64 code] 27)) := (Below.refl _ _).alloc (Nat.le_refl _) _
  go_enter Try.func10, Try.ntmps10
  go_wp2_with fail
  refine (CM.out _ hB).mono ?_
  rintro e w1 ⟨rfl, hb⟩
  replace b1 := b1.step hb
  replace hB := hB.trans (hb.mono hB.size)
  clear hb CM
  have x0 := b1.cell' (i := 0) rfl
  have x1 := b1.cell' (i := 1) rfl
  go_upto_region 4 with fail
  have e3 : (#[.int .u8 2, .int .u8 (id / 256 % 256), .int .u8 (id % 256)] : Array Value) = (bvs (hdB 2 id)).toArray := by
    show _ = #[bv (bOf 2), bv (bOf (id / 256)), bv (bOf id)]
    rw [← bv_mod, ← bv_mod, ← bv_mod]
    rfl
  have z1 : w.heap.size + 1 ≤ w1.heap.size := b1.lt
  have hO3 : Own (w1.alloc (.cells #[.int .u8 2, .int .u8 (id / 256 % 256), .int .u8 (id % 256)] 5)) (w.heap.size + 1) 5 1 (some ⟨w1.heap.size, 0, none⟩) 3 3 (bvs (hdB 2 id)) := by
    rw [e3]
    exact Own.of_block (heap_alloc_new w1 _) z1 rfl (Nat.le_refl _) (by unfold maxLen; omega) (by simp [hdB, bvs]) (fun i u h => by simpa using h)
  have hb3 := hB.alloc (by omega) (.cells #[.int .u8 2, .int .u8 (id / 256 % 256), .int .u8 (id % 256)] 5)
  have b3 := b1.alloc (.cells #[.int .u8 2, .int .u8 (id / 256 % 256), .int .u8 (id % 256)] 5)
  clear e3 b1 hB x0 x1
  generalize w1.alloc (.cells #[.int .u8 2, .int .u8 (id / 256 % 256), .int .u8 (id % 256)] 5) = W3 at *
  have x0 := b3.cell' (i := 0) rfl
  go_upto_region 8 with fail
  replace hO3 := hO3.drew
  replace hb3 := hb3.drew
  replace b3 := b3.drew
  clear x0
  refine heldRegion (fun v => Blk v w.heap.size 27 #[.int .i64 2, .int .i64 id, .string name, .int .i64 size, .int .i64 sum, .int .i64 at_, .slice D dn dc, .slice G gn gc, .int .i64 of_, .int .i64 code]) 7 (by kernel_rfl) (by kernel_rfl) b3 (fun hSS => ?_)
  generalize W3.drew = V at *
  clear hSS
  refine walk_take 0 (v := ?va0) rfl (by kernel_rfl) (by kernel_rfl) (by kernel_rfl) (fun _ _ _ h => h) (b3) (Or.inl ⟨by rfl, ?ya0⟩) ?ra0
  case ya0 => intro w hSw; obtain hw := _root_.id hSw; have e5 := hw.cell' (i := 5) rfl; have e6 := hw.cell' (i := 6) rfl; have hSx := hSw; (try dsimp only at hSw); go_simp; try rfl
  case' ra0 => try simp only [List.getElem_toArray, List.getElem_cons_succ, List.getElem_cons_zero, Act.put, List.setIfInBounds_toArray, List.set_cons_zero, List.set_cons_succ]
  refine walk_take 1 (v := ?va1) rfl (by kernel_rfl) (by kernel_rfl) (by kernel_rfl) (fun _ _ _ h => h) (b3) (Or.inl ⟨by rfl, ?ya1⟩) ?ra1
  case ya1 => intro w hSw; obtain hw := _root_.id hSw; have e5 := hw.cell' (i := 5) rfl; have e6 := hw.cell' (i := 6) rfl; have hSx := hSw; (try dsimp only at hSw); go_simp; try rfl
  case' ra1 => try simp only [List.getElem_toArray, List.getElem_cons_succ, List.getElem_cons_zero, Act.put, List.setIfInBounds_toArray, List.set_cons_zero, List.set_cons_succ]
  refine walk_take 2 (v := ?va2) rfl (by kernel_rfl) (by kernel_rfl) (by kernel_rfl) (fun _ _ _ h => h) (b3) (Or.inl ⟨by rfl, ?ya2⟩) ?ra2
  case ya2 => intro w hSw; obtain hw := _root_.id hSw; have e5 := hw.cell' (i := 5) rfl; have e6 := hw.cell' (i := 6) rfl; have hSx := hSw; (try dsimp only at hSw); go_simp; try rfl
  case' ra2 => try simp only [List.getElem_toArray, List.getElem_cons_succ, List.getElem_cons_zero, Act.put, List.setIfInBounds_toArray, List.set_cons_zero, List.set_cons_succ]
  refine walk_take 5 (v := ?va5) rfl (by kernel_rfl) (by kernel_rfl) (by kernel_rfl) (fun _ _ _ h => h) (b3) (Or.inl ⟨by rfl, ?ya5⟩) ?ra5
  case ya5 => intro w hSw; obtain hw := _root_.id hSw; have e5 := hw.cell' (i := 5) rfl; have e6 := hw.cell' (i := 6) rfl; have hSx := hSw; (try dsimp only at hSw); go_simp; try rfl
  case' ra5 => try simp only [List.getElem_toArray, List.getElem_cons_succ, List.getElem_cons_zero, Act.put, List.setIfInBounds_toArray, List.set_cons_zero, List.set_cons_succ]
  refine walk_take 6 (v := ?va6) rfl (by kernel_rfl) (by kernel_rfl) (by kernel_rfl) (fun _ _ _ h => h) (b3) (Or.inl ⟨by rfl, ?ya6⟩) ?ra6
  case ya6 => intro w hSw; obtain hw := _root_.id hSw; have e5 := hw.cell' (i := 5) rfl; have e6 := hw.cell' (i := 6) rfl; have hSx := hSw; (try dsimp only at hSw); go_simp; try rfl
  case' ra6 => try simp only [List.getElem_toArray, List.getElem_cons_succ, List.getElem_cons_zero, Act.put, List.setIfInBounds_toArray, List.set_cons_zero, List.set_cons_succ]
  refine walk_step 3 rfl (by kernel_rfl) (by kernel_rfl) (fun K hK => ?c3)
  case c3 =>
    go_simp
    refine (four_any _ _).mono ?_
    rintro e v2 ⟨rfl, rfl⟩
    have b4 := b3.alloc (.cells #[bv (bOf (at_ / 16777216)), bv (bOf (at_ / 65536)), bv (bOf (at_ / 256)), bv (bOf at_)] 5)
    have hO4 := hO3.alloc (.cells #[bv (bOf (at_ / 16777216)), bv (bOf (at_ / 65536)), bv (bOf (at_ / 256)), bv (bOf at_)] 5)
    have z3 := hb3.size
    have hb4 := hb3.alloc (by omega) (.cells #[bv (bOf (at_ / 16777216)), bv (bOf (at_ / 65536)), bv (bOf (at_ / 256)), bv (bOf at_)] 5)
    have hR4 := Rd_lit V [bv (bOf (at_ / 16777216)), bv (bOf (at_ / 65536)), bv (bOf (at_ / 256)), bv (bOf at_)] 5
    refine hK _ _ b4 ?_
    clear hK K
    try simp only [List.getElem_toArray, List.getElem_cons_succ, List.getElem_cons_zero, Act.put, List.setIfInBounds_toArray, List.set_cons_zero, List.set_cons_succ]
    refine walk_step 4 rfl (by kernel_rfl) (by kernel_rfl) (fun K hK => ?c4)
    case c4 =>
      have q4 : 3 + 4 ≤ maxLen := by unfold maxLen; omega
      have q5 : (3 + 4) * 1 ≤ 140737488355328 := by omega
      have z4 : w.heap.size + 1 ≤ (V.alloc (.cells #[bv (bOf (at_ / 16777216)), bv (bOf (at_ / 65536)), bv (bOf (at_ / 256)), bv (bOf at_)] 5)).heap.size := by have := b4.lt; omega
      rw [if_pos (by kernel_rfl)]
      refine wp_append_Own _ (.tmp 34) (.tmp 37) 23 rfl (w.heap.size + 1) 5 i0 _ 1 1 Try.underlying23 hi0 hz0 hz1 hz2 rfl (some ⟨w1.heap.size, 0, none⟩) 3 3 (bvs (hdB 2 id)) rfl hO4 (some ⟨V.heap.size, 0, none⟩) 4 4 (bvs (be4 at_)) rfl rfl hR4 (bvs_one (be4 at_)) q4 q5 z4 ?_
      intro A5 c5 w5 hO5 hg5 hor5
      have hne5 : some w.heap.size ≠ blk (some (⟨w1.heap.size, 0, none⟩ : Addr)) := by intro e1; have e2 := Option.some.inj e1; simp at e2; omega
      have b5 := b4.grown hg5 hne5
      have hb5 := hb4.grown hg5 (by have := b4.lt; omega) (fun q hq => by have := (hO4.lt q hq).1; omega)
      have z6 : w.heap.size + 1 ≤ w5.heap.size := b5.lt
      rw [show bvs (hdB 2 id) ++ bvs (be4 at_) = bvs (hdB 2 id ++ be4 at_) from (bvs_append _ _).symm] at hO5
      refine hK _ _ b5 ?_
      clear hK K b4 hO4 hb4 hR4 hg5 hor5 hne5
      try simp only [List.getElem_toArray, List.getElem_cons_succ, List.getElem_cons_zero, Act.put, List.setIfInBounds_toArray, List.set_cons_zero, List.set_cons_succ]
      refine walk_tail (by kernel_rfl) ?_
      simp only [List.drop_succ_cons, List.drop_zero]
      have q6 : 7 + dn ≤ maxLen := by unfold maxLen; omega
      have q7 : (7 + dn) * 1 ≤ 140737488355328 := by omega
      have hR5 := HD.out.below hb5
      have hl5 : (bvs data).length = dn * 1 := by rw [bvs_length, HN.out, Nat.mul_one]
      have hl6 := Lib.hid hl5
      clear hl5
      go_wp2_with (at_builtin; refine wpList_append_Own w5 rfl (.tmp 38) (.tmp 40) 23 rfl (w.heap.size + 1) 5 i0 _ 1 1 Try.underlying23 hi0 hz0 hz1 hz2 rfl A5 7 c5 (bvs (hdB 2 id ++ be4 at_)) rfl hO5 D dn dc (bvs data) rfl hl6.out hR5 (bvs_one data) q6 q7 z6 ?_; intro A6 c6 w6 hO6 hg6 hor6)
      refine bodyPost_ret (v := .tuple #[.slice A6 (7 + dn) c6, .int .i64 0]) (by simp [results, Try.results10, go_sem]) rfl ?_
      have hb6 := hb5.grown hg6 (by omega) (fun q hq => by have := (hO5.lt q hq).1; omega)
      rw [← bvs_append] at hO6
      exact ⟨A6, c6, rfl, hO6.mono (by omega), hb6⟩
end Go.Proofs.Ytianombjgdmbeaa
