/-
  The bytes of notes of kind 1, by the program.
-/
import Derived.Test.YtianombjgdmbeaaNoteR5
import Derived.Test.YtianombjgdmbeaaAppS
import Derived.Test.YtianombjgdmbeaaHeld2
import Derived.Test.YtianombjgdmbeaaNoteZ
namespace Go.Proofs.Ytianombjgdmbeaa
set_option linter.unusedSimpArgs false
set_option linter.unusedVariables false
open Go.RowKit

set_option maxHeartbeats 3200000 in
set_option maxRecDepth 100000 in
theorem ebytes_1 (id : Int) (name : ByteArray) (size sum at_ : Int) (data : List UInt8) (gaps : List (Int × Int)) (of_ code : Int) (D : Option Addr) (dn dc : Nat) (G : Option Addr) (gn gc : Nat) (w : World) (hd : data.length = dn) (hg : gaps.length = gn) (hG : Rd w G (gps gaps)) (hD : Rd w D (bvs data)) (hdn : dn ≤ 140737488351232) (hgn : gn ≤ 8796093022200) (hno : noteOk (⟨1, id, name, size, sum, at_, data, gaps, of_, code⟩ : Nt) = true) :
    Calls Try.prog 11 #[ntv (⟨1, id, name, size, sum, at_, data, gaps, of_, code⟩ : Nt) D dn dc G gn gc] w fun e w' => ∃ A c, e = .returned (.tuple #[.slice A (7 + name.size) c, .int .i64 0]) ∧ Own w' w.heap.size 5 1 A (7 + name.size) c (bvs (hdB 1 id ++ be4 size ++ sbs name)) ∧ Below w.heap.size w w' := by
  obtain ⟨i0, hi0, hz0, hz1, hz2⟩ := info_parts u8info
  have CM := Lib.hid (fun (V : World) (hB : Below w.heap.size w V) => may_any (⟨1, id, name, size, sum, at_, data, gaps, of_, code⟩ : Nt) D dn dc G gn gc V hd hg (hG.below hB))
  simp only [hno] at CM
  have hK := note_kind' hno
  simp only [kindOk] at hK
  have hn32 : name.size ≤ 32 := by simp at hK; omega
  have HD := Lib.hid hD
  have HG := Lib.hid hG
  have HN := Lib.hid hd
  have HM := Lib.hid hg
  clear hno hd hg hG hD hK
  unfold ntv at CM ⊢
  dsimp only at CM ⊢
  have b1 := Blk.new w 27 #[.int .i64 1, .int .i64 id, .string name, .int .i64 size, .int .i64 sum, .int .i64 at_, .slice D dn dc, .slice G gn gc, .int .i64 of_, .int .i64 code]
  have hB : Below w.heap.size w (w.alloc (.cells #[.int .i64 1, .int .i64 id, .string name, .int .i64 size, .int .i64 sum, .int .i64 at_, .slice D dn dc, .slice G gn gc, .int .i64 of_, .int .i64 code] 27)) := (Below.refl _ _).alloc (Nat.le_refl _) _
  go_enter Try.func11, Try.ntmps11
  go_wp2_with fail
  refine (CM.out _ hB).mono ?_
  rintro e w1 ⟨rfl, hb⟩
  replace b1 := b1.step hb
  replace hB := hB.trans (hb.mono hB.size)
  clear hb CM
  have x0 := b1.cell' (i := 0) rfl
  have x1 := b1.cell' (i := 1) rfl
  go_upto_region 4 with fail
  have e3 : (#[.int .u8 1, .int .u8 (id / 256 % 256), .int .u8 (id % 256)] : Array Value) = (bvs (hdB 1 id)).toArray := by
    show _ = #[bv (bOf 1), bv (bOf (id / 256)), bv (bOf id)]
    rw [← bv_mod, ← bv_mod, ← bv_mod]
    rfl
  have z1 : w.heap.size + 1 ≤ w1.heap.size := b1.lt
  have hO3 : Own (w1.alloc (.cells #[.int .u8 1, .int .u8 (id / 256 % 256), .int .u8 (id % 256)] 5)) (w.heap.size + 1) 5 1 (some ⟨w1.heap.size, 0, none⟩) 3 3 (bvs (hdB 1 id)) := by
    rw [e3]
    exact Own.of_block (heap_alloc_new w1 _) z1 rfl (Nat.le_refl _) (by unfold maxLen; omega) (by simp [hdB, bvs]) (fun i u h => by simpa using h)
  have hb3 := hB.alloc (by omega) (.cells #[.int .u8 1, .int .u8 (id / 256 % 256), .int .u8 (id % 256)] 5)
  have b3 := b1.alloc (.cells #[.int .u8 1, .int .u8 (id / 256 % 256), .int .u8 (id % 256)] 5)
  clear e3 b1 hB x0 x1
  generalize w1.alloc (.cells #[.int .u8 1, .int .u8 (id / 256 % 256), .int .u8 (id % 256)] 5) = W3 at *
  have x0 := b3.cell' (i := 0) rfl
  go_upto_region 6 with fail
  replace hO3 := hO3.drew
  replace hb3 := hb3.drew
  replace b3 := b3.drew
  clear x0
  refine heldRegion (fun v => Blk v w.heap.size 27 #[.int .i64 1, .int .i64 id, .string name, .int .i64 size, .int .i64 sum, .int .i64 at_, .slice D dn dc, .slice G gn gc, .int .i64 of_, .int .i64 code]) 7 (by kernel_rfl) (by kernel_rfl) b3 (fun hSS => ?_)
  generalize W3.drew = V at *
  clear hSS
  refine walk_take 0 (v := ?va0) rfl (by kernel_rfl) (by kernel_rfl) (by kernel_rfl) (fun _ _ _ h => h) (b3) (Or.inl ⟨by rfl, ?ya0⟩) ?ra0
  case ya0 => intro w hSw; obtain hw := _root_.id hSw; have e3 := hw.cell' (i := 3) rfl; have e2 := hw.cell' (i := 2) rfl; have hSx := hSw; (try dsimp only at hSw); go_simp; try rfl
  case' ra0 => try simp only [List.getElem_toArray, List.getElem_cons_succ, List.getElem_cons_zero, Act.put, List.setIfInBounds_toArray, List.set_cons_zero, List.set_cons_succ]
  refine walk_take 1 (v := ?va1) rfl (by kernel_rfl) (by kernel_rfl) (by kernel_rfl) (fun _ _ _ h => h) (b3) (Or.inl ⟨by rfl, ?ya1⟩) ?ra1
  case ya1 => intro w hSw; obtain hw := _root_.id hSw; have e3 := hw.cell' (i := 3) rfl; have e2 := hw.cell' (i := 2) rfl; have hSx := hSw; (try dsimp only at hSw); go_simp; try rfl
  case' ra1 => try simp only [List.getElem_toArray, List.getElem_cons_succ, List.getElem_cons_zero, Act.put, List.setIfInBounds_toArray, List.set_cons_zero, List.set_cons_succ]
  refine walk_take 2 (v := ?va2) rfl (by kernel_rfl) (by kernel_rfl) (by kernel_rfl) (fun _ _ _ h => h) (b3) (Or.inl ⟨by rfl, ?ya2⟩) ?ra2
  case ya2 => intro w hSw; obtain hw := _root_.id hSw; have e3 := hw.cell' (i := 3) rfl; have e2 := hw.cell' (i := 2) rfl; have hSx := hSw; (try dsimp only at hSw); go_simp; try rfl
  case' ra2 => try simp only [List.getElem_toArray, List.getElem_cons_succ, List.getElem_cons_zero, Act.put, List.setIfInBounds_toArray, List.set_cons_zero, List.set_cons_succ]
  refine walk_take 5 (v := ?va5) rfl (by kernel_rfl) (by kernel_rfl) (by kernel_rfl) (fun _ _ _ h => h) (b3) (Or.inl ⟨by rfl, ?ya5⟩) ?ra5
  case ya5 => intro w hSw; obtain hw := _root_.id hSw; have e3 := hw.cell' (i := 3) rfl; have e2 := hw.cell' (i := 2) rfl; have hSx := hSw; (try dsimp only at hSw); go_simp; try rfl
  case' ra5 => try simp only [List.getElem_toArray, List.getElem_cons_succ, List.getElem_cons_zero, Act.put, List.setIfInBounds_toArray, List.set_cons_zero, List.set_cons_succ]
  refine walk_take 6 (v := ?va6) rfl (by kernel_rfl) (by kernel_rfl) (by kernel_rfl) (fun _ _ _ h => h) (b3) (Or.inl ⟨by rfl, ?ya6⟩) ?ra6
  case ya6 => intro w hSw; obtain hw := _root_.id hSw; have e3 := hw.cell' (i := 3) rfl; have e2 := hw.cell' (i := 2) rfl; have hSx := hSw; (try dsimp only at hSw); go_simp; try rfl
  case' ra6 => try simp only [List.getElem_toArray, List.getElem_cons_succ, List.getElem_cons_zero, Act.put, List.setIfInBounds_toArray, List.set_cons_zero, List.set_cons_succ]
  refine walk_step 3 rfl (by kernel_rfl) (by kernel_rfl) (fun K hK => ?c3)
  case c3 =>
    go_simp
    have b4 := b3.alloc (.cells #[.int .i64 size] 3)
    have hO4 := hO3.alloc (.cells #[.int .i64 size] 3)
    have z3 := hb3.size
    have hb4 := hb3.alloc (by omega) (.cells #[.int .i64 size] 3)
    have hR4 := Rd_lit V [.int .i64 size] 3
    refine hK _ _ b4 ?_
    clear hK K
    try simp only [List.getElem_toArray, List.getElem_cons_succ, List.getElem_cons_zero, Act.put, List.setIfInBounds_toArray, List.set_cons_zero, List.set_cons_succ]
    refine walk_step 4 rfl (by kernel_rfl) (by kernel_rfl) (fun K hK => ?c4)
    case c4 =>
      have z5 := hO4.lt
      go_simp
      refine (put_any (w.heap.size + 1) (some ⟨w1.heap.size, 0, none⟩) 3 3 (hdB 1 id) (some ⟨V.heap.size, 0, none⟩) 1 1 [size] _ hO4 hR4 rfl (fun q hq => ?_) (by omega) (by omega) (by have := b4.lt; omega)).mono ?_
      · have e1 := Option.some.inj hq
        simp only at e1
        subst e1
        refine ⟨by simp, fun e2 => ?_⟩
        have e3 : w1.heap.size = V.heap.size := Option.some.inj e2
        have e4 : w1.heap.size < V.heap.size := (hO3.lt _ rfl).2
        omega
      rintro e w5 ⟨A5, c5, rfl, hO5, hg5, hor5⟩
      have eF : [size].flatMap be4 = be4 size := by simp
      rw [eF] at hO5
      simp only [Nat.mul_one] at hO5
      clear eF z5
      have hne5 : some w.heap.size ≠ blk (some (⟨w1.heap.size, 0, none⟩ : Addr)) := by intro e1; have e2 := Option.some.inj e1; simp at e2; omega
      have b5 := b4.grown hg5 hne5
      have hb5 := hb4.grown hg5 (by have := b4.lt; omega) (fun q hq => by have := (hO4.lt q hq).1; omega)
      have z6 : w.heap.size + 1 ≤ w5.heap.size := b5.lt
      refine hK _ _ b5 ?_
      clear hK K b4 hO4 hb4 hR4 hg5 hor5 hne5
      try simp only [List.getElem_toArray, List.getElem_cons_succ, List.getElem_cons_zero, Act.put, List.setIfInBounds_toArray, List.set_cons_zero, List.set_cons_succ]
      refine walk_tail (by kernel_rfl) ?_
      simp only [List.drop_succ_cons, List.drop_zero]
      have q6 : 7 + name.size ≤ maxLen := by unfold maxLen; omega
      have q7 : 7 + name.size ≤ 140737488355328 := by omega
      go_wp2_with (at_builtin; refine wpList_append_OwnS w5 rfl (.tmp 29) (.tmp 31) 23 9 rfl (w.heap.size + 1) 5 i0 Try.underlying23 Try.underlying9 hi0 hz0 hz1 hz2 A5 7 c5 (bvs (hdB 1 id ++ be4 size)) rfl hO5 name rfl q6 q7 z6 ?_; intro A6 c6 w6 hO6 hg6 hor6)
      refine bodyPost_ret (v := .tuple #[.slice A6 (7 + name.size) c6, .int .i64 0]) (by simp [results, Try.results11, go_sem]) rfl ?_
      have hb6 := hb5.grown hg6 (by omega) (fun q hq => by have := (hO5.lt q hq).1; omega)
      rw [← bvs_append] at hO6
      exact ⟨A6, c6, rfl, hO6.mono (by omega), hb6⟩
end Go.Proofs.Ytianombjgdmbeaa
