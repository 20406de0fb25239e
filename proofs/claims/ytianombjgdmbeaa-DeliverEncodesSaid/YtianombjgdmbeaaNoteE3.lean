/-
  The bytes of notes of kind 3, by the program.
-/
import Derived.Test.YtianombjgdmbeaaNoteR5
import Derived.Test.YtianombjgdmbeaaAppS
import Derived.Test.YtianombjgdmbeaaHeld2
import Derived.Test.YtianombjgdmbeaaNoteZ
namespace Go.Proofs.Ytianombjgdmbeaa
set_option linter.unusedSimpArgs false
set_option linter.unusedVariables false
open Go.RowKit

set_option maxHeartbeats 3200000 in
set_option maxRecDepth 100000 in
theorem ebytes_3 (id : Int) (name : ByteArray) (size sum at_ : Int) (data : List UInt8) (gaps : List (Int × Int)) (of_ code : Int) (D : Option Addr) (dn dc : Nat) (G : Option Addr) (gn gc : Nat) (w : World) (hd : data.length = dn) (hg : gaps.length = gn) (hG : Rd w G (gps gaps)) (hD : Rd w D (bvs data)) (hdn : dn ≤ 140737488351232) (hgn : gn ≤ 8796093022200) (hno : noteOk (⟨3, id, name, size, sum, at_, data, gaps, of_, code⟩ : Nt) = true) :
    Calls Try.prog 11 #[ntv (⟨3, id, name, size, sum, at_, data, gaps, of_, code⟩ : Nt) D dn dc G gn gc] w fun e w' => ∃ A c, e = .returned (.tuple #[.slice A 11 c, .int .i64 0]) ∧ Own w' w.heap.size 5 1 A 11 c (bvs (hdB 3 id ++ be4 size ++ be4 sum)) ∧ Below w.heap.size w w' := by
  obtain ⟨i0, hi0, hz0, hz1, hz2⟩ := info_parts u8info
  have CM := Lib.hid (fun (V : World) (hB : Below w.heap.size w V) => may_any (⟨3, id, name, size, sum, at_, data, gaps, of_, code⟩ : Nt) D dn dc G gn gc V hd hg (hG.below hB))
  simp only [hno] at CM
  have hK := note_kind' hno
  simp only [kindOk] at hK
  have HD := Lib.hid hD
  have HG := Lib.hid hG
  have HN := Lib.hid hd
  have HM := Lib.hid hg
  clear hno hd hg hG hD hK
  unfold ntv at CM ⊢
  dsimp only at CM ⊢
  have b1 := Blk.new w 27 #[.int .i64 3, .int .i64 id, .string name, .int .i64 size, .int .i64 sum, .int .i64 at_, .slice D dn dc, .slice G gn gc, .int .i64 of_, .int .i64 code]
  have hB : Below w.heap.size w (w.alloc (.cells #[.int .i64 3, .int .i64 id, .string name, .int .i64 size, .int .i64 sum, .int .i64 at_, .slice D dn dc, .slice G gn gc, .int .i64 of_, .int .i64 code] 27)) := (Below.refl _ _).alloc (Nat.le_refl _) _
  go_enter Try.func11, Try.ntmps11
  go_wp2_with fail
  refine (CM.out _ hB).mono ?_
  rintro e w1 ⟨rfl, hb⟩
  replace b1 := b1.step hb
  replace hB := hB.trans (hb.mono hB.size)
  clear hb CM
  have x0 := b1.cell' (i := 0) rfl
  have x1 := b1.cell' (i := 1) rfl
  go_upto_region 4 with fail
  have e3 : (#[.int .u8 3, .int .u8 (id / 256 % 256), .int .u8 (id % 256)] : Array Value) = (bvs (hdB 3 id)).toArray := by
    show _ = #[bv (bOf 3), bv (bOf (id / 256)), bv (bOf id)]
    rw [← bv_mod, ← bv_mod, ← bv_mod]
    rfl
  have z1 : w.heap.size + 1 ≤ w1.heap.size := b1.lt
  have hO3 : Own (w1.alloc (.cells #[.int .u8 3, .int .u8 (id / 256 % 256), .int .u8 (id % 256)] 5)) (w.heap.size + 1) 5 1 (some ⟨w1.heap.size, 0, none⟩) 3 3 (bvs (hdB 3 id)) := by
    rw [e3]
    exact Own.of_block (heap_alloc_new w1 _) z1 rfl (Nat.le_refl _) (by unfold maxLen; omega) (by simp [hdB, bvs]) (fun i u h => by simpa using h)
  have hb3 := hB.alloc (by omega) (.cells #[.int .u8 3, .int .u8 (id / 256 % 256), .int .u8 (id % 256)] 5)
  have b3 := b1.alloc (.cells #[.int .u8 3, .int .u8 (id / 256 % 256), .int .u8 (id % 256)] 5)
  clear e3 b1 hB x0 x1
  generalize w1.alloc (.cells #[.int .u8 3, .int .u8 (id / 256 % 256), .int .u8 (id % 256)] 5) = W3 at *
  have x0 := b3.cell' (i := 0) rfl
  have x3 := b3.cell' (i := 3) rfl
  have x4 := b3.cell' (i := 4) rfl
  go_wp2_with fail
  have b4 := b3.alloc (.cells #[.int .i64 size, .int .i64 sum] 3)
  have hO4 := hO3.alloc (.cells #[.int .i64 size, .int .i64 sum] 3)
  have z3 := hb3.size
  have hb4 := hb3.alloc (by omega) (.cells #[.int .i64 size, .int .i64 sum] 3)
  have hR4 := Rd_lit W3 [.int .i64 size, .int .i64 sum] 3
  refine (put_any (w.heap.size + 1) (some ⟨w1.heap.size, 0, none⟩) 3 3 (hdB 3 id) (some ⟨W3.heap.size, 0, none⟩) 2 2 [size, sum] _ hO4 hR4 rfl (fun q hq => ?_) (by omega) (by omega) (by have := b4.lt; omega)).mono ?_
  · have e1 := Option.some.inj hq
    simp only at e1
    subst e1
    refine ⟨by simp, fun e2 => ?_⟩
    have e3 : w1.heap.size = W3.heap.size := Option.some.inj e2
    have e4 : w1.heap.size < W3.heap.size := (hO3.lt _ rfl).2
    omega
  rintro e w5 ⟨A5, c5, rfl, hO5, hg5, hor5⟩
  have eF : hdB 3 id ++ [size, sum].flatMap be4 = hdB 3 id ++ be4 size ++ be4 sum := by simp
  rw [eF] at hO5
  have HO5 := Lib.hid hO5
  clear eF hO5
  have hb5 := hb4.grown hg5 (by have := b4.lt; omega) (fun q hq => by have := (hO4.lt q hq).1; omega)
  clear b4 hO4 hR4 hb4 hg5 hor5
  go_wp2_with fail
  refine bodyPost_ret (v := .tuple #[.slice A5 11 c5, .int .i64 0]) (by simp [results, Try.results11, go_sem]) rfl ?_
  exact ⟨A5, c5, rfl, HO5.out.mono (by omega), hb5⟩
end Go.Proofs.Ytianombjgdmbeaa
