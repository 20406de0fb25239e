/-
  The bytes of notes of kind 4, by the program.
-/
import Derived.Test.YtianombjgdmbeaaNoteR5
import Derived.Test.YtianombjgdmbeaaAppS
import Derived.Test.YtianombjgdmbeaaHeld2
import Derived.Test.YtianombjgdmbeaaBlkRow
import Derived.Test.YtianombjgdmbeaaNoteZ
namespace Go.Proofs.Ytianombjgdmbeaa
set_option linter.unusedSimpArgs false
set_option linter.unusedVariables false
open Go.RowKit
theorem pairsz : (Try.prog.info? 66).map (·.size) = some 2 := by kernel_rfl

set_option maxHeartbeats 3200000 in
set_option maxRecDepth 100000 in
theorem ebytes_4 (id : Int) (name : ByteArray) (size sum at_ : Int) (data : List UInt8) (gaps : List (Int × Int)) (of_ code : Int) (D : Option Addr) (dn dc : Nat) (G : Option Addr) (gn gc : Nat) (w : World) (hd : data.length = dn) (hg : gaps.length = gn) (hG : Rd w G (gps gaps)) (hD : Rd w D (bvs data)) (hdn : dn ≤ 140737488351232) (hgn : gn ≤ 8796093022200) (hno : noteOk (⟨4, id, name, size, sum, at_, data, gaps, of_, code⟩ : Nt) = true) :
    Calls Try.prog 11 #[ntv (⟨4, id, name, size, sum, at_, data, gaps, of_, code⟩ : Nt) D dn dc G gn gc] w fun e w' => ∃ A c, e = .returned (.tuple #[.slice A (3 + 8 * gn) c, .int .i64 0]) ∧ Own w' w.heap.size 5 1 A (3 + 8 * gn) c (bvs (hdB 4 id ++ gaps.flatMap gapB)) ∧ Below w.heap.size w w' := by
  obtain ⟨i0, hi0, hz0, hz1, hz2⟩ := info_parts u8info
  have CM := Lib.hid (fun (V : World) (hB : Below w.heap.size w V) => may_any (⟨4, id, name, size, sum, at_, data, gaps, of_, code⟩ : Nt) D dn dc G gn gc V hd hg (hG.below hB))
  simp only [hno] at CM
  have hK := note_kind' hno
  simp only [kindOk] at hK
  have hgl : gn ≤ 20 := by simp at hK; omega
  have HD := Lib.hid hD
  have HG := Lib.hid hG
  have HN := Lib.hid hd
  have HM := Lib.hid hg
  clear hno hd hg hG hD hK
  unfold ntv at CM ⊢
  dsimp only at CM ⊢
  have b1 := Blk.new w 27 #[.int .i64 4, .int .i64 id, .string name, .int .i64 size, .int .i64 sum, .int .i64 at_, .slice D dn dc, .slice G gn gc, .int .i64 of_, .int .i64 code]
  have hB : Below w.heap.size w (w.alloc (.cells #[.int .i64 4, .int .i64 id, .string name, .int .i64 size, .int .i64 sum, .int .i64 at_, .slice D dn dc, .slice G gn gc, .int .i64 of_, .int .i64 code] 27)) := (Below.refl _ _).alloc (Nat.le_refl _) _
  go_enter Try.func11, Try.ntmps11
  go_wp2_with fail
  refine (CM.out _ hB).mono ?_
  rintro e w1 ⟨rfl, hb⟩
  replace b1 := b1.step hb
  replace hB := hB.trans (hb.mono hB.size)
  clear hb CM
  have x0 := b1.cell' (i := 0) rfl
  have x1 := b1.cell' (i := 1) rfl
  go_upto_region 4 with fail
  have e3 : (#[.int .u8 4, .int .u8 (id / 256 % 256), .int .u8 (id % 256)] : Array Value) = (bvs (hdB 4 id)).toArray := by
    show _ = #[bv (bOf 4), bv (bOf (id / 256)), bv (bOf id)]
    rw [← bv_mod, ← bv_mod, ← bv_mod]
    rfl
  have z1 : w.heap.size + 1 ≤ w1.heap.size := b1.lt
  have hO3 : Own (w1.alloc (.cells #[.int .u8 4, .int .u8 (id / 256 % 256), .int .u8 (id % 256)] 5)) (w.heap.size + 1) 5 1 (some ⟨w1.heap.size, 0, none⟩) 3 3 (bvs (hdB 4 id)) := by
    rw [e3]
    exact Own.of_block (heap_alloc_new w1 _) z1 rfl (Nat.le_refl _) (by unfold maxLen; omega) (by simp [hdB, bvs]) (fun i u h => by simpa using h)
  have hb3 := hB.alloc (by omega) (.cells #[.int .u8 4, .int .u8 (id / 256 % 256), .int .u8 (id % 256)] 5)
  have b3 := b1.alloc (.cells #[.int .u8 4, .int .u8 (id / 256 % 256), .int .u8 (id % 256)] 5)
  clear e3 b1 hB x0 x1
  generalize w1.alloc (.cells #[.int .u8 4, .int .u8 (id / 256 % 256), .int .u8 (id % 256)] 5) = W3 at *
  have x0 := b3.cell' (i := 0) rfl
  have x7 := b3.cell' (i := 7) rfl
  go_wp2_with fail
  clear x0 x7 b3
  go_loopw [4, 57] (fun av iv wr => ∃ (i : Nat) (A1 : Option Addr) (c1 : Nat), i ≤ gn ∧ av = .slice A1 (3 + 8 * i) c1 ∧ iv = .int .i64 (i : Int) ∧ Own wr (w.heap.size + 1) 5 1 A1 (3 + 8 * i) c1 (bvs (hdB 4 id ++ (gaps.take i).flatMap gapB)) ∧ Below w.heap.size w wr ∧ w.heap.size + 1 ≤ wr.heap.size) (fun _ iv _ => gn - (intOf iv).toNat)
  case atStart => exact ⟨0, some ⟨w1.heap.size, 0, none⟩, 3, Nat.zero_le _, rfl, rfl, by simpa using hO3, hb3, by have := (hO3.lt _ rfl).2; have := (hO3.lt _ rfl).1; omega⟩
  case round =>
    clear hO3 hb3
    obtain ⟨i, A1, c1, hi, rfl, rfl, hO, hb, hz⟩ := hrel
    by_cases h5 : i < gn
    · have h5i : (i : Int) < (gn : Int) := by omega
      have hip : (0 : Int) ≤ (i : Int) := by omega
      have hiz : i < gaps.length := by rw [HM.out]; exact h5
      obtain ⟨x, hx⟩ : ∃ x, gaps[i]? = some x := ⟨_, List.getElem?_eq_getElem hiz⟩
      have HT : Hid (gaps.take (i + 1) = gaps.take i ++ [x]) := Lib.hid (by rw [List.take_add_one, hx]; rfl)
      obtain ⟨g, o, rfl, f0, f1⟩ := rdgap_cells (HG.out.below hb) hx
      clear hx hiz
      obtain ⟨p1, p2⟩ := x
      dsimp only at f0 f1 HT
      go_wp2_with fail
      have hO4 := hO.alloc (.cells #[.int .i64 p1, .int .i64 p2] 66)
      have hb4 := hb.alloc (by omega) (.cells #[.int .i64 p1, .int .i64 p2] 66)
      have hR4 := Rd_lit wr [.int .i64 p1, .int .i64 p2] 66
      have z4 : w.heap.size + 1 ≤ (wr.alloc (.cells #[.int .i64 p1, .int .i64 p2] 66)).heap.size := by simp; omega
      refine (put_any (w.heap.size + 1) A1 (3 + 8 * i) c1 _ (some ⟨wr.heap.size, 0, none⟩) 2 2 [p1, p2] _ hO4 hR4 rfl (fun q hq => ?_) (by omega) (by omega) z4).mono ?_
      · have e1 := Option.some.inj hq
        simp only at e1
        subst e1
        refine ⟨by simp, fun e2 => ?_⟩
        have e4 : wr.heap.size < wr.heap.size := (hO.lt _ e2).2
        omega
      rintro e w5 ⟨A5, c5, rfl, hO5, hg5, hor5⟩
      have hb5 := hb4.grown hg5 (by omega) (fun q hq => by have := (hO4.lt q hq).1; omega)
      have z5 : w.heap.size + 1 ≤ w5.heap.size := by have := hg5.size; omega
      have HO5 := Lib.hid hO5
      clear hO5 hb4 hR4 hO4 hor5
      go_wp2_with fail
      go_roundw
      case rel =>
        refine ⟨i + 1, A5, c5, by omega, by rw [show 3 + 8 * (i + 1) = 3 + 8 * i + 4 * 2 by omega], by go_num, ?_, hb5, z5⟩
        rw [show 3 + 8 * (i + 1) = 3 + 8 * i + 4 * 2 by omega, HT.out, List.flatMap_append, List.flatMap_singleton]
        have := HO5.out
        simpa [gapB, List.append_assoc] using this
      case measure => simp [intOf]; omega
    · obtain rfl : i = gn := by omega
      have h5i : ¬ (i : Int) < (i : Int) := by omega
      go_wp2_with fail
      refine bodyPost_ret (v := .tuple #[.slice A1 (3 + 8 * i) c1, .int .i64 0]) (by simp [results, Try.results11, go_sem]) rfl ?_
      have e : gaps.take i = gaps := List.take_of_length_le (by rw [HM.out]; omega)
      rw [e] at hO
      exact ⟨A1, c1, rfl, hO.mono (by omega), hb⟩
end Go.Proofs.Ytianombjgdmbeaa
