/-
  sameNotes of two slices that are the same; notes are written over by their owner.
-/
import Derived.Test.YtianombjgdmbeaaMDeliverGives3
import Derived.Test.YtianombjgdmbeaaMDeliverGives12
import Derived.Test.YtianombjgdmbeaaMDeliverGives27
import Derived.StillTail
import Derived.StillTactics
import Derived.StillTailTactics
namespace Go.Proofs.Ytianombjgdmbeaa
set_option linter.unusedSimpArgs false
set_option linter.unusedVariables false
open Go.RowKit

set_option maxHeartbeats 800000 in
set_option maxRecDepth 100000 in
/-- Bytes are written over by their owner, and grown: only the row that holds them turns. -/
theorem spoil_any (base : Nat) (A : Option Addr) (n c : Nat) (xs : List UInt8) (w : World) (hO : Own w base 5 1 A n c (bvs xs)) (hn : n ≤ 140737488351300) (hbase : base ≤ w.heap.size) :
    Calls Try.prog 20 #[.slice A n c] w fun e w' => e = .returned (.tuple #[]) ∧ w.grownBy w' (blk A) := by
  obtain ⟨i0, hi0, hz0, hz1, hz2⟩ := info_parts u8info
  go_enter Try.func20, Try.ntmps20
  go_wp2_with fail
  go_loopw [2] (fun i wr => ∃ (k : Nat) (ys : List UInt8), k ≤ n ∧ i = .int .i64 k ∧ Own wr base 5 1 A n c (bvs ys) ∧ w.grownBy wr (blk A)) (fun i _ => n - (intOf i).toNat)
  case atStart => exact ⟨0, xs, by omega, by simp, hO, World.grownBy.refl _ _⟩
  case round =>
    obtain ⟨k, ys, hk, rfl, hO', hg⟩ := hrel
    clear hO
    by_cases h5 : k < n
    · have hle := hO'.le
      obtain ⟨g, off, rfl, _, _⟩ := hO'.form (by omega)
      obtain ⟨x, hx, hc⟩ := hO'.byteAt h5
      have hf := hO'.frozen (off + k)
      have Hx := Lib.hid hx
      clear hx
      have hx256 := byte_lt x
      go_wp2
      go_roundw
      case rel =>
        refine ⟨k + 1, ys.set k (x ^^^ 90), by omega, by go_num, ?_, grown_setCell (p := ⟨g, off + k, none⟩) hg (.inl rfl) _⟩
        have e := xor_u8 x 90
        rw [show ((90 : UInt8).toNat : Int) = 90 from rfl] at e
        rw [e]
        exact hO'.setB h5 _
      case measure => simp [intOf]; omega
    · obtain rfl : k = n := by omega
      clear h5
      have h63 : k + 2 ≤ maxLen := by unfold maxLen; omega
      have hby : (k + 2) * 1 ≤ 140737488355328 := by omega
      have hsz : base ≤ (wr.alloc (.cells #[.int .u8 90, .int .u8 90] 5)).heap.size := by have := hg.size; simp; omega
      have hRn : Rd (wr.alloc (.cells #[.int .u8 90, .int .u8 90] 5)) (some ⟨wr.heap.size, 0, none⟩) (bvs [90, 90]) := Rd.of_block (heap_alloc_new wr _) (fun i u h => by simpa [bvs, bv] using h)
      have hOn := hO'.alloc (.cells #[.int .u8 90, .int .u8 90] 5)
      go_wp2_with (at_builtin; refine wpList_append_Own _ rfl (.tmp 17) (.tmp 18) 23 rfl base 5 i0 _ 1 1 Try.underlying23 hi0 hz0 hz1 hz2 rfl A k c (bvs ys) rfl hOn _ 2 2 (bvs [90, 90]) rfl rfl hRn (bvs_one _) h63 hby hsz ?_; intro A' c' w1 hO1 hg1 hor; have hle1 := hO1.le; obtain ⟨g1, off1, rfl, hb1, _⟩ := hO1.form (by omega); have hO2 : Own w1 base 5 1 (some ⟨g1, off1, none⟩) (k + 2) c' (bvs (ys ++ [90, 90])) := (bvs_append ys [90, 90]) ▸ hO1; obtain ⟨x1, hx1, hc1⟩ := hO2.byteAt (k := 0) (by omega); rw [Nat.add_zero] at hc1; have hf1 := hO1.frozen off1; clear hx1)
      go_end0
      refine ⟨rfl, ?_⟩
      have hg2 := grown_trans (grown_alloc hg _) hg1 (.inl rfl)
      rcases hor with e | e
      · rw [← e] at hg2 ⊢
        exact grown_setCell hg2 (.inl rfl) _
      · have e2 : g1 = (wr.alloc (.cells #[.int .u8 90, .int .u8 90] 5)).heap.size := by simpa [blk] using e
        have hge : w.heap.size ≤ g1 := by have := hg.size; rw [e2]; simp; omega
        have h3 : (blk A = none) ∨ ∃ g, blk A = some g := by cases blk A <;> simp
        rcases h3 with h3 | ⟨g, h3⟩
        · rw [h3] at hg2 ⊢
          exact grownBy_below ((below_of_grown hg2).setCell hge _) _
        · rw [h3] at hg2 ⊢
          exact grown_setCell hg2 (.inr hge) _
end Go.Proofs.Ytianombjgdmbeaa
namespace Go.Proofs.Ytianombjgdmbeaa
set_option linter.unusedSimpArgs false
set_option linter.unusedVariables false
open Go.RowKit

set_option maxHeartbeats 6400000 in
set_option maxRecDepth 100000 in
theorem sameNotes_yes (l m : List NtR) (N : List Nt) (B C : Option Addr) (n c d : Nat) (w : World) (hl : l.map NtR.n = N) (hm : m.map NtR.n = N) (hn : N.length = n) (h : RdNotes w B l) (h' : RdNotes w C m) (hf : ∀ x ∈ N, NoteFits x) (hnn : n ≤ 1099511627000) :
    Calls Try.prog 53 #[.slice B n c, .slice C n d] w fun e w' => e = .returned (.bool true) ∧ Below w.heap.size w w' := by
  have HN := Lib.hid hn
  have HRd := Lib.hid h
  have HRd' := Lib.hid h'
  clear hn h h'
  go_enter Try.func53, Try.ntmps53
  go_wp2_with fail
  go_loopw [5] (fun iv wr => ∃ i : Nat, i ≤ n ∧ iv = .int .i64 (i : Int) ∧ Below w.heap.size w wr) (fun iv _ => n - (intOf iv).toNat)
  case atStart => exact ⟨0, Nat.zero_le _, rfl, Below.refl _ _⟩
  case round =>
    obtain ⟨i, hi, rfl, hB⟩ := hrel
    by_cases h5 : i < n
    · have h5i : (i : Int) < (n : Int) := by omega
      have hip : (0 : Int) ≤ (i : Int) := by omega
      have hiL : i < N.length := by rw [HN.out]; exact h5
      obtain ⟨xD, xdc, xG, xgc, hx⟩ := nt_at hl hiL
      obtain ⟨yD, ydc, yG, ygc, hy⟩ := nt_at hm hiL
      have hff := hf _ (List.getElem_mem hiL)
      have hRx := HRd.out.below hB
      have hRy := HRd'.out.below hB
      generalize N[i] = nx at *
      have hxp := hRx.2 i _ hx
      have hyp := hRy.2 i _ hy
      dsimp only at hxp hyp
      have CS := Lib.hid (sameNote_yes nx xD yD nx.data.length xdc ydc xG yG nx.gaps.length xgc ygc wr.drew rfl rfl (by have := hff.1; omega) (by have := hff.2; omega) hxp.1.drew hyp.1.drew hxp.2.drew hyp.2.drew)
      obtain ⟨g, o, rfl, -⟩ := hRx.1 (i * 10 + 0) _ ((nts_get hx (j := 0) (by omega)).trans rfl)
      obtain ⟨g', o', rfl, -⟩ := hRy.1 (i * 10 + 0) _ ((nts_get hy (j := 0) (by omega)).trans rfl)
      have hcx : wr.rangeAt g (o + i * 10) (ncs ⟨nx, xD, xdc, xG, xgc⟩) := fun j v hv => by
        have hj : j < 10 := (List.getElem?_eq_some_iff.1 hv).1
        rw [Nat.add_assoc]
        exact hRx.1.cell ((nts_get hx hj).trans hv)
      have hcy : wr.rangeAt g' (o' + i * 10) (ncs ⟨nx, yD, ydc, yG, ygc⟩) := fun j v hv => by
        have hj : j < 10 := (List.getElem?_eq_some_iff.1 hv).1
        rw [Nat.add_assoc]
        exact hRy.1.cell ((nts_get hy hj).trans hv)
      clear hRx hRy hx hy hxp hyp hff
      have x0 : wr.cell? ⟨g, o + i * 10, none⟩ = some (.int .i64 nx.kind) := hcx 0 _ rfl
      have y0 : wr.cell? ⟨g', o' + i * 10, none⟩ = some (.int .i64 nx.kind) := hcy 0 _ rfl
      have x1 : wr.cell? ⟨g, o + i * 10 + 1, none⟩ = some (.int .i64 nx.id) := hcx 1 _ rfl
      have y1 : wr.cell? ⟨g', o' + i * 10 + 1, none⟩ = some (.int .i64 nx.id) := hcy 1 _ rfl
      have x2 : wr.cell? ⟨g, o + i * 10 + 2, none⟩ = some (.string nx.name) := hcx 2 _ rfl
      have y2 : wr.cell? ⟨g', o' + i * 10 + 2, none⟩ = some (.string nx.name) := hcy 2 _ rfl
      have x3 : wr.cell? ⟨g, o + i * 10 + 3, none⟩ = some (.int .i64 nx.size) := hcx 3 _ rfl
      have y3 : wr.cell? ⟨g', o' + i * 10 + 3, none⟩ = some (.int .i64 nx.size) := hcy 3 _ rfl
      have x4 : wr.cell? ⟨g, o + i * 10 + 4, none⟩ = some (.int .i64 nx.sum) := hcx 4 _ rfl
      have y4 : wr.cell? ⟨g', o' + i * 10 + 4, none⟩ = some (.int .i64 nx.sum) := hcy 4 _ rfl
      have x5 : wr.cell? ⟨g, o + i * 10 + 5, none⟩ = some (.int .i64 nx.at_) := hcx 5 _ rfl
      have y5 : wr.cell? ⟨g', o' + i * 10 + 5, none⟩ = some (.int .i64 nx.at_) := hcy 5 _ rfl
      have x8 : wr.cell? ⟨g, o + i * 10 + 8, none⟩ = some (.int .i64 nx.of_) := hcx 8 _ rfl
      have y8 : wr.cell? ⟨g', o' + i * 10 + 8, none⟩ = some (.int .i64 nx.of_) := hcy 8 _ rfl
      have x9 : wr.cell? ⟨g, o + i * 10 + 9, none⟩ = some (.int .i64 nx.code) := hcx 9 _ rfl
      have y9 : wr.cell? ⟨g', o' + i * 10 + 9, none⟩ = some (.int .i64 nx.code) := hcy 9 _ rfl
      have x6 : wr.cell? ⟨g, o + i * 10 + 6, none⟩ = some (.slice xD nx.data.length xdc) := hcx 6 _ rfl
      have x7 : wr.cell? ⟨g, o + i * 10 + 7, none⟩ = some (.slice xG nx.gaps.length xgc) := hcx 7 _ rfl
      have y6 : wr.cell? ⟨g', o' + i * 10 + 6, none⟩ = some (.slice yD nx.data.length ydc) := hcy 6 _ rfl
      have y7 : wr.cell? ⟨g', o' + i * 10 + 7, none⟩ = some (.slice yG nx.gaps.length ygc) := hcy 7 _ rfl
      clear hcx hcy
      unfold ntv at CS
      go_wp2_with fail
      go_still_tail 8, (by kernel_rfl)
      go_wp2_with fail
      refine (CS.out).mono ?_
      rintro e w1 ⟨rfl, hb1⟩
      have hb1' : Below wr.heap.size wr w1 := ((Below.refl wr.heap.size wr).drew).trans hb1
      have hB' := hB.trans (hb1'.mono hB.size)
      clear x0 x1 x2 x3 x4 x5 x6 x7 x8 x9 y0 y1 y2 y3 y4 y5 y6 y7 y8 y9 CS hb1 hb1' hB
      go_wp2_with fail
      go_roundw
      case rel => exact ⟨i + 1, by omega, by go_num, hB'⟩
      case measure => simp [intOf]; omega
    · have h5i : ¬ (i : Int) < (n : Int) := by omega
      go_wp2_with fail
      go_ret
      exact ⟨rfl, hB⟩
end Go.Proofs.Ytianombjgdmbeaa
