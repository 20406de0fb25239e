/-
  Slices of Booleans. Which bytes have come (has).
-/
import Derived.Test.YtianombjgdmbeaaMDeliverTakes1
import Derived.Test.YtianombjgdmbeaaMDeliverTakes2
import Derived.Test.YtianombjgdmbeaaMDeliverTakes17
import Derived.Test.YtianombjgdmbeaaMDeliverTakes8
import Derived.Deep.DeepCutAuto
namespace Go.Proofs.Ytianombjgdmbeaa
set_option linter.unusedSimpArgs false
set_option linter.unusedVariables false
open Go.RowKit

def obv (b : Bool) : Value := .bool b
def obs (l : List Bool) : List Value := l.map obv
theorem obs_len (l : List Bool) : (obs l).length = l.length := by simp [obs]
theorem obs_one (l : List Bool) : ∀ u ∈ obs l, u.oneCell' = true := by
  intro u hu
  simp only [obs, List.mem_map] at hu
  obtain ⟨x, _, rfl⟩ := hu
  rfl
theorem obs_get {l : List Bool} {k : Nat} {b : Bool} (h : l[k]? = some b) : (obs l)[k]? = some (.bool b) := by simp [obs, obv, h]
theorem made_getB (z : Value) (hz : z.oneCell' = true) (n i : Nat) (h : i < n) : (madeCells #[z] n)[i]? = some z := by
  have e := toList_madeCells_one z n
  rw [← Array.getElem?_toList, e]
  simp [h]
theorem Own.madeB (w : World) (n : Nat) (hc : n ≤ maxLen) : Own (w.alloc (.cells (madeCells #[.bool false] n) 4)) w.heap.size 4 1 (some ⟨w.heap.size, 0, none⟩) n n (obs (List.replicate n false)) := by
  refine Own.of_block (heap_alloc_new w _) (Nat.le_refl _) (by simp [obs]) (Nat.le_refl _) hc (by simp [size_madeCells]) fun i u h => ?_
  have hi : i < n := by
    rcases Nat.lt_or_ge i n with h1 | h1
    · exact h1
    · rw [List.getElem?_eq_none (by simpa [obs] using h1)] at h; cases h
  rw [made_getB _ rfl n i hi, ← h]
  simp [obs, obv, hi]
theorem boolinfoB : (Try.prog.info? 4).map (fun i => (i.zero, i.size, i.bytes)) = some (some (.bool false), 1, 1) := by kernel_rfl
theorem make_boolsB (n : Nat) (h : n ≤ 140737488351300) (w : World) : (Instr.makeSlice 103 (.int .i64 (n : Int)) (.int .i64 (n : Int))).run Try.prog w = .ok (.slice (some ⟨w.heap.size, 0, none⟩) n n) (w.alloc (.cells (madeCells #[.bool false] n) 4)) := by
  obtain ⟨i0, hi0, hz0, hz1, hz2⟩ := info_parts boolinfoB
  have := run_make_rowN (P := Try.prog) 103 4 i0 (.bool false) Try.underlying103 hi0 hz0 .i64 .i64 n n (Nat.le_refl _) (by rw [hz2]; omega) (by omega) w
  rw [this, hz1, Nat.mul_one]
  rfl
theorem Own.setBo {w : World} {base g off n c k : Nat} {l : List Bool} (h : Own w base 4 1 (some ⟨g, off, none⟩) n c (obs l)) (hk : k < n) (b : Bool) : Own (w.setCell ⟨g, off + k, none⟩ (.bool b)) base 4 1 (some ⟨g, off, none⟩) n c (obs (l.set k b)) := by
  have := h.set k (by omega) (obv b)
  rwa [show (obs l).set k (obv b) = obs (l.set k b) from by simp [obs, List.map_set]] at this
theorem range_set {α : Type} (f : Nat → α) (n k : Nat) (v : α) : ((List.range n).map f).set k v = (List.range n).map (fun j => if j = k then v else f j) := by
  apply List.ext_getElem?
  intro j
  rw [List.getElem?_map]
  by_cases hj : j < n
  · by_cases e : k = j
    · subst e
      rw [List.getElem?_set_self (by simpa using hj), List.getElem?_range hj]
      simp
    · rw [List.getElem?_set_ne e, List.getElem?_map, List.getElem?_range hj]
      simp [Ne.symm e]
  · rw [List.getElem?_eq_none (by simpa using hj), List.getElem?_eq_none (l := List.range n) (by simpa using hj)]
    rfl
theorem range_get {α : Type} (f : Nat → α) {n k : Nat} (h : k < n) : ((List.range n).map f)[k]? = some (f k) := by rw [List.getElem?_map, List.getElem?_range h]; rfl
theorem range_false (n : Nat) (f : Nat → Bool) (h : ∀ i, i < n → f i = false) : (List.range n).map f = List.replicate n false := by
  apply List.ext_getElem?
  intro j
  by_cases hj : j < n
  · rw [range_get f hj, h j hj, List.getElem?_replicate, if_pos hj]
  · rw [List.getElem?_eq_none (by simpa using hj), List.getElem?_eq_none (by simpa using hj)]
end Go.Proofs.Ytianombjgdmbeaa
namespace Go.Proofs.Ytianombjgdmbeaa
set_option linter.unusedSimpArgs false
set_option linter.unusedVariables false
open Go.RowKit

def hasL (l : List (Int × Int)) (n : Nat) : List Bool := (List.range n).map (inR l)
/-- Rows that have been marked, and a part of one more. -/
def hasP (l : List (Int × Int)) (n : Nat) (a k : Int) : List Bool := (List.range n).map fun j => inR l j || decide (a ≤ (j : Int) ∧ (j : Int) < k)
theorem hasP_start (l : List (Int × Int)) (n : Nat) (a : Int) : hasP l n a a = hasL l n := by
  unfold hasP hasL
  congr 1
  funext j
  rw [decide_eq_false (by omega), Bool.or_false]
theorem hasP_step (l : List (Int × Int)) (n : Nat) (a k : Int) (h : a ≤ k) (h0 : 0 ≤ a) : (hasP l n a k).set k.toNat true = hasP l n a (k + 1) := by
  unfold hasP
  rw [range_set]
  congr 1
  funext j
  by_cases e : j = k.toNat
  · rw [if_pos e, decide_eq_true (by omega), Bool.or_true]
  · rw [if_neg e]
    congr 1
    rw [decide_eq_decide]
    omega
theorem hasP_end {l : List (Int × Int)} {n : Nat} {g : Int × Int} {k : Int} (h : (g.1 ≤ k ∧ k < g.2 ∧ (n : Int) ≤ k) ∨ (g.1 ≤ k ∧ k = g.2) ∨ (k = g.1 ∧ g.2 ≤ k)) : hasP l n g.1 k = hasL (l ++ [g]) n := by
  unfold hasP hasL
  apply List.map_congr_left
  intro j hj
  have hj := List.mem_range.1 hj
  rw [inR_snoc]
  congr 1
  unfold inG
  rw [decide_eq_decide]
  omega
theorem hasP_len (l : List (Int × Int)) (n : Nat) (a k : Int) : (hasP l n a k).length = n := by simp [hasP]
theorem hasL_len (l : List (Int × Int)) (n : Nat) : (hasL l n).length = n := by simp [hasL]
theorem hasL_nil (n : Nat) : hasL [] n = List.replicate n false := range_false n _ (fun _ _ => rfl)
set_option maxHeartbeats 3200000 in
set_option maxRecDepth 100000 in
theorem has_any (l : List (Int × Int)) (A : Option Addr) (an ac n : Nat) (w : World) (hl : l.length = an) (hA : Rd w A (gps l)) (han : an ≤ 8796093022200) (hn : n ≤ 140737488351300) (h0 : ∀ g ∈ l, (0 : Int) ≤ g.1) :
    Calls Try.prog 75 #[.slice A an ac, .int .i64 (n : Int)] w fun e w' => e = .returned (.slice (some ⟨w.heap.size, 0, none⟩) n n) ∧ Own w' w.heap.size 4 1 (some ⟨w.heap.size, 0, none⟩) n n (obs (hasL l n)) ∧ Below w.heap.size w w' := by
  have hmk := make_boolsB n hn
  have HA := Lib.hid hA
  have HL := Lib.hid hl
  have H0 := Lib.hid h0
  have hO := Own.madeB w n (by unfold maxLen; omega)
  rw [← hasL_nil, show ([] : List (Int × Int)) = l.take 0 by simp] at hO
  have hB : Below w.heap.size w (w.alloc (.cells (madeCells #[.bool false] n) 4)) := (Below.refl _ _).alloc (Nat.le_refl _) _
  clear hA hl h0
  go_enter Try.func75, Try.ntmps75
  go_upto_region 2 with fail
  generalize w.alloc (.cells (madeCells #[.bool false] n) 4) = W at *
  go_wp2_with fail
  go_loopw [6] (fun i wr => ∃ k : Nat, k ≤ an ∧ i = .int .i64 k ∧ Own wr w.heap.size 4 1 (some ⟨w.heap.size, 0, none⟩) n n (obs (hasL (l.take k) n)) ∧ Below w.heap.size w wr) (fun i _ => an - (intOf i).toNat)
  case atStart => exact ⟨0, by omega, by simp, hO, hB⟩
  case round =>
    obtain ⟨k, hk, rfl, hO1, hB1⟩ := hrel
    clear hO hB
    obtain ⟨W1, rfl⟩ : ∃ W1 : World, W1 = wr := ⟨_, rfl⟩
    by_cases h5 : k < an
    · have h5i : (k : Int) < (an : Int) := by omega
      have hip : (0 : Int) ≤ (k : Int) := by omega
      obtain ⟨g, hg⟩ : ∃ g, l[k]? = some g := ⟨_, List.getElem?_eq_getElem (by rw [HL.out]; exact h5)⟩
      obtain ⟨gb, o, rfl, f0, f1⟩ := rdgap_cells (HA.out.below hB1) hg
      have hgl : gb < w.heap.size := by
        obtain ⟨b', o', e, hc⟩ := HA.out (k * 2 + 0) _ ((gps_get hg (j := 0) (by omega)).trans rfl)
        injection e with e
        injection e with e1 e2
        subst e1
        exact World.block_lt_of_cell? _ _ hc
      have g0 := H0.out g (List.mem_of_getElem? hg)
      have HTK : Hid (l.take (k + 1) = l.take k ++ [g]) := Lib.hid (by rw [List.take_add_one, hg]; rfl)
      clear hg
      obtain ⟨ga, gz⟩ := g
      dsimp only at f0 f1 g0
      have hst := hasP_start (l.take k) n ga
      rw [← hst] at hO1
      clear hst
      trace "A"
      go_wp2_with fail
      trace "B"
      go_loopw [7] (fun j wr => ∃ m : Int, ga ≤ m ∧ (m ≤ gz ∨ m = ga) ∧ j = .int .i64 m ∧ Own wr w.heap.size 4 1 (some ⟨w.heap.size, 0, none⟩) n n (obs (hasP (l.take k) n ga m)) ∧ Below w.heap.size w wr) (fun j _ => n - (intOf j).toNat)
      case atStart => exact ⟨ga, by omega, .inr rfl, rfl, hO1, hB1⟩
      case round =>
        obtain ⟨m, hm1, hm2, rfl, hO2, hB2⟩ := hrel
        have hmi : (0 : Int) ≤ m := by omega
        obtain ⟨mn, rfl⟩ : ∃ mn : Nat, m = (mn : Int) := ⟨m.toNat, by omega⟩
        by_cases hz : (mn : Int) < gz
        · by_cases hmn : (mn : Int) < (n : Int)
          · have hmnn : mn < n := by omega
            have hst := hO2.setBo hmnn true
            rw [show (hasP (l.take k) n ga (mn : Int)).set mn true = hasP (l.take k) n ga ((mn : Int) + 1) from hasP_step _ _ _ _ hm1 g0] at hst
            rw [Nat.zero_add] at hst
            have hfz := hO2.frozen mn
            have hBs := hB2.setCell (p := ⟨w.heap.size, mn, none⟩) (Nat.le_refl _) (.bool true)
            obtain ⟨u, hu⟩ : ∃ u, wr.cell? ⟨w.heap.size, mn, none⟩ = some u := by
              have := hO2.cell (i := mn) (u := obv _) (List.getElem?_eq_getElem (by rw [obs_len, hasP_len]; exact hmnn) |>.trans (by unfold obs; rw [List.getElem_map]))
              rw [Nat.zero_add] at this
              exact ⟨_, this⟩
            have f1' : wr.cell? ⟨gb, o + k * 2 + 1, none⟩ = some (.int .i64 gz) := (World.cell?_of_block (w := W1) (a := ⟨gb, o + k * 2 + 1, none⟩) ((hB2.block gb hgl).trans (hB1.block gb hgl).symm)).trans f1
            trace "D"
            go_wp2_with fail
            trace "E"
            go_roundw
            case rel => exact ⟨(mn : Int) + 1, by omega, .inl (by omega), by go_num, hst, hBs⟩
            case measure => simp [intOf]; omega
          · have f1' : wr.cell? ⟨gb, o + k * 2 + 1, none⟩ = some (.int .i64 gz) := (World.cell?_of_block (w := W1) (a := ⟨gb, o + k * 2 + 1, none⟩) ((hB2.block gb hgl).trans (hB1.block gb hgl).symm)).trans f1
            rw [hasP_end (g := (ga, gz)) (.inl ⟨hm1, hz, by omega⟩), ← HTK.out] at hO2
            clear hO1 hm1 hm2
            trace "F"
            go_wp2_with fail
            trace "G"
            go_roundw
            case rel => exact ⟨k + 1, by omega, by go_num, hO2, hB2⟩
            case measure => simp [intOf]; omega
        · have f1' : wr.cell? ⟨gb, o + k * 2 + 1, none⟩ = some (.int .i64 gz) := (World.cell?_of_block (w := W1) (a := ⟨gb, o + k * 2 + 1, none⟩) ((hB2.block gb hgl).trans (hB1.block gb hgl).symm)).trans f1
          rw [hasP_end (g := (ga, gz)) (by show (ga ≤ (mn : Int) ∧ (mn : Int) < gz ∧ (n : Int) ≤ mn) ∨ (ga ≤ (mn : Int) ∧ (mn : Int) = gz) ∨ ((mn : Int) = ga ∧ gz ≤ mn); omega), ← HTK.out] at hO2
          clear hO1 hm1 hm2
          go_wp2_with fail
          go_roundw
          case rel => exact ⟨k + 1, by omega, by go_num, hO2, hB2⟩
          case measure => simp [intOf]; omega
    · obtain rfl : k = an := by omega
      have e : l.take k = l := List.take_of_length_le (by rw [HL.out]; omega)
      rw [e] at hO1
      clear e h5 hk
      go_wp2_with fail
      go_ret
      exact ⟨rfl, hO1, hB1⟩
end Go.Proofs.Ytianombjgdmbeaa
