/-
  The longest rows of bytes that have come, or have not (rowsIn). Which taker may be, by the document (TakerMay).
-/
import Derived.Test.YtianombjgdmbeaaMDeliverTakes34
import Derived.Test.YtianombjgdmbeaaMDeliverTakes33
import Derived.Test.YtianombjgdmbeaaMDeliverTakes3
import Derived.Test.YtianombjgdmbeaaMDeliverTakes2
import Derived.BigGuardPart
namespace Go.Proofs.Ytianombjgdmbeaa
set_option linter.unusedSimpArgs false
set_option linter.unusedVariables false
open Go.RowKit

theorem pairinfoR : (Try.prog.info? 66).map (fun i => (i.zero, i.size, i.bytes)) = some (some (.agg #[.int .i64 0, .int .i64 0]), 2, 16) := by kernel_rfl
theorem rowStep_len (l : List (Int × Int)) (i : Nat) : (rowStep l i).length ≤ l.length + 1 := by
  rcases nil_or_snoc l with e | ⟨m, g, e⟩
  · subst e
    simp [rowStep_nil]
  · subst e
    rw [rowStep_snoc]
    split <;> simp
theorem rowsF_len (f : Nat → Bool) : ∀ n, (rowsF f n).length ≤ n
  | 0 => by simp [rowsF]
  | n + 1 => by
    have h := rowsF_len f n
    unfold rowsF
    split
    · have := rowStep_len (rowsF f n) n; omega
    · omega
theorem gps_snoc (l : List (Int × Int)) (a b : Int) : gps (l ++ [(a, b)]) = gps l ++ [.int .i64 a, .int .i64 b] := by simp [gps, gpc]
theorem gps_set2 (l : List (Int × Int)) (a b c : Int) : (gps (l ++ [(a, b)])).set (l.length * 2 + 1) (.int .i64 c) = gps (l ++ [(a, c)]) := by
  unfold gps
  rw [fm_set gpc_len (l ++ [(a, b)]) l.length (a, b) (a, c) 1 (.int .i64 c) (by simp) (by omega) rfl]
  simp
set_option maxHeartbeats 3200000 in
set_option maxRecDepth 100000 in
theorem rowsIn_any (bs : List Bool) (come : Bool) (A : Option Addr) (n ac : Nat) (w : World) (hl : bs.length = n) (hA : Rd w A (obs bs)) (hn : n ≤ 1048576) (f : Nat → Bool) (hf : ∀ (i : Nat) (b : Bool), bs[i]? = some b → f i = (b == come)) :
    Calls Try.prog 74 #[.slice A n ac, .bool come] w fun e w' => ∃ R rc, e = .returned (.slice R (rowsF f n).length rc) ∧ Own w' w.heap.size 66 2 R (rowsF f n).length rc (gps (rowsF f n)) ∧ Below w.heap.size w w' := by
  obtain ⟨j0, hj0, hy0, hy1, hy2⟩ := info_parts pairinfoR
  have HA := Lib.hid hA
  have HL := Lib.hid hl
  have HF := Lib.hid hf
  clear hA hl hf
  go_enter Try.func74, Try.ntmps74
  go_wp2_with fail
  go_loopw [5, 6] (fun a i wr => ∃ (k : Nat) (R : Option Addr) (rc : Nat), k ≤ n ∧ i = .int .i64 k ∧ a = .slice R (rowsF f k).length rc ∧ Own wr w.heap.size 66 2 R (rowsF f k).length rc (gps (rowsF f k)) ∧ Below w.heap.size w wr) (fun a i _ => n - (intOf i).toNat)
  case atStart => exact ⟨0, none, 0, by omega, by simp, rfl, Own.none_ _ _ _ _, Below.refl _ _⟩
  case round =>
    obtain ⟨k, R, rc, hk, rfl, rfl, hO, hB⟩ := hrel
    have hlen := rowsF_len f k
    by_cases h5 : k < n
    · have h5i : (k : Int) < (n : Int) := by omega
      have hip : (0 : Int) ≤ (k : Int) := by omega
      obtain ⟨b, hb⟩ : ∃ b, bs[k]? = some b := ⟨_, List.getElem?_eq_getElem (by rw [HL.out]; exact h5)⟩
      obtain ⟨gb, o, rfl, f0⟩ := HA.out.below hB k (.bool b) (obs_get hb)
      have HFK : Hid (f k = (b == come)) := Lib.hid (HF.out k b hb)
      clear hb
      trace "A"
      by_cases hbc : b = come
      rotate_left
      · have hbc2 : (b != come) = true := by cases b <;> cases come <;> simp_all
        have e : rowsF f (k + 1) = rowsF f k := by
          show (if f k = true then _ else _) = _
          rw [if_neg (by rw [HFK.out]; cases b <;> cases come <;> simp_all)]
        rw [← e] at hO ⊢
        obtain ⟨L, hL⟩ : ∃ L, rowsF f (k + 1) = L := ⟨_, rfl⟩
        rw [hL] at hO ⊢
        have HLL := Lib.hid hL
        clear hlen e hL
        have HFL : Hid (Own wr w.heap.size 66 2 R (rowsF f (k + 1)).length rc (gps (rowsF f (k + 1)))) := Lib.hid (by rw [HLL.out]; exact hO)
        have HSL : Hid ((Value.slice R L.length rc) = .slice R (rowsF f (k + 1)).length rc) := Lib.hid (by rw [HLL.out])
        clear hbc2
        cases b
        · cases come
          · exact absurd rfl hbc
          · clear hbc
            go_wp2_with fail
            go_roundw
            case rel => exact ⟨k + 1, R, rc, by omega, by go_num, HSL.out, HFL.out, hB⟩
            case measure => simp [intOf]; omega
        · cases come
          · clear hbc
            go_wp2_with fail
            go_roundw
            case rel => exact ⟨k + 1, R, rc, by omega, by go_num, HSL.out, HFL.out, hB⟩
            case measure => simp [intOf]; omega
          · exact absurd rfl hbc
      subst hbc
      have HE : Hid (rowsF f (k + 1) = rowStep (rowsF f k) k) := Lib.hid (by
        show (if f k = true then _ else _) = _
        rw [if_pos (by rw [HFK.out]; simp)])
      clear HFK
      generalize rowsF f k = L at *
      trace "B"
      rcases nil_or_snoc L with e | ⟨m, g, e⟩
      · subst e
        have HS : Hid (rowStep [] k = [] ++ [((k : Int), (k : Int) + 1)]) := Lib.hid rfl
        have HLN : Hid (([] : List (Int × Int)).length = 0) := Lib.hid rfl
        rw [HLN.out] at hO ⊢
        trace "C"
        have hOn := hO.alloc (.cells #[.int .i64 (k : Int), .int .i64 ((k : Int) + 1)] 66)
        have hBn := hB.alloc hB.size (.cells #[.int .i64 (k : Int), .int .i64 ((k : Int) + 1)] 66)
        have hRn : Rd (wr.alloc (.cells #[.int .i64 (k : Int), .int .i64 ((k : Int) + 1)] 66)) (some ⟨wr.heap.size, 0, none⟩) [.int .i64 (k : Int), .int .i64 ((k : Int) + 1)] := Rd.of_block (heap_alloc_new wr _) (fun i u h => by simpa using h)
        have hone : ∀ u ∈ ([.int .i64 (k : Int), .int .i64 ((k : Int) + 1)] : List Value), u.oneCell' = true := by intro u hu; simp at hu; rcases hu with rfl | rfl <;> rfl
        have q4 : 0 + 1 ≤ maxLen := by unfold maxLen; omega
        have q5 : (0 + 1) * 16 ≤ 140737488355328 := by omega
        have q6 : w.heap.size ≤ (wr.alloc (.cells #[.int .i64 (k : Int), .int .i64 ((k : Int) + 1)] 66)).heap.size := hBn.size
        go_upto_region 8 with fail
        go_wp2_with (at_builtin; refine wpList_append_Own (wr.alloc (.cells #[.int .i64 (k : Int), .int .i64 ((k : Int) + 1)] 66)) rfl (.tmp 41) (.tmp 46) 24 rfl w.heap.size 66 j0 _ 2 16 Try.underlying24 hj0 hy0 hy1 hy2 rfl R 0 rc (gps (([] : List (Int × Int)))) rfl hOn (some ⟨wr.heap.size, 0, none⟩) 1 1 [.int .i64 (k : Int), .int .i64 ((k : Int) + 1)] rfl rfl hRn hone q4 q5 q6 ?_; intro R' rc' w1 hO1 hg1 hor1)
        have hB1 := Below.grown' (A := R) hBn hg1 hBn.size (fun q hq => (hOn.lt q hq).1)
        have hFin : ∃ rc2, (Value.slice R' (0 + 1) rc') = .slice R' (rowsF f (k + 1)).length rc2 ∧ Own w1 w.heap.size 66 2 R' (rowsF f (k + 1)).length rc2 (gps (rowsF f (k + 1))) := by
          have e : rowsF f (k + 1) = ([] : List (Int × Int)) ++ [((k : Int), (k : Int) + 1)] := HE.out.trans HS.out
          rw [e, List.length_append, HLN.out, gps_snoc]
          exact ⟨rc', rfl, hO1⟩
        go_roundw
        case rel => exact ⟨k + 1, R', hFin.choose, by omega, by go_num, hFin.choose_spec.1, hFin.choose_spec.2, hB1⟩
        case measure => simp [intOf]; omega
      · subst e
        obtain ⟨ga, gz⟩ := g
        obtain ⟨m1, hm1⟩ : ∃ m1, m.length = m1 := ⟨_, rfl⟩
        have hln : (m ++ [(ga, gz)]).length = m1 + 1 := by simp [hm1]
        rw [hln] at hO hlen ⊢
        obtain ⟨rb, ro, rfl, hr1, hr2⟩ := hO.form (by have := hO.le; omega)
        have hge := hO.cell (i := m1 * 2 + 1) (u := .int .i64 gz) (by rw [gps_snoc, List.getElem?_append_right (by rw [gps_len]; omega), gps_len, hm1]; simp)
        rw [← Nat.add_assoc] at hge
        have hfz := hO.frozen (ro + m1 * 2 + 1)
        have HM1 := Lib.hid hm1
        have HLN := Lib.hid hln
        clear hm1 hln
        by_cases hgk : gz = (k : Int)
        ·
          have HS : Hid (rowsF f (k + 1) = m ++ [(ga, (k : Int) + 1)]) := Lib.hid (by rw [HE.out, rowStep_snoc, if_pos hgk])
          have hst := hO.set (m1 * 2 + 1) (by omega) (.int .i64 ((k : Int) + 1))
          rw [← HM1.out, gps_set2, ← Nat.add_assoc] at hst
          have HST : Hid (Own (wr.setCell ⟨rb, ro + m1 * 2 + 1, none⟩ (.int .i64 ((k : Int) + 1))) w.heap.size 66 2 (some ⟨rb, ro, none⟩) (rowsF f (k + 1)).length rc (gps (rowsF f (k + 1)))) := Lib.hid (by
            rw [HS.out, show (m ++ [(ga, (k : Int) + 1)]).length = m1 + 1 by simp [HM1.out], ← HM1.out]
            exact hst)
          have HSL : Hid ((Value.slice (some ⟨rb, ro, none⟩) (m1 + 1) rc) = .slice (some ⟨rb, ro, none⟩) (rowsF f (k + 1)).length rc) := Lib.hid (by rw [HS.out, show (m ++ [(ga, (k : Int) + 1)]).length = m1 + 1 by simp [HM1.out]])
          have hBs := hB.setCell (p := ⟨rb, ro + m1 * 2 + 1, none⟩) hr1 (.int .i64 ((k : Int) + 1))
          clear hst hO
          subst hgk
          trace "D"
          go_wp2_with fail
          trace "E"
          go_roundw
          case rel => exact ⟨k + 1, _, rc, by omega, by go_num, HSL.out, HST.out, hBs⟩
          case measure => simp [intOf]; omega
        ·
          have HS : Hid (rowStep (m ++ [(ga, gz)]) k = (m ++ [(ga, gz)]) ++ [((k : Int), (k : Int) + 1)]) := Lib.hid (by rw [rowStep_snoc, if_neg hgk])
          have hgkb : (gz == (k : Int)) = false := by rw [beq_eq_false_iff_ne]; exact hgk
          clear hgk
          trace "F"
          have hOn := hO.alloc (.cells #[.int .i64 (k : Int), .int .i64 ((k : Int) + 1)] 66)
          have hBn := hB.alloc hB.size (.cells #[.int .i64 (k : Int), .int .i64 ((k : Int) + 1)] 66)
          have hRn : Rd (wr.alloc (.cells #[.int .i64 (k : Int), .int .i64 ((k : Int) + 1)] 66)) (some ⟨wr.heap.size, 0, none⟩) [.int .i64 (k : Int), .int .i64 ((k : Int) + 1)] := Rd.of_block (heap_alloc_new wr _) (fun i u h => by simpa using h)
          have hone : ∀ u ∈ ([.int .i64 (k : Int), .int .i64 ((k : Int) + 1)] : List Value), u.oneCell' = true := by intro u hu; simp at hu; rcases hu with rfl | rfl <;> rfl
          have q4 : (m1 + 1) + 1 ≤ maxLen := by unfold maxLen; omega
          have q5 : ((m1 + 1) + 1) * 16 ≤ 140737488355328 := by omega
          have q6 : w.heap.size ≤ (wr.alloc (.cells #[.int .i64 (k : Int), .int .i64 ((k : Int) + 1)] 66)).heap.size := hBn.size
          go_upto_region 8 with fail
          go_wp2_with (at_builtin; refine wpList_append_Own (wr.alloc (.cells #[.int .i64 (k : Int), .int .i64 ((k : Int) + 1)] 66)) rfl (.tmp 41) (.tmp 46) 24 rfl w.heap.size 66 j0 _ 2 16 Try.underlying24 hj0 hy0 hy1 hy2 rfl (some ⟨rb, ro, none⟩) (m1 + 1) rc (gps ((m ++ [(ga, gz)]))) rfl hOn (some ⟨wr.heap.size, 0, none⟩) 1 1 [.int .i64 (k : Int), .int .i64 ((k : Int) + 1)] rfl rfl hRn hone q4 q5 q6 ?_; intro R' rc' w1 hO1 hg1 hor1)
          have hB1 := Below.grown' (A := (some ⟨rb, ro, none⟩)) hBn hg1 hBn.size (fun q hq => (hOn.lt q hq).1)
          have hFin : ∃ rc2, (Value.slice R' ((m1 + 1) + 1) rc') = .slice R' (rowsF f (k + 1)).length rc2 ∧ Own w1 w.heap.size 66 2 R' (rowsF f (k + 1)).length rc2 (gps (rowsF f (k + 1))) := by
            have e : rowsF f (k + 1) = (m ++ [(ga, gz)]) ++ [((k : Int), (k : Int) + 1)] := HE.out.trans HS.out
            rw [e, List.length_append, HLN.out, gps_snoc]
            exact ⟨rc', rfl, hO1⟩
          go_roundw
          case rel => exact ⟨k + 1, R', hFin.choose, by omega, by go_num, hFin.choose_spec.1, hFin.choose_spec.2, hB1⟩
          case measure => simp [intOf]; omega
    · obtain rfl : k = n := by omega
      obtain ⟨L, hL⟩ : ∃ L, rowsF f k = L := ⟨_, rfl⟩
      rw [hL] at hO ⊢
      have HLL := Lib.hid hL
      clear hL
      go_wp2_with fail
      go_ret
      exact ⟨R, rc, by rw [HLL.out] <;> rfl, by rw [HLL.out]; exact hO, hB⟩
end Go.Proofs.Ytianombjgdmbeaa
namespace Go.Proofs.Ytianombjgdmbeaa
set_option linter.unusedSimpArgs false
set_option linter.unusedVariables false
open Go.RowKit

theorem rngB_iff {n a b : Int} : rngOk n a b = true ↔ a ≤ n ∧ n ≤ b := by unfold rngOk; rw [decide_eq_true_eq]
theorem sizes_name {x : Tk} (h : ¬ x.name.size ≤ 32) : sizesB x = false := by unfold sizesB; rw [decide_eq_false h, Bool.and_false]
theorem sizes_size {x : Tk} (h : rngOk x.size 0 65536 = false) : sizesB x = false := by unfold sizesB; rw [h]; rfl
theorem sizes_last {x : Tk} (h : rngOk x.last 0 65536 = false) : sizesB x = false := by unfold sizesB; rw [h]; simp
theorem sizes_sum {x : Tk} (h : rngOk x.sum 0 4294967295 = false) : sizesB x = false := by unfold sizesB; rw [h]; simp
theorem sizes_all {x : Tk} (h0 : x.name.size ≤ 32) (h1 : rngOk x.size 0 65536 = true) (h2 : rngOk x.last 0 65536 = true) (h3 : rngOk x.sum 0 4294967295 = true) : sizesB x = true := by unfold sizesB; rw [h1, h2, h3, decide_eq_true h0]; rfl
theorem know_name {x : Tk} (h : x.known ≠ decide (0 < x.name.size)) : knowB x = false := by unfold knowB; rw [beq_eq_false_iff_ne.2 h]; rfl
theorem know_size {x : Tk} (h : x.known = false) (h2 : x.size ≠ 0) : knowB x = false := by unfold knowB; rw [h, decide_eq_false h2]; simp
theorem know_end {x : Tk} (h : x.ended = false) (h2 : ¬ (x.last = 0 ∧ x.sum = 0)) : knowB x = false := by unfold knowB; rw [h, decide_eq_false h2]; simp
theorem know_all {x : Tk} (h : x.known = decide (0 < x.name.size)) (h1 : x.known = true ∨ x.size = 0) (h2 : x.ended = true ∨ (x.last = 0 ∧ x.sum = 0)) : knowB x = true := by
  unfold knowB
  rw [← h, beq_self_eq_true]
  simp only [Bool.true_and, Bool.and_eq_true, Bool.or_eq_true, decide_eq_true_eq]
  exact ⟨h1, h2⟩
theorem over_no {x : Tk} (h : x.stage = 3) (h1 : x.known = false ∨ allR x.have_ x.size = false) : overB x = false := by
  unfold overB
  rw [decide_eq_false (by rw [h]; simp)]
  rcases h1 with h1 | h1 <;> rw [h1] <;> simp
theorem over_yes {x : Tk} (h : x.stage ≠ 3 ∨ (x.known = true ∧ allR x.have_ x.size = true)) : overB x = true := by
  unfold overB
  rcases h with h | ⟨h, h1⟩
  · rw [decide_eq_true h]; rfl
  · rw [h, h1]; simp
theorem zero_no {x : Tk} {i : Nat} (hi : i < x.file.length) (h : inR x.have_ i = false) (h1 : bAt x.file i ≠ 0) : zeroB x = false := by
  unfold zeroB
  rw [List.all_eq_false]
  exact ⟨i, List.mem_range.2 hi, by rw [h, decide_eq_false h1]; simp⟩
theorem zero_yes {x : Tk} (h : ∀ i, i < x.file.length → inR x.have_ i = true ∨ bAt x.file i = 0) : zeroB x = true := by
  unfold zeroB
  rw [List.all_eq_true]
  intro i hi
  rw [Bool.or_eq_true, decide_eq_true_eq]
  exact h i (List.mem_range.1 hi)
theorem Srt.pos : ∀ {l : List (Int × Int)} {e : Int}, -1 ≤ e → Srt e l → ∀ g ∈ l, (0 : Int) ≤ g.1
  | [], _, _, _, g, hg => by cases hg
  | k :: l, e, he, h, g, hg => by
    have h1 := h.1
    have h2 := h.2.1
    rcases List.mem_cons.1 hg with rfl | hg
    · omega
    · exact Srt.pos (by omega) h.2.2 g hg
set_option maxHeartbeats 12800000 in
set_option maxRecDepth 100000 in
theorem takerMay_any (x : Tk) (H : Option Addr) (hn hc : Nat) (F : Option Addr) (fn fc : Nat) (w : World) (hh : x.have_.length = hn) (hf : x.file.length = fn) (hH : Rd w H (gps x.have_)) (hF : Rd w F (bvs x.file)) (hhn : hn ≤ 8796093022200) (hfn : fn ≤ 140737488351232) :
    Calls Try.prog 48 #[tkv x H hn hc F fn fc] w fun e w' => e = .returned (.bool (tkOk x)) ∧ Below w.heap.size w w' := by
  obtain ⟨r, hr⟩ : ∃ r, tkOk x = r := ⟨_, rfl⟩
  rw [hr]
  have HR := Lib.hid hr
  have EE := Lib.hid (fun (h : expB x = false) => (HR.out.symm.trans (tk_exp h) : r = false))
  have ET := Lib.hid (fun (h : tickB x = false) => (HR.out.symm.trans (tk_tick h) : r = false))
  have ES := Lib.hid (fun (h : stageB x = false) => (HR.out.symm.trans (tk_stage h) : r = false))
  have EZ := Lib.hid (fun (h : sizesB x = false) => (HR.out.symm.trans (tk_sizes h) : r = false))
  have EK := Lib.hid (fun (h : knowB x = false) => (HR.out.symm.trans (tk_know h) : r = false))
  have ER := Lib.hid (fun (h : rowsB x = false) => (HR.out.symm.trans (tk_rows h) : r = false))
  have E0 := Lib.hid (fun (h : zeroB x = false) => (HR.out.symm.trans (tk_zero h) : r = false))
  have EO := Lib.hid (fun (h : overB x = false) => (HR.out.symm.trans (tk_over h) : r = false))
  have EA := Lib.hid (fun h1 h2 h3 h4 h5 h6 h7 h8 => (HR.out.symm.trans (tk_all (x := x) h1 h2 h3 h4 h5 h6 h7 h8) : r = true))
  have HF := Lib.hid hF
  have HH := Lib.hid hH
  have HFL := Lib.hid hf
  have HHL := Lib.hid hh
  clear hr HR hf hh hF hH
  obtain ⟨id, known, name, size, ended, last, sum, have_, file, stage, timer, patience, tries, limit⟩ := x
  unfold tkv tkc
  dsimp only at HF HH HFL HHL ⊢
  have CE := Lib.hid (fun (V : World) => expected_is id patience limit V)
  have b1 := Blk.new w 44 #[.int .i64 id, .bool known, .string name, .int .i64 size, .bool ended, .int .i64 last, .int .i64 sum, .slice H hn hc, .slice F fn fc, .int .i64 stage, .int .i64 timer, .int .i64 patience, .int .i64 tries, .int .i64 limit]
  have hB : Below w.heap.size w (w.alloc (.cells #[.int .i64 id, .bool known, .string name, .int .i64 size, .bool ended, .int .i64 last, .int .i64 sum, .slice H hn hc, .slice F fn fc, .int .i64 stage, .int .i64 timer, .int .i64 patience, .int .i64 tries, .int .i64 limit] 44)) := (Below.refl _ _).alloc (Nat.le_refl _) _
  go_enter Try.func48, Try.ntmps48
  go_upto_region 1 with fail
  generalize w.alloc (.cells #[.int .i64 id, .bool known, .string name, .int .i64 size, .bool ended, .int .i64 last, .int .i64 sum, .slice H hn hc, .slice F fn fc, .int .i64 stage, .int .i64 timer, .int .i64 patience, .int .i64 tries, .int .i64 limit] 44) = W0 at *
  have x0 := b1.cell' (i := 0) rfl
  have x11 := b1.cell' (i := 11) rfl
  have x13 := b1.cell' (i := 13) rfl
  go_wp2_with fail
  refine (CE.out _).mono ?_
  intro e w1 hq
  obtain ⟨⟨y0, y1, y2, y3, y4, y5, y6, y7, y8, y9, y10, y11, y12, y13⟩, k, rfl, hk, hb⟩ := hq
  unfold tkv tkc
  dsimp only
  replace b1 := b1.step hb
  replace hB := hB.trans (hb.mono hB.size)
  clear hb CE x0 x11 x13
  go_upto_region 2 with fail
  replace b1 := b1.alloc (.cells #[.int .i64 y0, .bool y1, .string y2, .int .i64 y3, .bool y4, .int .i64 y5, .int .i64 y6, .slice none 0 0, .slice none 0 0, .int .i64 y9, .int .i64 y10, .int .i64 y11, .int .i64 y12, .int .i64 y13] 44)
  replace hB := hB.alloc hB.size (.cells #[.int .i64 y0, .bool y1, .string y2, .int .i64 y3, .bool y4, .int .i64 y5, .int .i64 y6, .slice none 0 0, .slice none 0 0, .int .i64 y9, .int .i64 y10, .int .i64 y11, .int .i64 y12, .int .i64 y13] 44)
  generalize w1.alloc (.cells #[.int .i64 y0, .bool y1, .string y2, .int .i64 y3, .bool y4, .int .i64 y5, .int .i64 y6, .slice none 0 0, .slice none 0 0, .int .i64 y9, .int .i64 y10, .int .i64 y11, .int .i64 y12, .int .i64 y13] 44) = W at *
  have x1 := b1.cell' (i := 1) rfl
  have x2 := b1.cell' (i := 2) rfl
  have x3 := b1.cell' (i := 3) rfl
  have x4 := b1.cell' (i := 4) rfl
  have x5 := b1.cell' (i := 5) rfl
  have x6 := b1.cell' (i := 6) rfl
  have x9 := b1.cell' (i := 9) rfl
  trace "A"
  cases hO : (rngOk id 0 65535 && rngOk patience 1 1000 && rngOk limit 1 100)
  · rw [hO] at hk
    have hk0 : ¬ k = 0 := of_decide_eq_false hk
    have ik : (k == 0) = false := by rw [beq_eq_false_iff_ne]; exact hk0
    have ik2 : (k != 0) = true := by rw [bne, ik]; rfl
    have hOO := EE.out hO
    clear hk hk0 hO
    have HE := Lib.hid (hOO)
    go_wp2_with fail
    go_ret
    exact ⟨ret_bool HE.out.symm, hB⟩
  rw [hO] at hk
  obtain rfl : k = 0 := of_decide_eq_true hk
  have HX : Hid (expB (⟨id, known, name, size, ended, last, sum, have_, file, stage, timer, patience, tries, limit⟩ : Tk) = true) := Lib.hid hO
  have hpl : 1 ≤ patience ∧ patience ≤ 1000 ∧ 1 ≤ limit ∧ limit ≤ 100 := by
    simp only [Bool.and_eq_true, rngB_iff] at hO
    omega
  obtain ⟨hp1, hp2, hl1, hl2⟩ := hpl
  clear hk hO EE
  -- the stage, the name
  obtain ⟨ln, hln⟩ : ∃ ln : Int, (name.size : Int) = ln := ⟨_, rfl⟩
  have hln0 : 0 ≤ ln := by omega
  obtain ⟨bd, hbd⟩ : ∃ bd, decide (¬ ((stage = 0 ∨ stage = 3 ∨ stage = 4) ∧ ln ≤ 32 ∧ known = decide (0 < ln))) = bd := ⟨_, rfl⟩
  have HBD := Lib.hid hbd
  clear hbd
  go_cut [51] (fun s wx => s = .bool bd ∧ W = wx)
  case first =>
    as_aux_lemma =>
      clear EA EO E0 ER EK EZ ES ET HX
      by_cases s0 : stage = 0
      · subst s0
        by_cases hn2 : ln ≤ 32
        rotate_left
        ·
          have d1 : decide (32 < ln) = true := decide_eq_true (by omega)
          have q1 : Hid (bd = true) := Lib.hid (by rw [← HBD.out]; exact decide_eq_true (fun h => hn2 h.2.1))
          go_wp2_with fail
          go_meet
          exact ⟨by rw [q1.out] <;> rfl, rfl⟩
        have d1 : decide (32 < ln) = false := decide_eq_false (by omega)
        by_cases hn3 : 0 < ln
        ·
          have d2 : decide (0 < ln) = true := decide_eq_true hn3
          cases known
          ·
            have q1 : Hid (bd = true) := Lib.hid (by rw [← HBD.out]; exact decide_eq_true (fun h => by have := h.2.2; rw [decide_eq_true hn3] at this; cases this))
            go_wp2_with fail
            go_meet
            exact ⟨by rw [q1.out] <;> rfl, rfl⟩
          ·
            have q1 : Hid (bd = false) := Lib.hid (by rw [← HBD.out]; exact decide_eq_false (fun h => h ⟨by omega, hn2, by rw [decide_eq_true hn3]⟩))
            go_wp2_with fail
            go_meet
            exact ⟨by rw [q1.out] <;> rfl, rfl⟩
        ·
          have d2 : decide (0 < ln) = false := decide_eq_false hn3
          cases known
          ·
            have q1 : Hid (bd = false) := Lib.hid (by rw [← HBD.out]; exact decide_eq_false (fun h => h ⟨by omega, hn2, by rw [decide_eq_false hn3]⟩))
            go_wp2_with fail
            go_meet
            exact ⟨by rw [q1.out] <;> rfl, rfl⟩
          ·
            have q1 : Hid (bd = true) := Lib.hid (by rw [← HBD.out]; exact decide_eq_true (fun h => by have := h.2.2; rw [decide_eq_false hn3] at this; cases this))
            go_wp2_with fail
            go_meet
            exact ⟨by rw [q1.out] <;> rfl, rfl⟩
      · have s0a : (stage == 0) = false := by rw [beq_eq_false_iff_ne]; exact s0
        have s0b : (stage != 0) = true := by rw [bne, s0a]; rfl
        by_cases s3 : stage = 3
        · subst s3
          clear s0 s0a s0b
          by_cases hn2 : ln ≤ 32
          rotate_left
          ·
            have d1 : decide (32 < ln) = true := decide_eq_true (by omega)
            have q1 : Hid (bd = true) := Lib.hid (by rw [← HBD.out]; exact decide_eq_true (fun h => hn2 h.2.1))
            go_wp2_with fail
            go_meet
            exact ⟨by rw [q1.out] <;> rfl, rfl⟩
          have d1 : decide (32 < ln) = false := decide_eq_false (by omega)
          by_cases hn3 : 0 < ln
          ·
            have d2 : decide (0 < ln) = true := decide_eq_true hn3
            cases known
            ·
              have q1 : Hid (bd = true) := Lib.hid (by rw [← HBD.out]; exact decide_eq_true (fun h => by have := h.2.2; rw [decide_eq_true hn3] at this; cases this))
              go_wp2_with fail
              go_meet
              exact ⟨by rw [q1.out] <;> rfl, rfl⟩
            ·
              have q1 : Hid (bd = false) := Lib.hid (by rw [← HBD.out]; exact decide_eq_false (fun h => h ⟨by omega, hn2, by rw [decide_eq_true hn3]⟩))
              go_wp2_with fail
              go_meet
              exact ⟨by rw [q1.out] <;> rfl, rfl⟩
          ·
            have d2 : decide (0 < ln) = false := decide_eq_false hn3
            cases known
            ·
              have q1 : Hid (bd = false) := Lib.hid (by rw [← HBD.out]; exact decide_eq_false (fun h => h ⟨by omega, hn2, by rw [decide_eq_false hn3]⟩))
              go_wp2_with fail
              go_meet
              exact ⟨by rw [q1.out] <;> rfl, rfl⟩
            ·
              have q1 : Hid (bd = true) := Lib.hid (by rw [← HBD.out]; exact decide_eq_true (fun h => by have := h.2.2; rw [decide_eq_false hn3] at this; cases this))
              go_wp2_with fail
              go_meet
              exact ⟨by rw [q1.out] <;> rfl, rfl⟩
        · have s3a : (stage == 3) = false := by rw [beq_eq_false_iff_ne]; exact s3
          have s3b : (stage != 3) = true := by rw [bne, s3a]; rfl
          by_cases s4 : stage = 4
          · subst s4
            clear s0 s0a s0b s3 s3a s3b
            by_cases hn2 : ln ≤ 32
            rotate_left
            ·
              have d1 : decide (32 < ln) = true := decide_eq_true (by omega)
              have q1 : Hid (bd = true) := Lib.hid (by rw [← HBD.out]; exact decide_eq_true (fun h => hn2 h.2.1))
              go_wp2_with fail
              go_meet
              exact ⟨by rw [q1.out] <;> rfl, rfl⟩
            have d1 : decide (32 < ln) = false := decide_eq_false (by omega)
            by_cases hn3 : 0 < ln
            ·
              have d2 : decide (0 < ln) = true := decide_eq_true hn3
              cases known
              ·
                have q1 : Hid (bd = true) := Lib.hid (by rw [← HBD.out]; exact decide_eq_true (fun h => by have := h.2.2; rw [decide_eq_true hn3] at this; cases this))
                go_wp2_with fail
                go_meet
                exact ⟨by rw [q1.out] <;> rfl, rfl⟩
              ·
                have q1 : Hid (bd = false) := Lib.hid (by rw [← HBD.out]; exact decide_eq_false (fun h => h ⟨by omega, hn2, by rw [decide_eq_true hn3]⟩))
                go_wp2_with fail
                go_meet
                exact ⟨by rw [q1.out] <;> rfl, rfl⟩
            ·
              have d2 : decide (0 < ln) = false := decide_eq_false hn3
              cases known
              ·
                have q1 : Hid (bd = false) := Lib.hid (by rw [← HBD.out]; exact decide_eq_false (fun h => h ⟨by omega, hn2, by rw [decide_eq_false hn3]⟩))
                go_wp2_with fail
                go_meet
                exact ⟨by rw [q1.out] <;> rfl, rfl⟩
              ·
                have q1 : Hid (bd = true) := Lib.hid (by rw [← HBD.out]; exact decide_eq_true (fun h => by have := h.2.2; rw [decide_eq_false hn3] at this; cases this))
                go_wp2_with fail
                go_meet
                exact ⟨by rw [q1.out] <;> rfl, rfl⟩
          · have s4a : (stage == 4) = false := by rw [beq_eq_false_iff_ne]; exact s4
            have s4b : (stage != 4) = true := by rw [bne, s4a]; rfl
            have q1 : Hid (bd = true) := Lib.hid (by rw [← HBD.out]; exact decide_eq_true (fun h => by have := h.1; omega))
            clear s0 s3 s4
            go_wp2_with fail
            go_meet
            exact ⟨by rw [q1.out] <;> rfl, rfl⟩
  case rest =>
    obtain ⟨rfl, hW⟩ := hcut
    subst hW
    trace "C"
    cases bd
    rotate_left
    · have hno : r = false := by
        have hb := of_decide_eq_true HBD.out
        by_cases hs : stage = 0 ∨ stage = 3 ∨ stage = 4
        · by_cases hn : ln ≤ 32
          · exact EK.out (know_name (by
              show known ≠ decide (0 < name.size)
              intro e
              refine hb ⟨hs, hn, e.trans (decide_eq_decide.2 (by omega))⟩))
          · exact EZ.out (sizes_name (by show ¬ name.size ≤ 32; omega))
        · exact ES.out (decide_eq_false hs)
      clear EA EO E0 ER EK EZ ES ET HX
      have HE := Lib.hid (hno)
      go_wp2_with fail
      go_ret
      exact ⟨ret_bool HE.out.symm, hB⟩
    have hgood := Classical.not_not.1 (of_decide_eq_false HBD.out)
    obtain ⟨hs, hn2, hkn⟩ := hgood
    have HST : Hid (stageB (⟨id, known, name, size, ended, last, sum, have_, file, stage, timer, patience, tries, limit⟩ : Tk) = true) := Lib.hid (decide_eq_true hs)
    have HKN : Hid (known = decide (0 < name.size)) := Lib.hid (hkn.trans (decide_eq_decide.2 (by omega)))
    have HNS : Hid (name.size ≤ 32) := Lib.hid (by omega)
    clear hs hn2 hkn HBD hln0 hln ES
    go_upto_region 4 with fail
    trace "D"
    obtain ⟨bd, hbd⟩ : ∃ bd, decide (¬ (rngOk size 0 65536 = true ∧ rngOk last 0 65536 = true ∧ rngOk sum 0 4294967295 = true ∧ (known = true ∨ size = 0) ∧ (ended = true ∨ (last = 0 ∧ sum = 0)))) = bd := ⟨_, rfl⟩
    have HBD := Lib.hid hbd
    clear hbd
    go_cut [92] (fun s wx => s = .bool bd ∧ W = wx)
    case first =>
      as_aux_lemma =>
        clear EA EO E0 ER EK EZ ET HX HST HKN HNS
        go_wp2_with fail
        cases h10 : rngOk size 0 65536
        · have h1 := Lib.hid h10
          clear h10
          refine (rin_is size 0 65536 false _ h1).mono ?_
          rintro e _ ⟨rfl, rfl⟩
          have q1 : Hid (bd = true) := Lib.hid (by rw [← HBD.out]; exact decide_eq_true (fun h => by rw [h1.out] at h; cases h.1))
          go_wp2_with fail
          go_meet
          exact ⟨by rw [q1.out] <;> rfl, rfl⟩
        have h1 := Lib.hid h10
        clear h10
        refine (rin_is size 0 65536 true _ h1).mono ?_
        rintro e _ ⟨rfl, rfl⟩
        go_wp2_with fail
        cases h20 : rngOk last 0 65536
        · have h2 := Lib.hid h20
          clear h20
          refine (rin_is last 0 65536 false _ h2).mono ?_
          rintro e _ ⟨rfl, rfl⟩
          have q1 : Hid (bd = true) := Lib.hid (by rw [← HBD.out]; exact decide_eq_true (fun h => by rw [h2.out] at h; cases h.2.1))
          go_wp2_with fail
          go_meet
          exact ⟨by rw [q1.out] <;> rfl, rfl⟩
        have h2 := Lib.hid h20
        clear h20
        refine (rin_is last 0 65536 true _ h2).mono ?_
        rintro e _ ⟨rfl, rfl⟩
        go_wp2_with fail
        cases h30 : rngOk sum 0 4294967295
        · have h3 := Lib.hid h30
          clear h30
          refine (rin_is sum 0 4294967295 false _ h3).mono ?_
          rintro e _ ⟨rfl, rfl⟩
          have q1 : Hid (bd = true) := Lib.hid (by rw [← HBD.out]; exact decide_eq_true (fun h => by rw [h3.out] at h; cases h.2.2.1))
          go_wp2_with fail
          go_meet
          exact ⟨by rw [q1.out] <;> rfl, rfl⟩
        have h3 := Lib.hid h30
        clear h30
        refine (rin_is sum 0 4294967295 true _ h3).mono ?_
        rintro e _ ⟨rfl, rfl⟩
        have HBE : Hid (bd = decide (¬ ((known = true ∨ size = 0) ∧ (ended = true ∨ (last = 0 ∧ sum = 0))))) := Lib.hid (by
          rw [← HBD.out]
          exact decide_eq_decide.2 ⟨fun h h2' => h ⟨h1.out, h2.out, h3.out, h2'.1, h2'.2⟩, fun h h2' => h h2'.2.2.2⟩)
        by_cases c1 : size = 0
        all_goals
          first
            | (have c1a : (size == 0) = true := (by rw [beq_iff_eq]; exact c1); have c1b : (size != 0) = false := (by rw [bne, c1a]; rfl))
            | (have c1a : (size == 0) = false := (by rw [beq_eq_false_iff_ne]; exact c1); have c1b : (size != 0) = true := (by rw [bne, c1a]; rfl))
          by_cases c2 : last = 0
          all_goals
            first
              | (have c2a : (last == 0) = true := (by rw [beq_iff_eq]; exact c2); have c2b : (last != 0) = false := (by rw [bne, c2a]; rfl))
              | (have c2a : (last == 0) = false := (by rw [beq_eq_false_iff_ne]; exact c2); have c2b : (last != 0) = true := (by rw [bne, c2a]; rfl))
            by_cases c3 : sum = 0
            all_goals
              first
                | (have c3a : (sum == 0) = true := (by rw [beq_iff_eq]; exact c3); have c3b : (sum != 0) = false := (by rw [bne, c3a]; rfl))
                | (have c3a : (sum == 0) = false := (by rw [beq_eq_false_iff_ne]; exact c3); have c3b : (sum != 0) = true := (by rw [bne, c3a]; rfl))
              have HBF := HBE.out
              simp only [c1, c2, c3, or_true, or_false, and_true, and_false, true_and, false_and] at HBF
              cases known <;> cases ended <;> (simp at HBF; have HBG := Lib.hid HBF; clear HBF c1 c2 c3 HBE HBD; go_wp2_with fail; go_meet; exact ⟨by rw [HBG.out] <;> rfl, rfl⟩)
    case rest =>
      obtain ⟨rfl, hW⟩ := hcut
      subst hW
      trace "E"
      cases bd
      rotate_left
      · have hno : r = false := by
          have hb := of_decide_eq_true HBD.out
          cases h1 : rngOk size 0 65536
          · exact EZ.out (sizes_size h1)
          cases h2 : rngOk last 0 65536
          · exact EZ.out (sizes_last h2)
          cases h3 : rngOk sum 0 4294967295
          · exact EZ.out (sizes_sum h3)
          by_cases h4 : known = true ∨ size = 0
          · by_cases h5 : ended = true ∨ (last = 0 ∧ sum = 0)
            · exact absurd ⟨h1, h2, h3, h4, h5⟩ hb
            · exact EK.out (know_end (by cases ended; rfl; exact absurd (.inl rfl) h5) (fun h => h5 (.inr h)))
          · exact EK.out (know_size (by cases known; rfl; exact absurd (.inl rfl) h4) (fun h => h4 (.inr h)))
        clear EA EO E0 ER EK EZ ET HX
        have HE := Lib.hid (hno)
        go_wp2_with fail
        go_ret
        exact ⟨ret_bool HE.out.symm, hB⟩
      have hgood := Classical.not_not.1 (of_decide_eq_false HBD.out)
      obtain ⟨h1, h2, h3, h4, h5⟩ := hgood
      have HZ : Hid (sizesB (⟨id, known, name, size, ended, last, sum, have_, file, stage, timer, patience, tries, limit⟩ : Tk) = true) := Lib.hid (sizes_all HNS.out h1 h2 h3)
      have HK : Hid (knowB (⟨id, known, name, size, ended, last, sum, have_, file, stage, timer, patience, tries, limit⟩ : Tk) = true) := Lib.hid (know_all HKN.out h4 h5)
      obtain ⟨hsz1, hsz2⟩ := rngB_iff.1 h1
      clear h1 h2 h3 h4 h5 HBD EZ EK
      clear x1 x2 x3 x4 x5 x6 x9
      have x7 := b1.cell' (i := 7) rfl
      go_wp2_with fail
      trace "F"
      go_loopw [5, 6] (fun ev iv wr => ∃ (i : Nat) (x : Int), i ≤ hn ∧ -1 ≤ x ∧ iv = .int .i64 (i : Int) ∧ ev = .int .i64 x ∧ Blk wr w.heap.size 44 #[.int .i64 id, .bool known, .string name, .int .i64 size, .bool ended, .int .i64 last, .int .i64 sum, .slice H hn hc, .slice F fn fc, .int .i64 stage, .int .i64 timer, .int .i64 patience, .int .i64 tries, .int .i64 limit] ∧ Below w.heap.size w wr ∧ Hid (srtB (-1) have_ = srtB x (have_.drop i) ∧ endR (-1) have_ = endR x (have_.drop i))) (fun ev iv _ => hn - (intOf iv).toNat)
      case atStart => exact ⟨0, -1, Nat.zero_le _, by omega, rfl, rfl, b1, hB, Lib.hid ⟨by simp, by simp⟩⟩
      case round =>
        clear x7 b1 hB
        obtain ⟨i, x, hi, hx1, rfl, rfl, b1, hB, HG⟩ := hrel
        have x7 := b1.cell' (i := 7) rfl
        by_cases h5 : i < hn
        · have h5i : (i : Int) < (hn : Int) := by omega
          have hip : (0 : Int) ≤ (i : Int) := by omega
          have hiL : i < have_.length := by rw [HHL.out]; exact h5
          obtain ⟨g, hg⟩ : ∃ g, have_[i]? = some g := ⟨_, List.getElem?_eq_getElem hiL⟩
          have hd : have_.drop i = g :: have_.drop (i + 1) := by
            rw [List.drop_eq_getElem_cons hiL]
            congr 1
            rw [List.getElem?_eq_getElem hiL] at hg
            exact Option.some.inj hg
          obtain ⟨gb, o, rfl, y0, y1⟩ := rdgap_cells (HH.out.below hB) hg
          obtain ⟨ga, gz⟩ := g
          have HS : Hid (srtB (-1) have_ = (decide (x < ga ∧ ga < gz) && srtB gz (have_.drop (i + 1)))) := Lib.hid (by rw [HG.out.1, hd]; rfl)
          have HE : Hid (endR (-1) have_ = endR gz (have_.drop (i + 1))) := Lib.hid (by rw [HG.out.2, hd]; rfl)
          clear hiL hg hd HG
          dsimp only at y0 y1
          have hbz := hB.size
          by_cases c1 : x < ga ∧ ga < gz
          · obtain ⟨c1, c2⟩ := c1
            have d0 : decide (ga < 0) = false := decide_eq_false (by omega)
            have d1 : decide (ga ≤ x) = false := decide_eq_false (by omega)
            have d2 : decide (gz ≤ ga) = false := decide_eq_false (by omega)
            have HS2 : Hid (srtB (-1) have_ = srtB gz (have_.drop (i + 1)) ∧ endR (-1) have_ = endR gz (have_.drop (i + 1))) := Lib.hid ⟨by rw [HS.out, decide_eq_true ⟨c1, c2⟩, Bool.true_and], HE.out⟩
            have b2 := b1.alloc (.cells #[.int .i64 ga, .int .i64 gz] 66)
            have hB2 := hB.alloc hB.size (.cells #[.int .i64 ga, .int .i64 gz] 66)
            clear HS HE
            go_wp2_with fail
            go_roundw
            case rel => exact ⟨i + 1, gz, by omega, by omega, by go_num, rfl, b2, hB2, HS2⟩
            case measure => simp [intOf]; omega
          · have hno : r = false := ER.out (by
              unfold rowsB
              dsimp only
              rw [HS.out, decide_eq_false c1]
              rfl)
            have hB2 := hB.alloc hB.size (.cells #[.int .i64 ga, .int .i64 gz] 66)
            clear HS HE EA EO E0 ER ET HX HZ HK HST
            have HN := Lib.hid hno
            clear hno
            by_cases c0 : ga < 0
            · have d0 : decide (ga < 0) = true := decide_eq_true c0
              go_wp2_with fail
              go_ret
              exact ⟨ret_bool HN.out.symm, hB2⟩
            have d0 : decide (ga < 0) = false := decide_eq_false c0
            by_cases c2 : ga ≤ x
            · have d1 : decide (ga ≤ x) = true := decide_eq_true c2
              go_wp2_with fail
              go_ret
              exact ⟨ret_bool HN.out.symm, hB2⟩
            have d1 : decide (ga ≤ x) = false := decide_eq_false c2
            have d2 : decide (gz ≤ ga) = true := decide_eq_true (by omega)
            go_wp2_with fail
            go_ret
            exact ⟨ret_bool HN.out.symm, hB2⟩
        · obtain rfl : i = hn := by omega
          have h5i : ¬ (i : Int) < (i : Int) := by omega
          have e : have_.drop i = [] := List.drop_eq_nil_of_le (by rw [HHL.out]; omega)
          have HS : Hid (srtB (-1) have_ = true) := Lib.hid (by rw [HG.out.1, e]; rfl)
          have HEN : Hid (endR (-1) have_ = x) := Lib.hid (by rw [HG.out.2, e]; rfl)
          clear e HG
          obtain ⟨m, hm⟩ : ∃ m : Nat, max x 0 = (m : Int) := ⟨(max x 0).toNat, by omega⟩
          have HEF : Hid (endF (⟨id, known, name, size, ended, last, sum, have_, file, stage, timer, patience, tries, limit⟩ : Tk) = (m : Int)) := Lib.hid (by unfold endF; dsimp only; rw [HEN.out, hm])
          obtain ⟨xb, hxb⟩ : ∃ xb, decide (x < 0) = xb := ⟨_, rfl⟩
          go_upto_if 124 with fail
          trace "G"
          go_cut [5] (fun s wx => s = .int .i64 (m : Int) ∧ wr = wx)
          case first =>
            as_aux_lemma =>
              by_cases hx0 : x < 0
              · have hm0 := Lib.hid (show (0 : Int) = (m : Int) by omega)
                have d1 : xb = true := by rw [← hxb]; exact decide_eq_true hx0
                subst d1
                go_wp2_with fail
                go_meet
                exact ⟨by rw [← hm0.out] <;> rfl, rfl⟩
              · have hm0 := Lib.hid (show x = (m : Int) by omega)
                have d1 : xb = false := by rw [← hxb]; exact decide_eq_false hx0
                subst d1
                go_wp2_with fail
                go_meet
                exact ⟨by rw [← hm0.out] <;> rfl, rfl⟩
          case rest =>
            obtain ⟨rfl, hW⟩ := hcut
            subst hW
            clear hm HEN x7 hx1
            have SR := (srtB_iff _ _).1 HS.out
            have HSR := Lib.hid SR
            have HPO := Lib.hid (SR.pos (Int.le_refl _))
            clear SR
            obtain ⟨sn, hsn⟩ : ∃ sn : Nat, size = (sn : Int) := ⟨size.toNat, by omega⟩
            subst hsn
            have hsn2 : sn ≤ 65536 := by omega
            go_upto_region 16 with fail
            trace "H"
            obtain ⟨bd, hbd⟩ : ∃ bd, decide (¬ (stage ≠ 3 ∨ (known = true ∧ allR have_ (sn : Int) = true))) = bd := ⟨_, rfl⟩
            have HBD := Lib.hid hbd
            clear hbd
            go_cut [142] (fun s wx => s = .bool bd ∧ ∃ V : World, V = wx ∧ Blk V w.heap.size 44 #[.int .i64 id, .bool known, .string name, .int .i64 (sn : Int), .bool ended, .int .i64 last, .int .i64 sum, .slice H i hc, .slice F fn fc, .int .i64 stage, .int .i64 timer, .int .i64 patience, .int .i64 tries, .int .i64 limit] ∧ Below w.heap.size w V)
            case first =>
              as_aux_lemma =>
                have x9 := b1.cell' (i := 9) rfl
                by_cases s3 : stage = 3
                rotate_left
                · have s3a : (stage == 3) = false := by rw [beq_eq_false_iff_ne]; exact s3
                  have q1 : Hid (bd = false) := Lib.hid (by rw [← HBD.out]; exact decide_eq_false (fun h => h (.inl s3)))
                  clear s3
                  go_wp2_with fail
                  go_meet
                  exact ⟨by rw [q1.out] <;> rfl, wr, rfl, b1, hB⟩
                subst s3
                have x1 := b1.cell' (i := 1) rfl
                cases known
                · have q1 : Hid (bd = true) := Lib.hid (by rw [← HBD.out]; exact decide_eq_true (fun h => by rcases h with h | h; exact h rfl; cases h.1))
                  go_wp2_with fail
                  go_meet
                  exact ⟨by rw [q1.out] <;> rfl, wr, rfl, b1, hB⟩
                have x7 := b1.cell' (i := 7) rfl
                have x3 := b1.cell' (i := 3) rfl
                go_wp2_with fail
                refine (has_any have_ H i hc sn wr HHL.out (HH.out.below hB) (by omega) (by omega) HPO.out).mono ?_
                rintro e w2 ⟨rfl, hO2, hb2⟩
                have b2 := b1.step hb2
                have hB2 := hB.trans (hb2.mono hB.size)
                go_wp2_with fail
                refine (rowsIn_any (hasL have_ sn) false (some ⟨wr.heap.size, 0, none⟩) sn sn w2 (hasL_len _ _) hO2.rd (by omega) (fun i => !inR have_ i) (fun j b hj => by
                  have hjl : j < sn := by
                    rcases Nat.lt_or_ge j sn with h | h
                    · exact h
                    · rw [List.getElem?_eq_none (by rw [hasL_len]; exact h)] at hj; cases hj
                  unfold hasL at hj
                  rw [range_get _ hjl] at hj
                  rw [← Option.some.inj hj]
                  cases inR have_ j <;> rfl)).mono ?_
                rintro e w3 ⟨R, rc, rfl, hO3, hb3⟩
                have b3 := b2.step hb3
                have hB3 := hB2.trans (hb3.mono hB2.size)
                have HAR := Lib.hid (allR_rows (l := have_) (n := sn) HSR.out)
                obtain ⟨nr, hnr⟩ : ∃ nr, (rowsF (fun i => !inR have_ i) sn).length = nr := ⟨_, rfl⟩
                rw [hnr]
                by_cases hz : nr = 0
                · have d1 : decide ((0 : Int) < (nr : Int)) = false := decide_eq_false (by omega)
                  have d2 : decide (0 < nr) = false := decide_eq_false (by omega)
                  have q1 : Hid (bd = false) := Lib.hid (by
                    rw [← HBD.out]
                    refine decide_eq_false (fun h => h (.inr ⟨by first | rfl | trivial, ?_⟩))
                    rw [HAR.out]
                    exact decide_eq_true (List.eq_nil_of_length_eq_zero (by omega)))
                  clear hnr HAR
                  go_wp2_with fail
                  go_meet
                  exact ⟨by rw [q1.out] <;> rfl, w3, rfl, b3, hB3⟩
                · have d1 : decide ((0 : Int) < (nr : Int)) = true := decide_eq_true (by omega)
                  have d2 : decide (0 < nr) = true := decide_eq_true (by omega)
                  have q1 : Hid (bd = true) := Lib.hid (by
                    rw [← HBD.out]
                    refine decide_eq_true (fun h => ?_)
                    rcases h with h | h
                    · exact h rfl
                    · have h2 := h.2
                      rw [HAR.out, decide_eq_true_eq] at h2
                      rw [h2] at hnr
                      exact hz hnr.symm)
                  clear hnr HAR
                  go_wp2_with fail
                  go_meet
                  exact ⟨by rw [q1.out] <;> rfl, w3, rfl, b3, hB3⟩
            case rest =>
              clear b1 hB
              obtain ⟨rfl, V, hV, b1, hB⟩ := hcut
              subst hV
              trace "I"
              cases bd
              rotate_left
              · have hno : r = false := by
                  have hb := of_decide_eq_true HBD.out
                  refine EO.out ?_
                  by_cases s3 : stage = 3
                  · refine over_no s3 ?_
                    by_cases hk : known = true
                    · by_cases ha : allR have_ (sn : Int) = true
                      · exact absurd (.inr ⟨hk, ha⟩) hb
                      · exact .inr (by simpa using ha)
                    · exact .inl (by simpa using hk)
                  · exact absurd (.inl s3) hb
                clear EA EO E0 ER ET HX HST HZ HK
                have HE := Lib.hid hno
                go_wp2_with fail
                refine bodyPost_ret (v := .bool false) (by simp [results, Try.results48, go_sem]) rfl ?_
                exact ⟨by first | rfl | exact ret_bool HE.out.symm, hB⟩
              have HOV := Lib.hid (over_yes (x := ⟨id, known, name, (sn : Int), ended, last, sum, have_, file, stage, timer, patience, tries, limit⟩) (Classical.not_not.1 (of_decide_eq_false HBD.out)))
              clear HBD EO
              have x8 := b1.cell' (i := 8) rfl
              go_upto_region 18 with fail
              trace "J"
              by_cases c1 : fn = m
              rotate_left
              · have d1 : ((fn : Int) == (m : Int)) = false := by rw [beq_eq_false_iff_ne]; omega
                have d2 : ((fn : Int) != (m : Int)) = true := by rw [bne, d1]; rfl
                have hno : r = false := ER.out (by
                  unfold rowsB
                  rw [HEF.out]
                  dsimp only
                  rw [HFL.out, decide_eq_false (by omega), Bool.and_false])
                have HE := Lib.hid hno
                clear EA E0 ER ET HX HST HZ HK c1 hno
                go_wp2_with fail
                refine bodyPost_ret (v := .bool false) (by simp [results, Try.results48, go_sem]) rfl ?_
                exact ⟨by first | rfl | exact ret_bool HE.out.symm, hB⟩
              obtain rfl : fn = m := c1
              by_cases c2 : fn ≤ 65536
              rotate_left
              · have d1 : decide ((65536 : Int) < (fn : Int)) = true := decide_eq_true (by omega)
                have hno : r = false := ER.out (by
                  unfold rowsB
                  rw [HEF.out]
                  dsimp only
                  rw [decide_eq_false (by omega), Bool.and_false])
                have HE := Lib.hid hno
                clear EA E0 ER ET HX HST HZ HK c2 hno
                go_wp2_with fail
                refine bodyPost_ret (v := .bool false) (by simp [results, Try.results48, go_sem]) rfl ?_
                exact ⟨by first | rfl | exact ret_bool HE.out.symm, hB⟩
              have d1 : decide ((65536 : Int) < (fn : Int)) = false := decide_eq_false (by omega)
              have HRW : Hid (rowsB (⟨id, known, name, (sn : Int), ended, last, sum, have_, file, stage, timer, patience, tries, limit⟩ : Tk) = true) := Lib.hid (by
                unfold rowsB
                rw [HEF.out]
                dsimp only
                rw [HS.out, HFL.out, decide_eq_true (by omega)]
                rfl)
              have x7 := b1.cell' (i := 7) rfl
              clear ER HEF
              trace "K"
              go_wp2_with fail
              refine (has_any have_ H i hc fn V HHL.out (HH.out.below hB) (by omega) (by omega) HPO.out).mono ?_
              rintro e w2 ⟨rfl, hO2, hb2⟩
              replace b1 := b1.step hb2
              replace hB := hB.trans (hb2.mono hB.size)
              have hOr := hO2.rd
              clear hb2 hO2 x7 x8 d1 HSR HPO
              obtain ⟨q, hq⟩ : ∃ q, V.heap.size = q := ⟨_, rfl⟩
              rw [hq] at hOr ⊢
              clear hq V
              go_upto_region 21 with fail
              trace "L"
              have x8 := b1.cell' (i := 8) rfl
              go_wp2_with fail
              go_loopw [9] (fun jv wx => ∃ j : Nat, j ≤ fn ∧ jv = .int .i64 (j : Int) ∧ wx = w2 ∧ Hid (∀ a, a < j → inR have_ a = true ∨ bAt file a = 0)) (fun jv _ => fn - (intOf jv).toNat)
              case atStart => exact ⟨0, Nat.zero_le _, rfl, rfl, Lib.hid (fun a h => by omega)⟩
              case round =>
                trace "M"
                obtain ⟨j, hj, rfl, rfl, HZR⟩ := hrel
                by_cases h6 : j < fn
                · have h6i : (j : Int) < (fn : Int) := by omega
                  have hjp : (0 : Int) ≤ (j : Int) := by omega
                  have c0 := hOr.cell (k := j) (obs_get (range_get (inR have_) h6))
                  rw [Nat.zero_add] at c0
                  cases hin : inR have_ j
                  · rw [hin] at c0
                    have HIN := Lib.hid hin
                    obtain ⟨fb, fo, rfl, c1⟩ := (HF.out.below hB).byte (k := j) (by rw [HFL.out]; exact h6)
                    rw [← bAt_in (l := file) (i := j) (by rw [HFL.out]; exact h6)] at c1
                    by_cases hz : bAt file j = 0
                    · have HZR2 : Hid (∀ a, a < j + 1 → inR have_ a = true ∨ bAt file a = 0) := Lib.hid (fun a ha => by
                        rcases Nat.lt_or_ge a j with h | h
                        · exact HZR.out a h
                        · obtain rfl : a = j := by omega
                          exact .inr hz)
                      rw [hz] at c1
                      clear HZR hin hz
                      go_wp2_with fail
                      go_roundw
                      case rel => exact ⟨j + 1, by omega, by go_num, by first | rfl | trivial, HZR2⟩
                      case measure => simp [intOf]; omega
                    · have hno : r = false := E0.out (zero_no (by rw [HFL.out]; exact h6) HIN.out hz)
                      have HE := Lib.hid hno
                      obtain ⟨z, hz2⟩ : ∃ z, bAt file j = z := ⟨_, rfl⟩
                      rw [hz2] at c1 hz
                      have d3 : ((z : Int) == 0) = false := by rw [beq_eq_false_iff_ne]; omega
                      have d4 : ((z : Int) != 0) = true := by rw [bne, d3]; rfl
                      clear EA E0 ET HX HST HZ HK hno hz2 hin
                      go_wp2_with fail
                      refine bodyPost_ret (v := .bool false) (by simp [results, Try.results48, go_sem]) rfl ?_
                      exact ⟨by first | rfl | exact ret_bool HE.out.symm, hB⟩
                  · rw [hin] at c0
                    have HZR2 : Hid (∀ a, a < j + 1 → inR have_ a = true ∨ bAt file a = 0) := Lib.hid (fun a ha => by
                      rcases Nat.lt_or_ge a j with h | h
                      · exact HZR.out a h
                      · obtain rfl : a = j := by omega
                        exact .inl hin)
                    clear HZR hin
                    go_wp2_with fail
                    go_roundw
                    case rel => exact ⟨j + 1, by omega, by go_num, by first | rfl | trivial, HZR2⟩
                    case measure => simp [intOf]; omega
                · obtain rfl : j = fn := by omega
                  have h6i : ¬ (j : Int) < (j : Int) := by omega
                  have HZE : Hid (zeroB (⟨id, known, name, (sn : Int), ended, last, sum, have_, file, stage, timer, patience, tries, limit⟩ : Tk) = true) := Lib.hid (zero_yes (fun a ha => HZR.out a (by rw [← HFL.out]; exact ha)))
                  clear HZR x8
                  have x10 := b1.cell' (i := 10) rfl
                  have x11 := b1.cell' (i := 11) rfl
                  have x12 := b1.cell' (i := 12) rfl
                  have x13 := b1.cell' (i := 13) rfl
                  trace "N"
                  go_wp2_with fail
                  cases ht0 : rngOk timer 0 (patience - 1)
                  · have ht := Lib.hid ht0
                    have HE := Lib.hid (ET.out (by unfold tickB; dsimp only; rw [ht0]; rfl))
                    clear ht0
                    refine (rin_is timer 0 (patience - 1) false _ ht).mono ?_
                    rintro e _ ⟨rfl, rfl⟩
                    go_wp2_with fail
                    refine bodyPost_ret (v := .bool false) (by simp [results, Try.results48, go_sem]) rfl ?_
                    exact ⟨by first | rfl | exact ret_bool HE.out.symm, hB⟩
                  have ht := Lib.hid ht0
                  clear ht0
                  refine (rin_is timer 0 (patience - 1) true _ ht).mono ?_
                  rintro e _ ⟨rfl, rfl⟩
                  go_wp2_with fail
                  cases hu0 : rngOk tries 0 limit
                  · have hu := Lib.hid hu0
                    have HE := Lib.hid (ET.out (by unfold tickB; dsimp only; rw [hu0]; simp))
                    clear hu0
                    refine (rin_is tries 0 limit false _ hu).mono ?_
                    rintro e _ ⟨rfl, rfl⟩
                    go_wp2_with fail
                    refine bodyPost_ret (v := .bool false) (by simp [results, Try.results48, go_sem]) rfl ?_
                    exact ⟨by first | rfl | exact ret_bool HE.out.symm, hB⟩
                  have hu := Lib.hid hu0
                  have HE := Lib.hid (EA.out HX.out (by unfold tickB; dsimp only; rw [ht.out, hu0]; rfl) HST.out HZ.out HK.out HRW.out HZE.out HOV.out)
                  clear hu0
                  refine (rin_is tries 0 limit true _ hu).mono ?_
                  rintro e _ ⟨rfl, rfl⟩
                  go_wp2_with fail
                  refine bodyPost_ret (v := .bool true) (by simp [results, Try.results48, go_sem]) rfl ?_
                  exact ⟨by first | rfl | exact ret_bool HE.out.symm, hB⟩
end Go.Proofs.Ytianombjgdmbeaa
