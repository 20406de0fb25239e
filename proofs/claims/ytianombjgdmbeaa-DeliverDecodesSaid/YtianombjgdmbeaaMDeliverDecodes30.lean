/-
  A reader's note: a meta. A reader's note: gaps.
-/
import Derived.Test.YtianombjgdmbeaaMDeliverDecodes29
import Derived.Test.YtianombjgdmbeaaMDeliverDecodes16
namespace Go.Proofs.Ytianombjgdmbeaa
set_option linter.unusedSimpArgs false
set_option linter.unusedVariables false
open Go.RowKit

set_option maxHeartbeats 6400000 in
set_option maxRecDepth 100000 in
theorem note_1 (b N : Nat) (l : List UInt8) (w : World) (h : RdrAt w b N l) (hN : N ≤ b) (hbw : b < w.heap.size) (hl : 3 ≤ l.length) (hk : (bAt l 0 : Int) = 1) (hz : l.length ≤ 140737488351300) :
    Calls Try.prog 46 #[.pointer (some ⟨b, 0, none⟩)] w fun e w' => NotePost w w' b N (noteR l) e := by
  have h1 : 1 ≤ l.length := by omega
  have hNw : N ≤ w.heap.size := by omega
  have CN := Lib.hid (fun (W : World) (hA : RdrAt W b N l) => number_at b N 1 l W hA hN h1 (by omega))
  have CN2 := Lib.hid (fun (W : World) (hA : RdrAt W b N (l.drop 1)) => number_at b N 2 (l.drop 1) W hA hN (by rw [List.length_drop]; omega) (by omega))
  rw [beN_1, hk] at CN
  obtain ⟨id, hid⟩ : ∃ id, (bAt l 1 : Int) * 256 + (bAt l 2 : Int) = id := ⟨_, rfl⟩
  rw [beN_2, bAt_drop, bAt_drop, hid] at CN2
  have HNR : Hid (noteR l = restR 1 id (l.drop 3)) := Lib.hid (by unfold noteR; rw [if_neg (by omega), hk, hid])
  have hA := h.step ((Below.refl w.heap.size w).alloc (Nat.le_refl _) (.cells #[.int .i64 0, .int .i64 0, .string ⟨#[]⟩, .int .i64 0, .int .i64 0, .int .i64 0, .slice none 0 0, .slice none 0 0, .int .i64 0, .int .i64 0] 27))
  have hT : Turned w (w.alloc (.cells #[.int .i64 0, .int .i64 0, .string ⟨#[]⟩, .int .i64 0, .int .i64 0, .int .i64 0, .slice none 0 0, .slice none 0 0, .int .i64 0, .int .i64 0] 27)) (fun i => i = b) := (Turned.refl _ _).step ((Below.refl _ _).alloc (Nat.le_refl _) _)
  have bq := Blk.new w 27 #[.int .i64 0, .int .i64 0, .string ⟨#[]⟩, .int .i64 0, .int .i64 0, .int .i64 0, .slice none 0 0, .slice none 0 0, .int .i64 0, .int .i64 0]
  have HL := Lib.hid hl
  clear h hk hid hl h1
  go_enter Try.func46, Try.ntmps46
  go_upto_region 1 with fail
  generalize w.alloc (.cells #[.int .i64 0, .int .i64 0, .string ⟨#[]⟩, .int .i64 0, .int .i64 0, .int .i64 0, .slice none 0 0, .slice none 0 0, .int .i64 0, .int .i64 0] 27) = W at *
  obtain ⟨q, hq⟩ : ∃ q, w.heap.size = q := ⟨_, rfl⟩
  have HQ := Lib.hid hq
  rw [hq] at bq hbw hNw ⊢
  clear hq
  have hbq : ¬ b = q := by omega
  have hqb : ¬ q = b := by omega
  go_wp2_with fail
  refine (CN.out W hA).mono ?_
  rintro e w1 ⟨rfl, hA1, hT1⟩
  replace bq := bq.turned hT1 hqb
  replace hT1 := hT.trans hT1 (fun _ _ h => h)
  clear hT hA CN
  go_wp2_with fail
  refine (CN2.out w1 hA1).mono ?_
  rintro e w2 ⟨rfl, hA2, hT2⟩
  replace bq := bq.turned hT2 hqb
  replace hT2 := hT1.trans hT2 (fun _ _ h => h)
  rw [List.drop_drop] at hA2
  clear hT1 hA1 CN2 W w1
  have kf := bq.frozen
  have y0 := bq.cell' (i := 0) rfl
  have b0 := bq.set_ 0 (.int .i64 (1))
  have kf0 := b0.frozen
  have y1 := b0.cell' (i := 1) rfl
  have b1 := b0.set_ 1 (.int .i64 id)
  replace hA2 := (hA2.far (q := q) (i := 0) hbq hNw (.int .i64 (1))).far (q := q) (i := 1) hbq hNw (.int .i64 id)
  replace hT2 := (hT2.set (p := ⟨q, 0, none⟩) (fun h => by have := HQ.out; exact absurd h (by show ¬ q < w.heap.size; omega)) (.int .i64 (1))).set (p := ⟨q, 1, none⟩) (fun h => by have := HQ.out; exact absurd h (by show ¬ q < w.heap.size; omega)) (.int .i64 id)
  clear bq
  go_upto_region 2 with fail
  clear kf y0 kf0 y1 b0
  generalize (w2.setCell ⟨q, 0, none⟩ (.int .i64 (1))).setCell ⟨q, 1, none⟩ (.int .i64 id) = W at *
  clear w2
  have z0 := b1.cell' (i := 0) rfl
  obtain ⟨c, hc⟩ : ∃ c, l.drop 3 = c := ⟨_, rfl⟩
  rw [hc] at hA2 HNR
  have HC := Lib.hid hc
  clear hc
  go_upto_region 4 with fail
  refine heldRegion (fun _ => True) 7 (by kernel_rfl) (by kernel_rfl) trivial (fun _ => ?_)
  replace hA2 : RdrAt W.drew b N c := hA2.step ((Below.refl _ _).drew)
  replace b1 := b1.drew
  replace hT2 := hT2.drewN 1
  have hT2' : Turned w W.drew (fun i => i = b) := hT2
  clear hT2 z0
  have hT2 := hT2'
  clear hT2'
  generalize W.drew = W4 at *
  by_cases h4 : c.length < 4
  ·
    have CN := Lib.hid (number_no_at b N 4 c W4 hA2 h4 (by omega))
    have HR := Lib.hid (restR_1n (id := id) (c := c) (by omega))
    clear h4
    refine walk_take 0 (v := ?va0) rfl (by kernel_rfl) (by kernel_rfl) (by kernel_rfl) (fun _ _ _ h => h) (trivial) (Or.inl ⟨by rfl, ?ya0⟩) ?ra0
    case ya0 => intro w hSw; (try dsimp only at hSw); go_simp; try rfl
    case' ra0 => try simp only [List.getElem_toArray, List.getElem_cons_succ, List.getElem_cons_zero, Act.put, List.setIfInBounds_toArray, List.set_cons_zero, List.set_cons_succ]
    refine walk_take 2 (v := ?va2) rfl (by kernel_rfl) (by kernel_rfl) (by kernel_rfl) (fun _ _ _ h => h) (trivial) (Or.inl ⟨by rfl, ?ya2⟩) ?ra2
    case ya2 => intro w hSw; (try dsimp only at hSw); go_simp; try rfl
    case' ra2 => try simp only [List.getElem_toArray, List.getElem_cons_succ, List.getElem_cons_zero, Act.put, List.setIfInBounds_toArray, List.set_cons_zero, List.set_cons_succ]
    refine walk_step 1 rfl (by kernel_rfl) (by kernel_rfl) (fun K hK => ?n1)
    case n1 =>
      go_simp
      refine CN.out.mono ?_
      rintro e w' ⟨rfl, rfl⟩
      exact ⟨rfl, NotePost.none_ (HNR.out.trans HR.out) rfl hT2⟩
  have CN := Lib.hid (number_at b N 4 c W4 hA2 hN (by omega) (by omega))
  rw [beN_4] at CN
  have HR := Lib.hid (restR_1 (id := id) (c := c) (by omega))
  have hdl : (c.drop 4).length ≤ 140737488351300 := by rw [List.length_drop, ← HC.out, List.length_drop]; omega
  obtain ⟨x, hx⟩ : ∃ x, fAt c 0 = x := ⟨_, rfl⟩
  obtain ⟨d, hd⟩ : ∃ d, c.drop 4 = d := ⟨_, rfl⟩
  rw [hx, hd] at CN
  rw [hx, hd] at HR
  rw [hd] at hdl
  have CN2 := Lib.hid (fun (V : World) (hA : RdrAt V b N d) => rest_at b N d V hA hN hdl)
  clear hx hd h4
  refine walk_take 0 (v := ?vb0) rfl (by kernel_rfl) (by kernel_rfl) (by kernel_rfl) (fun _ _ _ h => h) (trivial) (Or.inl ⟨by rfl, ?yb0⟩) ?rb0
  case yb0 => intro w hSw; (try dsimp only at hSw); go_simp; try rfl
  case' rb0 => try simp only [List.getElem_toArray, List.getElem_cons_succ, List.getElem_cons_zero, Act.put, List.setIfInBounds_toArray, List.set_cons_zero, List.set_cons_succ]
  refine walk_take 2 (v := ?vb2) rfl (by kernel_rfl) (by kernel_rfl) (by kernel_rfl) (fun _ _ _ h => h) (trivial) (Or.inl ⟨by rfl, ?yb2⟩) ?rb2
  case yb2 => intro w hSw; (try dsimp only at hSw); go_simp; try rfl
  case' rb2 => try simp only [List.getElem_toArray, List.getElem_cons_succ, List.getElem_cons_zero, Act.put, List.setIfInBounds_toArray, List.set_cons_zero, List.set_cons_succ]
  refine walk_step 1 rfl (by kernel_rfl) (by kernel_rfl) (fun K hK => ?m1)
  case m1 =>
    go_simp
    refine CN.out.mono ?_
    rintro e w3 ⟨rfl, hA3, hT3⟩
    have bq := b1.turned hT3 hqb
    replace hT2 := hT2.trans hT3 (fun _ _ h => h)
    refine hK _ _ trivial ?_
    clear hK K CN hA2 hT3 b1
    try simp only [List.getElem_toArray, List.getElem_cons_succ, List.getElem_cons_zero, Act.put, List.setIfInBounds_toArray, List.set_cons_zero, List.set_cons_succ]
    refine walk_take 5 (v := ?vc5) rfl (by kernel_rfl) (by kernel_rfl) (by kernel_rfl) (fun _ _ _ h => h) (trivial) (Or.inl ⟨by rfl, ?yc5⟩) ?rc5
    case yc5 => intro w hSw; (try dsimp only at hSw); go_simp; try rfl
    case' rc5 => try simp only [List.getElem_toArray, List.getElem_cons_succ, List.getElem_cons_zero, Act.put, List.setIfInBounds_toArray, List.set_cons_zero, List.set_cons_succ]
    refine walk_step 3 rfl (by kernel_rfl) (by kernel_rfl) (fun K hK => ?m3)
    case m3 =>
      go_simp
      refine (CN2.out w3 hA3).mono ?_
      rintro e w4 ⟨D, dc, rfl, hO, hA4, hT4⟩
      replace hO := hO.mono (base' := q + 1) (by have := bq.lt; omega)
      replace bq := bq.turned hT4 hqb
      replace hT2 := hT2.trans hT4 (fun _ _ h => h)
      have hA2 := hA4
      refine hK _ _ trivial ?_
      clear hK K CN2 hA3 hA4 hT4
      try simp only [List.getElem_toArray, List.getElem_cons_succ, List.getElem_cons_zero, Act.put, List.setIfInBounds_toArray, List.set_cons_zero, List.set_cons_succ]
      have kf := bq.frozen
      have y3 := bq.cell' (i := 3) rfl
      have bq5 := bq.set_ 3 (.int .i64 x)
      have xO := hO.notBlk bq (by decide)
      have hO5 := hO.setFar (p := ⟨q, 3, none⟩) xO (.int .i64 x)
      have hv4 : (convert 23 9 (.slice D d.length dc)).run Try.prog w4 = .ok (.string (strOf d)) w4 := run_convert_Rd w4 23 5 Try.underlying23 Try.underlying5 D d dc hO.rd 9 Try.underlying9
      have hv5 : (convert 23 9 (.slice D d.length dc)).run Try.prog (w4.setCell ⟨q, 3, none⟩ (.int .i64 x)) = .ok (.string (strOf d)) (w4.setCell ⟨q, 3, none⟩ (.int .i64 x)) := run_convert_Rd _ 23 5 Try.underlying23 Try.underlying5 D d dc hO5.rd 9 Try.underlying9
      replace hA2 := hA2.far (q := q) (i := 3) hbq hNw (.int .i64 x)
      replace hT2 := hT2.set (p := ⟨q, 3, none⟩) (fun h => by have := HQ.out; exact absurd h (by show ¬ q < w.heap.size; omega)) (.int .i64 x)
      clear bq xO hO hO5
      refine walk_step2 4 6 rfl rfl (by kernel_rfl) (by kernel_rfl) (by kernel_rfl) (fun K hK => ?p4) (fun K hK => ?p6)
      case p4 =>
        go_simp
        refine hK _ _ trivial ?_
        clear hK K hv4 hv5
        try simp only [List.getElem_toArray, List.getElem_cons_succ, List.getElem_cons_zero, Act.put, List.setIfInBounds_toArray, List.set_cons_zero, List.set_cons_succ]
        refine walk_step 6 rfl (by kernel_rfl) (by kernel_rfl) (fun K hK => ?p46)
        case p46 =>
          go_simp
          refine hK _ _ trivial ?_
          clear hK K kf y3
          try simp only [List.getElem_toArray, List.getElem_cons_succ, List.getElem_cons_zero, Act.put, List.setIfInBounds_toArray, List.set_cons_zero, List.set_cons_succ]
          generalize w4.setCell ⟨q, 3, none⟩ (.int .i64 x) = W5 at *
          have bq := bq5
          clear bq5
          refine walk_tail (by kernel_rfl) ?_
          simp only [List.drop_succ_cons, List.drop_zero]
          have kf := bq.frozen
          have y2 := bq.cell' (i := 2) rfl
          go_upto_region 16 with fail
          clear kf y2
          replace bq := bq.set_ 2 (.string (strOf d))
          replace hA2 := hA2.far (q := q) (i := 2) hbq hNw (.string (strOf d))
          replace hT2 := hT2.set (p := ⟨q, 2, none⟩) (fun h => by have := HQ.out; exact absurd h (by show ¬ q < w.heap.size; omega)) (.string (strOf d))
          generalize W5.setCell ⟨q, 2, none⟩ (.string (strOf d)) = W6 at *
          go_wp2_with (first
            | (refine wpList_load_row rfl 27 (.tmp 2) rfl q rfl 27 #[.int .i64 1, .int .i64 id, .string (strOf d), .int .i64 x, .int .i64 0, .int .i64 0, .slice none 0 0, .slice none 0 0, .int .i64 0, .int .i64 0] (0, 0) _ bq Try.underlying27 rfl notesz ?_)
            | (refine wpList_store_row rfl 27 (.tmp 2) (.tmp 69) rfl q #[.int .i64 1, .int .i64 id, .string (strOf d), .int .i64 x, .int .i64 0, .int .i64 0, .slice none 0 0, .slice none 0 0, .int .i64 0, .int .i64 0] rfl rfl 27 _ bq notesz rfl (by simp [Value.oneCell']) ?_))
          have bq9 := bq.row #[.int .i64 1, .int .i64 id, .string (strOf d), .int .i64 x, .int .i64 0, .int .i64 0, .slice none 0 0, .slice none 0 0, .int .i64 0, .int .i64 0]
          refine bodyPost_ret (v := .agg #[.int .i64 1, .int .i64 id, .string (strOf d), .int .i64 x, .int .i64 0, .int .i64 0, .slice none 0 0, .slice none 0 0, .int .i64 0, .int .i64 0]) (results_cell_row (ty := 27) rfl _ _ q 27 _ (0, 0) _ rfl bq9 Try.underlying27 rfl notesz) rfl ?_
          exact note_fin #[.int .i64 1, .int .i64 id, .string (strOf d), .int .i64 x, .int .i64 0, .int .i64 0, .slice none 0 0, .slice none 0 0, .int .i64 0, .int .i64 0] (HNR.out.trans HR.out) HQ.out hbq hNw hA2 hT2 (Own.none_ _ _ _ _) (Own.none_ _ _ _ _)
      case p6 =>
        go_simp
        refine hK _ _ trivial ?_
        clear hK K hv4 kf y3
        try simp only [List.getElem_toArray, List.getElem_cons_succ, List.getElem_cons_zero, Act.put, List.setIfInBounds_toArray, List.set_cons_zero, List.set_cons_succ]
        generalize w4.setCell ⟨q, 3, none⟩ (.int .i64 x) = W5 at *
        refine walk_step 4 rfl (by kernel_rfl) (by kernel_rfl) (fun K hK => ?p64)
        case p64 =>
          go_simp
          refine hK _ _ trivial ?_
          clear hK K hv5
          try simp only [List.getElem_toArray, List.getElem_cons_succ, List.getElem_cons_zero, Act.put, List.setIfInBounds_toArray, List.set_cons_zero, List.set_cons_succ]
          have bq := bq5
          clear bq5
          refine walk_tail (by kernel_rfl) ?_
          simp only [List.drop_succ_cons, List.drop_zero]
          have kf := bq.frozen
          have y2 := bq.cell' (i := 2) rfl
          go_upto_region 16 with fail
          clear kf y2
          replace bq := bq.set_ 2 (.string (strOf d))
          replace hA2 := hA2.far (q := q) (i := 2) hbq hNw (.string (strOf d))
          replace hT2 := hT2.set (p := ⟨q, 2, none⟩) (fun h => by have := HQ.out; exact absurd h (by show ¬ q < w.heap.size; omega)) (.string (strOf d))
          generalize W5.setCell ⟨q, 2, none⟩ (.string (strOf d)) = W6 at *
          go_wp2_with (first
            | (refine wpList_load_row rfl 27 (.tmp 2) rfl q rfl 27 #[.int .i64 1, .int .i64 id, .string (strOf d), .int .i64 x, .int .i64 0, .int .i64 0, .slice none 0 0, .slice none 0 0, .int .i64 0, .int .i64 0] (0, 0) _ bq Try.underlying27 rfl notesz ?_)
            | (refine wpList_store_row rfl 27 (.tmp 2) (.tmp 69) rfl q #[.int .i64 1, .int .i64 id, .string (strOf d), .int .i64 x, .int .i64 0, .int .i64 0, .slice none 0 0, .slice none 0 0, .int .i64 0, .int .i64 0] rfl rfl 27 _ bq notesz rfl (by simp [Value.oneCell']) ?_))
          have bq9 := bq.row #[.int .i64 1, .int .i64 id, .string (strOf d), .int .i64 x, .int .i64 0, .int .i64 0, .slice none 0 0, .slice none 0 0, .int .i64 0, .int .i64 0]
          refine bodyPost_ret (v := .agg #[.int .i64 1, .int .i64 id, .string (strOf d), .int .i64 x, .int .i64 0, .int .i64 0, .slice none 0 0, .slice none 0 0, .int .i64 0, .int .i64 0]) (results_cell_row (ty := 27) rfl _ _ q 27 _ (0, 0) _ rfl bq9 Try.underlying27 rfl notesz) rfl ?_
          exact note_fin #[.int .i64 1, .int .i64 id, .string (strOf d), .int .i64 x, .int .i64 0, .int .i64 0, .slice none 0 0, .slice none 0 0, .int .i64 0, .int .i64 0] (HNR.out.trans HR.out) HQ.out hbq hNw hA2 hT2 (Own.none_ _ _ _ _) (Own.none_ _ _ _ _)
end Go.Proofs.Ytianombjgdmbeaa
namespace Go.Proofs.Ytianombjgdmbeaa
set_option linter.unusedSimpArgs false
set_option linter.unusedVariables false
open Go.RowKit

theorem restR_4a {id : Int} {c : List UInt8} (h : 168 ≤ c.length) : restR 4 id c = some (⟨4, id, ⟨#[]⟩, 0, 0, 0, [], gapsOf c 21, 0, 0⟩, c.drop 168) := by unfold restR; rw [if_neg (by decide), if_neg (by decide), if_neg (by decide), if_pos rfl, if_pos h]
theorem restR_4b {id : Int} {c : List UInt8} {j : Nat} (h : c.length = 8 * j) (hj : j ≤ 21) : restR 4 id c = some (⟨4, id, ⟨#[]⟩, 0, 0, 0, [], gapsOf c j, 0, 0⟩, []) := by
  by_cases h21 : j = 21
  · subst h21
    rw [restR_4a (by omega), List.drop_eq_nil_of_le (by omega)]
  · unfold restR
    rw [if_neg (by decide), if_neg (by decide), if_neg (by decide), if_pos rfl, if_neg (by omega), if_pos (by omega), show c.length / 8 = j by omega]
theorem restR_4n {id : Int} {c : List UInt8} (h : c.length < 168) (h8 : c.length % 8 ≠ 0) : restR 4 id c = none := by unfold restR; rw [if_neg (by decide), if_neg (by decide), if_neg (by decide), if_pos rfl, if_neg (by omega), if_neg h8]
def gapLen : Value → Nat
  | .slice _ n _ => n
  | _ => 0
/-- So many gaps have been read. -/
def GapInv (w : World) (b N q : Nat) (id : Int) (c : List UInt8) (j : Nat) (v : World) : Prop :=
  ∃ G gc, j ≤ 21 ∧ 8 * j ≤ c.length ∧ RdrAt v b N (c.drop (8 * j)) ∧ Blk v q 27 #[.int .i64 4, .int .i64 id, .string ⟨#[]⟩, .int .i64 0, .int .i64 0, .int .i64 0, .slice none 0 0, .slice G j gc, .int .i64 0, .int .i64 0] ∧ Own v (q + 1) 66 2 G j gc (gps (gapsOf c j)) ∧ Turned w v (fun i => i = b)
set_option maxHeartbeats 6400000 in
set_option maxRecDepth 100000 in
theorem note_4 (b N : Nat) (l : List UInt8) (w : World) (h : RdrAt w b N l) (hN : N ≤ b) (hbw : b < w.heap.size) (hl : 3 ≤ l.length) (hk : (bAt l 0 : Int) = 4) :
    Calls Try.prog 46 #[.pointer (some ⟨b, 0, none⟩)] w fun e w' => NotePost w w' b N (noteR l) e := by
  obtain ⟨j0, hj0, hy0, hy1, hy2⟩ := info_parts pairinfo
  have h1 : 1 ≤ l.length := by omega
  have hNw : N ≤ w.heap.size := by omega
  have CN := Lib.hid (fun (W : World) (hA : RdrAt W b N l) => number_at b N 1 l W hA hN h1 (by omega))
  have CN2 := Lib.hid (fun (W : World) (hA : RdrAt W b N (l.drop 1)) => number_at b N 2 (l.drop 1) W hA hN (by rw [List.length_drop]; omega) (by omega))
  rw [beN_1, hk] at CN
  obtain ⟨id, hid⟩ : ∃ id, (bAt l 1 : Int) * 256 + (bAt l 2 : Int) = id := ⟨_, rfl⟩
  rw [beN_2, bAt_drop, bAt_drop, hid] at CN2
  have HNR : Hid (noteR l = restR 4 id (l.drop 3)) := Lib.hid (by unfold noteR; rw [if_neg (by omega), hk, hid])
  have hA := h.step ((Below.refl w.heap.size w).alloc (Nat.le_refl _) (.cells #[.int .i64 0, .int .i64 0, .string ⟨#[]⟩, .int .i64 0, .int .i64 0, .int .i64 0, .slice none 0 0, .slice none 0 0, .int .i64 0, .int .i64 0] 27))
  have hT : Turned w (w.alloc (.cells #[.int .i64 0, .int .i64 0, .string ⟨#[]⟩, .int .i64 0, .int .i64 0, .int .i64 0, .slice none 0 0, .slice none 0 0, .int .i64 0, .int .i64 0] 27)) (fun i => i = b) := (Turned.refl _ _).step ((Below.refl _ _).alloc (Nat.le_refl _) _)
  have bq := Blk.new w 27 #[.int .i64 0, .int .i64 0, .string ⟨#[]⟩, .int .i64 0, .int .i64 0, .int .i64 0, .slice none 0 0, .slice none 0 0, .int .i64 0, .int .i64 0]
  have HL := Lib.hid hl
  clear h hk hid hl h1
  go_enter Try.func46, Try.ntmps46
  go_upto_region 1 with fail
  generalize w.alloc (.cells #[.int .i64 0, .int .i64 0, .string ⟨#[]⟩, .int .i64 0, .int .i64 0, .int .i64 0, .slice none 0 0, .slice none 0 0, .int .i64 0, .int .i64 0] 27) = W at *
  obtain ⟨q, hq⟩ : ∃ q, w.heap.size = q := ⟨_, rfl⟩
  have HQ := Lib.hid hq
  rw [hq] at bq hbw hNw ⊢
  clear hq
  have hbq : ¬ b = q := by omega
  have hqb : ¬ q = b := by omega
  go_wp2_with fail
  refine (CN.out W hA).mono ?_
  rintro e w1 ⟨rfl, hA1, hT1⟩
  replace bq := bq.turned hT1 hqb
  replace hT1 := hT.trans hT1 (fun _ _ h => h)
  clear hT hA CN
  go_wp2_with fail
  refine (CN2.out w1 hA1).mono ?_
  rintro e w2 ⟨rfl, hA2, hT2⟩
  replace bq := bq.turned hT2 hqb
  replace hT2 := hT1.trans hT2 (fun _ _ h => h)
  rw [List.drop_drop] at hA2
  clear hT1 hA1 CN2 W w1
  have kf := bq.frozen
  have y0 := bq.cell' (i := 0) rfl
  have b0 := bq.set_ 0 (.int .i64 (4))
  have kf0 := b0.frozen
  have y1 := b0.cell' (i := 1) rfl
  have b1 := b0.set_ 1 (.int .i64 id)
  replace hA2 := (hA2.far (q := q) (i := 0) hbq hNw (.int .i64 (4))).far (q := q) (i := 1) hbq hNw (.int .i64 id)
  replace hT2 := (hT2.set (p := ⟨q, 0, none⟩) (fun h => by have := HQ.out; exact absurd h (by show ¬ q < w.heap.size; omega)) (.int .i64 (4))).set (p := ⟨q, 1, none⟩) (fun h => by have := HQ.out; exact absurd h (by show ¬ q < w.heap.size; omega)) (.int .i64 id)
  clear bq
  go_upto_region 2 with fail
  clear kf y0 kf0 y1 b0
  generalize (w2.setCell ⟨q, 0, none⟩ (.int .i64 (4))).setCell ⟨q, 1, none⟩ (.int .i64 id) = W at *
  clear w2
  have z0 := b1.cell' (i := 0) rfl
  obtain ⟨c, hc⟩ : ∃ c, l.drop 3 = c := ⟨_, rfl⟩
  rw [hc] at hA2 HNR
  have HC := Lib.hid hc
  clear hc
  have start : GapInv w b N q id c 0 W := ⟨none, 0, by omega, by omega, by simpa using hA2, b1, Own.none_ _ _ _ _, hT2⟩
  clear hA2 hT2 b1
  go_wp2_with fail
  go_loopw [48] (fun _ wr => ∃ j : Nat, GapInv w b N q id c j wr) (fun _ wr => 21 - gapLen ((wr.cell? ⟨q, 7, none⟩).getD undef))
  case atStart => exact ⟨0, start⟩
  case round =>
    clear start z0
    obtain ⟨j, G, gc, hj, h8, hA, bq, hO, hT⟩ := hrel
    have hlen : (c.drop (8 * j)).length = c.length - 8 * j := List.length_drop
    obtain ⟨m, hm⟩ : ∃ m, (c.drop (8 * j)).length = m := ⟨_, rfl⟩
    rw [hm] at hlen
    have HA := Lib.hid hA
    obtain ⟨A, ac, r1, r2, r3, r4, r5⟩ := hA
    rw [hm] at r1
    have d0 : wr.cell? ⟨b, 0, none⟩ = some (.slice A m ac) := r1.cell' (i := 0) rfl
    have d7 : wr.cell? ⟨q, 7, none⟩ = some (.slice G j gc) := bq.cell' (i := 7) rfl
    have D7 := Lib.hid d7
    have HM := Lib.hid hm
    clear r1 r2 r3 r4 r5 hm
    by_cases hm0 : m = 0
    ·
      subst hm0
      have HR := Lib.hid (restR_4b (id := id) (c := c) (j := j) (by omega) hj)
      have hA2 : RdrAt wr b N [] := by
        have := HA.out
        rw [List.eq_nil_of_length_eq_zero HM.out] at this
        exact this
      have hT2 := hT
      have HGL := Lib.hid (gapsOf_len c j)
      obtain ⟨gs, hgs⟩ : ∃ gs, gapsOf c j = gs := ⟨_, rfl⟩
      rw [hgs] at hO HR HGL
      have HO : Hid (Own wr (q + 1) 66 2 G gs.length gc (gps gs)) := Lib.hid (by rw [HGL.out]; exact hO)
      rw [← HGL.out] at bq
      clear HA hT hO hlen hgs d7
      go_upto_region 16 with fail
      clear d0
      go_wp2_with (first
        | (refine wpList_load_row rfl 27 (.tmp 2) rfl q rfl 27 #[.int .i64 4, .int .i64 id, .string ⟨#[]⟩, .int .i64 0, .int .i64 0, .int .i64 0, .slice none 0 0, .slice G gs.length gc, .int .i64 0, .int .i64 0] (0, 0) _ bq Try.underlying27 rfl notesz ?_)
        | (refine wpList_store_row rfl 27 (.tmp 2) (.tmp 69) rfl q #[.int .i64 4, .int .i64 id, .string ⟨#[]⟩, .int .i64 0, .int .i64 0, .int .i64 0, .slice none 0 0, .slice G gs.length gc, .int .i64 0, .int .i64 0] rfl rfl 27 _ bq notesz rfl (by simp [Value.oneCell']) ?_))
      have bq9 := bq.row #[.int .i64 4, .int .i64 id, .string ⟨#[]⟩, .int .i64 0, .int .i64 0, .int .i64 0, .slice none 0 0, .slice G gs.length gc, .int .i64 0, .int .i64 0]
      refine bodyPost_ret (v := .agg #[.int .i64 4, .int .i64 id, .string ⟨#[]⟩, .int .i64 0, .int .i64 0, .int .i64 0, .slice none 0 0, .slice G gs.length gc, .int .i64 0, .int .i64 0]) (results_cell_row (ty := 27) rfl _ _ q 27 _ (0, 0) _ rfl bq9 Try.underlying27 rfl notesz) rfl ?_
      exact note_fin #[.int .i64 4, .int .i64 id, .string ⟨#[]⟩, .int .i64 0, .int .i64 0, .int .i64 0, .slice none 0 0, .slice G gs.length gc, .int .i64 0, .int .i64 0] (HNR.out.trans HR.out) HQ.out hbq hNw hA2 hT2 (Own.none_ _ _ _ _) HO.out
    have hmi : (0 : Int) < (m : Int) := by omega
    by_cases hj21 : j = 21
    ·
      have HR : Hid (restR 4 id c = some (⟨4, id, ⟨#[]⟩, 0, 0, 0, [], gapsOf c j, 0, 0⟩, c.drop (8 * j))) := Lib.hid (by rw [hj21]; exact restR_4a (by omega))
      have hd20 : ¬ (j : Int) ≤ 20 := by omega
      have hd20n : ¬ j ≤ 20 := by omega
      have hA2 := HA.out
      have hT2 := hT
      have HGL := Lib.hid (gapsOf_len c j)
      obtain ⟨gs, hgs⟩ : ∃ gs, gapsOf c j = gs := ⟨_, rfl⟩
      rw [hgs] at hO HR HGL
      have HO : Hid (Own wr (q + 1) 66 2 G gs.length gc (gps gs)) := Lib.hid (by rw [HGL.out]; exact hO)
      rw [← HGL.out] at bq
      clear HA hT hO hlen hgs hj21
      go_upto_region 16 with fail
      clear d0 d7
      go_wp2_with (first
        | (refine wpList_load_row rfl 27 (.tmp 2) rfl q rfl 27 #[.int .i64 4, .int .i64 id, .string ⟨#[]⟩, .int .i64 0, .int .i64 0, .int .i64 0, .slice none 0 0, .slice G gs.length gc, .int .i64 0, .int .i64 0] (0, 0) _ bq Try.underlying27 rfl notesz ?_)
        | (refine wpList_store_row rfl 27 (.tmp 2) (.tmp 69) rfl q #[.int .i64 4, .int .i64 id, .string ⟨#[]⟩, .int .i64 0, .int .i64 0, .int .i64 0, .slice none 0 0, .slice G gs.length gc, .int .i64 0, .int .i64 0] rfl rfl 27 _ bq notesz rfl (by simp [Value.oneCell']) ?_))
      have bq9 := bq.row #[.int .i64 4, .int .i64 id, .string ⟨#[]⟩, .int .i64 0, .int .i64 0, .int .i64 0, .slice none 0 0, .slice G gs.length gc, .int .i64 0, .int .i64 0]
      refine bodyPost_ret (v := .agg #[.int .i64 4, .int .i64 id, .string ⟨#[]⟩, .int .i64 0, .int .i64 0, .int .i64 0, .slice none 0 0, .slice G gs.length gc, .int .i64 0, .int .i64 0]) (results_cell_row (ty := 27) rfl _ _ q 27 _ (0, 0) _ rfl bq9 Try.underlying27 rfl notesz) rfl ?_
      exact note_fin #[.int .i64 4, .int .i64 id, .string ⟨#[]⟩, .int .i64 0, .int .i64 0, .int .i64 0, .slice none 0 0, .slice G gs.length gc, .int .i64 0, .int .i64 0] (HNR.out.trans HR.out) HQ.out hbq hNw hA2 hT2 (Own.none_ _ _ _ _) HO.out
    have hd20 : (j : Int) ≤ 20 := by omega
    have hd20n : j ≤ 20 := by omega
    clear hj21
    go_upto_region 11 with fail
    clear d0 d7
    have hA2 : RdrAt wr.drew b N (c.drop (8 * j)) := HA.out.step ((Below.refl _ _).drew)
    have d7 : wr.drew.cell? ⟨q, 7, none⟩ = some (.slice G j gc) := bq.drew.cell' (i := 7) rfl
    refine heldRegion (fun v => v.cell? ⟨q, 7, none⟩ = some (.slice G j gc)) 10 (by kernel_rfl) (by kernel_rfl) d7 (fun hSS => ?_)
    clear hSS HA
    replace bq := bq.drew
    replace hO := hO.drew
    have hT2 : Turned w wr.drew (fun i => i = b) := hT.drewN 1
    clear hT
    generalize wr.drew = W1 at *
    by_cases hm4 : m < 4
    ·
      have CN := Lib.hid (number_no_at b N 4 (c.drop (8 * j)) W1 hA2 (by rw [HM.out]; omega) (by omega))
      have HR := Lib.hid (restR_4n (id := id) (c := c) (by omega) (by omega))
      clear hm4 hlen
      refine walk_take 0 (v := ?va0) rfl (by kernel_rfl) (by kernel_rfl) (by kernel_rfl) (fun _ _ _ h => h) (d7) (Or.inl ⟨by rfl, ?ya0⟩) ?ra0
      case ya0 => intro w hSw; (try dsimp only at hSw); go_simp; try rfl
      case' ra0 => try simp only [List.getElem_toArray, List.getElem_cons_succ, List.getElem_cons_zero, Act.put, List.setIfInBounds_toArray, List.set_cons_zero, List.set_cons_succ]
      refine walk_take 1 (v := ?va1) rfl (by kernel_rfl) (by kernel_rfl) (by kernel_rfl) (fun _ _ _ h => h) (d7) (Or.inl ⟨by rfl, ?ya1⟩) ?ra1
      case ya1 => intro w hSw; (try dsimp only at hSw); go_simp; try rfl
      case' ra1 => try simp only [List.getElem_toArray, List.getElem_cons_succ, List.getElem_cons_zero, Act.put, List.setIfInBounds_toArray, List.set_cons_zero, List.set_cons_succ]
      refine walk_take 2 (v := ?va2) rfl (by kernel_rfl) (by kernel_rfl) (by kernel_rfl) (fun _ _ _ h => h) (d7) (Or.inl ⟨by rfl, ?ya2⟩) ?ra2
      case ya2 => intro w hSw; (try dsimp only at hSw); go_simp; try rfl
      case' ra2 => try simp only [List.getElem_toArray, List.getElem_cons_succ, List.getElem_cons_zero, Act.put, List.setIfInBounds_toArray, List.set_cons_zero, List.set_cons_succ]
      refine walk_take 4 (v := ?va4) rfl (by kernel_rfl) (by kernel_rfl) (by kernel_rfl) (fun _ _ _ h => h) (d7) (Or.inl ⟨by rfl, ?ya4⟩) ?ra4
      case ya4 => intro w hSw; (try dsimp only at hSw); go_simp; try rfl
      case' ra4 => try simp only [List.getElem_toArray, List.getElem_cons_succ, List.getElem_cons_zero, Act.put, List.setIfInBounds_toArray, List.set_cons_zero, List.set_cons_succ]
      refine walk_step 3 rfl (by kernel_rfl) (by kernel_rfl) (fun K hK => ?n1)
      case n1 =>
        go_simp
        refine CN.out.mono ?_
        rintro e w' ⟨rfl, rfl⟩
        exact ⟨rfl, NotePost.none_ (HNR.out.trans HR.out) rfl hT2⟩
    have CN := Lib.hid (number_at b N 4 (c.drop (8 * j)) W1 hA2 hN (by rw [HM.out]; omega) (by omega))
    rw [beN_4, fAt_drop, List.drop_drop, Nat.add_zero] at CN
    have hdl : (c.drop (8 * j + 4)).length = m - 4 := by rw [List.length_drop]; omega
    by_cases hm8 : m < 8
    ·
      have HR := Lib.hid (restR_4n (id := id) (c := c) (by omega) (by omega))
      have CN2 := Lib.hid (fun (V : World) (hA : RdrAt V b N (c.drop (8 * j + 4))) => number_no_at b N 4 (c.drop (8 * j + 4)) V hA (by rw [hdl]; omega) (by omega))
      clear hm4 hm8 hlen hdl
      refine walk_take 0 (v := ?vc0) rfl (by kernel_rfl) (by kernel_rfl) (by kernel_rfl) (fun _ _ _ h => h) (d7) (Or.inl ⟨by rfl, ?yc0⟩) ?rc0
      case yc0 => intro w hSw; (try dsimp only at hSw); go_simp; try rfl
      case' rc0 => try simp only [List.getElem_toArray, List.getElem_cons_succ, List.getElem_cons_zero, Act.put, List.setIfInBounds_toArray, List.set_cons_zero, List.set_cons_succ]
      refine walk_take 1 (v := ?vc1) rfl (by kernel_rfl) (by kernel_rfl) (by kernel_rfl) (fun _ _ _ h => h) (d7) (Or.inl ⟨by rfl, ?yc1⟩) ?rc1
      case yc1 => intro w hSw; (try dsimp only at hSw); go_simp; try rfl
      case' rc1 => try simp only [List.getElem_toArray, List.getElem_cons_succ, List.getElem_cons_zero, Act.put, List.setIfInBounds_toArray, List.set_cons_zero, List.set_cons_succ]
      refine walk_take 2 (v := ?vc2) rfl (by kernel_rfl) (by kernel_rfl) (by kernel_rfl) (fun _ _ _ h => h) (d7) (Or.inl ⟨by rfl, ?yc2⟩) ?rc2
      case yc2 => intro w hSw; (try dsimp only at hSw); go_simp; try rfl
      case' rc2 => try simp only [List.getElem_toArray, List.getElem_cons_succ, List.getElem_cons_zero, Act.put, List.setIfInBounds_toArray, List.set_cons_zero, List.set_cons_succ]
      refine walk_take 4 (v := ?vc4) rfl (by kernel_rfl) (by kernel_rfl) (by kernel_rfl) (fun _ _ _ h => h) (d7) (Or.inl ⟨by rfl, ?yc4⟩) ?rc4
      case yc4 => intro w hSw; (try dsimp only at hSw); go_simp; try rfl
      case' rc4 => try simp only [List.getElem_toArray, List.getElem_cons_succ, List.getElem_cons_zero, Act.put, List.setIfInBounds_toArray, List.set_cons_zero, List.set_cons_succ]
      refine walk_step 3 rfl (by kernel_rfl) (by kernel_rfl) (fun K hK => ?o1)
      case o1 =>
        go_simp
        refine CN.out.mono ?_
        rintro e w3 ⟨rfl, hA3, hT3⟩
        replace bq := bq.turned hT3 hqb
        replace d7 := bq.cell' (i := 7) rfl
        replace hT2 := hT2.trans hT3 (fun _ _ h => h)
        refine hK _ _ d7 ?_
        clear hK K CN
        try simp only [List.getElem_toArray, List.getElem_cons_succ, List.getElem_cons_zero, Act.put, List.setIfInBounds_toArray, List.set_cons_zero, List.set_cons_succ]
        refine walk_step 5 rfl (by kernel_rfl) (by kernel_rfl) (fun K hK => ?o2)
        case o2 =>
          go_simp
          refine (CN2.out w3 hA3).mono ?_
          rintro e w' ⟨rfl, rfl⟩
          exact ⟨rfl, NotePost.none_ (HNR.out.trans HR.out) rfl hT2⟩
    have CN2 := Lib.hid (fun (V : World) (hA : RdrAt V b N (c.drop (8 * j + 4))) => number_at b N 4 (c.drop (8 * j + 4)) V hA hN (by rw [hdl]; omega) (by omega))
    rw [beN_4, fAt_drop, List.drop_drop, Nat.add_zero] at CN2
    have HGS := Lib.hid (gapsOf_succ c j)
    obtain ⟨x, hx⟩ : ∃ x, fAt c (8 * j) = x := ⟨_, rfl⟩
    obtain ⟨y, hy⟩ : ∃ y, fAt c (8 * j + 4) = y := ⟨_, rfl⟩
    rw [hx] at CN HGS
    rw [hy] at CN2 HGS
    have h88 : 8 * (j + 1) ≤ c.length := by omega
    clear hx hy hm4 hm8 hlen hdl
    refine walk_take 0 (v := ?ve0) rfl (by kernel_rfl) (by kernel_rfl) (by kernel_rfl) (fun _ _ _ h => h) (d7) (Or.inl ⟨by rfl, ?ye0⟩) ?re0
    case ye0 => intro w hSw; (try dsimp only at hSw); go_simp; try rfl
    case' re0 => try simp only [List.getElem_toArray, List.getElem_cons_succ, List.getElem_cons_zero, Act.put, List.setIfInBounds_toArray, List.set_cons_zero, List.set_cons_succ]
    refine walk_take 1 (v := ?ve1) rfl (by kernel_rfl) (by kernel_rfl) (by kernel_rfl) (fun _ _ _ h => h) (d7) (Or.inl ⟨by rfl, ?ye1⟩) ?re1
    case ye1 => intro w hSw; (try dsimp only at hSw); go_simp; try rfl
    case' re1 => try simp only [List.getElem_toArray, List.getElem_cons_succ, List.getElem_cons_zero, Act.put, List.setIfInBounds_toArray, List.set_cons_zero, List.set_cons_succ]
    refine walk_take 2 (v := ?ve2) rfl (by kernel_rfl) (by kernel_rfl) (by kernel_rfl) (fun _ _ _ h => h) (d7) (Or.inl ⟨by rfl, ?ye2⟩) ?re2
    case ye2 => intro w hSw; (try dsimp only at hSw); go_simp; try rfl
    case' re2 => try simp only [List.getElem_toArray, List.getElem_cons_succ, List.getElem_cons_zero, Act.put, List.setIfInBounds_toArray, List.set_cons_zero, List.set_cons_succ]
    refine walk_take 4 (v := ?ve4) rfl (by kernel_rfl) (by kernel_rfl) (by kernel_rfl) (fun _ _ _ h => h) (d7) (Or.inl ⟨by rfl, ?ye4⟩) ?re4
    case ye4 => intro w hSw; (try dsimp only at hSw); go_simp; try rfl
    case' re4 => try simp only [List.getElem_toArray, List.getElem_cons_succ, List.getElem_cons_zero, Act.put, List.setIfInBounds_toArray, List.set_cons_zero, List.set_cons_succ]
    refine walk_step 3 rfl (by kernel_rfl) (by kernel_rfl) (fun K hK => ?q1)
    case q1 =>
      go_simp
      refine CN.out.mono ?_
      rintro e w3 ⟨rfl, hA3, hT3⟩
      replace hO := hO.turned hT3 (fun k hk e => by have := (hO.lt k hk).1; omega)
      replace bq := bq.turned hT3 hqb
      replace d7 := bq.cell' (i := 7) rfl
      replace hT2 := hT2.trans hT3 (fun _ _ h => h)
      refine hK _ _ d7 ?_
      clear hK K CN hA2 hT3
      try simp only [List.getElem_toArray, List.getElem_cons_succ, List.getElem_cons_zero, Act.put, List.setIfInBounds_toArray, List.set_cons_zero, List.set_cons_succ]
      refine walk_step 5 rfl (by kernel_rfl) (by kernel_rfl) (fun K hK => ?q2)
      case q2 =>
        go_simp
        refine (CN2.out w3 hA3).mono ?_
        rintro e w4 ⟨rfl, hA4, hT4⟩
        replace hO := hO.turned hT4 (fun k hk e => by have := (hO.lt k hk).1; omega)
        replace bq := bq.turned hT4 hqb
        replace d7 := bq.cell' (i := 7) rfl
        replace hT2 := hT2.trans hT4 (fun _ _ h => h)
        rw [show 8 * j + 4 + 4 = 8 * (j + 1) by omega] at hA4
        refine hK _ _ d7 ?_
        clear hK K CN2 hA3 hT4
        try simp only [List.getElem_toArray, List.getElem_cons_succ, List.getElem_cons_zero, Act.put, List.setIfInBounds_toArray, List.set_cons_zero, List.set_cons_succ]
        refine walk_take 6 (v := ?vf6) rfl (by kernel_rfl) (by kernel_rfl) (by kernel_rfl) (fun _ _ _ h => h) (d7) (Or.inl ⟨by rfl, ?yf6⟩) ?rf6
        case yf6 => intro w hSw; (try dsimp only at hSw); go_simp; try rfl
        case' rf6 => try simp only [List.getElem_toArray, List.getElem_cons_succ, List.getElem_cons_zero, Act.put, List.setIfInBounds_toArray, List.set_cons_zero, List.set_cons_succ]
        have hRL := Rd_lit w4 [.int .i64 x, .int .i64 y] 66
        have bq2 := bq.alloc (.cells #[.int .i64 x, .int .i64 y] 66)
        have hO2 := hO.alloc (.cells #[.int .i64 x, .int .i64 y] 66)
        have hA5 := hA4.step ((Below.refl w4.heap.size w4).alloc (Nat.le_refl _) (.cells #[.int .i64 x, .int .i64 y] 66))
        have hT5 := hT2.step (v' := w4.alloc (.cells #[.int .i64 x, .int .i64 y] 66)) ((Below.refl _ _).alloc (Nat.le_refl _) _)
        have d72 : (w4.alloc (.cells #[.int .i64 x, .int .i64 y] 66)).cell? ⟨q, 7, none⟩ = some (.slice G j gc) := bq2.cell' (i := 7) rfl
        have hbs : q + 1 ≤ (w4.alloc (.cells #[.int .i64 x, .int .i64 y] 66)).heap.size := by have := bq2.lt; omega
        refine walk_step 7 rfl (by kernel_rfl) (by kernel_rfl) (fun K hK => ?bs)
        case bs =>
          go_simp
          refine hK _ _ d72 ?_
          clear hK K
          try simp only [List.getElem_toArray, List.getElem_cons_succ, List.getElem_cons_zero, Act.put, List.setIfInBounds_toArray, List.set_cons_zero, List.set_cons_succ]
          have q4 : j + 1 ≤ maxLen := by unfold maxLen; omega
          have q5 : (j + 1) * 16 ≤ 140737488355328 := by omega
          have hone : Hid (∀ u ∈ [Value.int .i64 x, .int .i64 y], u.oneCell' = true) := Lib.hid (gps_one [(x, y)])
          refine walk_step 8 rfl (by kernel_rfl) (by kernel_rfl) (fun K hK => ?ap)
          case ap =>
            rw [if_pos (by kernel_rfl)]
            refine wp_append_Own _ (.tmp 50) (.tmp 56) 24 rfl (q + 1) 66 j0 _ 2 16 Try.underlying24 hj0 hy0 hy1 hy2 rfl G j gc (gps (gapsOf c j)) rfl hO2 (some ⟨w4.heap.size, 0, none⟩) 1 1 [.int .i64 x, .int .i64 y] rfl rfl hRL hone.out q4 q5 hbs ?_
            intro G6 c6 w6 hO6 hg6 hor6
            have bq6 := bq2.grown hg6 (fun e => (hO2.notBlk bq2 (by decide)) e.symm)
            have hA6 : RdrAt w6 b N (c.drop (8 * (j + 1))) := hA5.turned (grownBy_turned hg6) (fun e => by
              obtain ⟨A9, c9, r1, -⟩ := hA5
              exact (hO2.notBlk r1 (by decide)) e) (fun k hk e => by have := (hO2.lt k e).1; omega)
            have hT6 := hT5.grown hg6 (fun k hk hlt => by have := (hO2.lt k hk).1; have := HQ.out; omega)
            have d76 : w6.cell? ⟨q, 7, none⟩ = some (.slice G j gc) := bq6.cell' (i := 7) rfl
            refine hK _ _ d76 ?_
            clear hK K hRL bq2 hO2 hA5 hT5 d72 hbs q4 q5 hone bq hO hA4 hT2 d7
            try simp only [List.getElem_toArray, List.getElem_cons_succ, List.getElem_cons_zero, Act.put, List.setIfInBounds_toArray, List.set_cons_zero, List.set_cons_succ]
            refine walk_take 9 (v := ?vg9) rfl (by kernel_rfl) (by kernel_rfl) (by kernel_rfl) (fun _ _ _ h => h) (d76) (Or.inl ⟨by rfl, ?yg9⟩) ?rg9
            case yg9 => intro w hSw; (try dsimp only at hSw); go_simp; try rfl
            case' rg9 => try simp only [List.getElem_toArray, List.getElem_cons_succ, List.getElem_cons_zero, Act.put, List.setIfInBounds_toArray, List.set_cons_zero, List.set_cons_succ]
            have kf := bq6.frozen
            refine walk_tail (by kernel_rfl) ?_
            simp only [List.drop_succ_cons, List.drop_zero]
            go_wp2_with fail
            go_roundw
            case rel =>
              refine ⟨j + 1, G6, c6, by omega, h88, hA6.far (q := q) (i := 7) hbq hNw _, bq6.set_ 7 (.slice G6 (j + 1) c6), ?_, hT6.set (p := ⟨q, 7, none⟩) (fun h => by have := HQ.out; exact absurd h (by show ¬ q < w.heap.size; omega)) _⟩
              have e : gps (gapsOf c (j + 1)) = gps (gapsOf c j) ++ [.int .i64 x, .int .i64 y] := by rw [HGS.out]; simp [gps, gpc]
              rw [e]
              exact hO6.setFar (p := ⟨q, 7, none⟩) (hO6.notBlk bq6 (by decide)) _
            case measure =>
              have e7 : (w6.setCell ⟨q, 7, none⟩ (.slice G6 (j + 1) c6)).cell? ⟨q, 7, none⟩ = some (.slice G6 (j + 1) c6) := (bq6.set_ 7 (.slice G6 (j + 1) c6)).cell' (i := 7) rfl
              rw [e7, D7.out]
              simp only [Option.getD_some, gapLen]
              omega
end Go.Proofs.Ytianombjgdmbeaa
