/-
  Small words of tests. A reader's note, kind by kind: an end, a piece, a meta, none.
-/
import Derived.Test.YtianombjgdmbeaaMDeliverDecodes27
import Derived.Test.YtianombjgdmbeaaMDeliverDecodes28
namespace Go.Proofs.Ytianombjgdmbeaa
set_option linter.unusedSimpArgs false
set_option linter.unusedVariables false
open Go.RowKit

theorem bne_t {a b : Int} (h : a ≠ b) : (a != b) = true := bne_iff_ne.2 h
theorem bne_f {a b : Int} (h : a = b) : (a != b) = false := by rw [h]; simp
theorem beq_t {a b : Int} (h : a = b) : (a == b) = true := by rw [beq_iff_eq]; exact h
theorem beq_f {a b : Int} (h : a ≠ b) : (a == b) = false := by rw [beq_eq_false_iff_ne]; exact h
theorem askG_yes {L : Int} {acc : List (Int × Int)} {a b q : Int} (h : acc.length < 1000) (hq : min b L = q) (h2 : b = 0 ∨ a < q) : askG L acc (a, b) = acc ++ [(a, q)] := by unfold askG; rw [if_pos ⟨h, by rw [hq]; exact h2⟩, hq]
theorem askG_no {L : Int} {acc : List (Int × Int)} {a b q : Int} (hq : min b L = q) (h2 : ¬ (b = 0 ∨ a < q)) : askG L acc (a, b) = acc := by unfold askG; rw [if_neg (fun h => h2 (by have := h.2; rw [hq] at this; exact this))]
end Go.Proofs.Ytianombjgdmbeaa
namespace Go.Proofs.Ytianombjgdmbeaa
set_option linter.unusedSimpArgs false
set_option linter.unusedVariables false
open Go.RowKit

theorem restR_3 {id : Int} {c : List UInt8} (h : 8 ≤ c.length) : restR 3 id c = some (⟨3, id, ⟨#[]⟩, fAt c 0, fAt c 4, 0, [], [], 0, 0⟩, c.drop 8) := by unfold restR; rw [if_neg (by decide), if_neg (by decide), if_pos rfl, if_neg (by omega)]
theorem restR_3n {id : Int} {c : List UInt8} (h : c.length < 8) : restR 3 id c = none := by unfold restR; rw [if_neg (by decide), if_neg (by decide), if_pos rfl, if_pos h]
theorem restR_2 {id : Int} {c : List UInt8} (h : 4 ≤ c.length) : restR 2 id c = some (⟨2, id, ⟨#[]⟩, 0, 0, fAt c 0, c.drop 4, [], 0, 0⟩, []) := by unfold restR; rw [if_neg (by decide), if_pos rfl, if_neg (by omega)]
theorem restR_2n {id : Int} {c : List UInt8} (h : c.length < 4) : restR 2 id c = none := by unfold restR; rw [if_neg (by decide), if_pos rfl, if_pos h]
theorem restR_1 {id : Int} {c : List UInt8} (h : 4 ≤ c.length) : restR 1 id c = some (⟨1, id, strOf (c.drop 4), fAt c 0, 0, 0, [], [], 0, 0⟩, []) := by unfold restR; rw [if_pos rfl, if_neg (by omega)]
theorem restR_1n {id : Int} {c : List UInt8} (h : c.length < 4) : restR 1 id c = none := by unfold restR; rw [if_pos rfl, if_pos h]
theorem restR_o {kd id : Int} {c : List UInt8} (h1 : kd ≠ 1) (h2 : kd ≠ 2) (h3 : kd ≠ 3) (h4 : kd ≠ 4) (h5 : kd ≠ 5) (h6 : kd ≠ 6) : restR kd id c = some (⟨kd, id, ⟨#[]⟩, 0, 0, 0, [], [], 0, 0⟩, c) := by unfold restR; rw [if_neg h1, if_neg h2, if_neg h3, if_neg h4, if_neg h5, if_neg h6]
set_option maxHeartbeats 3200000 in
set_option maxRecDepth 100000 in
theorem note_o (kd : Int) (b N : Nat) (l : List UInt8) (w : World) (h : RdrAt w b N l) (hN : N ≤ b) (hbw : b < w.heap.size) (hl : 3 ≤ l.length) (hk : (bAt l 0 : Int) = kd) (k1 : kd ≠ 1) (k2 : kd ≠ 2) (k3 : kd ≠ 3) (k4 : kd ≠ 4) (k5 : kd ≠ 5) (k6 : kd ≠ 6) :
    Calls Try.prog 46 #[.pointer (some ⟨b, 0, none⟩)] w fun e w' => NotePost w w' b N (noteR l) e := by
  have j1 := beq_f k1
  have j2 := beq_f k2
  have j3 := beq_f k3
  have j4 := beq_f k4
  have j5 := beq_f k5
  have j6 := beq_f k6
  have HRO := Lib.hid (fun (id : Int) (c : List UInt8) => restR_o (id := id) (c := c) k1 k2 k3 k4 k5 k6)
  clear k1 k2 k3 k4 k5 k6
  have h1 : 1 ≤ l.length := by omega
  have hNw : N ≤ w.heap.size := by omega
  have CN := Lib.hid (fun (W : World) (hA : RdrAt W b N l) => number_at b N 1 l W hA hN h1 (by omega))
  have CN2 := Lib.hid (fun (W : World) (hA : RdrAt W b N (l.drop 1)) => number_at b N 2 (l.drop 1) W hA hN (by rw [List.length_drop]; omega) (by omega))
  rw [beN_1, hk] at CN
  obtain ⟨id, hid⟩ : ∃ id, (bAt l 1 : Int) * 256 + (bAt l 2 : Int) = id := ⟨_, rfl⟩
  rw [beN_2, bAt_drop, bAt_drop, hid] at CN2
  have HNR : Hid (noteR l = restR kd id (l.drop 3)) := Lib.hid (by unfold noteR; rw [if_neg (by omega), hk, hid])
  have hA := h.step ((Below.refl w.heap.size w).alloc (Nat.le_refl _) (.cells #[.int .i64 0, .int .i64 0, .string ⟨#[]⟩, .int .i64 0, .int .i64 0, .int .i64 0, .slice none 0 0, .slice none 0 0, .int .i64 0, .int .i64 0] 27))
  have hT : Turned w (w.alloc (.cells #[.int .i64 0, .int .i64 0, .string ⟨#[]⟩, .int .i64 0, .int .i64 0, .int .i64 0, .slice none 0 0, .slice none 0 0, .int .i64 0, .int .i64 0] 27)) (fun i => i = b) := (Turned.refl _ _).step ((Below.refl _ _).alloc (Nat.le_refl _) _)
  have bq := Blk.new w 27 #[.int .i64 0, .int .i64 0, .string ⟨#[]⟩, .int .i64 0, .int .i64 0, .int .i64 0, .slice none 0 0, .slice none 0 0, .int .i64 0, .int .i64 0]
  have HL := Lib.hid hl
  clear h hk hid hl h1
  go_enter Try.func46, Try.ntmps46
  go_upto_region 1 with fail
  generalize w.alloc (.cells #[.int .i64 0, .int .i64 0, .string ⟨#[]⟩, .int .i64 0, .int .i64 0, .int .i64 0, .slice none 0 0, .slice none 0 0, .int .i64 0, .int .i64 0] 27) = W at *
  obtain ⟨q, hq⟩ : ∃ q, w.heap.size = q := ⟨_, rfl⟩
  have HQ := Lib.hid hq
  rw [hq] at bq hbw hNw ⊢
  clear hq
  have hbq : ¬ b = q := by omega
  have hqb : ¬ q = b := by omega
  go_wp2_with fail
  refine (CN.out W hA).mono ?_
  rintro e w1 ⟨rfl, hA1, hT1⟩
  replace bq := bq.turned hT1 hqb
  replace hT1 := hT.trans hT1 (fun _ _ h => h)
  clear hT hA CN
  go_wp2_with fail
  refine (CN2.out w1 hA1).mono ?_
  rintro e w2 ⟨rfl, hA2, hT2⟩
  replace bq := bq.turned hT2 hqb
  replace hT2 := hT1.trans hT2 (fun _ _ h => h)
  rw [List.drop_drop] at hA2
  clear hT1 hA1 CN2 W w1
  have kf := bq.frozen
  have y0 := bq.cell' (i := 0) rfl
  have b0 := bq.set_ 0 (.int .i64 (kd))
  have kf0 := b0.frozen
  have y1 := b0.cell' (i := 1) rfl
  have b1 := b0.set_ 1 (.int .i64 id)
  replace hA2 := (hA2.far (q := q) (i := 0) hbq hNw (.int .i64 (kd))).far (q := q) (i := 1) hbq hNw (.int .i64 id)
  replace hT2 := (hT2.set (p := ⟨q, 0, none⟩) (fun h => by have := HQ.out; exact absurd h (by show ¬ q < w.heap.size; omega)) (.int .i64 (kd))).set (p := ⟨q, 1, none⟩) (fun h => by have := HQ.out; exact absurd h (by show ¬ q < w.heap.size; omega)) (.int .i64 id)
  clear bq
  go_upto_region 2 with fail
  clear kf y0 kf0 y1 b0
  generalize (w2.setCell ⟨q, 0, none⟩ (.int .i64 (kd))).setCell ⟨q, 1, none⟩ (.int .i64 id) = W at *
  clear w2
  have z0 := b1.cell' (i := 0) rfl
  obtain ⟨c, hc⟩ : ∃ c, l.drop 3 = c := ⟨_, rfl⟩
  rw [hc] at hA2 HNR
  have HC := Lib.hid hc
  clear hc
  have HR := Lib.hid (HRO.out id c)
  have bq := b1
  clear b1
  go_wp2_with (first
    | (refine wpList_load_row rfl 27 (.tmp 2) rfl q rfl 27 #[.int .i64 kd, .int .i64 id, .string ⟨#[]⟩, .int .i64 0, .int .i64 0, .int .i64 0, .slice none 0 0, .slice none 0 0, .int .i64 0, .int .i64 0] (0, 0) _ bq Try.underlying27 rfl notesz ?_)
    | (refine wpList_store_row rfl 27 (.tmp 2) (.tmp 69) rfl q #[.int .i64 kd, .int .i64 id, .string ⟨#[]⟩, .int .i64 0, .int .i64 0, .int .i64 0, .slice none 0 0, .slice none 0 0, .int .i64 0, .int .i64 0] rfl rfl 27 _ bq notesz rfl (by simp [Value.oneCell']) ?_))
  have bq9 := bq.row #[.int .i64 kd, .int .i64 id, .string ⟨#[]⟩, .int .i64 0, .int .i64 0, .int .i64 0, .slice none 0 0, .slice none 0 0, .int .i64 0, .int .i64 0]
  refine bodyPost_ret (v := .agg #[.int .i64 kd, .int .i64 id, .string ⟨#[]⟩, .int .i64 0, .int .i64 0, .int .i64 0, .slice none 0 0, .slice none 0 0, .int .i64 0, .int .i64 0]) (results_cell_row (ty := 27) rfl _ _ q 27 _ (0, 0) _ rfl bq9 Try.underlying27 rfl notesz) rfl ?_
  exact note_fin #[.int .i64 kd, .int .i64 id, .string ⟨#[]⟩, .int .i64 0, .int .i64 0, .int .i64 0, .slice none 0 0, .slice none 0 0, .int .i64 0, .int .i64 0] (HNR.out.trans HR.out) HQ.out hbq hNw hA2 hT2 (Own.none_ _ _ _ _) (Own.none_ _ _ _ _)
set_option maxHeartbeats 3200000 in
set_option maxRecDepth 100000 in
theorem note_3 (b N : Nat) (l : List UInt8) (w : World) (h : RdrAt w b N l) (hN : N ≤ b) (hbw : b < w.heap.size) (hl : 3 ≤ l.length) (hk : (bAt l 0 : Int) = 3) :
    Calls Try.prog 46 #[.pointer (some ⟨b, 0, none⟩)] w fun e w' => NotePost w w' b N (noteR l) e := by
  have h1 : 1 ≤ l.length := by omega
  have hNw : N ≤ w.heap.size := by omega
  have CN := Lib.hid (fun (W : World) (hA : RdrAt W b N l) => number_at b N 1 l W hA hN h1 (by omega))
  have CN2 := Lib.hid (fun (W : World) (hA : RdrAt W b N (l.drop 1)) => number_at b N 2 (l.drop 1) W hA hN (by rw [List.length_drop]; omega) (by omega))
  rw [beN_1, hk] at CN
  obtain ⟨id, hid⟩ : ∃ id, (bAt l 1 : Int) * 256 + (bAt l 2 : Int) = id := ⟨_, rfl⟩
  rw [beN_2, bAt_drop, bAt_drop, hid] at CN2
  have HNR : Hid (noteR l = restR 3 id (l.drop 3)) := Lib.hid (by unfold noteR; rw [if_neg (by omega), hk, hid])
  have hA := h.step ((Below.refl w.heap.size w).alloc (Nat.le_refl _) (.cells #[.int .i64 0, .int .i64 0, .string ⟨#[]⟩, .int .i64 0, .int .i64 0, .int .i64 0, .slice none 0 0, .slice none 0 0, .int .i64 0, .int .i64 0] 27))
  have hT : Turned w (w.alloc (.cells #[.int .i64 0, .int .i64 0, .string ⟨#[]⟩, .int .i64 0, .int .i64 0, .int .i64 0, .slice none 0 0, .slice none 0 0, .int .i64 0, .int .i64 0] 27)) (fun i => i = b) := (Turned.refl _ _).step ((Below.refl _ _).alloc (Nat.le_refl _) _)
  have bq := Blk.new w 27 #[.int .i64 0, .int .i64 0, .string ⟨#[]⟩, .int .i64 0, .int .i64 0, .int .i64 0, .slice none 0 0, .slice none 0 0, .int .i64 0, .int .i64 0]
  have HL := Lib.hid hl
  clear h hk hid hl h1
  go_enter Try.func46, Try.ntmps46
  go_upto_region 1 with fail
  generalize w.alloc (.cells #[.int .i64 0, .int .i64 0, .string ⟨#[]⟩, .int .i64 0, .int .i64 0, .int .i64 0, .slice none 0 0, .slice none 0 0, .int .i64 0, .int .i64 0] 27) = W at *
  obtain ⟨q, hq⟩ : ∃ q, w.heap.size = q := ⟨_, rfl⟩
  have HQ := Lib.hid hq
  rw [hq] at bq hbw hNw ⊢
  clear hq
  have hbq : ¬ b = q := by omega
  have hqb : ¬ q = b := by omega
  go_wp2_with fail
  refine (CN.out W hA).mono ?_
  rintro e w1 ⟨rfl, hA1, hT1⟩
  replace bq := bq.turned hT1 hqb
  replace hT1 := hT.trans hT1 (fun _ _ h => h)
  clear hT hA CN
  go_wp2_with fail
  refine (CN2.out w1 hA1).mono ?_
  rintro e w2 ⟨rfl, hA2, hT2⟩
  replace bq := bq.turned hT2 hqb
  replace hT2 := hT1.trans hT2 (fun _ _ h => h)
  rw [List.drop_drop] at hA2
  clear hT1 hA1 CN2 W w1
  have kf := bq.frozen
  have y0 := bq.cell' (i := 0) rfl
  have b0 := bq.set_ 0 (.int .i64 (3))
  have kf0 := b0.frozen
  have y1 := b0.cell' (i := 1) rfl
  have b1 := b0.set_ 1 (.int .i64 id)
  replace hA2 := (hA2.far (q := q) (i := 0) hbq hNw (.int .i64 (3))).far (q := q) (i := 1) hbq hNw (.int .i64 id)
  replace hT2 := (hT2.set (p := ⟨q, 0, none⟩) (fun h => by have := HQ.out; exact absurd h (by show ¬ q < w.heap.size; omega)) (.int .i64 (3))).set (p := ⟨q, 1, none⟩) (fun h => by have := HQ.out; exact absurd h (by show ¬ q < w.heap.size; omega)) (.int .i64 id)
  clear bq
  go_upto_region 2 with fail
  clear kf y0 kf0 y1 b0
  generalize (w2.setCell ⟨q, 0, none⟩ (.int .i64 (3))).setCell ⟨q, 1, none⟩ (.int .i64 id) = W at *
  clear w2
  have z0 := b1.cell' (i := 0) rfl
  obtain ⟨c, hc⟩ : ∃ c, l.drop 3 = c := ⟨_, rfl⟩
  rw [hc] at hA2 HNR
  have HC := Lib.hid hc
  clear hc
  by_cases h4 : c.length < 4
  ·
    have CN := Lib.hid (number_no_at b N 4 c W hA2 h4 (by omega))
    have HR := Lib.hid (restR_3n (id := id) (c := c) (by omega))
    clear h4
    go_wp2_with fail
    refine CN.out.mono ?_
    rintro e w' ⟨rfl, rfl⟩
    go_wp2_with fail
    exact ⟨rfl, NotePost.none_ (HNR.out.trans HR.out) rfl hT2⟩
  have CN := Lib.hid (number_at b N 4 c W hA2 hN (by omega) (by omega))
  rw [beN_4] at CN
  obtain ⟨x, hx⟩ : ∃ x, fAt c 0 = x := ⟨_, rfl⟩
  rw [hx] at CN
  have HX := Lib.hid hx
  clear hx
  have hd4 : (c.drop 4).length = c.length - 4 := List.length_drop
  by_cases h8 : c.length < 8
  ·
    have HR := Lib.hid (restR_3n (id := id) (c := c) h8)
    have CN2 := Lib.hid (fun (V : World) (hA : RdrAt V b N (c.drop 4)) => number_no_at b N 4 (c.drop 4) V hA (by omega) (by omega))
    clear h4 h8 hd4
    go_wp2_with fail
    refine CN.out.mono ?_
    rintro e w3 ⟨rfl, hA3, hT3⟩
    replace hT2 := hT2.trans hT3 (fun _ _ h => h)
    clear CN hA2 hT3 z0 b1
    go_wp2_with fail
    refine (CN2.out w3 hA3).mono ?_
    rintro e w' ⟨rfl, rfl⟩
    go_wp2_with fail
    exact ⟨rfl, NotePost.none_ (HNR.out.trans HR.out) rfl hT2⟩
  have HR := Lib.hid (restR_3 (id := id) (c := c) (by omega))
  have CN2 := Lib.hid (fun (V : World) (hA : RdrAt V b N (c.drop 4)) => number_at b N 4 (c.drop 4) V hA hN (by omega) (by omega))
  rw [beN_4, fAt_drop] at CN2
  obtain ⟨y, hy⟩ : ∃ y, fAt c 4 = y := ⟨_, rfl⟩
  rw [show 4 + 0 = 4 from rfl, hy] at CN2
  rw [HX.out, hy] at HR
  clear hy h4 h8 hd4 HX
  go_wp2_with fail
  refine CN.out.mono ?_
  rintro e w3 ⟨rfl, hA3, hT3⟩
  have bq := b1.turned hT3 hqb
  replace hT2 := hT2.trans hT3 (fun _ _ h => h)
  clear CN hA2 hT3 z0 b1
  go_wp2_with fail
  refine (CN2.out w3 hA3).mono ?_
  rintro e w4 ⟨rfl, hA4, hT4⟩
  replace bq := bq.turned hT4 hqb
  replace hT2 := hT2.trans hT4 (fun _ _ h => h)
  rw [List.drop_drop] at hA4
  have hA2 := hA4
  clear CN2 hA3 hA4 hT4
  have kf := bq.frozen
  have y3 := bq.cell' (i := 3) rfl
  have b3 := bq.set_ 3 (.int .i64 x)
  have kf3 := b3.frozen
  have y4 := b3.cell' (i := 4) rfl
  go_upto_region 16 with fail
  clear kf y3 b3 kf3 y4
  replace bq := (bq.set_ 3 (.int .i64 x)).set_ 4 (.int .i64 y)
  replace hA2 := (hA2.far (q := q) (i := 3) hbq hNw (.int .i64 x)).far (q := q) (i := 4) hbq hNw (.int .i64 y)
  replace hT2 := (hT2.set (p := ⟨q, 3, none⟩) (fun h => by have := HQ.out; exact absurd h (by show ¬ q < w.heap.size; omega)) (.int .i64 x)).set (p := ⟨q, 4, none⟩) (fun h => by have := HQ.out; exact absurd h (by show ¬ q < w.heap.size; omega)) (.int .i64 y)
  generalize (w4.setCell ⟨q, 3, none⟩ (.int .i64 x)).setCell ⟨q, 4, none⟩ (.int .i64 y) = W5 at *
  go_wp2_with (first
    | (refine wpList_load_row rfl 27 (.tmp 2) rfl q rfl 27 #[.int .i64 3, .int .i64 id, .string ⟨#[]⟩, .int .i64 x, .int .i64 y, .int .i64 0, .slice none 0 0, .slice none 0 0, .int .i64 0, .int .i64 0] (0, 0) _ bq Try.underlying27 rfl notesz ?_)
    | (refine wpList_store_row rfl 27 (.tmp 2) (.tmp 69) rfl q #[.int .i64 3, .int .i64 id, .string ⟨#[]⟩, .int .i64 x, .int .i64 y, .int .i64 0, .slice none 0 0, .slice none 0 0, .int .i64 0, .int .i64 0] rfl rfl 27 _ bq notesz rfl (by simp [Value.oneCell']) ?_))
  have bq9 := bq.row #[.int .i64 3, .int .i64 id, .string ⟨#[]⟩, .int .i64 x, .int .i64 y, .int .i64 0, .slice none 0 0, .slice none 0 0, .int .i64 0, .int .i64 0]
  refine bodyPost_ret (v := .agg #[.int .i64 3, .int .i64 id, .string ⟨#[]⟩, .int .i64 x, .int .i64 y, .int .i64 0, .slice none 0 0, .slice none 0 0, .int .i64 0, .int .i64 0]) (results_cell_row (ty := 27) rfl _ _ q 27 _ (0, 0) _ rfl bq9 Try.underlying27 rfl notesz) rfl ?_
  exact note_fin #[.int .i64 3, .int .i64 id, .string ⟨#[]⟩, .int .i64 x, .int .i64 y, .int .i64 0, .slice none 0 0, .slice none 0 0, .int .i64 0, .int .i64 0] (HNR.out.trans HR.out) HQ.out hbq hNw hA2 hT2 (Own.none_ _ _ _ _) (Own.none_ _ _ _ _)
set_option maxHeartbeats 3200000 in
set_option maxRecDepth 100000 in
theorem note_2 (b N : Nat) (l : List UInt8) (w : World) (h : RdrAt w b N l) (hN : N ≤ b) (hbw : b < w.heap.size) (hl : 3 ≤ l.length) (hk : (bAt l 0 : Int) = 2) (hz : l.length ≤ 140737488351300) :
    Calls Try.prog 46 #[.pointer (some ⟨b, 0, none⟩)] w fun e w' => NotePost w w' b N (noteR l) e := by
  have h1 : 1 ≤ l.length := by omega
  have hNw : N ≤ w.heap.size := by omega
  have CN := Lib.hid (fun (W : World) (hA : RdrAt W b N l) => number_at b N 1 l W hA hN h1 (by omega))
  have CN2 := Lib.hid (fun (W : World) (hA : RdrAt W b N (l.drop 1)) => number_at b N 2 (l.drop 1) W hA hN (by rw [List.length_drop]; omega) (by omega))
  rw [beN_1, hk] at CN
  obtain ⟨id, hid⟩ : ∃ id, (bAt l 1 : Int) * 256 + (bAt l 2 : Int) = id := ⟨_, rfl⟩
  rw [beN_2, bAt_drop, bAt_drop, hid] at CN2
  have HNR : Hid (noteR l = restR 2 id (l.drop 3)) := Lib.hid (by unfold noteR; rw [if_neg (by omega), hk, hid])
  have hA := h.step ((Below.refl w.heap.size w).alloc (Nat.le_refl _) (.cells #[.int .i64 0, .int .i64 0, .string ⟨#[]⟩, .int .i64 0, .int .i64 0, .int .i64 0, .slice none 0 0, .slice none 0 0, .int .i64 0, .int .i64 0] 27))
  have hT : Turned w (w.alloc (.cells #[.int .i64 0, .int .i64 0, .string ⟨#[]⟩, .int .i64 0, .int .i64 0, .int .i64 0, .slice none 0 0, .slice none 0 0, .int .i64 0, .int .i64 0] 27)) (fun i => i = b) := (Turned.refl _ _).step ((Below.refl _ _).alloc (Nat.le_refl _) _)
  have bq := Blk.new w 27 #[.int .i64 0, .int .i64 0, .string ⟨#[]⟩, .int .i64 0, .int .i64 0, .int .i64 0, .slice none 0 0, .slice none 0 0, .int .i64 0, .int .i64 0]
  have HL := Lib.hid hl
  clear h hk hid hl h1
  go_enter Try.func46, Try.ntmps46
  go_upto_region 1 with fail
  generalize w.alloc (.cells #[.int .i64 0, .int .i64 0, .string ⟨#[]⟩, .int .i64 0, .int .i64 0, .int .i64 0, .slice none 0 0, .slice none 0 0, .int .i64 0, .int .i64 0] 27) = W at *
  obtain ⟨q, hq⟩ : ∃ q, w.heap.size = q := ⟨_, rfl⟩
  have HQ := Lib.hid hq
  rw [hq] at bq hbw hNw ⊢
  clear hq
  have hbq : ¬ b = q := by omega
  have hqb : ¬ q = b := by omega
  go_wp2_with fail
  refine (CN.out W hA).mono ?_
  rintro e w1 ⟨rfl, hA1, hT1⟩
  replace bq := bq.turned hT1 hqb
  replace hT1 := hT.trans hT1 (fun _ _ h => h)
  clear hT hA CN
  go_wp2_with fail
  refine (CN2.out w1 hA1).mono ?_
  rintro e w2 ⟨rfl, hA2, hT2⟩
  replace bq := bq.turned hT2 hqb
  replace hT2 := hT1.trans hT2 (fun _ _ h => h)
  rw [List.drop_drop] at hA2
  clear hT1 hA1 CN2 W w1
  have kf := bq.frozen
  have y0 := bq.cell' (i := 0) rfl
  have b0 := bq.set_ 0 (.int .i64 (2))
  have kf0 := b0.frozen
  have y1 := b0.cell' (i := 1) rfl
  have b1 := b0.set_ 1 (.int .i64 id)
  replace hA2 := (hA2.far (q := q) (i := 0) hbq hNw (.int .i64 (2))).far (q := q) (i := 1) hbq hNw (.int .i64 id)
  replace hT2 := (hT2.set (p := ⟨q, 0, none⟩) (fun h => by have := HQ.out; exact absurd h (by show ¬ q < w.heap.size; omega)) (.int .i64 (2))).set (p := ⟨q, 1, none⟩) (fun h => by have := HQ.out; exact absurd h (by show ¬ q < w.heap.size; omega)) (.int .i64 id)
  clear bq
  go_upto_region 2 with fail
  clear kf y0 kf0 y1 b0
  generalize (w2.setCell ⟨q, 0, none⟩ (.int .i64 (2))).setCell ⟨q, 1, none⟩ (.int .i64 id) = W at *
  clear w2
  have z0 := b1.cell' (i := 0) rfl
  obtain ⟨c, hc⟩ : ∃ c, l.drop 3 = c := ⟨_, rfl⟩
  rw [hc] at hA2 HNR
  have HC := Lib.hid hc
  clear hc
  by_cases h4 : c.length < 4
  ·
    have CN := Lib.hid (number_no_at b N 4 c W hA2 h4 (by omega))
    have HR := Lib.hid (restR_2n (id := id) (c := c) (by omega))
    clear h4
    go_wp2_with fail
    refine CN.out.mono ?_
    rintro e w' ⟨rfl, rfl⟩
    go_wp2_with fail
    exact ⟨rfl, NotePost.none_ (HNR.out.trans HR.out) rfl hT2⟩
  have CN := Lib.hid (number_at b N 4 c W hA2 hN (by omega) (by omega))
  rw [beN_4] at CN
  have HR := Lib.hid (restR_2 (id := id) (c := c) (by omega))
  have hdl : (c.drop 4).length ≤ 140737488351300 := by rw [List.length_drop, ← HC.out, List.length_drop]; omega
  obtain ⟨x, hx⟩ : ∃ x, fAt c 0 = x := ⟨_, rfl⟩
  obtain ⟨d, hd⟩ : ∃ d, c.drop 4 = d := ⟨_, rfl⟩
  rw [hx, hd] at CN
  rw [hx, hd] at HR
  rw [hd] at hdl
  have CN2 := Lib.hid (fun (V : World) (hA : RdrAt V b N d) => rest_at b N d V hA hN hdl)
  clear hx hd h4
  go_wp2_with fail
  refine CN.out.mono ?_
  rintro e w3 ⟨rfl, hA3, hT3⟩
  have bq := b1.turned hT3 hqb
  replace hT2 := hT2.trans hT3 (fun _ _ h => h)
  clear CN hA2 hT3 z0 b1
  go_wp2_with fail
  refine (CN2.out w3 hA3).mono ?_
  rintro e w4 ⟨D, dc, rfl, hO, hA4, hT4⟩
  replace hO := hO.mono (base' := q + 1) (by have := bq.lt; omega)
  replace bq := bq.turned hT4 hqb
  replace hT2 := hT2.trans hT4 (fun _ _ h => h)
  have hA2 := hA4
  clear CN2 hA3 hA4 hT4
  have kf := bq.frozen
  have y5 := bq.cell' (i := 5) rfl
  have b5 := bq.set_ 5 (.int .i64 x)
  have kf5 := b5.frozen
  have y6 := b5.cell' (i := 6) rfl
  go_upto_region 16 with fail
  clear kf y5 b5 kf5 y6
  have xO := hO.notBlk bq (by decide)
  replace hO := (hO.setFar (p := ⟨q, 5, none⟩) xO (.int .i64 x)).setFar (p := ⟨q, 6, none⟩) xO (.slice D d.length dc)
  replace bq := (bq.set_ 5 (.int .i64 x)).set_ 6 (.slice D d.length dc)
  replace hA2 := (hA2.far (q := q) (i := 5) hbq hNw (.int .i64 x)).far (q := q) (i := 6) hbq hNw (.slice D d.length dc)
  replace hT2 := (hT2.set (p := ⟨q, 5, none⟩) (fun h => by have := HQ.out; exact absurd h (by show ¬ q < w.heap.size; omega)) (.int .i64 x)).set (p := ⟨q, 6, none⟩) (fun h => by have := HQ.out; exact absurd h (by show ¬ q < w.heap.size; omega)) (.slice D d.length dc)
  clear xO
  generalize (w4.setCell ⟨q, 5, none⟩ (.int .i64 x)).setCell ⟨q, 6, none⟩ (.slice D d.length dc) = W5 at *
  go_wp2_with (first
    | (refine wpList_load_row rfl 27 (.tmp 2) rfl q rfl 27 #[.int .i64 2, .int .i64 id, .string ⟨#[]⟩, .int .i64 0, .int .i64 0, .int .i64 x, .slice D d.length dc, .slice none 0 0, .int .i64 0, .int .i64 0] (0, 0) _ bq Try.underlying27 rfl notesz ?_)
    | (refine wpList_store_row rfl 27 (.tmp 2) (.tmp 69) rfl q #[.int .i64 2, .int .i64 id, .string ⟨#[]⟩, .int .i64 0, .int .i64 0, .int .i64 x, .slice D d.length dc, .slice none 0 0, .int .i64 0, .int .i64 0] rfl rfl 27 _ bq notesz rfl (by simp [Value.oneCell']) ?_))
  have bq9 := bq.row #[.int .i64 2, .int .i64 id, .string ⟨#[]⟩, .int .i64 0, .int .i64 0, .int .i64 x, .slice D d.length dc, .slice none 0 0, .int .i64 0, .int .i64 0]
  refine bodyPost_ret (v := .agg #[.int .i64 2, .int .i64 id, .string ⟨#[]⟩, .int .i64 0, .int .i64 0, .int .i64 x, .slice D d.length dc, .slice none 0 0, .int .i64 0, .int .i64 0]) (results_cell_row (ty := 27) rfl _ _ q 27 _ (0, 0) _ rfl bq9 Try.underlying27 rfl notesz) rfl ?_
  exact note_fin #[.int .i64 2, .int .i64 id, .string ⟨#[]⟩, .int .i64 0, .int .i64 0, .int .i64 x, .slice D d.length dc, .slice none 0 0, .int .i64 0, .int .i64 0] (HNR.out.trans HR.out) HQ.out hbq hNw hA2 hT2 hO (Own.none_ _ _ _ _)
end Go.Proofs.Ytianombjgdmbeaa
