/-
  A reader's note ((*reader).note): too few bytes for a head. A reader's note, kind by kind.
-/
import Derived.Test.YtianombjgdmbeaaMDeliverDecodes9
import Derived.Test.YtianombjgdmbeaaMDeliverDecodes27
import Derived.Test.YtianombjgdmbeaaMDeliverDecodes14
namespace Go.Proofs.Ytianombjgdmbeaa
set_option linter.unusedSimpArgs false
set_option linter.unusedVariables false
open Go.RowKit

theorem noteR_no {l : List UInt8} (h : l.length < 3) : noteR l = none := by unfold noteR; rw [if_pos h]
theorem NotePost.none_ {w w' : World} {b N : Nat} {o : Option (Nt × List UInt8)} {e : Ending} (ho : o = none) (he : e = .panicked shortP) (h : Turned w w' (fun i => i = b)) : NotePost w w' b N o e := by subst ho; exact ⟨he, h⟩
theorem NotePost.some_ {w w' : World} {b N : Nat} {o : Option (Nt × List UInt8)} {e : Ending} {n : Nt} {r : List UInt8} {D G : Option Addr} {dc gc : Nat} (ho : o = some (n, r)) (he : e = .returned (ntv n D n.data.length dc G n.gaps.length gc)) (hD : Own w' w.heap.size 5 1 D n.data.length dc (bvs n.data)) (hG : Own w' w.heap.size 66 2 G n.gaps.length gc (gps n.gaps)) (hR : RdrAt w' b N r) (hT : Turned w w' (fun i => i = b)) : NotePost w w' b N o e := by
  subst ho
  exact ⟨D, dc, G, gc, he, hD, hG, hR, hT⟩
/-- The note is read out of its box. -/
theorem note_fin {w W : World} {b N q : Nat} {o : Option (Nt × List UInt8)} {n : Nt} {r : List UInt8} {D G : Option Addr} {dc gc : Nat} (C : Array Value) (ho : o = some (n, r)) (hq : w.heap.size = q) (hbq : b ≠ q) (hNq : N ≤ q) (hA : RdrAt W b N r) (hT : Turned w W (fun i => i = b)) (hD : Own W (q + 1) 5 1 D n.data.length dc (bvs n.data)) (hG : Own W (q + 1) 66 2 G n.gaps.length gc (gps n.gaps)) :
    NotePost w (W.setRow q C) b N o (.returned (ntv n D n.data.length dc G n.gaps.length gc)) := by
  have hg := grown_row W q C
  refine NotePost.some_ ho rfl ((hD.rowFar (r := q) (by omega) C).mono (by omega)) ((hG.rowFar (r := q) (by omega) C).mono (by omega)) (hA.turned (grownBy_turned hg) (fun e => hbq (Option.some.inj e).symm) (fun k hk e => by have := Option.some.inj e; omega)) (hT.grown hg (fun k hk hlt => by have := Option.some.inj hk; omega))
set_option maxHeartbeats 1600000 in
set_option maxRecDepth 100000 in
theorem note_short (b N : Nat) (l : List UInt8) (w : World) (h : RdrAt w b N l) (hN : N ≤ b) (hbw : b < w.heap.size) (hl : l.length < 3) :
    Calls Try.prog 46 #[.pointer (some ⟨b, 0, none⟩)] w fun e w' => NotePost w w' b N (noteR l) e := by
  have HO := Lib.hid (noteR_no hl)
  have hA := h.step ((Below.refl w.heap.size w).alloc (Nat.le_refl _) (.cells #[.int .i64 0, .int .i64 0, .string ⟨#[]⟩, .int .i64 0, .int .i64 0, .int .i64 0, .slice none 0 0, .slice none 0 0, .int .i64 0, .int .i64 0] 27))
  have hT : Turned w (w.alloc (.cells #[.int .i64 0, .int .i64 0, .string ⟨#[]⟩, .int .i64 0, .int .i64 0, .int .i64 0, .slice none 0 0, .slice none 0 0, .int .i64 0, .int .i64 0] 27)) (fun i => i = b) := (Turned.refl _ _).step ((Below.refl _ _).alloc (Nat.le_refl _) _)
  clear h
  go_enter Try.func46, Try.ntmps46
  go_upto_region 1 with fail
  generalize w.alloc (.cells #[.int .i64 0, .int .i64 0, .string ⟨#[]⟩, .int .i64 0, .int .i64 0, .int .i64 0, .slice none 0 0, .slice none 0 0, .int .i64 0, .int .i64 0] 27) = W at *
  by_cases h1 : l.length < 1
  ·
    have CN := Lib.hid (number_no_at b N 1 l W hA h1 (by omega))
    clear h1 hl
    go_wp2_with fail
    refine CN.out.mono ?_
    rintro e w' ⟨rfl, rfl⟩
    go_wp2_with fail
    exact ⟨rfl, NotePost.none_ HO.out rfl hT⟩
  ·
    have CN := Lib.hid (number_at b N 1 l W hA hN (by omega) (by omega))
    have hd : (l.drop 1).length < 2 := by rw [List.length_drop]; omega
    clear h1 hl
    go_wp2_with fail
    refine CN.out.mono ?_
    rintro e w1 ⟨rfl, hA1, hT1⟩
    have CN2 := Lib.hid (number_no_at b N 2 (l.drop 1) w1 hA1 hd (by omega))
    have hT2 := hT.trans hT1 (fun _ _ h => h)
    clear hd hA hT CN hA1 hT1
    go_wp2_with fail
    refine CN2.out.mono ?_
    rintro e w' ⟨rfl, rfl⟩
    go_wp2_with fail
    exact ⟨rfl, NotePost.none_ HO.out rfl hT2⟩
end Go.Proofs.Ytianombjgdmbeaa
namespace Go.Proofs.Ytianombjgdmbeaa
set_option linter.unusedSimpArgs false
set_option linter.unusedVariables false
open Go.RowKit

theorem restR_5 {id : Int} {c : List UInt8} (h : 1 ≤ c.length) : restR 5 id c = some (⟨5, id, ⟨#[]⟩, 0, 0, 0, [], [], 0, bAt c 0⟩, c.drop 1) := by unfold restR; rw [if_neg (by decide), if_neg (by decide), if_neg (by decide), if_neg (by decide), if_pos rfl, if_neg (by omega)]
theorem restR_5n {id : Int} {c : List UInt8} (h : c.length < 1) : restR 5 id c = none := by unfold restR; rw [if_neg (by decide), if_neg (by decide), if_neg (by decide), if_neg (by decide), if_pos rfl, if_pos h]
theorem restR_6 {id : Int} {c : List UInt8} (h : 1 ≤ c.length) : restR 6 id c = some (⟨6, id, ⟨#[]⟩, 0, 0, 0, [], [], bAt c 0, 0⟩, c.drop 1) := by unfold restR; rw [if_neg (by decide), if_neg (by decide), if_neg (by decide), if_neg (by decide), if_neg (by decide), if_pos rfl, if_neg (by omega)]
theorem restR_6n {id : Int} {c : List UInt8} (h : c.length < 1) : restR 6 id c = none := by unfold restR; rw [if_neg (by decide), if_neg (by decide), if_neg (by decide), if_neg (by decide), if_neg (by decide), if_pos rfl, if_pos h]
set_option maxHeartbeats 3200000 in
set_option maxRecDepth 100000 in
theorem note_5 (b N : Nat) (l : List UInt8) (w : World) (h : RdrAt w b N l) (hN : N ≤ b) (hbw : b < w.heap.size) (hl : 3 ≤ l.length) (hk : (bAt l 0 : Int) = 5) (hz : l.length ≤ 140737488351300) :
    Calls Try.prog 46 #[.pointer (some ⟨b, 0, none⟩)] w fun e w' => NotePost w w' b N (noteR l) e := by
  have h1 : 1 ≤ l.length := by omega
  have hNw : N ≤ w.heap.size := by omega
  have CN := Lib.hid (fun (W : World) (hA : RdrAt W b N l) => number_at b N 1 l W hA hN h1 (by omega))
  have CN2 := Lib.hid (fun (W : World) (hA : RdrAt W b N (l.drop 1)) => number_at b N 2 (l.drop 1) W hA hN (by rw [List.length_drop]; omega) (by omega))
  rw [beN_1, hk] at CN
  obtain ⟨id, hid⟩ : ∃ id, (bAt l 1 : Int) * 256 + (bAt l 2 : Int) = id := ⟨_, rfl⟩
  rw [beN_2, bAt_drop, bAt_drop, hid] at CN2
  have HNR : Hid (noteR l = restR 5 id (l.drop 3)) := Lib.hid (by unfold noteR; rw [if_neg (by omega), hk, hid])
  have hA := h.step ((Below.refl w.heap.size w).alloc (Nat.le_refl _) (.cells #[.int .i64 0, .int .i64 0, .string ⟨#[]⟩, .int .i64 0, .int .i64 0, .int .i64 0, .slice none 0 0, .slice none 0 0, .int .i64 0, .int .i64 0] 27))
  have hT : Turned w (w.alloc (.cells #[.int .i64 0, .int .i64 0, .string ⟨#[]⟩, .int .i64 0, .int .i64 0, .int .i64 0, .slice none 0 0, .slice none 0 0, .int .i64 0, .int .i64 0] 27)) (fun i => i = b) := (Turned.refl _ _).step ((Below.refl _ _).alloc (Nat.le_refl _) _)
  have bq := Blk.new w 27 #[.int .i64 0, .int .i64 0, .string ⟨#[]⟩, .int .i64 0, .int .i64 0, .int .i64 0, .slice none 0 0, .slice none 0 0, .int .i64 0, .int .i64 0]
  have HL := Lib.hid hl
  clear h hk hid hl h1
  go_enter Try.func46, Try.ntmps46
  go_upto_region 1 with fail
  generalize w.alloc (.cells #[.int .i64 0, .int .i64 0, .string ⟨#[]⟩, .int .i64 0, .int .i64 0, .int .i64 0, .slice none 0 0, .slice none 0 0, .int .i64 0, .int .i64 0] 27) = W at *
  obtain ⟨q, hq⟩ : ∃ q, w.heap.size = q := ⟨_, rfl⟩
  have HQ := Lib.hid hq
  rw [hq] at bq hbw hNw ⊢
  clear hq
  have hbq : ¬ b = q := by omega
  have hqb : ¬ q = b := by omega
  go_wp2_with fail
  refine (CN.out W hA).mono ?_
  rintro e w1 ⟨rfl, hA1, hT1⟩
  replace bq := bq.turned hT1 hqb
  replace hT1 := hT.trans hT1 (fun _ _ h => h)
  clear hT hA CN
  go_wp2_with fail
  refine (CN2.out w1 hA1).mono ?_
  rintro e w2 ⟨rfl, hA2, hT2⟩
  replace bq := bq.turned hT2 hqb
  replace hT2 := hT1.trans hT2 (fun _ _ h => h)
  rw [List.drop_drop] at hA2
  clear hT1 hA1 CN2 W w1
  have kf := bq.frozen
  have y0 := bq.cell' (i := 0) rfl
  have b0 := bq.set_ 0 (.int .i64 (5))
  have kf0 := b0.frozen
  have y1 := b0.cell' (i := 1) rfl
  have b1 := b0.set_ 1 (.int .i64 id)
  replace hA2 := (hA2.far (q := q) (i := 0) hbq hNw (.int .i64 (5))).far (q := q) (i := 1) hbq hNw (.int .i64 id)
  replace hT2 := (hT2.set (p := ⟨q, 0, none⟩) (fun h => by have := HQ.out; exact absurd h (by show ¬ q < w.heap.size; omega)) (.int .i64 (5))).set (p := ⟨q, 1, none⟩) (fun h => by have := HQ.out; exact absurd h (by show ¬ q < w.heap.size; omega)) (.int .i64 id)
  clear bq
  go_upto_region 2 with fail
  clear kf y0 kf0 y1 b0
  generalize (w2.setCell ⟨q, 0, none⟩ (.int .i64 (5))).setCell ⟨q, 1, none⟩ (.int .i64 id) = W at *
  clear w2
  have z0 := b1.cell' (i := 0) rfl
  obtain ⟨c, hc⟩ : ∃ c, l.drop 3 = c := ⟨_, rfl⟩
  rw [hc] at hA2 HNR
  have HC := Lib.hid hc
  clear hc
  by_cases h1 : 1 ≤ c.length
  ·
    have CN := Lib.hid (number_at b N 1 c W hA2 hN h1 (by omega))
    rw [beN_1] at CN
    have HR := Lib.hid (restR_5 (id := id) h1)
    obtain ⟨x, hx⟩ : ∃ x, (bAt c 0 : Int) = x := ⟨_, rfl⟩
    rw [hx] at CN HR
    clear h1 hx
    go_wp2_with fail
    refine CN.out.mono ?_
    rintro e w3 ⟨rfl, hA3, hT3⟩
    have bq := b1.turned hT3 hqb
    replace hT2 := hT2.trans hT3 (fun _ _ h => h)
    clear hA2 b1 hT3 z0 CN
    have hA2 := hA3
    clear hA3
    have kf := bq.frozen
    have y := bq.cell' (i := 9) rfl
    go_upto_region 16 with fail
    clear kf y
    replace bq := bq.set_ 9 (.int .i64 x)
    replace hA2 := hA2.far (q := q) (i := 9) hbq hNw (.int .i64 x)
    replace hT2 := hT2.set (p := ⟨q, 9, none⟩) (fun h => by have := HQ.out; exact absurd h (by show ¬ q < w.heap.size; omega)) (.int .i64 x)
    generalize w3.setCell ⟨q, 9, none⟩ (.int .i64 x) = W4 at *
    go_wp2_with (first
      | (refine wpList_load_row rfl 27 (.tmp 2) rfl q rfl 27 #[.int .i64 5, .int .i64 id, .string ⟨#[]⟩, .int .i64 0, .int .i64 0, .int .i64 0, .slice none 0 0, .slice none 0 0, .int .i64 0, .int .i64 x] (0, 0) _ bq Try.underlying27 rfl notesz ?_)
      | (refine wpList_store_row rfl 27 (.tmp 2) (.tmp 69) rfl q #[.int .i64 5, .int .i64 id, .string ⟨#[]⟩, .int .i64 0, .int .i64 0, .int .i64 0, .slice none 0 0, .slice none 0 0, .int .i64 0, .int .i64 x] rfl rfl 27 _ bq notesz rfl (by simp [Value.oneCell']) ?_))
    have bq9 := bq.row #[.int .i64 5, .int .i64 id, .string ⟨#[]⟩, .int .i64 0, .int .i64 0, .int .i64 0, .slice none 0 0, .slice none 0 0, .int .i64 0, .int .i64 x]
    refine bodyPost_ret (v := .agg #[.int .i64 5, .int .i64 id, .string ⟨#[]⟩, .int .i64 0, .int .i64 0, .int .i64 0, .slice none 0 0, .slice none 0 0, .int .i64 0, .int .i64 x]) (results_cell_row (ty := 27) rfl _ _ q 27 _ (0, 0) _ rfl bq9 Try.underlying27 rfl notesz) rfl ?_
    exact note_fin #[.int .i64 5, .int .i64 id, .string ⟨#[]⟩, .int .i64 0, .int .i64 0, .int .i64 0, .slice none 0 0, .slice none 0 0, .int .i64 0, .int .i64 x] (HNR.out.trans HR.out) HQ.out hbq hNw hA2 hT2 (Own.none_ _ _ _ _) (Own.none_ _ _ _ _)
  ·
    have CN := Lib.hid (number_no_at b N 1 c W hA2 (by omega) (by omega))
    have HR := Lib.hid (restR_5n (id := id) (c := c) (by omega))
    clear h1
    go_wp2_with fail
    refine CN.out.mono ?_
    rintro e w' ⟨rfl, rfl⟩
    go_wp2_with fail
    exact ⟨rfl, NotePost.none_ (HNR.out.trans HR.out) rfl hT2⟩
set_option maxHeartbeats 3200000 in
set_option maxRecDepth 100000 in
theorem note_6 (b N : Nat) (l : List UInt8) (w : World) (h : RdrAt w b N l) (hN : N ≤ b) (hbw : b < w.heap.size) (hl : 3 ≤ l.length) (hk : (bAt l 0 : Int) = 6) (hz : l.length ≤ 140737488351300) :
    Calls Try.prog 46 #[.pointer (some ⟨b, 0, none⟩)] w fun e w' => NotePost w w' b N (noteR l) e := by
  have h1 : 1 ≤ l.length := by omega
  have hNw : N ≤ w.heap.size := by omega
  have CN := Lib.hid (fun (W : World) (hA : RdrAt W b N l) => number_at b N 1 l W hA hN h1 (by omega))
  have CN2 := Lib.hid (fun (W : World) (hA : RdrAt W b N (l.drop 1)) => number_at b N 2 (l.drop 1) W hA hN (by rw [List.length_drop]; omega) (by omega))
  rw [beN_1, hk] at CN
  obtain ⟨id, hid⟩ : ∃ id, (bAt l 1 : Int) * 256 + (bAt l 2 : Int) = id := ⟨_, rfl⟩
  rw [beN_2, bAt_drop, bAt_drop, hid] at CN2
  have HNR : Hid (noteR l = restR 6 id (l.drop 3)) := Lib.hid (by unfold noteR; rw [if_neg (by omega), hk, hid])
  have hA := h.step ((Below.refl w.heap.size w).alloc (Nat.le_refl _) (.cells #[.int .i64 0, .int .i64 0, .string ⟨#[]⟩, .int .i64 0, .int .i64 0, .int .i64 0, .slice none 0 0, .slice none 0 0, .int .i64 0, .int .i64 0] 27))
  have hT : Turned w (w.alloc (.cells #[.int .i64 0, .int .i64 0, .string ⟨#[]⟩, .int .i64 0, .int .i64 0, .int .i64 0, .slice none 0 0, .slice none 0 0, .int .i64 0, .int .i64 0] 27)) (fun i => i = b) := (Turned.refl _ _).step ((Below.refl _ _).alloc (Nat.le_refl _) _)
  have bq := Blk.new w 27 #[.int .i64 0, .int .i64 0, .string ⟨#[]⟩, .int .i64 0, .int .i64 0, .int .i64 0, .slice none 0 0, .slice none 0 0, .int .i64 0, .int .i64 0]
  have HL := Lib.hid hl
  clear h hk hid hl h1
  go_enter Try.func46, Try.ntmps46
  go_upto_region 1 with fail
  generalize w.alloc (.cells #[.int .i64 0, .int .i64 0, .string ⟨#[]⟩, .int .i64 0, .int .i64 0, .int .i64 0, .slice none 0 0, .slice none 0 0, .int .i64 0, .int .i64 0] 27) = W at *
  obtain ⟨q, hq⟩ : ∃ q, w.heap.size = q := ⟨_, rfl⟩
  have HQ := Lib.hid hq
  rw [hq] at bq hbw hNw ⊢
  clear hq
  have hbq : ¬ b = q := by omega
  have hqb : ¬ q = b := by omega
  go_wp2_with fail
  refine (CN.out W hA).mono ?_
  rintro e w1 ⟨rfl, hA1, hT1⟩
  replace bq := bq.turned hT1 hqb
  replace hT1 := hT.trans hT1 (fun _ _ h => h)
  clear hT hA CN
  go_wp2_with fail
  refine (CN2.out w1 hA1).mono ?_
  rintro e w2 ⟨rfl, hA2, hT2⟩
  replace bq := bq.turned hT2 hqb
  replace hT2 := hT1.trans hT2 (fun _ _ h => h)
  rw [List.drop_drop] at hA2
  clear hT1 hA1 CN2 W w1
  have kf := bq.frozen
  have y0 := bq.cell' (i := 0) rfl
  have b0 := bq.set_ 0 (.int .i64 (6))
  have kf0 := b0.frozen
  have y1 := b0.cell' (i := 1) rfl
  have b1 := b0.set_ 1 (.int .i64 id)
  replace hA2 := (hA2.far (q := q) (i := 0) hbq hNw (.int .i64 (6))).far (q := q) (i := 1) hbq hNw (.int .i64 id)
  replace hT2 := (hT2.set (p := ⟨q, 0, none⟩) (fun h => by have := HQ.out; exact absurd h (by show ¬ q < w.heap.size; omega)) (.int .i64 (6))).set (p := ⟨q, 1, none⟩) (fun h => by have := HQ.out; exact absurd h (by show ¬ q < w.heap.size; omega)) (.int .i64 id)
  clear bq
  go_upto_region 2 with fail
  clear kf y0 kf0 y1 b0
  generalize (w2.setCell ⟨q, 0, none⟩ (.int .i64 (6))).setCell ⟨q, 1, none⟩ (.int .i64 id) = W at *
  clear w2
  have z0 := b1.cell' (i := 0) rfl
  obtain ⟨c, hc⟩ : ∃ c, l.drop 3 = c := ⟨_, rfl⟩
  rw [hc] at hA2 HNR
  have HC := Lib.hid hc
  clear hc
  by_cases h1 : 1 ≤ c.length
  ·
    have CN := Lib.hid (number_at b N 1 c W hA2 hN h1 (by omega))
    rw [beN_1] at CN
    have HR := Lib.hid (restR_6 (id := id) h1)
    obtain ⟨x, hx⟩ : ∃ x, (bAt c 0 : Int) = x := ⟨_, rfl⟩
    rw [hx] at CN HR
    clear h1 hx
    go_wp2_with fail
    refine CN.out.mono ?_
    rintro e w3 ⟨rfl, hA3, hT3⟩
    have bq := b1.turned hT3 hqb
    replace hT2 := hT2.trans hT3 (fun _ _ h => h)
    clear hA2 b1 hT3 z0 CN
    have hA2 := hA3
    clear hA3
    have kf := bq.frozen
    have y := bq.cell' (i := 8) rfl
    go_upto_region 16 with fail
    clear kf y
    replace bq := bq.set_ 8 (.int .i64 x)
    replace hA2 := hA2.far (q := q) (i := 8) hbq hNw (.int .i64 x)
    replace hT2 := hT2.set (p := ⟨q, 8, none⟩) (fun h => by have := HQ.out; exact absurd h (by show ¬ q < w.heap.size; omega)) (.int .i64 x)
    generalize w3.setCell ⟨q, 8, none⟩ (.int .i64 x) = W4 at *
    go_wp2_with (first
      | (refine wpList_load_row rfl 27 (.tmp 2) rfl q rfl 27 #[.int .i64 6, .int .i64 id, .string ⟨#[]⟩, .int .i64 0, .int .i64 0, .int .i64 0, .slice none 0 0, .slice none 0 0, .int .i64 x, .int .i64 0] (0, 0) _ bq Try.underlying27 rfl notesz ?_)
      | (refine wpList_store_row rfl 27 (.tmp 2) (.tmp 69) rfl q #[.int .i64 6, .int .i64 id, .string ⟨#[]⟩, .int .i64 0, .int .i64 0, .int .i64 0, .slice none 0 0, .slice none 0 0, .int .i64 x, .int .i64 0] rfl rfl 27 _ bq notesz rfl (by simp [Value.oneCell']) ?_))
    have bq9 := bq.row #[.int .i64 6, .int .i64 id, .string ⟨#[]⟩, .int .i64 0, .int .i64 0, .int .i64 0, .slice none 0 0, .slice none 0 0, .int .i64 x, .int .i64 0]
    refine bodyPost_ret (v := .agg #[.int .i64 6, .int .i64 id, .string ⟨#[]⟩, .int .i64 0, .int .i64 0, .int .i64 0, .slice none 0 0, .slice none 0 0, .int .i64 x, .int .i64 0]) (results_cell_row (ty := 27) rfl _ _ q 27 _ (0, 0) _ rfl bq9 Try.underlying27 rfl notesz) rfl ?_
    exact note_fin #[.int .i64 6, .int .i64 id, .string ⟨#[]⟩, .int .i64 0, .int .i64 0, .int .i64 0, .slice none 0 0, .slice none 0 0, .int .i64 x, .int .i64 0] (HNR.out.trans HR.out) HQ.out hbq hNw hA2 hT2 (Own.none_ _ _ _ _) (Own.none_ _ _ _ _)
  ·
    have CN := Lib.hid (number_no_at b N 1 c W hA2 (by omega) (by omega))
    have HR := Lib.hid (restR_6n (id := id) (c := c) (by omega))
    clear h1
    go_wp2_with fail
    refine CN.out.mono ?_
    rintro e w' ⟨rfl, rfl⟩
    go_wp2_with fail
    exact ⟨rfl, NotePost.none_ (HNR.out.trans HR.out) rfl hT2⟩
end Go.Proofs.Ytianombjgdmbeaa
