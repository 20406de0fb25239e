/-
  noteOwn: a note with memory of its own. TakerOf: a taker with memory of its own.
-/
import Derived.Test.YtianombjgdmbeaaMDeliverTakes12
import Derived.Test.YtianombjgdmbeaaMDeliverTakes13
import Derived.Test.YtianombjgdmbeaaMDeliverTakes14
import Derived.Test.YtianombjgdmbeaaMDeliverTakes9
namespace Go.Proofs.Ytianombjgdmbeaa
set_option linter.unusedSimpArgs false
set_option linter.unusedVariables false
open Go.RowKit

theorem pairinfo : (Try.prog.info? 66).map (fun i => (i.zero, i.size, i.bytes)) = some (some (.agg #[.int .i64 0, .int .i64 0]), 2, 16) := by kernel_rfl
set_option maxHeartbeats 3200000 in
set_option maxRecDepth 100000 in
theorem noteOwn_any (x : Nt) (D : Option Addr) (dn dc : Nat) (G : Option Addr) (gn gc : Nat) (w : World) (hd : x.data.length = dn) (hg : x.gaps.length = gn) (hdn : dn ≤ 140737488351232) (hgn : gn ≤ 8796093022200) (hD : Rd w D (bvs x.data)) (hG : Rd w G (gps x.gaps)) :
    Calls Try.prog 9 #[ntv x D dn dc G gn gc] w fun e w' => ∃ g H hc, e = .returned (ntv x (some ⟨g, 0, none⟩) dn (dn + 5) H gn hc) ∧ w.heap.size ≤ g ∧ Room w' g x.data ∧ Own w' w.heap.size 66 2 H gn hc (gps x.gaps) ∧ Below w.heap.size w w' := by
  obtain ⟨j0, hj0, hy0, hy1, hy2⟩ := info_parts pairinfo
  have CR := Lib.hid (fun (V : World) (hB : Below w.heap.size w V) => roomy_any D x.data dc V (hD.below hB) (by omega))
  rw [hd] at CR
  obtain ⟨kind, id, name, size, sum, at_, data, gaps, of_, code⟩ := x
  unfold ntv
  dsimp only at CR hd hg hD hG ⊢
  have HG := Lib.hid hG
  have HL : Hid ((gps gaps).length = gn * 2) := Lib.hid (by rw [gps_len, hg])
  clear hd hg hD hG
  have k1 := (Blk.new w 27 #[.int .i64 kind, .int .i64 id, .string name, .int .i64 size, .int .i64 sum, .int .i64 at_, .slice D dn dc, .slice G gn gc, .int .i64 of_, .int .i64 code]).alloc (.cells #[.int .i64 0, .int .i64 0, .string ⟨#[]⟩, .int .i64 0, .int .i64 0, .int .i64 0, .slice none 0 0, .slice none 0 0, .int .i64 0, .int .i64 0] 27)
  have k2 := Blk.new (w.alloc (.cells #[.int .i64 kind, .int .i64 id, .string name, .int .i64 size, .int .i64 sum, .int .i64 at_, .slice D dn dc, .slice G gn gc, .int .i64 of_, .int .i64 code] 27)) 27 #[.int .i64 0, .int .i64 0, .string ⟨#[]⟩, .int .i64 0, .int .i64 0, .int .i64 0, .slice none 0 0, .slice none 0 0, .int .i64 0, .int .i64 0]
  rw [show (w.alloc (.cells #[.int .i64 kind, .int .i64 id, .string name, .int .i64 size, .int .i64 sum, .int .i64 at_, .slice D dn dc, .slice G gn gc, .int .i64 of_, .int .i64 code] 27)).heap.size = w.heap.size + 1 by simp] at k2
  have hB : Below w.heap.size w ((w.alloc (.cells #[.int .i64 kind, .int .i64 id, .string name, .int .i64 size, .int .i64 sum, .int .i64 at_, .slice D dn dc, .slice G gn gc, .int .i64 of_, .int .i64 code] 27)).alloc (.cells #[.int .i64 0, .int .i64 0, .string ⟨#[]⟩, .int .i64 0, .int .i64 0, .int .i64 0, .slice none 0 0, .slice none 0 0, .int .i64 0, .int .i64 0] 27)) := ((Below.refl _ _).alloc (Nat.le_refl _) _).alloc (by simp) _
  go_enter Try.func9, Try.ntmps9
  go_upto_region 1 with fail
  generalize (w.alloc (.cells #[.int .i64 kind, .int .i64 id, .string name, .int .i64 size, .int .i64 sum, .int .i64 at_, .slice D dn dc, .slice G gn gc, .int .i64 of_, .int .i64 code] 27)).alloc (.cells #[.int .i64 0, .int .i64 0, .string ⟨#[]⟩, .int .i64 0, .int .i64 0, .int .i64 0, .slice none 0 0, .slice none 0 0, .int .i64 0, .int .i64 0] 27) = W at *
  have x6 := k1.cell' (i := 6) rfl
  go_wp2_with fail
  refine (CR.out _ hB).mono ?_
  rintro e w1 ⟨g, rfl, hgb, hRm, hb⟩
  have z2 := k2.lt
  replace k1 := k1.step hb
  replace k2 := k2.step hb
  have hB2 := hB.trans (hb.mono hB.size)
  have kf := k1.frozen
  have y6 := k1.cell' (i := 6) rfl
  clear x6 hB hb CR
  go_upto_region 2 with fail
  have k1' := k1.set_ 6 (.slice (some ⟨g, 0, none⟩) dn (dn + 5))
  have k2' := k2.far (p := ⟨w.heap.size, 6, none⟩) (by show w.heap.size + 1 ≠ w.heap.size; omega) (.slice (some ⟨g, 0, none⟩) dn (dn + 5))
  have hB3 := hB2.setCell (p := ⟨w.heap.size, 6, none⟩) (by show w.heap.size ≤ w.heap.size; omega) (.slice (some ⟨g, 0, none⟩) dn (dn + 5))
  have hRm' : Room (w1.setCell ⟨w.heap.size, 6, none⟩ (.slice (some ⟨g, 0, none⟩) dn (dn + 5))) g data := RoomK.keep hRm (Below.heap_setCell w1 ⟨w.heap.size, 6, none⟩ _ g (by show g ≠ w.heap.size; omega))
  clear k1 k2 hB2 hRm kf y6
  generalize w1.setCell ⟨w.heap.size, 6, none⟩ (.slice (some ⟨g, 0, none⟩) dn (dn + 5)) = W2 at *
  have x7 := k1'.cell' (i := 7) rfl
  have z3 := k2'.lt
  have hRG := HG.out.below hB3
  have q4 : 0 + gn ≤ maxLen := by unfold maxLen; omega
  have q5 : (0 + gn) * 16 ≤ 140737488355328 := by omega
  have q6 : w.heap.size + 2 ≤ W2.heap.size := by omega
  go_wp2_with (first
    | (at_builtin; refine wpList_append_Own W2 rfl (.const (.slice none 0 0)) (.tmp 8) 24 rfl (w.heap.size + 2) 66 j0 _ 2 16 Try.underlying24 hj0 hy0 hy1 hy2 rfl none 0 0 [] rfl (Own.none_ _ _ _ _) G gn gc (gps gaps) rfl HL.out hRG (gps_one gaps) q4 q5 q6 ?_; intro H hc w5 hO5 hg5 hor5; rw [Nat.zero_add, List.nil_append] at hO5; simp only [Nat.zero_add]; have hb5 := below_of_grown hg5; have k5 := k1'.step hb5; have kf5 := k5.frozen; have y7 := k5.cell' (i := 7) rfl; have k6 := k5.set_ 7 (.slice H gn hc); have k7 := (k2'.step hb5).far (p := ⟨w.heap.size, 7, none⟩) (by show w.heap.size + 1 ≠ w.heap.size; omega) (.slice H gn hc))
    | (refine wpList_load_row rfl 27 (.tmp 1) rfl w.heap.size rfl 27 #[.int .i64 kind, .int .i64 id, .string name, .int .i64 size, .int .i64 sum, .int .i64 at_, .slice (some ⟨g, 0, none⟩) dn (dn + 5), .slice H gn hc, .int .i64 of_, .int .i64 code] (0, 0) _ k6 Try.underlying27 rfl notesz ?_)
    | (refine wpList_store_row rfl 27 (.tmp 2) (.tmp 11) rfl (w.heap.size + 1) #[.int .i64 kind, .int .i64 id, .string name, .int .i64 size, .int .i64 sum, .int .i64 at_, .slice (some ⟨g, 0, none⟩) dn (dn + 5), .slice H gn hc, .int .i64 of_, .int .i64 code] rfl rfl 27 _ k7 notesz rfl (by simp [Value.oneCell']) ?_))
  have k8 := k7.row #[.int .i64 kind, .int .i64 id, .string name, .int .i64 size, .int .i64 sum, .int .i64 at_, .slice (some ⟨g, 0, none⟩) dn (dn + 5), .slice H gn hc, .int .i64 of_, .int .i64 code]
  refine bodyPost_ret (v := .agg #[.int .i64 kind, .int .i64 id, .string name, .int .i64 size, .int .i64 sum, .int .i64 at_, .slice (some ⟨g, 0, none⟩) dn (dn + 5), .slice H gn hc, .int .i64 of_, .int .i64 code]) (results_cell_row (ty := 27) rfl _ _ (w.heap.size + 1) 27 _ (0, 0) _ rfl k8 Try.underlying27 rfl notesz) rfl ?_
  have z5 := hb5.size
  refine ⟨g, H, hc, rfl, by omega, ?_, ?_, ?_⟩
  · have h1 := hRm'.below hb5
    exact RoomK.keep h1 ((setRow_other _ _ g _ (by omega)).trans (Below.heap_setCell w5 ⟨w.heap.size, 7, none⟩ _ g (by show g ≠ w.heap.size; omega)))
  · have h1 := hO5.keep (w' := (w5.setCell ⟨w.heap.size, 7, none⟩ (.slice H gn hc)).setRow (w.heap.size + 1) #[.int .i64 kind, .int .i64 id, .string name, .int .i64 size, .int .i64 sum, .int .i64 at_, .slice (some ⟨g, 0, none⟩) dn (dn + 5), .slice H gn hc, .int .i64 of_, .int .i64 code]) (fun a ha _ => by have h3 := (hO5.lt a.block (by rw [ha]; rfl)).1; exact (setRow_other _ _ a.block _ (by omega)).trans (Below.heap_setCell w5 ⟨w.heap.size, 7, none⟩ _ a.block (by show a.block ≠ w.heap.size; omega)))
    exact h1.mono (by omega)
  · exact below_row ((hB3.trans (hb5.mono hB3.size)).setCell (p := ⟨w.heap.size, 7, none⟩) (by show w.heap.size ≤ w.heap.size; omega) _) (by omega) _
end Go.Proofs.Ytianombjgdmbeaa
namespace Go.Proofs.Ytianombjgdmbeaa
set_option linter.unusedSimpArgs false
set_option linter.unusedVariables false
open Go.RowKit

theorem takersz : (Try.prog.info? 44).map (·.size) = some 14 := by kernel_rfl
set_option maxHeartbeats 3200000 in
set_option maxRecDepth 100000 in
theorem takerOf_any (x : Tk) (H : Option Addr) (hn hc : Nat) (F : Option Addr) (fn fc : Nat) (w : World) (hh : x.have_.length = hn) (hf : x.file.length = fn) (hH : Rd w H (gps x.have_)) (hF : Rd w F (bvs x.file)) (hhn : hn ≤ 8796093022200) (hfn : fn ≤ 140737488351232) :
    Calls Try.prog 24 #[tkv x H hn hc F fn fc] w fun e w' => ∃ H' hc' F' fc', e = .returned (tkv x H' hn hc' F' fn fc') ∧ Own w' w.heap.size 66 2 H' hn hc' (gps x.have_) ∧ Own w' w.heap.size 5 1 F' fn fc' (bvs x.file) ∧ Below w.heap.size w w' := by
  obtain ⟨i0, hi0, hz0, hz1, hz2⟩ := info_parts u8info
  obtain ⟨j0, hj0, hy0, hy1, hy2⟩ := info_parts pairinfo
  have HH := Lib.hid hH
  have HF := Lib.hid hF
  have HFL : Hid ((bvs x.file).length = fn * 1) := Lib.hid (by rw [bvs_length, hf, Nat.mul_one])
  have HHL : Hid ((gps x.have_).length = hn * 2) := Lib.hid (by rw [gps_len, hh])
  clear hf hh hF hH
  obtain ⟨id, known, name, size, ended, last, sum, have_, file, stage, timer, patience, tries, limit⟩ := x
  unfold tkv tkc
  dsimp only at HF HH HFL HHL ⊢
  have k1 := (Blk.new w 44 #[.int .i64 id, .bool known, .string name, .int .i64 size, .bool ended, .int .i64 last, .int .i64 sum, .slice H hn hc, .slice F fn fc, .int .i64 stage, .int .i64 timer, .int .i64 patience, .int .i64 tries, .int .i64 limit]).alloc (.cells #[.int .i64 0, .bool false, .string ⟨#[]⟩, .int .i64 0, .bool false, .int .i64 0, .int .i64 0, .slice none 0 0, .slice none 0 0, .int .i64 0, .int .i64 0, .int .i64 0, .int .i64 0, .int .i64 0] 44)
  have k2 := Blk.new (w.alloc (.cells #[.int .i64 id, .bool known, .string name, .int .i64 size, .bool ended, .int .i64 last, .int .i64 sum, .slice H hn hc, .slice F fn fc, .int .i64 stage, .int .i64 timer, .int .i64 patience, .int .i64 tries, .int .i64 limit] 44)) 44 #[.int .i64 0, .bool false, .string ⟨#[]⟩, .int .i64 0, .bool false, .int .i64 0, .int .i64 0, .slice none 0 0, .slice none 0 0, .int .i64 0, .int .i64 0, .int .i64 0, .int .i64 0, .int .i64 0]
  rw [show (w.alloc (.cells #[.int .i64 id, .bool known, .string name, .int .i64 size, .bool ended, .int .i64 last, .int .i64 sum, .slice H hn hc, .slice F fn fc, .int .i64 stage, .int .i64 timer, .int .i64 patience, .int .i64 tries, .int .i64 limit] 44)).heap.size = w.heap.size + 1 by simp] at k2
  have hB : Below w.heap.size w ((w.alloc (.cells #[.int .i64 id, .bool known, .string name, .int .i64 size, .bool ended, .int .i64 last, .int .i64 sum, .slice H hn hc, .slice F fn fc, .int .i64 stage, .int .i64 timer, .int .i64 patience, .int .i64 tries, .int .i64 limit] 44)).alloc (.cells #[.int .i64 0, .bool false, .string ⟨#[]⟩, .int .i64 0, .bool false, .int .i64 0, .int .i64 0, .slice none 0 0, .slice none 0 0, .int .i64 0, .int .i64 0, .int .i64 0, .int .i64 0, .int .i64 0] 44)) := ((Below.refl _ _).alloc (Nat.le_refl _) _).alloc (by simp) _
  go_enter Try.func24, Try.ntmps24
  go_upto_region 1 with fail
  generalize (w.alloc (.cells #[.int .i64 id, .bool known, .string name, .int .i64 size, .bool ended, .int .i64 last, .int .i64 sum, .slice H hn hc, .slice F fn fc, .int .i64 stage, .int .i64 timer, .int .i64 patience, .int .i64 tries, .int .i64 limit] 44)).alloc (.cells #[.int .i64 0, .bool false, .string ⟨#[]⟩, .int .i64 0, .bool false, .int .i64 0, .int .i64 0, .slice none 0 0, .slice none 0 0, .int .i64 0, .int .i64 0, .int .i64 0, .int .i64 0, .int .i64 0] 44) = W at *
  have x2 := k1.cell' (i := 7) rfl
  have z2 := k2.lt
  have hRH := HH.out.below hB
  have q4 : 0 + hn ≤ maxLen := by unfold maxLen; omega
  have q5 : (0 + hn) * 16 ≤ 140737488355328 := by omega
  have q6 : w.heap.size + 2 ≤ W.heap.size := by omega
  go_upto_region 2 with (at_builtin; refine wpList_append_Own W rfl (.const (.slice none 0 0)) (.tmp 4) 24 rfl (w.heap.size + 2) 66 j0 _ 2 16 Try.underlying24 hj0 hy0 hy1 hy2 rfl none 0 0 [] rfl (Own.none_ _ _ _ _) H hn hc (gps have_) rfl HHL.out hRH (gps_one have_) q4 q5 q6 ?_; intro H1 h1 w5 hO5 hg5 hor5; rw [Nat.zero_add, List.nil_append] at hO5; simp only [Nat.zero_add]; have hb5 := below_of_grown hg5; have k5 := k1.step hb5; have kf5 := k5.frozen; have y2 := k5.cell' (i := 7) rfl)
  have k6 := k5.set_ 7 (.slice H1 hn h1)
  have k7 := (k2.step hb5).far (p := ⟨w.heap.size, 7, none⟩) (by show w.heap.size + 1 ≠ w.heap.size; omega) (.slice H1 hn h1)
  have hO6 := hO5.setFar (p := ⟨w.heap.size, 7, none⟩) (fun e => by have h1 := (hO5.lt _ e).1; simp at h1; omega) (.slice H1 hn h1)
  have hB6 := (hB.trans (hb5.mono hB.size)).setCell (p := ⟨w.heap.size, 7, none⟩) (by show w.heap.size ≤ w.heap.size; omega) (.slice H1 hn h1)
  have z5 := hb5.size
  have z6 : W.heap.size ≤ (w5.setCell ⟨w.heap.size, 7, none⟩ (.slice H1 hn h1)).heap.size := by simp; omega
  clear k1 k2 hB x2 hRH q4 q5 hO5 hg5 hor5 hb5 k5 kf5 y2
  generalize w5.setCell ⟨w.heap.size, 7, none⟩ (.slice H1 hn h1) = W2 at *
  have x8 := k6.cell' (i := 8) rfl
  have hRF := HF.out.below hB6
  have q4 : 0 + fn ≤ maxLen := by unfold maxLen; omega
  have q5 : (0 + fn) * 1 ≤ 140737488355328 := by omega
  have q7 : w.heap.size + 2 ≤ W2.heap.size := by omega
  go_wp2_with (first
    | (at_builtin; refine wpList_append_Own W2 rfl (.const (.slice none 0 0)) (.tmp 8) 23 rfl (w.heap.size + 2) 5 i0 _ 1 1 Try.underlying23 hi0 hz0 hz1 hz2 rfl none 0 0 [] rfl (Own.none_ _ _ _ _) F fn fc (bvs file) rfl HFL.out hRF (bvs_one file) q4 q5 q7 ?_; intro F1 f1 w8 hO8 hg8 hor8; rw [Nat.zero_add, List.nil_append] at hO8; simp only [Nat.zero_add]; have hb8 := below_of_grown hg8; have k8 := k6.step hb8; have kf8 := k8.frozen; have y8 := k8.cell' (i := 8) rfl; have k9 := k8.set_ 8 (.slice F1 fn f1); have k10 := (k7.step hb8).far (p := ⟨w.heap.size, 8, none⟩) (by show w.heap.size + 1 ≠ w.heap.size; omega) (.slice F1 fn f1))
    | (refine wpList_load_row rfl 44 (.tmp 1) rfl w.heap.size rfl 44 #[.int .i64 id, .bool known, .string name, .int .i64 size, .bool ended, .int .i64 last, .int .i64 sum, .slice H1 hn h1, .slice F1 fn f1, .int .i64 stage, .int .i64 timer, .int .i64 patience, .int .i64 tries, .int .i64 limit] (0, 0) _ k9 Try.underlying44 rfl takersz ?_)
    | (refine wpList_store_row rfl 44 (.tmp 2) (.tmp 11) rfl (w.heap.size + 1) #[.int .i64 id, .bool known, .string name, .int .i64 size, .bool ended, .int .i64 last, .int .i64 sum, .slice H1 hn h1, .slice F1 fn f1, .int .i64 stage, .int .i64 timer, .int .i64 patience, .int .i64 tries, .int .i64 limit] rfl rfl 44 _ k10 takersz rfl (by simp [Value.oneCell']) ?_))
  have k11 := k10.row #[.int .i64 id, .bool known, .string name, .int .i64 size, .bool ended, .int .i64 last, .int .i64 sum, .slice H1 hn h1, .slice F1 fn f1, .int .i64 stage, .int .i64 timer, .int .i64 patience, .int .i64 tries, .int .i64 limit]
  refine bodyPost_ret (v := .agg #[.int .i64 id, .bool known, .string name, .int .i64 size, .bool ended, .int .i64 last, .int .i64 sum, .slice H1 hn h1, .slice F1 fn f1, .int .i64 stage, .int .i64 timer, .int .i64 patience, .int .i64 tries, .int .i64 limit]) (results_cell_row (ty := 44) rfl _ _ (w.heap.size + 1) 44 _ (0, 0) _ rfl k11 Try.underlying44 rfl takersz) rfl ?_
  have hO9 := hO6.below hb8
  refine ⟨H1, h1, F1, f1, rfl, ?_, ?_, ?_⟩
  · have h1 := hO9.keep (w' := (w8.setCell ⟨w.heap.size, 8, none⟩ (.slice F1 fn f1)).setRow (w.heap.size + 1) #[.int .i64 id, .bool known, .string name, .int .i64 size, .bool ended, .int .i64 last, .int .i64 sum, .slice H1 hn h1, .slice F1 fn f1, .int .i64 stage, .int .i64 timer, .int .i64 patience, .int .i64 tries, .int .i64 limit]) (fun a ha _ => by have h3 := (hO9.lt a.block (by rw [ha]; rfl)).1; exact (setRow_other _ _ a.block _ (by omega)).trans (Below.heap_setCell w8 ⟨w.heap.size, 8, none⟩ _ a.block (by show a.block ≠ w.heap.size; omega)))
    exact h1.mono (by omega)
  · have h1 := hO8.keep (w' := (w8.setCell ⟨w.heap.size, 8, none⟩ (.slice F1 fn f1)).setRow (w.heap.size + 1) #[.int .i64 id, .bool known, .string name, .int .i64 size, .bool ended, .int .i64 last, .int .i64 sum, .slice H1 hn h1, .slice F1 fn f1, .int .i64 stage, .int .i64 timer, .int .i64 patience, .int .i64 tries, .int .i64 limit]) (fun a ha _ => by have h3 := (hO8.lt a.block (by rw [ha]; rfl)).1; exact (setRow_other _ _ a.block _ (by omega)).trans (Below.heap_setCell w8 ⟨w.heap.size, 8, none⟩ _ a.block (by show a.block ≠ w.heap.size; omega)))
    exact h1.mono (by omega)
  · exact below_row ((hB6.trans (hb8.mono hB6.size)).setCell (p := ⟨w.heap.size, 8, none⟩) (by show w.heap.size ≤ w.heap.size; omega) _) (by omega) _
end Go.Proofs.Ytianombjgdmbeaa
