/-
  GiverOf: a giver with memory of its own; the clone of a slice of pairs. deliver.alike of a note and its bare one: nothing but what its kind uses.
-/
import Derived.Test.YtianombjgdmbeaaMDeliverWaits14
import Derived.Test.YtianombjgdmbeaaMDeliverWaits12
import Derived.Test.YtianombjgdmbeaaMDeliverWaits10
namespace Go.Proofs.Ytianombjgdmbeaa
set_option linter.unusedSimpArgs false
set_option linter.unusedVariables false
open Go.RowKit

theorem giversz : (Try.prog.info? 55).map (·.size) = some 13 := by kernel_rfl
set_option maxHeartbeats 3200000 in
set_option maxRecDepth 100000 in
theorem giverOf_any (x : Gv) (F : Option Addr) (fn fc : Nat) (A : Option Addr) (an ac : Nat) (w : World) (hf : x.file.length = fn) (ha : x.again.length = an) (hF : Rd w F (bvs x.file)) (hA : Rd w A (gps x.again)) (hfn : fn ≤ 140737488351232) (han : an ≤ 8796093022200) :
    Calls Try.prog 61 #[gvv x F fn fc A an ac] w fun e w' => ∃ F' fc' A' ac', e = .returned (gvv x F' fn fc' A' an ac') ∧ Own w' w.heap.size 5 1 F' fn fc' (bvs x.file) ∧ Own w' w.heap.size 66 2 A' an ac' (gps x.again) ∧ Below w.heap.size w w' := by
  obtain ⟨i0, hi0, hz0, hz1, hz2⟩ := info_parts u8info
  obtain ⟨j0, hj0, hy0, hy1, hy2⟩ := info_parts pairinfo
  have HF := Lib.hid hF
  have HA := Lib.hid hA
  have HFL : Hid ((bvs x.file).length = fn * 1) := Lib.hid (by rw [bvs_length, hf, Nat.mul_one])
  have HAL : Hid ((gps x.again).length = an * 2) := Lib.hid (by rw [gps_len, ha])
  clear hf ha hF hA
  obtain ⟨id, name, file, most, burst, stage, first, at_, again, timer, patience, tries, limit⟩ := x
  unfold gvv gvc
  dsimp only at HF HA HFL HAL ⊢
  have k1 := (Blk.new w 55 #[.int .i64 id, .string name, .slice F fn fc, .int .i64 most, .int .i64 burst, .int .i64 stage, .bool first, .int .i64 at_, .slice A an ac, .int .i64 timer, .int .i64 patience, .int .i64 tries, .int .i64 limit]).alloc (.cells #[.int .i64 0, .string ⟨#[]⟩, .slice none 0 0, .int .i64 0, .int .i64 0, .int .i64 0, .bool false, .int .i64 0, .slice none 0 0, .int .i64 0, .int .i64 0, .int .i64 0, .int .i64 0] 55)
  have k2 := Blk.new (w.alloc (.cells #[.int .i64 id, .string name, .slice F fn fc, .int .i64 most, .int .i64 burst, .int .i64 stage, .bool first, .int .i64 at_, .slice A an ac, .int .i64 timer, .int .i64 patience, .int .i64 tries, .int .i64 limit] 55)) 55 #[.int .i64 0, .string ⟨#[]⟩, .slice none 0 0, .int .i64 0, .int .i64 0, .int .i64 0, .bool false, .int .i64 0, .slice none 0 0, .int .i64 0, .int .i64 0, .int .i64 0, .int .i64 0]
  rw [show (w.alloc (.cells #[.int .i64 id, .string name, .slice F fn fc, .int .i64 most, .int .i64 burst, .int .i64 stage, .bool first, .int .i64 at_, .slice A an ac, .int .i64 timer, .int .i64 patience, .int .i64 tries, .int .i64 limit] 55)).heap.size = w.heap.size + 1 by simp] at k2
  have hB : Below w.heap.size w ((w.alloc (.cells #[.int .i64 id, .string name, .slice F fn fc, .int .i64 most, .int .i64 burst, .int .i64 stage, .bool first, .int .i64 at_, .slice A an ac, .int .i64 timer, .int .i64 patience, .int .i64 tries, .int .i64 limit] 55)).alloc (.cells #[.int .i64 0, .string ⟨#[]⟩, .slice none 0 0, .int .i64 0, .int .i64 0, .int .i64 0, .bool false, .int .i64 0, .slice none 0 0, .int .i64 0, .int .i64 0, .int .i64 0, .int .i64 0] 55)) := ((Below.refl _ _).alloc (Nat.le_refl _) _).alloc (by simp) _
  go_enter Try.func61, Try.ntmps61
  go_upto_region 1 with fail
  generalize (w.alloc (.cells #[.int .i64 id, .string name, .slice F fn fc, .int .i64 most, .int .i64 burst, .int .i64 stage, .bool first, .int .i64 at_, .slice A an ac, .int .i64 timer, .int .i64 patience, .int .i64 tries, .int .i64 limit] 55)).alloc (.cells #[.int .i64 0, .string ⟨#[]⟩, .slice none 0 0, .int .i64 0, .int .i64 0, .int .i64 0, .bool false, .int .i64 0, .slice none 0 0, .int .i64 0, .int .i64 0, .int .i64 0, .int .i64 0] 55) = W at *
  have x2 := k1.cell' (i := 2) rfl
  have z2 := k2.lt
  have hRF := HF.out.below hB
  have q4 : 0 + fn ≤ maxLen := by unfold maxLen; omega
  have q5 : (0 + fn) * 1 ≤ 140737488355328 := by omega
  have q6 : w.heap.size + 2 ≤ W.heap.size := by omega
  go_upto_region 2 with (at_builtin; refine wpList_append_Own W rfl (.const (.slice none 0 0)) (.tmp 4) 23 rfl (w.heap.size + 2) 5 i0 _ 1 1 Try.underlying23 hi0 hz0 hz1 hz2 rfl none 0 0 [] rfl (Own.none_ _ _ _ _) F fn fc (bvs file) rfl HFL.out hRF (bvs_one file) q4 q5 q6 ?_; intro F1 f1 w5 hO5 hg5 hor5; rw [Nat.zero_add, List.nil_append] at hO5; simp only [Nat.zero_add]; have hb5 := below_of_grown hg5; have k5 := k1.step hb5; have kf5 := k5.frozen; have y2 := k5.cell' (i := 2) rfl)
  have k6 := k5.set_ 2 (.slice F1 fn f1)
  have k7 := (k2.step hb5).far (p := ⟨w.heap.size, 2, none⟩) (by show w.heap.size + 1 ≠ w.heap.size; omega) (.slice F1 fn f1)
  have hO6 := hO5.setFar (p := ⟨w.heap.size, 2, none⟩) (fun e => by have h1 := (hO5.lt _ e).1; simp at h1; omega) (.slice F1 fn f1)
  have hB6 := (hB.trans (hb5.mono hB.size)).setCell (p := ⟨w.heap.size, 2, none⟩) (by show w.heap.size ≤ w.heap.size; omega) (.slice F1 fn f1)
  have z5 := hb5.size
  have z6 : W.heap.size ≤ (w5.setCell ⟨w.heap.size, 2, none⟩ (.slice F1 fn f1)).heap.size := by simp; omega
  clear k1 k2 hB x2 hRF q4 q5 hO5 hg5 hor5 hb5 k5 kf5 y2
  generalize w5.setCell ⟨w.heap.size, 2, none⟩ (.slice F1 fn f1) = W2 at *
  have x8 := k6.cell' (i := 8) rfl
  have hRA := HA.out.below hB6
  have q4 : 0 + an ≤ maxLen := by unfold maxLen; omega
  have q5 : (0 + an) * 16 ≤ 140737488355328 := by omega
  have q7 : w.heap.size + 2 ≤ W2.heap.size := by omega
  go_wp2_with (first
    | (at_builtin; refine wpList_append_Own W2 rfl (.const (.slice none 0 0)) (.tmp 8) 24 rfl (w.heap.size + 2) 66 j0 _ 2 16 Try.underlying24 hj0 hy0 hy1 hy2 rfl none 0 0 [] rfl (Own.none_ _ _ _ _) A an ac (gps again) rfl HAL.out hRA (gps_one again) q4 q5 q7 ?_; intro A1 a1 w8 hO8 hg8 hor8; rw [Nat.zero_add, List.nil_append] at hO8; simp only [Nat.zero_add]; have hb8 := below_of_grown hg8; have k8 := k6.step hb8; have kf8 := k8.frozen; have y8 := k8.cell' (i := 8) rfl; have k9 := k8.set_ 8 (.slice A1 an a1); have k10 := (k7.step hb8).far (p := ⟨w.heap.size, 8, none⟩) (by show w.heap.size + 1 ≠ w.heap.size; omega) (.slice A1 an a1))
    | (refine wpList_load_row rfl 55 (.tmp 1) rfl w.heap.size rfl 55 #[.int .i64 id, .string name, .slice F1 fn f1, .int .i64 most, .int .i64 burst, .int .i64 stage, .bool first, .int .i64 at_, .slice A1 an a1, .int .i64 timer, .int .i64 patience, .int .i64 tries, .int .i64 limit] (0, 0) _ k9 Try.underlying55 rfl giversz ?_)
    | (refine wpList_store_row rfl 55 (.tmp 2) (.tmp 11) rfl (w.heap.size + 1) #[.int .i64 id, .string name, .slice F1 fn f1, .int .i64 most, .int .i64 burst, .int .i64 stage, .bool first, .int .i64 at_, .slice A1 an a1, .int .i64 timer, .int .i64 patience, .int .i64 tries, .int .i64 limit] rfl rfl 55 _ k10 giversz rfl (by simp [Value.oneCell']) ?_))
  have k11 := k10.row #[.int .i64 id, .string name, .slice F1 fn f1, .int .i64 most, .int .i64 burst, .int .i64 stage, .bool first, .int .i64 at_, .slice A1 an a1, .int .i64 timer, .int .i64 patience, .int .i64 tries, .int .i64 limit]
  refine bodyPost_ret (v := .agg #[.int .i64 id, .string name, .slice F1 fn f1, .int .i64 most, .int .i64 burst, .int .i64 stage, .bool first, .int .i64 at_, .slice A1 an a1, .int .i64 timer, .int .i64 patience, .int .i64 tries, .int .i64 limit]) (results_cell_row (ty := 55) rfl _ _ (w.heap.size + 1) 55 _ (0, 0) _ rfl k11 Try.underlying55 rfl giversz) rfl ?_
  have hO9 := hO6.below hb8
  refine ⟨F1, f1, A1, a1, rfl, ?_, ?_, ?_⟩
  · have h1 := hO9.keep (w' := (w8.setCell ⟨w.heap.size, 8, none⟩ (.slice A1 an a1)).setRow (w.heap.size + 1) #[.int .i64 id, .string name, .slice F1 fn f1, .int .i64 most, .int .i64 burst, .int .i64 stage, .bool first, .int .i64 at_, .slice A1 an a1, .int .i64 timer, .int .i64 patience, .int .i64 tries, .int .i64 limit]) (fun a ha _ => by have h3 := (hO9.lt a.block (by rw [ha]; rfl)).1; exact (setRow_other _ _ a.block _ (by omega)).trans (Below.heap_setCell w8 ⟨w.heap.size, 8, none⟩ _ a.block (by show a.block ≠ w.heap.size; omega)))
    exact h1.mono (by omega)
  · have h1 := hO8.keep (w' := (w8.setCell ⟨w.heap.size, 8, none⟩ (.slice A1 an a1)).setRow (w.heap.size + 1) #[.int .i64 id, .string name, .slice F1 fn f1, .int .i64 most, .int .i64 burst, .int .i64 stage, .bool first, .int .i64 at_, .slice A1 an a1, .int .i64 timer, .int .i64 patience, .int .i64 tries, .int .i64 limit]) (fun a ha _ => by have h3 := (hO8.lt a.block (by rw [ha]; rfl)).1; exact (setRow_other _ _ a.block _ (by omega)).trans (Below.heap_setCell w8 ⟨w.heap.size, 8, none⟩ _ a.block (by show a.block ≠ w.heap.size; omega)))
    exact h1.mono (by omega)
  · exact below_row ((hB6.trans (hb8.mono hB6.size)).setCell (p := ⟨w.heap.size, 8, none⟩) (by show w.heap.size ≤ w.heap.size; omega) _) (by omega) _
end Go.Proofs.Ytianombjgdmbeaa
namespace Go.Proofs.Ytianombjgdmbeaa
set_option linter.unusedSimpArgs false
set_option linter.unusedVariables false
open Go.RowKit

theorem txt_none {s : ByteArray} (h : s.size = 0) : (s.toList == (⟨#[]⟩ : ByteArray).toList) = true ∧ (s.toList == []) = true ∧ s.toList.isEmpty = true := by
  obtain rfl : s = ⟨#[]⟩ := ByteArray.ext (Array.eq_empty_of_size_eq_zero h)
  simp
theorem txt_some {s : ByteArray} (h : ¬ s.size = 0) : (s.toList == (⟨#[]⟩ : ByteArray).toList) = false ∧ (s.toList == []) = false ∧ s.toList.isEmpty = false := by
  have hl : s.toList ≠ [] := by
    intro h2
    have e : s.toList = s.data.toList := by rcases s with ⟨⟨d⟩⟩; simp
    have : s.data.toList = [] := by rw [← e]; exact h2
    exact h (by show s.data.size = 0; rw [← Array.length_toList, this]; rfl)
  have hz : (⟨#[]⟩ : ByteArray).toList = [] := by simp
  refine ⟨by rw [hz, beq_eq_false_iff_ne]; exact hl, by rw [beq_eq_false_iff_ne]; exact hl, ?_⟩
  rw [List.isEmpty_eq_false_iff]
  exact hl
set_option maxHeartbeats 6400000 in
set_option maxRecDepth 100000 in
theorem alike_1 (id : Int) (name : ByteArray) (size sum at_ : Int) (data : List UInt8) (gaps : List (Int × Int)) (of_ code : Int) (D : Option Addr) (dn dc : Nat) (G : Option Addr) (gn gc : Nat) (w : World) (hd : data.length = dn) (hg : gaps.length = gn) :
    Calls Try.prog 82 #[.agg #[.int .i64 1, .int .i64 id, .string name, .int .i64 size, .int .i64 sum, .int .i64 at_, .slice D dn dc, .slice G gn gc, .int .i64 of_, .int .i64 code], .agg #[.int .i64 1, .int .i64 id, .string name, .int .i64 size, .int .i64 0, .int .i64 0, .slice none 0 0, .slice none 0 0, .int .i64 0, .int .i64 0]] w fun e w' => e = .returned (.bool (bareOk (⟨1, id, name, size, sum, at_, data, gaps, of_, code⟩ : Nt))) ∧ Below w.heap.size w w' := by
  have HD := Lib.hid hd
  have HGN := Lib.hid hg
  clear hd hg
  have b1 := (Blk.new w 27 #[.int .i64 1, .int .i64 id, .string name, .int .i64 size, .int .i64 sum, .int .i64 at_, .slice D dn dc, .slice G gn gc, .int .i64 of_, .int .i64 code]).alloc (.cells #[.int .i64 1, .int .i64 id, .string name, .int .i64 size, .int .i64 0, .int .i64 0, .slice none 0 0, .slice none 0 0, .int .i64 0, .int .i64 0] 27)
  have b2 := Blk.new (w.alloc (.cells #[.int .i64 1, .int .i64 id, .string name, .int .i64 size, .int .i64 sum, .int .i64 at_, .slice D dn dc, .slice G gn gc, .int .i64 of_, .int .i64 code] 27)) 27 #[.int .i64 1, .int .i64 id, .string name, .int .i64 size, .int .i64 0, .int .i64 0, .slice none 0 0, .slice none 0 0, .int .i64 0, .int .i64 0]
  rw [show (w.alloc (.cells #[.int .i64 1, .int .i64 id, .string name, .int .i64 size, .int .i64 sum, .int .i64 at_, .slice D dn dc, .slice G gn gc, .int .i64 of_, .int .i64 code] 27)).heap.size = w.heap.size + 1 by simp] at b2
  have hB : Below w.heap.size w ((w.alloc (.cells #[.int .i64 1, .int .i64 id, .string name, .int .i64 size, .int .i64 sum, .int .i64 at_, .slice D dn dc, .slice G gn gc, .int .i64 of_, .int .i64 code] 27)).alloc (.cells #[.int .i64 1, .int .i64 id, .string name, .int .i64 size, .int .i64 0, .int .i64 0, .slice none 0 0, .slice none 0 0, .int .i64 0, .int .i64 0] 27)) := ((Below.refl _ _).alloc (Nat.le_refl _) _).alloc (by simp) _
  go_enter Try.func82, Try.ntmps82
  go_upto_region 1 with fail
  try simp only [List.append_eq, List.cons_append, List.nil_append]
  generalize (w.alloc (.cells #[.int .i64 1, .int .i64 id, .string name, .int .i64 size, .int .i64 sum, .int .i64 at_, .slice D dn dc, .slice G gn gc, .int .i64 of_, .int .i64 code] 27)).alloc (.cells #[.int .i64 1, .int .i64 id, .string name, .int .i64 size, .int .i64 0, .int .i64 0, .slice none 0 0, .slice none 0 0, .int .i64 0, .int .i64 0] 27) = W at *
  have x2 := b1.cell' (i := 2) rfl
  have y2 := b2.cell' (i := 2) rfl
  have x3 := b1.cell' (i := 3) rfl
  have y3 := b2.cell' (i := 3) rfl
  have x4 := b1.cell' (i := 4) rfl
  have y4 := b2.cell' (i := 4) rfl
  have x5 := b1.cell' (i := 5) rfl
  have y5 := b2.cell' (i := 5) rfl
  have x6 := b1.cell' (i := 6) rfl
  have y6 := b2.cell' (i := 6) rfl
  have x7 := b1.cell' (i := 7) rfl
  have y7 := b2.cell' (i := 7) rfl
  have x8 := b1.cell' (i := 8) rfl
  have y8 := b2.cell' (i := 8) rfl
  have x9 := b1.cell' (i := 9) rfl
  have y9 := b2.cell' (i := 9) rfl
  by_cases c4 : sum = 0
  rotate_left
  · have hno : bareOk (⟨1, id, name, size, sum, at_, data, gaps, of_, code⟩ : Nt) = false := by simp [bareOk, c4]
    have i4 : (sum == 0) = false := by rw [beq_eq_false_iff_ne]; exact c4
    have HNO := Lib.hid hno
    clear hno c4
    go_wp2_with fail
    go_ret
    exact ⟨by rw [HNO.out]; rfl, hB⟩
  have i4 : (sum == 0) = true := by rw [beq_iff_eq]; exact c4
  have C4 := Lib.hid c4
  clear c4
  by_cases c5 : at_ = 0
  rotate_left
  · have hno : bareOk (⟨1, id, name, size, sum, at_, data, gaps, of_, code⟩ : Nt) = false := by simp [bareOk, c5]
    have i5 : (at_ == 0) = false := by rw [beq_eq_false_iff_ne]; exact c5
    have HNO := Lib.hid hno
    clear hno c5
    go_wp2_with fail
    go_ret
    exact ⟨by rw [HNO.out]; rfl, hB⟩
  have i5 : (at_ == 0) = true := by rw [beq_iff_eq]; exact c5
  have C5 := Lib.hid c5
  clear c5
  by_cases c6 : dn = 0
  rotate_left
  · have hno : bareOk (⟨1, id, name, size, sum, at_, data, gaps, of_, code⟩ : Nt) = false := by simp [bareOk, HD.out, c6]
    have i6 : ((dn : Int) == 0) = false := by rw [beq_eq_false_iff_ne]; omega
    have i6b : (dn == 0) = false := by rw [beq_eq_false_iff_ne]; exact c6
    have HNO := Lib.hid hno
    clear hno c6
    go_wp2_with fail
    go_ret
    exact ⟨by rw [HNO.out]; rfl, hB⟩
  have i6 : ((dn : Int) == 0) = true := by rw [beq_iff_eq]; omega
  have i6b : (dn == 0) = true := by rw [beq_iff_eq]; exact c6
  have C6 := Lib.hid c6
  clear c6
  by_cases c7 : gn = 0
  rotate_left
  · have hno : bareOk (⟨1, id, name, size, sum, at_, data, gaps, of_, code⟩ : Nt) = false := by simp [bareOk, HGN.out, c7]
    have i7 : ((gn : Int) == 0) = false := by rw [beq_eq_false_iff_ne]; omega
    have i7b : (gn == 0) = false := by rw [beq_eq_false_iff_ne]; exact c7
    have HNO := Lib.hid hno
    clear hno c7
    go_wp2_with fail
    go_ret
    exact ⟨by rw [HNO.out]; rfl, hB⟩
  have i7 : ((gn : Int) == 0) = true := by rw [beq_iff_eq]; omega
  have i7b : (gn == 0) = true := by rw [beq_iff_eq]; exact c7
  have C7 := Lib.hid c7
  clear c7
  by_cases c8 : of_ = 0
  rotate_left
  · have hno : bareOk (⟨1, id, name, size, sum, at_, data, gaps, of_, code⟩ : Nt) = false := by simp [bareOk, c8]
    have i8 : (of_ == 0) = false := by rw [beq_eq_false_iff_ne]; exact c8
    have HNO := Lib.hid hno
    clear hno c8
    go_wp2_with fail
    go_ret
    exact ⟨by rw [HNO.out]; rfl, hB⟩
  have i8 : (of_ == 0) = true := by rw [beq_iff_eq]; exact c8
  have C8 := Lib.hid c8
  clear c8
  by_cases c9 : code = 0
  rotate_left
  · have hno : bareOk (⟨1, id, name, size, sum, at_, data, gaps, of_, code⟩ : Nt) = false := by simp [bareOk, c9]
    have i9 : (code == 0) = false := by rw [beq_eq_false_iff_ne]; exact c9
    have HNO := Lib.hid hno
    clear hno c9
    go_wp2_with fail
    go_ret
    exact ⟨by rw [HNO.out]; rfl, hB⟩
  have i9 : (code == 0) = true := by rw [beq_iff_eq]; exact c9
  have C9 := Lib.hid c9
  clear c9
  have hno : bareOk (⟨1, id, name, size, sum, at_, data, gaps, of_, code⟩ : Nt) = true := by simp [bareOk, C4.out, C5.out, HD.out, C6.out, HGN.out, C7.out, C8.out, C9.out]
  have HNO := Lib.hid hno
  clear hno
  go_wp2_with fail
  go_ret
  exact ⟨by rw [HNO.out]; rfl, hB⟩
set_option maxHeartbeats 6400000 in
set_option maxRecDepth 100000 in
theorem alike_2 (id : Int) (name : ByteArray) (size sum at_ : Int) (data : List UInt8) (gaps : List (Int × Int)) (of_ code : Int) (D : Option Addr) (dn dc : Nat) (G : Option Addr) (gn gc : Nat) (w : World) (hd : data.length = dn) (hg : gaps.length = gn) :
    Calls Try.prog 82 #[.agg #[.int .i64 2, .int .i64 id, .string name, .int .i64 size, .int .i64 sum, .int .i64 at_, .slice D dn dc, .slice G gn gc, .int .i64 of_, .int .i64 code], .agg #[.int .i64 2, .int .i64 id, .string ⟨#[]⟩, .int .i64 0, .int .i64 0, .int .i64 at_, .slice D dn dc, .slice none 0 0, .int .i64 0, .int .i64 0]] w fun e w' => e = .returned (.bool (bareOk (⟨2, id, name, size, sum, at_, data, gaps, of_, code⟩ : Nt))) ∧ Below w.heap.size w w' := by
  have HD := Lib.hid hd
  have HGN := Lib.hid hg
  clear hd hg
  have b1 := (Blk.new w 27 #[.int .i64 2, .int .i64 id, .string name, .int .i64 size, .int .i64 sum, .int .i64 at_, .slice D dn dc, .slice G gn gc, .int .i64 of_, .int .i64 code]).alloc (.cells #[.int .i64 2, .int .i64 id, .string ⟨#[]⟩, .int .i64 0, .int .i64 0, .int .i64 at_, .slice D dn dc, .slice none 0 0, .int .i64 0, .int .i64 0] 27)
  have b2 := Blk.new (w.alloc (.cells #[.int .i64 2, .int .i64 id, .string name, .int .i64 size, .int .i64 sum, .int .i64 at_, .slice D dn dc, .slice G gn gc, .int .i64 of_, .int .i64 code] 27)) 27 #[.int .i64 2, .int .i64 id, .string ⟨#[]⟩, .int .i64 0, .int .i64 0, .int .i64 at_, .slice D dn dc, .slice none 0 0, .int .i64 0, .int .i64 0]
  rw [show (w.alloc (.cells #[.int .i64 2, .int .i64 id, .string name, .int .i64 size, .int .i64 sum, .int .i64 at_, .slice D dn dc, .slice G gn gc, .int .i64 of_, .int .i64 code] 27)).heap.size = w.heap.size + 1 by simp] at b2
  have hB : Below w.heap.size w ((w.alloc (.cells #[.int .i64 2, .int .i64 id, .string name, .int .i64 size, .int .i64 sum, .int .i64 at_, .slice D dn dc, .slice G gn gc, .int .i64 of_, .int .i64 code] 27)).alloc (.cells #[.int .i64 2, .int .i64 id, .string ⟨#[]⟩, .int .i64 0, .int .i64 0, .int .i64 at_, .slice D dn dc, .slice none 0 0, .int .i64 0, .int .i64 0] 27)) := ((Below.refl _ _).alloc (Nat.le_refl _) _).alloc (by simp) _
  go_enter Try.func82, Try.ntmps82
  go_upto_region 1 with fail
  try simp only [List.append_eq, List.cons_append, List.nil_append]
  generalize (w.alloc (.cells #[.int .i64 2, .int .i64 id, .string name, .int .i64 size, .int .i64 sum, .int .i64 at_, .slice D dn dc, .slice G gn gc, .int .i64 of_, .int .i64 code] 27)).alloc (.cells #[.int .i64 2, .int .i64 id, .string ⟨#[]⟩, .int .i64 0, .int .i64 0, .int .i64 at_, .slice D dn dc, .slice none 0 0, .int .i64 0, .int .i64 0] 27) = W at *
  have x2 := b1.cell' (i := 2) rfl
  have y2 := b2.cell' (i := 2) rfl
  have x3 := b1.cell' (i := 3) rfl
  have y3 := b2.cell' (i := 3) rfl
  have x4 := b1.cell' (i := 4) rfl
  have y4 := b2.cell' (i := 4) rfl
  have x5 := b1.cell' (i := 5) rfl
  have y5 := b2.cell' (i := 5) rfl
  have x6 := b1.cell' (i := 6) rfl
  have y6 := b2.cell' (i := 6) rfl
  have x7 := b1.cell' (i := 7) rfl
  have y7 := b2.cell' (i := 7) rfl
  have x8 := b1.cell' (i := 8) rfl
  have y8 := b2.cell' (i := 8) rfl
  have x9 := b1.cell' (i := 9) rfl
  have y9 := b2.cell' (i := 9) rfl
  by_cases c2 : name.size = 0
  rotate_left
  · have hno : bareOk (⟨2, id, name, size, sum, at_, data, gaps, of_, code⟩ : Nt) = false := by simp [bareOk, c2]
    obtain ⟨i2, i2b, i2c⟩ := txt_some c2
    have HNO := Lib.hid hno
    clear hno c2
    go_wp2_with fail
    go_ret
    exact ⟨by rw [HNO.out]; rfl, hB⟩
  obtain ⟨i2, i2b, i2c⟩ := txt_none c2
  have C2 := Lib.hid c2
  clear c2
  by_cases c3 : size = 0
  rotate_left
  · have hno : bareOk (⟨2, id, name, size, sum, at_, data, gaps, of_, code⟩ : Nt) = false := by simp [bareOk, c3]
    have i3 : (size == 0) = false := by rw [beq_eq_false_iff_ne]; exact c3
    have HNO := Lib.hid hno
    clear hno c3
    go_wp2_with fail
    go_ret
    exact ⟨by rw [HNO.out]; rfl, hB⟩
  have i3 : (size == 0) = true := by rw [beq_iff_eq]; exact c3
  have C3 := Lib.hid c3
  clear c3
  by_cases c4 : sum = 0
  rotate_left
  · have hno : bareOk (⟨2, id, name, size, sum, at_, data, gaps, of_, code⟩ : Nt) = false := by simp [bareOk, c4]
    have i4 : (sum == 0) = false := by rw [beq_eq_false_iff_ne]; exact c4
    have HNO := Lib.hid hno
    clear hno c4
    go_wp2_with fail
    go_ret
    exact ⟨by rw [HNO.out]; rfl, hB⟩
  have i4 : (sum == 0) = true := by rw [beq_iff_eq]; exact c4
  have C4 := Lib.hid c4
  clear c4
  by_cases c7 : gn = 0
  rotate_left
  · have hno : bareOk (⟨2, id, name, size, sum, at_, data, gaps, of_, code⟩ : Nt) = false := by simp [bareOk, HGN.out, c7]
    have i7 : ((gn : Int) == 0) = false := by rw [beq_eq_false_iff_ne]; omega
    have i7b : (gn == 0) = false := by rw [beq_eq_false_iff_ne]; exact c7
    have HNO := Lib.hid hno
    clear hno c7
    go_wp2_with fail
    go_ret
    exact ⟨by rw [HNO.out]; rfl, hB⟩
  have i7 : ((gn : Int) == 0) = true := by rw [beq_iff_eq]; omega
  have i7b : (gn == 0) = true := by rw [beq_iff_eq]; exact c7
  have C7 := Lib.hid c7
  clear c7
  by_cases c8 : of_ = 0
  rotate_left
  · have hno : bareOk (⟨2, id, name, size, sum, at_, data, gaps, of_, code⟩ : Nt) = false := by simp [bareOk, c8]
    have i8 : (of_ == 0) = false := by rw [beq_eq_false_iff_ne]; exact c8
    have HNO := Lib.hid hno
    clear hno c8
    go_wp2_with fail
    go_ret
    exact ⟨by rw [HNO.out]; rfl, hB⟩
  have i8 : (of_ == 0) = true := by rw [beq_iff_eq]; exact c8
  have C8 := Lib.hid c8
  clear c8
  by_cases c9 : code = 0
  rotate_left
  · have hno : bareOk (⟨2, id, name, size, sum, at_, data, gaps, of_, code⟩ : Nt) = false := by simp [bareOk, c9]
    have i9 : (code == 0) = false := by rw [beq_eq_false_iff_ne]; exact c9
    have HNO := Lib.hid hno
    clear hno c9
    go_wp2_with fail
    go_ret
    exact ⟨by rw [HNO.out]; rfl, hB⟩
  have i9 : (code == 0) = true := by rw [beq_iff_eq]; exact c9
  have C9 := Lib.hid c9
  clear c9
  have hno : bareOk (⟨2, id, name, size, sum, at_, data, gaps, of_, code⟩ : Nt) = true := by simp [bareOk, C2.out, C3.out, C4.out, HGN.out, C7.out, C8.out, C9.out]
  have HNO := Lib.hid hno
  clear hno
  go_wp2_with fail
  go_ret
  exact ⟨by rw [HNO.out]; rfl, hB⟩
set_option maxHeartbeats 6400000 in
set_option maxRecDepth 100000 in
theorem alike_3 (id : Int) (name : ByteArray) (size sum at_ : Int) (data : List UInt8) (gaps : List (Int × Int)) (of_ code : Int) (D : Option Addr) (dn dc : Nat) (G : Option Addr) (gn gc : Nat) (w : World) (hd : data.length = dn) (hg : gaps.length = gn) :
    Calls Try.prog 82 #[.agg #[.int .i64 3, .int .i64 id, .string name, .int .i64 size, .int .i64 sum, .int .i64 at_, .slice D dn dc, .slice G gn gc, .int .i64 of_, .int .i64 code], .agg #[.int .i64 3, .int .i64 id, .string ⟨#[]⟩, .int .i64 size, .int .i64 sum, .int .i64 0, .slice none 0 0, .slice none 0 0, .int .i64 0, .int .i64 0]] w fun e w' => e = .returned (.bool (bareOk (⟨3, id, name, size, sum, at_, data, gaps, of_, code⟩ : Nt))) ∧ Below w.heap.size w w' := by
  have HD := Lib.hid hd
  have HGN := Lib.hid hg
  clear hd hg
  have b1 := (Blk.new w 27 #[.int .i64 3, .int .i64 id, .string name, .int .i64 size, .int .i64 sum, .int .i64 at_, .slice D dn dc, .slice G gn gc, .int .i64 of_, .int .i64 code]).alloc (.cells #[.int .i64 3, .int .i64 id, .string ⟨#[]⟩, .int .i64 size, .int .i64 sum, .int .i64 0, .slice none 0 0, .slice none 0 0, .int .i64 0, .int .i64 0] 27)
  have b2 := Blk.new (w.alloc (.cells #[.int .i64 3, .int .i64 id, .string name, .int .i64 size, .int .i64 sum, .int .i64 at_, .slice D dn dc, .slice G gn gc, .int .i64 of_, .int .i64 code] 27)) 27 #[.int .i64 3, .int .i64 id, .string ⟨#[]⟩, .int .i64 size, .int .i64 sum, .int .i64 0, .slice none 0 0, .slice none 0 0, .int .i64 0, .int .i64 0]
  rw [show (w.alloc (.cells #[.int .i64 3, .int .i64 id, .string name, .int .i64 size, .int .i64 sum, .int .i64 at_, .slice D dn dc, .slice G gn gc, .int .i64 of_, .int .i64 code] 27)).heap.size = w.heap.size + 1 by simp] at b2
  have hB : Below w.heap.size w ((w.alloc (.cells #[.int .i64 3, .int .i64 id, .string name, .int .i64 size, .int .i64 sum, .int .i64 at_, .slice D dn dc, .slice G gn gc, .int .i64 of_, .int .i64 code] 27)).alloc (.cells #[.int .i64 3, .int .i64 id, .string ⟨#[]⟩, .int .i64 size, .int .i64 sum, .int .i64 0, .slice none 0 0, .slice none 0 0, .int .i64 0, .int .i64 0] 27)) := ((Below.refl _ _).alloc (Nat.le_refl _) _).alloc (by simp) _
  go_enter Try.func82, Try.ntmps82
  go_upto_region 1 with fail
  try simp only [List.append_eq, List.cons_append, List.nil_append]
  generalize (w.alloc (.cells #[.int .i64 3, .int .i64 id, .string name, .int .i64 size, .int .i64 sum, .int .i64 at_, .slice D dn dc, .slice G gn gc, .int .i64 of_, .int .i64 code] 27)).alloc (.cells #[.int .i64 3, .int .i64 id, .string ⟨#[]⟩, .int .i64 size, .int .i64 sum, .int .i64 0, .slice none 0 0, .slice none 0 0, .int .i64 0, .int .i64 0] 27) = W at *
  have x2 := b1.cell' (i := 2) rfl
  have y2 := b2.cell' (i := 2) rfl
  have x3 := b1.cell' (i := 3) rfl
  have y3 := b2.cell' (i := 3) rfl
  have x4 := b1.cell' (i := 4) rfl
  have y4 := b2.cell' (i := 4) rfl
  have x5 := b1.cell' (i := 5) rfl
  have y5 := b2.cell' (i := 5) rfl
  have x6 := b1.cell' (i := 6) rfl
  have y6 := b2.cell' (i := 6) rfl
  have x7 := b1.cell' (i := 7) rfl
  have y7 := b2.cell' (i := 7) rfl
  have x8 := b1.cell' (i := 8) rfl
  have y8 := b2.cell' (i := 8) rfl
  have x9 := b1.cell' (i := 9) rfl
  have y9 := b2.cell' (i := 9) rfl
  by_cases c2 : name.size = 0
  rotate_left
  · have hno : bareOk (⟨3, id, name, size, sum, at_, data, gaps, of_, code⟩ : Nt) = false := by simp [bareOk, c2]
    obtain ⟨i2, i2b, i2c⟩ := txt_some c2
    have HNO := Lib.hid hno
    clear hno c2
    go_wp2_with fail
    go_ret
    exact ⟨by rw [HNO.out]; rfl, hB⟩
  obtain ⟨i2, i2b, i2c⟩ := txt_none c2
  have C2 := Lib.hid c2
  clear c2
  by_cases c5 : at_ = 0
  rotate_left
  · have hno : bareOk (⟨3, id, name, size, sum, at_, data, gaps, of_, code⟩ : Nt) = false := by simp [bareOk, c5]
    have i5 : (at_ == 0) = false := by rw [beq_eq_false_iff_ne]; exact c5
    have HNO := Lib.hid hno
    clear hno c5
    go_wp2_with fail
    go_ret
    exact ⟨by rw [HNO.out]; rfl, hB⟩
  have i5 : (at_ == 0) = true := by rw [beq_iff_eq]; exact c5
  have C5 := Lib.hid c5
  clear c5
  by_cases c6 : dn = 0
  rotate_left
  · have hno : bareOk (⟨3, id, name, size, sum, at_, data, gaps, of_, code⟩ : Nt) = false := by simp [bareOk, HD.out, c6]
    have i6 : ((dn : Int) == 0) = false := by rw [beq_eq_false_iff_ne]; omega
    have i6b : (dn == 0) = false := by rw [beq_eq_false_iff_ne]; exact c6
    have HNO := Lib.hid hno
    clear hno c6
    go_wp2_with fail
    go_ret
    exact ⟨by rw [HNO.out]; rfl, hB⟩
  have i6 : ((dn : Int) == 0) = true := by rw [beq_iff_eq]; omega
  have i6b : (dn == 0) = true := by rw [beq_iff_eq]; exact c6
  have C6 := Lib.hid c6
  clear c6
  by_cases c7 : gn = 0
  rotate_left
  · have hno : bareOk (⟨3, id, name, size, sum, at_, data, gaps, of_, code⟩ : Nt) = false := by simp [bareOk, HGN.out, c7]
    have i7 : ((gn : Int) == 0) = false := by rw [beq_eq_false_iff_ne]; omega
    have i7b : (gn == 0) = false := by rw [beq_eq_false_iff_ne]; exact c7
    have HNO := Lib.hid hno
    clear hno c7
    go_wp2_with fail
    go_ret
    exact ⟨by rw [HNO.out]; rfl, hB⟩
  have i7 : ((gn : Int) == 0) = true := by rw [beq_iff_eq]; omega
  have i7b : (gn == 0) = true := by rw [beq_iff_eq]; exact c7
  have C7 := Lib.hid c7
  clear c7
  by_cases c8 : of_ = 0
  rotate_left
  · have hno : bareOk (⟨3, id, name, size, sum, at_, data, gaps, of_, code⟩ : Nt) = false := by simp [bareOk, c8]
    have i8 : (of_ == 0) = false := by rw [beq_eq_false_iff_ne]; exact c8
    have HNO := Lib.hid hno
    clear hno c8
    go_wp2_with fail
    go_ret
    exact ⟨by rw [HNO.out]; rfl, hB⟩
  have i8 : (of_ == 0) = true := by rw [beq_iff_eq]; exact c8
  have C8 := Lib.hid c8
  clear c8
  by_cases c9 : code = 0
  rotate_left
  · have hno : bareOk (⟨3, id, name, size, sum, at_, data, gaps, of_, code⟩ : Nt) = false := by simp [bareOk, c9]
    have i9 : (code == 0) = false := by rw [beq_eq_false_iff_ne]; exact c9
    have HNO := Lib.hid hno
    clear hno c9
    go_wp2_with fail
    go_ret
    exact ⟨by rw [HNO.out]; rfl, hB⟩
  have i9 : (code == 0) = true := by rw [beq_iff_eq]; exact c9
  have C9 := Lib.hid c9
  clear c9
  have hno : bareOk (⟨3, id, name, size, sum, at_, data, gaps, of_, code⟩ : Nt) = true := by simp [bareOk, C2.out, C5.out, HD.out, C6.out, HGN.out, C7.out, C8.out, C9.out]
  have HNO := Lib.hid hno
  clear hno
  go_wp2_with fail
  go_ret
  exact ⟨by rw [HNO.out]; rfl, hB⟩
set_option maxHeartbeats 6400000 in
set_option maxRecDepth 100000 in
theorem alike_4 (id : Int) (name : ByteArray) (size sum at_ : Int) (data : List UInt8) (gaps : List (Int × Int)) (of_ code : Int) (D : Option Addr) (dn dc : Nat) (G : Option Addr) (gn gc : Nat) (w : World) (hd : data.length = dn) (hg : gaps.length = gn) :
    Calls Try.prog 82 #[.agg #[.int .i64 4, .int .i64 id, .string name, .int .i64 size, .int .i64 sum, .int .i64 at_, .slice D dn dc, .slice G gn gc, .int .i64 of_, .int .i64 code], .agg #[.int .i64 4, .int .i64 id, .string ⟨#[]⟩, .int .i64 0, .int .i64 0, .int .i64 0, .slice none 0 0, .slice G gn gc, .int .i64 0, .int .i64 0]] w fun e w' => e = .returned (.bool (bareOk (⟨4, id, name, size, sum, at_, data, gaps, of_, code⟩ : Nt))) ∧ Below w.heap.size w w' := by
  have HD := Lib.hid hd
  have HGN := Lib.hid hg
  clear hd hg
  have b1 := (Blk.new w 27 #[.int .i64 4, .int .i64 id, .string name, .int .i64 size, .int .i64 sum, .int .i64 at_, .slice D dn dc, .slice G gn gc, .int .i64 of_, .int .i64 code]).alloc (.cells #[.int .i64 4, .int .i64 id, .string ⟨#[]⟩, .int .i64 0, .int .i64 0, .int .i64 0, .slice none 0 0, .slice G gn gc, .int .i64 0, .int .i64 0] 27)
  have b2 := Blk.new (w.alloc (.cells #[.int .i64 4, .int .i64 id, .string name, .int .i64 size, .int .i64 sum, .int .i64 at_, .slice D dn dc, .slice G gn gc, .int .i64 of_, .int .i64 code] 27)) 27 #[.int .i64 4, .int .i64 id, .string ⟨#[]⟩, .int .i64 0, .int .i64 0, .int .i64 0, .slice none 0 0, .slice G gn gc, .int .i64 0, .int .i64 0]
  rw [show (w.alloc (.cells #[.int .i64 4, .int .i64 id, .string name, .int .i64 size, .int .i64 sum, .int .i64 at_, .slice D dn dc, .slice G gn gc, .int .i64 of_, .int .i64 code] 27)).heap.size = w.heap.size + 1 by simp] at b2
  have hB : Below w.heap.size w ((w.alloc (.cells #[.int .i64 4, .int .i64 id, .string name, .int .i64 size, .int .i64 sum, .int .i64 at_, .slice D dn dc, .slice G gn gc, .int .i64 of_, .int .i64 code] 27)).alloc (.cells #[.int .i64 4, .int .i64 id, .string ⟨#[]⟩, .int .i64 0, .int .i64 0, .int .i64 0, .slice none 0 0, .slice G gn gc, .int .i64 0, .int .i64 0] 27)) := ((Below.refl _ _).alloc (Nat.le_refl _) _).alloc (by simp) _
  go_enter Try.func82, Try.ntmps82
  go_upto_region 1 with fail
  try simp only [List.append_eq, List.cons_append, List.nil_append]
  generalize (w.alloc (.cells #[.int .i64 4, .int .i64 id, .string name, .int .i64 size, .int .i64 sum, .int .i64 at_, .slice D dn dc, .slice G gn gc, .int .i64 of_, .int .i64 code] 27)).alloc (.cells #[.int .i64 4, .int .i64 id, .string ⟨#[]⟩, .int .i64 0, .int .i64 0, .int .i64 0, .slice none 0 0, .slice G gn gc, .int .i64 0, .int .i64 0] 27) = W at *
  have x2 := b1.cell' (i := 2) rfl
  have y2 := b2.cell' (i := 2) rfl
  have x3 := b1.cell' (i := 3) rfl
  have y3 := b2.cell' (i := 3) rfl
  have x4 := b1.cell' (i := 4) rfl
  have y4 := b2.cell' (i := 4) rfl
  have x5 := b1.cell' (i := 5) rfl
  have y5 := b2.cell' (i := 5) rfl
  have x6 := b1.cell' (i := 6) rfl
  have y6 := b2.cell' (i := 6) rfl
  have x7 := b1.cell' (i := 7) rfl
  have y7 := b2.cell' (i := 7) rfl
  have x8 := b1.cell' (i := 8) rfl
  have y8 := b2.cell' (i := 8) rfl
  have x9 := b1.cell' (i := 9) rfl
  have y9 := b2.cell' (i := 9) rfl
  by_cases c2 : name.size = 0
  rotate_left
  · have hno : bareOk (⟨4, id, name, size, sum, at_, data, gaps, of_, code⟩ : Nt) = false := by simp [bareOk, c2]
    obtain ⟨i2, i2b, i2c⟩ := txt_some c2
    have HNO := Lib.hid hno
    clear hno c2
    go_wp2_with fail
    go_ret
    exact ⟨by rw [HNO.out]; rfl, hB⟩
  obtain ⟨i2, i2b, i2c⟩ := txt_none c2
  have C2 := Lib.hid c2
  clear c2
  by_cases c3 : size = 0
  rotate_left
  · have hno : bareOk (⟨4, id, name, size, sum, at_, data, gaps, of_, code⟩ : Nt) = false := by simp [bareOk, c3]
    have i3 : (size == 0) = false := by rw [beq_eq_false_iff_ne]; exact c3
    have HNO := Lib.hid hno
    clear hno c3
    go_wp2_with fail
    go_ret
    exact ⟨by rw [HNO.out]; rfl, hB⟩
  have i3 : (size == 0) = true := by rw [beq_iff_eq]; exact c3
  have C3 := Lib.hid c3
  clear c3
  by_cases c4 : sum = 0
  rotate_left
  · have hno : bareOk (⟨4, id, name, size, sum, at_, data, gaps, of_, code⟩ : Nt) = false := by simp [bareOk, c4]
    have i4 : (sum == 0) = false := by rw [beq_eq_false_iff_ne]; exact c4
    have HNO := Lib.hid hno
    clear hno c4
    go_wp2_with fail
    go_ret
    exact ⟨by rw [HNO.out]; rfl, hB⟩
  have i4 : (sum == 0) = true := by rw [beq_iff_eq]; exact c4
  have C4 := Lib.hid c4
  clear c4
  by_cases c5 : at_ = 0
  rotate_left
  · have hno : bareOk (⟨4, id, name, size, sum, at_, data, gaps, of_, code⟩ : Nt) = false := by simp [bareOk, c5]
    have i5 : (at_ == 0) = false := by rw [beq_eq_false_iff_ne]; exact c5
    have HNO := Lib.hid hno
    clear hno c5
    go_wp2_with fail
    go_ret
    exact ⟨by rw [HNO.out]; rfl, hB⟩
  have i5 : (at_ == 0) = true := by rw [beq_iff_eq]; exact c5
  have C5 := Lib.hid c5
  clear c5
  by_cases c6 : dn = 0
  rotate_left
  · have hno : bareOk (⟨4, id, name, size, sum, at_, data, gaps, of_, code⟩ : Nt) = false := by simp [bareOk, HD.out, c6]
    have i6 : ((dn : Int) == 0) = false := by rw [beq_eq_false_iff_ne]; omega
    have i6b : (dn == 0) = false := by rw [beq_eq_false_iff_ne]; exact c6
    have HNO := Lib.hid hno
    clear hno c6
    go_wp2_with fail
    go_ret
    exact ⟨by rw [HNO.out]; rfl, hB⟩
  have i6 : ((dn : Int) == 0) = true := by rw [beq_iff_eq]; omega
  have i6b : (dn == 0) = true := by rw [beq_iff_eq]; exact c6
  have C6 := Lib.hid c6
  clear c6
  by_cases c8 : of_ = 0
  rotate_left
  · have hno : bareOk (⟨4, id, name, size, sum, at_, data, gaps, of_, code⟩ : Nt) = false := by simp [bareOk, c8]
    have i8 : (of_ == 0) = false := by rw [beq_eq_false_iff_ne]; exact c8
    have HNO := Lib.hid hno
    clear hno c8
    go_wp2_with fail
    go_ret
    exact ⟨by rw [HNO.out]; rfl, hB⟩
  have i8 : (of_ == 0) = true := by rw [beq_iff_eq]; exact c8
  have C8 := Lib.hid c8
  clear c8
  by_cases c9 : code = 0
  rotate_left
  · have hno : bareOk (⟨4, id, name, size, sum, at_, data, gaps, of_, code⟩ : Nt) = false := by simp [bareOk, c9]
    have i9 : (code == 0) = false := by rw [beq_eq_false_iff_ne]; exact c9
    have HNO := Lib.hid hno
    clear hno c9
    go_wp2_with fail
    go_ret
    exact ⟨by rw [HNO.out]; rfl, hB⟩
  have i9 : (code == 0) = true := by rw [beq_iff_eq]; exact c9
  have C9 := Lib.hid c9
  clear c9
  have hno : bareOk (⟨4, id, name, size, sum, at_, data, gaps, of_, code⟩ : Nt) = true := by simp [bareOk, C2.out, C3.out, C4.out, C5.out, HD.out, C6.out, C8.out, C9.out]
  have HNO := Lib.hid hno
  clear hno
  go_wp2_with fail
  go_ret
  exact ⟨by rw [HNO.out]; rfl, hB⟩
set_option maxHeartbeats 6400000 in
set_option maxRecDepth 100000 in
theorem alike_5 (id : Int) (name : ByteArray) (size sum at_ : Int) (data : List UInt8) (gaps : List (Int × Int)) (of_ code : Int) (D : Option Addr) (dn dc : Nat) (G : Option Addr) (gn gc : Nat) (w : World) (hd : data.length = dn) (hg : gaps.length = gn) :
    Calls Try.prog 82 #[.agg #[.int .i64 5, .int .i64 id, .string name, .int .i64 size, .int .i64 sum, .int .i64 at_, .slice D dn dc, .slice G gn gc, .int .i64 of_, .int .i64 code], .agg #[.int .i64 5, .int .i64 id, .string ⟨#[]⟩, .int .i64 0, .int .i64 0, .int .i64 0, .slice none 0 0, .slice none 0 0, .int .i64 0, .int .i64 code]] w fun e w' => e = .returned (.bool (bareOk (⟨5, id, name, size, sum, at_, data, gaps, of_, code⟩ : Nt))) ∧ Below w.heap.size w w' := by
  have HD := Lib.hid hd
  have HGN := Lib.hid hg
  clear hd hg
  have b1 := (Blk.new w 27 #[.int .i64 5, .int .i64 id, .string name, .int .i64 size, .int .i64 sum, .int .i64 at_, .slice D dn dc, .slice G gn gc, .int .i64 of_, .int .i64 code]).alloc (.cells #[.int .i64 5, .int .i64 id, .string ⟨#[]⟩, .int .i64 0, .int .i64 0, .int .i64 0, .slice none 0 0, .slice none 0 0, .int .i64 0, .int .i64 code] 27)
  have b2 := Blk.new (w.alloc (.cells #[.int .i64 5, .int .i64 id, .string name, .int .i64 size, .int .i64 sum, .int .i64 at_, .slice D dn dc, .slice G gn gc, .int .i64 of_, .int .i64 code] 27)) 27 #[.int .i64 5, .int .i64 id, .string ⟨#[]⟩, .int .i64 0, .int .i64 0, .int .i64 0, .slice none 0 0, .slice none 0 0, .int .i64 0, .int .i64 code]
  rw [show (w.alloc (.cells #[.int .i64 5, .int .i64 id, .string name, .int .i64 size, .int .i64 sum, .int .i64 at_, .slice D dn dc, .slice G gn gc, .int .i64 of_, .int .i64 code] 27)).heap.size = w.heap.size + 1 by simp] at b2
  have hB : Below w.heap.size w ((w.alloc (.cells #[.int .i64 5, .int .i64 id, .string name, .int .i64 size, .int .i64 sum, .int .i64 at_, .slice D dn dc, .slice G gn gc, .int .i64 of_, .int .i64 code] 27)).alloc (.cells #[.int .i64 5, .int .i64 id, .string ⟨#[]⟩, .int .i64 0, .int .i64 0, .int .i64 0, .slice none 0 0, .slice none 0 0, .int .i64 0, .int .i64 code] 27)) := ((Below.refl _ _).alloc (Nat.le_refl _) _).alloc (by simp) _
  go_enter Try.func82, Try.ntmps82
  go_upto_region 1 with fail
  try simp only [List.append_eq, List.cons_append, List.nil_append]
  generalize (w.alloc (.cells #[.int .i64 5, .int .i64 id, .string name, .int .i64 size, .int .i64 sum, .int .i64 at_, .slice D dn dc, .slice G gn gc, .int .i64 of_, .int .i64 code] 27)).alloc (.cells #[.int .i64 5, .int .i64 id, .string ⟨#[]⟩, .int .i64 0, .int .i64 0, .int .i64 0, .slice none 0 0, .slice none 0 0, .int .i64 0, .int .i64 code] 27) = W at *
  have x2 := b1.cell' (i := 2) rfl
  have y2 := b2.cell' (i := 2) rfl
  have x3 := b1.cell' (i := 3) rfl
  have y3 := b2.cell' (i := 3) rfl
  have x4 := b1.cell' (i := 4) rfl
  have y4 := b2.cell' (i := 4) rfl
  have x5 := b1.cell' (i := 5) rfl
  have y5 := b2.cell' (i := 5) rfl
  have x6 := b1.cell' (i := 6) rfl
  have y6 := b2.cell' (i := 6) rfl
  have x7 := b1.cell' (i := 7) rfl
  have y7 := b2.cell' (i := 7) rfl
  have x8 := b1.cell' (i := 8) rfl
  have y8 := b2.cell' (i := 8) rfl
  have x9 := b1.cell' (i := 9) rfl
  have y9 := b2.cell' (i := 9) rfl
  by_cases c2 : name.size = 0
  rotate_left
  · have hno : bareOk (⟨5, id, name, size, sum, at_, data, gaps, of_, code⟩ : Nt) = false := by simp [bareOk, c2]
    obtain ⟨i2, i2b, i2c⟩ := txt_some c2
    have HNO := Lib.hid hno
    clear hno c2
    go_wp2_with fail
    go_ret
    exact ⟨by rw [HNO.out]; rfl, hB⟩
  obtain ⟨i2, i2b, i2c⟩ := txt_none c2
  have C2 := Lib.hid c2
  clear c2
  by_cases c3 : size = 0
  rotate_left
  · have hno : bareOk (⟨5, id, name, size, sum, at_, data, gaps, of_, code⟩ : Nt) = false := by simp [bareOk, c3]
    have i3 : (size == 0) = false := by rw [beq_eq_false_iff_ne]; exact c3
    have HNO := Lib.hid hno
    clear hno c3
    go_wp2_with fail
    go_ret
    exact ⟨by rw [HNO.out]; rfl, hB⟩
  have i3 : (size == 0) = true := by rw [beq_iff_eq]; exact c3
  have C3 := Lib.hid c3
  clear c3
  by_cases c4 : sum = 0
  rotate_left
  · have hno : bareOk (⟨5, id, name, size, sum, at_, data, gaps, of_, code⟩ : Nt) = false := by simp [bareOk, c4]
    have i4 : (sum == 0) = false := by rw [beq_eq_false_iff_ne]; exact c4
    have HNO := Lib.hid hno
    clear hno c4
    go_wp2_with fail
    go_ret
    exact ⟨by rw [HNO.out]; rfl, hB⟩
  have i4 : (sum == 0) = true := by rw [beq_iff_eq]; exact c4
  have C4 := Lib.hid c4
  clear c4
  by_cases c5 : at_ = 0
  rotate_left
  · have hno : bareOk (⟨5, id, name, size, sum, at_, data, gaps, of_, code⟩ : Nt) = false := by simp [bareOk, c5]
    have i5 : (at_ == 0) = false := by rw [beq_eq_false_iff_ne]; exact c5
    have HNO := Lib.hid hno
    clear hno c5
    go_wp2_with fail
    go_ret
    exact ⟨by rw [HNO.out]; rfl, hB⟩
  have i5 : (at_ == 0) = true := by rw [beq_iff_eq]; exact c5
  have C5 := Lib.hid c5
  clear c5
  by_cases c6 : dn = 0
  rotate_left
  · have hno : bareOk (⟨5, id, name, size, sum, at_, data, gaps, of_, code⟩ : Nt) = false := by simp [bareOk, HD.out, c6]
    have i6 : ((dn : Int) == 0) = false := by rw [beq_eq_false_iff_ne]; omega
    have i6b : (dn == 0) = false := by rw [beq_eq_false_iff_ne]; exact c6
    have HNO := Lib.hid hno
    clear hno c6
    go_wp2_with fail
    go_ret
    exact ⟨by rw [HNO.out]; rfl, hB⟩
  have i6 : ((dn : Int) == 0) = true := by rw [beq_iff_eq]; omega
  have i6b : (dn == 0) = true := by rw [beq_iff_eq]; exact c6
  have C6 := Lib.hid c6
  clear c6
  by_cases c7 : gn = 0
  rotate_left
  · have hno : bareOk (⟨5, id, name, size, sum, at_, data, gaps, of_, code⟩ : Nt) = false := by simp [bareOk, HGN.out, c7]
    have i7 : ((gn : Int) == 0) = false := by rw [beq_eq_false_iff_ne]; omega
    have i7b : (gn == 0) = false := by rw [beq_eq_false_iff_ne]; exact c7
    have HNO := Lib.hid hno
    clear hno c7
    go_wp2_with fail
    go_ret
    exact ⟨by rw [HNO.out]; rfl, hB⟩
  have i7 : ((gn : Int) == 0) = true := by rw [beq_iff_eq]; omega
  have i7b : (gn == 0) = true := by rw [beq_iff_eq]; exact c7
  have C7 := Lib.hid c7
  clear c7
  by_cases c8 : of_ = 0
  rotate_left
  · have hno : bareOk (⟨5, id, name, size, sum, at_, data, gaps, of_, code⟩ : Nt) = false := by simp [bareOk, c8]
    have i8 : (of_ == 0) = false := by rw [beq_eq_false_iff_ne]; exact c8
    have HNO := Lib.hid hno
    clear hno c8
    go_wp2_with fail
    go_ret
    exact ⟨by rw [HNO.out]; rfl, hB⟩
  have i8 : (of_ == 0) = true := by rw [beq_iff_eq]; exact c8
  have C8 := Lib.hid c8
  clear c8
  have hno : bareOk (⟨5, id, name, size, sum, at_, data, gaps, of_, code⟩ : Nt) = true := by simp [bareOk, C2.out, C3.out, C4.out, C5.out, HD.out, C6.out, HGN.out, C7.out, C8.out]
  have HNO := Lib.hid hno
  clear hno
  go_wp2_with fail
  go_ret
  exact ⟨by rw [HNO.out]; rfl, hB⟩
set_option maxHeartbeats 6400000 in
set_option maxRecDepth 100000 in
theorem alike_6 (id : Int) (name : ByteArray) (size sum at_ : Int) (data : List UInt8) (gaps : List (Int × Int)) (of_ code : Int) (D : Option Addr) (dn dc : Nat) (G : Option Addr) (gn gc : Nat) (w : World) (hd : data.length = dn) (hg : gaps.length = gn) :
    Calls Try.prog 82 #[.agg #[.int .i64 6, .int .i64 id, .string name, .int .i64 size, .int .i64 sum, .int .i64 at_, .slice D dn dc, .slice G gn gc, .int .i64 of_, .int .i64 code], .agg #[.int .i64 6, .int .i64 id, .string ⟨#[]⟩, .int .i64 0, .int .i64 0, .int .i64 0, .slice none 0 0, .slice none 0 0, .int .i64 of_, .int .i64 0]] w fun e w' => e = .returned (.bool (bareOk (⟨6, id, name, size, sum, at_, data, gaps, of_, code⟩ : Nt))) ∧ Below w.heap.size w w' := by
  have HD := Lib.hid hd
  have HGN := Lib.hid hg
  clear hd hg
  have b1 := (Blk.new w 27 #[.int .i64 6, .int .i64 id, .string name, .int .i64 size, .int .i64 sum, .int .i64 at_, .slice D dn dc, .slice G gn gc, .int .i64 of_, .int .i64 code]).alloc (.cells #[.int .i64 6, .int .i64 id, .string ⟨#[]⟩, .int .i64 0, .int .i64 0, .int .i64 0, .slice none 0 0, .slice none 0 0, .int .i64 of_, .int .i64 0] 27)
  have b2 := Blk.new (w.alloc (.cells #[.int .i64 6, .int .i64 id, .string name, .int .i64 size, .int .i64 sum, .int .i64 at_, .slice D dn dc, .slice G gn gc, .int .i64 of_, .int .i64 code] 27)) 27 #[.int .i64 6, .int .i64 id, .string ⟨#[]⟩, .int .i64 0, .int .i64 0, .int .i64 0, .slice none 0 0, .slice none 0 0, .int .i64 of_, .int .i64 0]
  rw [show (w.alloc (.cells #[.int .i64 6, .int .i64 id, .string name, .int .i64 size, .int .i64 sum, .int .i64 at_, .slice D dn dc, .slice G gn gc, .int .i64 of_, .int .i64 code] 27)).heap.size = w.heap.size + 1 by simp] at b2
  have hB : Below w.heap.size w ((w.alloc (.cells #[.int .i64 6, .int .i64 id, .string name, .int .i64 size, .int .i64 sum, .int .i64 at_, .slice D dn dc, .slice G gn gc, .int .i64 of_, .int .i64 code] 27)).alloc (.cells #[.int .i64 6, .int .i64 id, .string ⟨#[]⟩, .int .i64 0, .int .i64 0, .int .i64 0, .slice none 0 0, .slice none 0 0, .int .i64 of_, .int .i64 0] 27)) := ((Below.refl _ _).alloc (Nat.le_refl _) _).alloc (by simp) _
  go_enter Try.func82, Try.ntmps82
  go_upto_region 1 with fail
  try simp only [List.append_eq, List.cons_append, List.nil_append]
  generalize (w.alloc (.cells #[.int .i64 6, .int .i64 id, .string name, .int .i64 size, .int .i64 sum, .int .i64 at_, .slice D dn dc, .slice G gn gc, .int .i64 of_, .int .i64 code] 27)).alloc (.cells #[.int .i64 6, .int .i64 id, .string ⟨#[]⟩, .int .i64 0, .int .i64 0, .int .i64 0, .slice none 0 0, .slice none 0 0, .int .i64 of_, .int .i64 0] 27) = W at *
  have x2 := b1.cell' (i := 2) rfl
  have y2 := b2.cell' (i := 2) rfl
  have x3 := b1.cell' (i := 3) rfl
  have y3 := b2.cell' (i := 3) rfl
  have x4 := b1.cell' (i := 4) rfl
  have y4 := b2.cell' (i := 4) rfl
  have x5 := b1.cell' (i := 5) rfl
  have y5 := b2.cell' (i := 5) rfl
  have x6 := b1.cell' (i := 6) rfl
  have y6 := b2.cell' (i := 6) rfl
  have x7 := b1.cell' (i := 7) rfl
  have y7 := b2.cell' (i := 7) rfl
  have x8 := b1.cell' (i := 8) rfl
  have y8 := b2.cell' (i := 8) rfl
  have x9 := b1.cell' (i := 9) rfl
  have y9 := b2.cell' (i := 9) rfl
  by_cases c2 : name.size = 0
  rotate_left
  · have hno : bareOk (⟨6, id, name, size, sum, at_, data, gaps, of_, code⟩ : Nt) = false := by simp [bareOk, c2]
    obtain ⟨i2, i2b, i2c⟩ := txt_some c2
    have HNO := Lib.hid hno
    clear hno c2
    go_wp2_with fail
    go_ret
    exact ⟨by rw [HNO.out]; rfl, hB⟩
  obtain ⟨i2, i2b, i2c⟩ := txt_none c2
  have C2 := Lib.hid c2
  clear c2
  by_cases c3 : size = 0
  rotate_left
  · have hno : bareOk (⟨6, id, name, size, sum, at_, data, gaps, of_, code⟩ : Nt) = false := by simp [bareOk, c3]
    have i3 : (size == 0) = false := by rw [beq_eq_false_iff_ne]; exact c3
    have HNO := Lib.hid hno
    clear hno c3
    go_wp2_with fail
    go_ret
    exact ⟨by rw [HNO.out]; rfl, hB⟩
  have i3 : (size == 0) = true := by rw [beq_iff_eq]; exact c3
  have C3 := Lib.hid c3
  clear c3
  by_cases c4 : sum = 0
  rotate_left
  · have hno : bareOk (⟨6, id, name, size, sum, at_, data, gaps, of_, code⟩ : Nt) = false := by simp [bareOk, c4]
    have i4 : (sum == 0) = false := by rw [beq_eq_false_iff_ne]; exact c4
    have HNO := Lib.hid hno
    clear hno c4
    go_wp2_with fail
    go_ret
    exact ⟨by rw [HNO.out]; rfl, hB⟩
  have i4 : (sum == 0) = true := by rw [beq_iff_eq]; exact c4
  have C4 := Lib.hid c4
  clear c4
  by_cases c5 : at_ = 0
  rotate_left
  · have hno : bareOk (⟨6, id, name, size, sum, at_, data, gaps, of_, code⟩ : Nt) = false := by simp [bareOk, c5]
    have i5 : (at_ == 0) = false := by rw [beq_eq_false_iff_ne]; exact c5
    have HNO := Lib.hid hno
    clear hno c5
    go_wp2_with fail
    go_ret
    exact ⟨by rw [HNO.out]; rfl, hB⟩
  have i5 : (at_ == 0) = true := by rw [beq_iff_eq]; exact c5
  have C5 := Lib.hid c5
  clear c5
  by_cases c6 : dn = 0
  rotate_left
  · have hno : bareOk (⟨6, id, name, size, sum, at_, data, gaps, of_, code⟩ : Nt) = false := by simp [bareOk, HD.out, c6]
    have i6 : ((dn : Int) == 0) = false := by rw [beq_eq_false_iff_ne]; omega
    have i6b : (dn == 0) = false := by rw [beq_eq_false_iff_ne]; exact c6
    have HNO := Lib.hid hno
    clear hno c6
    go_wp2_with fail
    go_ret
    exact ⟨by rw [HNO.out]; rfl, hB⟩
  have i6 : ((dn : Int) == 0) = true := by rw [beq_iff_eq]; omega
  have i6b : (dn == 0) = true := by rw [beq_iff_eq]; exact c6
  have C6 := Lib.hid c6
  clear c6
  by_cases c7 : gn = 0
  rotate_left
  · have hno : bareOk (⟨6, id, name, size, sum, at_, data, gaps, of_, code⟩ : Nt) = false := by simp [bareOk, HGN.out, c7]
    have i7 : ((gn : Int) == 0) = false := by rw [beq_eq_false_iff_ne]; omega
    have i7b : (gn == 0) = false := by rw [beq_eq_false_iff_ne]; exact c7
    have HNO := Lib.hid hno
    clear hno c7
    go_wp2_with fail
    go_ret
    exact ⟨by rw [HNO.out]; rfl, hB⟩
  have i7 : ((gn : Int) == 0) = true := by rw [beq_iff_eq]; omega
  have i7b : (gn == 0) = true := by rw [beq_iff_eq]; exact c7
  have C7 := Lib.hid c7
  clear c7
  by_cases c9 : code = 0
  rotate_left
  · have hno : bareOk (⟨6, id, name, size, sum, at_, data, gaps, of_, code⟩ : Nt) = false := by simp [bareOk, c9]
    have i9 : (code == 0) = false := by rw [beq_eq_false_iff_ne]; exact c9
    have HNO := Lib.hid hno
    clear hno c9
    go_wp2_with fail
    go_ret
    exact ⟨by rw [HNO.out]; rfl, hB⟩
  have i9 : (code == 0) = true := by rw [beq_iff_eq]; exact c9
  have C9 := Lib.hid c9
  clear c9
  have hno : bareOk (⟨6, id, name, size, sum, at_, data, gaps, of_, code⟩ : Nt) = true := by simp [bareOk, C2.out, C3.out, C4.out, C5.out, HD.out, C6.out, HGN.out, C7.out, C9.out]
  have HNO := Lib.hid hno
  clear hno
  go_wp2_with fail
  go_ret
  exact ⟨by rw [HNO.out]; rfl, hB⟩
end Go.Proofs.Ytianombjgdmbeaa
