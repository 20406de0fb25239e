/-
  deliver.alike of a note and its bare one: nothing but what its kind uses.
-/
import Derived.Test.YtianombjgdmbeaaMDeliverTakes12
namespace Go.Proofs.Ytianombjgdmbeaa
set_option linter.unusedSimpArgs false
set_option linter.unusedVariables false
open Go.RowKit

theorem txt_none {s : ByteArray} (h : s.size = 0) : (s.toList == (⟨#[]⟩ : ByteArray).toList) = true ∧ (s.toList == []) = true ∧ s.toList.isEmpty = true := by
  obtain rfl : s = ⟨#[]⟩ := ByteArray.ext (Array.eq_empty_of_size_eq_zero h)
  simp
theorem txt_some {s : ByteArray} (h : ¬ s.size = 0) : (s.toList == (⟨#[]⟩ : ByteArray).toList) = false ∧ (s.toList == []) = false ∧ s.toList.isEmpty = false := by
  have hl : s.toList ≠ [] := by
    intro h2
    have e : s.toList = s.data.toList := by rcases s with ⟨⟨d⟩⟩; simp
    have : s.data.toList = [] := by rw [← e]; exact h2
    exact h (by show s.data.size = 0; rw [← Array.length_toList, this]; rfl)
  have hz : (⟨#[]⟩ : ByteArray).toList = [] := by simp
  refine ⟨by rw [hz, beq_eq_false_iff_ne]; exact hl, by rw [beq_eq_false_iff_ne]; exact hl, ?_⟩
  rw [List.isEmpty_eq_false_iff]
  exact hl
set_option maxHeartbeats 6400000 in
set_option maxRecDepth 100000 in
theorem alike_1 (id : Int) (name : ByteArray) (size sum at_ : Int) (data : List UInt8) (gaps : List (Int × Int)) (of_ code : Int) (D : Option Addr) (dn dc : Nat) (G : Option Addr) (gn gc : Nat) (w : World) (hd : data.length = dn) (hg : gaps.length = gn) :
    Calls Try.prog 82 #[.agg #[.int .i64 1, .int .i64 id, .string name, .int .i64 size, .int .i64 sum, .int .i64 at_, .slice D dn dc, .slice G gn gc, .int .i64 of_, .int .i64 code], .agg #[.int .i64 1, .int .i64 id, .string name, .int .i64 size, .int .i64 0, .int .i64 0, .slice none 0 0, .slice none 0 0, .int .i64 0, .int .i64 0]] w fun e w' => e = .returned (.bool (bareOk (⟨1, id, name, size, sum, at_, data, gaps, of_, code⟩ : Nt))) ∧ Below w.heap.size w w' := by
  have HD := Lib.hid hd
  have HGN := Lib.hid hg
  clear hd hg
  have b1 := (Blk.new w 27 #[.int .i64 1, .int .i64 id, .string name, .int .i64 size, .int .i64 sum, .int .i64 at_, .slice D dn dc, .slice G gn gc, .int .i64 of_, .int .i64 code]).alloc (.cells #[.int .i64 1, .int .i64 id, .string name, .int .i64 size, .int .i64 0, .int .i64 0, .slice none 0 0, .slice none 0 0, .int .i64 0, .int .i64 0] 27)
  have b2 := Blk.new (w.alloc (.cells #[.int .i64 1, .int .i64 id, .string name, .int .i64 size, .int .i64 sum, .int .i64 at_, .slice D dn dc, .slice G gn gc, .int .i64 of_, .int .i64 code] 27)) 27 #[.int .i64 1, .int .i64 id, .string name, .int .i64 size, .int .i64 0, .int .i64 0, .slice none 0 0, .slice none 0 0, .int .i64 0, .int .i64 0]
  rw [show (w.alloc (.cells #[.int .i64 1, .int .i64 id, .string name, .int .i64 size, .int .i64 sum, .int .i64 at_, .slice D dn dc, .slice G gn gc, .int .i64 of_, .int .i64 code] 27)).heap.size = w.heap.size + 1 by simp] at b2
  have hB : Below w.heap.size w ((w.alloc (.cells #[.int .i64 1, .int .i64 id, .string name, .int .i64 size, .int .i64 sum, .int .i64 at_, .slice D dn dc, .slice G gn gc, .int .i64 of_, .int .i64 code] 27)).alloc (.cells #[.int .i64 1, .int .i64 id, .string name, .int .i64 size, .int .i64 0, .int .i64 0, .slice none 0 0, .slice none 0 0, .int .i64 0, .int .i64 0] 27)) := ((Below.refl _ _).alloc (Nat.le_refl _) _).alloc (by simp) _
  go_enter Try.func82, Try.ntmps82
  go_upto_region 1 with fail
  try simp only [List.append_eq, List.cons_append, List.nil_append]
  generalize (w.alloc (.cells #[.int .i64 1, .int .i64 id, .string name, .int .i64 size, .int .i64 sum, .int .i64 at_, .slice D dn dc, .slice G gn gc, .int .i64 of_, .int .i64 code] 27)).alloc (.cells #[.int .i64 1, .int .i64 id, .string name, .int .i64 size, .int .i64 0, .int .i64 0, .slice none 0 0, .slice none 0 0, .int .i64 0, .int .i64 0] 27) = W at *
  have x2 := b1.cell' (i := 2) rfl
  have y2 := b2.cell' (i := 2) rfl
  have x3 := b1.cell' (i := 3) rfl
  have y3 := b2.cell' (i := 3) rfl
  have x4 := b1.cell' (i := 4) rfl
  have y4 := b2.cell' (i := 4) rfl
  have x5 := b1.cell' (i := 5) rfl
  have y5 := b2.cell' (i := 5) rfl
  have x6 := b1.cell' (i := 6) rfl
  have y6 := b2.cell' (i := 6) rfl
  have x7 := b1.cell' (i := 7) rfl
  have y7 := b2.cell' (i := 7) rfl
  have x8 := b1.cell' (i := 8) rfl
  have y8 := b2.cell' (i := 8) rfl
  have x9 := b1.cell' (i := 9) rfl
  have y9 := b2.cell' (i := 9) rfl
  by_cases c4 : sum = 0
  rotate_left
  · have hno : bareOk (⟨1, id, name, size, sum, at_, data, gaps, of_, code⟩ : Nt) = false := by simp [bareOk, c4]
    have i4 : (sum == 0) = false := by rw [beq_eq_false_iff_ne]; exact c4
    have HNO := Lib.hid hno
    clear hno c4
    go_wp2_with fail
    go_ret
    exact ⟨by rw [HNO.out]; rfl, hB⟩
  have i4 : (sum == 0) = true := by rw [beq_iff_eq]; exact c4
  have C4 := Lib.hid c4
  clear c4
  by_cases c5 : at_ = 0
  rotate_left
  · have hno : bareOk (⟨1, id, name, size, sum, at_, data, gaps, of_, code⟩ : Nt) = false := by simp [bareOk, c5]
    have i5 : (at_ == 0) = false := by rw [beq_eq_false_iff_ne]; exact c5
    have HNO := Lib.hid hno
    clear hno c5
    go_wp2_with fail
    go_ret
    exact ⟨by rw [HNO.out]; rfl, hB⟩
  have i5 : (at_ == 0) = true := by rw [beq_iff_eq]; exact c5
  have C5 := Lib.hid c5
  clear c5
  by_cases c6 : dn = 0
  rotate_left
  · have hno : bareOk (⟨1, id, name, size, sum, at_, data, gaps, of_, code⟩ : Nt) = false := by simp [bareOk, HD.out, c6]
    have i6 : ((dn : Int) == 0) = false := by rw [beq_eq_false_iff_ne]; omega
    have i6b : (dn == 0) = false := by rw [beq_eq_false_iff_ne]; exact c6
    have HNO := Lib.hid hno
    clear hno c6
    go_wp2_with fail
    go_ret
    exact ⟨by rw [HNO.out]; rfl, hB⟩
  have i6 : ((dn : Int) == 0) = true := by rw [beq_iff_eq]; omega
  have i6b : (dn == 0) = true := by rw [beq_iff_eq]; exact c6
  have C6 := Lib.hid c6
  clear c6
  by_cases c7 : gn = 0
  rotate_left
  · have hno : bareOk (⟨1, id, name, size, sum, at_, data, gaps, of_, code⟩ : Nt) = false := by simp [bareOk, HGN.out, c7]
    have i7 : ((gn : Int) == 0) = false := by rw [beq_eq_false_iff_ne]; omega
    have i7b : (gn == 0) = false := by rw [beq_eq_false_iff_ne]; exact c7
    have HNO := Lib.hid hno
    clear hno c7
    go_wp2_with fail
    go_ret
    exact ⟨by rw [HNO.out]; rfl, hB⟩
  have i7 : ((gn : Int) == 0) = true := by rw [beq_iff_eq]; omega
  have i7b : (gn == 0) = true := by rw [beq_iff_eq]; exact c7
  have C7 := Lib.hid c7
  clear c7
  by_cases c8 : of_ = 0
  rotate_left
  · have hno : bareOk (⟨1, id, name, size, sum, at_, data, gaps, of_, code⟩ : Nt) = false := by simp [bareOk, c8]
    have i8 : (of_ == 0) = false := by rw [beq_eq_false_iff_ne]; exact c8
    have HNO := Lib.hid hno
    clear hno c8
    go_wp2_with fail
    go_ret
    exact ⟨by rw [HNO.out]; rfl, hB⟩
  have i8 : (of_ == 0) = true := by rw [beq_iff_eq]; exact c8
  have C8 := Lib.hid c8
  clear c8
  by_cases c9 : code = 0
  rotate_left
  · have hno : bareOk (⟨1, id, name, size, sum, at_, data, gaps, of_, code⟩ : Nt) = false := by simp [bareOk, c9]
    have i9 : (code == 0) = false := by rw [beq_eq_false_iff_ne]; exact c9
    have HNO := Lib.hid hno
    clear hno c9
    go_wp2_with fail
    go_ret
    exact ⟨by rw [HNO.out]; rfl, hB⟩
  have i9 : (code == 0) = true := by rw [beq_iff_eq]; exact c9
  have C9 := Lib.hid c9
  clear c9
  have hno : bareOk (⟨1, id, name, size, sum, at_, data, gaps, of_, code⟩ : Nt) = true := by simp [bareOk, C4.out, C5.out, HD.out, C6.out, HGN.out, C7.out, C8.out, C9.out]
  have HNO := Lib.hid hno
  clear hno
  go_wp2_with fail
  go_ret
  exact ⟨by rw [HNO.out]; rfl, hB⟩
set_option maxHeartbeats 6400000 in
set_option maxRecDepth 100000 in
theorem alike_2 (id : Int) (name : ByteArray) (size sum at_ : Int) (data : List UInt8) (gaps : List (Int × Int)) (of_ code : Int) (D : Option Addr) (dn dc : Nat) (G : Option Addr) (gn gc : Nat) (w : World) (hd : data.length = dn) (hg : gaps.length = gn) :
    Calls Try.prog 82 #[.agg #[.int .i64 2, .int .i64 id, .string name, .int .i64 size, .int .i64 sum, .int .i64 at_, .slice D dn dc, .slice G gn gc, .int .i64 of_, .int .i64 code], .agg #[.int .i64 2, .int .i64 id, .string ⟨#[]⟩, .int .i64 0, .int .i64 0, .int .i64 at_, .slice D dn dc, .slice none 0 0, .int .i64 0, .int .i64 0]] w fun e w' => e = .returned (.bool (bareOk (⟨2, id, name, size, sum, at_, data, gaps, of_, code⟩ : Nt))) ∧ Below w.heap.size w w' := by
  have HD := Lib.hid hd
  have HGN := Lib.hid hg
  clear hd hg
  have b1 := (Blk.new w 27 #[.int .i64 2, .int .i64 id, .string name, .int .i64 size, .int .i64 sum, .int .i64 at_, .slice D dn dc, .slice G gn gc, .int .i64 of_, .int .i64 code]).alloc (.cells #[.int .i64 2, .int .i64 id, .string ⟨#[]⟩, .int .i64 0, .int .i64 0, .int .i64 at_, .slice D dn dc, .slice none 0 0, .int .i64 0, .int .i64 0] 27)
  have b2 := Blk.new (w.alloc (.cells #[.int .i64 2, .int .i64 id, .string name, .int .i64 size, .int .i64 sum, .int .i64 at_, .slice D dn dc, .slice G gn gc, .int .i64 of_, .int .i64 code] 27)) 27 #[.int .i64 2, .int .i64 id, .string ⟨#[]⟩, .int .i64 0, .int .i64 0, .int .i64 at_, .slice D dn dc, .slice none 0 0, .int .i64 0, .int .i64 0]
  rw [show (w.alloc (.cells #[.int .i64 2, .int .i64 id, .string name, .int .i64 size, .int .i64 sum, .int .i64 at_, .slice D dn dc, .slice G gn gc, .int .i64 of_, .int .i64 code] 27)).heap.size = w.heap.size + 1 by simp] at b2
  have hB : Below w.heap.size w ((w.alloc (.cells #[.int .i64 2, .int .i64 id, .string name, .int .i64 size, .int .i64 sum, .int .i64 at_, .slice D dn dc, .slice G gn gc, .int .i64 of_, .int .i64 code] 27)).alloc (.cells #[.int .i64 2, .int .i64 id, .string ⟨#[]⟩, .int .i64 0, .int .i64 0, .int .i64 at_, .slice D dn dc, .slice none 0 0, .int .i64 0, .int .i64 0] 27)) := ((Below.refl _ _).alloc (Nat.le_refl _) _).alloc (by simp) _
  go_enter Try.func82, Try.ntmps82
  go_upto_region 1 with fail
  try simp only [List.append_eq, List.cons_append, List.nil_append]
  generalize (w.alloc (.cells #[.int .i64 2, .int .i64 id, .string name, .int .i64 size, .int .i64 sum, .int .i64 at_, .slice D dn dc, .slice G gn gc, .int .i64 of_, .int .i64 code] 27)).alloc (.cells #[.int .i64 2, .int .i64 id, .string ⟨#[]⟩, .int .i64 0, .int .i64 0, .int .i64 at_, .slice D dn dc, .slice none 0 0, .int .i64 0, .int .i64 0] 27) = W at *
  have x2 := b1.cell' (i := 2) rfl
  have y2 := b2.cell' (i := 2) rfl
  have x3 := b1.cell' (i := 3) rfl
  have y3 := b2.cell' (i := 3) rfl
  have x4 := b1.cell' (i := 4) rfl
  have y4 := b2.cell' (i := 4) rfl
  have x5 := b1.cell' (i := 5) rfl
  have y5 := b2.cell' (i := 5) rfl
  have x6 := b1.cell' (i := 6) rfl
  have y6 := b2.cell' (i := 6) rfl
  have x7 := b1.cell' (i := 7) rfl
  have y7 := b2.cell' (i := 7) rfl
  have x8 := b1.cell' (i := 8) rfl
  have y8 := b2.cell' (i := 8) rfl
  have x9 := b1.cell' (i := 9) rfl
  have y9 := b2.cell' (i := 9) rfl
  by_cases c2 : name.size = 0
  rotate_left
  · have hno : bareOk (⟨2, id, name, size, sum, at_, data, gaps, of_, code⟩ : Nt) = false := by simp [bareOk, c2]
    obtain ⟨i2, i2b, i2c⟩ := txt_some c2
    have HNO := Lib.hid hno
    clear hno c2
    go_wp2_with fail
    go_ret
    exact ⟨by rw [HNO.out]; rfl, hB⟩
  obtain ⟨i2, i2b, i2c⟩ := txt_none c2
  have C2 := Lib.hid c2
  clear c2
  by_cases c3 : size = 0
  rotate_left
  · have hno : bareOk (⟨2, id, name, size, sum, at_, data, gaps, of_, code⟩ : Nt) = false := by simp [bareOk, c3]
    have i3 : (size == 0) = false := by rw [beq_eq_false_iff_ne]; exact c3
    have HNO := Lib.hid hno
    clear hno c3
    go_wp2_with fail
    go_ret
    exact ⟨by rw [HNO.out]; rfl, hB⟩
  have i3 : (size == 0) = true := by rw [beq_iff_eq]; exact c3
  have C3 := Lib.hid c3
  clear c3
  by_cases c4 : sum = 0
  rotate_left
  · have hno : bareOk (⟨2, id, name, size, sum, at_, data, gaps, of_, code⟩ : Nt) = false := by simp [bareOk, c4]
    have i4 : (sum == 0) = false := by rw [beq_eq_false_iff_ne]; exact c4
    have HNO := Lib.hid hno
    clear hno c4
    go_wp2_with fail
    go_ret
    exact ⟨by rw [HNO.out]; rfl, hB⟩
  have i4 : (sum == 0) = true := by rw [beq_iff_eq]; exact c4
  have C4 := Lib.hid c4
  clear c4
  by_cases c7 : gn = 0
  rotate_left
  · have hno : bareOk (⟨2, id, name, size, sum, at_, data, gaps, of_, code⟩ : Nt) = false := by simp [bareOk, HGN.out, c7]
    have i7 : ((gn : Int) == 0) = false := by rw [beq_eq_false_iff_ne]; omega
    have i7b : (gn == 0) = false := by rw [beq_eq_false_iff_ne]; exact c7
    have HNO := Lib.hid hno
    clear hno c7
    go_wp2_with fail
    go_ret
    exact ⟨by rw [HNO.out]; rfl, hB⟩
  have i7 : ((gn : Int) == 0) = true := by rw [beq_iff_eq]; omega
  have i7b : (gn == 0) = true := by rw [beq_iff_eq]; exact c7
  have C7 := Lib.hid c7
  clear c7
  by_cases c8 : of_ = 0
  rotate_left
  · have hno : bareOk (⟨2, id, name, size, sum, at_, data, gaps, of_, code⟩ : Nt) = false := by simp [bareOk, c8]
    have i8 : (of_ == 0) = false := by rw [beq_eq_false_iff_ne]; exact c8
    have HNO := Lib.hid hno
    clear hno c8
    go_wp2_with fail
    go_ret
    exact ⟨by rw [HNO.out]; rfl, hB⟩
  have i8 : (of_ == 0) = true := by rw [beq_iff_eq]; exact c8
  have C8 := Lib.hid c8
  clear c8
  by_cases c9 : code = 0
  rotate_left
  · have hno : bareOk (⟨2, id, name, size, sum, at_, data, gaps, of_, code⟩ : Nt) = false := by simp [bareOk, c9]
    have i9 : (code == 0) = false := by rw [beq_eq_false_iff_ne]; exact c9
    have HNO := Lib.hid hno
    clear hno c9
    go_wp2_with fail
    go_ret
    exact ⟨by rw [HNO.out]; rfl, hB⟩
  have i9 : (code == 0) = true := by rw [beq_iff_eq]; exact c9
  have C9 := Lib.hid c9
  clear c9
  have hno : bareOk (⟨2, id, name, size, sum, at_, data, gaps, of_, code⟩ : Nt) = true := by simp [bareOk, C2.out, C3.out, C4.out, HGN.out, C7.out, C8.out, C9.out]
  have HNO := Lib.hid hno
  clear hno
  go_wp2_with fail
  go_ret
  exact ⟨by rw [HNO.out]; rfl, hB⟩
set_option maxHeartbeats 6400000 in
set_option maxRecDepth 100000 in
theorem alike_3 (id : Int) (name : ByteArray) (size sum at_ : Int) (data : List UInt8) (gaps : List (Int × Int)) (of_ code : Int) (D : Option Addr) (dn dc : Nat) (G : Option Addr) (gn gc : Nat) (w : World) (hd : data.length = dn) (hg : gaps.length = gn) :
    Calls Try.prog 82 #[.agg #[.int .i64 3, .int .i64 id, .string name, .int .i64 size, .int .i64 sum, .int .i64 at_, .slice D dn dc, .slice G gn gc, .int .i64 of_, .int .i64 code], .agg #[.int .i64 3, .int .i64 id, .string ⟨#[]⟩, .int .i64 size, .int .i64 sum, .int .i64 0, .slice none 0 0, .slice none 0 0, .int .i64 0, .int .i64 0]] w fun e w' => e = .returned (.bool (bareOk (⟨3, id, name, size, sum, at_, data, gaps, of_, code⟩ : Nt))) ∧ Below w.heap.size w w' := by
  have HD := Lib.hid hd
  have HGN := Lib.hid hg
  clear hd hg
  have b1 := (Blk.new w 27 #[.int .i64 3, .int .i64 id, .string name, .int .i64 size, .int .i64 sum, .int .i64 at_, .slice D dn dc, .slice G gn gc, .int .i64 of_, .int .i64 code]).alloc (.cells #[.int .i64 3, .int .i64 id, .string ⟨#[]⟩, .int .i64 size, .int .i64 sum, .int .i64 0, .slice none 0 0, .slice none 0 0, .int .i64 0, .int .i64 0] 27)
  have b2 := Blk.new (w.alloc (.cells #[.int .i64 3, .int .i64 id, .string name, .int .i64 size, .int .i64 sum, .int .i64 at_, .slice D dn dc, .slice G gn gc, .int .i64 of_, .int .i64 code] 27)) 27 #[.int .i64 3, .int .i64 id, .string ⟨#[]⟩, .int .i64 size, .int .i64 sum, .int .i64 0, .slice none 0 0, .slice none 0 0, .int .i64 0, .int .i64 0]
  rw [show (w.alloc (.cells #[.int .i64 3, .int .i64 id, .string name, .int .i64 size, .int .i64 sum, .int .i64 at_, .slice D dn dc, .slice G gn gc, .int .i64 of_, .int .i64 code] 27)).heap.size = w.heap.size + 1 by simp] at b2
  have hB : Below w.heap.size w ((w.alloc (.cells #[.int .i64 3, .int .i64 id, .string name, .int .i64 size, .int .i64 sum, .int .i64 at_, .slice D dn dc, .slice G gn gc, .int .i64 of_, .int .i64 code] 27)).alloc (.cells #[.int .i64 3, .int .i64 id, .string ⟨#[]⟩, .int .i64 size, .int .i64 sum, .int .i64 0, .slice none 0 0, .slice none 0 0, .int .i64 0, .int .i64 0] 27)) := ((Below.refl _ _).alloc (Nat.le_refl _) _).alloc (by simp) _
  go_enter Try.func82, Try.ntmps82
  go_upto_region 1 with fail
  try simp only [List.append_eq, List.cons_append, List.nil_append]
  generalize (w.alloc (.cells #[.int .i64 3, .int .i64 id, .string name, .int .i64 size, .int .i64 sum, .int .i64 at_, .slice D dn dc, .slice G gn gc, .int .i64 of_, .int .i64 code] 27)).alloc (.cells #[.int .i64 3, .int .i64 id, .string ⟨#[]⟩, .int .i64 size, .int .i64 sum, .int .i64 0, .slice none 0 0, .slice none 0 0, .int .i64 0, .int .i64 0] 27) = W at *
  have x2 := b1.cell' (i := 2) rfl
  have y2 := b2.cell' (i := 2) rfl
  have x3 := b1.cell' (i := 3) rfl
  have y3 := b2.cell' (i := 3) rfl
  have x4 := b1.cell' (i := 4) rfl
  have y4 := b2.cell' (i := 4) rfl
  have x5 := b1.cell' (i := 5) rfl
  have y5 := b2.cell' (i := 5) rfl
  have x6 := b1.cell' (i := 6) rfl
  have y6 := b2.cell' (i := 6) rfl
  have x7 := b1.cell' (i := 7) rfl
  have y7 := b2.cell' (i := 7) rfl
  have x8 := b1.cell' (i := 8) rfl
  have y8 := b2.cell' (i := 8) rfl
  have x9 := b1.cell' (i := 9) rfl
  have y9 := b2.cell' (i := 9) rfl
  by_cases c2 : name.size = 0
  rotate_left
  · have hno : bareOk (⟨3, id, name, size, sum, at_, data, gaps, of_, code⟩ : Nt) = false := by simp [bareOk, c2]
    obtain ⟨i2, i2b, i2c⟩ := txt_some c2
    have HNO := Lib.hid hno
    clear hno c2
    go_wp2_with fail
    go_ret
    exact ⟨by rw [HNO.out]; rfl, hB⟩
  obtain ⟨i2, i2b, i2c⟩ := txt_none c2
  have C2 := Lib.hid c2
  clear c2
  by_cases c5 : at_ = 0
  rotate_left
  · have hno : bareOk (⟨3, id, name, size, sum, at_, data, gaps, of_, code⟩ : Nt) = false := by simp [bareOk, c5]
    have i5 : (at_ == 0) = false := by rw [beq_eq_false_iff_ne]; exact c5
    have HNO := Lib.hid hno
    clear hno c5
    go_wp2_with fail
    go_ret
    exact ⟨by rw [HNO.out]; rfl, hB⟩
  have i5 : (at_ == 0) = true := by rw [beq_iff_eq]; exact c5
  have C5 := Lib.hid c5
  clear c5
  by_cases c6 : dn = 0
  rotate_left
  · have hno : bareOk (⟨3, id, name, size, sum, at_, data, gaps, of_, code⟩ : Nt) = false := by simp [bareOk, HD.out, c6]
    have i6 : ((dn : Int) == 0) = false := by rw [beq_eq_false_iff_ne]; omega
    have i6b : (dn == 0) = false := by rw [beq_eq_false_iff_ne]; exact c6
    have HNO := Lib.hid hno
    clear hno c6
    go_wp2_with fail
    go_ret
    exact ⟨by rw [HNO.out]; rfl, hB⟩
  have i6 : ((dn : Int) == 0) = true := by rw [beq_iff_eq]; omega
  have i6b : (dn == 0) = true := by rw [beq_iff_eq]; exact c6
  have C6 := Lib.hid c6
  clear c6
  by_cases c7 : gn = 0
  rotate_left
  · have hno : bareOk (⟨3, id, name, size, sum, at_, data, gaps, of_, code⟩ : Nt) = false := by simp [bareOk, HGN.out, c7]
    have i7 : ((gn : Int) == 0) = false := by rw [beq_eq_false_iff_ne]; omega
    have i7b : (gn == 0) = false := by rw [beq_eq_false_iff_ne]; exact c7
    have HNO := Lib.hid hno
    clear hno c7
    go_wp2_with fail
    go_ret
    exact ⟨by rw [HNO.out]; rfl, hB⟩
  have i7 : ((gn : Int) == 0) = true := by rw [beq_iff_eq]; omega
  have i7b : (gn == 0) = true := by rw [beq_iff_eq]; exact c7
  have C7 := Lib.hid c7
  clear c7
  by_cases c8 : of_ = 0
  rotate_left
  · have hno : bareOk (⟨3, id, name, size, sum, at_, data, gaps, of_, code⟩ : Nt) = false := by simp [bareOk, c8]
    have i8 : (of_ == 0) = false := by rw [beq_eq_false_iff_ne]; exact c8
    have HNO := Lib.hid hno
    clear hno c8
    go_wp2_with fail
    go_ret
    exact ⟨by rw [HNO.out]; rfl, hB⟩
  have i8 : (of_ == 0) = true := by rw [beq_iff_eq]; exact c8
  have C8 := Lib.hid c8
  clear c8
  by_cases c9 : code = 0
  rotate_left
  · have hno : bareOk (⟨3, id, name, size, sum, at_, data, gaps, of_, code⟩ : Nt) = false := by simp [bareOk, c9]
    have i9 : (code == 0) = false := by rw [beq_eq_false_iff_ne]; exact c9
    have HNO := Lib.hid hno
    clear hno c9
    go_wp2_with fail
    go_ret
    exact ⟨by rw [HNO.out]; rfl, hB⟩
  have i9 : (code == 0) = true := by rw [beq_iff_eq]; exact c9
  have C9 := Lib.hid c9
  clear c9
  have hno : bareOk (⟨3, id, name, size, sum, at_, data, gaps, of_, code⟩ : Nt) = true := by simp [bareOk, C2.out, C5.out, HD.out, C6.out, HGN.out, C7.out, C8.out, C9.out]
  have HNO := Lib.hid hno
  clear hno
  go_wp2_with fail
  go_ret
  exact ⟨by rw [HNO.out]; rfl, hB⟩
set_option maxHeartbeats 6400000 in
set_option maxRecDepth 100000 in
theorem alike_4 (id : Int) (name : ByteArray) (size sum at_ : Int) (data : List UInt8) (gaps : List (Int × Int)) (of_ code : Int) (D : Option Addr) (dn dc : Nat) (G : Option Addr) (gn gc : Nat) (w : World) (hd : data.length = dn) (hg : gaps.length = gn) :
    Calls Try.prog 82 #[.agg #[.int .i64 4, .int .i64 id, .string name, .int .i64 size, .int .i64 sum, .int .i64 at_, .slice D dn dc, .slice G gn gc, .int .i64 of_, .int .i64 code], .agg #[.int .i64 4, .int .i64 id, .string ⟨#[]⟩, .int .i64 0, .int .i64 0, .int .i64 0, .slice none 0 0, .slice G gn gc, .int .i64 0, .int .i64 0]] w fun e w' => e = .returned (.bool (bareOk (⟨4, id, name, size, sum, at_, data, gaps, of_, code⟩ : Nt))) ∧ Below w.heap.size w w' := by
  have HD := Lib.hid hd
  have HGN := Lib.hid hg
  clear hd hg
  have b1 := (Blk.new w 27 #[.int .i64 4, .int .i64 id, .string name, .int .i64 size, .int .i64 sum, .int .i64 at_, .slice D dn dc, .slice G gn gc, .int .i64 of_, .int .i64 code]).alloc (.cells #[.int .i64 4, .int .i64 id, .string ⟨#[]⟩, .int .i64 0, .int .i64 0, .int .i64 0, .slice none 0 0, .slice G gn gc, .int .i64 0, .int .i64 0] 27)
  have b2 := Blk.new (w.alloc (.cells #[.int .i64 4, .int .i64 id, .string name, .int .i64 size, .int .i64 sum, .int .i64 at_, .slice D dn dc, .slice G gn gc, .int .i64 of_, .int .i64 code] 27)) 27 #[.int .i64 4, .int .i64 id, .string ⟨#[]⟩, .int .i64 0, .int .i64 0, .int .i64 0, .slice none 0 0, .slice G gn gc, .int .i64 0, .int .i64 0]
  rw [show (w.alloc (.cells #[.int .i64 4, .int .i64 id, .string name, .int .i64 size, .int .i64 sum, .int .i64 at_, .slice D dn dc, .slice G gn gc, .int .i64 of_, .int .i64 code] 27)).heap.size = w.heap.size + 1 by simp] at b2
  have hB : Below w.heap.size w ((w.alloc (.cells #[.int .i64 4, .int .i64 id, .string name, .int .i64 size, .int .i64 sum, .int .i64 at_, .slice D dn dc, .slice G gn gc, .int .i64 of_, .int .i64 code] 27)).alloc (.cells #[.int .i64 4, .int .i64 id, .string ⟨#[]⟩, .int .i64 0, .int .i64 0, .int .i64 0, .slice none 0 0, .slice G gn gc, .int .i64 0, .int .i64 0] 27)) := ((Below.refl _ _).alloc (Nat.le_refl _) _).alloc (by simp) _
  go_enter Try.func82, Try.ntmps82
  go_upto_region 1 with fail
  try simp only [List.append_eq, List.cons_append, List.nil_append]
  generalize (w.alloc (.cells #[.int .i64 4, .int .i64 id, .string name, .int .i64 size, .int .i64 sum, .int .i64 at_, .slice D dn dc, .slice G gn gc, .int .i64 of_, .int .i64 code] 27)).alloc (.cells #[.int .i64 4, .int .i64 id, .string ⟨#[]⟩, .int .i64 0, .int .i64 0, .int .i64 0, .slice none 0 0, .slice G gn gc, .int .i64 0, .int .i64 0] 27) = W at *
  have x2 := b1.cell' (i := 2) rfl
  have y2 := b2.cell' (i := 2) rfl
  have x3 := b1.cell' (i := 3) rfl
  have y3 := b2.cell' (i := 3) rfl
  have x4 := b1.cell' (i := 4) rfl
  have y4 := b2.cell' (i := 4) rfl
  have x5 := b1.cell' (i := 5) rfl
  have y5 := b2.cell' (i := 5) rfl
  have x6 := b1.cell' (i := 6) rfl
  have y6 := b2.cell' (i := 6) rfl
  have x7 := b1.cell' (i := 7) rfl
  have y7 := b2.cell' (i := 7) rfl
  have x8 := b1.cell' (i := 8) rfl
  have y8 := b2.cell' (i := 8) rfl
  have x9 := b1.cell' (i := 9) rfl
  have y9 := b2.cell' (i := 9) rfl
  by_cases c2 : name.size = 0
  rotate_left
  · have hno : bareOk (⟨4, id, name, size, sum, at_, data, gaps, of_, code⟩ : Nt) = false := by simp [bareOk, c2]
    obtain ⟨i2, i2b, i2c⟩ := txt_some c2
    have HNO := Lib.hid hno
    clear hno c2
    go_wp2_with fail
    go_ret
    exact ⟨by rw [HNO.out]; rfl, hB⟩
  obtain ⟨i2, i2b, i2c⟩ := txt_none c2
  have C2 := Lib.hid c2
  clear c2
  by_cases c3 : size = 0
  rotate_left
  · have hno : bareOk (⟨4, id, name, size, sum, at_, data, gaps, of_, code⟩ : Nt) = false := by simp [bareOk, c3]
    have i3 : (size == 0) = false := by rw [beq_eq_false_iff_ne]; exact c3
    have HNO := Lib.hid hno
    clear hno c3
    go_wp2_with fail
    go_ret
    exact ⟨by rw [HNO.out]; rfl, hB⟩
  have i3 : (size == 0) = true := by rw [beq_iff_eq]; exact c3
  have C3 := Lib.hid c3
  clear c3
  by_cases c4 : sum = 0
  rotate_left
  · have hno : bareOk (⟨4, id, name, size, sum, at_, data, gaps, of_, code⟩ : Nt) = false := by simp [bareOk, c4]
    have i4 : (sum == 0) = false := by rw [beq_eq_false_iff_ne]; exact c4
    have HNO := Lib.hid hno
    clear hno c4
    go_wp2_with fail
    go_ret
    exact ⟨by rw [HNO.out]; rfl, hB⟩
  have i4 : (sum == 0) = true := by rw [beq_iff_eq]; exact c4
  have C4 := Lib.hid c4
  clear c4
  by_cases c5 : at_ = 0
  rotate_left
  · have hno : bareOk (⟨4, id, name, size, sum, at_, data, gaps, of_, code⟩ : Nt) = false := by simp [bareOk, c5]
    have i5 : (at_ == 0) = false := by rw [beq_eq_false_iff_ne]; exact c5
    have HNO := Lib.hid hno
    clear hno c5
    go_wp2_with fail
    go_ret
    exact ⟨by rw [HNO.out]; rfl, hB⟩
  have i5 : (at_ == 0) = true := by rw [beq_iff_eq]; exact c5
  have C5 := Lib.hid c5
  clear c5
  by_cases c6 : dn = 0
  rotate_left
  · have hno : bareOk (⟨4, id, name, size, sum, at_, data, gaps, of_, code⟩ : Nt) = false := by simp [bareOk, HD.out, c6]
    have i6 : ((dn : Int) == 0) = false := by rw [beq_eq_false_iff_ne]; omega
    have i6b : (dn == 0) = false := by rw [beq_eq_false_iff_ne]; exact c6
    have HNO := Lib.hid hno
    clear hno c6
    go_wp2_with fail
    go_ret
    exact ⟨by rw [HNO.out]; rfl, hB⟩
  have i6 : ((dn : Int) == 0) = true := by rw [beq_iff_eq]; omega
  have i6b : (dn == 0) = true := by rw [beq_iff_eq]; exact c6
  have C6 := Lib.hid c6
  clear c6
  by_cases c8 : of_ = 0
  rotate_left
  · have hno : bareOk (⟨4, id, name, size, sum, at_, data, gaps, of_, code⟩ : Nt) = false := by simp [bareOk, c8]
    have i8 : (of_ == 0) = false := by rw [beq_eq_false_iff_ne]; exact c8
    have HNO := Lib.hid hno
    clear hno c8
    go_wp2_with fail
    go_ret
    exact ⟨by rw [HNO.out]; rfl, hB⟩
  have i8 : (of_ == 0) = true := by rw [beq_iff_eq]; exact c8
  have C8 := Lib.hid c8
  clear c8
  by_cases c9 : code = 0
  rotate_left
  · have hno : bareOk (⟨4, id, name, size, sum, at_, data, gaps, of_, code⟩ : Nt) = false := by simp [bareOk, c9]
    have i9 : (code == 0) = false := by rw [beq_eq_false_iff_ne]; exact c9
    have HNO := Lib.hid hno
    clear hno c9
    go_wp2_with fail
    go_ret
    exact ⟨by rw [HNO.out]; rfl, hB⟩
  have i9 : (code == 0) = true := by rw [beq_iff_eq]; exact c9
  have C9 := Lib.hid c9
  clear c9
  have hno : bareOk (⟨4, id, name, size, sum, at_, data, gaps, of_, code⟩ : Nt) = true := by simp [bareOk, C2.out, C3.out, C4.out, C5.out, HD.out, C6.out, C8.out, C9.out]
  have HNO := Lib.hid hno
  clear hno
  go_wp2_with fail
  go_ret
  exact ⟨by rw [HNO.out]; rfl, hB⟩
set_option maxHeartbeats 6400000 in
set_option maxRecDepth 100000 in
theorem alike_5 (id : Int) (name : ByteArray) (size sum at_ : Int) (data : List UInt8) (gaps : List (Int × Int)) (of_ code : Int) (D : Option Addr) (dn dc : Nat) (G : Option Addr) (gn gc : Nat) (w : World) (hd : data.length = dn) (hg : gaps.length = gn) :
    Calls Try.prog 82 #[.agg #[.int .i64 5, .int .i64 id, .string name, .int .i64 size, .int .i64 sum, .int .i64 at_, .slice D dn dc, .slice G gn gc, .int .i64 of_, .int .i64 code], .agg #[.int .i64 5, .int .i64 id, .string ⟨#[]⟩, .int .i64 0, .int .i64 0, .int .i64 0, .slice none 0 0, .slice none 0 0, .int .i64 0, .int .i64 code]] w fun e w' => e = .returned (.bool (bareOk (⟨5, id, name, size, sum, at_, data, gaps, of_, code⟩ : Nt))) ∧ Below w.heap.size w w' := by
  have HD := Lib.hid hd
  have HGN := Lib.hid hg
  clear hd hg
  have b1 := (Blk.new w 27 #[.int .i64 5, .int .i64 id, .string name, .int .i64 size, .int .i64 sum, .int .i64 at_, .slice D dn dc, .slice G gn gc, .int .i64 of_, .int .i64 code]).alloc (.cells #[.int .i64 5, .int .i64 id, .string ⟨#[]⟩, .int .i64 0, .int .i64 0, .int .i64 0, .slice none 0 0, .slice none 0 0, .int .i64 0, .int .i64 code] 27)
  have b2 := Blk.new (w.alloc (.cells #[.int .i64 5, .int .i64 id, .string name, .int .i64 size, .int .i64 sum, .int .i64 at_, .slice D dn dc, .slice G gn gc, .int .i64 of_, .int .i64 code] 27)) 27 #[.int .i64 5, .int .i64 id, .string ⟨#[]⟩, .int .i64 0, .int .i64 0, .int .i64 0, .slice none 0 0, .slice none 0 0, .int .i64 0, .int .i64 code]
  rw [show (w.alloc (.cells #[.int .i64 5, .int .i64 id, .string name, .int .i64 size, .int .i64 sum, .int .i64 at_, .slice D dn dc, .slice G gn gc, .int .i64 of_, .int .i64 code] 27)).heap.size = w.heap.size + 1 by simp] at b2
  have hB : Below w.heap.size w ((w.alloc (.cells #[.int .i64 5, .int .i64 id, .string name, .int .i64 size, .int .i64 sum, .int .i64 at_, .slice D dn dc, .slice G gn gc, .int .i64 of_, .int .i64 code] 27)).alloc (.cells #[.int .i64 5, .int .i64 id, .string ⟨#[]⟩, .int .i64 0, .int .i64 0, .int .i64 0, .slice none 0 0, .slice none 0 0, .int .i64 0, .int .i64 code] 27)) := ((Below.refl _ _).alloc (Nat.le_refl _) _).alloc (by simp) _
  go_enter Try.func82, Try.ntmps82
  go_upto_region 1 with fail
  try simp only [List.append_eq, List.cons_append, List.nil_append]
  generalize (w.alloc (.cells #[.int .i64 5, .int .i64 id, .string name, .int .i64 size, .int .i64 sum, .int .i64 at_, .slice D dn dc, .slice G gn gc, .int .i64 of_, .int .i64 code] 27)).alloc (.cells #[.int .i64 5, .int .i64 id, .string ⟨#[]⟩, .int .i64 0, .int .i64 0, .int .i64 0, .slice none 0 0, .slice none 0 0, .int .i64 0, .int .i64 code] 27) = W at *
  have x2 := b1.cell' (i := 2) rfl
  have y2 := b2.cell' (i := 2) rfl
  have x3 := b1.cell' (i := 3) rfl
  have y3 := b2.cell' (i := 3) rfl
  have x4 := b1.cell' (i := 4) rfl
  have y4 := b2.cell' (i := 4) rfl
  have x5 := b1.cell' (i := 5) rfl
  have y5 := b2.cell' (i := 5) rfl
  have x6 := b1.cell' (i := 6) rfl
  have y6 := b2.cell' (i := 6) rfl
  have x7 := b1.cell' (i := 7) rfl
  have y7 := b2.cell' (i := 7) rfl
  have x8 := b1.cell' (i := 8) rfl
  have y8 := b2.cell' (i := 8) rfl
  have x9 := b1.cell' (i := 9) rfl
  have y9 := b2.cell' (i := 9) rfl
  by_cases c2 : name.size = 0
  rotate_left
  · have hno : bareOk (⟨5, id, name, size, sum, at_, data, gaps, of_, code⟩ : Nt) = false := by simp [bareOk, c2]
    obtain ⟨i2, i2b, i2c⟩ := txt_some c2
    have HNO := Lib.hid hno
    clear hno c2
    go_wp2_with fail
    go_ret
    exact ⟨by rw [HNO.out]; rfl, hB⟩
  obtain ⟨i2, i2b, i2c⟩ := txt_none c2
  have C2 := Lib.hid c2
  clear c2
  by_cases c3 : size = 0
  rotate_left
  · have hno : bareOk (⟨5, id, name, size, sum, at_, data, gaps, of_, code⟩ : Nt) = false := by simp [bareOk, c3]
    have i3 : (size == 0) = false := by rw [beq_eq_false_iff_ne]; exact c3
    have HNO := Lib.hid hno
    clear hno c3
    go_wp2_with fail
    go_ret
    exact ⟨by rw [HNO.out]; rfl, hB⟩
  have i3 : (size == 0) = true := by rw [beq_iff_eq]; exact c3
  have C3 := Lib.hid c3
  clear c3
  by_cases c4 : sum = 0
  rotate_left
  · have hno : bareOk (⟨5, id, name, size, sum, at_, data, gaps, of_, code⟩ : Nt) = false := by simp [bareOk, c4]
    have i4 : (sum == 0) = false := by rw [beq_eq_false_iff_ne]; exact c4
    have HNO := Lib.hid hno
    clear hno c4
    go_wp2_with fail
    go_ret
    exact ⟨by rw [HNO.out]; rfl, hB⟩
  have i4 : (sum == 0) = true := by rw [beq_iff_eq]; exact c4
  have C4 := Lib.hid c4
  clear c4
  by_cases c5 : at_ = 0
  rotate_left
  · have hno : bareOk (⟨5, id, name, size, sum, at_, data, gaps, of_, code⟩ : Nt) = false := by simp [bareOk, c5]
    have i5 : (at_ == 0) = false := by rw [beq_eq_false_iff_ne]; exact c5
    have HNO := Lib.hid hno
    clear hno c5
    go_wp2_with fail
    go_ret
    exact ⟨by rw [HNO.out]; rfl, hB⟩
  have i5 : (at_ == 0) = true := by rw [beq_iff_eq]; exact c5
  have C5 := Lib.hid c5
  clear c5
  by_cases c6 : dn = 0
  rotate_left
  · have hno : bareOk (⟨5, id, name, size, sum, at_, data, gaps, of_, code⟩ : Nt) = false := by simp [bareOk, HD.out, c6]
    have i6 : ((dn : Int) == 0) = false := by rw [beq_eq_false_iff_ne]; omega
    have i6b : (dn == 0) = false := by rw [beq_eq_false_iff_ne]; exact c6
    have HNO := Lib.hid hno
    clear hno c6
    go_wp2_with fail
    go_ret
    exact ⟨by rw [HNO.out]; rfl, hB⟩
  have i6 : ((dn : Int) == 0) = true := by rw [beq_iff_eq]; omega
  have i6b : (dn == 0) = true := by rw [beq_iff_eq]; exact c6
  have C6 := Lib.hid c6
  clear c6
  by_cases c7 : gn = 0
  rotate_left
  · have hno : bareOk (⟨5, id, name, size, sum, at_, data, gaps, of_, code⟩ : Nt) = false := by simp [bareOk, HGN.out, c7]
    have i7 : ((gn : Int) == 0) = false := by rw [beq_eq_false_iff_ne]; omega
    have i7b : (gn == 0) = false := by rw [beq_eq_false_iff_ne]; exact c7
    have HNO := Lib.hid hno
    clear hno c7
    go_wp2_with fail
    go_ret
    exact ⟨by rw [HNO.out]; rfl, hB⟩
  have i7 : ((gn : Int) == 0) = true := by rw [beq_iff_eq]; omega
  have i7b : (gn == 0) = true := by rw [beq_iff_eq]; exact c7
  have C7 := Lib.hid c7
  clear c7
  by_cases c8 : of_ = 0
  rotate_left
  · have hno : bareOk (⟨5, id, name, size, sum, at_, data, gaps, of_, code⟩ : Nt) = false := by simp [bareOk, c8]
    have i8 : (of_ == 0) = false := by rw [beq_eq_false_iff_ne]; exact c8
    have HNO := Lib.hid hno
    clear hno c8
    go_wp2_with fail
    go_ret
    exact ⟨by rw [HNO.out]; rfl, hB⟩
  have i8 : (of_ == 0) = true := by rw [beq_iff_eq]; exact c8
  have C8 := Lib.hid c8
  clear c8
  have hno : bareOk (⟨5, id, name, size, sum, at_, data, gaps, of_, code⟩ : Nt) = true := by simp [bareOk, C2.out, C3.out, C4.out, C5.out, HD.out, C6.out, HGN.out, C7.out, C8.out]
  have HNO := Lib.hid hno
  clear hno
  go_wp2_with fail
  go_ret
  exact ⟨by rw [HNO.out]; rfl, hB⟩
set_option maxHeartbeats 6400000 in
set_option maxRecDepth 100000 in
theorem alike_6 (id : Int) (name : ByteArray) (size sum at_ : Int) (data : List UInt8) (gaps : List (Int × Int)) (of_ code : Int) (D : Option Addr) (dn dc : Nat) (G : Option Addr) (gn gc : Nat) (w : World) (hd : data.length = dn) (hg : gaps.length = gn) :
    Calls Try.prog 82 #[.agg #[.int .i64 6, .int .i64 id, .string name, .int .i64 size, .int .i64 sum, .int .i64 at_, .slice D dn dc, .slice G gn gc, .int .i64 of_, .int .i64 code], .agg #[.int .i64 6, .int .i64 id, .string ⟨#[]⟩, .int .i64 0, .int .i64 0, .int .i64 0, .slice none 0 0, .slice none 0 0, .int .i64 of_, .int .i64 0]] w fun e w' => e = .returned (.bool (bareOk (⟨6, id, name, size, sum, at_, data, gaps, of_, code⟩ : Nt))) ∧ Below w.heap.size w w' := by
  have HD := Lib.hid hd
  have HGN := Lib.hid hg
  clear hd hg
  have b1 := (Blk.new w 27 #[.int .i64 6, .int .i64 id, .string name, .int .i64 size, .int .i64 sum, .int .i64 at_, .slice D dn dc, .slice G gn gc, .int .i64 of_, .int .i64 code]).alloc (.cells #[.int .i64 6, .int .i64 id, .string ⟨#[]⟩, .int .i64 0, .int .i64 0, .int .i64 0, .slice none 0 0, .slice none 0 0, .int .i64 of_, .int .i64 0] 27)
  have b2 := Blk.new (w.alloc (.cells #[.int .i64 6, .int .i64 id, .string name, .int .i64 size, .int .i64 sum, .int .i64 at_, .slice D dn dc, .slice G gn gc, .int .i64 of_, .int .i64 code] 27)) 27 #[.int .i64 6, .int .i64 id, .string ⟨#[]⟩, .int .i64 0, .int .i64 0, .int .i64 0, .slice none 0 0, .slice none 0 0, .int .i64 of_, .int .i64 0]
  rw [show (w.alloc (.cells #[.int .i64 6, .int .i64 id, .string name, .int .i64 size, .int .i64 sum, .int .i64 at_, .slice D dn dc, .slice G gn gc, .int .i64 of_, .int .i64 code] 27)).heap.size = w.heap.size + 1 by simp] at b2
  have hB : Below w.heap.size w ((w.alloc (.cells #[.int .i64 6, .int .i64 id, .string name, .int .i64 size, .int .i64 sum, .int .i64 at_, .slice D dn dc, .slice G gn gc, .int .i64 of_, .int .i64 code] 27)).alloc (.cells #[.int .i64 6, .int .i64 id, .string ⟨#[]⟩, .int .i64 0, .int .i64 0, .int .i64 0, .slice none 0 0, .slice none 0 0, .int .i64 of_, .int .i64 0] 27)) := ((Below.refl _ _).alloc (Nat.le_refl _) _).alloc (by simp) _
  go_enter Try.func82, Try.ntmps82
  go_upto_region 1 with fail
  try simp only [List.append_eq, List.cons_append, List.nil_append]
  generalize (w.alloc (.cells #[.int .i64 6, .int .i64 id, .string name, .int .i64 size, .int .i64 sum, .int .i64 at_, .slice D dn dc, .slice G gn gc, .int .i64 of_, .int .i64 code] 27)).alloc (.cells #[.int .i64 6, .int .i64 id, .string ⟨#[]⟩, .int .i64 0, .int .i64 0, .int .i64 0, .slice none 0 0, .slice none 0 0, .int .i64 of_, .int .i64 0] 27) = W at *
  have x2 := b1.cell' (i := 2) rfl
  have y2 := b2.cell' (i := 2) rfl
  have x3 := b1.cell' (i := 3) rfl
  have y3 := b2.cell' (i := 3) rfl
  have x4 := b1.cell' (i := 4) rfl
  have y4 := b2.cell' (i := 4) rfl
  have x5 := b1.cell' (i := 5) rfl
  have y5 := b2.cell' (i := 5) rfl
  have x6 := b1.cell' (i := 6) rfl
  have y6 := b2.cell' (i := 6) rfl
  have x7 := b1.cell' (i := 7) rfl
  have y7 := b2.cell' (i := 7) rfl
  have x8 := b1.cell' (i := 8) rfl
  have y8 := b2.cell' (i := 8) rfl
  have x9 := b1.cell' (i := 9) rfl
  have y9 := b2.cell' (i := 9) rfl
  by_cases c2 : name.size = 0
  rotate_left
  · have hno : bareOk (⟨6, id, name, size, sum, at_, data, gaps, of_, code⟩ : Nt) = false := by simp [bareOk, c2]
    obtain ⟨i2, i2b, i2c⟩ := txt_some c2
    have HNO := Lib.hid hno
    clear hno c2
    go_wp2_with fail
    go_ret
    exact ⟨by rw [HNO.out]; rfl, hB⟩
  obtain ⟨i2, i2b, i2c⟩ := txt_none c2
  have C2 := Lib.hid c2
  clear c2
  by_cases c3 : size = 0
  rotate_left
  · have hno : bareOk (⟨6, id, name, size, sum, at_, data, gaps, of_, code⟩ : Nt) = false := by simp [bareOk, c3]
    have i3 : (size == 0) = false := by rw [beq_eq_false_iff_ne]; exact c3
    have HNO := Lib.hid hno
    clear hno c3
    go_wp2_with fail
    go_ret
    exact ⟨by rw [HNO.out]; rfl, hB⟩
  have i3 : (size == 0) = true := by rw [beq_iff_eq]; exact c3
  have C3 := Lib.hid c3
  clear c3
  by_cases c4 : sum = 0
  rotate_left
  · have hno : bareOk (⟨6, id, name, size, sum, at_, data, gaps, of_, code⟩ : Nt) = false := by simp [bareOk, c4]
    have i4 : (sum == 0) = false := by rw [beq_eq_false_iff_ne]; exact c4
    have HNO := Lib.hid hno
    clear hno c4
    go_wp2_with fail
    go_ret
    exact ⟨by rw [HNO.out]; rfl, hB⟩
  have i4 : (sum == 0) = true := by rw [beq_iff_eq]; exact c4
  have C4 := Lib.hid c4
  clear c4
  by_cases c5 : at_ = 0
  rotate_left
  · have hno : bareOk (⟨6, id, name, size, sum, at_, data, gaps, of_, code⟩ : Nt) = false := by simp [bareOk, c5]
    have i5 : (at_ == 0) = false := by rw [beq_eq_false_iff_ne]; exact c5
    have HNO := Lib.hid hno
    clear hno c5
    go_wp2_with fail
    go_ret
    exact ⟨by rw [HNO.out]; rfl, hB⟩
  have i5 : (at_ == 0) = true := by rw [beq_iff_eq]; exact c5
  have C5 := Lib.hid c5
  clear c5
  by_cases c6 : dn = 0
  rotate_left
  · have hno : bareOk (⟨6, id, name, size, sum, at_, data, gaps, of_, code⟩ : Nt) = false := by simp [bareOk, HD.out, c6]
    have i6 : ((dn : Int) == 0) = false := by rw [beq_eq_false_iff_ne]; omega
    have i6b : (dn == 0) = false := by rw [beq_eq_false_iff_ne]; exact c6
    have HNO := Lib.hid hno
    clear hno c6
    go_wp2_with fail
    go_ret
    exact ⟨by rw [HNO.out]; rfl, hB⟩
  have i6 : ((dn : Int) == 0) = true := by rw [beq_iff_eq]; omega
  have i6b : (dn == 0) = true := by rw [beq_iff_eq]; exact c6
  have C6 := Lib.hid c6
  clear c6
  by_cases c7 : gn = 0
  rotate_left
  · have hno : bareOk (⟨6, id, name, size, sum, at_, data, gaps, of_, code⟩ : Nt) = false := by simp [bareOk, HGN.out, c7]
    have i7 : ((gn : Int) == 0) = false := by rw [beq_eq_false_iff_ne]; omega
    have i7b : (gn == 0) = false := by rw [beq_eq_false_iff_ne]; exact c7
    have HNO := Lib.hid hno
    clear hno c7
    go_wp2_with fail
    go_ret
    exact ⟨by rw [HNO.out]; rfl, hB⟩
  have i7 : ((gn : Int) == 0) = true := by rw [beq_iff_eq]; omega
  have i7b : (gn == 0) = true := by rw [beq_iff_eq]; exact c7
  have C7 := Lib.hid c7
  clear c7
  by_cases c9 : code = 0
  rotate_left
  · have hno : bareOk (⟨6, id, name, size, sum, at_, data, gaps, of_, code⟩ : Nt) = false := by simp [bareOk, c9]
    have i9 : (code == 0) = false := by rw [beq_eq_false_iff_ne]; exact c9
    have HNO := Lib.hid hno
    clear hno c9
    go_wp2_with fail
    go_ret
    exact ⟨by rw [HNO.out]; rfl, hB⟩
  have i9 : (code == 0) = true := by rw [beq_iff_eq]; exact c9
  have C9 := Lib.hid c9
  clear c9
  have hno : bareOk (⟨6, id, name, size, sum, at_, data, gaps, of_, code⟩ : Nt) = true := by simp [bareOk, C2.out, C3.out, C4.out, C5.out, HD.out, C6.out, HGN.out, C7.out, C9.out]
  have HNO := Lib.hid hno
  clear hno
  go_wp2_with fail
  go_ret
  exact ⟨by rw [HNO.out]; rfl, hB⟩
end Go.Proofs.Ytianombjgdmbeaa
