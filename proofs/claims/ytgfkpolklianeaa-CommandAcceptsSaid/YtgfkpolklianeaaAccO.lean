/-
  What the gate at work does with an order for itself, and by its number.
-/
import Derived.Test.YtgfkpolklianeaaAccR2
import Derived.Stop.BytesEq
import Derived.Laws.Cover3
namespace Go.Proofs.Ytgfkpolklianeaa
set_option linter.unusedSimpArgs false
set_option linter.unusedVariables false
open Go.RowKit

theorem and_low8 (v : Int) : bits .and .i64 v 255 = v % 256 := by
  show IntKind.i64.wrap ((BitVec.ofInt 64 v &&& BitVec.ofInt 64 255).toNat : Int) = _
  rw [BitVec.toNat_and, show (BitVec.ofInt 64 255).toNat = 2 ^ 8 - 1 from rfl, Nat.and_two_pow_sub_one_eq_mod, BitVec.toNat_ofInt, IntKind.wrap_i64]
  omega
theorem calm_b (g : Nat) (cr nx ha : Int) (sh wa ag : Bool) (co : Int) (w : World) (hG : Blk w g 145 (gb cr nx ha sh wa ag co)) :
    Calls Try.prog 135 #[.pointer (some ⟨g, 0, none⟩)] w fun e w' => e = .returned (.tuple #[]) ∧ Blk w' g 145 (gb cr nx ha sh false false co) ∧ Below g w w' := by
  refine (calm_any g cr nx ha sh wa ag co w hG).mono ?_
  rintro e w' ⟨r, h, hb⟩
  exact ⟨r, h, (Below.refl _ _).grown hb (Nat.le_of_lt hG.lt) (fun k hk => by injection hk with hk; omega)⟩
theorem counted_b (g : Nat) (cr nx ha : Int) (sh wa ag : Bool) (co : Int) (w : World) (hG : Blk w g 145 (gb cr nx ha sh wa ag co)) (hc : 0 ≤ co ∧ co ≤ 3) :
    Calls Try.prog 119 #[.pointer (some ⟨g, 0, none⟩)] w fun e w' => e = .returned (.tuple #[]) ∧ Blk w' g 145 (gb cr nx ha sh wa ag ((co + 1) % 4)) ∧ Below g w w' := by
  refine (counted_any g cr nx ha sh wa ag co w hG hc).mono ?_
  rintro e w' ⟨r, h, hb⟩
  exact ⟨r, h, (Below.refl _ _).grown hb (Nat.le_of_lt hG.lt) (fun k hk => by injection hk with hk; omega)⟩
set_option maxHeartbeats 1600000 in
set_option maxRecDepth 100000 in
theorem order_free (g : Nat) (cr nx ha : Int) (sh wa ag : Bool) (co : Int) (b off d : Nat) (w : World)  (hG : Blk w g 145 (gb cr nx ha sh wa ag co)) (hc : 0 ≤ co ∧ co ≤ 3) (hA : Rd w (some ⟨b, off, none⟩) (bvs [(0 : UInt8)])) :
    Calls Try.prog 118 #[.pointer (some ⟨g, 0, none⟩), .slice (some ⟨b, off, none⟩) 1 d] w fun e w' => e = .returned (.int .i64 0) ∧ Blk w' g 145 (gb cr nx ha false false false ((co + 1) % 4)) ∧ Below g w w' := by
  have e0 : w.cell? ⟨b, off, none⟩ = some (.int .u8 0) := hA.byteE (k := 0) (by simp)
  obtain ⟨x0, x1, x2, x3, x4, x5, x6, fx⟩ := Blk.seven (v0 := .int .i64 cr) (v1 := .int .i64 nx) (v2 := .int .i64 ha) (v3 := .bool sh) (v4 := .bool wa) (v5 := .bool ag) (v6 := .int .i64 co) hG
  go_enter Try.func118, Try.ntmps118
  go_wp2_with fail
  refine (calm_b g cr nx ha false wa ag co _ (hG.set_ 3 _)).mono ?_
  rintro e w1 ⟨rfl, hG1, hb1⟩
  clear x0 x1 x2 x3 x4 x5 x6 fx
  go_wp2_with fail
  refine (counted_b g cr nx ha false false false co _ hG1 hc).mono ?_
  rintro e w2 ⟨rfl, hG2, hb2⟩
  go_wp2
  go_ret
  exact ⟨rfl, hG2, ((Below.setCell (p := ⟨g, 3, none⟩) (Below.refl g w) (Nat.le_refl g) _).trans hb1).trans hb2⟩

set_option maxHeartbeats 1600000 in
set_option maxRecDepth 100000 in
theorem order_one (g : Nat) (cr nx ha : Int) (sh wa ag : Bool) (co : Int) (b off d : Nat) (w : World) (x : UInt8) (hx : x ≠ 0) (hG : Blk w g 145 (gb cr nx ha sh wa ag co)) (hc : 0 ≤ co ∧ co ≤ 3) (hA : Rd w (some ⟨b, off, none⟩) (bvs [x])) :
    Calls Try.prog 118 #[.pointer (some ⟨g, 0, none⟩), .slice (some ⟨b, off, none⟩) 1 d] w fun e w' => e = .returned (.int .i64 8) ∧ Blk w' g 145 (gb cr nx ha sh wa ag co) ∧ Below g w w' := by
  have e0 : w.cell? ⟨b, off, none⟩ = some (.int .u8 x.toNat) := hA.byteE (k := 0) (by simp)
  have hX : ((x.toNat : Int) == 0) = false := by rw [beq_eq_false_iff_ne]; intro e; exact hx (UInt8.toNat_inj.1 (by simpa using (by omega : x.toNat = 0)))
  clear hx
  obtain ⟨x0, x1, x2, x3, x4, x5, x6, fx⟩ := Blk.seven (v0 := .int .i64 cr) (v1 := .int .i64 nx) (v2 := .int .i64 ha) (v3 := .bool sh) (v4 := .bool wa) (v5 := .bool ag) (v6 := .int .i64 co) hG
  go_enter Try.func118, Try.ntmps118
  go_wp2
  go_ret
  exact ⟨rfl, hG, Below.refl _ _⟩

set_option maxHeartbeats 1600000 in
set_option maxRecDepth 100000 in
theorem order_len (g : Nat) (cr nx ha : Int) (sh wa ag : Bool) (co : Int) (b off d : Nat) (w : World) (l : List UInt8) (n : Nat) (h1 : n ≠ 1) (h3 : n ≠ 3) (hG : Blk w g 145 (gb cr nx ha sh wa ag co)) (hc : 0 ≤ co ∧ co ≤ 3) (hA : Rd w (some ⟨b, off, none⟩) (bvs l)) :
    Calls Try.prog 118 #[.pointer (some ⟨g, 0, none⟩), .slice (some ⟨b, off, none⟩) n d] w fun e w' => e = .returned (.int .i64 8) ∧ Blk w' g 145 (gb cr nx ha sh wa ag co) ∧ Below g w w' := by
  have hn1 : ((n : Int) == 1) = false := by rw [beq_eq_false_iff_ne]; omega
  have hn3 : ((n : Int) == 3) = false := by rw [beq_eq_false_iff_ne]; omega
  clear h1 h3
  obtain ⟨x0, x1, x2, x3, x4, x5, x6, fx⟩ := Blk.seven (v0 := .int .i64 cr) (v1 := .int .i64 nx) (v2 := .int .i64 ha) (v3 := .bool sh) (v4 := .bool wa) (v5 := .bool ag) (v6 := .int .i64 co) hG
  go_enter Try.func118, Try.ntmps118
  go_wp2
  go_ret
  exact ⟨rfl, hG, Below.refl _ _⟩

set_option maxHeartbeats 1600000 in
set_option maxRecDepth 100000 in
theorem order_xy (g : Nat) (cr nx ha : Int) (sh wa ag : Bool) (co : Int) (b off d : Nat) (w : World) (x y z : UInt8) (h : ¬ (x = 130 ∧ y = 0)) (hG : Blk w g 145 (gb cr nx ha sh wa ag co)) (hc : 0 ≤ co ∧ co ≤ 3) (hA : Rd w (some ⟨b, off, none⟩) (bvs [x, y, z])) :
    Calls Try.prog 118 #[.pointer (some ⟨g, 0, none⟩), .slice (some ⟨b, off, none⟩) 3 d] w fun e w' => e = .returned (.int .i64 8) ∧ Blk w' g 145 (gb cr nx ha sh wa ag co) ∧ Below g w w' := by
  have e0 : w.cell? ⟨b, off, none⟩ = some (.int .u8 x.toNat) := hA.byteE (k := 0) (by simp)
  have e1 : w.cell? ⟨b, off + 1, none⟩ = some (.int .u8 y.toNat) := hA.byteE (k := 1) (by simp)
  have hE : ([x, y] == ([130, 0] : List UInt8)) = false := by rw [beq_eq_false_iff_ne]; intro e; injection e with e1 e2; injection e2 with e2 e3; exact h ⟨e1, e2⟩
  have hq : (Op.equalIn 10000 162 (.agg #[.int .u8 x.toNat, .int .u8 y.toNat]) (.agg #[.int .u8 130, .int .u8 0])).run Try.prog w = .ok false w := by
    have h9 := run_equalIn_bytes (P := Try.prog) w 9998 162 5 2 Try.underlying162 Try.underlying5 (by intro w; rfl) [x, y] [130, 0] rfl rfl
    rw [hE] at h9
    exact h9
  clear hE
  have hr := run_arrayAt (P := Try.prog) w 162 5 2 (some ⟨b, off, none⟩) 3 d Try.underlying162 (by decide)
  clear h
  obtain ⟨x0, x1, x2, x3, x4, x5, x6, fx⟩ := Blk.seven (v0 := .int .i64 cr) (v1 := .int .i64 nx) (v2 := .int .i64 ha) (v3 := .bool sh) (v4 := .bool wa) (v5 := .bool ag) (v6 := .int .i64 co) hG
  go_enter Try.func118, Try.ntmps118
  go_wp2
  go_ret
  exact ⟨rfl, hG, Below.refl _ _⟩

set_option maxHeartbeats 1600000 in
set_option maxRecDepth 100000 in
theorem order_open (g : Nat) (cr nx ha : Int) (wa ag : Bool) (co : Int) (b off d : Nat) (w : World) (z : UInt8) (hG : Blk w g 145 (gb cr nx ha false wa ag co)) (hc : 0 ≤ co ∧ co ≤ 3) (hA : Rd w (some ⟨b, off, none⟩) (bvs [130, 0, z])) :
    Calls Try.prog 118 #[.pointer (some ⟨g, 0, none⟩), .slice (some ⟨b, off, none⟩) 3 d] w fun e w' => e = .returned (.int .i64 0) ∧ Blk w' g 145 (gb cr (z.toNat : Int) ha false false false ((co + 1) % 4)) ∧ Below g w w' := by
  have e0 : w.cell? ⟨b, off, none⟩ = some (.int .u8 130) := hA.byteE (k := 0) (by simp)
  have e1 : w.cell? ⟨b, off + 1, none⟩ = some (.int .u8 0) := hA.byteE (k := 1) (by simp)
  have e2 : w.cell? ⟨b, off + 2, none⟩ = some (.int .u8 z.toNat) := hA.byteE (k := 2) (by simp)
  have hE : ([130, 0] == ([130, 0] : List UInt8)) = true := by decide
  have hq : (Op.equalIn 10000 162 (.agg #[.int .u8 130, .int .u8 0]) (.agg #[.int .u8 130, .int .u8 0])).run Try.prog w = .ok true w := by
    have h9 := run_equalIn_bytes (P := Try.prog) w 9998 162 5 2 Try.underlying162 Try.underlying5 (by intro w; rfl) [130, 0] [130, 0] rfl rfl
    rw [hE] at h9
    exact h9
  clear hE
  have hr := run_arrayAt (P := Try.prog) w 162 5 2 (some ⟨b, off, none⟩) 3 d Try.underlying162 (by decide)
  have gz := byte_lt z
  obtain ⟨x0, x1, x2, x3, x4, x5, x6, fx⟩ := Blk.seven (v0 := .int .i64 cr) (v1 := .int .i64 nx) (v2 := .int .i64 ha) (v3 := .bool false) (v4 := .bool wa) (v5 := .bool ag) (v6 := .int .i64 co) hG
  go_enter Try.func118, Try.ntmps118
  go_wp2_with fail
  refine (calm_b g cr (z.toNat : Int) ha false wa ag co _ (hG.set_ 1 _)).mono ?_
  rintro e w1 ⟨rfl, hG1, hb1⟩
  clear x0 x1 x2 x3 x4 x5 x6 fx
  go_wp2_with fail
  refine (counted_b g cr (z.toNat : Int) ha false false false co _ hG1 hc).mono ?_
  rintro e w2 ⟨rfl, hG2, hb2⟩
  go_wp2
  go_ret
  exact ⟨rfl, hG2, ((Below.setCell (p := ⟨g, 1, none⟩) (Below.refl g w) (Nat.le_refl g) _).trans hb1).trans hb2⟩

set_option maxHeartbeats 1600000 in
set_option maxRecDepth 100000 in
theorem order_stay (g : Nat) (cr nx ha : Int) (wa ag : Bool) (co : Int) (b off d : Nat) (w : World) (z : UInt8) (hG : Blk w g 145 (gb cr nx ha true wa ag co)) (hc : 0 ≤ co ∧ co ≤ 3) (hA : Rd w (some ⟨b, off, none⟩) (bvs [130, 0, z])) :
    Calls Try.prog 118 #[.pointer (some ⟨g, 0, none⟩), .slice (some ⟨b, off, none⟩) 3 d] w fun e w' => e = .returned (.int .i64 0) ∧ Blk w' g 145 (gb cr nx ha true wa ag ((co + 1) % 4)) ∧ Below g w w' := by
  have e0 : w.cell? ⟨b, off, none⟩ = some (.int .u8 130) := hA.byteE (k := 0) (by simp)
  have e1 : w.cell? ⟨b, off + 1, none⟩ = some (.int .u8 0) := hA.byteE (k := 1) (by simp)
  have e2 : w.cell? ⟨b, off + 2, none⟩ = some (.int .u8 z.toNat) := hA.byteE (k := 2) (by simp)
  have hE : ([130, 0] == ([130, 0] : List UInt8)) = true := by decide
  have hq : (Op.equalIn 10000 162 (.agg #[.int .u8 130, .int .u8 0]) (.agg #[.int .u8 130, .int .u8 0])).run Try.prog w = .ok true w := by
    have h9 := run_equalIn_bytes (P := Try.prog) w 9998 162 5 2 Try.underlying162 Try.underlying5 (by intro w; rfl) [130, 0] [130, 0] rfl rfl
    rw [hE] at h9
    exact h9
  clear hE
  have hr := run_arrayAt (P := Try.prog) w 162 5 2 (some ⟨b, off, none⟩) 3 d Try.underlying162 (by decide)
  have gz := byte_lt z
  obtain ⟨x0, x1, x2, x3, x4, x5, x6, fx⟩ := Blk.seven (v0 := .int .i64 cr) (v1 := .int .i64 nx) (v2 := .int .i64 ha) (v3 := .bool true) (v4 := .bool wa) (v5 := .bool ag) (v6 := .int .i64 co) hG
  go_enter Try.func118, Try.ntmps118
  go_wp2_with fail
  refine (counted_b g cr nx ha true wa ag co _ hG hc).mono ?_
  rintro e w2 ⟨rfl, hG2, hb2⟩
  clear x0 x1 x2 x3 x4 x5 x6 fx
  go_wp2
  go_ret
  exact ⟨rfl, hG2, hb2⟩

set_option maxHeartbeats 1600000 in
set_option maxRecDepth 100000 in
theorem number_shut (g : Nat) (cr nx ha : Int) (wa ag : Bool) (co sq : Int) (w : World) (hs : 0 ≤ sq ∧ sq ≤ 255) (hn : 0 ≤ nx ∧ nx ≤ 255) (hf : 1 ≤ ha ∧ ha ≤ 128) (room : Bool) (hG : Blk w g 145 (gb cr nx ha true wa ag co)) :
    Calls Try.prog 120 #[.pointer (some ⟨g, 0, none⟩), .int .i64 sq, .bool room] w fun e w' => e = .returned (.tuple #[.bool false, .int .i64 15]) ∧ Blk w' g 145 (gb cr nx ha true wa ag co) ∧ Below g w w' := by
  have hd := and_low8 (sq - nx)
  obtain ⟨s0, s1⟩ := hs
  obtain ⟨n0, n1⟩ := hn
  obtain ⟨f0, f1⟩ := hf
  obtain ⟨x0, x1, x2, x3, x4, x5, x6, fx⟩ := Blk.seven (v0 := .int .i64 cr) (v1 := .int .i64 nx) (v2 := .int .i64 ha) (v3 := .bool true) (v4 := .bool wa) (v5 := .bool ag) (v6 := .int .i64 co) hG
  go_enter Try.func120, Try.ntmps120
  go_wp2
  refine bodyPost_ret (v := .tuple #[.bool false, .int .i64 15]) (by simp [results, Try.results120, go_sem, and_low8]) rfl ?_
  exact ⟨rfl, hG, Below.refl _ _⟩

set_option maxHeartbeats 1600000 in
set_option maxRecDepth 100000 in
theorem number_next (g : Nat) (cr nx ha : Int) (wa ag : Bool) (co sq : Int) (w : World) (hs : 0 ≤ sq ∧ sq ≤ 255) (hn : 0 ≤ nx ∧ nx ≤ 255) (hf : 1 ≤ ha ∧ ha ≤ 128) (he : sq = nx) (hG : Blk w g 145 (gb cr nx ha false wa ag co)) :
    Calls Try.prog 120 #[.pointer (some ⟨g, 0, none⟩), .int .i64 sq, .bool true] w fun e w' => e = .returned (.tuple #[.bool true, .int .i64 0]) ∧ Blk w' g 145 (gb cr ((sq + 1) % 256) ha false false false co) ∧ Below g w w' := by
  have hd := and_low8 (sq - nx)
  subst he
  have hd0 : bits .and .i64 (sq - sq) 255 = 0 := by rw [hd]; omega
  have hm := and_low8 (sq + 1)
  clear hd
  obtain ⟨s0, s1⟩ := hs
  obtain ⟨n0, n1⟩ := hn
  obtain ⟨f0, f1⟩ := hf
  obtain ⟨x0, x1, x2, x3, x4, x5, x6, fx⟩ := Blk.seven (v0 := .int .i64 cr) (v1 := .int .i64 sq) (v2 := .int .i64 ha) (v3 := .bool false) (v4 := .bool wa) (v5 := .bool ag) (v6 := .int .i64 co) hG
  go_enter Try.func120, Try.ntmps120
  go_wp2_with fail
  refine (calm_b g cr ((sq + 1) % 256) ha false wa ag co _ (hG.set_ 1 _)).mono ?_
  rintro e w1 ⟨rfl, hG1, hb1⟩
  clear x0 x1 x2 x3 x4 x5 x6 fx
  go_wp2
  refine bodyPost_ret (v := .tuple #[.bool true, .int .i64 0]) (by simp [results, Try.results120, go_sem, and_low8]) rfl ?_
  exact ⟨rfl, hG1, (Below.setCell (p := ⟨g, 1, none⟩) (Below.refl g w) (Nat.le_refl g) _).trans hb1⟩

set_option maxHeartbeats 1600000 in
set_option maxRecDepth 100000 in
theorem number_full (g : Nat) (cr nx ha : Int) (wa ag : Bool) (co sq : Int) (w : World) (hs : 0 ≤ sq ∧ sq ≤ 255) (hn : 0 ≤ nx ∧ nx ≤ 255) (hf : 1 ≤ ha ∧ ha ≤ 128) (he : sq = nx) (hG : Blk w g 145 (gb cr nx ha false wa ag co)) :
    Calls Try.prog 120 #[.pointer (some ⟨g, 0, none⟩), .int .i64 sq, .bool false] w fun e w' => e = .returned (.tuple #[.bool false, .int .i64 12]) ∧ Blk w' g 145 (gb cr sq ha false true true co) ∧ Below g w w' := by
  have hd := and_low8 (sq - nx)
  subst he
  have hd0 : bits .and .i64 (sq - sq) 255 = 0 := by rw [hd]; omega
  clear hd
  obtain ⟨s0, s1⟩ := hs
  obtain ⟨n0, n1⟩ := hn
  obtain ⟨f0, f1⟩ := hf
  obtain ⟨x0, x1, x2, x3, x4, x5, x6, fx⟩ := Blk.seven (v0 := .int .i64 cr) (v1 := .int .i64 sq) (v2 := .int .i64 ha) (v3 := .bool false) (v4 := .bool wa) (v5 := .bool ag) (v6 := .int .i64 co) hG
  go_enter Try.func120, Try.ntmps120
  go_wp2
  refine bodyPost_ret (v := .tuple #[.bool false, .int .i64 12]) (by simp [results, Try.results120, go_sem, and_low8]) rfl ?_
  exact ⟨rfl, (hG.set_ 4 _).set_ 5 _, Below.setCell (p := ⟨g, 5, none⟩) (Below.setCell (p := ⟨g, 4, none⟩) (Below.refl g w) (Nat.le_refl g) _) (Nat.le_refl g) _⟩

set_option maxHeartbeats 1600000 in
set_option maxRecDepth 100000 in
theorem number_more (g : Nat) (cr nx ha : Int) (wa ag : Bool) (co sq : Int) (w : World) (hs : 0 ≤ sq ∧ sq ≤ 255) (hn : 0 ≤ nx ∧ nx ≤ 255) (hf : 1 ≤ ha ∧ ha ≤ 128) (room : Bool) (hx : ¬ (sq - nx) % 256 = 0) (hh : (sq - nx) % 256 < ha) (hG : Blk w g 145 (gb cr nx ha false wa ag co)) :
    Calls Try.prog 120 #[.pointer (some ⟨g, 0, none⟩), .int .i64 sq, .bool room] w fun e w' => e = .returned (.tuple #[.bool false, .int .i64 7]) ∧ Blk w' g 145 (gb cr nx ha false wa true co) ∧ Below g w w' := by
  have hd := and_low8 (sq - nx)
  generalize hq : (sq - nx) % 256 = q at *
  have q0 : 0 ≤ q := by omega
  have q1 : q ≤ 255 := by omega
  have hz : (q == 0) = false := by rw [beq_eq_false_iff_ne]; omega
  clear hq hx
  obtain ⟨s0, s1⟩ := hs
  obtain ⟨n0, n1⟩ := hn
  obtain ⟨f0, f1⟩ := hf
  obtain ⟨x0, x1, x2, x3, x4, x5, x6, fx⟩ := Blk.seven (v0 := .int .i64 cr) (v1 := .int .i64 nx) (v2 := .int .i64 ha) (v3 := .bool false) (v4 := .bool wa) (v5 := .bool ag) (v6 := .int .i64 co) hG
  go_enter Try.func120, Try.ntmps120
  go_wp2
  refine bodyPost_ret (v := .tuple #[.bool false, .int .i64 7]) (by simp [results, Try.results120, go_sem, and_low8]) rfl ?_
  exact ⟨rfl, hG.set_ 5 _, Below.setCell (p := ⟨g, 5, none⟩) (Below.refl g w) (Nat.le_refl g) _⟩

set_option maxHeartbeats 1600000 in
set_option maxRecDepth 100000 in
theorem number_old (g : Nat) (cr nx ha : Int) (wa ag : Bool) (co sq : Int) (w : World) (hs : 0 ≤ sq ∧ sq ≤ 255) (hn : 0 ≤ nx ∧ nx ≤ 255) (hf : 1 ≤ ha ∧ ha ≤ 128) (room : Bool) (hx : ¬ (sq - nx) % 256 = 0) (hh : ha ≤ (sq - nx) % 256) (hy : 256 - ha ≤ (sq - nx) % 256) (hG : Blk w g 145 (gb cr nx ha false wa ag co)) :
    Calls Try.prog 120 #[.pointer (some ⟨g, 0, none⟩), .int .i64 sq, .bool room] w fun e w' => e = .returned (.tuple #[.bool false, .int .i64 13]) ∧ Blk w' g 145 (gb cr nx ha false wa ag co) ∧ Below g w w' := by
  have hd := and_low8 (sq - nx)
  generalize hq : (sq - nx) % 256 = q at *
  have q0 : 0 ≤ q := by omega
  have q1 : q ≤ 255 := by omega
  have hz : (q == 0) = false := by rw [beq_eq_false_iff_ne]; omega
  have hy2 : 256 - q ≤ ha := by omega
  clear hy
  clear hq hx
  obtain ⟨s0, s1⟩ := hs
  obtain ⟨n0, n1⟩ := hn
  obtain ⟨f0, f1⟩ := hf
  obtain ⟨x0, x1, x2, x3, x4, x5, x6, fx⟩ := Blk.seven (v0 := .int .i64 cr) (v1 := .int .i64 nx) (v2 := .int .i64 ha) (v3 := .bool false) (v4 := .bool wa) (v5 := .bool ag) (v6 := .int .i64 co) hG
  go_enter Try.func120, Try.ntmps120
  go_wp2
  refine bodyPost_ret (v := .tuple #[.bool false, .int .i64 13]) (by simp [results, Try.results120, go_sem, and_low8]) rfl ?_
  exact ⟨rfl, hG, Below.refl _ _⟩

set_option maxHeartbeats 1600000 in
set_option maxRecDepth 100000 in
theorem number_lock (g : Nat) (cr nx ha : Int) (wa ag : Bool) (co sq : Int) (w : World) (hs : 0 ≤ sq ∧ sq ≤ 255) (hn : 0 ≤ nx ∧ nx ≤ 255) (hf : 1 ≤ ha ∧ ha ≤ 128) (room : Bool) (hx : ¬ (sq - nx) % 256 = 0) (hh : ha ≤ (sq - nx) % 256) (hy : (sq - nx) % 256 < 256 - ha) (hG : Blk w g 145 (gb cr nx ha false wa ag co)) :
    Calls Try.prog 120 #[.pointer (some ⟨g, 0, none⟩), .int .i64 sq, .bool room] w fun e w' => e = .returned (.tuple #[.bool false, .int .i64 15]) ∧ Blk w' g 145 (gb cr nx ha true wa ag co) ∧ Below g w w' := by
  have hd := and_low8 (sq - nx)
  generalize hq : (sq - nx) % 256 = q at *
  have q0 : 0 ≤ q := by omega
  have q1 : q ≤ 255 := by omega
  have hz : (q == 0) = false := by rw [beq_eq_false_iff_ne]; omega
  have hy2 : ha < 256 - q := by omega
  clear hy
  clear hq hx
  obtain ⟨s0, s1⟩ := hs
  obtain ⟨n0, n1⟩ := hn
  obtain ⟨f0, f1⟩ := hf
  obtain ⟨x0, x1, x2, x3, x4, x5, x6, fx⟩ := Blk.seven (v0 := .int .i64 cr) (v1 := .int .i64 nx) (v2 := .int .i64 ha) (v3 := .bool false) (v4 := .bool wa) (v5 := .bool ag) (v6 := .int .i64 co) hG
  go_enter Try.func120, Try.ntmps120
  go_wp2
  refine bodyPost_ret (v := .tuple #[.bool false, .int .i64 15]) (by simp [results, Try.results120, go_sem, and_low8]) rfl ?_
  exact ⟨rfl, hG.set_ 3 _, Below.setCell (p := ⟨g, 3, none⟩) (Below.refl g w) (Nat.le_refl g) _⟩

end Go.Proofs.Ytgfkpolklianeaa
