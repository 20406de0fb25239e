import Derived.Test.YtclcgfngolfmlaaFieldPow
import Derived.Test.YtclcgfngolfmlaaPolyP
import Derived.Test.YtclcgfngolfmlaaByteAt
import Derived.Test.YtclcgfngolfmlaaMade
import Derived.Test.YtclcgfngolfmlaaClone
import Derived.Deep.RegionLaw
import Derived.Deep.RegionHeld3
namespace Go.Proofs.Ytclcgfngolfmlaa
set_option linter.unusedSimpArgs false
set_option linter.unusedVariables false
open Go.RowKit

theorem mulB_i (x y : Int) (a b : UInt8) (w : World) (hx : x = (a.toNat : Int)) (hy : y = (b.toNat : Int)) :
    Calls Try.prog 92 #[.int .u8 x, .int .u8 y] w fun e w' => e = .returned (.int .u8 ((mulB a b).toNat : Int)) ∧ w = w' := by
  rw [mulB_nat]
  exact mul_i x y _ _ w hx hy a.toNat_lt b.toNat_lt

set_option maxHeartbeats 3200000 in
set_option maxRecDepth 100000 in
theorem add_any (base g off n c d m i : Nat) (B : Option Addr) (s q : List UInt8) (k : UInt8) (kv iv' : Int) (w : World) (hO : Own w base 5 1 (some ⟨g, off, none⟩) n c (bvs s)) (hq : Rd w B (bvs q)) (hm : q.length = m) (hB : blk B ≠ some g) (hi : i + m ≤ n) (hn : n ≤ 140737488351300)
    (hk : kv = (k.toNat : Int)) (hiv : iv' = (i : Int)) :
    Calls Try.prog 90 #[.slice (some ⟨g, off, none⟩) n c, .slice B m d, .int .u8 kv, .int .i64 iv'] w fun e w' => e = .returned (.tuple #[]) ∧ Own w' base 5 1 (some ⟨g, off, none⟩) n c (bvs (addTo s q k i m)) ∧ w.grownBy w' (some g) := by
  subst hk
  subst hiv
  have HM := Lib.hid hm
  clear hm
  go_enter Try.func90, Try.ntmps90
  go_wp2_with fail
  go_loopw [12] (fun j wr => ∃ x : Nat, x ≤ m ∧ j = .int .i64 x ∧ Own wr base 5 1 (some ⟨g, off, none⟩) n c (bvs (addTo s q k i x)) ∧ w.grownBy wr (some g)) (fun j _ => m - (intOf j).toNat)
  case atStart => exact ⟨0, by omega, by simp, hO, World.grownBy.refl _ _⟩
  case round =>
    obtain ⟨x, hx, rfl, hOr, hg⟩ := hrel
    by_cases h5 : x < m
    · obtain ⟨b1, o1, rfl, hc1⟩ := (hq.grown hg (fun k hk e => by injection hk with hk; rw [← hk] at e; exact hB e)).byteD (k := x) (by rw [HM.out]; exact h5)
      obtain ⟨y, hy, hc2⟩ := hOr.byteAt (k := i + x) (by omega)
      have hf2 := hOr.frozen (off + (i + x))
      have HY : Hid ((addTo s q k i x).getD (i + x) 0 = y) := by show _ = _; simp [List.getD, hy]
      have HS : Hid (addTo s q k i (x + 1) = (addTo s q k i x).set (i + x) (y ^^^ mulB k (q.getD x 0))) := by show (addTo s q k i x).set (i + x) (_ ^^^ _) = _; rw [HY.out]
      generalize q.getD x 0 = z at *
      have ex := xor_u8 y (mulB k z)
      have hne : ¬ (b1 = g) := fun e => hB (by simp [blk, e])
      have gy := byte_lt y
      have gz := byte_lt z
      have gk := byte_lt k
      clear hy HY hq hO
      go_wp2_with fail
      have w0 : IntKind.i64.wrap ((i : Int) + (x : Int)) = (i : Int) + (x : Int) := IntWalk.i64_in _ (by omega)
      have t0 : ((i : Int) + (x : Int)).toNat = i + x := by omega
      have p0 : (0 : Int) ≤ (i : Int) + (x : Int) := by omega
      have p1 : (i : Int) + (x : Int) < (n : Int) := by omega
      go_region_law (first | (go_simp; go_at_call 92; refine (mulB_i _ _ k z _ rfl rfl).mono ?_; rintro e w' ⟨rfl, rfl⟩))
      all_goals clear w0 t0 p0 p1 ex
      all_goals go_wp2
      all_goals go_roundw
      all_goals first
        | (simp [intOf]; omega)
        | (refine ⟨x + 1, by omega, by go_num, ?_, grown_drew (grown_setCell (p := ⟨g, off + (i + x), none⟩) hg (.inl rfl) _)⟩
           rw [HS.out, ← UInt8.toNat_xor]
           exact (hOr.setB (k := i + x) (by omega) (y ^^^ mulB k z)).drew)
    · obtain rfl : x = m := by omega
      go_wp2
      go_end0
      exact ⟨rfl, hOr, hg⟩

theorem trim_last {l : List UInt8} {k : Nat} (h : 0 < k) : trimN l k = if l.getD (k - 1) 0 = 0 then trimN l (k - 1) else k := by
  obtain ⟨j, rfl⟩ : ∃ j, k = j + 1 := ⟨k - 1, by omega⟩
  show (if _ then _ else _) = _
  rfl
theorem bvs_take (l : List UInt8) (n : Nat) : (bvs l).take n = bvs (l.take n) := by simp [bvs, List.map_take]
end Go.Proofs.Ytclcgfngolfmlaa
