import Derived.Test.YtolcaolmdfbfhaaUnpack3
import Derived.Deep.RegionWith
namespace Go.Proofs.Ytolcaolmdfbfhaa
set_option linter.unusedSimpArgs false
set_option linter.unusedVariables false
open Go.RowKit

theorem number_r {A : Option Addr} {l : List UInt8} {n c : Nat} {w : World} (ha : Rd w A (bvs l)) (hl : l.length = n) (hn : n ≤ 6) :
    Calls Try.prog 63 #[.slice A n c] w fun e w' => e = .returned (.int .i64 (numOf l : Nat)) ∧ w = w' := number_any A l n c w hl ha hn
theorem take_two {l : List UInt8} (h : 2 ≤ l.length) : l.take 2 = [l.getD 0 0, l.getD 1 0] := by
  match l, h with
  | a :: b :: r, _ => rfl
theorem mid_two {l : List UInt8} (h : 6 ≤ l.length) : (l.drop 4).take 2 = [l.getD 4 0, l.getD 5 0] := by
  match l, h with
  | a :: b :: c :: d :: e :: f :: r, _ => rfl

set_option maxHeartbeats 3200000 in
set_option maxRecDepth 100000 in
theorem unpack_form (b off : Nat) (l : List UInt8) (n c : Nat) (w : World) (hl : l.length = n) (ha : Rd w (some ⟨b, off, none⟩) (bvs l)) (hc : n ≤ c) (h1 : 13 ≤ n) (h2 : n ≤ 2048) (hs : crc (l.take (n - 2)) = numOf (l.drop (n - 2)))
    (hf : ¬ headForm (numOf (l.take 2)) (numOf ((l.drop 4).take 2))) :
    Calls Try.prog 16 #[.slice (some ⟨b, off, none⟩) n c] w fun e w' => UnpRes w w' (.zero, [], 0, 8) e := by
  have L1 : Hid ((l.take (n - 2)).length = n - 2) := by show _ = _; simp; omega
  have L2 : Hid ((l.drop (n - 2)).length = n - (n - 2)) := by show _ = _; simp; omega
  have L3 : Hid ((l.take 2).length = 2) := by show _ = _; simp; omega
  have L4 : Hid (((l.drop 4).take 2).length = 2) := by show _ = _; simp; omega
  have R1 : ∀ o k, Rd ((w.alloc o).drewN k) (some ⟨b, off, none⟩) (bvs (l.take (n - 2))) := fun o k => by
    have := ((ha.alloc o).drewN k).take (n - 2)
    simpa [bvs, List.map_take] using this
  have R2 : ∀ o k, Rd ((w.alloc o).drewN k) (some ⟨b, off + (n - 2), none⟩) (bvs (l.drop (n - 2))) := fun o k => by
    have := ((ha.alloc o).drewN k).drop_lit (n - 2)
    simpa [bvs, List.map_drop] using this
  have R3 : ∀ o k, Rd ((w.alloc o).drewN k) (some ⟨b, off, none⟩) (bvs (l.take 2)) := fun o k => by
    have := ((ha.alloc o).drewN k).take 2
    simpa [bvs, List.map_take] using this
  have R4 : ∀ o k, Rd ((w.alloc o).drewN k) (some ⟨b, off + 4, none⟩) (bvs ((l.drop 4).take 2)) := fun o k => by
    have := (((ha.alloc o).drewN k).drop_lit 4).take 2
    simpa [bvs, List.map_drop, List.map_take] using this
  have w0 : IntKind.i64.wrap ((n : Int) - 2) = (n : Int) - 2 := IntWalk.i64_in _ (by omega)
  have t0 : ((n : Int) - 2).toNat = n - 2 := by omega
  have b0 : (0 : Int) ≤ (n : Int) - 2 := by omega
  have b1 : (n : Int) - 2 ≤ (c : Int) := by omega
  have b2 : (n : Int) - 2 ≤ (n : Int) := by omega
  have b3 : (2 : Int) ≤ (c : Int) := by omega
  have b4 : (6 : Int) ≤ (c : Int) := by omega
  have hc6 : ¬ c = n - 2 := by omega
  have hc4 : ¬ c = 4 := by omega
  have d1 : (((crc (l.take (n - 2)) : Nat) : Int) != ((numOf (l.drop (n - 2)) : Nat) : Int)) = false := by rw [hs]; simp
  have n1 : numOf (l.take 2) < 65536 := by have := numOf_lt (l.take 2); rw [L3.out] at this; exact this
  have n2 : numOf ((l.drop 4).take 2) < 65536 := by have := numOf_lt ((l.drop 4).take 2); rw [L4.out] at this; exact this
  have f1 := form_a n1
  have f2 := form_f n2
  have HF : Hid (¬ headForm (numOf (l.take 2)) (numOf ((l.drop 4).take 2))) := hf
  clear hs hl ha hf
  go_enter Try.func16, Try.ntmps16
  go_upto_region 4 with fail
  go_quiet (first | (go_at_call 62; exact quiet_left (sum_n (some ⟨b, off, none⟩) (l.take (n - 2)) _ _ _ L1.out (R1 _ _) (by omega))) | (go_at_call 63; exact quiet_left (number_any (some ⟨b, off + (n - 2), none⟩) (l.drop (n - 2)) _ _ _ L2.out (R2 _ _) (by omega))))
  clear w0 t0
  go_upto_region 6 with fail
  go_quiet ((go_at_call 63; exact quiet_add_left (number_r (by first | exact R3 _ _ | exact R4 _ _) (by first | exact L3.out | exact L4.out) (by omega))))
  by_cases g1 : numOf (l.take 2) / 16384 = 0 ∧ numOf (l.take 2) % 2 = 1
  · have g2 : ¬ numOf ((l.drop 4).take 2) / 2048 = 3 := fun h => HF.out ⟨g1.1, g1.2, h⟩
    rw [decide_eq_true g1] at f1
    rw [decide_eq_false g2] at f2
    clear g1 g2
    go_wp2
    refine bodyPost_ret (v := .tuple #[.agg #[.int .i64 0, .int .i64 0, .int .i64 0, .int .i64 0, .int .i64 0], .slice none 0 0, .int .i64 0, .int .i64 8]) (by simp [results, Try.results16, go_sem]) rfl ?_
    exact UnpRes.zero (by repeat (first | with_reducible exact Below.refl _ _ | with_reducible assumption | with_reducible refine below_drewN ?_ _ | with_reducible refine Below.drew ?_ | with_reducible refine Below.alloc ?_ ?_ _ | with_reducible refine Below.setCell ?_ ?_ _ | with_reducible exact Nat.le_refl _ | (simp; omega) | (simp; done)))
  · rw [decide_eq_false g1] at f1
    clear g1 f2
    go_wp2
    refine bodyPost_ret (v := .tuple #[.agg #[.int .i64 0, .int .i64 0, .int .i64 0, .int .i64 0, .int .i64 0], .slice none 0 0, .int .i64 0, .int .i64 8]) (by simp [results, Try.results16, go_sem]) rfl ?_
    exact UnpRes.zero (by repeat (first | with_reducible exact Below.refl _ _ | with_reducible assumption | with_reducible refine below_drewN ?_ _ | with_reducible refine Below.drew ?_ | with_reducible refine Below.alloc ?_ ?_ _ | with_reducible refine Below.setCell ?_ ?_ _ | with_reducible exact Nat.le_refl _ | (simp; omega) | (simp; done)))
end Go.Proofs.Ytolcaolmdfbfhaa
