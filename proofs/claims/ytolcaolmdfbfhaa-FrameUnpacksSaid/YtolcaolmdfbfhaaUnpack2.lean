import Derived.Test.YtolcaolmdfbfhaaUnpack
namespace Go.Proofs.Ytolcaolmdfbfhaa
set_option linter.unusedSimpArgs false
set_option linter.unusedVariables false
open Go.RowKit

set_option maxHeartbeats 3200000 in
set_option maxRecDepth 100000 in
theorem unpack_sum (b off : Nat) (l : List UInt8) (n c : Nat) (w : World) (hl : l.length = n) (ha : Rd w (some ⟨b, off, none⟩) (bvs l)) (hc : n ≤ c) (h1 : 13 ≤ n) (h2 : n ≤ 2048) (hs : crc (l.take (n - 2)) ≠ numOf (l.drop (n - 2))) :
    Calls Try.prog 16 #[.slice (some ⟨b, off, none⟩) n c] w fun e w' => UnpRes w w' (.zero, [], 0, 9) e := by
  have L1 : Hid ((l.take (n - 2)).length = n - 2) := by show _ = _; simp; omega
  have L2 : Hid ((l.drop (n - 2)).length = n - (n - 2)) := by show _ = _; simp; omega
  have R1 : ∀ o k, Rd ((w.alloc o).drewN k) (some ⟨b, off, none⟩) (bvs (l.take (n - 2))) := fun o k => by
    have := ((ha.alloc o).drewN k).take (n - 2)
    simpa [bvs, List.map_take] using this
  have R2 : ∀ o k, Rd ((w.alloc o).drewN k) (some ⟨b, off + (n - 2), none⟩) (bvs (l.drop (n - 2))) := fun o k => by
    have := ((ha.alloc o).drewN k).drop_lit (n - 2)
    simpa [bvs, List.map_drop] using this
  have w0 : IntKind.i64.wrap ((n : Int) - 2) = (n : Int) - 2 := IntWalk.i64_in _ (by omega)
  have t0 : ((n : Int) - 2).toNat = n - 2 := by omega
  have b0 : (0 : Int) ≤ (n : Int) - 2 := by omega
  have b1 : (n : Int) - 2 ≤ (c : Int) := by omega
  have b2 : (n : Int) - 2 ≤ (n : Int) := by omega
  have hc6 : ¬ c = n - 2 := by omega
  have Hs : Hid (crc (l.take (n - 2)) ≠ numOf (l.drop (n - 2))) := hs
  have d1 : (((crc (l.take (n - 2)) : Nat) : Int) != ((numOf (l.drop (n - 2)) : Nat) : Int)) = true := by simp; omega
  clear hs hl ha
  go_enter Try.func16, Try.ntmps16
  go_upto_region 4 with fail
  go_quiet (first | (go_at_call 62; exact quiet_left (sum_n (some ⟨b, off, none⟩) (l.take (n - 2)) _ _ _ L1.out (R1 _ _) (by omega))) | (go_at_call 63; exact quiet_left (number_any (some ⟨b, off + (n - 2), none⟩) (l.drop (n - 2)) _ _ _ L2.out (R2 _ _) (by omega))))
  clear w0 t0
  go_wp2
  refine bodyPost_ret (v := .tuple #[.agg #[.int .i64 0, .int .i64 0, .int .i64 0, .int .i64 0, .int .i64 0], .slice none 0 0, .int .i64 0, .int .i64 9]) (by simp [results, Try.results16, go_sem]) rfl ?_
  exact UnpRes.zero (by repeat (first | with_reducible exact Below.refl _ _ | with_reducible assumption | with_reducible refine below_drewN ?_ _ | with_reducible refine Below.drew ?_ | with_reducible refine Below.alloc ?_ ?_ _ | with_reducible refine Below.setCell ?_ ?_ _ | with_reducible exact Nat.le_refl _ | (simp; omega) | (simp; done)))
end Go.Proofs.Ytolcaolmdfbfhaa
