/-
  The note that says that an End has been seen (seen). deliver.Sum of a slice of the call's own, whatever it is.
-/
import Derived.Test.YtianombjgdmbeaaMDeliverTakes39
import Derived.Test.YtianombjgdmbeaaMDeliverTakes6
import Derived.Test.YtianombjgdmbeaaMDeliverTakes10
namespace Go.Proofs.Ytianombjgdmbeaa
set_option linter.unusedSimpArgs false
set_option linter.unusedVariables false
open Go.RowKit

set_option maxHeartbeats 1600000 in
set_option maxRecDepth 100000 in
theorem seen_at (x : Tk) (F : Option Addr) (fn fc : Nat) (A : Option Addr) (an ac : Nat) (O : Option Addr) (on oc : Nat) (l : List NtR) (base q : Nat) (ns : List Nt) (w : World) (hq : Blk w q 86 (tw x A an ac F fn fc O on oc)) (hM : GvMem w base (pg x) ns F fn fc A an ac O on oc l) (hon : ns.length ≤ 100000) (hbase : base ≤ w.heap.size) (hbq : base ≤ q) :
    Calls Try.prog 78 #[.pointer (some ⟨q, 0, none⟩)] w fun e w' => SayT w w' base q x (ns ++ [seenN x]) F fn fc A an ac e := by
  have CS := Lib.hid (tsay_at x F fn fc A an ac O on oc l ⟨6, 0, ⟨#[]⟩, 0, 0, 0, [], [], 3, 0⟩ (seenN x) none 0 0 base q ns w hq hM rfl rfl rfl (Own.none_ _ _ _ _) (fun i _ h => by simp [blk] at h) (fun j y _ i _ h => by simp [blk] at h) hon hbase hbq)
  unfold ntv at CS
  dsimp only at CS
  clear hq hM
  go_enter Try.func78, Try.ntmps78
  go_wp2_with fail
  refine CS.out.mono ?_
  intro e w' h
  obtain ⟨O1, on1, oc1, l1, rfl, h1, h2, h3⟩ := h
  go_wp2_with fail
  go_end0
  exact ⟨O1, on1, oc1, l1, rfl, h1, h2, h3⟩
set_option maxHeartbeats 1600000 in
set_option maxRecDepth 100000 in
theorem seen0_at (x : Tk) (F : Option Addr) (fn fc : Nat) (A : Option Addr) (an ac base q : Nat) (w : World) (hq : Blk w q 86 (tw x A an ac F fn fc none 0 0)) (hM : GvMem w base (pg x) [] F fn fc A an ac none 0 0 []) (hbase : base ≤ w.heap.size) (hbq : base ≤ q) :
    Calls Try.prog 78 #[.pointer (some ⟨q, 0, none⟩)] w fun e w' => SayT w w' base q x [seenN x] F fn fc A an ac e ∧ Turned w w' (fun i => i = q) := by
  have CS := Lib.hid (tsay_any x A an ac F fn fc none 0 0 [] ⟨⟨6, 0, ⟨#[]⟩, 0, 0, 0, [], [], 3, 0⟩, none, 0, none, 0⟩ base q w hq hM.out (by omega) hbase)
  have HM := Lib.hid hM
  have HQ := Lib.hid hq
  unfold ntv at CS
  dsimp only [List.length_nil] at CS
  clear hq hM
  go_enter Try.func78, Try.ntmps78
  go_wp2_with fail
  refine CS.out.mono ?_
  intro e w' h
  obtain ⟨O', oc', rfl, hb, hO, hT⟩ := h
  have hT' : Turned w w' (fun i => i = q) := hT.mono (fun i _ hi => by
    rcases hi with h | h
    · exact h
    · simp [blk] at h)
  have hM' := tk_more HM.out HQ.out (by decide) (by decide) hT hO rfl (Own.none_ _ _ _ _) (fun i _ h => by simp [blk] at h) (fun j y _ i _ h => by simp [blk] at h)
  have hB := hT'.below (N := base) (fun k hk => by rw [hk]; exact hbq) hbase
  have HS : Hid (SayT w w' base q x [seenN x] F fn fc A an ac (.returned (.tuple #[]))) := Lib.hid ⟨O', _, oc', _, rfl, hb, hM', hB⟩
  go_wp2_with fail
  go_end0
  exact ⟨HS.out, hT'⟩
end Go.Proofs.Ytianombjgdmbeaa
namespace Go.Proofs.Ytianombjgdmbeaa
set_option linter.unusedSimpArgs false
set_option linter.unusedVariables false
open Go.RowKit

/-- Sum of a slice of the call's own, whatever it is. -/
theorem tsum_own (base : Nat) (F : Option Addr) (fn fc : Nat) (l : List UInt8) (w : World) (h : Own w base 5 1 F fn fc (bvs l)) (hl : l.length = fn) (hz : fn ≤ 140737488351300) :
    Calls Try.prog 17 #[.slice F fn fc] w fun e w' => e = .returned (.int .i64 (fileSum l)) ∧ Below w.heap.size w w' := by
  rcases F with _ | ⟨b, off, spot⟩
  · have h1 := h.nil rfl
    have h2 := h.le
    obtain rfl : fn = 0 := by omega
    have : l = [] := List.eq_nil_of_length_eq_zero hl
    subst this
    exact sum_none fc w
  · obtain ⟨cur, hs, -, hh, -⟩ := h.at_ _ rfl
    simp only at hs
    subst hs
    exact sum_some b off fn fc l w hl h.rd h.le hz (lt_of_block hh)
end Go.Proofs.Ytianombjgdmbeaa
