/-
  Rows of rows of bytes: a slice that reads as a list of lists; two such that are the same.
-/
import Derived.Test.YtppmdamcdhmcpaaMCommandSteps2
namespace Go.Proofs.Ytppmdamcdhmcpaa
set_option linter.unusedSimpArgs false
set_option linter.unusedVariables false
open Go.RowKit

/-- A slice of slices of bytes reads as a list of lists. -/
def RdRows (w : World) (A : Option Addr) (ls : List (List UInt8)) : Prop :=
  ∃ vs : List Value, Rd w A vs ∧ vs.length = ls.length ∧ ∀ (i : Nat) (l : List UInt8), ls[i]? = some l → ∃ B c, vs[i]? = some (.slice B l.length c) ∧ Rd w B (bvs l) ∧ l.length ≤ c

section
variable {w w' : World} {A : Option Addr} {ls : List (List UInt8)}
theorem RdRows.nil (w : World) (A : Option Addr) : RdRows w A [] := ⟨[], Rd.nil _ _, rfl, fun i l h => by simp at h⟩
theorem RdRows.below (h : RdRows w A ls) (hb : Below w.heap.size w w') : RdRows w' A ls := by
  obtain ⟨vs, h1, h2, h3⟩ := h
  refine ⟨vs, h1.below hb, h2, fun i l hl => ?_⟩
  obtain ⟨B, c, e, r, hc⟩ := h3 i l hl
  exact ⟨B, c, e, r.below hb, hc⟩
theorem RdRows.drewN (h : RdRows w A ls) (n : Nat) : RdRows (w.drewN n) A ls := h
theorem RdRows.alloc (h : RdRows w A ls) (o : Obj) : RdRows (w.alloc o) A ls := h.below ((Below.refl _ _).alloc (Nat.le_refl _) _)
theorem RdRows.at_ (h : RdRows w A ls) {k : Nat} (hk : k < ls.length) : ∃ b off B c, A = some ⟨b, off, none⟩ ∧ w.cell? ⟨b, off + k, none⟩ = some (.slice B ls[k].length c) ∧ Rd w B (bvs ls[k]) ∧ ls[k].length ≤ c := by
  obtain ⟨vs, h1, h2, h3⟩ := h
  obtain ⟨B, c, e, r, hc⟩ := h3 k _ (List.getElem?_eq_getElem hk)
  obtain ⟨b, off, ea, hcell⟩ := h1 k _ e
  exact ⟨b, off, B, c, ea, hcell, r, hc⟩
end
theorem sameBytes_n (A B : Option Addr) (l : List UInt8) (m n c d : Nat) (w : World) (hm : l.length = m) (hn : l.length = n) (ha : Rd w A (bvs l)) (hb : Rd w B (bvs l)) :
    Calls Try.prog 42 #[.slice A m c, .slice B n d] w fun e w' => e = .returned (.bool true) ∧ w = w' := by
  subst hm
  subst hn
  exact sameBytes_yes A B l c d w ha hb
theorem quiet_left' {P : Program} {f : FuncId} {args : Array Value} {w : World} {n : Nat} {v : Value}
    (h : Calls P f args (w.drewN n) fun e w' => e = .returned v ∧ w.drewN n = w') : Calls P f args (w.drewN n) fun e w'' => e = .returned v ∧ ∃ m, w'' = w.drewN m :=
  h.mono fun _ _ ⟨he, hm⟩ => ⟨he, n, hm.symm⟩
theorem quiet_add_left' {P : Program} {f : FuncId} {args : Array Value} {w : World} {a n : Nat} {v : Value}
    (h : Calls P f args (w.drewN (a + n)) fun e w' => e = .returned v ∧ w.drewN (a + n) = w') :
    Calls P f args (w.drewN (a + n)) fun e w'' => e = .returned v ∧ ∃ m, w'' = w.drewN (a + m) :=
  h.mono fun _ _ ⟨he, hm⟩ => ⟨he, n, hm.symm⟩
end Go.Proofs.Ytppmdamcdhmcpaa
namespace Go.Proofs.Ytppmdamcdhmcpaa
set_option linter.unusedSimpArgs false
set_option linter.unusedVariables false
open Go.RowKit

set_option maxHeartbeats 1600000 in
set_option maxRecDepth 100000 in
theorem sameRows_yes (A B : Option Addr) (ls : List (List UInt8)) (m n c d : Nat) (w : World) (hm : ls.length = m) (hn : ls.length = n) (hz : ls.length ≤ 140737488351300) (ha : RdRows w A ls) (hb : RdRows w B ls) :
    Calls Try.prog 25 #[.slice A m c, .slice B n d] w fun e w' => e = .returned (.bool true) ∧ ∃ k, w' = w.drewN k := by
  subst hm
  subst hn
  go_enter Try.func25, Try.ntmps25
  go_wp2_with fail
  go_loopw [5] (fun i wr => ∃ k m : Nat, k ≤ ls.length ∧ i = .int .i64 k ∧ wr = w.drewN m) (fun i _ => ls.length - (intOf i).toNat)
  case atStart => exact ⟨0, 0, by omega, by simp, rfl⟩
  case round =>
    obtain ⟨k, m, hk, rfl, rfl⟩ := hrel
    by_cases h5 : k < ls.length
    · obtain ⟨b1, o1, B1, c1, rfl, hc1, hr1, _⟩ := ha.at_ h5
      obtain ⟨b2, o2, B2, c2, rfl, hc2, hr2, _⟩ := hb.at_ h5
      have hl : Hid (ls[k].length = ls[k].length) := rfl
      generalize ls[k] = l at *
      clear ha hb
      go_wp2
      go_quiet ((go_at_call 42; first | exact quiet_add_left' (sameBytes_n B1 B2 l _ _ _ _ _ rfl rfl hr1 hr2) | exact quiet_left' (sameBytes_n B1 B2 l _ _ _ _ _ rfl rfl hr1 hr2)))
      go_wp2
      go_roundw
      case rel => exact ⟨k + 1, _, by omega, by go_num, rfl⟩
      case measure => simp [intOf]; omega
    · go_wp2
      go_ret
      exact ⟨rfl, _, rfl⟩
end Go.Proofs.Ytppmdamcdhmcpaa
