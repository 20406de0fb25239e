/-
  For all bytes and all bits that together hold at most 1048576 values, what the program makes of the bits, and of the bytes, is the document's; what was handed in stays as it is, and what came out is shared with nothing: the law StreamBits returns true.
-/
import Derived.Test.YtclcgfngolfmlaaOpenU
import Derived.Test.YtclcgfngolfmlaaWStreamBits
namespace Go.Proofs.Ytclcgfngolfmlaa.streamBits
open Go.ChangeShapes Go.WideShapes Go.ChangeAt Go.RowKit
set_option linter.unusedVariables false

set_option maxRecDepth 100000 in
theorem lifted (os : Os) (started : os.Started) (H : Type) (enc : TypeId × Value → H) (F : Stop.Interp) :
    ReturnsInHanded {} Try.checked os 4 .any ((Rows.OpenSpec.upto Rows.streamBitsSpec).pre6 enc Try.prog Try.f4 Rows.streamBitsUptoRow.domain false) (((Rows.OpenSpec.upto Rows.streamBitsSpec).at F).post enc Try.prog Try.f4 false true false false) := by
  refine returnsInHanded_of_cond (C := Try.checked) (s := Rows.OpenSpec.upto Rows.streamBitsSpec) (k := Rows.uptoSmall) rfl own started (by kernel_rfl) Try.func4
    (OpenSpec.witness (enc := enc) (C := Try.checked) (s := Rows.OpenSpec.upto Rows.streamBitsSpec) (k := Rows.uptoSmall) rfl false ⟨#[], #[.slice none 0 0, .slice none 0 0], []⟩ 8 (by kernel_rfl) (by kernel_rfl) (by kernel_rfl) (x := ([.nil, .nil], [], [])) (by kernel_rfl) rfl (by kernel_rfl)) ?_
  intro W base args ds gs before hval0 hW hcnd hk0 _
  have hval : ∀ (j : Nat) t v, Try.f4.params[j]? = some t → args[j]? = some v → Value.okWide Try.prog W .any base t v := hval0
  have hW' := hW
  obtain ⟨p, q, hA0, hV, rfl, hfz, hnd⟩ := hW
  have hA : DataW.TrodAll enc Try.prog W 0 (fun _ => true) true Try.f4.params.toList args.toList ds p := hA0
  rw [Try.params4] at hA hval
  obtain ⟨v0, vs0, d0, ds0, p0, q0, hargs, rfl, rfl, h0, r0⟩ := trodAll_cons hA
  obtain ⟨v1, vs1, d1, ds1, p1, q1, rfl, rfl, rfl, h1, r1⟩ := trodAll_cons r0
  obtain ⟨rfl, rfl, rfl⟩ := trodAll_nil r1
  obtain rfl : args = #[v0, v1] := by cases args; simp_all
  obtain ⟨rfl, rfl⟩ := trodVars_none hV
  have k0 := h0
  have lt0 : ∀ x ∈ p0, x.block < W.heap.size := by obtain ⟨m, hm⟩ := k0; exact DataW.trod_lt m _ _ _ hm
  have s0 : Rows.uptoBulk d0 ≤ 1048576 := bulk_at hk0 (j := 0) rfl
  obtain ⟨A0, l0, c0, rfl, hR0, hC0, hN0⟩ := open_bytesU Try.underlying22 Try.underlying5 Try.cells1 (hval 0 22 v0 rfl rfl) h0 s0
  have k1 := h1
  have lt1 : ∀ x ∈ p1, x.block < W.heap.size := by obtain ⟨m, hm⟩ := k1; exact DataW.trod_lt m _ _ _ hm
  have s1 : Rows.uptoBulk d1 ≤ 1048576 := bulk_at hk0 (j := 1) rfl
  obtain ⟨A1, l1, c1, rfl, hR1, hC1, hN1⟩ := open_bytesU Try.underlying22 Try.underlying5 Try.cells1 (hval 1 22 v1 rfl rfl) h1 s1
  clear hA0 hval0
  refine (streamBits_walk A0 l0 c0 A1 l1 c1 W hR0 hC0 hN0 hR1 hC1 hN1).mono fun e W' ⟨he, bel⟩ => ?_
  subst he
  exact ⟨_, rfl, _, _, _, [], _, [], hW', trodAll_mk1 (shut_bool Try.underlying4 _), (trodAll_cons_mk (Below.trod laidOut (by kernel_rfl) (of_decide_eq_true (by kernel_rfl)) k0 bel lt0) (trodAll_cons_mk (Below.trod laidOut (by kernel_rfl) (of_decide_eq_true (by kernel_rfl)) k1 bel lt1) trodAll_mk0)), rfl, bel.frame _, fun h => by cases h⟩

theorem over : Rows.streamBitsUptoRow.holds Try.pinned (Rows.OpenSpec.upto Rows.streamBitsSpec) :=
  OpenClaim.holds_of_cond 4 Try.f4 rfl rfl rfl rfl rfl rfl rfl ⟨rfl, rfl, rfl, rfl, rfl⟩ rfl rfl rfl rfl rfl (by kernel_rfl) Try.func4 (by kernel_rfl)
    (of_decide_eq_true (by kernel_rfl)) (by unfold Func.isWrapper; first | (rw [if_pos (by decide +kernel)]; kernel_rfl) | (rw [if_neg (by decide +kernel)]; exact ⟨rfl, rfl⟩))
    (fun os started H enc _ F => lifted os started H enc F)

theorem proved : Rows.StreamBitsUptoSaid := over
#print axioms proved
end Go.Proofs.Ytclcgfngolfmlaa.streamBits
