/-
  For any two numbers the code of the one and the word of the other, whether it was mended and the errors are the document's: the law MemoryCodes returns true. math/bits's table is read as the program's text lays it (tied).
-/
import Derived.Test.YtidgdjagaifofaaDoorWMemoryCodes
import Derived.Test.YtidgdjagaifofaaDoorRows
import Derived.Test.YtidgdjagaifofaaDoorCards
import Derived.Test.YtidgdjagaifofaaDoorTie
import Derived.ProofKit
import Derived.OpenShut
import Derived.LaidLaws
import Derived.LaidHandle
import Derived.LaidMore
import Derived.Lay
import Derived.LaidOnce
import Derived.Handed
import Derived.SevenTiedAt
namespace Go.Proofs.YtidgdjagaifofaaDoor.memoryCodes
open Go.ChangeShapes Go.WideShapes Go.ChangeAt Go.RowKit
set_option linter.unusedVariables false

theorem own : ownKnob Tryd.prog.godebug = none := by kernel_rfl
theorem laidOut : laidOutB Tryd.prog = true := by kernel_rfl
/-- The listed table's cells. -/
theorem tab_of_laid {W : World} (h : laidMetH Tryd.prog Rows.memoryCodesRow.laid W) : TabOk W := by
  rw [MakeChecks.laidMetH_plain _ _ _ (by kernel_rfl)] at h
  obtain ⟨ps, ⟨g0, t0, cs0, f0, p0, q0, _, _, _, _, ⟨g, t, cs, fuel, p, q, hg, ht, hv, hd, _, _⟩, _⟩, _, _⟩ := h
  obtain rfl := Option.some.inj ((show Tryd.prog.globalNamed "math/bits.deBruijn64tab" = some 1 by kernel_rfl).symm.trans hg)
  obtain rfl := Option.some.inj ((show (Tryd.prog.globals[1]?).map (·.type) = some 40 by kernel_rfl).symm.trans ht)
  have c5 : Tryd.prog.cellsOf 5 = 1 := by kernel_rfl
  obtain ⟨xs, m, _, ex, hlen, hl, hel⟩ := DataW.trod_array Tryd.underlying40 hd
  have hlist : Lib.deBruijn64tab.map (fun (n : Nat) => (DataW.lit (.int .u8 (n : Int)) : DataW Unit)) = xs.map (·.1) := DataW.agg.inj (Prod.mk.inj ex).1
  intro j hj
  have hj64 : j < 64 := hj
  have hk := hel j hj64
  rw [c5, Nat.mul_one] at hk
  have hx : (xs.map (·.1))[j]? = some (DataW.lit (.int .u8 ((Lib.deBruijn64tab.getD j 0 : Nat) : Int))) := by
    rw [← hlist, List.getElem?_map, List.getElem?_eq_getElem hj]
    simp [List.getD, hj]
  rw [List.getElem?_map] at hx
  cases hxj : xs[j]? with
  | none => rw [hxj] at hx; cases hx
  | some x =>
    rw [hxj] at hx hk
    obtain ⟨n, hcs, hxn, _⟩ := DataW.trod_int Tryd.underlying5 hk
    subst hxn
    have hn : n = ((Lib.deBruijn64tab.getD j 0 : Nat) : Int) := by simpa using hx
    have hc := World.var?_cell hg hv j
    show W.cell? ⟨1, j, none⟩ = _
    rw [hc, ← hn]
    have h1 : ((cs.toList.drop j).take 1)[0]? = some (.int .u8 n) := by rw [hcs]; rfl
    rw [List.getElem?_take_of_lt (by omega), List.getElem?_drop] at h1
    simpa using h1

set_option maxRecDepth 100000 in
theorem lifted (os : Os) (started : os.Started) (H : Type) (enc : TypeId × Value → H) :
    ReturnsInHanded {} Tryd.checked os 3 .any (fun w args => (Rows.memoryCodesSpec.pre enc Tryd.prog Tryd.f3 Rows.memoryCodesRow.domain false w args ∧ laidMetH Tryd.prog Rows.memoryCodesRow.laid w) ∧ sizedMet enc Tryd.prog Tryd.f3 (OpenSpec.ofChange Rows.memoryCodesSpec) false w args)
      (Rows.memoryCodesSpec.post enc Tryd.prog Tryd.f3 false true false false) := by
  refine returnsInHanded_of_change_and (C := Tryd.checked) (X := fun w _ => laidMetH Tryd.prog Rows.memoryCodesRow.laid w) (fun _ _ _ hh h => h.of_heap hh) own started (by kernel_rfl) Tryd.func3
    (ChangeSpec.witness_at (enc := enc) (C := Tryd.checked) (os := os) (X := fun w _ => laidMetH Tryd.prog Rows.memoryCodesRow.laid w) false (World.laidAll Tryd.prog os Rows.memoryCodesRow.laid) #[.int .i64 0, .int .i64 0] 8 (World.laidAll_os _ _ _) (by kernel_rfl) (by kernel_rfl) (by kernel_rfl) (by kernel_rfl) (by kernel_rfl)
      (by rw [MakeChecks.laidMetH_plain _ _ _ (by kernel_rfl)]; exact laidMet_laidAll _ (by kernel_rfl) (by kernel_rfl))) ?_
  intro W base args ds gs before hval0 hW hcnd _ hL _
  have hval : ∀ (j : Nat) t v, Tryd.f3.params[j]? = some t → args[j]? = some v → Value.okWide Tryd.prog W .any base t v := hval0
  have hW' := hW
  obtain ⟨p, q, hA0, hV, rfl, hfz, hnd⟩ := hW
  have hA : DataW.TrodAll enc Tryd.prog W 0 (fun _ => true) true Tryd.f3.params.toList args.toList ds p := hA0
  rw [Tryd.params3] at hA hval
  obtain ⟨v0, vs0, d0, ds0, p0, q0, hargs, rfl, rfl, h0, r0⟩ := trodAll_cons hA
  obtain ⟨v1, vs1, d1, ds1, p1, q1, rfl, rfl, rfl, h1, r1⟩ := trodAll_cons r0
  obtain ⟨rfl, rfl, rfl⟩ := trodAll_nil r1
  obtain rfl : args = #[v0, v1] := by cases args; simp_all
  obtain ⟨rfl, rfl⟩ := trodVars_none hV
  obtain ⟨a0, rfl, rfl, rfl, w0⟩ := open_int Tryd.underlying3 (hval 0 3 v0 rfl rfl) h0
  obtain ⟨a1, rfl, rfl, rfl, w1⟩ := open_int Tryd.underlying3 (hval 1 3 v1 rfl rfl) h1
  clear hA0 hval0
  have hb := bounds_i64 w1
  refine (memoryCodes_walk a0 a1 W (by omega) (tab_of_laid hL)).mono fun e W' ⟨he, hw⟩ => ?_
  subst he
  subst hw
  exact ⟨_, rfl, _, _, _, [], _, [], hW', trodAll_mk1 (shut_bool Tryd.underlying4 _), trodAll_cons_mk (shut_int Tryd.underlying3 w0) (trodAll_cons_mk (shut_int Tryd.underlying3 w1) trodAll_mk0), rfl, World.keptBut_refl _ _, fun h => by cases h⟩

theorem over : Rows.memoryCodesRow.holds Tryd.pinned (OpenSpec.ofChange Rows.memoryCodesSpec) :=
  OpenClaim.holds_of_wide 3 Tryd.f3 rfl rfl rfl rfl rfl rfl rfl ⟨rfl, rfl, rfl, rfl, rfl⟩ rfl rfl rfl rfl rfl (by kernel_rfl) Tryd.func3 (by kernel_rfl)
    (of_decide_eq_true (by kernel_rfl)) (by unfold Func.isWrapper; first | (rw [if_pos (by decide +kernel)]; kernel_rfl) | (rw [if_neg (by decide +kernel)]; exact ⟨rfl, rfl⟩))
    (fun os started H enc _ => lifted os started H enc)

theorem proved : Rows.MemoryCodesCardSaid :=
  Claim7.holds_tied_plain_at .later [] [.data, .data] true (true, "fa8d5871ad80b634b3ec8d3bbf99068a40268b1d9fb0d1383e20febf241adf59") false
    over (fun _ h => by cases h) (by kernel_rfl) (fun _ h => by cases h) memoryCodes_row_tie rfl ⟨rfl, rfl⟩ (by kernel_rfl) rfl
    (fun f fn hf hfn => by
      obtain rfl : f = 3 := Option.some.inj ((show Tryd.prog.funcNamed "farhail/farhaillaw.MemoryCodes" = some 3 by kernel_rfl).symm.trans hf) |>.symm
      obtain rfl : fn = Tryd.f3 := (Option.some.inj (Tryd.func3.symm.trans hfn)).symm
      exact ⟨by kernel_rfl, fun j t ht => by
        rw [Tryd.params3] at ht
        have h3 : t = 3 := by
          rcases j with _ | _ | j
          · simpa using ht.symm
          · simpa using ht.symm
          · simp at ht
        subst h3
        exact (show Tryd.prog.wantsStandIn 3 = false by kernel_rfl)⟩)
    (by kernel_rfl)
#print axioms proved
end Go.Proofs.YtidgdjagaifofaaDoor.memoryCodes
