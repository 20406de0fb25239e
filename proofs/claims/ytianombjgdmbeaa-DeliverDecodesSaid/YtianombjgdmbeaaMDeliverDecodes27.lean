/-
  What a note that may be tells of its kind's parts; the bytes of a note, plainly. What a note does to a giver, case by case; what a call hands back: a giver and notes, in memory of its own.
-/
import Derived.Test.YtianombjgdmbeaaMDeliverDecodes26
import Derived.Test.YtianombjgdmbeaaMDeliverDecodes6
import Derived.Test.YtianombjgdmbeaaMDeliverDecodes17
namespace Go.Proofs.Ytianombjgdmbeaa
set_option linter.unusedSimpArgs false
set_option linter.unusedVariables false
open Go.RowKit

theorem note_kind' {n : Nt} (h : noteOk n = true) : kindOk n = true := by
  cases e : kindOk n
  · rw [note_kind e] at h
    cases h
  · rfl
theorem note_rng {n : Nt} (h : noteOk n = true) : n.kind = 1 ∨ n.kind = 2 ∨ n.kind = 3 ∨ n.kind = 4 ∨ n.kind = 5 ∨ n.kind = 6 := by
  unfold noteOk rngOk at h
  simp only [Bool.and_eq_true, decide_eq_true_eq] at h
  omega
def gapB (g : Int × Int) : List UInt8 := be4 g.1 ++ be4 g.2
/-- The bytes of a note. -/
def noteB (n : Nt) : List UInt8 :=
  hdB n.kind n.id ++ (if n.kind = 1 then be4 n.size ++ sbs n.name else if n.kind = 2 then be4 n.at_ ++ n.data else if n.kind = 3 then be4 n.size ++ be4 n.sum else if n.kind = 4 then n.gaps.flatMap gapB else if n.kind = 5 then [bOf n.code] else [bOf n.of_])
theorem gapB_len (l : List (Int × Int)) : (l.flatMap gapB).length = 8 * l.length := by
  induction l with
  | nil => rfl
  | cons x t ih =>
    rw [List.flatMap_cons, List.length_append, ih, List.length_cons]
    show 8 + _ = _
    omega
end Go.Proofs.Ytianombjgdmbeaa
namespace Go.Proofs.Ytianombjgdmbeaa
set_option linter.unusedSimpArgs false
set_option linter.unusedVariables false
open Go.RowKit

theorem reply_0 {x : Gv} {n : Nt} (h : gvOk x = false) : replyR x n = (gvZero, [], 11) := by unfold replyR; rw [if_pos h]
theorem reply_8 {x : Gv} {n : Nt} (h : gvOk x = true) (h1 : noteOk n = false) : replyR x n = (x, [], 8) := by unfold replyR; rw [if_neg (by rw [h]; decide), if_pos h1]
theorem reply_10 {x : Gv} {n : Nt} (h : gvOk x = true) (h1 : noteOk n = true) (h2 : n.id ≠ x.id) : replyR x n = (x, [], 10) := by unfold replyR; rw [if_neg (by rw [h]; decide), if_neg (by rw [h1]; decide), if_pos h2]
theorem reply_6 {x : Gv} {n : Nt} (h : gvOk x = true) (h1 : noteOk n = true) (h2 : n.id = x.id) (h3 : n.kind < 4) : replyR x n = (x, [], 6) := by unfold replyR; rw [if_neg (by rw [h]; decide), if_neg (by rw [h1]; decide), if_neg (by simpa using h2), if_pos h3]
theorem reply_f {x : Gv} {n : Nt} (h : gvOk x = true) (h1 : noteOk n = true) (h2 : n.id = x.id) (h3 : ¬ n.kind < 4) (h4 : x.stage = 4) : replyR x n = (x, [], 0) := by unfold replyR; rw [if_neg (by rw [h]; decide), if_neg (by rw [h1]; decide), if_neg (by simpa using h2), if_neg h3, if_pos h4]
theorem reply_d {x : Gv} {n : Nt} (h : gvOk x = true) (h1 : noteOk n = true) (h2 : n.id = x.id) (h3 : ¬ n.kind < 4) (h4 : ¬ x.stage = 4) (h5 : n.kind = 5) : replyR x n = (endG x n.code, [seenDone x.id], 0) := by unfold replyR; rw [if_neg (by rw [h]; decide), if_neg (by rw [h1]; decide), if_neg (by simpa using h2), if_neg h3, if_neg h4, if_pos h5]
theorem reply_o {x : Gv} {n : Nt} (h : gvOk x = true) (h1 : noteOk n = true) (h2 : n.id = x.id) (h3 : ¬ n.kind < 4) (h4 : ¬ x.stage = 4) (h5 : ¬ n.kind = 5) (h6 : x.stage = 3) : replyR x n = (x, [], 0) := by unfold replyR; rw [if_neg (by rw [h]; decide), if_neg (by rw [h1]; decide), if_neg (by simpa using h2), if_neg h3, if_neg h4, if_neg h5, if_pos h6]
theorem reply_h {x : Gv} {n : Nt} (h : gvOk x = true) (h1 : noteOk n = true) (h2 : n.id = x.id) (h3 : ¬ n.kind < 4) (h4 : ¬ x.stage = 4) (h5 : ¬ n.kind = 5) (h6 : ¬ x.stage = 3) : replyR x n = (heardG x n, [], 0) := by unfold replyR; rw [if_neg (by rw [h]; decide), if_neg (by rw [h1]; decide), if_neg (by simpa using h2), if_neg h3, if_neg h4, if_neg h5, if_neg h6]

theorem results_cell_two {P : Program} {fn : Func} {p q r : Tmp} {ty : TypeId} (h : fn.results = #[.cell p ty, .tmp q, .tmp r]) (tmps : Array Value) (w : World) (g : Nat) (t : TypeId) (cs : Array Value) (fr : Nat × Nat) (d : TypeDesc)
    {v u : Value} (hp : tmps.getD p undef = .pointer (some ⟨g, 0, none⟩)) (hq : tmps.getD q undef = v) (hr : tmps.getD r undef = u) (hg : w.heap[g]? = some (.cells cs t fr))
    (hu : P.underlying ty = some d) (hd : (match d with | .struct _ | .array _ _ => true | _ => false) = true) (hi : (P.info? ty).map (·.size) = some cs.size) :
    (results fn tmps).run P w = .ok (.tuple #[.agg cs, v, u]) w := by
  have hq' : tmps[q]?.getD undef = v := by simpa using hq
  have hr' : tmps[r]?.getD undef = u := by simpa using hr
  have hp' : tmps[p]?.getD undef = .pointer (some ⟨g, 0, none⟩) := by simpa using hp
  simp [results, h, hp', hq', hr', asAddr, run_loadVar_row w g t ty cs fr d hg hu hd hi]
theorem note_of {n : Nt} (h : noteOk n = true) (hk : n.kind ≠ 6) : n.of_ = 0 := by
  unfold noteOk bareOk at h
  simp only [Bool.and_eq_true, Bool.or_eq_true, decide_eq_true_eq] at h
  rcases h.1.2.1.2 with h1 | h1
  · exact absurd h1 hk
  · exact h1
/-- Notes share no memory with a file and its gaps. -/
def Far (l : List NtR) (F A : Option Addr) : Prop := ∀ (i : Nat) (x : NtR), l[i]? = some x → (∀ q, blk F = some q → blk x.D ≠ some q) ∧ (∀ q, blk A = some q → blk x.G ≠ some q)
theorem Far.nil (F A : Option Addr) : Far [] F A := fun i x h => by simp at h
/-- A giver and notes in memory from base on. -/
structure GvMem (W : World) (base : Nat) (y : Gv) (ns : List Nt) (F : Option Addr) (fn fc : Nat) (A : Option Addr) (an ac : Nat) (O : Option Addr) (on oc : Nat) (l : List NtR) : Prop where
  fl : y.file.length = fn
  al : y.again.length = an
  nl : ns.length = on
  ln : l.map NtR.n = ns
  file : Own W base 5 1 F fn fc (bvs y.file)
  again : Own W base 66 2 A an ac (gps y.again)
  out : Own W base 27 10 O on oc (nts l)
  parts : OwnParts W base l
  far : Far l F A
theorem GvMem.map {W V : World} {base base' : Nat} {y : Gv} {ns : List Nt} {F A O : Option Addr} {fn fc an ac on oc : Nat} {l : List NtR} (h : GvMem W base y ns F fn fc A an ac O on oc l) (k : ∀ (e : TypeId) (s : Nat) (A : Option Addr) (n c : Nat) (xs : List Value), Own W base e s A n c xs → Own V base' e s A n c xs) : GvMem V base' y ns F fn fc A an ac O on oc l :=
  ⟨h.fl, h.al, h.nl, h.ln, k _ _ _ _ _ _ h.file, k _ _ _ _ _ _ h.again, k _ _ _ _ _ _ h.out, h.parts.map fun _ _ _ _ _ _ h _ => k _ _ _ _ _ _ h, h.far⟩
theorem GvMem.step {W V : World} {base : Nat} {y : Gv} {ns : List Nt} {F A O : Option Addr} {fn fc an ac on oc : Nat} {l : List NtR} (h : GvMem W base y ns F fn fc A an ac O on oc l) (hb : Below W.heap.size W V) : GvMem V base y ns F fn fc A an ac O on oc l := h.map fun _ _ _ _ _ _ h => h.below hb
theorem GvMem.none {W : World} {base : Nat} {y : Gv} {F A : Option Addr} {fn fc an ac : Nat} (h1 : y.file.length = fn) (h2 : y.again.length = an) (h3 : Own W base 5 1 F fn fc (bvs y.file)) (h4 : Own W base 66 2 A an ac (gps y.again)) : GvMem W base y [] F fn fc A an ac none 0 0 [] :=
  ⟨h1, h2, rfl, rfl, h3, h4, Own.none_ _ _ _ _, OwnParts.nil _ _, Far.nil _ _⟩
def GvRes (w w' : World) (y : Gv) (ns : List Nt) (k : Int) (e : Ending) : Prop :=
  ∃ F fn fc A an ac O on oc l, e = .returned (.tuple #[gvv y F fn fc A an ac, .slice O on oc, .int .i64 k]) ∧ GvMem w' w.heap.size y ns F fn fc A an ac O on oc l ∧ Below w.heap.size w w'
/-- Behind the store of the result's row. -/
theorem gv_out {w W : World} {base r : Nat} {y : Gv} {ns : List Nt} {F A O : Option Addr} {fn fc an ac on oc : Nat} {l : List NtR} {C : Array Value} {k : Int} (hB : Below w.heap.size w W) (hr : w.heap.size ≤ r) (hrb : r < base) (hM : GvMem W base y ns F fn fc A an ac O on oc l) :
    GvRes w (W.setRow r C) y ns k (.returned (.tuple #[gvv y F fn fc A an ac, .slice O on oc, .int .i64 k])) :=
  ⟨F, fn, fc, A, an, ac, O, on, oc, l, rfl, hM.map fun e s A n c xs h => (h.keep (w' := W.setRow r C) fun a ha _ => setRow_other _ _ a.block _ (by have h3 := (h.lt a.block (by rw [ha]; rfl)).1; omega)).mono (by omega), below_row hB hr _⟩
theorem gv_fin {w W : World} {base : Nat} {y : Gv} {ns : List Nt} {F A O : Option Addr} {fn fc an ac on oc : Nat} {l : List NtR} {k : Int} (hB : Below w.heap.size w W) (hb : w.heap.size ≤ base) (hM : GvMem W base y ns F fn fc A an ac O on oc l) :
    GvRes w W y ns k (.returned (.tuple #[gvv y F fn fc A an ac, .slice O on oc, .int .i64 k])) :=
  ⟨F, fn, fc, A, an, ac, O, on, oc, l, rfl, hM.map fun e s A n c xs h => h.mono hb, hB⟩
theorem Own.rowFar {w : World} {base : Nat} {e : TypeId} {s n c r : Nat} {A : Option Addr} {xs : List Value} (h : Own w base e s A n c xs) (hr : r < base) (C : Array Value) : Own (w.setRow r C) base e s A n c xs :=
  h.keep (w' := w.setRow r C) fun a ha _ => setRow_other _ _ a.block _ (by have h3 := (h.lt a.block (by rw [ha]; rfl)).1; omega)
theorem GvRes.of {x : Gv} {n : Nt} {y y' : Gv} {ns ns' : List Nt} {k k' : Int} {w w' : World} {e : Ending} (h : replyR x n = (y, ns, k)) (h' : replyR x n = (y', ns', k')) (g : GvRes w w' y' ns' k' e) : GvRes w w' y ns k e := by
  rw [h] at h'
  injection h' with e1 h'
  injection h' with e2 e3
  rw [e1, e2, e3]
  exact g
/-- The note that says that a Done has been seen, in a block of its own. -/
theorem gv_seen {W : World} {base b : Nat} {y : Gv} {F A : Option Addr} {fn fc an ac : Nat} {id : Int} (h1 : y.file.length = fn) (h2 : y.again.length = an) (h3 : Own W base 5 1 F fn fc (bvs y.file)) (h4 : Own W base 66 2 A an ac (gps y.again))
    (hO : Own W base 27 10 (some ⟨b, 0, none⟩) 1 1 [.int .i64 6, .int .i64 id, .string ⟨#[]⟩, .int .i64 0, .int .i64 0, .int .i64 0, .slice none 0 0, .slice none 0 0, .int .i64 5, .int .i64 0]) : GvMem W base y [seenDone id] F fn fc A an ac (some ⟨b, 0, none⟩) 1 1 [⟨seenDone id, none, 0, none, 0⟩] :=
  ⟨h1, h2, rfl, rfl, h3, h4, hO, ⟨fun i x hx => by
    rcases i with _ | i
    · simp at hx
      subst hx
      exact ⟨Own.none_ _ _ _ _, Own.none_ _ _ _ _⟩
    · simp at hx, fun i j x y hij hx hy => by
    rcases j with _ | j
    · omega
    · simp at hy⟩, fun i x hx => by
    rcases i with _ | i
    · simp at hx
      subst hx
      exact ⟨fun q _ h => by simp [blk] at h, fun q _ h => by simp [blk] at h⟩
    · simp at hx⟩
end Go.Proofs.Ytianombjgdmbeaa
