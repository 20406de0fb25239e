/-
  What a note does to a giver, case by case; what a call hands back: a giver and notes, in memory of its own. A taker at work: its cells; a note more goes out ((*taker).say).
-/
import Derived.Test.YtianombjgdmbeaaMDeliverTakes18
import Derived.Test.YtianombjgdmbeaaMDeliverTakes28
import Derived.Test.YtianombjgdmbeaaMDeliverTakes9
import Derived.Test.YtianombjgdmbeaaMDeliverTakes12
import Derived.RegionTactic
import Derived.Deep.DeepCutAuto
namespace Go.Proofs.Ytianombjgdmbeaa
set_option linter.unusedSimpArgs false
set_option linter.unusedVariables false
open Go.RowKit

theorem reply_0 {x : Gv} {n : Nt} (h : gvOk x = false) : replyR x n = (gvZero, [], 11) := by unfold replyR; rw [if_pos h]
theorem reply_8 {x : Gv} {n : Nt} (h : gvOk x = true) (h1 : noteOk n = false) : replyR x n = (x, [], 8) := by unfold replyR; rw [if_neg (by rw [h]; decide), if_pos h1]
theorem reply_10 {x : Gv} {n : Nt} (h : gvOk x = true) (h1 : noteOk n = true) (h2 : n.id ≠ x.id) : replyR x n = (x, [], 10) := by unfold replyR; rw [if_neg (by rw [h]; decide), if_neg (by rw [h1]; decide), if_pos h2]
theorem reply_6 {x : Gv} {n : Nt} (h : gvOk x = true) (h1 : noteOk n = true) (h2 : n.id = x.id) (h3 : n.kind < 4) : replyR x n = (x, [], 6) := by unfold replyR; rw [if_neg (by rw [h]; decide), if_neg (by rw [h1]; decide), if_neg (by simpa using h2), if_pos h3]
theorem reply_f {x : Gv} {n : Nt} (h : gvOk x = true) (h1 : noteOk n = true) (h2 : n.id = x.id) (h3 : ¬ n.kind < 4) (h4 : x.stage = 4) : replyR x n = (x, [], 0) := by unfold replyR; rw [if_neg (by rw [h]; decide), if_neg (by rw [h1]; decide), if_neg (by simpa using h2), if_neg h3, if_pos h4]
theorem reply_d {x : Gv} {n : Nt} (h : gvOk x = true) (h1 : noteOk n = true) (h2 : n.id = x.id) (h3 : ¬ n.kind < 4) (h4 : ¬ x.stage = 4) (h5 : n.kind = 5) : replyR x n = (endG x n.code, [seenDone x.id], 0) := by unfold replyR; rw [if_neg (by rw [h]; decide), if_neg (by rw [h1]; decide), if_neg (by simpa using h2), if_neg h3, if_neg h4, if_pos h5]
theorem reply_o {x : Gv} {n : Nt} (h : gvOk x = true) (h1 : noteOk n = true) (h2 : n.id = x.id) (h3 : ¬ n.kind < 4) (h4 : ¬ x.stage = 4) (h5 : ¬ n.kind = 5) (h6 : x.stage = 3) : replyR x n = (x, [], 0) := by unfold replyR; rw [if_neg (by rw [h]; decide), if_neg (by rw [h1]; decide), if_neg (by simpa using h2), if_neg h3, if_neg h4, if_neg h5, if_pos h6]
theorem reply_h {x : Gv} {n : Nt} (h : gvOk x = true) (h1 : noteOk n = true) (h2 : n.id = x.id) (h3 : ¬ n.kind < 4) (h4 : ¬ x.stage = 4) (h5 : ¬ n.kind = 5) (h6 : ¬ x.stage = 3) : replyR x n = (heardG x n, [], 0) := by unfold replyR; rw [if_neg (by rw [h]; decide), if_neg (by rw [h1]; decide), if_neg (by simpa using h2), if_neg h3, if_neg h4, if_neg h5, if_neg h6]

theorem results_cell_two {P : Program} {fn : Func} {p q r : Tmp} {ty : TypeId} (h : fn.results = #[.cell p ty, .tmp q, .tmp r]) (tmps : Array Value) (w : World) (g : Nat) (t : TypeId) (cs : Array Value) (fr : Nat × Nat) (d : TypeDesc)
    {v u : Value} (hp : tmps.getD p undef = .pointer (some ⟨g, 0, none⟩)) (hq : tmps.getD q undef = v) (hr : tmps.getD r undef = u) (hg : w.heap[g]? = some (.cells cs t fr))
    (hu : P.underlying ty = some d) (hd : (match d with | .struct _ | .array _ _ => true | _ => false) = true) (hi : (P.info? ty).map (·.size) = some cs.size) :
    (results fn tmps).run P w = .ok (.tuple #[.agg cs, v, u]) w := by
  have hq' : tmps[q]?.getD undef = v := by simpa using hq
  have hr' : tmps[r]?.getD undef = u := by simpa using hr
  have hp' : tmps[p]?.getD undef = .pointer (some ⟨g, 0, none⟩) := by simpa using hp
  simp [results, h, hp', hq', hr', asAddr, run_loadVar_row w g t ty cs fr d hg hu hd hi]
theorem note_of {n : Nt} (h : noteOk n = true) (hk : n.kind ≠ 6) : n.of_ = 0 := by
  unfold noteOk bareOk at h
  simp only [Bool.and_eq_true, Bool.or_eq_true, decide_eq_true_eq] at h
  rcases h.1.2.1.2 with h1 | h1
  · exact absurd h1 hk
  · exact h1
/-- Notes share no memory with a file and its gaps. -/
def Far (l : List NtR) (F A : Option Addr) : Prop := ∀ (i : Nat) (x : NtR), l[i]? = some x → (∀ q, blk F = some q → blk x.D ≠ some q) ∧ (∀ q, blk A = some q → blk x.G ≠ some q)
theorem Far.nil (F A : Option Addr) : Far [] F A := fun i x h => by simp at h
/-- A giver and notes in memory from base on. -/
structure GvMem (W : World) (base : Nat) (y : Gv) (ns : List Nt) (F : Option Addr) (fn fc : Nat) (A : Option Addr) (an ac : Nat) (O : Option Addr) (on oc : Nat) (l : List NtR) : Prop where
  fl : y.file.length = fn
  al : y.again.length = an
  nl : ns.length = on
  ln : l.map NtR.n = ns
  file : Own W base 5 1 F fn fc (bvs y.file)
  again : Own W base 66 2 A an ac (gps y.again)
  out : Own W base 27 10 O on oc (nts l)
  parts : OwnParts W base l
  far : Far l F A
theorem GvMem.map {W V : World} {base base' : Nat} {y : Gv} {ns : List Nt} {F A O : Option Addr} {fn fc an ac on oc : Nat} {l : List NtR} (h : GvMem W base y ns F fn fc A an ac O on oc l) (k : ∀ (e : TypeId) (s : Nat) (A : Option Addr) (n c : Nat) (xs : List Value), Own W base e s A n c xs → Own V base' e s A n c xs) : GvMem V base' y ns F fn fc A an ac O on oc l :=
  ⟨h.fl, h.al, h.nl, h.ln, k _ _ _ _ _ _ h.file, k _ _ _ _ _ _ h.again, k _ _ _ _ _ _ h.out, h.parts.map fun _ _ _ _ _ _ h _ => k _ _ _ _ _ _ h, h.far⟩
theorem GvMem.step {W V : World} {base : Nat} {y : Gv} {ns : List Nt} {F A O : Option Addr} {fn fc an ac on oc : Nat} {l : List NtR} (h : GvMem W base y ns F fn fc A an ac O on oc l) (hb : Below W.heap.size W V) : GvMem V base y ns F fn fc A an ac O on oc l := h.map fun _ _ _ _ _ _ h => h.below hb
theorem GvMem.none {W : World} {base : Nat} {y : Gv} {F A : Option Addr} {fn fc an ac : Nat} (h1 : y.file.length = fn) (h2 : y.again.length = an) (h3 : Own W base 5 1 F fn fc (bvs y.file)) (h4 : Own W base 66 2 A an ac (gps y.again)) : GvMem W base y [] F fn fc A an ac none 0 0 [] :=
  ⟨h1, h2, rfl, rfl, h3, h4, Own.none_ _ _ _ _, OwnParts.nil _ _, Far.nil _ _⟩
def GvRes (w w' : World) (y : Gv) (ns : List Nt) (k : Int) (e : Ending) : Prop :=
  ∃ F fn fc A an ac O on oc l, e = .returned (.tuple #[gvv y F fn fc A an ac, .slice O on oc, .int .i64 k]) ∧ GvMem w' w.heap.size y ns F fn fc A an ac O on oc l ∧ Below w.heap.size w w'
/-- Behind the store of the result's row. -/
theorem gv_out {w W : World} {base r : Nat} {y : Gv} {ns : List Nt} {F A O : Option Addr} {fn fc an ac on oc : Nat} {l : List NtR} {C : Array Value} {k : Int} (hB : Below w.heap.size w W) (hr : w.heap.size ≤ r) (hrb : r < base) (hM : GvMem W base y ns F fn fc A an ac O on oc l) :
    GvRes w (W.setRow r C) y ns k (.returned (.tuple #[gvv y F fn fc A an ac, .slice O on oc, .int .i64 k])) :=
  ⟨F, fn, fc, A, an, ac, O, on, oc, l, rfl, hM.map fun e s A n c xs h => (h.keep (w' := W.setRow r C) fun a ha _ => setRow_other _ _ a.block _ (by have h3 := (h.lt a.block (by rw [ha]; rfl)).1; omega)).mono (by omega), below_row hB hr _⟩
theorem gv_fin {w W : World} {base : Nat} {y : Gv} {ns : List Nt} {F A O : Option Addr} {fn fc an ac on oc : Nat} {l : List NtR} {k : Int} (hB : Below w.heap.size w W) (hb : w.heap.size ≤ base) (hM : GvMem W base y ns F fn fc A an ac O on oc l) :
    GvRes w W y ns k (.returned (.tuple #[gvv y F fn fc A an ac, .slice O on oc, .int .i64 k])) :=
  ⟨F, fn, fc, A, an, ac, O, on, oc, l, rfl, hM.map fun e s A n c xs h => h.mono hb, hB⟩
theorem Own.rowFar {w : World} {base : Nat} {e : TypeId} {s n c r : Nat} {A : Option Addr} {xs : List Value} (h : Own w base e s A n c xs) (hr : r < base) (C : Array Value) : Own (w.setRow r C) base e s A n c xs :=
  h.keep (w' := w.setRow r C) fun a ha _ => setRow_other _ _ a.block _ (by have h3 := (h.lt a.block (by rw [ha]; rfl)).1; omega)
theorem GvRes.of {x : Gv} {n : Nt} {y y' : Gv} {ns ns' : List Nt} {k k' : Int} {w w' : World} {e : Ending} (h : replyR x n = (y, ns, k)) (h' : replyR x n = (y', ns', k')) (g : GvRes w w' y' ns' k' e) : GvRes w w' y ns k e := by
  rw [h] at h'
  injection h' with e1 h'
  injection h' with e2 e3
  rw [e1, e2, e3]
  exact g
/-- The note that says that a Done has been seen, in a block of its own. -/
theorem gv_seen {W : World} {base b : Nat} {y : Gv} {F A : Option Addr} {fn fc an ac : Nat} {id : Int} (h1 : y.file.length = fn) (h2 : y.again.length = an) (h3 : Own W base 5 1 F fn fc (bvs y.file)) (h4 : Own W base 66 2 A an ac (gps y.again))
    (hO : Own W base 27 10 (some ⟨b, 0, none⟩) 1 1 [.int .i64 6, .int .i64 id, .string ⟨#[]⟩, .int .i64 0, .int .i64 0, .int .i64 0, .slice none 0 0, .slice none 0 0, .int .i64 5, .int .i64 0]) : GvMem W base y [seenDone id] F fn fc A an ac (some ⟨b, 0, none⟩) 1 1 [⟨seenDone id, none, 0, none, 0⟩] :=
  ⟨h1, h2, rfl, rfl, h3, h4, hO, ⟨fun i x hx => by
    rcases i with _ | i
    · simp at hx
      subst hx
      exact ⟨Own.none_ _ _ _ _, Own.none_ _ _ _ _⟩
    · simp at hx, fun i j x y hij hx hy => by
    rcases j with _ | j
    · omega
    · simp at hy⟩, fun i x hx => by
    rcases i with _ | i
    · simp at hx
      subst hx
      exact ⟨fun q _ h => by simp [blk] at h, fun q _ h => by simp [blk] at h⟩
    · simp at hx⟩
end Go.Proofs.Ytianombjgdmbeaa
namespace Go.Proofs.Ytianombjgdmbeaa
set_option linter.unusedSimpArgs false
set_option linter.unusedVariables false
open Go.RowKit

/-- A taker's cells, and what goes. -/
def tw (x : Tk) (H : Option Addr) (hn hc : Nat) (F : Option Addr) (fn fc : Nat) (O : Option Addr) (on oc : Nat) : Array Value := #[.int .i64 x.id, .bool x.known, .string x.name, .int .i64 x.size, .bool x.ended, .int .i64 x.last, .int .i64 x.sum, .slice H hn hc, .slice F fn fc, .int .i64 x.stage, .int .i64 x.timer, .int .i64 x.patience, .int .i64 x.tries, .int .i64 x.limit, .slice O on oc]
def withIdT (m : NtR) (id : Int) : NtR := ⟨{ m.n with id := id }, m.D, m.dc, m.G, m.gc⟩
/-- The same memory as a giver's: a file, and gaps. -/
def pg (x : Tk) : Gv := ⟨0, ⟨#[]⟩, x.file, 0, 0, 0, false, 0, x.have_, 0, 0, 0, 0⟩
set_option maxHeartbeats 3200000 in
set_option maxRecDepth 100000 in
theorem tsay_any (x : Tk) (H : Option Addr) (hn hc : Nat) (F : Option Addr) (fn fc : Nat) (O : Option Addr) (on oc : Nat) (l : List NtR) (m : NtR) (base q : Nat) (w : World) (hq : Blk w q 86 (tw x H hn hc F fn fc O on oc)) (hO : Own w base 27 10 O on oc (nts l)) (hon : on ≤ 100000) (hbase : base ≤ w.heap.size) :
    Calls Try.prog 97 #[.pointer (some ⟨q, 0, none⟩), ntv m.n m.D m.n.data.length m.dc m.G m.n.gaps.length m.gc] w fun e w' => ∃ O' oc', e = .returned (.tuple #[]) ∧ Blk w' q 86 (tw x H hn hc F fn fc O' (on + 1) oc') ∧ Own w' base 27 10 O' (on + 1) oc' (nts (l ++ [withIdT m x.id])) ∧ Turned w w' (fun i => i = q ∨ blk O = some i) := by
  obtain ⟨j0, hj0, hy0, hy1, hy2⟩ := info_parts noteinfo
  obtain ⟨id, known, name, size, ended, last, sum, have_, file, stage, timer, patience, tries, limit⟩ := x
  obtain ⟨⟨nk, nid, nn, ns_, nsum, nat_, nd, ng, nof, ncode⟩, D, dc, G, gc⟩ := m
  unfold tw at hq ⊢
  unfold ntv
  dsimp only at hq ⊢
  have hqz := hq.lt
  have hq1 := hq.alloc (.cells #[.int .i64 nk, .int .i64 nid, .string nn, .int .i64 ns_, .int .i64 nsum, .int .i64 nat_, .slice D nd.length dc, .slice G ng.length gc, .int .i64 nof, .int .i64 ncode] 27)
  have g0 := hq1.cell' (i := 0) rfl
  go_enter Try.func97, Try.ntmps97
  go_upto_region 2 with fail
  clear g0 hq1
  have hq1 := hq.alloc (.cells #[.int .i64 nk, .int .i64 id, .string nn, .int .i64 ns_, .int .i64 nsum, .int .i64 nat_, .slice D nd.length dc, .slice G ng.length gc, .int .i64 nof, .int .i64 ncode] 27)
  have bn := Blk.new w 27 #[.int .i64 nk, .int .i64 id, .string nn, .int .i64 ns_, .int .i64 nsum, .int .i64 nat_, .slice D nd.length dc, .slice G ng.length gc, .int .i64 nof, .int .i64 ncode]
  have hO1 := hO.alloc (.cells #[.int .i64 nk, .int .i64 id, .string nn, .int .i64 ns_, .int .i64 nsum, .int .i64 nat_, .slice D nd.length dc, .slice G ng.length gc, .int .i64 nof, .int .i64 ncode] 27)
  have hT1 : Turned w (w.alloc (.cells #[.int .i64 nk, .int .i64 id, .string nn, .int .i64 ns_, .int .i64 nsum, .int .i64 nat_, .slice D nd.length dc, .slice G ng.length gc, .int .i64 nof, .int .i64 ncode] 27)) (fun i => i = q ∨ blk O = some i) := (Turned.refl w _).step ((Below.refl _ _).alloc (Nat.le_refl _) _)
  have hz1 : w.heap.size < (w.alloc (.cells #[.int .i64 nk, .int .i64 id, .string nn, .int .i64 ns_, .int .i64 nsum, .int .i64 nat_, .slice D nd.length dc, .slice G ng.length gc, .int .i64 nof, .int .i64 ncode] 27)).heap.size := by simp
  refine heldRegion (fun v => Blk v q 86 #[.int .i64 id, .bool known, .string name, .int .i64 size, .bool ended, .int .i64 last, .int .i64 sum, .slice H hn hc, .slice F fn fc, .int .i64 stage, .int .i64 timer, .int .i64 patience, .int .i64 tries, .int .i64 limit, .slice O on oc] ∧ Blk v w.heap.size 27 #[.int .i64 nk, .int .i64 id, .string nn, .int .i64 ns_, .int .i64 nsum, .int .i64 nat_, .slice D nd.length dc, .slice G ng.length gc, .int .i64 nof, .int .i64 ncode]) 8 (by kernel_rfl) (by kernel_rfl) ⟨hq1.drew, bn.drew⟩ (fun hSS => ?_)
  replace hq1 := hq1.drew
  replace bn := bn.drew
  replace hO1 := hO1.drew
  replace hT1 := hT1.drewN 1
  replace hz1 : w.heap.size < (w.alloc (.cells #[.int .i64 nk, .int .i64 id, .string nn, .int .i64 ns_, .int .i64 nsum, .int .i64 nat_, .slice D nd.length dc, .slice G ng.length gc, .int .i64 nof, .int .i64 ncode] 27)).drew.heap.size := hz1
  have hT2 : Turned w (w.alloc (.cells #[.int .i64 nk, .int .i64 id, .string nn, .int .i64 ns_, .int .i64 nsum, .int .i64 nat_, .slice D nd.length dc, .slice G ng.length gc, .int .i64 nof, .int .i64 ncode] 27)).drew (fun i => i = q ∨ blk O = some i) := hT1
  clear hT1 hSS
  generalize (w.alloc (.cells #[.int .i64 nk, .int .i64 id, .string nn, .int .i64 ns_, .int .i64 nsum, .int .i64 nat_, .slice D nd.length dc, .slice G ng.length gc, .int .i64 nof, .int .i64 ncode] 27)).drew = V at *
  refine walk_take 0 (v := ?va0) rfl (by kernel_rfl) (by kernel_rfl) (by kernel_rfl) (fun _ _ _ h => h) (⟨hq1, bn⟩) (Or.inl ⟨by rfl, ?ya0⟩) ?ra0
  case ya0 => intro w hSw; obtain ⟨hwq, hwn⟩ := _root_.id hSw; have e14 := hwq.cell' (i := 14) rfl; have e0 := hwn.cell' (i := 0) rfl; have e1 := hwn.cell' (i := 1) rfl; have e2 := hwn.cell' (i := 2) rfl; have e3 := hwn.cell' (i := 3) rfl; have e4 := hwn.cell' (i := 4) rfl; have e5 := hwn.cell' (i := 5) rfl; have e6 := hwn.cell' (i := 6) rfl; have e7 := hwn.cell' (i := 7) rfl; have e8 := hwn.cell' (i := 8) rfl; have e9 := hwn.cell' (i := 9) rfl; have hSx := hSw; (try dsimp only at hSw); go_simp; try rfl
  case' ra0 => try simp only [List.getElem_toArray, List.getElem_cons_succ, List.getElem_cons_zero, Act.put, List.setIfInBounds_toArray, List.set_cons_zero, List.set_cons_succ]
  refine walk_take 1 (v := ?va1) rfl (by kernel_rfl) (by kernel_rfl) (by kernel_rfl) (fun _ _ _ h => h) (⟨hq1, bn⟩) (Or.inl ⟨by rfl, ?ya1⟩) ?ra1
  case ya1 => intro w hSw; obtain ⟨hwq, hwn⟩ := _root_.id hSw; have e14 := hwq.cell' (i := 14) rfl; have e0 := hwn.cell' (i := 0) rfl; have e1 := hwn.cell' (i := 1) rfl; have e2 := hwn.cell' (i := 2) rfl; have e3 := hwn.cell' (i := 3) rfl; have e4 := hwn.cell' (i := 4) rfl; have e5 := hwn.cell' (i := 5) rfl; have e6 := hwn.cell' (i := 6) rfl; have e7 := hwn.cell' (i := 7) rfl; have e8 := hwn.cell' (i := 8) rfl; have e9 := hwn.cell' (i := 9) rfl; have hSx := hSw; (try dsimp only at hSw); go_simp; try rfl
  case' ra1 => try simp only [List.getElem_toArray, List.getElem_cons_succ, List.getElem_cons_zero, Act.put, List.setIfInBounds_toArray, List.set_cons_zero, List.set_cons_succ]
  refine walk_take 2 (v := ?va2) rfl (by kernel_rfl) (by kernel_rfl) (by kernel_rfl) (fun _ _ _ h => h) (⟨hq1, bn⟩) (Or.inl ⟨by rfl, ?ya2⟩) ?ra2
  case ya2 => intro w hSw; obtain ⟨hwq, hwn⟩ := _root_.id hSw; have e14 := hwq.cell' (i := 14) rfl; have e0 := hwn.cell' (i := 0) rfl; have e1 := hwn.cell' (i := 1) rfl; have e2 := hwn.cell' (i := 2) rfl; have e3 := hwn.cell' (i := 3) rfl; have e4 := hwn.cell' (i := 4) rfl; have e5 := hwn.cell' (i := 5) rfl; have e6 := hwn.cell' (i := 6) rfl; have e7 := hwn.cell' (i := 7) rfl; have e8 := hwn.cell' (i := 8) rfl; have e9 := hwn.cell' (i := 9) rfl; have hSx := hSw; (try dsimp only at hSw); go_simp; try rfl
  case' ra2 => try simp only [List.getElem_toArray, List.getElem_cons_succ, List.getElem_cons_zero, Act.put, List.setIfInBounds_toArray, List.set_cons_zero, List.set_cons_succ]
  refine walk_take 3 (v := ?va3) rfl (by kernel_rfl) (by kernel_rfl) (by kernel_rfl) (fun _ _ _ h => h) (⟨hq1, bn⟩) (Or.inl ⟨by rfl, ?ya3⟩) ?ra3
  case ya3 => intro w hSw; obtain ⟨hwq, hwn⟩ := _root_.id hSw; have e14 := hwq.cell' (i := 14) rfl; have e0 := hwn.cell' (i := 0) rfl; have e1 := hwn.cell' (i := 1) rfl; have e2 := hwn.cell' (i := 2) rfl; have e3 := hwn.cell' (i := 3) rfl; have e4 := hwn.cell' (i := 4) rfl; have e5 := hwn.cell' (i := 5) rfl; have e6 := hwn.cell' (i := 6) rfl; have e7 := hwn.cell' (i := 7) rfl; have e8 := hwn.cell' (i := 8) rfl; have e9 := hwn.cell' (i := 9) rfl; have hSx := hSw; (try dsimp only at hSw); go_simp; try rfl
  case' ra3 => try simp only [List.getElem_toArray, List.getElem_cons_succ, List.getElem_cons_zero, Act.put, List.setIfInBounds_toArray, List.set_cons_zero, List.set_cons_succ]
  refine walk_take 4 (v := ?va4) rfl (by kernel_rfl) (by kernel_rfl) (by kernel_rfl) (fun _ _ _ h => h) (⟨hq1, bn⟩) (Or.inl ⟨by rfl, ?ya4⟩) ?ra4
  case ya4 => intro w hSw; obtain ⟨hwq, hwn⟩ := _root_.id hSw; have e14 := hwq.cell' (i := 14) rfl; have e0 := hwn.cell' (i := 0) rfl; have e1 := hwn.cell' (i := 1) rfl; have e2 := hwn.cell' (i := 2) rfl; have e3 := hwn.cell' (i := 3) rfl; have e4 := hwn.cell' (i := 4) rfl; have e5 := hwn.cell' (i := 5) rfl; have e6 := hwn.cell' (i := 6) rfl; have e7 := hwn.cell' (i := 7) rfl; have e8 := hwn.cell' (i := 8) rfl; have e9 := hwn.cell' (i := 9) rfl; have hSx := hSw; (try dsimp only at hSw); go_simp; try rfl
  case' ra4 => try simp only [List.getElem_toArray, List.getElem_cons_succ, List.getElem_cons_zero, Act.put, List.setIfInBounds_toArray, List.set_cons_zero, List.set_cons_succ]
  refine walk_take 5 (v := ?va5) rfl (by kernel_rfl) (by kernel_rfl) (by kernel_rfl) (fun _ _ _ h => h) (⟨hq1, bn⟩) (Or.inl ⟨by rfl, ?ya5⟩) ?ra5
  case ya5 => intro w hSw; obtain ⟨hwq, hwn⟩ := _root_.id hSw; have e14 := hwq.cell' (i := 14) rfl; have e0 := hwn.cell' (i := 0) rfl; have e1 := hwn.cell' (i := 1) rfl; have e2 := hwn.cell' (i := 2) rfl; have e3 := hwn.cell' (i := 3) rfl; have e4 := hwn.cell' (i := 4) rfl; have e5 := hwn.cell' (i := 5) rfl; have e6 := hwn.cell' (i := 6) rfl; have e7 := hwn.cell' (i := 7) rfl; have e8 := hwn.cell' (i := 8) rfl; have e9 := hwn.cell' (i := 9) rfl; have hSx := hSw; (try dsimp only at hSw); go_simp; try rfl
  case' ra5 => try simp only [List.getElem_toArray, List.getElem_cons_succ, List.getElem_cons_zero, Act.put, List.setIfInBounds_toArray, List.set_cons_zero, List.set_cons_succ]
  refine walk_step 6 rfl (by kernel_rfl) (by kernel_rfl) (fun K hK => ?bs)
  case bs =>
    go_simp
    have hR := Rd_lit V [.int .i64 nk, .int .i64 id, .string nn, .int .i64 ns_, .int .i64 nsum, .int .i64 nat_, .slice D nd.length dc, .slice G ng.length gc, .int .i64 nof, .int .i64 ncode] 27
    have hq2 := hq1.alloc (.cells #[.int .i64 nk, .int .i64 id, .string nn, .int .i64 ns_, .int .i64 nsum, .int .i64 nat_, .slice D nd.length dc, .slice G ng.length gc, .int .i64 nof, .int .i64 ncode] 27)
    have hO2 := hO1.alloc (.cells #[.int .i64 nk, .int .i64 id, .string nn, .int .i64 ns_, .int .i64 nsum, .int .i64 nat_, .slice D nd.length dc, .slice G ng.length gc, .int .i64 nof, .int .i64 ncode] 27)
    have hT3 := hT2.step (v' := V.alloc (.cells #[.int .i64 nk, .int .i64 id, .string nn, .int .i64 ns_, .int .i64 nsum, .int .i64 nat_, .slice D nd.length dc, .slice G ng.length gc, .int .i64 nof, .int .i64 ncode] 27)) ((Below.refl _ _).alloc (Nat.le_refl _) _)
    have hbs : base ≤ (V.alloc (.cells #[.int .i64 nk, .int .i64 id, .string nn, .int .i64 ns_, .int .i64 nsum, .int .i64 nat_, .slice D nd.length dc, .slice G ng.length gc, .int .i64 nof, .int .i64 ncode] 27)).heap.size := by simp; omega
    have hbn2 := bn.alloc (.cells #[.int .i64 nk, .int .i64 id, .string nn, .int .i64 ns_, .int .i64 nsum, .int .i64 nat_, .slice D nd.length dc, .slice G ng.length gc, .int .i64 nof, .int .i64 ncode] 27)
    refine hK _ _ ⟨hq2, hbn2⟩ ?_
    clear hK K hq1 bn hO1 hT2
    try simp only [List.getElem_toArray, List.getElem_cons_succ, List.getElem_cons_zero, Act.put, List.setIfInBounds_toArray, List.set_cons_zero, List.set_cons_succ]
    have q4 : on + 1 ≤ maxLen := by unfold maxLen; omega
    have q5 : (on + 1) * 120 ≤ 140737488355328 := by omega
    have hone : Hid (∀ u ∈ ([.int .i64 nk, .int .i64 id, .string nn, .int .i64 ns_, .int .i64 nsum, .int .i64 nat_, .slice D nd.length dc, .slice G ng.length gc, .int .i64 nof, .int .i64 ncode] : List Value), u.oneCell' = true) := Lib.hid (ncs_one ⟨⟨nk, id, nn, ns_, nsum, nat_, nd, ng, nof, ncode⟩, D, dc, G, gc⟩)
    have hnq := hO2.notBlk hq2 (by decide)
    have hqq := hq2
    refine walk_step 7 rfl (by kernel_rfl) (by kernel_rfl) (fun K hK => ?ap)
    case ap =>
      rw [if_pos (by kernel_rfl)]
      refine wp_append_Own _ (.tmp 14) (.tmp 16) 45 rfl base 27 j0 _ 10 120 Try.underlying45 hj0 hy0 hy1 hy2 rfl O on oc (nts l) rfl hO2 (some ⟨V.heap.size, 0, none⟩) 1 1 [.int .i64 nk, .int .i64 id, .string nn, .int .i64 ns_, .int .i64 nsum, .int .i64 nat_, .slice D nd.length dc, .slice G ng.length gc, .int .i64 nof, .int .i64 ncode] rfl rfl hR hone.out q4 q5 hbs ?_
      intro O6 oc6 w6 hO6 hg6 hor6
      have bq6 := hq2.grown hg6 (fun e => hnq e.symm)
      have bn6 := hbn2.grown hg6 (fun e => by have := (hO.lt _ e.symm).2; omega)
      refine hK _ _ ⟨bq6, bn6⟩ ?_
      clear hK K
      try simp only [List.getElem_toArray, List.getElem_cons_succ, List.getElem_cons_zero, Act.put, List.setIfInBounds_toArray, List.set_cons_zero, List.set_cons_succ]
      refine walk_tail (by kernel_rfl) ?_
      simp only [List.drop_succ_cons, List.drop_zero]
      have kf6 := bq6.frozen
      have y6 := bq6.cell' (i := 14) rfl
      go_wp2_with fail
      go_end0
      have bq7 := bq6.set_ 14 (.slice O6 (on + 1) oc6)
      have hO7 := hO6.setFar (p := ⟨q, 14, none⟩) (hO6.notBlk bq6 (by decide)) (.slice O6 (on + 1) oc6)
      refine ⟨O6, oc6, rfl, bq7, ?_, (hT3.grown hg6 (fun i hi _ => .inr hi)).set (p := ⟨q, 14, none⟩) (fun _ => .inl rfl) _⟩
      rw [nts_snoc]
      exact hO7
end Go.Proofs.Ytianombjgdmbeaa
