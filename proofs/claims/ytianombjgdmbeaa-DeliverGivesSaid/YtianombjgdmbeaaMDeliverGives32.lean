/-
  A giver at work, in one word: its block, and what lies in memory of its own; a note more, in that word; what a round keeps, plainly. Words for a range over a function: what the caller's own words abide; append within a fence.
-/
import Derived.Test.YtianombjgdmbeaaMDeliverGives29
import Derived.Test.YtianombjgdmbeaaMDeliverGives24
import Derived.Test.YtianombjgdmbeaaMDeliverGives31
import Derived.Test.YtianombjgdmbeaaMDeliverGives26
import Derived.RangeFuncBox
import Derived.RangeFuncNested
import Derived.RangeFuncBound
import Derived.RangeFuncCalls
import Derived.RangeFuncLeaves
import Derived.Shelf.Abstract
import Derived.OwnWalkIn
import Derived.TacticsInMore
import Derived.LoopNIn
import Derived.LoopIn
import Derived.BigRegionIn
import Derived.Test.YtianombjgdmbeaaMDeliverGives3
import Derived.Test.YtianombjgdmbeaaMDeliverGives2
namespace Go.Proofs.Ytianombjgdmbeaa
set_option linter.unusedSimpArgs false
set_option linter.unusedVariables false
open Go.RowKit

/-- A giver at work in block q; its file stays where it is; all that is its own lies from base on. -/
def GwAt (W : World) (base q : Nat) (F : Option Addr) (fn fc : Nat) (A : Option Addr) (an ac : Nat) (x : Gv) (ns : List Nt) : Prop :=
  ∃ O on oc l, Blk W q 94 (gw x F fn fc A an ac O on oc) ∧ GvMem W base x ns F fn fc A an ac O on oc l
theorem GwAt.step {W V : World} {base q : Nat} {F A : Option Addr} {fn fc an ac : Nat} {x : Gv} {ns : List Nt} (h : GwAt W base q F fn fc A an ac x ns) (hb : Below W.heap.size W V) : GwAt V base q F fn fc A an ac x ns := by
  obtain ⟨O, on, oc, l, h1, h2⟩ := h
  exact ⟨O, on, oc, l, h1.step hb, h2.step hb⟩
theorem GwAt.drew {W : World} {base q : Nat} {F A : Option Addr} {fn fc an ac : Nat} {x : Gv} {ns : List Nt} (h : GwAt W base q F fn fc A an ac x ns) : GwAt W.drew base q F fn fc A an ac x ns := h.step (Below.refl _ _).drew
/-- Memory behind a store into the giver's block. -/
theorem GvMem.far_ {W : World} {base q i : Nat} {t : TypeId} {cs : Array Value} {y : Gv} {ns : List Nt} {F A O : Option Addr} {fn fc an ac on oc : Nat} {l : List NtR} (h : GvMem W base y ns F fn fc A an ac O on oc l) (hq : Blk W q t cs) (h1 : 5 ≠ t) (h2 : 66 ≠ t) (h3 : 27 ≠ t) (u : Value) : GvMem (W.setCell ⟨q, i, Option.none⟩ u) base y ns F fn fc A an ac O on oc l :=
  ⟨h.fl, h.al, h.nl, h.ln, h.file.setFar (p := ⟨q, i, Option.none⟩) (h.file.notBlk hq h1) u, h.again.setFar (p := ⟨q, i, Option.none⟩) (h.again.notBlk hq h2) u, h.out.setFar (p := ⟨q, i, Option.none⟩) (h.out.notBlk hq h3) u,
    h.parts.map (fun e s A n c xs k he => k.setFar (p := ⟨q, i, Option.none⟩) (k.notBlk hq (by rcases he with rfl | rfl <;> assumption)) u), h.far⟩
theorem GvMem.alloc {W : World} {base : Nat} {y : Gv} {ns : List Nt} {F A O : Option Addr} {fn fc an ac on oc : Nat} {l : List NtR} (h : GvMem W base y ns F fn fc A an ac O on oc l) (o : Obj) : GvMem (W.alloc o) base y ns F fn fc A an ac O on oc l := h.step ((Below.refl _ _).alloc (Nat.le_refl _) _)
theorem GvMem.drew {W : World} {base : Nat} {y : Gv} {ns : List Nt} {F A O : Option Addr} {fn fc an ac on oc : Nat} {l : List NtR} (h : GvMem W base y ns F fn fc A an ac O on oc l) : GvMem W.drew base y ns F fn fc A an ac O on oc l :=
  ⟨h.fl, h.al, h.nl, h.ln, h.file.drew, h.again.drew, h.out.drew, h.parts.map (fun e s A n c xs k he => k.drew), h.far⟩
/-- The same memory, of a giver with other numbers. -/
theorem GvMem.as {W : World} {base : Nat} {y z : Gv} {ns : List Nt} {F A O : Option Addr} {fn fc an ac on oc : Nat} {l : List NtR} (h : GvMem W base y ns F fn fc A an ac O on oc l) (hf : z.file = y.file) (ha : z.again = y.again) : GvMem W base z ns F fn fc A an ac O on oc l :=
  ⟨by rw [hf]; exact h.fl, by rw [ha]; exact h.al, h.nl, h.ln, by rw [hf]; exact h.file, by rw [ha]; exact h.again, h.out, h.parts, h.far⟩
/-- A note's data lie apart from all else. -/
def FreshD (D : Option Addr) (F : Option Addr) (l : List NtR) : Prop := (∀ i, blk F = some i → blk D ≠ some i) ∧ ∀ (j : Nat) (y : NtR), l[j]? = some y → ∀ i, blk y.D = some i → blk D ≠ some i
theorem FreshD.none_ (F : Option Addr) (l : List NtR) : FreshD none F l := ⟨fun i _ h => by simp [blk] at h, fun j y _ i _ h => by simp [blk] at h⟩
theorem FreshD.new {W : World} {base : Nat} {y : Gv} {ns : List Nt} {F A O : Option Addr} {fn fc an ac on oc : Nat} {l : List NtR} (h : GvMem W base y ns F fn fc A an ac O on oc l) {D : Option Addr} (hD : ∀ i, blk D = some i → W.heap.size ≤ i) : FreshD D F l := by
  obtain ⟨h1, h2, h3, h4⟩ := gvmem_lt h
  exact ⟨fun i hi hi2 => by have := (h1 i hi).2; have := hD i hi2; omega, fun j y hy i hi hi2 => by have := ((h4 j y hy).1 i hi).2; have := hD i hi2; omega⟩
theorem gv_more {w w' : World} {base q : Nat} {x : Gv} {ns : List Nt} {F A O O' : Option Addr} {fn fc an ac on oc oc' : Nat} {l : List NtR} {t : TypeId} {cs : Array Value} {n : Nt} {D : Option Addr} {dc : Nat} (hM : GvMem w base x ns F fn fc A an ac O on oc l) (hq : Blk w q t cs) (h1 : 5 ≠ t) (h2 : 66 ≠ t)
    (hT : Turned w w' (fun i => i = q ∨ blk O = some i)) (hO : Own w' base 27 10 O' (on + 1) oc' (nts (l ++ [⟨n, D, dc, none, 0⟩]))) (hD : Own w base 5 1 D n.data.length dc (bvs n.data)) (hg : n.gaps = []) (hF : FreshD D F l) : GvMem w' base x (ns ++ [n]) F fn fc A an ac O' (on + 1) oc' (l ++ [⟨n, D, dc, none, 0⟩]) := by
  have kf : ∀ {e : TypeId} {s : Nat} {B : Option Addr} {m c : Nat} {xs : List Value}, (e = 5 ∨ e = 66) → Own w base e s B m c xs → Own w' base e s B m c xs := by
    intro e s B m c xs he h
    refine h.turned hT (fun i hi hS => ?_)
    rcases hS with k | k
    · refine (h.notBlk hq (by rcases he with rfl | rfl <;> assumption)) ?_
      rw [hi, k]
    · exact (h.apart hM.out (by rcases he with rfl | rfl <;> decide)) i hi k
  have hp : OwnParts w' base l := hM.parts.map (fun e s B m c xs h he => kf he h)
  refine ⟨hM.fl, hM.al, by rw [List.length_append, hM.nl]; rfl, by rw [List.map_append, hM.ln]; rfl, kf (.inl rfl) hM.file, kf (.inr rfl) hM.again, hO, hp.snoc ⟨kf (.inl rfl) hD, ?_⟩ ?_, ?_⟩
  · show Own w' base 66 2 none n.gaps.length 0 (gps n.gaps)
    rw [hg]
    exact Own.none_ _ _ _ _
  · exact fun i y hy => ⟨fun k hk => hF.2 i y hy k hk, fun k hk => by simp [blk]⟩
  · intro i y hy
    rcases Nat.lt_or_ge i l.length with hi | hi
    · rw [List.getElem?_append_left hi] at hy
      exact hM.far i y hy
    · rw [List.getElem?_append_right hi] at hy
      rcases h0 : i - l.length with _ | k
      · rw [h0] at hy
        simp at hy
        subst hy
        exact ⟨fun k hk => hF.1 k hk, fun k hk => by simp [blk]⟩
      · rw [h0] at hy
        simp at hy
theorem say_at (x : Gv) (F : Option Addr) (fn fc : Nat) (A : Option Addr) (an ac : Nat) (O : Option Addr) (on oc : Nat) (l : List NtR) (n m : Nt) (D : Option Addr) (dc base q : Nat) (ns : List Nt) (w : World) (hq : Blk w q 94 (gw x F fn fc A an ac O on oc)) (hM : GvMem w base x ns F fn fc A an ac O on oc l)
    (hm : m = { n with id := x.id }) (hD : Own w base 5 1 D n.data.length dc (bvs n.data)) (hg : n.gaps = []) (hF : FreshD D F l) (hon : ns.length ≤ 100000) (hbase : base ≤ w.heap.size) (hbq : base ≤ q) :
    Calls Try.prog 100 #[.pointer (some ⟨q, 0, none⟩), ntv n D n.data.length dc none 0 0] w fun e w' => ∃ O' oc', e = .returned (.tuple #[]) ∧ Blk w' q 94 (gw x F fn fc A an ac O' (on + 1) oc') ∧ GvMem w' base x (ns ++ [m]) F fn fc A an ac O' (on + 1) oc' (l ++ [⟨m, D, dc, none, 0⟩]) ∧ Below base w w' := by
  have h := say_any x F fn fc A an ac O on oc l ⟨n, D, dc, none, 0⟩ base q w hq hM.out (by rw [← hM.nl]; exact hon) hbase
  have hgl : n.gaps.length = 0 := by rw [hg]; rfl
  dsimp only at h
  rw [hgl] at h
  refine h.mono ?_
  rintro e w' ⟨O', oc', rfl, hb, hO, hT⟩
  subst hm
  refine ⟨O', oc', rfl, hb, gv_more hM hq (by decide) (by decide) hT hO hD hg hF, hT.below (fun k hk => ?_) hbase⟩
  rcases hk with rfl | hk
  · exact hbq
  · exact (hM.out.lt k hk).1
/-- What a round keeps. -/
structure GvI (x : Gv) : Prop where
  most : 1 ≤ x.most ∧ x.most ≤ 1024
  burst : 1 ≤ x.burst ∧ x.burst ≤ 50
  long : x.file.length ≤ 65536
  at_ : 0 ≤ x.at_ ∧ x.at_ ≤ x.file.length
  again : x.again.length ≤ 1000
  gaps : ∀ g ∈ x.again, (g.1 = 0 ∧ g.2 = 0) ∨ (0 ≤ g.1 ∧ g.1 < g.2 ∧ g.2 ≤ x.file.length)
  timer : 0 ≤ x.timer ∧ x.timer < x.patience ∧ x.patience ≤ 1000
  tries : 0 ≤ x.tries ∧ x.tries ≤ x.limit ∧ x.limit ≤ 100
theorem GvI.of {x : Gv} (h : gvOk x = true) : GvI x := by
  obtain ⟨h1, h2, h3, h4, h5⟩ := gv_parts h
  rw [offB_iff] at h1
  obtain ⟨⟨a1, a2, a3, a4, a5⟩, -, a7⟩ := h1
  unfold standB at h2
  unfold waitB at h5
  simp only [Bool.and_eq_true, rng_iff] at h2 h5
  refine ⟨?_, ?_, a7, h2.1.2, h3, fun g hg => ?_, ?_, ?_⟩
  · omega
  · omega
  · rw [List.all_eq_true] at h4
    have := h4 g hg
    unfold gapIn at this
    simp only [Bool.or_eq_true, decide_eq_true_eq] at this
    exact this
  · omega
  · omega
theorem givR_keep {x y : Gv} {n : Nt} {b : Bool} (h : GvI x) (hr : givR x = some (y, n, b)) : GvI y ∧ y.file = x.file ∧ y.burst = x.burst ∧ y.id = x.id := by
  obtain ⟨k1, k2, k3, k4, k5, k6, k7, k8⟩ := h
  unfold givR at hr
  split at hr
  · injection hr with hr; injection hr with e1 e2; subst e1
    exact ⟨⟨k1, k2, k3, k4, k5, k6, k7, k8⟩, rfl, rfl, rfl⟩
  · split at hr
    · rename_i g l hg
      have k6' : ∀ g ∈ l, (g.1 = 0 ∧ g.2 = 0) ∨ (0 ≤ g.1 ∧ g.1 < g.2 ∧ g.2 ≤ x.file.length) := fun j hj => k6 j (by rw [hg]; exact List.mem_cons_of_mem _ hj)
      have k5' : l.length + 1 ≤ 1000 := by rw [hg] at k5; simpa using k5
      have kg := k6 g (by rw [hg]; exact List.mem_cons_self)
      split at hr
      · injection hr with hr; injection hr with e1 e2; subst e1
        exact ⟨⟨k1, k2, k3, k4, by show l.length ≤ 1000; omega, k6', k7, k8⟩, rfl, rfl, rfl⟩
      · split at hr
        · injection hr with hr; injection hr with e1 e2; subst e1
          exact ⟨⟨k1, k2, k3, k4, by show l.length ≤ 1000; omega, k6', k7, k8⟩, rfl, rfl, rfl⟩
        · injection hr with hr; injection hr with e1 e2; subst e1
          refine ⟨⟨k1, k2, k3, k4, by show (_ :: l).length ≤ 1000; rw [List.length_cons]; omega, fun j hj => ?_, k7, k8⟩, rfl, rfl, rfl⟩
          rcases List.mem_cons.1 hj with rfl | hj
          · dsimp only; omega
          · exact k6' j hj
    · split at hr
      · split at hr
        · split at hr
          · injection hr with hr; injection hr with e1 e2; subst e1
            exact ⟨⟨k1, k2, k3, by dsimp only; omega, k5, k6, k7, k8⟩, rfl, rfl, rfl⟩
          · injection hr with hr; injection hr with e1 e2; subst e1
            exact ⟨⟨k1, k2, k3, by dsimp only; omega, k5, k6, k7, k8⟩, rfl, rfl, rfl⟩
        · injection hr with hr; injection hr with e1 e2; subst e1
          exact ⟨⟨k1, k2, k3, k4, k5, k6, by dsimp only; omega, by dsimp only; omega⟩, rfl, rfl, rfl⟩
      · cases hr
end Go.Proofs.Ytianombjgdmbeaa
namespace Go.Proofs.Ytianombjgdmbeaa
set_option linter.unusedSimpArgs false
set_option linter.unusedVariables false
open Go.RowKit Go.Shelf

section
variable {w w' : World} {A : Option Addr} {xs : List Value} {base : Nat} {e : TypeId} {size n c g : Nat} {t : TypeId} {cs : Array Value} {row : Option Nat}
theorem Own.kept_in (h : Own w base e size A n c xs) (hg : w.grownBy w' row) (hr : ∀ r, row = some r → ∃ o : Obj, w.heap[r]? = some o ∧ o.isCells = false) : Own w' base e size A n c xs := by
  refine h.grown hg (fun k hk hb => ?_)
  obtain ⟨o, ho, hc⟩ := hr k hk
  rcases A with _ | a
  · simp [blk] at hb
  obtain ⟨cur, _, _, hh, _⟩ := h.at_ _ rfl
  have e1 : a.block = k := by simpa [blk] using hb
  rw [e1, ho] at hh
  injection hh with hh
  subst hh
  cases hc
theorem Blk.kept_in (h : Blk w g t cs) (hg : w.grownBy w' row) (hr : ∀ r, row = some r → ∃ o : Obj, w.heap[r]? = some o ∧ o.isCells = false) : Blk w' g t cs := by
  refine h.grown hg (fun hb => ?_)
  obtain ⟨o, ho, hc⟩ := hr g hb.symm
  unfold Blk at h
  rw [ho] at h
  injection h with h
  subst h
  cases hc
end
theorem wpListIn_append_Own {F : Fence} {nn : Nat} {P : Program} (w : World) {ops : Array Oper} {rest : List Oper} {o : Oper} {a : Act} {Q : Exit → Act → World → Prop} (hgd : o.guard = none) (s x : Operand) (t : TypeId)
    (ho : o.op = .call { callee := .builtin .append, args := #[s, x], argTypes := #[t, t] })
    (base : Nat) (e : TypeId) (i : TypeInfo) (z : Value) (size bytes : Nat) (ht : P.underlying t = some (.slice e)) (hi : P.info? e = some i) (hz : i.zero = some z)
    (hsize : i.size = size) (hby : i.bytes = bytes) (hzs : z.cells.size = size)
    (A : Option Addr) (n c : Nat) (xs : List Value) (hs : a.eval s = .slice A n c) (hown : Own w base e size A n c xs)
    (A2 : Option Addr) (m c2 : Nat) (news : List Value) (hx : a.eval x = .slice A2 m c2) (hl : news.length = m * size) (hR : Rd w A2 news) (h1 : ∀ u ∈ news, u.oneCell' = true)
    (h63 : n + m ≤ maxLen) (hbytes : (n + m) * bytes ≤ 140737488355328) (hbase : base ≤ w.heap.size)
    (h : ∀ A' c' w', Own w' base e size A' (n + m) c' (xs ++ news) → w.grownBy w' (blk A) → (A' = A ∨ blk A' = some w.heap.size) → wpListIn F nn P ops Q rest (a.put o.dst (.slice A' (n + m) c')) w') : wpListIn F nn P ops Q (o :: rest) a w := by
  refine wpListIn_plain hgd fun K hK' => ?_
  obtain ⟨A', c', w', hrun, h2, h3, h4⟩ := run_append_Own (P := P) w base t o.type e i z size bytes ht hi hz hsize hby hzs A n c xs hown A2 m c2 news hl hR h1 h63 hbytes hbase
  unfold Oper.wpIn
  refine ⟨?_, ?_⟩
  · simp [Oper.about, ho, resolve, Target.leads, Sem.run_pure]
  · rw [Oper.semAt_plain F _ _ (by rw [ho]; intro c hc'; cases hc')]
    simp [execOp, ho, resolve, invoke, builtin, hs, hx, hrun, Result.andThen]
    exact hK' _ _ (h A' c' w' h2 h3 h4)
end Go.Proofs.Ytianombjgdmbeaa
