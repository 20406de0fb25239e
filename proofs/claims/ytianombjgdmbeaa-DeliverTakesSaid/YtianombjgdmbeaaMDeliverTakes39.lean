/-
  A taker at work: a note more; done, seen. A region that draws its order, walked to its very end (XHeld's walk without a tail): reads are taken first, in whatever order the others come; what writes or calls comes up alone, or two at once.
-/
import Derived.Test.YtianombjgdmbeaaMDeliverTakes33
import Derived.Test.YtianombjgdmbeaaMDeliverTakes12
namespace Go.Proofs.Ytianombjgdmbeaa
set_option linter.unusedSimpArgs false
set_option linter.unusedVariables false
open Go.RowKit

theorem tk_more {w w' : World} {base q : Nat} {x : Gv} {ns : List Nt} {F A O O' : Option Addr} {fn fc an ac on oc oc' : Nat} {l : List NtR} {t : TypeId} {cs : Array Value} {n : Nt} {G : Option Addr} {gc : Nat} (hM : GvMem w base x ns F fn fc A an ac O on oc l) (hq : Blk w q t cs) (h1 : 5 ≠ t) (h2 : 66 ≠ t)
    (hT : Turned w w' (fun i => i = q ∨ blk O = some i)) (hO : Own w' base 27 10 O' (on + 1) oc' (nts (l ++ [⟨n, none, 0, G, gc⟩]))) (hd : n.data = []) (hG : Own w base 66 2 G n.gaps.length gc (gps n.gaps)) (hGA : ∀ i, blk A = some i → blk G ≠ some i) (hGl : ∀ (j : Nat) (y : NtR), l[j]? = some y → ∀ i, blk y.G = some i → blk G ≠ some i) : GvMem w' base x (ns ++ [n]) F fn fc A an ac O' (on + 1) oc' (l ++ [⟨n, none, 0, G, gc⟩]) := by
  have kf : ∀ {e : TypeId} {s : Nat} {B : Option Addr} {m c : Nat} {xs : List Value}, (e = 5 ∨ e = 66) → Own w base e s B m c xs → Own w' base e s B m c xs := by
    intro e s B m c xs he h
    refine h.turned hT (fun i hi hS => ?_)
    rcases hS with k | k
    · refine (h.notBlk hq (by rcases he with rfl | rfl <;> assumption)) ?_
      rw [hi, k]
    · exact (h.apart hM.out (by rcases he with rfl | rfl <;> decide)) i hi k
  have hp : OwnParts w' base l := hM.parts.map (fun e s B m c xs h he => kf he h)
  refine ⟨hM.fl, hM.al, by rw [List.length_append, hM.nl]; rfl, by rw [List.map_append, hM.ln]; rfl, kf (.inl rfl) hM.file, kf (.inr rfl) hM.again, hO, hp.snoc ⟨?_, kf (.inr rfl) hG⟩ ?_, ?_⟩
  · show Own w' base 5 1 none n.data.length 0 (bvs n.data)
    rw [hd]
    exact Own.none_ _ _ _ _
  · exact fun i y hy => ⟨fun k hk => by simp [blk], fun k hk => hGl i y hy k hk⟩
  · intro i y hy
    rcases Nat.lt_or_ge i l.length with hi | hi
    · rw [List.getElem?_append_left hi] at hy
      exact hM.far i y hy
    · rw [List.getElem?_append_right hi] at hy
      rcases h0 : i - l.length with _ | k
      · rw [h0] at hy
        simp at hy
        subst hy
        exact ⟨fun k hk => by simp [blk], fun k hk => hGA k hk⟩
      · rw [h0] at hy
        simp at hy
/-- What a note more leaves. -/
def SayT (w w' : World) (base q : Nat) (x : Tk) (ns : List Nt) (F : Option Addr) (fn fc : Nat) (A : Option Addr) (an ac : Nat) (e : Ending) : Prop :=
  ∃ O on oc l, e = .returned (.tuple #[]) ∧ Blk w' q 86 (tw x A an ac F fn fc O on oc) ∧ GvMem w' base (pg x) ns F fn fc A an ac O on oc l ∧ Below base w w'
theorem tsay_at (x : Tk) (F : Option Addr) (fn fc : Nat) (A : Option Addr) (an ac : Nat) (O : Option Addr) (on oc : Nat) (l : List NtR) (n m : Nt) (G : Option Addr) (gn gc base q : Nat) (ns : List Nt) (w : World) (hq : Blk w q 86 (tw x A an ac F fn fc O on oc)) (hM : GvMem w base (pg x) ns F fn fc A an ac O on oc l)
    (hm : m = { n with id := x.id }) (hd : n.data = []) (hgn : n.gaps.length = gn) (hG : Own w base 66 2 G gn gc (gps n.gaps)) (hGA : ∀ i, blk A = some i → blk G ≠ some i) (hGl : ∀ (j : Nat) (y : NtR), l[j]? = some y → ∀ i, blk y.G = some i → blk G ≠ some i) (hon : ns.length ≤ 100000) (hbase : base ≤ w.heap.size) (hbq : base ≤ q) :
    Calls Try.prog 97 #[.pointer (some ⟨q, 0, none⟩), ntv n none 0 0 G gn gc] w fun e w' => SayT w w' base q x (ns ++ [m]) F fn fc A an ac e := by
  subst hgn
  have h := tsay_any x A an ac F fn fc O on oc l ⟨n, none, 0, G, gc⟩ base q w hq hM.out (by rw [← hM.nl]; exact hon) hbase
  have hdl : n.data.length = 0 := by rw [hd]; rfl
  dsimp only at h
  rw [hdl] at h
  refine h.mono ?_
  rintro e w' ⟨O', oc', rfl, hb, hO, hT⟩
  subst hm
  refine ⟨O', on + 1, oc', _, rfl, hb, tk_more hM hq (by decide) (by decide) hT hO hd hG hGA hGl, hT.below (fun k hk => ?_) hbase⟩
  rcases hk with rfl | hk
  · exact hbq
  · exact (hM.out.lt k hk).1
set_option maxHeartbeats 1600000 in
set_option maxRecDepth 100000 in
theorem done_at (c : Int) (x : Tk) (F : Option Addr) (fn fc : Nat) (A : Option Addr) (an ac : Nat) (O : Option Addr) (on oc : Nat) (l : List NtR) (base q : Nat) (ns : List Nt) (w : World) (hq : Blk w q 86 (tw x A an ac F fn fc O on oc)) (hM : GvMem w base (pg x) ns F fn fc A an ac O on oc l) (hon : ns.length ≤ 100000) (hbase : base ≤ w.heap.size) (hbq : base ≤ q) :
    Calls Try.prog 59 #[.pointer (some ⟨q, 0, none⟩), .int .i64 c] w fun e w' => SayT w w' base q x (ns ++ [doneN x c]) F fn fc A an ac e := by
  have CS := Lib.hid (tsay_at x F fn fc A an ac O on oc l ⟨5, 0, ⟨#[]⟩, 0, 0, 0, [], [], 0, c⟩ (doneN x c) none 0 0 base q ns w hq hM rfl rfl rfl (Own.none_ _ _ _ _) (fun i _ h => by simp [blk] at h) (fun j y _ i _ h => by simp [blk] at h) hon hbase hbq)
  unfold ntv at CS
  dsimp only at CS
  clear hq hM
  go_enter Try.func59, Try.ntmps59
  go_wp2_with fail
  refine CS.out.mono ?_
  intro e w' h
  obtain ⟨O1, on1, oc1, l1, rfl, h1, h2, h3⟩ := h
  go_wp2_with fail
  go_end0
  exact ⟨O1, on1, oc1, l1, rfl, h1, h2, h3⟩
set_option maxHeartbeats 3200000 in
set_option maxRecDepth 100000 in
theorem late_at (x : Tk) (A : Option Addr) (an ac : Nat) (F : Option Addr) (fn fc : Nat) (O : Option Addr) (on oc q : Nat) (w : World) (hq : Blk w q 86 (tw x A an ac F fn fc O on oc)) (ht : 0 ≤ x.timer) (htp : x.timer < x.patience) (hp : x.patience ≤ 1000) :
    Calls Try.prog 57 #[.pointer (some ⟨q, 0, none⟩)] w fun e w' => e = .returned (.bool (decide (x.timer + 1 = x.patience))) ∧ Blk w' q 86 (tw { x with timer := if x.timer + 1 = x.patience then 0 else x.timer + 1 } A an ac F fn fc O on oc) ∧ Turned w w' (fun i => i = q) := by
  obtain ⟨r, hr⟩ : ∃ r, (if x.timer + 1 = x.patience then 0 else x.timer + 1) = r := ⟨_, rfl⟩
  obtain ⟨b, hb⟩ : ∃ b, decide (x.timer + 1 = x.patience) = b := ⟨_, rfl⟩
  rw [hr, hb]
  have hmod : (x.timer + 1).tmod x.patience = r := by
    rw [Int.tmod_eq_emod_of_nonneg (by omega), ← hr]
    split
    · rename_i h; rw [h, Int.emod_self]
    · exact Int.emod_eq_of_lt (by omega) (by omega)
  have hr0 : 0 ≤ r ∧ r < 1000 := by rw [← hr]; split <;> omega
  have hbr : (r == 0) = b := by
    rw [← hb, ← hr]
    by_cases h : x.timer + 1 = x.patience
    · rw [if_pos h, decide_eq_true h]; rfl
    · rw [if_neg h, decide_eq_false h, beq_eq_false_iff_ne]; omega
  clear hr hb
  obtain ⟨id, known, name, size, ended, last, sum, have_, file, stage, timer, patience, tries, limit⟩ := x
  unfold tw at hq ⊢
  dsimp only at hq hmod ht htp hp ⊢
  have y10 := hq.drew.cell' (i := 10) rfl
  have y11 := hq.drew.cell' (i := 11) rfl
  have pne : ¬ patience = 0 := by omega
  have pneb : (patience == 0) = false := by rw [beq_eq_false_iff_ne]; exact pne
  go_enter Try.func57, Try.ntmps57
  go_upto_region 1 with fail
  refine heldRegion (fun v => v.cell? ⟨q, 10, none⟩ = some (.int .i64 timer) ∧ v.cell? ⟨q, 11, none⟩ = some (.int .i64 patience)) 13 (by kernel_rfl) (by kernel_rfl) ⟨y10, y11⟩ (fun hSS => ?_)
  clear hSS
  replace hq := hq.drew
  have hT : Turned w w.drew (fun i => i = q) := (Turned.refl w _).drewN 1
  generalize w.drew = V at *
  refine walk_take 0 (v := ?va0) rfl (by kernel_rfl) (by kernel_rfl) (by kernel_rfl) (fun _ _ _ h => h) (⟨y10, y11⟩) (Or.inl ⟨by rfl, ?ya0⟩) ?ra0
  case ya0 => intro w hSw; obtain ⟨hw0, hw1⟩ := hSw; (try dsimp only at hSw); go_simp; try rfl
  case' ra0 => try simp only [List.getElem_toArray, List.getElem_cons_succ, List.getElem_cons_zero, Act.put, List.setIfInBounds_toArray, List.set_cons_zero, List.set_cons_succ]
  refine walk_take 1 (v := ?va1) rfl (by kernel_rfl) (by kernel_rfl) (by kernel_rfl) (fun _ _ _ h => h) (⟨y10, y11⟩) (Or.inl ⟨by rfl, ?ya1⟩) ?ra1
  case ya1 => intro w hSw; obtain ⟨hw0, hw1⟩ := hSw; (try dsimp only at hSw); go_simp; try rfl
  case' ra1 => try simp only [List.getElem_toArray, List.getElem_cons_succ, List.getElem_cons_zero, Act.put, List.setIfInBounds_toArray, List.set_cons_zero, List.set_cons_succ]
  refine walk_take 2 (v := ?va2) rfl (by kernel_rfl) (by kernel_rfl) (by kernel_rfl) (fun _ _ _ h => h) (⟨y10, y11⟩) (Or.inl ⟨by rfl, ?ya2⟩) ?ra2
  case ya2 => intro w hSw; obtain ⟨hw0, hw1⟩ := hSw; (try dsimp only at hSw); go_simp; try rfl
  case' ra2 => try simp only [List.getElem_toArray, List.getElem_cons_succ, List.getElem_cons_zero, Act.put, List.setIfInBounds_toArray, List.set_cons_zero, List.set_cons_succ]
  refine walk_take 3 (v := ?va3) rfl (by kernel_rfl) (by kernel_rfl) (by kernel_rfl) (fun _ _ _ h => h) (⟨y10, y11⟩) (Or.inl ⟨by rfl, ?ya3⟩) ?ra3
  case ya3 => intro w hSw; obtain ⟨hw0, hw1⟩ := hSw; (try dsimp only at hSw); go_simp; try rfl
  case' ra3 => try simp only [List.getElem_toArray, List.getElem_cons_succ, List.getElem_cons_zero, Act.put, List.setIfInBounds_toArray, List.set_cons_zero, List.set_cons_succ]
  refine walk_take 4 (v := ?va4) rfl (by kernel_rfl) (by kernel_rfl) (by kernel_rfl) (fun _ _ _ h => h) (⟨y10, y11⟩) (Or.inl ⟨by rfl, ?ya4⟩) ?ra4
  case ya4 => intro w hSw; obtain ⟨hw0, hw1⟩ := hSw; (try dsimp only at hSw); go_simp; try rfl
  case' ra4 => try simp only [List.getElem_toArray, List.getElem_cons_succ, List.getElem_cons_zero, Act.put, List.setIfInBounds_toArray, List.set_cons_zero, List.set_cons_succ]
  refine walk_take 5 (v := ?va5) rfl (by kernel_rfl) (by kernel_rfl) (by kernel_rfl) (fun _ _ _ h => h) (⟨y10, y11⟩) (Or.inl ⟨by rfl, ?ya5⟩) ?ra5
  case ya5 => intro w hSw; obtain ⟨hw0, hw1⟩ := hSw; (try dsimp only at hSw); go_simp; try rfl
  case' ra5 => try simp only [List.getElem_toArray, List.getElem_cons_succ, List.getElem_cons_zero, Act.put, List.setIfInBounds_toArray, List.set_cons_zero, List.set_cons_succ]
  refine walk_take 6 (v := ?va6) rfl (by kernel_rfl) (by kernel_rfl) (by kernel_rfl) (fun _ _ _ h => h) (⟨y10, y11⟩) (Or.inl ⟨by rfl, ?ya6⟩) ?ra6
  case ya6 => intro w hSw; obtain ⟨hw0, hw1⟩ := hSw; (try dsimp only at hSw); go_simp; try rfl
  case' ra6 => try simp only [List.getElem_toArray, List.getElem_cons_succ, List.getElem_cons_zero, Act.put, List.setIfInBounds_toArray, List.set_cons_zero, List.set_cons_succ]
  have w1 : IntKind.i64.wrap (timer + 1) = timer + 1 := by rw [IntKind.wrap_i64]; omega
  simp only [w1]
  clear w1
  refine walk_take 7 (v := ?vb7) rfl (by kernel_rfl) (by kernel_rfl) (by kernel_rfl) (fun _ _ _ h => h) (⟨y10, y11⟩) (Or.inl ⟨by rfl, ?yb7⟩) ?rb7
  case yb7 => intro w hSw; obtain ⟨hw0, hw1⟩ := hSw; (try dsimp only at hSw); go_simp; try rfl
  case' rb7 => try simp only [List.getElem_toArray, List.getElem_cons_succ, List.getElem_cons_zero, Act.put, List.setIfInBounds_toArray, List.set_cons_zero, List.set_cons_succ]
  refine walk_take 8 (v := ?vb8) rfl (by kernel_rfl) (by kernel_rfl) (by kernel_rfl) (fun _ _ _ h => h) (⟨y10, y11⟩) (Or.inl ⟨by rfl, ?yb8⟩) ?rb8
  case yb8 => intro w hSw; obtain ⟨hw0, hw1⟩ := hSw; (try dsimp only at hSw); go_simp; try rfl
  case' rb8 => try simp only [List.getElem_toArray, List.getElem_cons_succ, List.getElem_cons_zero, Act.put, List.setIfInBounds_toArray, List.set_cons_zero, List.set_cons_succ]
  refine walk_take 9 (v := ?vb9) rfl (by kernel_rfl) (by kernel_rfl) (by kernel_rfl) (fun _ _ _ h => h) (⟨y10, y11⟩) (Or.inl ⟨by rfl, ?yb9⟩) ?rb9
  case yb9 => intro w hSw; obtain ⟨hw0, hw1⟩ := hSw; (try dsimp only at hSw); go_simp; try rfl
  case' rb9 => try simp only [List.getElem_toArray, List.getElem_cons_succ, List.getElem_cons_zero, Act.put, List.setIfInBounds_toArray, List.set_cons_zero, List.set_cons_succ]
  refine walk_take 10 (v := ?vb10) rfl (by kernel_rfl) (by kernel_rfl) (by kernel_rfl) (fun _ _ _ h => h) (⟨y10, y11⟩) (Or.inl ⟨by rfl, ?yb10⟩) ?rb10
  case yb10 => intro w hSw; obtain ⟨hw0, hw1⟩ := hSw; (try dsimp only at hSw); go_simp; try rfl
  case' rb10 => try simp only [List.getElem_toArray, List.getElem_cons_succ, List.getElem_cons_zero, Act.put, List.setIfInBounds_toArray, List.set_cons_zero, List.set_cons_succ]
  refine walk_take 11 (v := ?vb11) rfl (by kernel_rfl) (by kernel_rfl) (by kernel_rfl) (fun _ _ _ h => h) (⟨y10, y11⟩) (Or.inl ⟨by rfl, ?yb11⟩) ?rb11
  case yb11 => intro w hSw; obtain ⟨hw0, hw1⟩ := hSw; (try dsimp only at hSw); go_simp; try rfl
  case' rb11 => try simp only [List.getElem_toArray, List.getElem_cons_succ, List.getElem_cons_zero, Act.put, List.setIfInBounds_toArray, List.set_cons_zero, List.set_cons_succ]
  refine walk_take 12 (v := ?vb12) rfl (by kernel_rfl) (by kernel_rfl) (by kernel_rfl) (fun _ _ _ h => h) (⟨y10, y11⟩) (Or.inl ⟨by rfl, ?yb12⟩) ?rb12
  case yb12 => intro w hSw; obtain ⟨hw0, hw1⟩ := hSw; (try dsimp only at hSw); go_simp; try rfl
  case' rb12 => try simp only [List.getElem_toArray, List.getElem_cons_succ, List.getElem_cons_zero, Act.put, List.setIfInBounds_toArray, List.set_cons_zero, List.set_cons_succ]
  refine walk_tail (by kernel_rfl) ?_
  simp only [List.drop_succ_cons, List.drop_zero]
  have kf := hq.frozen
  go_upto_region 2 with fail
  replace hq := hq.set_ 10 (.int .i64 r)
  replace hT := hT.set (p := ⟨q, 10, none⟩) (fun _ => rfl) (.int .i64 r)
  clear kf y10 y11
  generalize V.setCell ⟨q, 10, none⟩ (.int .i64 r) = V2 at *
  have y := hq.cell' (i := 10) rfl
  clear hmod
  go_wp2_with fail
  go_ret
  exact ⟨rfl, hq, hT⟩
end Go.Proofs.Ytianombjgdmbeaa
namespace Go.Proofs.Ytianombjgdmbeaa
set_option linter.unusedSimpArgs false
set_option linter.unusedVariables false
open Go.RowKit
section
variable {P : Program} {md : Region.Mode} {ops : Array Oper} {Q : Exit → Act → World → Prop} {S : World → Prop}

/-- Nothing is left. -/
def Done (md : Region.Mode) (ops : Array Oper) (Q : Exit → Act → World → Prop) (listed : Array Bool) (a : Act) (w : World) : Prop := Region.ready md ops listed = [] ∧ Q .normal a w
theorem free_first {i : Nat} {oi : Oper} {v : Value} (hi : ops[i]? = some oi) (hsel : ∀ (j : Nat) (o : Oper) cs b, ops[j]? = some o → o.op ≠ .select cs b) (hQ : ∀ c a w, Q (.panic c) (a.put oi.dst v) w → Q (.panic c) a w) :
    ∀ (f : Nat) (listed : Array Bool) (a : Act) (w : World), (∀ j oj, ops[j]? = some oj → j ≠ i → listed.getD j true = false → (∀ e ∈ oj.after, Region.binds md e = true → e.on ≠ i) → oi.apart ops oj = true) →
      i ∈ Region.ready md ops listed → YieldsIf P ops S oi v a → S w → Head P md ops Q S (Done md ops Q) f (listed.setIfInBounds i true) (a.put oi.dst v) w → Head P md ops Q S (Done md ops Q) (f + 1) listed a w := by
  intro f
  induction f with
  | zero =>
    intro listed a w _ hr hy hS H
    refine ⟨fun h => (by rw [h] at hr; cases hr), fun j hj => ?_⟩
    by_cases hji : j = i
    · subst hji
      exact hy.wpOp hi hS ⟨hS, H⟩
    · have h1 := ready_mono hj hji
      rw [H.1] at h1
      cases h1
  | succ f ih =>
    intro listed a w hfree hr hy hS H
    have hun := (mem_ready.1 hr).1
    refine ⟨fun h => (by rw [h] at hr; cases hr), fun j hj => ?_⟩
    by_cases hji : j = i
    · subst hji
      exact hy.wpOp hi hS ⟨hS, H⟩
    · obtain ⟨hjun, oj, hoj, hall⟩ := mem_ready.1 hj
      have hnot : ∀ e ∈ oj.after, Region.binds md e = true → e.on ≠ i := fun e he hb heq => by
        have h1 := hall e he hb
        rw [heq, getD_both hun] at h1
        cases h1
      have h2 := wpOp_putIf hoj (hfree j oj hoj hji hjun hnot) (fun cs b => hsel i oi cs b hi) (fun cs b => hsel j oj cs b hoj) hQ hy (H.2 j (ready_mono hj hji))
      refine wpOp_mono (fun a' w' h3 => ⟨h3.2.1, ih (listed.setIfInBounds j true) a' w' ?_ (ready_mono hr (Ne.symm hji)) h3.1 h3.2.1 ?_⟩) h2
      · intro k ok hk hki hku hno
        refine hfree k ok hk hki ?_ hno
        by_cases hjk : j = k
        · subst hjk
          exact hjun
        · rw [getD_set_ne true hjk] at hku
          exact hku
      · rw [Array.setIfInBounds_comm _ _ hji]
        exact h3.2.2
/-- The walk's goal. -/
def WalkF (P : Program) (md : Region.Mode) (l : List Oper) (Q : Exit → Act → World → Prop) (S : World → Prop) (f : Nat) (listed : Array Bool) (a : Act) (w : World) : Prop :=
  Region.noSelect l.toArray = true → Head P md l.toArray Q S (Done md l.toArray Q) f listed a w
variable {l : List Oper} {f : Nat} {listed : Array Bool} {a : Act} {w : World}
theorem free_take (i : Nat) {oi : Oper} {v : Value} (hi : l.toArray[i]? = some oi) (hf : Region.free md l.toArray listed i = true) (hr : (Region.ready md l.toArray listed).contains i = true)
    (hQ : ∀ c a w, Q (.panic c) (a.put oi.dst v) w → Q (.panic c) a w) (hS : S w) (hy : YieldsIf P l.toArray S oi v a) (h : WalkF P md l Q S f (listed.setIfInBounds i true) (a.put oi.dst v) w) : WalkF P md l Q S (f + 1) listed a w := fun hB =>
  free_first hi (Region.noSelect_spec hB) hQ f listed a w (Region.free_spec hi hf) (by simpa using hr) hy hS (h hB)
theorem free_step (i : Nat) {oi : Oper} (hi : l.toArray[i]? = some oi) (hr : Region.ready md l.toArray listed = [i])
    (h : ∀ K' : Act → World → Prop, (∀ a w, S w → WalkF P md l Q S f (listed.setIfInBounds i true) a w → K' a w) → if Region.wanted oi (yielded l.toArray a.tmps) = true then Oper.wp P oi a w K' Q else K' (a.put oi.dst undef) w) : WalkF P md l Q S (f + 1) listed a w := fun hB => by
  refine ⟨fun e => (by rw [hr] at e; cases e), fun j hj => ?_⟩
  have hj' := hj
  rw [hr] at hj'
  have hji : j = i := by simpa using hj'
  subst hji
  exact wpOp_step hi (fun K' hK => h K' fun a w hS hW => hK a w ⟨hS, hW hB⟩)
theorem free_step2 (i j : Nat) {oi oj : Oper} (hi : l.toArray[i]? = some oi) (hj : l.toArray[j]? = some oj) (hr : Region.ready md l.toArray listed = [i, j])
    (h1 : ∀ K' : Act → World → Prop, (∀ a w, S w → WalkF P md l Q S f (listed.setIfInBounds i true) a w → K' a w) → if Region.wanted oi (yielded l.toArray a.tmps) = true then Oper.wp P oi a w K' Q else K' (a.put oi.dst undef) w)
    (h2 : ∀ K' : Act → World → Prop, (∀ a w, S w → WalkF P md l Q S f (listed.setIfInBounds j true) a w → K' a w) → if Region.wanted oj (yielded l.toArray a.tmps) = true then Oper.wp P oj a w K' Q else K' (a.put oj.dst undef) w) : WalkF P md l Q S (f + 1) listed a w := fun hB => by
  refine ⟨fun e => (by rw [hr] at e; cases e), fun k hk => ?_⟩
  have hk' := hk
  rw [hr] at hk'
  have hkij : k = i ∨ k = j := by simpa using hk'
  rcases hkij with e | e
  · subst e
    exact wpOp_step hi (fun K' hK => h1 K' fun a w hS hW => hK a w ⟨hS, hW hB⟩)
  · subst e
    exact wpOp_step hj (fun K' hK => h2 K' fun a w hS hW => hK a w ⟨hS, hW hB⟩)
theorem free_end (hr : Region.ready md l.toArray listed = []) (h : Q .normal a w) : WalkF P md l Q S 0 listed a w := fun _ => ⟨hr, h⟩
theorem free_any (hB : Region.noSelect l.toArray = true) (h : WalkF P .any l Q S l.length (Array.replicate l.toArray.size false) a w) : wpAny P .any l.toArray Q l.toArray.size (Array.replicate l.toArray.size false) a w := by
  have h1 : wpAny P .any l.toArray Q (l.length + 0) (Array.replicate l.toArray.size false) a w := head_any (g := 0) (fun listed a w hL => hL) l.length _ a w (h hB)
  simpa using h1
theorem freeRegion {id : Nat} (S : World → Prop) (hm : P.follows .mixedOrders = true) (hB : Region.noSelect l.toArray = true) (hS : S w.drew) (h : S w.drew → WalkF P .any l Q S l.length (Array.replicate l.toArray.size false) a w.drew) : (Code.region id l.toArray true).wp P Q a w :=
  wp_region_any hm (free_any hB (h hS))
theorem freeInRound {id l0 m : Nat} (S : World → Prop) (hm : P.follows .mixedOrders = true) (hB : Region.noSelect l.toArray = true) (hnd : noDefer l = true) (hout : ¬ LetsOut Q) (hS : S w.drew) (h : S w.drew → WalkF P .any l Q S l.length (Array.replicate l.toArray.size false) a w.drew) : (Code.region id l.toArray true).wpIn (Fence.wide.inRound l0) m P Q a w :=
  wpIn_region_any hm (wpAny_round (noDefer_spec hnd) hout _ _ _ _ (free_any hB (h hS)))
end
end Go.Proofs.Ytianombjgdmbeaa
