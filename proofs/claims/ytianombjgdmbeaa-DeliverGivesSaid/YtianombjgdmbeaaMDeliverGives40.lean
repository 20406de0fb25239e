/-
  A giver at work, by the document: what a note more leaves; its notes, in one form. A slice literal of one note: one step, whatever the frame.
-/
import Derived.Test.YtianombjgdmbeaaMDeliverGives37
import Derived.Test.YtianombjgdmbeaaMDeliverGives39
import Derived.Test.YtianombjgdmbeaaMDeliverGives12
import Derived.Laws.Rows
namespace Go.Proofs.Ytianombjgdmbeaa
set_option linter.unusedSimpArgs false
set_option linter.unusedVariables false
open Go.RowKit

/-- A note comes out, its data in memory of their own. -/
def NoteRes (w : World) (n : Nt) (dn : Nat) (e : Ending) (w' : World) : Prop :=
  ∃ D dc, e = .returned (.agg #[.int .i64 n.kind, .int .i64 n.id, .string n.name, .int .i64 n.size, .int .i64 n.sum, .int .i64 n.at_, .slice D dn dc, .slice none 0 0, .int .i64 n.of_, .int .i64 n.code]) ∧ Own w' w.heap.size 5 1 D dn dc (bvs n.data) ∧ Below w.heap.size w w'
theorem gmeta_res (g : Nat) (x : Gv) (F : Option Addr) (fn fc : Nat) (A : Option Addr) (an ac : Nat) (w : World) (hf : x.file.length = fn) (hg : Blk w g 99 (gvc x F fn fc A an ac)) : Calls Try.prog 67 #[.pointer (some ⟨g, 0, none⟩)] w fun e w' => NoteRes w (metaN x) 0 e w' := by
  refine (gmeta_any g x F fn fc A an ac w hf hg).mono ?_
  rintro e w' ⟨rfl, hb⟩
  exact ⟨none, 0, rfl, Own.none_ _ _ _ _, hb⟩
theorem gend_res (g : Nat) (x : Gv) (F : Option Addr) (fn fc : Nat) (A : Option Addr) (an ac : Nat) (w : World) (hf : x.file.length = fn) (hF : Rd w F (bvs x.file)) (hz : fn ≤ 140737488351300) (hg : Blk w g 99 (gvc x F fn fc A an ac)) : Calls Try.prog 69 #[.pointer (some ⟨g, 0, none⟩)] w fun e w' => NoteRes w (endN x) 0 e w' := by
  refine (gend_any g x F fn fc A an ac w hf hF hz hg).mono ?_
  rintro e w' ⟨rfl, hb⟩
  exact ⟨none, 0, rfl, Own.none_ _ _ _ _, hb⟩
theorem gpiece_res (g : Nat) (x : Gv) (F : Option Addr) (fn fc : Nat) (A : Option Addr) (an ac : Nat) (p q base : Nat) (w : World) (hf : x.file.length = fn) (hF : Own w base 5 1 F fn fc (bvs x.file)) (hz : fn ≤ 65536) (hpq : p < q) (hq : q ≤ fn) (hg : Blk w g 99 (gvc x F fn fc A an ac)) :
    Calls Try.prog 68 #[.pointer (some ⟨g, 0, none⟩), .int .i64 (p : Int), .int .i64 (q : Int)] w fun e w' => NoteRes w (pieceN x p q) (q - p) e w' := by
  refine (gpiece_any g x F fn fc A an ac p q base w hf hF hz hpq hq hg).mono ?_
  rintro e w' ⟨D, dc, rfl, hD, hb⟩
  exact ⟨D, dc, rfl, hD, hb⟩
theorem pieceN_len {x : Gv} {p q : Nat} (h1 : p ≤ q) (h2 : q ≤ x.file.length) : (pieceN x p q).data.length = q - p := by
  have := cutL_len (l := x.file) (a := (p : Int)) (b := (q : Int)) (by omega) (by omega) (by omega)
  show (cutL x.file p q).length = q - p
  omega
/-- A note more lies in the slice that goes out. -/
theorem app_more {w0 W w5 : World} {base p : Nat} {x : Gv} {ns : List Nt} {F A O O' : Option Addr} {fn fc an ac on oc oc' dn dc : Nat} {l : List NtR} {cs : Array Value} {o : Obj} {n : Nt} {D : Option Addr} (hM : GvMem W base x ns F fn fc A an ac O on oc l) (hp : Blk W p 99 cs) (hB : Below base w0 W) (hbw : base ≤ W.heap.size)
    (hg : (W.alloc o).grownBy w5 (blk O)) (hO : Own w5 base 27 10 O' (on + 1) oc' (nts l ++ [.int .i64 n.kind, .int .i64 n.id, .string n.name, .int .i64 n.size, .int .i64 n.sum, .int .i64 n.at_, .slice D dn dc, .slice none 0 0, .int .i64 n.of_, .int .i64 n.code])) (hdn : n.data.length = dn) (hgn : n.gaps = []) (hD : Own W base 5 1 D dn dc (bvs n.data)) (hF : FreshD D F l) :
    Blk w5 p 99 cs ∧ GvMem w5 base x (ns ++ [n]) F fn fc A an ac O' (on + 1) oc' (l ++ [⟨n, D, dc, none, 0⟩]) ∧ Below base w0 w5 := by
  have hT : Turned W w5 (fun i => i = p ∨ blk O = some i) := ((Turned.refl _ _).step ((Below.refl _ _).alloc (Nat.le_refl _) o)).grown hg (fun k hk _ => .inr hk)
  have hne : some p ≠ blk O := fun e => (hM.out.notBlk hp (by decide)) e.symm
  refine ⟨(hp.alloc o).grown hg hne, gv_more (t := 99) hM hp (by decide) (by decide) hT ?_ (by rw [hdn]; exact hD) hgn hF, ?_⟩
  · rw [nts_snoc]
    have e : ncs ⟨n, D, dc, none, 0⟩ = [.int .i64 n.kind, .int .i64 n.id, .string n.name, .int .i64 n.size, .int .i64 n.sum, .int .i64 n.at_, .slice D dn dc, .slice none 0 0, .int .i64 n.of_, .int .i64 n.code] := by
      unfold ncs
      dsimp only
      rw [hdn, hgn]
      rfl
    rw [e]
    exact hO
  · exact Below.grown' (hB.alloc hbw o) hg (by simp; omega) (fun k hk => (hM.out.lt k hk).1)
/-- The rounds' state, by the document. -/
def GrInv (w0 : World) (base p : Nat) (F : Option Addr) (fn fc : Nat) (x : Gv) (j : Nat) (s6 : Value) (w : World) : Prop :=
  ∃ y ms A an ac O on oc l, s6 = .slice O on oc ∧ Blk w p 99 (gvc y F fn fc A an ac) ∧ GvMem w base y ms F fn fc A an ac O on oc l ∧ Hid (GvI y) ∧ Hid (y.burst = x.burst) ∧ (on : Int) + j = x.burst ∧ Hid (givN j y ms = givN x.burst.toNat x []) ∧ Below base w0 w
/-- Behind the rounds. -/
def GrEnd (w0 : World) (base p : Nat) (F : Option Addr) (fn fc : Nat) (x : Gv) (s6 : Value) (w : World) : Prop :=
  ∃ y ms A an ac O on oc l, s6 = .slice O on oc ∧ Blk w p 99 (gvc y F fn fc A an ac) ∧ GvMem w base y ms F fn fc A an ac O on oc l ∧ Hid (GvI y) ∧ on ≤ 60 ∧ Hid (givN x.burst.toNat x [] = (y, ms)) ∧ Below base w0 w
theorem GrInv.done {w0 w : World} {base p : Nat} {F : Option Addr} {fn fc : Nat} {x : Gv} {s6 : Value} (h : GrInv w0 base p F fn fc x 0 s6 w) (hb : x.burst ≤ 50) : GrEnd w0 base p F fn fc x s6 w := by
  obtain ⟨y, ms, A, an, ac, O, on, oc, l, h1, h2, h3, h4, h5, h6, h7, h8⟩ := h
  exact ⟨y, ms, A, an, ac, O, on, oc, l, h1, h2, h3, h4, by omega, Lib.hid (h7.out.symm.trans rfl), h8⟩
/-- A round that gives a note, and goes on. -/
theorem GrInv.next {w0 w : World} {base p : Nat} {F A O : Option Addr} {fn fc an ac on oc : Nat} {l : List NtR} {x y y' : Gv} {ms : List Nt} {n : Nt} {j : Nat} (hr : givR y = some (y', n, false)) (hI : Hid (GvI y)) (hbu : Hid (y.burst = x.burst)) (hj : (on : Int) + (j + 1 : Nat) = x.burst) (hN : Hid (givN (j + 1) y ms = givN x.burst.toNat x []))
    (hp : Blk w p 99 (gvc y' F fn fc A an ac)) (hM : GvMem w base y' (ms ++ [n]) F fn fc A an ac O (on + 1) oc l) (hB : Below base w0 w) : GrInv w0 base p F fn fc x j (.slice O (on + 1) oc) w := by
  obtain ⟨k1, k2, k3, k4⟩ := givR_keep hI.out hr
  exact ⟨y', ms ++ [n], A, an, ac, O, on + 1, oc, l, rfl, hp, hM, Lib.hid k1, Lib.hid (k3.trans hbu.out), by omega, Lib.hid ((givN_go hr j ms).symm.trans hN.out), hB⟩
/-- A round that gives the last note. -/
theorem GrEnd.last {w0 w : World} {base p : Nat} {F A O : Option Addr} {fn fc an ac on oc : Nat} {l : List NtR} {x y y' : Gv} {ms : List Nt} {n : Nt} {j : Nat} (hr : givR y = some (y', n, true)) (hI : Hid (GvI y)) (hon : on + 1 ≤ 60) (hN : Hid (givN (j + 1) y ms = givN x.burst.toNat x []))
    (hp : Blk w p 99 (gvc y' F fn fc A an ac)) (hM : GvMem w base y' (ms ++ [n]) F fn fc A an ac O (on + 1) oc l) (hB : Below base w0 w) : GrEnd w0 base p F fn fc x (.slice O (on + 1) oc) w := by
  obtain ⟨k1, k2, k3, k4⟩ := givR_keep hI.out hr
  exact ⟨y', ms ++ [n], A, an, ac, O, on + 1, oc, l, rfl, hp, hM, Lib.hid k1, hon, Lib.hid (hN.out.symm.trans (givN_last hr j ms)), hB⟩
/-- A round in which nothing is left. -/
theorem GrEnd.none_ {w0 w : World} {base p : Nat} {F A O : Option Addr} {fn fc an ac on oc : Nat} {l : List NtR} {x y : Gv} {ms : List Nt} {j : Nat} (hr : givR y = none) (hI : Hid (GvI y)) (hon : on ≤ 60) (hN : Hid (givN (j + 1) y ms = givN x.burst.toNat x []))
    (hp : Blk w p 99 (gvc y F fn fc A an ac)) (hM : GvMem w base y ms F fn fc A an ac O on oc l) (hB : Below base w0 w) : GrEnd w0 base p F fn fc x (.slice O on oc) w :=
  ⟨y, ms, A, an, ac, O, on, oc, l, rfl, hp, hM, hI, hon, Lib.hid (hN.out.symm.trans (givN_none hr (j + 1) ms)), hB⟩
/-- The first gap is struck, by the document. -/
theorem gr_drop {W : World} {base q : Nat} {x y : Gv} {ns : List Nt} {F O : Option Addr} {fn fc an ac on oc g o : Nat} {l : List NtR} {r : Int × Int} (hq : Blk W q 99 (gvc x F fn fc (some ⟨g, o, none⟩) an ac)) (hM : GvMem W base x ns F fn fc (some ⟨g, o, none⟩) an ac O on oc l) {rest : List (Int × Int)} (hx : x.again = r :: rest) (hy : y = { x with again := rest }) {A' : Option Addr} {ac' : Nat} (h1 : ac = 1 → A' = some ⟨g, o, none⟩) (h2 : ac ≠ 1 → A' = some ⟨g, o + 2, none⟩) (hac : ac' = ac - 1) : Blk (W.setCell ⟨q, 8, none⟩ (.slice A' (an - 1) ac')) q 99 (gvc y F fn fc A' (an - 1) ac') ∧ GvMem (W.setCell ⟨q, 8, none⟩ (.slice A' (an - 1) ac')) base y ns F fn fc A' (an - 1) ac' O on oc l := by
  subst hac
  have hb := hq.set_ 8 (.slice A' (an - 1) (ac - 1))
  have hN := hM.far_ (i := 8) hq (by decide) (by decide) (by decide) (.slice A' (an - 1) (ac - 1))
  have hal := hN.al
  have hg := gps_drop r rest
  subst hy
  rw [hx] at hal
  simp only [List.length_cons] at hal
  have hag := hN.again
  rw [hx] at hag
  have hB : blk A' = some g := by
    by_cases c : ac = 1
    · rw [h1 c]; rfl
    · rw [h2 c]; rfl
  refine ⟨hb, hN.fl, by show rest.length = an - 1; omega, hN.nl, hN.ln, hN.file, ?_, hN.out, hN.parts, fun i z hz => ⟨(hN.far i z hz).1, fun k hk => (hN.far i z hz).2 k (by rw [← hk, hB]; rfl)⟩⟩
  show Own _ base 66 2 A' (an - 1) (ac - 1) (gps rest)
  rw [← hg]
  by_cases c : ac = 1
  · have e := h1 c
    subst e
    rw [show ac - 1 = 0 by omega] at hag ⊢
    exact hag.drop_all (by omega) c
  · have e := h2 c
    subst e
    exact hag.drop1 (by omega) c
end Go.Proofs.Ytianombjgdmbeaa
namespace Go.Proofs.Ytianombjgdmbeaa
set_option linter.unusedSimpArgs false
set_option linter.unusedVariables false
open Go.RowKit

set_option maxHeartbeats 1600000 in
set_option maxRecDepth 100000 in
theorem run_noteRow (w : World) (k id : Int) (nm : ByteArray) (sz sm at_ : Int) (D : Option Addr) (dn dc : Nat) (G : Option Addr) (gn gc : Nat) (of_ code : Int) :
    (Instr.buildSlice 45 1 #[(0, .agg #[.int .i64 k, .int .i64 id, .string nm, .int .i64 sz, .int .i64 sm, .int .i64 at_, .slice D dn dc, .slice G gn gc, .int .i64 of_, .int .i64 code])]).run Try.prog w = .ok (.slice (some ⟨w.heap.size, 0, none⟩) 1 1) (w.alloc (.cells #[.int .i64 k, .int .i64 id, .string nm, .int .i64 sz, .int .i64 sm, .int .i64 at_, .slice D dn dc, .slice G gn gc, .int .i64 of_, .int .i64 code] 27)) := by
  obtain ⟨j0, hj0, hy0, hy1, hy2⟩ := info_parts noteinfo
  simp [Instr.buildSlice, run_underlying Try.underlying45, sizeOf, typeInfo, zeroValue, hj0, hy0, hy1, newRow, Instr.fill, go_sem]
theorem wpList_noteRow {ops : Array Oper} {rest : List Oper} {o : Oper} {a : Act} {w : World} {Q : Exit → Act → World → Prop} (hgd : o.guard = none) (x : Operand) (ho : o.op = .buildSlice 45 1 #[(0, x)])
    (k id : Int) (nm : ByteArray) (sz sm at_ : Int) (D : Option Addr) (dn dc : Nat) (G : Option Addr) (gn gc : Nat) (of_ code : Int) (hx : a.eval x = .agg #[.int .i64 k, .int .i64 id, .string nm, .int .i64 sz, .int .i64 sm, .int .i64 at_, .slice D dn dc, .slice G gn gc, .int .i64 of_, .int .i64 code])
    (h : wpList Try.prog ops Q rest (a.put o.dst (.slice (some ⟨w.heap.size, 0, none⟩) 1 1)) (w.alloc (.cells #[.int .i64 k, .int .i64 id, .string nm, .int .i64 sz, .int .i64 sm, .int .i64 at_, .slice D dn dc, .slice G gn gc, .int .i64 of_, .int .i64 code] 27))) : wpList Try.prog ops Q (o :: rest) a w :=
  wpList_plain hgd fun _ hK => by
    unfold Oper.wp execOp
    simp only [ho, Sem.run_bind, Sem.run_pure, Result.andThen_ok, List.map_toArray, List.map_cons, List.map_nil, hx, run_noteRow]
    exact hK _ _ h
end Go.Proofs.Ytianombjgdmbeaa
