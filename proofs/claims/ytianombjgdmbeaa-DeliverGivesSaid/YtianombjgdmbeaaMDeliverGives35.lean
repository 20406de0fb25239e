/-
  A giver at work: its meta, its end ((*giver).meta, (*giver).end). A giver at work: a piece of its file goes out ((*giver).piece).
-/
import Derived.Test.YtianombjgdmbeaaMDeliverGives32
import Derived.Test.YtianombjgdmbeaaMDeliverGives34
import Derived.StillTail
import Derived.StillTactics
import Derived.StillTailTactics
namespace Go.Proofs.Ytianombjgdmbeaa
set_option linter.unusedSimpArgs false
set_option linter.unusedVariables false
open Go.RowKit

/-- Sum of a slice of the call's own, whatever it is. -/
theorem sum_own (base : Nat) (F : Option Addr) (fn fc : Nat) (l : List UInt8) (w : World) (h : Own w base 5 1 F fn fc (bvs l)) (hl : l.length = fn) (hz : fn ≤ 140737488351300) :
    Calls Try.prog 17 #[.slice F fn fc] w fun e w' => e = .returned (.int .i64 (fileSum l)) ∧ Below w.heap.size w w' := by
  rcases F with _ | ⟨b, off, spot⟩
  · have h1 := h.nil rfl
    have h2 := h.le
    obtain rfl : fn = 0 := by omega
    have : l = [] := List.eq_nil_of_length_eq_zero hl
    subst this
    exact sum_none fc w
  · obtain ⟨cur, hs, -, hh, -⟩ := h.at_ _ rfl
    simp only at hs
    subst hs
    exact sum_some b off fn fc l w hl h.rd h.le hz (lt_of_block hh)
set_option maxHeartbeats 3200000 in
set_option maxRecDepth 100000 in
theorem meta_at (x : Gv) (F : Option Addr) (fn fc : Nat) (A : Option Addr) (an ac base q : Nat) (ns : List Nt) (w : World) (h : GwAt w base q F fn fc A an ac x ns) (hon : ns.length ≤ 100000) (hbase : base ≤ w.heap.size) (hbq : base ≤ q) :
    Calls Try.prog 101 #[.pointer (some ⟨q, 0, none⟩)] w fun e w' => e = .returned (.tuple #[]) ∧ GwAt w' base q F fn fc A an ac x (ns ++ [metaN x]) ∧ Below base w w' := by
  obtain ⟨O, on, oc, l, hq, hM⟩ := h
  have CS := Lib.hid (say_at x F fn fc A an ac O on oc l ⟨1, 0, x.name, (fn : Int), 0, 0, [], [], 0, 0⟩ (metaN x) none 0 base q ns w.drew hq.drew hM.drew (by unfold metaN; rw [hM.fl]) (Own.none_ _ _ _ _) rfl (FreshD.none_ _ _) hon hbase hbq)
  have HX : Hid (x = ⟨x.id, x.name, x.file, x.most, x.burst, x.stage, x.first, x.at_, x.again, x.timer, x.patience, x.tries, x.limit⟩) := Lib.hid rfl
  clear hM
  have d1 : w.drew.cell? ⟨q, 1, none⟩ = some (.string x.name) := hq.drew.cell' (i := 1) rfl
  have d2 : w.drew.cell? ⟨q, 2, none⟩ = some (.slice F fn fc) := hq.drew.cell' (i := 2) rfl
  unfold ntv at CS
  dsimp only [List.length_nil] at CS
  clear hq
  go_enter Try.func101, Try.ntmps101
  refine heldRegion (fun v => v.cell? ⟨q, 1, none⟩ = some (.string x.name) ∧ v.cell? ⟨q, 2, none⟩ = some (.slice F fn fc)) 13 (by kernel_rfl) (by kernel_rfl) ⟨d1, d2⟩ (fun hSS => ?_)
  clear hSS
  refine walk_take 0 (v := ?va0) rfl (by kernel_rfl) (by kernel_rfl) (by kernel_rfl) (fun _ _ _ h => h) (⟨d1, d2⟩) (Or.inl ⟨by rfl, ?ya0⟩) ?ra0
  case ya0 => intro w hSw; obtain ⟨hw1, hw2⟩ := hSw; (try dsimp only at hSw); go_simp; try rfl
  case' ra0 => try simp only [List.getElem_toArray, List.getElem_cons_succ, List.getElem_cons_zero, Act.put, List.setIfInBounds_toArray, List.set_cons_zero, List.set_cons_succ]
  refine walk_take 1 (v := ?va1) rfl (by kernel_rfl) (by kernel_rfl) (by kernel_rfl) (fun _ _ _ h => h) (⟨d1, d2⟩) (Or.inl ⟨by rfl, ?ya1⟩) ?ra1
  case ya1 => intro w hSw; obtain ⟨hw1, hw2⟩ := hSw; (try dsimp only at hSw); go_simp; try rfl
  case' ra1 => try simp only [List.getElem_toArray, List.getElem_cons_succ, List.getElem_cons_zero, Act.put, List.setIfInBounds_toArray, List.set_cons_zero, List.set_cons_succ]
  refine walk_take 2 (v := ?va2) rfl (by kernel_rfl) (by kernel_rfl) (by kernel_rfl) (fun _ _ _ h => h) (⟨d1, d2⟩) (Or.inl ⟨by rfl, ?ya2⟩) ?ra2
  case ya2 => intro w hSw; obtain ⟨hw1, hw2⟩ := hSw; (try dsimp only at hSw); go_simp; try rfl
  case' ra2 => try simp only [List.getElem_toArray, List.getElem_cons_succ, List.getElem_cons_zero, Act.put, List.setIfInBounds_toArray, List.set_cons_zero, List.set_cons_succ]
  refine walk_take 3 (v := ?va3) rfl (by kernel_rfl) (by kernel_rfl) (by kernel_rfl) (fun _ _ _ h => h) (⟨d1, d2⟩) (Or.inl ⟨by rfl, ?ya3⟩) ?ra3
  case ya3 => intro w hSw; obtain ⟨hw1, hw2⟩ := hSw; (try dsimp only at hSw); go_simp; try rfl
  case' ra3 => try simp only [List.getElem_toArray, List.getElem_cons_succ, List.getElem_cons_zero, Act.put, List.setIfInBounds_toArray, List.set_cons_zero, List.set_cons_succ]
  refine walk_take 4 (v := ?va4) rfl (by kernel_rfl) (by kernel_rfl) (by kernel_rfl) (fun _ _ _ h => h) (⟨d1, d2⟩) (Or.inl ⟨by rfl, ?ya4⟩) ?ra4
  case ya4 => intro w hSw; obtain ⟨hw1, hw2⟩ := hSw; (try dsimp only at hSw); go_simp; try rfl
  case' ra4 => try simp only [List.getElem_toArray, List.getElem_cons_succ, List.getElem_cons_zero, Act.put, List.setIfInBounds_toArray, List.set_cons_zero, List.set_cons_succ]
  refine walk_take 5 (v := ?va5) rfl (by kernel_rfl) (by kernel_rfl) (by kernel_rfl) (fun _ _ _ h => h) (⟨d1, d2⟩) (Or.inl ⟨by rfl, ?ya5⟩) ?ra5
  case ya5 => intro w hSw; obtain ⟨hw1, hw2⟩ := hSw; (try dsimp only at hSw); go_simp; try rfl
  case' ra5 => try simp only [List.getElem_toArray, List.getElem_cons_succ, List.getElem_cons_zero, Act.put, List.setIfInBounds_toArray, List.set_cons_zero, List.set_cons_succ]
  refine walk_take 6 (v := ?va6) rfl (by kernel_rfl) (by kernel_rfl) (by kernel_rfl) (fun _ _ _ h => h) (⟨d1, d2⟩) (Or.inl ⟨by rfl, ?ya6⟩) ?ra6
  case ya6 => intro w hSw; obtain ⟨hw1, hw2⟩ := hSw; (try dsimp only at hSw); go_simp; try rfl
  case' ra6 => try simp only [List.getElem_toArray, List.getElem_cons_succ, List.getElem_cons_zero, Act.put, List.setIfInBounds_toArray, List.set_cons_zero, List.set_cons_succ]
  refine walk_take 7 (v := ?va7) rfl (by kernel_rfl) (by kernel_rfl) (by kernel_rfl) (fun _ _ _ h => h) (⟨d1, d2⟩) (Or.inl ⟨by rfl, ?ya7⟩) ?ra7
  case ya7 => intro w hSw; obtain ⟨hw1, hw2⟩ := hSw; (try dsimp only at hSw); go_simp; try rfl
  case' ra7 => try simp only [List.getElem_toArray, List.getElem_cons_succ, List.getElem_cons_zero, Act.put, List.setIfInBounds_toArray, List.set_cons_zero, List.set_cons_succ]
  refine walk_take 8 (v := ?va8) rfl (by kernel_rfl) (by kernel_rfl) (by kernel_rfl) (fun _ _ _ h => h) (⟨d1, d2⟩) (Or.inl ⟨by rfl, ?ya8⟩) ?ra8
  case ya8 => intro w hSw; obtain ⟨hw1, hw2⟩ := hSw; (try dsimp only at hSw); go_simp; try rfl
  case' ra8 => try simp only [List.getElem_toArray, List.getElem_cons_succ, List.getElem_cons_zero, Act.put, List.setIfInBounds_toArray, List.set_cons_zero, List.set_cons_succ]
  refine walk_take 9 (v := ?va9) rfl (by kernel_rfl) (by kernel_rfl) (by kernel_rfl) (fun _ _ _ h => h) (⟨d1, d2⟩) (Or.inl ⟨by rfl, ?ya9⟩) ?ra9
  case ya9 => intro w hSw; obtain ⟨hw1, hw2⟩ := hSw; (try dsimp only at hSw); go_simp; try rfl
  case' ra9 => try simp only [List.getElem_toArray, List.getElem_cons_succ, List.getElem_cons_zero, Act.put, List.setIfInBounds_toArray, List.set_cons_zero, List.set_cons_succ]
  refine walk_take 10 (v := ?va10) rfl (by kernel_rfl) (by kernel_rfl) (by kernel_rfl) (fun _ _ _ h => h) (⟨d1, d2⟩) (Or.inl ⟨by rfl, ?ya10⟩) ?ra10
  case ya10 => intro w hSw; obtain ⟨hw1, hw2⟩ := hSw; (try dsimp only at hSw); go_simp; try rfl
  case' ra10 => try simp only [List.getElem_toArray, List.getElem_cons_succ, List.getElem_cons_zero, Act.put, List.setIfInBounds_toArray, List.set_cons_zero, List.set_cons_succ]
  refine walk_take 11 (v := ?va11) rfl (by kernel_rfl) (by kernel_rfl) (by kernel_rfl) (fun _ _ _ h => h) (⟨d1, d2⟩) (Or.inl ⟨by rfl, ?ya11⟩) ?ra11
  case ya11 => intro w hSw; obtain ⟨hw1, hw2⟩ := hSw; (try dsimp only at hSw); go_simp; try rfl
  case' ra11 => try simp only [List.getElem_toArray, List.getElem_cons_succ, List.getElem_cons_zero, Act.put, List.setIfInBounds_toArray, List.set_cons_zero, List.set_cons_succ]
  refine walk_take 12 (v := ?va12) rfl (by kernel_rfl) (by kernel_rfl) (by kernel_rfl) (fun _ _ _ h => h) (⟨d1, d2⟩) (Or.inl ⟨by rfl, ?ya12⟩) ?ra12
  case ya12 => intro w hSw; obtain ⟨hw1, hw2⟩ := hSw; (try dsimp only at hSw); go_simp; try rfl
  case' ra12 => try simp only [List.getElem_toArray, List.getElem_cons_succ, List.getElem_cons_zero, Act.put, List.setIfInBounds_toArray, List.set_cons_zero, List.set_cons_succ]
  refine walk_tail (by kernel_rfl) ?_
  simp only [List.drop_succ_cons, List.drop_zero]
  go_wp2_with fail
  refine CS.out.mono ?_
  rintro e w' ⟨O', oc', rfl, hb, hM', hB⟩
  go_wp2_with fail
  go_end0
  exact ⟨rfl, ⟨O', on + 1, oc', _, hb, hM'⟩, ((Below.refl _ _).drew).trans hB⟩
set_option maxHeartbeats 3200000 in
set_option maxRecDepth 100000 in
theorem end_at (x : Gv) (F : Option Addr) (fn fc : Nat) (A : Option Addr) (an ac base q : Nat) (ns : List Nt) (w : World) (h : GwAt w base q F fn fc A an ac x ns) (hfn : fn ≤ 140737488351300) (hon : ns.length ≤ 100000) (hbase : base ≤ w.heap.size) (hbq : base ≤ q) :
    Calls Try.prog 104 #[.pointer (some ⟨q, 0, none⟩)] w fun e w' => e = .returned (.tuple #[]) ∧ GwAt w' base q F fn fc A an ac x (ns ++ [endN x]) ∧ Below base w w' := by
  obtain ⟨O, on, oc, l, hq, hM⟩ := h
  have CU := Lib.hid (sum_own base F fn fc x.file w.drew hM.file.drew hM.fl hfn)
  have CS := Lib.hid (fun (V : World) (h1 : Below w.heap.size w V) => say_at x F fn fc A an ac O on oc l ⟨3, 0, ⟨#[]⟩, (fn : Int), fileSum x.file, 0, [], [], 0, 0⟩ (endN x) none 0 base q ns V (hq.step h1) (hM.step h1) (by unfold endN; rw [hM.fl]) (Own.none_ _ _ _ _) rfl (FreshD.none_ _ _) hon (by have := h1.size; omega) hbq)
  clear hM
  have d2 : w.drew.cell? ⟨q, 2, none⟩ = some (.slice F fn fc) := hq.drew.cell' (i := 2) rfl
  unfold ntv at CS
  dsimp only [List.length_nil] at CS
  go_enter Try.func104, Try.ntmps104
  refine heldRegion (fun v => v.cell? ⟨q, 2, none⟩ = some (.slice F fn fc)) 14 (by kernel_rfl) (by kernel_rfl) d2 (fun hSS => ?_)
  clear hSS
  refine walk_take 0 (v := ?va0) rfl (by kernel_rfl) (by kernel_rfl) (by kernel_rfl) (fun _ _ _ h => h) (d2) (Or.inl ⟨by rfl, ?ya0⟩) ?ra0
  case ya0 => intro w hSw; (try dsimp only at hSw); go_simp; try rfl
  case' ra0 => try simp only [List.getElem_toArray, List.getElem_cons_succ, List.getElem_cons_zero, Act.put, List.setIfInBounds_toArray, List.set_cons_zero, List.set_cons_succ]
  refine walk_take 1 (v := ?va1) rfl (by kernel_rfl) (by kernel_rfl) (by kernel_rfl) (fun _ _ _ h => h) (d2) (Or.inl ⟨by rfl, ?ya1⟩) ?ra1
  case ya1 => intro w hSw; (try dsimp only at hSw); go_simp; try rfl
  case' ra1 => try simp only [List.getElem_toArray, List.getElem_cons_succ, List.getElem_cons_zero, Act.put, List.setIfInBounds_toArray, List.set_cons_zero, List.set_cons_succ]
  refine walk_take 2 (v := ?va2) rfl (by kernel_rfl) (by kernel_rfl) (by kernel_rfl) (fun _ _ _ h => h) (d2) (Or.inl ⟨by rfl, ?ya2⟩) ?ra2
  case ya2 => intro w hSw; (try dsimp only at hSw); go_simp; try rfl
  case' ra2 => try simp only [List.getElem_toArray, List.getElem_cons_succ, List.getElem_cons_zero, Act.put, List.setIfInBounds_toArray, List.set_cons_zero, List.set_cons_succ]
  refine walk_take 3 (v := ?va3) rfl (by kernel_rfl) (by kernel_rfl) (by kernel_rfl) (fun _ _ _ h => h) (d2) (Or.inl ⟨by rfl, ?ya3⟩) ?ra3
  case ya3 => intro w hSw; (try dsimp only at hSw); go_simp; try rfl
  case' ra3 => try simp only [List.getElem_toArray, List.getElem_cons_succ, List.getElem_cons_zero, Act.put, List.setIfInBounds_toArray, List.set_cons_zero, List.set_cons_succ]
  refine walk_take 4 (v := ?va4) rfl (by kernel_rfl) (by kernel_rfl) (by kernel_rfl) (fun _ _ _ h => h) (d2) (Or.inl ⟨by rfl, ?ya4⟩) ?ra4
  case ya4 => intro w hSw; (try dsimp only at hSw); go_simp; try rfl
  case' ra4 => try simp only [List.getElem_toArray, List.getElem_cons_succ, List.getElem_cons_zero, Act.put, List.setIfInBounds_toArray, List.set_cons_zero, List.set_cons_succ]
  refine walk_take 5 (v := ?va5) rfl (by kernel_rfl) (by kernel_rfl) (by kernel_rfl) (fun _ _ _ h => h) (d2) (Or.inl ⟨by rfl, ?ya5⟩) ?ra5
  case ya5 => intro w hSw; (try dsimp only at hSw); go_simp; try rfl
  case' ra5 => try simp only [List.getElem_toArray, List.getElem_cons_succ, List.getElem_cons_zero, Act.put, List.setIfInBounds_toArray, List.set_cons_zero, List.set_cons_succ]
  refine walk_take 6 (v := ?va6) rfl (by kernel_rfl) (by kernel_rfl) (by kernel_rfl) (fun _ _ _ h => h) (d2) (Or.inl ⟨by rfl, ?ya6⟩) ?ra6
  case ya6 => intro w hSw; (try dsimp only at hSw); go_simp; try rfl
  case' ra6 => try simp only [List.getElem_toArray, List.getElem_cons_succ, List.getElem_cons_zero, Act.put, List.setIfInBounds_toArray, List.set_cons_zero, List.set_cons_succ]
  refine walk_take 7 (v := ?va7) rfl (by kernel_rfl) (by kernel_rfl) (by kernel_rfl) (fun _ _ _ h => h) (d2) (Or.inl ⟨by rfl, ?ya7⟩) ?ra7
  case ya7 => intro w hSw; (try dsimp only at hSw); go_simp; try rfl
  case' ra7 => try simp only [List.getElem_toArray, List.getElem_cons_succ, List.getElem_cons_zero, Act.put, List.setIfInBounds_toArray, List.set_cons_zero, List.set_cons_succ]
  refine walk_take 8 (v := ?va8) rfl (by kernel_rfl) (by kernel_rfl) (by kernel_rfl) (fun _ _ _ h => h) (d2) (Or.inl ⟨by rfl, ?ya8⟩) ?ra8
  case ya8 => intro w hSw; (try dsimp only at hSw); go_simp; try rfl
  case' ra8 => try simp only [List.getElem_toArray, List.getElem_cons_succ, List.getElem_cons_zero, Act.put, List.setIfInBounds_toArray, List.set_cons_zero, List.set_cons_succ]
  refine walk_take 9 (v := ?va9) rfl (by kernel_rfl) (by kernel_rfl) (by kernel_rfl) (fun _ _ _ h => h) (d2) (Or.inl ⟨by rfl, ?ya9⟩) ?ra9
  case ya9 => intro w hSw; (try dsimp only at hSw); go_simp; try rfl
  case' ra9 => try simp only [List.getElem_toArray, List.getElem_cons_succ, List.getElem_cons_zero, Act.put, List.setIfInBounds_toArray, List.set_cons_zero, List.set_cons_succ]
  refine walk_take 10 (v := ?va10) rfl (by kernel_rfl) (by kernel_rfl) (by kernel_rfl) (fun _ _ _ h => h) (d2) (Or.inl ⟨by rfl, ?ya10⟩) ?ra10
  case ya10 => intro w hSw; (try dsimp only at hSw); go_simp; try rfl
  case' ra10 => try simp only [List.getElem_toArray, List.getElem_cons_succ, List.getElem_cons_zero, Act.put, List.setIfInBounds_toArray, List.set_cons_zero, List.set_cons_succ]
  refine walk_take 11 (v := ?va11) rfl (by kernel_rfl) (by kernel_rfl) (by kernel_rfl) (fun _ _ _ h => h) (d2) (Or.inl ⟨by rfl, ?ya11⟩) ?ra11
  case ya11 => intro w hSw; (try dsimp only at hSw); go_simp; try rfl
  case' ra11 => try simp only [List.getElem_toArray, List.getElem_cons_succ, List.getElem_cons_zero, Act.put, List.setIfInBounds_toArray, List.set_cons_zero, List.set_cons_succ]
  refine walk_step 12 rfl (by kernel_rfl) (by kernel_rfl) (fun K hK => ?c12)
  case c12 =>
    go_simp
    refine CU.out.mono ?_
    rintro e w1 ⟨rfl, hb⟩
    have hb' : Below w.heap.size w w1 := ((Below.refl _ _).drew).trans hb
    have d3 : w1.cell? ⟨q, 2, none⟩ = some (.slice F fn fc) := (hq.step hb').cell' (i := 2) rfl
    refine hK _ _ d3 ?_
    clear hK K hb d2 CU
    try simp only [List.getElem_toArray, List.getElem_cons_succ, List.getElem_cons_zero, Act.put, List.setIfInBounds_toArray, List.set_cons_zero, List.set_cons_succ]
    refine walk_take 13 (v := ?vb13) rfl (by kernel_rfl) (by kernel_rfl) (by kernel_rfl) (fun _ _ _ h => h) (d3) (Or.inl ⟨by rfl, ?yb13⟩) ?rb13
    case yb13 => intro w hSw; (try dsimp only at hSw); go_simp; try rfl
    case' rb13 => try simp only [List.getElem_toArray, List.getElem_cons_succ, List.getElem_cons_zero, Act.put, List.setIfInBounds_toArray, List.set_cons_zero, List.set_cons_succ]
    refine walk_tail (by kernel_rfl) ?_
    simp only [List.drop_succ_cons, List.drop_zero]
    go_wp2_with fail
    refine (CS.out _ hb').mono ?_
    rintro e w' ⟨O', oc', rfl, hb, hM', hB⟩
    go_wp2_with fail
    go_end0
    exact ⟨rfl, ⟨O', on + 1, oc', _, hb, hM'⟩, (hb'.mono hbase).trans hB⟩
end Go.Proofs.Ytianombjgdmbeaa
namespace Go.Proofs.Ytianombjgdmbeaa
set_option linter.unusedSimpArgs false
set_option linter.unusedVariables false
open Go.RowKit

theorem cut_bvs (l : List UInt8) (p r : Nat) : bvs (cutL l p r) = ((bvs l).take r).drop p := by simp [cutL, bvs, List.map_drop, List.map_take]
/-- What piece leaves. -/
def PiecePost (w w' : World) (base q : Nat) (F : Option Addr) (fn fc : Nat) (A : Option Addr) (an ac : Nat) (x : Gv) (ns : List Nt) (r : Nat) (e : Ending) : Prop := e = .returned (.int .i64 (r : Int)) ∧ GwAt w' base q F fn fc A an ac x ns ∧ Below base w w'
set_option maxHeartbeats 3200000 in
set_option maxRecDepth 100000 in
theorem piece_at (x : Gv) (F : Option Addr) (fn fc : Nat) (A : Option Addr) (an ac base q : Nat) (ns : List Nt) (p t r : Nat) (w : World) (h : GwAt w base q F fn fc A an ac x ns) (hm : 1 ≤ x.most ∧ x.most ≤ 1024) (hr : min (t : Int) ((p : Int) + x.most) = (r : Int)) (hpt : p < t) (ht : t ≤ fn) (hfn : fn ≤ 65536) (hon : ns.length ≤ 100000) (hbase : base ≤ w.heap.size) (hbq : base ≤ q) :
    Calls Try.prog 103 #[.pointer (some ⟨q, 0, none⟩), .int .i64 p, .int .i64 t] w fun e w' => PiecePost w w' base q F fn fc A an ac x (ns ++ [pieceN x p r]) r e := by
  obtain ⟨O, on, oc, l, hq, hM⟩ := h
  have hpr : p < r := by omega
  have hrt : r ≤ t := by omega
  have hle := hM.file.le
  obtain ⟨b, off, rfl, hb1, hb2⟩ := hM.file.form (by omega)
  have hlen : (cutL x.file p r).length = r - p := by
    have := cutL_len (l := x.file) (a := (p : Int)) (b := (r : Int)) (by omega) (by omega) (by rw [hM.fl]; omega)
    omega
  have hR : Rd w (some ⟨b, off + p, none⟩) (bvs (cutL x.file p r)) := by rw [cut_bvs]; exact (hM.file.rd.take r).drop_lit p
  have CC := Lib.hid (fun c => clone_n (some ⟨b, off + p, none⟩) (cutL x.file p r) (r - p) c w hlen hR (by omega))
  have CS := Lib.hid (fun (V : World) (D : Option Addr) (dc : Nat) (h1 : Below w.heap.size w V) (hD : Own V w.heap.size 5 1 D (r - p) dc (bvs (cutL x.file p r))) => say_at x (some ⟨b, off, none⟩) fn fc A an ac O on oc l ⟨2, 0, ⟨#[]⟩, 0, 0, (p : Int), cutL x.file p r, [], 0, 0⟩ (pieceN x p r) D dc base q ns V (hq.step h1) (hM.step h1) rfl
    (by show Own V base 5 1 D (cutL x.file p r).length dc (bvs (cutL x.file p r)); rw [hlen]; exact hD.mono hbase) rfl (FreshD.new hM (fun i hi => (hD.lt i hi).1)) hon (by have := h1.size; omega) hbq)
  unfold ntv at CS
  dsimp only at CS
  rw [hlen] at CS
  have hm1 := hm.1
  have hm2 := hm.2
  have hm3 : 0 ≤ (p : Int) + x.most := by omega
  have d3 : w.cell? ⟨q, 3, none⟩ = some (.int .i64 x.most) := hq.cell' (i := 3) rfl
  have d2 : w.cell? ⟨q, 2, none⟩ = some (.slice (some ⟨b, off, none⟩) fn fc) := hq.cell' (i := 2) rfl
  have HLN := Lib.hid hlen
  clear hM hR hlen hm
  have ways : (¬ (p : Int) + x.most < (t : Int) ∧ r = t) ∨ ((p : Int) + x.most = (r : Int) ∧ (r : Int) < (t : Int)) := by omega
  clear hr
  rcases ways with ⟨hA, rfl⟩ | ⟨hs, hB⟩
  ·
    go_enter Try.func103, Try.ntmps103
    go_upto_region 2 with fail
    go_wp2_with fail
    refine (CC.out _).mono ?_
    rintro e w1 ⟨D, dc, rfl, hD, hb⟩
    go_wp2_with fail
    refine (CS.out _ D dc hb hD).mono ?_
    rintro e w2 ⟨O', oc', rfl, hb2, hM2, hBB⟩
    go_wp2_with fail
    go_ret
    exact ⟨rfl, ⟨O', on + 1, oc', _, hb2, hM2⟩, (hb.mono hbase).trans hBB⟩
  ·
    have hs0 := IntWalk.i64_in ((p : Int) + x.most) (by omega)
    rw [hs] at hs0
    have hs1 : (r : Int) ≤ 65536 := by omega
    clear hm1 hm2 hm3
    go_enter Try.func103, Try.ntmps103
    go_upto_region 2 with fail
    go_wp2_with fail
    refine (CC.out _).mono ?_
    rintro e w1 ⟨D, dc, rfl, hD, hb⟩
    go_wp2_with fail
    refine (CS.out _ D dc hb hD).mono ?_
    rintro e w2 ⟨O', oc', rfl, hb2, hM2, hBB⟩
    go_wp2_with fail
    go_ret
    exact ⟨rfl, ⟨O', on + 1, oc', _, hb2, hM2⟩, (hb.mono hbase).trans hBB⟩
end Go.Proofs.Ytianombjgdmbeaa
