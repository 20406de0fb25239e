/-
  (*hand).late: what was sent is sent once more, if it has to be. (*hand).more: new ones are sent.
-/
import Derived.Test.YtppmdamcdhmcpaaMCommandSteps19
import Derived.Test.YtppmdamcdhmcpaaMCommandSteps23
import Derived.Test.YtppmdamcdhmcpaaMCommandSteps14
namespace Go.Proofs.Ytppmdamcdhmcpaa
set_option linter.unusedSimpArgs false
set_option linter.unusedVariables false
open Go.RowKit

/-- k went up once more. -/
def LateAt (W : World) (base p : Nat) (h : Hnd) (S A R : Option Addr) (n1 c n2 d nR : Nat) (sl rl : List RowR) (k : Nat) (V : World) : Prop :=
  ∃ R' cR' rl', Blk V p 45 #[.int .i64 h.craft, .int .i64 h.next, .int .i64 h.ahead, .slice S n1 c, .slice A n2 d, .int .i64 0, .int .i64 h.patience, .int .i64 (h.tries + 1), .int .i64 h.limit, .int .i64 0, .int .i64 h.pause, .int .i64 h.halt, .slice R' (nR + k) cR'] ∧ OwnRs V base S n1 c sl ∧ OwnRs V base R' (nR + k) cR' rl' ∧ Hid (rl'.map RowR.b = rl.map RowR.b ++ upsB h.craft (h.next - (n1 : Int)) (h.sent.take k)) ∧ (∀ q, Touch R' rl' q → Touch R rl q ∨ W.heap.size ≤ q) ∧ Turned W V (fun q => q = p ∨ Touch R rl q)

/-- What late gives. -/
def LateOut (W w' : World) (base p : Nat) (h : Hnd) (S A R : Option Addr) (n1 c n2 d : Nat) (rl : List RowR) (r : Hnd × List (List UInt8) × Bool) (e : Ending) : Prop :=
  e = .returned (.bool r.2.2) ∧ ∃ R' nR' cR' rl', Blk w' p 45 #[.int .i64 r.1.craft, .int .i64 r.1.next, .int .i64 r.1.ahead, .slice S n1 c, .slice A n2 d, .int .i64 r.1.timer, .int .i64 r.1.patience, .int .i64 r.1.tries, .int .i64 r.1.limit, .int .i64 r.1.since, .int .i64 r.1.pause, .int .i64 r.1.halt, .slice R' nR' cR'] ∧ OwnRs w' base R' nR' cR' rl' ∧ rl'.map RowR.b = rl.map RowR.b ++ r.2.1 ∧ (∀ q, Touch R' rl' q → Touch R rl q ∨ W.heap.size ≤ q) ∧ Turned W w' (fun q => q = p ∨ Touch R rl q)

set_option maxHeartbeats 12800000 in
set_option maxRecDepth 100000 in
theorem late_any (h : Hnd) (wished : Bool) (S A R : Option Addr) (n1 c n2 d nR cR p base : Nat) (sl rl : List RowR) (W : World) (hp : Blk W p 45 #[.int .i64 h.craft, .int .i64 h.next, .int .i64 h.ahead, .slice S n1 c, .slice A n2 d, .int .i64 h.timer, .int .i64 h.patience, .int .i64 h.tries, .int .i64 h.limit, .int .i64 h.since, .int .i64 h.pause, .int .i64 h.halt, .slice R nR cR]) (hsl : sl.map RowR.b = h.sent) (hOs : OwnRs W base S n1 c sl) (hOr : OwnRs W base R nR cR rl)
    (dsr : Disj S sl R rl) (t : Tick h) (hnR : nR ≤ 1000) (hbase : base ≤ W.heap.size) :
    Calls Try.prog 36 #[.pointer (some ⟨p, 0, none⟩), .bool wished] W fun e w' => LateOut W w' base p h S A R n1 c n2 d rl (lateH h wished) e := by
  have hn1 : h.sent.length = n1 := by rw [← hsl, List.length_map]; exact hOs.len
  obtain ⟨t1, t2, _, _, _, hnx, _, htm, hpt, htr, htl, hsc, hsp⟩ := t
  rw [hn1] at t1
  have hpl := hp.lt
  have HS := Lib.hid hsl
  have N1 := Lib.hid hn1
  have SL := Lib.hid hOs.len
  have DSR := Lib.hid dsr
  have hlts := Lib.hid (fun (q : Nat) (hq : Touch S sl q) => hOs.lt hq)
  have hns : ¬ Touch S sl p := fun ht => by
    rcases ht with e | ⟨i, r, hr, e⟩
    · exact hOs.arr.notBlk hp (by decide) e
    · exact (hOs.bs.1 i r hr).notBlk hp (by decide) e
  have hnr : ¬ Touch R rl p := fun ht => by
    rcases ht with e | ⟨i, r, hr, e⟩
    · exact hOr.arr.notBlk hp (by decide) e
    · exact (hOr.bs.1 i r hr).notBlk hp (by decide) e
  obtain ⟨r, hr⟩ : ∃ r, lateH h wished = r := ⟨_, rfl⟩
  have hrr := hr
  unfold lateH at hrr
  rw [hn1] at hrr
  rw [hr]
  have HH := Lib.hid hrr.symm
  clear hr hrr hsl hn1 dsr
  have k3 := hp.cell' (i := 3) rfl
  have k5 := hp.cell' (i := 5) rfl
  have kf := hp.frozen
  by_cases h0 : n1 = 0
  · have e := HH.out
    rw [if_pos h0] at e
    have h0i : ((n1 : Int) == 0) = true := by rw [beq_iff_eq]; omega
    clear HH h0
    subst e
    go_enter Try.func36, Try.ntmps36
    go_wp2_with fail
    refine bodyPost_ret (v := .bool true) (by simp [results, Try.results36, go_sem]) rfl ?_
    exact ⟨rfl, R, nR, cR, rl, hp.set_ 5 _, hOr.far (p := ⟨p, 5, none⟩) hnr _, by simp, fun q hq => .inl hq, (Turned.refl _ _).set (p := ⟨p, 5, none⟩) (fun _ => .inl rfl) _⟩
  · have HH1 := Lib.hid (show r = _ from HH.out.trans (if_neg h0))
    have h0i : ((n1 : Int) == 0) = false := by rw [beq_eq_false_iff_ne]; omega
    clear HH h0
    cases wished
    · have w5 : IntKind.i64.wrap (h.timer + 1) = h.timer + 1 := IntWalk.i64_in _ (by omega)
      have p1 : Blk (W.setCell ⟨p, 5, none⟩ (.int .i64 (h.timer + 1))) p 45 #[.int .i64 h.craft, .int .i64 h.next, .int .i64 h.ahead, .slice S n1 c, .slice A n2 d, .int .i64 (h.timer + 1), .int .i64 h.patience, .int .i64 h.tries, .int .i64 h.limit, .int .i64 h.since, .int .i64 h.pause, .int .i64 h.halt, .slice R nR cR] := hp.set_ 5 _
      have hOs1 := hOs.far (p := ⟨p, 5, none⟩) hns (.int .i64 (h.timer + 1))
      have hOr1 := hOr.far (p := ⟨p, 5, none⟩) hnr (.int .i64 (h.timer + 1))
      have T1 : Turned W (W.setCell ⟨p, 5, none⟩ (.int .i64 (h.timer + 1))) (fun q => q = p ∨ Touch R rl q) := (Turned.refl _ _).set (p := ⟨p, 5, none⟩) (fun _ => .inl rfl) _
      have hlt : h.timer + 1 ≤ h.patience := by omega
      go_enter Try.func36, Try.ntmps36
      go_upto_region 6 with fail
      clear k3 k5 kf w5 hp hOs hOr
      generalize W.setCell ⟨p, 5, none⟩ (.int .i64 (h.timer + 1)) = W1 at *
      have k5 := p1.cell' (i := 5) rfl
      have k6 := p1.cell' (i := 6) rfl
      go_quiet (fail)
      clear k5 k6
      replace p1 := p1.drewN nq
      replace hOs1 := hOs1.drewN nq
      replace hOr1 := hOr1.drewN nq
      replace T1 := T1.drewN nq
      generalize W1.drewN nq = W2 at *
      by_cases hw : h.timer + 1 < h.patience
      · have e := HH1.out
        rw [if_pos ⟨rfl, hw⟩] at e
        clear HH1
        subst e
        go_wp2_with fail
        refine bodyPost_ret (v := .bool true) (by simp [results, Try.results36, go_sem]) rfl ?_
        exact ⟨rfl, R, nR, cR, rl, p1, hOr1, by simp, fun q hq => .inl hq, T1⟩
      · have HH2 := Lib.hid (show r = _ from HH1.out.trans (if_neg (fun hh => hw hh.2)))
        clear HH1 nq
        have p2 := p1
        have hOs2 := hOs1
        have hOr2 := hOr1
        have T2 := T1
        clear p1 hOs1 hOr1 T1
        have k5 := p2.cell' (i := 5) rfl
        have kf := p2.frozen
        have p3 : Blk (W2.setCell ⟨p, 5, none⟩ (.int .i64 0)) p 45 #[.int .i64 h.craft, .int .i64 h.next, .int .i64 h.ahead, .slice S n1 c, .slice A n2 d, .int .i64 0, .int .i64 h.patience, .int .i64 h.tries, .int .i64 h.limit, .int .i64 h.since, .int .i64 h.pause, .int .i64 h.halt, .slice R nR cR] := p2.set_ 5 _
        have k9 := p3.cell' (i := 9) rfl
        have kf3 := p3.frozen
        have p4 : Blk ((W2.setCell ⟨p, 5, none⟩ (.int .i64 0)).setCell ⟨p, 9, none⟩ (.int .i64 0)) p 45 #[.int .i64 h.craft, .int .i64 h.next, .int .i64 h.ahead, .slice S n1 c, .slice A n2 d, .int .i64 0, .int .i64 h.patience, .int .i64 h.tries, .int .i64 h.limit, .int .i64 0, .int .i64 h.pause, .int .i64 h.halt, .slice R nR cR] := p3.set_ 9 _
        have hOs4 := (hOs2.far (p := ⟨p, 5, none⟩) hns (.int .i64 0)).far (p := ⟨p, 9, none⟩) hns (.int .i64 0)
        have hOr4 := (hOr2.far (p := ⟨p, 5, none⟩) hnr (.int .i64 0)).far (p := ⟨p, 9, none⟩) hnr (.int .i64 0)
        have T4 := (T2.set (p := ⟨p, 5, none⟩) (fun _ => .inl rfl) (.int .i64 0)).set (p := ⟨p, 9, none⟩) (fun _ => .inl rfl) (.int .i64 0)
        go_upto_region 9 with fail
        clear k5 kf k9 kf3 p3 p2 hOs2 hOr2 T2
        generalize (W2.setCell ⟨p, 5, none⟩ (.int .i64 0)).setCell ⟨p, 9, none⟩ (.int .i64 0) = W4 at *
        have k7 := p4.cell' (i := 7) rfl
        have k8 := p4.cell' (i := 8) rfl
        go_quiet (fail)
        clear k7 k8
        replace p4 := p4.drewN nq
        replace hOs4 := hOs4.drewN nq
        replace hOr4 := hOr4.drewN nq
        replace T4 := T4.drewN nq
        generalize W4.drewN nq = W5 at *
        have k7 := p4.cell' (i := 7) rfl
        have kf := p4.frozen
        by_cases hlim : h.tries = h.limit
        · have hl1 : (h.tries == h.limit) = true := by rw [beq_iff_eq]; exact hlim
          have k11 := p4.cell' (i := 11) rfl
          have e := HH2.out
          rw [if_pos hlim] at e
          clear HH2 hlim
          subst e
          go_wp2_with fail
          refine bodyPost_ret (v := .bool false) (by simp [results, Try.results36, go_sem]) rfl ?_
          exact ⟨rfl, R, nR, cR, rl, p4.set_ 11 _, hOr4.far (p := ⟨p, 11, none⟩) hnr _, by simp, fun q hq => .inl hq, T4.set (p := ⟨p, 11, none⟩) (fun _ => .inl rfl) _⟩
        · have hl1 : (h.tries == h.limit) = false := by rw [beq_eq_false_iff_ne]; exact hlim
          try simp only [hl1]
          have w7 : IntKind.i64.wrap (h.tries + 1) = h.tries + 1 := IntWalk.i64_in _ (by omega)
          have e := HH2.out
          rw [if_neg hlim] at e
          clear HH2
          subst e
          have p6 : Blk (W5.setCell ⟨p, 7, none⟩ (.int .i64 (h.tries + 1))) p 45 #[.int .i64 h.craft, .int .i64 h.next, .int .i64 h.ahead, .slice S n1 c, .slice A n2 d, .int .i64 0, .int .i64 h.patience, .int .i64 (h.tries + 1), .int .i64 h.limit, .int .i64 0, .int .i64 h.pause, .int .i64 h.halt, .slice R nR cR] := p4.set_ 7 _
          have hOs6 := hOs4.far (p := ⟨p, 7, none⟩) hns (.int .i64 (h.tries + 1))
          have hOr6 := hOr4.far (p := ⟨p, 7, none⟩) hnr (.int .i64 (h.tries + 1))
          have T6 := T4.set (p := ⟨p, 7, none⟩) (fun _ => .inl rfl) (.int .i64 (h.tries + 1))
          go_upto_region 13 with fail
          clear k7 kf w7 p4 hOs4 hOr4 T4
          generalize W5.setCell ⟨p, 7, none⟩ (.int .i64 (h.tries + 1)) = W6 at *
          have k3 := p6.cell' (i := 3) rfl
          have start : LateAt W base p h S A R n1 c n2 d nR sl rl 0 W6 := ⟨R, cR, rl, p6, hOs6, hOr6, Lib.hid (by simp [upsB]), fun q hq => .inl hq, T6⟩
          clear p6 hOs6 hOr6 T6
          go_wp2_with fail
          clear k3
          go_loopw [78] (fun iv wr => ∃ k : Nat, k ≤ n1 ∧ iv = .int .i64 (k : Int) ∧ LateAt W base p h S A R n1 c n2 d nR sl rl k wr) (fun iv _ => n1 - (intOf iv).toNat)
          case atStart => exact ⟨0, Nat.zero_le _, rfl, start⟩
          case round =>
            clear start
            obtain ⟨k, hk, rfl, R1, cR1, rl1, p1, hOs, hOr, HRL, hR1, T1⟩ := hrel
            by_cases h5 : k < n1
            · have h5i : (k : Int) < (n1 : Int) := by omega
              have hk0 : (0 : Int) ≤ (k : Int) := by omega
              have hkl : k < sl.length := by rw [SL.out]; exact h5
              have hx := List.getElem?_eq_getElem hkl
              obtain ⟨x, hxx⟩ : ∃ x, sl[k] = x := ⟨_, rfl⟩
              rw [hxx] at hx
              clear hxx
              have hxa : h.sent[k]? = some x.b := by rw [← HS.out, List.getElem?_map, hx]; rfl
              have HTk : Hid (h.sent.take (k + 1) = h.sent.take k ++ [x.b]) := Lib.hid (by rw [List.take_add_one, hxa]; rfl)
              have HTl : Hid ((h.sent.take k).length = k) := Lib.hid (by rw [List.length_take, N1.out]; omega)
              obtain ⟨gA, oA, rfl, hg1, hg2⟩ := hOs.arr.form (by have := hOs.arr.le; omega)
              have e1 : wr.cell? ⟨gA, oA + k, none⟩ = some (.slice x.A x.b.length x.c) := hOs.arr.cell (rowvs_get hx)
              have hxO := hOs.bs.1 k x hx
              obtain ⟨nx, hnx⟩ : ∃ nx, x.b.length = nx := ⟨_, rfl⟩
              have HCS := Lib.hid (psend_any { h with timer := 0, since := 0, tries := h.tries + 1 } ⟨0, false, false, (h.next - (n1 : Int) + (k : Int)) % 256, x.b⟩ (some ⟨gA, oA, none⟩) A R1 x.A n1 c n2 d (nR + k) cR1 nx x.c p base rl1 wr.drew p1.drew hxO.rd.drew hnx hOr.drew (by have := T1.size; show base ≤ wr.heap.size; omega) (by omega))
              rw [hnx] at e1
              clear hnx
              go_upto_region 16 with fail
              clear e1
              have k1 := p1.cell' (i := 1) rfl
              have k3 := p1.cell' (i := 3) rfl
              obtain ⟨w1, w2⟩ : IntKind.i64.wrap (h.next - (n1 : Int)) = h.next - (n1 : Int) ∧ IntKind.i64.wrap (h.next - (n1 : Int) + (k : Int)) = h.next - (n1 : Int) + (k : Int) := ⟨IntWalk.i64_in _ (by omega), IntWalk.i64_in _ (by omega)⟩
              have w3 := i64_and255 (h.next - (n1 : Int) + (k : Int))
              refine heldRegion (fun v => v.cell? ⟨p, 1, none⟩ = some (.int .i64 h.next) ∧ v.cell? ⟨p, 3, none⟩ = some (.slice (some ⟨gA, oA, none⟩) n1 c)) 18 (by kernel_rfl) (by kernel_rfl) ⟨k1, k3⟩ (fun hSS => ?_)
              refine walk_take 0 (v := ?va0) rfl (by kernel_rfl) (by kernel_rfl) (by kernel_rfl) (fun _ _ _ h => h) (hSS) (Or.inl ⟨by rfl, ?ya0⟩) ?ra0
              case ya0 => intro w hSw; obtain ⟨hw1, hw2⟩ := hSw; (try dsimp only at hSw); go_simp; try rfl
              case' ra0 => try simp only [List.getElem_toArray, List.getElem_cons_succ, List.getElem_cons_zero, Act.put, List.setIfInBounds_toArray, List.set_cons_zero, List.set_cons_succ]
              refine walk_take 1 (v := ?va1) rfl (by kernel_rfl) (by kernel_rfl) (by kernel_rfl) (fun _ _ _ h => h) (hSS) (Or.inl ⟨by rfl, ?ya1⟩) ?ra1
              case ya1 => intro w hSw; obtain ⟨hw1, hw2⟩ := hSw; (try dsimp only at hSw); go_simp; try rfl
              case' ra1 => try simp only [List.getElem_toArray, List.getElem_cons_succ, List.getElem_cons_zero, Act.put, List.setIfInBounds_toArray, List.set_cons_zero, List.set_cons_succ]
              refine walk_take 2 (v := ?va2) rfl (by kernel_rfl) (by kernel_rfl) (by kernel_rfl) (fun _ _ _ h => h) (hSS) (Or.inl ⟨by rfl, ?ya2⟩) ?ra2
              case ya2 => intro w hSw; obtain ⟨hw1, hw2⟩ := hSw; (try dsimp only at hSw); go_simp; try rfl
              case' ra2 => try simp only [List.getElem_toArray, List.getElem_cons_succ, List.getElem_cons_zero, Act.put, List.setIfInBounds_toArray, List.set_cons_zero, List.set_cons_succ]
              refine walk_take 3 (v := ?va3) rfl (by kernel_rfl) (by kernel_rfl) (by kernel_rfl) (fun _ _ _ h => h) (hSS) (Or.inl ⟨by rfl, ?ya3⟩) ?ra3
              case ya3 => intro w hSw; obtain ⟨hw1, hw2⟩ := hSw; (try dsimp only at hSw); go_simp; try rfl
              case' ra3 => try simp only [List.getElem_toArray, List.getElem_cons_succ, List.getElem_cons_zero, Act.put, List.setIfInBounds_toArray, List.set_cons_zero, List.set_cons_succ]
              refine walk_take 4 (v := ?va4) rfl (by kernel_rfl) (by kernel_rfl) (by kernel_rfl) (fun _ _ _ h => h) (hSS) (Or.inl ⟨by rfl, ?ya4⟩) ?ra4
              case ya4 => intro w hSw; obtain ⟨hw1, hw2⟩ := hSw; (try dsimp only at hSw); go_simp; try rfl
              case' ra4 => try simp only [List.getElem_toArray, List.getElem_cons_succ, List.getElem_cons_zero, Act.put, List.setIfInBounds_toArray, List.set_cons_zero, List.set_cons_succ]
              refine walk_take 5 (v := ?va5) rfl (by kernel_rfl) (by kernel_rfl) (by kernel_rfl) (fun _ _ _ h => h) (hSS) (Or.inl ⟨by rfl, ?ya5⟩) ?ra5
              case ya5 => intro w hSw; obtain ⟨hw1, hw2⟩ := hSw; (try dsimp only at hSw); go_simp; try rfl
              case' ra5 => try simp only [List.getElem_toArray, List.getElem_cons_succ, List.getElem_cons_zero, Act.put, List.setIfInBounds_toArray, List.set_cons_zero, List.set_cons_succ]
              refine walk_take 6 (v := ?va6) rfl (by kernel_rfl) (by kernel_rfl) (by kernel_rfl) (fun _ _ _ h => h) (hSS) (Or.inl ⟨by rfl, ?ya6⟩) ?ra6
              case ya6 => intro w hSw; obtain ⟨hw1, hw2⟩ := hSw; (try dsimp only at hSw); go_simp; try rfl
              case' ra6 => try simp only [List.getElem_toArray, List.getElem_cons_succ, List.getElem_cons_zero, Act.put, List.setIfInBounds_toArray, List.set_cons_zero, List.set_cons_succ]
              refine walk_take 7 (v := ?va7) rfl (by kernel_rfl) (by kernel_rfl) (by kernel_rfl) (fun _ _ _ h => h) (hSS) (Or.inl ⟨by rfl, ?ya7⟩) ?ra7
              case ya7 => intro w hSw; obtain ⟨hw1, hw2⟩ := hSw; (try dsimp only at hSw); go_simp; try rfl
              case' ra7 => try simp only [List.getElem_toArray, List.getElem_cons_succ, List.getElem_cons_zero, Act.put, List.setIfInBounds_toArray, List.set_cons_zero, List.set_cons_succ]
              refine walk_take 8 (v := ?va8) rfl (by kernel_rfl) (by kernel_rfl) (by kernel_rfl) (fun _ _ _ h => h) (hSS) (Or.inl ⟨by rfl, ?ya8⟩) ?ra8
              case ya8 => intro w hSw; obtain ⟨hw1, hw2⟩ := hSw; (try dsimp only at hSw); go_simp; try rfl
              case' ra8 => try simp only [List.getElem_toArray, List.getElem_cons_succ, List.getElem_cons_zero, Act.put, List.setIfInBounds_toArray, List.set_cons_zero, List.set_cons_succ]
              refine walk_take 9 (v := ?va9) rfl (by kernel_rfl) (by kernel_rfl) (by kernel_rfl) (fun _ _ _ h => h) (hSS) (Or.inl ⟨by rfl, ?ya9⟩) ?ra9
              case ya9 => intro w hSw; obtain ⟨hw1, hw2⟩ := hSw; (try dsimp only at hSw); go_simp; try rfl
              case' ra9 => try simp only [List.getElem_toArray, List.getElem_cons_succ, List.getElem_cons_zero, Act.put, List.setIfInBounds_toArray, List.set_cons_zero, List.set_cons_succ]
              refine walk_take 10 (v := ?va10) rfl (by kernel_rfl) (by kernel_rfl) (by kernel_rfl) (fun _ _ _ h => h) (hSS) (Or.inl ⟨by rfl, ?ya10⟩) ?ra10
              case ya10 => intro w hSw; obtain ⟨hw1, hw2⟩ := hSw; (try dsimp only at hSw); go_simp; try rfl
              case' ra10 => try simp only [List.getElem_toArray, List.getElem_cons_succ, List.getElem_cons_zero, Act.put, List.setIfInBounds_toArray, List.set_cons_zero, List.set_cons_succ]
              refine walk_take 11 (v := ?va11) rfl (by kernel_rfl) (by kernel_rfl) (by kernel_rfl) (fun _ _ _ h => h) (hSS) (Or.inl ⟨by rfl, ?ya11⟩) ?ra11
              case ya11 => intro w hSw; obtain ⟨hw1, hw2⟩ := hSw; (try dsimp only at hSw); go_simp; try rfl
              case' ra11 => try simp only [List.getElem_toArray, List.getElem_cons_succ, List.getElem_cons_zero, Act.put, List.setIfInBounds_toArray, List.set_cons_zero, List.set_cons_succ]
              refine walk_take 12 (v := ?va12) rfl (by kernel_rfl) (by kernel_rfl) (by kernel_rfl) (fun _ _ _ h => h) (hSS) (Or.inl ⟨by rfl, ?ya12⟩) ?ra12
              case ya12 => intro w hSw; obtain ⟨hw1, hw2⟩ := hSw; (try dsimp only at hSw); go_simp; try rfl
              case' ra12 => try simp only [List.getElem_toArray, List.getElem_cons_succ, List.getElem_cons_zero, Act.put, List.setIfInBounds_toArray, List.set_cons_zero, List.set_cons_succ]
              refine walk_take 13 (v := ?va13) rfl (by kernel_rfl) (by kernel_rfl) (by kernel_rfl) (fun _ _ _ h => h) (hSS) (Or.inl ⟨by rfl, ?ya13⟩) ?ra13
              case ya13 => intro w hSw; obtain ⟨hw1, hw2⟩ := hSw; (try dsimp only at hSw); go_simp; try rfl
              case' ra13 => try simp only [List.getElem_toArray, List.getElem_cons_succ, List.getElem_cons_zero, Act.put, List.setIfInBounds_toArray, List.set_cons_zero, List.set_cons_succ]
              refine walk_take 14 (v := ?va14) rfl (by kernel_rfl) (by kernel_rfl) (by kernel_rfl) (fun _ _ _ h => h) (hSS) (Or.inl ⟨by rfl, ?ya14⟩) ?ra14
              case ya14 => intro w hSw; obtain ⟨hw1, hw2⟩ := hSw; (try dsimp only at hSw); go_simp; try rfl
              case' ra14 => try simp only [List.getElem_toArray, List.getElem_cons_succ, List.getElem_cons_zero, Act.put, List.setIfInBounds_toArray, List.set_cons_zero, List.set_cons_succ]
              refine walk_take 15 (v := ?va15) rfl (by kernel_rfl) (by kernel_rfl) (by kernel_rfl) (fun _ _ _ h => h) (hSS) (Or.inl ⟨by rfl, ?ya15⟩) ?ra15
              case ya15 => intro w hSw; obtain ⟨hw1, hw2⟩ := hSw; (try dsimp only at hSw); go_simp; try rfl
              case' ra15 => try simp only [List.getElem_toArray, List.getElem_cons_succ, List.getElem_cons_zero, Act.put, List.setIfInBounds_toArray, List.set_cons_zero, List.set_cons_succ]
              refine walk_take 16 (v := ?va16) rfl (by kernel_rfl) (by kernel_rfl) (by kernel_rfl) (fun _ _ _ h => h) (hSS) (Or.inl ⟨by rfl, ?ya16⟩) ?ra16
              case ya16 => intro w hSw; obtain ⟨hw1, hw2⟩ := hSw; (try dsimp only at hSw); go_simp; try rfl
              case' ra16 => try simp only [List.getElem_toArray, List.getElem_cons_succ, List.getElem_cons_zero, Act.put, List.setIfInBounds_toArray, List.set_cons_zero, List.set_cons_succ]
              refine walk_take 17 (v := ?va17) rfl (by kernel_rfl) (by kernel_rfl) (by kernel_rfl) (fun _ _ _ h => h) (hSS) (Or.inl ⟨by rfl, ?ya17⟩) ?ra17
              case ya17 => intro w hSw; obtain ⟨hw1, hw2⟩ := hSw; (try dsimp only at hSw); go_simp; try rfl
              case' ra17 => try simp only [List.getElem_toArray, List.getElem_cons_succ, List.getElem_cons_zero, Act.put, List.setIfInBounds_toArray, List.set_cons_zero, List.set_cons_succ]
              refine walk_tail (by kernel_rfl) ?_
              simp only [List.drop_succ_cons, List.drop_zero]
              clear w1 w2 w3 k1 k3 hSS
              go_wp2_with fail
              refine HCS.out.mono ?_
              rintro e v2 ⟨rfl, R2, cR2, rl2, hrl2, p2, hOr2, hR2, T2⟩
              clear HCS
              have zW := T1.size
              have hns2 : ∀ q, Touch (some ⟨gA, oA, none⟩) sl q → ¬ (q = p ∨ Touch R1 rl1 q) := fun q hq ht => by
                rcases ht with e | e
                · exact hns (e ▸ hq)
                · rcases hR1 q e with e | e
                  · exact DSR.out q hq e
                  · have := (hlts.out q hq).2; omega
              have hR2W : ∀ q, Touch R2 rl2 q → Touch R rl q ∨ W.heap.size ≤ q := fun q hq => by
                rcases hR2 q hq with e | e
                · exact hR1 q e
                · right
                  have e : wr.heap.size ≤ q := e
                  omega
              have T12 : Turned W v2 (fun q => q = p ∨ Touch R rl q) := (T1.drewN 1).trans T2 (fun i hi e => by
                rcases e with e | e
                · exact .inl e
                · rcases hR1 i e with e | e
                  · exact .inr e
                  · omega)
              have hOs2 := hOs.drew.turned T2 hns2
              go_wp2_with fail
              go_roundw
              case rel =>
                refine ⟨k + 1, by omega, by go_num, R2, cR2, rl2, p2, hOs2, hOr2, Lib.hid ?_, hR2W, T12⟩
                rw [hrl2, HRL.out, HTk.out, upsB_snoc, HTl.out, List.append_assoc]
                rfl
              case measure => simp [intOf]; omega
            · obtain rfl : k = n1 := by omega
              have h5i : ¬ (k : Int) < (k : Int) := by omega
              go_wp2_with fail
              refine bodyPost_ret (v := .bool true) (by simp [results, Try.results36, go_sem]) rfl ?_
              refine ⟨rfl, R1, nR + k, cR1, rl1, p1, hOr, ?_, hR1, T1⟩
              show _ = _ ++ upsB h.craft (h.next - (k : Int)) h.sent
              rw [HRL.out, ← N1.out, List.take_length]
    · have HH2 := Lib.hid (show r = _ from HH1.out.trans (if_neg (fun hh => by cases hh.1)))
      clear HH1 k3 k5 kf
      have p2 := hp
      have hOs2 := hOs
      have hOr2 := hOr
      have k3 := hp.cell' (i := 3) rfl
      clear hp hOs hOr
      go_enter Try.func36, Try.ntmps36
      go_upto_region 8 with fail
      clear k3
      generalize hW2 : W = W2 at p2 hOs2 hOr2 ⊢
      have T2 : Turned W W2 (fun q => q = p ∨ Touch R rl q) := by rw [← hW2]; exact Turned.refl _ _
      clear hW2
      have k5 := p2.cell' (i := 5) rfl
      have kf := p2.frozen
      have p3 : Blk (W2.setCell ⟨p, 5, none⟩ (.int .i64 0)) p 45 #[.int .i64 h.craft, .int .i64 h.next, .int .i64 h.ahead, .slice S n1 c, .slice A n2 d, .int .i64 0, .int .i64 h.patience, .int .i64 h.tries, .int .i64 h.limit, .int .i64 h.since, .int .i64 h.pause, .int .i64 h.halt, .slice R nR cR] := p2.set_ 5 _
      have k9 := p3.cell' (i := 9) rfl
      have kf3 := p3.frozen
      have p4 : Blk ((W2.setCell ⟨p, 5, none⟩ (.int .i64 0)).setCell ⟨p, 9, none⟩ (.int .i64 0)) p 45 #[.int .i64 h.craft, .int .i64 h.next, .int .i64 h.ahead, .slice S n1 c, .slice A n2 d, .int .i64 0, .int .i64 h.patience, .int .i64 h.tries, .int .i64 h.limit, .int .i64 0, .int .i64 h.pause, .int .i64 h.halt, .slice R nR cR] := p3.set_ 9 _
      have hOs4 := (hOs2.far (p := ⟨p, 5, none⟩) hns (.int .i64 0)).far (p := ⟨p, 9, none⟩) hns (.int .i64 0)
      have hOr4 := (hOr2.far (p := ⟨p, 5, none⟩) hnr (.int .i64 0)).far (p := ⟨p, 9, none⟩) hnr (.int .i64 0)
      have T4 := (T2.set (p := ⟨p, 5, none⟩) (fun _ => .inl rfl) (.int .i64 0)).set (p := ⟨p, 9, none⟩) (fun _ => .inl rfl) (.int .i64 0)
      go_upto_region 9 with fail
      clear k5 kf k9 kf3 p3 p2 hOs2 hOr2 T2
      generalize (W2.setCell ⟨p, 5, none⟩ (.int .i64 0)).setCell ⟨p, 9, none⟩ (.int .i64 0) = W4 at *
      have k7 := p4.cell' (i := 7) rfl
      have k8 := p4.cell' (i := 8) rfl
      go_quiet (fail)
      clear k7 k8
      replace p4 := p4.drewN nq
      replace hOs4 := hOs4.drewN nq
      replace hOr4 := hOr4.drewN nq
      replace T4 := T4.drewN nq
      generalize W4.drewN nq = W5 at *
      have k7 := p4.cell' (i := 7) rfl
      have kf := p4.frozen
      by_cases hlim : h.tries = h.limit
      · have hl1 : (h.tries == h.limit) = true := by rw [beq_iff_eq]; exact hlim
        have k11 := p4.cell' (i := 11) rfl
        have e := HH2.out
        rw [if_pos hlim] at e
        clear HH2 hlim
        subst e
        go_wp2_with fail
        refine bodyPost_ret (v := .bool false) (by simp [results, Try.results36, go_sem]) rfl ?_
        exact ⟨rfl, R, nR, cR, rl, p4.set_ 11 _, hOr4.far (p := ⟨p, 11, none⟩) hnr _, by simp, fun q hq => .inl hq, T4.set (p := ⟨p, 11, none⟩) (fun _ => .inl rfl) _⟩
      · have hl1 : (h.tries == h.limit) = false := by rw [beq_eq_false_iff_ne]; exact hlim
        try simp only [hl1]
        have w7 : IntKind.i64.wrap (h.tries + 1) = h.tries + 1 := IntWalk.i64_in _ (by omega)
        have e := HH2.out
        rw [if_neg hlim] at e
        clear HH2
        subst e
        have p6 : Blk (W5.setCell ⟨p, 7, none⟩ (.int .i64 (h.tries + 1))) p 45 #[.int .i64 h.craft, .int .i64 h.next, .int .i64 h.ahead, .slice S n1 c, .slice A n2 d, .int .i64 0, .int .i64 h.patience, .int .i64 (h.tries + 1), .int .i64 h.limit, .int .i64 0, .int .i64 h.pause, .int .i64 h.halt, .slice R nR cR] := p4.set_ 7 _
        have hOs6 := hOs4.far (p := ⟨p, 7, none⟩) hns (.int .i64 (h.tries + 1))
        have hOr6 := hOr4.far (p := ⟨p, 7, none⟩) hnr (.int .i64 (h.tries + 1))
        have T6 := T4.set (p := ⟨p, 7, none⟩) (fun _ => .inl rfl) (.int .i64 (h.tries + 1))
        go_upto_region 13 with fail
        clear k7 kf w7 p4 hOs4 hOr4 T4
        generalize W5.setCell ⟨p, 7, none⟩ (.int .i64 (h.tries + 1)) = W6 at *
        have k3 := p6.cell' (i := 3) rfl
        have start : LateAt W base p h S A R n1 c n2 d nR sl rl 0 W6 := ⟨R, cR, rl, p6, hOs6, hOr6, Lib.hid (by simp [upsB]), fun q hq => .inl hq, T6⟩
        clear p6 hOs6 hOr6 T6
        go_wp2_with fail
        clear k3
        go_loopw [78] (fun iv wr => ∃ k : Nat, k ≤ n1 ∧ iv = .int .i64 (k : Int) ∧ LateAt W base p h S A R n1 c n2 d nR sl rl k wr) (fun iv _ => n1 - (intOf iv).toNat)
        case atStart => exact ⟨0, Nat.zero_le _, rfl, start⟩
        case round =>
          clear start
          obtain ⟨k, hk, rfl, R1, cR1, rl1, p1, hOs, hOr, HRL, hR1, T1⟩ := hrel
          by_cases h5 : k < n1
          · have h5i : (k : Int) < (n1 : Int) := by omega
            have hk0 : (0 : Int) ≤ (k : Int) := by omega
            have hkl : k < sl.length := by rw [SL.out]; exact h5
            have hx := List.getElem?_eq_getElem hkl
            obtain ⟨x, hxx⟩ : ∃ x, sl[k] = x := ⟨_, rfl⟩
            rw [hxx] at hx
            clear hxx
            have hxa : h.sent[k]? = some x.b := by rw [← HS.out, List.getElem?_map, hx]; rfl
            have HTk : Hid (h.sent.take (k + 1) = h.sent.take k ++ [x.b]) := Lib.hid (by rw [List.take_add_one, hxa]; rfl)
            have HTl : Hid ((h.sent.take k).length = k) := Lib.hid (by rw [List.length_take, N1.out]; omega)
            obtain ⟨gA, oA, rfl, hg1, hg2⟩ := hOs.arr.form (by have := hOs.arr.le; omega)
            have e1 : wr.cell? ⟨gA, oA + k, none⟩ = some (.slice x.A x.b.length x.c) := hOs.arr.cell (rowvs_get hx)
            have hxO := hOs.bs.1 k x hx
            obtain ⟨nx, hnx⟩ : ∃ nx, x.b.length = nx := ⟨_, rfl⟩
            have HCS := Lib.hid (psend_any { h with timer := 0, since := 0, tries := h.tries + 1 } ⟨0, false, false, (h.next - (n1 : Int) + (k : Int)) % 256, x.b⟩ (some ⟨gA, oA, none⟩) A R1 x.A n1 c n2 d (nR + k) cR1 nx x.c p base rl1 wr.drew p1.drew hxO.rd.drew hnx hOr.drew (by have := T1.size; show base ≤ wr.heap.size; omega) (by omega))
            rw [hnx] at e1
            clear hnx
            go_upto_region 16 with fail
            clear e1
            have k1 := p1.cell' (i := 1) rfl
            have k3 := p1.cell' (i := 3) rfl
            obtain ⟨w1, w2⟩ : IntKind.i64.wrap (h.next - (n1 : Int)) = h.next - (n1 : Int) ∧ IntKind.i64.wrap (h.next - (n1 : Int) + (k : Int)) = h.next - (n1 : Int) + (k : Int) := ⟨IntWalk.i64_in _ (by omega), IntWalk.i64_in _ (by omega)⟩
            have w3 := i64_and255 (h.next - (n1 : Int) + (k : Int))
            refine heldRegion (fun v => v.cell? ⟨p, 1, none⟩ = some (.int .i64 h.next) ∧ v.cell? ⟨p, 3, none⟩ = some (.slice (some ⟨gA, oA, none⟩) n1 c)) 18 (by kernel_rfl) (by kernel_rfl) ⟨k1, k3⟩ (fun hSS => ?_)
            refine walk_take 0 (v := ?vb0) rfl (by kernel_rfl) (by kernel_rfl) (by kernel_rfl) (fun _ _ _ h => h) (hSS) (Or.inl ⟨by rfl, ?yb0⟩) ?rb0
            case yb0 => intro w hSw; obtain ⟨hw1, hw2⟩ := hSw; (try dsimp only at hSw); go_simp; try rfl
            case' rb0 => try simp only [List.getElem_toArray, List.getElem_cons_succ, List.getElem_cons_zero, Act.put, List.setIfInBounds_toArray, List.set_cons_zero, List.set_cons_succ]
            refine walk_take 1 (v := ?vb1) rfl (by kernel_rfl) (by kernel_rfl) (by kernel_rfl) (fun _ _ _ h => h) (hSS) (Or.inl ⟨by rfl, ?yb1⟩) ?rb1
            case yb1 => intro w hSw; obtain ⟨hw1, hw2⟩ := hSw; (try dsimp only at hSw); go_simp; try rfl
            case' rb1 => try simp only [List.getElem_toArray, List.getElem_cons_succ, List.getElem_cons_zero, Act.put, List.setIfInBounds_toArray, List.set_cons_zero, List.set_cons_succ]
            refine walk_take 2 (v := ?vb2) rfl (by kernel_rfl) (by kernel_rfl) (by kernel_rfl) (fun _ _ _ h => h) (hSS) (Or.inl ⟨by rfl, ?yb2⟩) ?rb2
            case yb2 => intro w hSw; obtain ⟨hw1, hw2⟩ := hSw; (try dsimp only at hSw); go_simp; try rfl
            case' rb2 => try simp only [List.getElem_toArray, List.getElem_cons_succ, List.getElem_cons_zero, Act.put, List.setIfInBounds_toArray, List.set_cons_zero, List.set_cons_succ]
            refine walk_take 3 (v := ?vb3) rfl (by kernel_rfl) (by kernel_rfl) (by kernel_rfl) (fun _ _ _ h => h) (hSS) (Or.inl ⟨by rfl, ?yb3⟩) ?rb3
            case yb3 => intro w hSw; obtain ⟨hw1, hw2⟩ := hSw; (try dsimp only at hSw); go_simp; try rfl
            case' rb3 => try simp only [List.getElem_toArray, List.getElem_cons_succ, List.getElem_cons_zero, Act.put, List.setIfInBounds_toArray, List.set_cons_zero, List.set_cons_succ]
            refine walk_take 4 (v := ?vb4) rfl (by kernel_rfl) (by kernel_rfl) (by kernel_rfl) (fun _ _ _ h => h) (hSS) (Or.inl ⟨by rfl, ?yb4⟩) ?rb4
            case yb4 => intro w hSw; obtain ⟨hw1, hw2⟩ := hSw; (try dsimp only at hSw); go_simp; try rfl
            case' rb4 => try simp only [List.getElem_toArray, List.getElem_cons_succ, List.getElem_cons_zero, Act.put, List.setIfInBounds_toArray, List.set_cons_zero, List.set_cons_succ]
            refine walk_take 5 (v := ?vb5) rfl (by kernel_rfl) (by kernel_rfl) (by kernel_rfl) (fun _ _ _ h => h) (hSS) (Or.inl ⟨by rfl, ?yb5⟩) ?rb5
            case yb5 => intro w hSw; obtain ⟨hw1, hw2⟩ := hSw; (try dsimp only at hSw); go_simp; try rfl
            case' rb5 => try simp only [List.getElem_toArray, List.getElem_cons_succ, List.getElem_cons_zero, Act.put, List.setIfInBounds_toArray, List.set_cons_zero, List.set_cons_succ]
            refine walk_take 6 (v := ?vb6) rfl (by kernel_rfl) (by kernel_rfl) (by kernel_rfl) (fun _ _ _ h => h) (hSS) (Or.inl ⟨by rfl, ?yb6⟩) ?rb6
            case yb6 => intro w hSw; obtain ⟨hw1, hw2⟩ := hSw; (try dsimp only at hSw); go_simp; try rfl
            case' rb6 => try simp only [List.getElem_toArray, List.getElem_cons_succ, List.getElem_cons_zero, Act.put, List.setIfInBounds_toArray, List.set_cons_zero, List.set_cons_succ]
            refine walk_take 7 (v := ?vb7) rfl (by kernel_rfl) (by kernel_rfl) (by kernel_rfl) (fun _ _ _ h => h) (hSS) (Or.inl ⟨by rfl, ?yb7⟩) ?rb7
            case yb7 => intro w hSw; obtain ⟨hw1, hw2⟩ := hSw; (try dsimp only at hSw); go_simp; try rfl
            case' rb7 => try simp only [List.getElem_toArray, List.getElem_cons_succ, List.getElem_cons_zero, Act.put, List.setIfInBounds_toArray, List.set_cons_zero, List.set_cons_succ]
            refine walk_take 8 (v := ?vb8) rfl (by kernel_rfl) (by kernel_rfl) (by kernel_rfl) (fun _ _ _ h => h) (hSS) (Or.inl ⟨by rfl, ?yb8⟩) ?rb8
            case yb8 => intro w hSw; obtain ⟨hw1, hw2⟩ := hSw; (try dsimp only at hSw); go_simp; try rfl
            case' rb8 => try simp only [List.getElem_toArray, List.getElem_cons_succ, List.getElem_cons_zero, Act.put, List.setIfInBounds_toArray, List.set_cons_zero, List.set_cons_succ]
            refine walk_take 9 (v := ?vb9) rfl (by kernel_rfl) (by kernel_rfl) (by kernel_rfl) (fun _ _ _ h => h) (hSS) (Or.inl ⟨by rfl, ?yb9⟩) ?rb9
            case yb9 => intro w hSw; obtain ⟨hw1, hw2⟩ := hSw; (try dsimp only at hSw); go_simp; try rfl
            case' rb9 => try simp only [List.getElem_toArray, List.getElem_cons_succ, List.getElem_cons_zero, Act.put, List.setIfInBounds_toArray, List.set_cons_zero, List.set_cons_succ]
            refine walk_take 10 (v := ?vb10) rfl (by kernel_rfl) (by kernel_rfl) (by kernel_rfl) (fun _ _ _ h => h) (hSS) (Or.inl ⟨by rfl, ?yb10⟩) ?rb10
            case yb10 => intro w hSw; obtain ⟨hw1, hw2⟩ := hSw; (try dsimp only at hSw); go_simp; try rfl
            case' rb10 => try simp only [List.getElem_toArray, List.getElem_cons_succ, List.getElem_cons_zero, Act.put, List.setIfInBounds_toArray, List.set_cons_zero, List.set_cons_succ]
            refine walk_take 11 (v := ?vb11) rfl (by kernel_rfl) (by kernel_rfl) (by kernel_rfl) (fun _ _ _ h => h) (hSS) (Or.inl ⟨by rfl, ?yb11⟩) ?rb11
            case yb11 => intro w hSw; obtain ⟨hw1, hw2⟩ := hSw; (try dsimp only at hSw); go_simp; try rfl
            case' rb11 => try simp only [List.getElem_toArray, List.getElem_cons_succ, List.getElem_cons_zero, Act.put, List.setIfInBounds_toArray, List.set_cons_zero, List.set_cons_succ]
            refine walk_take 12 (v := ?vb12) rfl (by kernel_rfl) (by kernel_rfl) (by kernel_rfl) (fun _ _ _ h => h) (hSS) (Or.inl ⟨by rfl, ?yb12⟩) ?rb12
            case yb12 => intro w hSw; obtain ⟨hw1, hw2⟩ := hSw; (try dsimp only at hSw); go_simp; try rfl
            case' rb12 => try simp only [List.getElem_toArray, List.getElem_cons_succ, List.getElem_cons_zero, Act.put, List.setIfInBounds_toArray, List.set_cons_zero, List.set_cons_succ]
            refine walk_take 13 (v := ?vb13) rfl (by kernel_rfl) (by kernel_rfl) (by kernel_rfl) (fun _ _ _ h => h) (hSS) (Or.inl ⟨by rfl, ?yb13⟩) ?rb13
            case yb13 => intro w hSw; obtain ⟨hw1, hw2⟩ := hSw; (try dsimp only at hSw); go_simp; try rfl
            case' rb13 => try simp only [List.getElem_toArray, List.getElem_cons_succ, List.getElem_cons_zero, Act.put, List.setIfInBounds_toArray, List.set_cons_zero, List.set_cons_succ]
            refine walk_take 14 (v := ?vb14) rfl (by kernel_rfl) (by kernel_rfl) (by kernel_rfl) (fun _ _ _ h => h) (hSS) (Or.inl ⟨by rfl, ?yb14⟩) ?rb14
            case yb14 => intro w hSw; obtain ⟨hw1, hw2⟩ := hSw; (try dsimp only at hSw); go_simp; try rfl
            case' rb14 => try simp only [List.getElem_toArray, List.getElem_cons_succ, List.getElem_cons_zero, Act.put, List.setIfInBounds_toArray, List.set_cons_zero, List.set_cons_succ]
            refine walk_take 15 (v := ?vb15) rfl (by kernel_rfl) (by kernel_rfl) (by kernel_rfl) (fun _ _ _ h => h) (hSS) (Or.inl ⟨by rfl, ?yb15⟩) ?rb15
            case yb15 => intro w hSw; obtain ⟨hw1, hw2⟩ := hSw; (try dsimp only at hSw); go_simp; try rfl
            case' rb15 => try simp only [List.getElem_toArray, List.getElem_cons_succ, List.getElem_cons_zero, Act.put, List.setIfInBounds_toArray, List.set_cons_zero, List.set_cons_succ]
            refine walk_take 16 (v := ?vb16) rfl (by kernel_rfl) (by kernel_rfl) (by kernel_rfl) (fun _ _ _ h => h) (hSS) (Or.inl ⟨by rfl, ?yb16⟩) ?rb16
            case yb16 => intro w hSw; obtain ⟨hw1, hw2⟩ := hSw; (try dsimp only at hSw); go_simp; try rfl
            case' rb16 => try simp only [List.getElem_toArray, List.getElem_cons_succ, List.getElem_cons_zero, Act.put, List.setIfInBounds_toArray, List.set_cons_zero, List.set_cons_succ]
            refine walk_take 17 (v := ?vb17) rfl (by kernel_rfl) (by kernel_rfl) (by kernel_rfl) (fun _ _ _ h => h) (hSS) (Or.inl ⟨by rfl, ?yb17⟩) ?rb17
            case yb17 => intro w hSw; obtain ⟨hw1, hw2⟩ := hSw; (try dsimp only at hSw); go_simp; try rfl
            case' rb17 => try simp only [List.getElem_toArray, List.getElem_cons_succ, List.getElem_cons_zero, Act.put, List.setIfInBounds_toArray, List.set_cons_zero, List.set_cons_succ]
            refine walk_tail (by kernel_rfl) ?_
            simp only [List.drop_succ_cons, List.drop_zero]
            clear w1 w2 w3 k1 k3 hSS
            go_wp2_with fail
            refine HCS.out.mono ?_
            rintro e v2 ⟨rfl, R2, cR2, rl2, hrl2, p2, hOr2, hR2, T2⟩
            clear HCS
            have zW := T1.size
            have hns2 : ∀ q, Touch (some ⟨gA, oA, none⟩) sl q → ¬ (q = p ∨ Touch R1 rl1 q) := fun q hq ht => by
              rcases ht with e | e
              · exact hns (e ▸ hq)
              · rcases hR1 q e with e | e
                · exact DSR.out q hq e
                · have := (hlts.out q hq).2; omega
            have hR2W : ∀ q, Touch R2 rl2 q → Touch R rl q ∨ W.heap.size ≤ q := fun q hq => by
              rcases hR2 q hq with e | e
              · exact hR1 q e
              · right
                have e : wr.heap.size ≤ q := e
                omega
            have T12 : Turned W v2 (fun q => q = p ∨ Touch R rl q) := (T1.drewN 1).trans T2 (fun i hi e => by
              rcases e with e | e
              · exact .inl e
              · rcases hR1 i e with e | e
                · exact .inr e
                · omega)
            have hOs2 := hOs.drew.turned T2 hns2
            go_wp2_with fail
            go_roundw
            case rel =>
              refine ⟨k + 1, by omega, by go_num, R2, cR2, rl2, p2, hOs2, hOr2, Lib.hid ?_, hR2W, T12⟩
              rw [hrl2, HRL.out, HTk.out, upsB_snoc, HTl.out, List.append_assoc]
              rfl
            case measure => simp [intOf]; omega
          · obtain rfl : k = n1 := by omega
            have h5i : ¬ (k : Int) < (k : Int) := by omega
            go_wp2_with fail
            refine bodyPost_ret (v := .bool true) (by simp [results, Try.results36, go_sem]) rfl ?_
            refine ⟨rfl, R1, nR + k, cR1, rl1, p1, hOr, ?_, hR1, T1⟩
            show _ = _ ++ upsB h.craft (h.next - (k : Int)) h.sent
            rw [HRL.out, ← N1.out, List.take_length]
end Go.Proofs.Ytppmdamcdhmcpaa
namespace Go.Proofs.Ytppmdamcdhmcpaa
set_option linter.unusedSimpArgs false
set_option linter.unusedVariables false
open Go.RowKit

theorem rows_rd {V : World} {S : Option Addr} {l : List RowR} (h : Rd V S (rowvs l)) (k : ∀ (i : Nat) (r : RowR), l[i]? = some r → Rd V r.A (bvs r.b) ∧ r.b.length ≤ r.c) : RdRows V S (l.map RowR.b) := by
  refine ⟨rowvs l, h, by simp [rowvs], fun i b hb => ?_⟩
  rw [List.getElem?_map] at hb
  rcases hl : l[i]? with _ | r
  · rw [hl] at hb; cases hb
  · rw [hl] at hb
    injection hb with hb
    subst hb
    exact ⟨r.A, r.c, rowvs_get hl, (k i r hl).1, (k i r hl).2⟩
/-- k new ones went up. -/
def MoreAt (W : World) (base p : Nat) (h : Hnd) (S A R : Option Addr) (n1 n2 d nR : Nat) (sl al rl : List RowR) (k : Nat) (V : World) : Prop :=
  ∃ S' c' R' cR' rl', Blk V p 45 #[.int .i64 h.craft, .int .i64 ((h.next + (k : Int)) % 256), .int .i64 h.ahead, .slice S' (n1 + k) c', .slice A n2 d, .int .i64 h.timer, .int .i64 h.patience, .int .i64 h.tries, .int .i64 h.limit, .int .i64 h.since, .int .i64 h.pause, .int .i64 h.halt, .slice R' (nR + k) cR'] ∧ Own V base 26 1 S' (n1 + k) c' (rowvs (sl ++ al.take k)) ∧ OwnBs V base sl ∧ OwnRs V base A n2 d al ∧ OwnRs V base R' (nR + k) cR' rl' ∧
    Hid (rl'.map RowR.b = rl.map RowR.b ++ upsB h.craft h.next (h.asked.take k)) ∧ (∀ q, blk S' = some q → blk S = some q ∨ W.heap.size ≤ q) ∧ (∀ q, Touch R' rl' q → Touch R rl q ∨ W.heap.size ≤ q) ∧ (∀ q, blk S' = some q → ¬ Touch R' rl' q) ∧ Turned W V (fun q => q = p ∨ Touch S sl q ∨ Touch R rl q)
theorem OwnBs.keep {w w' : World} {base : Nat} {l : List RowR} (h : OwnBs w base l) (k : ∀ (i : Nat) (r : RowR) (q : Nat), l[i]? = some r → blk r.A = some q → w'.heap[q]? = w.heap[q]?) : OwnBs w' base l := h.map fun i r hr hO => hO.keep fun a ha _ => k i r _ hr (map_block_of_some ha)

set_option maxHeartbeats 12800000 in
set_option maxRecDepth 100000 in
theorem more_any (h : Hnd) (S A R : Option Addr) (n1 c n2 d nR cR p base : Nat) (sl al rl : List RowR) (W : World) (hp : Blk W p 45 #[.int .i64 h.craft, .int .i64 h.next, .int .i64 h.ahead, .slice S n1 c, .slice A n2 d, .int .i64 h.timer, .int .i64 h.patience, .int .i64 h.tries, .int .i64 h.limit, .int .i64 h.since, .int .i64 h.pause, .int .i64 h.halt, .slice R nR cR]) (hsl : sl.map RowR.b = h.sent) (hal : al.map RowR.b = h.asked) (hOs : OwnRs W base S n1 c sl) (hOa : OwnRs W base A n2 d al) (hOr : OwnRs W base R nR cR rl)
    (dsa : Disj S sl A al) (dsr : Disj S sl R rl) (dar : Disj A al R rl) (t : Tick h) (hnR : nR ≤ 1000) (hbase : base ≤ W.heap.size) :
    Calls Try.prog 37 #[.pointer (some ⟨p, 0, none⟩)] W fun e w' => e = .returned (.tuple #[]) ∧
      ∃ S' c' A' d' R' cR' rl', Blk w' p 45 #[.int .i64 (moreH h).1.craft, .int .i64 (moreH h).1.next, .int .i64 (moreH h).1.ahead, .slice S' (n1 + moreN h) c', .slice A' (n2 - moreN h) d', .int .i64 (moreH h).1.timer, .int .i64 (moreH h).1.patience, .int .i64 (moreH h).1.tries, .int .i64 (moreH h).1.limit, .int .i64 (moreH h).1.since, .int .i64 (moreH h).1.pause, .int .i64 (moreH h).1.halt, .slice R' (nR + moreN h) cR'] ∧ RdRows w' S' (moreH h).1.sent ∧ RdRows w' A' (moreH h).1.asked ∧ OwnRs w' base R' (nR + moreN h) cR' rl' ∧ rl'.map RowR.b = rl.map RowR.b ++ (moreH h).2 ∧ (∀ q, Touch R' rl' q → Touch R rl q ∨ W.heap.size ≤ q) ∧ Turned W w' (fun q => q = p ∨ Touch S sl q ∨ Touch R rl q) := by
  obtain ⟨j0, hj0, hy0, hy1, hy2⟩ := info_parts rowsinfo
  have hn1 : h.sent.length = n1 := by rw [← hsl, List.length_map]; exact hOs.len
  have hn2 : h.asked.length = n2 := by rw [← hal, List.length_map]; exact hOa.len
  have t1 := t.1
  have t2 := t.2.1
  have t3 := t.2.2.1
  have hnx := t.2.2.2.2.2.1
  rw [hn1] at t1
  rw [hn2] at t3
  obtain ⟨N, hN⟩ : ∃ N, moreN h = N := ⟨_, rfl⟩
  have hmin : (if (n2 : Int) < h.ahead - (n1 : Int) then (n2 : Int) else h.ahead - (n1 : Int)) = (N : Int) := by rw [← hN]; unfold moreN; rw [hn1, hn2]; split <;> omega
  have hNn : N ≤ n2 := by rw [← hN, ← hn2]; exact Nat.min_le_right _ _
  have hNd : n2 ≤ d := hOa.arr.le
  have hmd : moreH h = (moreK h N, upsB h.craft h.next (h.asked.take N)) := by unfold moreH; rw [hN]
  rw [hN, hmd]
  have HS := Lib.hid hsl
  have HA := Lib.hid hal
  have N1 := Lib.hid hn1
  have N2 := Lib.hid hn2
  have HNn := Lib.hid hNn
  have AL := Lib.hid hOa.len
  have DSA := Lib.hid dsa
  have DSR := Lib.hid dsr
  have DAR := Lib.hid dar
  have w1 : IntKind.i64.wrap (h.ahead - (n1 : Int)) = h.ahead - (n1 : Int) := IntWalk.i64_in _ (by omega)
  have hpl := hp.lt
  have hlta := Lib.hid (fun (q : Nat) (hq : Touch A al q) => hOa.lt hq)
  have hlts := Lib.hid (fun (q : Nat) (hq : Touch S sl q) => hOs.lt hq)
  have k2 := hp.cell' (i := 2) rfl
  have k3 := hp.cell' (i := 3) rfl
  have k4 := hp.cell' (i := 4) rfl
  have HMIN := Lib.hid hmin
  clear hN hmd hsl hal hn1 hn2 dsa dsr dar hNn t hmin
  go_enter Try.func37, Try.ntmps37
  go_upto_region 0 with fail
  go_quiet (fail)
  rw [HMIN.out]
  clear k2 k3 k4 w1 HMIN
  have start : MoreAt W base p h S A R n1 n2 d nR sl al rl 0 (W.drewN nq) := by
    refine ⟨S, c, R, cR, rl, ?_, by simpa using hOs.arr.drewN nq, (hOs.drewN nq).bs, hOa.drewN nq, hOr.drewN nq, Lib.hid (by simp [upsB]), fun q hq => .inl hq, fun q hq => .inl hq, fun q hq ht => DSR.out q (.inl hq) ht, (Turned.refl _ _).drewN nq⟩
    rw [show (h.next + ((0 : Nat) : Int)) % 256 = h.next by omega]
    exact hp.drewN nq
  have k4 := (hp.drewN nq).cell' (i := 4) rfl
  have hNdI : (N : Int) ≤ (d : Int) := by have := HNn.out; omega
  clear hOs hOa hOr hp
  generalize W.drewN nq = W1 at *
  go_wp2_with fail
  clear k4
  go_loopw [32] (fun iv wr => ∃ k : Nat, k ≤ N ∧ iv = .int .i64 (k : Int) ∧ MoreAt W base p h S A R n1 n2 d nR sl al rl k wr) (fun iv _ => N - (intOf iv).toNat)
  case atStart => exact ⟨0, Nat.zero_le _, rfl, start⟩
  case round =>
    clear start
    obtain ⟨k, hk, rfl, S1, c1, R1, cR1, rl1, p1, hSa, hsb, hOa, hOr, HRL, hS1, hR1, hSR, T1⟩ := hrel
    have hlen := hSa.len
    by_cases h5 : k < N
    · have h5i : (k : Int) < (N : Int) := by omega
      have hk0 : (0 : Int) ≤ (k : Int) := by omega
      have hkl : k < al.length := by rw [AL.out]; have := HNn.out; omega
      have hx := List.getElem?_eq_getElem hkl
      obtain ⟨x, hxx⟩ : ∃ x, al[k] = x := ⟨_, rfl⟩
      rw [hxx] at hx
      clear hxx
      have hxa : h.asked[k]? = some x.b := by rw [← HA.out, List.getElem?_map, hx]; rfl
      have HTk : Hid (h.asked.take (k + 1) = h.asked.take k ++ [x.b]) := Lib.hid (by rw [List.take_add_one, hxa]; rfl)
      have HTa : Hid (al.take (k + 1) = al.take k ++ [x]) := Lib.hid (by rw [List.take_add_one, hx]; rfl)
      have HTl : Hid ((h.asked.take k).length = k) := Lib.hid (by rw [List.length_take, N2.out]; have := HNn.out; omega)
      obtain ⟨gA, oA, rfl, hg1, hg2⟩ := hOa.arr.form (by have := hOa.arr.le; have := HNn.out; omega)
      have e1 : wr.cell? ⟨gA, oA + k, none⟩ = some (.slice x.A x.b.length x.c) := hOa.arr.cell (rowvs_get hx)
      have hxO := hOa.bs.1 k x hx
      obtain ⟨nx, hnx⟩ : ∃ nx, x.b.length = nx := ⟨_, rfl⟩
      have CS := psend_any { h with next := (h.next + (k : Int)) % 256 } ⟨0, false, false, (h.next + (k : Int)) % 256, x.b⟩ S1 (some ⟨gA, oA, none⟩) R1 x.A (n1 + k) c1 n2 d (nR + k) cR1 nx x.c p base rl1 wr p1 hxO.rd hnx hOr (by have := T1.size; omega) (by have := HNn.out; omega)
      rw [hnx] at e1
      have NX := Lib.hid hnx
      clear hnx
      have HCS := Lib.hid CS
      clear CS
      have k1 := p1.cell' (i := 1) rfl
      go_wp2_with fail
      refine HCS.out.mono ?_
      rintro e v2 ⟨rfl, R2, cR2, rl2, hrl2, p2, hOr2, hR2, T2⟩
      clear HCS k1 e1
      have zW := T1.size
      have zv := T2.size
      have hnb2 : ∀ q, blk S1 = some q → ¬ (q = p ∨ Touch R1 rl1 q) := fun q hq ht => by
        rcases ht with e | e
        · exact hSa.notBlk p1 (by decide) (e ▸ hq)
        · exact hSR q hq e
      have hSa2 := hSa.turned T2 hnb2
      have hsrow : ∀ (i : Nat) (r : RowR) (q : Nat), sl[i]? = some r → blk r.A = some q → ¬ (q = p ∨ Touch R1 rl1 q) := fun i r q hr hq ht => by
        rcases ht with e | e
        · exact (hsb.1 i r hr).notBlk p1 (by decide) (e ▸ hq)
        · rcases hR1 q e with e | e
          · exact DSR.out q (.inr ⟨i, r, hr, hq⟩) e
          · have := (hlts.out q (.inr ⟨i, r, hr, hq⟩)).2; omega
      have hsb2 : OwnBs v2 base sl := hsb.keep fun i r q hr hq => T2.block q (hsb.lt hr hq).2 (hsrow i r q hr hq)
      have hna : ∀ q, Touch (some ⟨gA, oA, none⟩) al q → ¬ (q = p ∨ Touch R1 rl1 q) := fun q hq ht => by
        rcases ht with e | e
        · subst e
          rcases hq with e | ⟨i, r, hr, e⟩
          · exact hOa.arr.notBlk p1 (by decide) e
          · exact (hOa.bs.1 i r hr).notBlk p1 (by decide) e
        · rcases hR1 q e with e | e
          · exact DAR.out q hq e
          · have := (hlta.out q hq).2; omega
      have hOa2 := hOa.turned T2 hna
      have hR2W : ∀ q, Touch R2 rl2 q → Touch R rl q ∨ W.heap.size ≤ q := fun q hq => by
        rcases hR2 q hq with e | e
        · exact hR1 q e
        · right; omega
      have hSR2 : ∀ q, blk S1 = some q → ¬ Touch R2 rl2 q := fun q hq ht => by
        rcases hR2 q ht with e | e
        · exact hSR q hq e
        · have := (hSa.lt q hq).2; omega
      have T12 : Turned W v2 (fun q => q = p ∨ Touch S sl q ∨ Touch R rl q) := T1.trans T2 (fun i hi e => by
        rcases e with e | e
        · exact .inl e
        · rcases hR1 i e with e | e
          · exact .inr (.inr e)
          · omega)
      clear p1 hSa hsb hOa hOr hSR hR1 T1 hR2 T2 hnb2 hsrow hna
      have k3 := p2.cell' (i := 3) rfl
      have p4 := p2.alloc (.cells #[.slice x.A nx x.c] 26)
      have hSa4 := hSa2.alloc (.cells #[.slice x.A nx x.c] 26)
      have hRd4 := Rd_new v2 [.slice x.A nx x.c] 26
      have z4 : (v2.alloc (.cells #[.slice x.A nx x.c] 26)).heap.size = v2.heap.size + 1 := by simp
      have q4 : n1 + k + 1 ≤ maxLen := by unfold maxLen; have := HNn.out; omega
      have q5 : (n1 + k + 1) * 24 ≤ 140737488355328 := by have := HNn.out; omega
      have hnpS : blk S1 ≠ some p := hSa2.notBlk p2 (by decide)
      have w1 : IntKind.i64.wrap ((h.next + (k : Int)) % 256 + 1) = (h.next + (k : Int)) % 256 + 1 := IntWalk.i64_in _ (by omega)
      have w2 : bits .and .i64 ((h.next + (k : Int)) % 256 + 1) 255 = (h.next + ((k + 1 : Nat) : Int)) % 256 := by rw [i64_and255]; omega
      skip
      go_wp2_with (first
        | (at_builtin; refine wpList_append_Own (v2.alloc (.cells #[.slice x.A nx x.c] 26)) rfl (.tmp 50) (.tmp 52) 22 rfl base 26 j0 _ 1 24 Try.underlying22 hj0 hy0 hy1 hy2 rfl S1 (n1 + k) c1 (rowvs (sl ++ al.take k)) rfl hSa4 (some ⟨v2.heap.size, 0, none⟩) 1 1 [.slice x.A nx x.c] rfl rfl hRd4 (one_slice x.A nx x.c) q4 q5 (by omega) ?_; intro B6 d6 w6 hB6 hg6 hor6; have p6 := p4.over hg6 (fun q hq e => hnpS (by rw [hq]; exact e.symm)); have k3 := p6.cell' (i := 3) rfl; have kf6 := p6.frozen; have p7 := p6.set_ 3 (.slice B6 (n1 + k + 1) d6); have k1 := p7.cell' (i := 1) rfl; have kf7 := p7.frozen))
      have wf := w6.heap.size
      have hpB : blk B6 ≠ some p := hB6.notBlk p6 (by decide)
      have hpa : ¬ Touch (some ⟨gA, oA, none⟩) al p := fun hq => by
        rcases hq with e | ⟨i, r, hr, e⟩
        · exact hOa2.arr.notBlk p2 (by decide) e
        · exact (hOa2.bs.1 i r hr).notBlk p2 (by decide) e
      have hpr : ¬ Touch R2 rl2 p := fun hq => by
        rcases hq with e | ⟨i, r, hr, e⟩
        · exact hOr2.arr.notBlk p2 (by decide) e
        · exact (hOr2.bs.1 i r hr).notBlk p2 (by decide) e
      have b4 : Below v2.heap.size v2 (v2.alloc (.cells #[.slice x.A nx x.c] 26)) := (Below.refl _ _).alloc (Nat.le_refl _) _
      have hnS : ∀ q, blk S1 = some q → ¬ Touch (some ⟨gA, oA, none⟩) al q := fun q hq ht => by
        rcases hS1 q hq with e | e
        · exact DSA.out q (.inl e) ht
        · have := (hlta.out q ht).2; omega
      have hsb6 : OwnBs w6 base sl := (hsb2.step b4).map fun i r hr hO => hO.over hg6 (fun q hq e => (hO.apart hSa4 (by decide)) q e hq)
      have hsb8 := (hsb6.map (w' := w6.setCell ⟨p, 3, none⟩ (.slice B6 (n1 + k + 1) d6)) fun i r hr hO => hO.setFar (p := ⟨p, 3, none⟩) (hO.notBlk p6 (by decide)) _)
      have hOa6 := (hOa2.step b4).over hg6 (fun q hq ht => hnS q hq ht)
      have hOr6 := (hOr2.step b4).over hg6 (fun q hq ht => hSR2 q hq ht)
      have T6 := (T12.step b4).grown hg6 (fun q hq hl => by
        rcases hS1 q hq with e | e
        · exact .inr (.inl (.inl e))
        · omega)
      go_roundw
      case rel =>
        refine ⟨k + 1, by omega, by go_num, B6, d6, R2, cR2, rl2, p7.set_ 1 _, ?_, hsb8.map (fun i r hr hO => hO.setFar (p := ⟨p, 1, none⟩) (hO.notBlk p7 (by decide)) _), (hOa6.far (p := ⟨p, 3, none⟩) hpa _).far (p := ⟨p, 1, none⟩) hpa _, (hOr6.far (p := ⟨p, 3, none⟩) hpr _).far (p := ⟨p, 1, none⟩) hpr _, ?_, ?_, hR2W, ?_, (T6.set (p := ⟨p, 3, none⟩) (fun _ => .inl rfl) _).set (p := ⟨p, 1, none⟩) (fun _ => .inl rfl) _⟩
        · rw [HTa.out, ← List.append_assoc, rowvs_snoc, NX.out]
          exact (hB6.setFar (p := ⟨p, 3, none⟩) hpB _).setFar (p := ⟨p, 1, none⟩) hpB _
        · refine Lib.hid ?_
          rw [hrl2, HRL.out, HTk.out, upsB_snoc, HTl.out, List.append_assoc]
          rfl
        · intro q hq
          rcases hor6 with e | e
          · rw [e] at hq; exact hS1 q hq
          · rw [e] at hq
            have := Option.some.inj hq
            right; omega
        · intro q hq ht
          rcases hor6 with e | e
          · rw [e] at hq; exact hSR2 q hq ht
          · rw [e] at hq
            have := Option.some.inj hq
            have := (hOr2.lt ht).2
            omega
      case measure => simp [intOf]; omega
    · obtain rfl : k = N := by omega
      have h5i : ¬ (k : Int) < (k : Int) := by omega
      have k4 := p1.cell' (i := 4) rfl
      have kf := p1.frozen
      have hNI : (k : Int) ≤ (n2 : Int) := by have := HNn.out; omega
      have hn2d : (n2 : Int) ≤ (d : Int) := by omega
      by_cases hdk : d = k
      · subst hdk
        have hD : OwnRs wr base A 0 0 (al.drop d) := by have := hOa.drop (k := d) (by have := HNn.out; omega); rw [if_pos rfl, Nat.sub_self, show n2 - d = 0 by omega] at this; exact this
        go_wp2_with fail
        go_end0
        have hpS : blk S1 ≠ some p := hSa.notBlk p1 (by decide)
        have hpa : ¬ Touch A al p := fun hq => by
          rcases hq with e | ⟨i, r, hr, e⟩
          · exact hOa.arr.notBlk p1 (by decide) e
          · exact (hOa.bs.1 i r hr).notBlk p1 (by decide) e
        have hpd : ¬ Touch A (al.drop d) p := fun hq => by
          rcases hq with e | ⟨i, r, hr, e⟩
          · exact hD.arr.notBlk p1 (by decide) e
          · exact (hD.bs.1 i r hr).notBlk p1 (by decide) e
        have hpr : ¬ Touch R1 rl1 p := fun hq => by
          rcases hq with e | ⟨i, r, hr, e⟩
          · exact hOr.arr.notBlk p1 (by decide) e
          · exact (hOr.bs.1 i r hr).notBlk p1 (by decide) e
        have hOa9 := hOa.far (p := ⟨p, 4, none⟩) hpa (.slice A 0 0)
        have hD9 := hD.far (p := ⟨p, 4, none⟩) hpd (.slice A 0 0)
        have hsb9 := hsb.map (w' := wr.setCell ⟨p, 4, none⟩ (.slice A 0 0)) fun i r hr hO => hO.setFar (p := ⟨p, 4, none⟩) (hO.notBlk p1 (by decide)) _
        have hSa9 := hSa.setFar (p := ⟨p, 4, none⟩) hpS (.slice A 0 0)
        refine ⟨rfl, S1, c1, A, 0, R1, cR1, p1.set_ 4 _, ?_, ?_, rl1, hOr.far (p := ⟨p, 4, none⟩) hpr _, HRL.out, hR1, T1.set (p := ⟨p, 4, none⟩) (fun _ => .inl rfl) _⟩
        · show RdRows _ _ (h.sent ++ h.asked.take d)
          rw [← HS.out, ← HA.out, ← List.map_take, ← List.map_append]
          refine rows_rd hSa9.rd (fun i r hr => ?_)
          rcases List.mem_append.1 (List.mem_of_getElem? hr) with hm | hm
          · obtain ⟨j, hj, rfl⟩ := List.getElem_of_mem hm
            have hO := hsb9.1 j _ (List.getElem?_eq_getElem hj)
            exact ⟨hO.rd, hO.le⟩
          · obtain ⟨j, hj, rfl⟩ := List.getElem_of_mem (List.mem_of_mem_take hm)
            have hO := hOa9.bs.1 j _ (List.getElem?_eq_getElem hj)
            exact ⟨hO.rd, hO.le⟩
        · show RdRows _ _ (h.asked.drop d)
          rw [← HA.out, ← List.map_drop]
          exact hD9.rd
      · have hD : OwnRs wr base (Option.map (fun x => x.add k) A) (n2 - k) (d - k) (al.drop k) := by have := hOa.drop (k := k) (by have := HNn.out; omega); rw [if_neg hdk] at this; exact this
        go_wp2_with fail
        go_end0
        have hpS : blk S1 ≠ some p := hSa.notBlk p1 (by decide)
        have hpa : ¬ Touch A al p := fun hq => by
          rcases hq with e | ⟨i, r, hr, e⟩
          · exact hOa.arr.notBlk p1 (by decide) e
          · exact (hOa.bs.1 i r hr).notBlk p1 (by decide) e
        have hpd : ¬ Touch (Option.map (fun x => x.add k) A) (al.drop k) p := fun hq => by
          rcases hq with e | ⟨i, r, hr, e⟩
          · exact hD.arr.notBlk p1 (by decide) e
          · exact (hD.bs.1 i r hr).notBlk p1 (by decide) e
        have hpr : ¬ Touch R1 rl1 p := fun hq => by
          rcases hq with e | ⟨i, r, hr, e⟩
          · exact hOr.arr.notBlk p1 (by decide) e
          · exact (hOr.bs.1 i r hr).notBlk p1 (by decide) e
        have hOa9 := hOa.far (p := ⟨p, 4, none⟩) hpa (.slice (Option.map (fun x => x.add k) A) (n2 - k) (d - k))
        have hD9 := hD.far (p := ⟨p, 4, none⟩) hpd (.slice (Option.map (fun x => x.add k) A) (n2 - k) (d - k))
        have hsb9 := hsb.map (w' := wr.setCell ⟨p, 4, none⟩ (.slice (Option.map (fun x => x.add k) A) (n2 - k) (d - k))) fun i r hr hO => hO.setFar (p := ⟨p, 4, none⟩) (hO.notBlk p1 (by decide)) _
        have hSa9 := hSa.setFar (p := ⟨p, 4, none⟩) hpS (.slice (Option.map (fun x => x.add k) A) (n2 - k) (d - k))
        refine ⟨rfl, S1, c1, (Option.map (fun x => x.add k) A), (d - k), R1, cR1, p1.set_ 4 _, ?_, ?_, rl1, hOr.far (p := ⟨p, 4, none⟩) hpr _, HRL.out, hR1, T1.set (p := ⟨p, 4, none⟩) (fun _ => .inl rfl) _⟩
        · show RdRows _ _ (h.sent ++ h.asked.take k)
          rw [← HS.out, ← HA.out, ← List.map_take, ← List.map_append]
          refine rows_rd hSa9.rd (fun i r hr => ?_)
          rcases List.mem_append.1 (List.mem_of_getElem? hr) with hm | hm
          · obtain ⟨j, hj, rfl⟩ := List.getElem_of_mem hm
            have hO := hsb9.1 j _ (List.getElem?_eq_getElem hj)
            exact ⟨hO.rd, hO.le⟩
          · obtain ⟨j, hj, rfl⟩ := List.getElem_of_mem (List.mem_of_mem_take hm)
            have hO := hOa9.bs.1 j _ (List.getElem?_eq_getElem hj)
            exact ⟨hO.rd, hO.le⟩
        · show RdRows _ _ (h.asked.drop k)
          rw [← HA.out, ← List.map_drop]
          exact hD9.rd
end Go.Proofs.Ytppmdamcdhmcpaa
