/-
  (*hand).hear: what a status says.
-/
import Derived.Test.YtppmdamcdhmcpaaMCommandSteps18
import Derived.Test.YtppmdamcdhmcpaaMCommandSteps13
import Derived.Deep.DeepCutAuto
import Derived.Test.YtppmdamcdhmcpaaMCommandSteps2
import Derived.Test.YtppmdamcdhmcpaaMCommandSteps17
import Derived.Test.YtppmdamcdhmcpaaMCommandSteps4
import Derived.BigGuardPart
namespace Go.Proofs.Ytppmdamcdhmcpaa
set_option linter.unusedSimpArgs false
set_option linter.unusedVariables false
open Go.RowKit

theorem Own.drop {w : World} {base : Nat} {e : TypeId} {n c : Nat} {A : Option Addr} {xs : List Value} (h : Own w base e 1 A n c xs) {k : Nat} (hk : k ≤ n) : Own w base e 1 (if c = k then A else Option.map (fun x => x.add k) A) (n - k) (c - k) (xs.drop k) := by
  have hl := h.len
  have hle := h.le
  split
  · rename_i hc
    refine ⟨by rw [List.length_drop]; omega, by omega, by have := h.cap; omega, fun _ => by omega, fun a ha => ?_⟩
    obtain ⟨cur, h1, h2, h3, h4, h5⟩ := h.at_ a ha
    exact ⟨cur, h1, h2, h3, by omega, fun i u hu => by rw [List.getElem?_drop, List.getElem?_eq_none (by omega)] at hu; cases hu⟩
  · refine ⟨by rw [List.length_drop]; omega, by omega, by have := h.cap; omega, fun e => ?_, fun a ha => ?_⟩
    · rcases A with _ | a
      · have := h.nil rfl; omega
      · cases e
    · rcases A with _ | b
      · cases ha
      · injection ha with ha
        obtain ⟨cur, h1, h2, h3, h4, h5⟩ := h.at_ b rfl
        obtain ⟨b, off, spot⟩ := b
        dsimp only at h1 h2 h3 h4 h5
        subst h1
        dsimp only at ha
        rw [Addr.add_lit] at ha
        subst ha
        refine ⟨cur, rfl, h2, h3, by show off + k + (c - k) * 1 ≤ _; omega, fun i u hu => ?_⟩
        rw [List.getElem?_drop] at hu
        have := h5 (k + i) u hu
        show cur[off + k + i]? = some u
        rw [Nat.add_assoc]
        exact this
theorem blk_drop {A : Option Addr} {k c q : Nat} (h : blk (if c = k then A else Option.map (fun x => x.add k) A) = some q) : blk A = some q := by
  split at h
  · exact h
  · rcases A with _ | a
    · exact h
    · have : ((a.add k).block) = a.block := by unfold Addr.add; split <;> rfl
      simpa [blk, this] using h
theorem OwnRs.drop {w : World} {base n c : Nat} {A : Option Addr} {l : List RowR} (h : OwnRs w base A n c l) {k : Nat} (hk : k ≤ n) : OwnRs w base (if c = k then A else Option.map (fun x => x.add k) A) (n - k) (c - k) (l.drop k) := by
  refine ⟨by have := h.arr.drop hk; rw [show (rowvs l).drop k = rowvs (l.drop k) by unfold rowvs; rw [List.map_drop]] at this; exact this, h.bs.sub (fun i => k + i) (fun i j hij => by show k + i < k + j; omega) (fun i x hx => by rw [List.getElem?_drop] at hx; exact hx)⟩
theorem touch_drop {A : Option Addr} {l : List RowR} {k c q : Nat} (h : Touch (if c = k then A else Option.map (fun x => x.add k) A) (l.drop k) q) : Touch A l q := by
  rcases h with e | ⟨i, r, hr, e⟩
  · exact .inl (blk_drop e)
  · rw [List.getElem?_drop] at hr
    exact .inr ⟨k + i, r, hr, e⟩

set_option maxHeartbeats 12800000 in
set_option maxRecDepth 100000 in
theorem hear_any (h : Hnd) (gt : Gt) (S A R : Option Addr) (n1 c n2 d nR cR p base : Nat) (sl : List RowR) (W : World) (hp : Blk W p 45 #[.int .i64 h.craft, .int .i64 h.next, .int .i64 h.ahead, .slice S n1 c, .slice A n2 d, .int .i64 h.timer, .int .i64 h.patience, .int .i64 h.tries, .int .i64 h.limit, .int .i64 h.since, .int .i64 h.pause, .int .i64 h.halt, .slice R nR cR]) (hsl : sl.map RowR.b = h.sent) (hO : OwnRs W base S n1 c sl) (t : Tick h) (hg : 0 ≤ gt.next ∧ gt.next ≤ 255) :
    Calls Try.prog 35 #[.pointer (some ⟨p, 0, none⟩), gtv gt] W fun e w' => e = .returned (.bool (hearH h gt).2) ∧
      ∃ S' n' c' sl', sl'.map RowR.b = (hearH h gt).1.sent ∧ sl'.length = n' ∧ Blk w' p 45 #[.int .i64 (hearH h gt).1.craft, .int .i64 (hearH h gt).1.next, .int .i64 (hearH h gt).1.ahead, .slice S' n' c', .slice A n2 d, .int .i64 (hearH h gt).1.timer, .int .i64 (hearH h gt).1.patience, .int .i64 (hearH h gt).1.tries, .int .i64 (hearH h gt).1.limit, .int .i64 (hearH h gt).1.since, .int .i64 (hearH h gt).1.pause, .int .i64 (hearH h gt).1.halt, .slice R nR cR] ∧ OwnRs w' base S' n' c' sl' ∧ (∀ q, Touch S' sl' q → Touch S sl q) ∧ Turned W w' (fun q => q = p) := by
  have hn1 : h.sent.length = n1 := by rw [← hsl, List.length_map]; exact hO.len
  have hcap := hO.arr.le
  obtain ⟨k, hk⟩ : ∃ k, thereN h gt.next = k := ⟨_, rfl⟩
  have hkI : (gt.next - h.next + (n1 : Int)) % 256 = (k : Int) := by rw [← hk, ← hn1]; unfold thereN; omega
  have hlen : (n1 : Int) ≤ 127 := by have := t.1; have := t.2.1; omega
  have hnx := t.2.2.2.2.2.1
  have hhe : hearH h gt = if n1 < k then ({ h with halt := 11 }, false) else if gt.shut then ({ cutH h k with halt := 15 }, false) else (cutH h k, true) := by unfold hearH; rw [hk, hn1]
  obtain ⟨r, hr⟩ : ∃ r, hearH h gt = r := ⟨_, rfl⟩
  rw [hr] at hhe ⊢
  have HH := Lib.hid hhe
  have HS := Lib.hid hsl
  have HL := Lib.hid hO.len
  have hns : ¬ Touch S sl p := fun ht => by
    rcases ht with e | ⟨i, r, hr, e⟩
    · exact hO.arr.notBlk hp (by decide) e
    · exact (hO.bs.1 i r hr).notBlk hp (by decide) e
  have w3 : bits .and .i64 (gt.next - h.next + (n1 : Int)) 255 = (k : Int) := by rw [i64_and255, hkI]
  obtain ⟨w1, w2⟩ : IntKind.i64.wrap (gt.next - h.next) = gt.next - h.next ∧ IntKind.i64.wrap (gt.next - h.next + (n1 : Int)) = gt.next - h.next + (n1 : Int) := ⟨IntWalk.i64_in _ (by omega), IntWalk.i64_in _ (by omega)⟩
  have hB : Below W.heap.size W (W.alloc (.cells #[.int .i64 gt.craft, .int .i64 gt.next, .int .i64 gt.half, .bool gt.shut, .bool gt.wait, .bool gt.again, .int .i64 gt.count] 56)) := (Below.refl _ _).alloc (Nat.le_refl _) _
  have b3 := Blk.new W 56 #[.int .i64 gt.craft, .int .i64 gt.next, .int .i64 gt.half, .bool gt.shut, .bool gt.wait, .bool gt.again, .int .i64 gt.count]
  have hpl := hp.lt
  have T1 := below_turned hB
  have p1 := hp.alloc (.cells #[.int .i64 gt.craft, .int .i64 gt.next, .int .i64 gt.half, .bool gt.shut, .bool gt.wait, .bool gt.again, .int .i64 gt.count] 56)
  have hO1 := hO.alloc (.cells #[.int .i64 gt.craft, .int .i64 gt.next, .int .i64 gt.half, .bool gt.shut, .bool gt.wait, .bool gt.again, .int .i64 gt.count] 56)
  have gp : p ≠ W.heap.size := by omega
  clear hhe hr hk hkI hn1 hsl hB hp hO
  obtain ⟨g3, hg3⟩ : ∃ g3, g3 = W.heap.size := ⟨_, rfl⟩
  unfold gtv
  go_enter Try.func35, Try.ntmps35
  go_upto_region 1 with fail
  rw [← hg3] at b3 gp ⊢
  clear hg3
  generalize W.alloc (.cells #[.int .i64 gt.craft, .int .i64 gt.next, .int .i64 gt.half, .bool gt.shut, .bool gt.wait, .bool gt.again, .int .i64 gt.count] 56) = W1 at *
  have k1 := p1.cell' (i := 1) rfl
  have k3 := p1.cell' (i := 3) rfl
  have x1 := b3.cell' (i := 1) rfl
  go_quiet (fail)
  clear w1 w2 w3 k1 k3 x1
  go_upto_region 2 with fail
  replace p1 := p1.drewN nq
  replace b3 := b3.drewN nq
  replace hO1 := hO1.drewN nq
  replace T1 := T1.drewN nq
  generalize W1.drewN nq = W2 at *
  have k3 := p1.cell' (i := 3) rfl
  have x3 := b3.cell' (i := 3) rfl
  have T2 : Turned W W2 (fun q => q = p) := T1.mono (fun _ _ f => f.elim)
  by_cases hlt : n1 < k
  · have hli : (n1 : Int) < (k : Int) := by omega
    have k11 := p1.cell' (i := 11) rfl
    have kf := p1.frozen
    have e := HH.out
    rw [if_pos hlt] at e
    clear HH
    subst e
    have p2 : Blk (W2.setCell ⟨p, 11, none⟩ (.int .i64 11)) p 45 #[.int .i64 h.craft, .int .i64 h.next, .int .i64 h.ahead, .slice S n1 c, .slice A n2 d, .int .i64 h.timer, .int .i64 h.patience, .int .i64 h.tries, .int .i64 h.limit, .int .i64 h.since, .int .i64 h.pause, .int .i64 11, .slice R nR cR] := p1.set_ 11 _
    go_wp2_with fail
    refine bodyPost_ret (v := .bool false) (by simp [results, Try.results35, go_sem]) rfl ?_
    exact ⟨rfl, S, n1, c, sl, HS.out, HL.out, p2, hO1.far (p := ⟨p, 11, none⟩) hns _, fun q hq => hq, T2.set (p := ⟨p, 11, none⟩) (fun _ => rfl) _⟩
  · have hli : ¬ (n1 : Int) < (k : Int) := by omega
    have hle : (k : Int) ≤ (n1 : Int) := by omega
    have hcI : (n1 : Int) ≤ (c : Int) := by omega
    have HH2 := Lib.hid (show r = _ from HH.out.trans (if_neg hlt))
    clear HH
    have kf := p1.frozen
    have pS : Blk (W2.setCell ⟨p, 3, none⟩ (.slice (if c = k then S else Option.map (fun x => x.add k) S) (n1 - k) (c - k))) p 45 #[.int .i64 h.craft, .int .i64 h.next, .int .i64 h.ahead, .slice (if c = k then S else Option.map (fun x => x.add k) S) (n1 - k) (c - k), .slice A n2 d, .int .i64 h.timer, .int .i64 h.patience, .int .i64 h.tries, .int .i64 h.limit, .int .i64 h.since, .int .i64 h.pause, .int .i64 h.halt, .slice R nR cR] := p1.set_ 3 _
    have hOS := (hO1.far (p := ⟨p, 3, none⟩) hns (.slice (if c = k then S else Option.map (fun x => x.add k) S) (n1 - k) (c - k))).drop (k := k) (by omega)
    have bS := b3.far (p := ⟨p, 3, none⟩) (by show g3 ≠ p; omega) (.slice (if c = k then S else Option.map (fun x => x.add k) S) (n1 - k) (c - k))
    have TS := T2.set (p := ⟨p, 3, none⟩) (fun _ => rfl) (.slice (if c = k then S else Option.map (fun x => x.add k) S) (n1 - k) (c - k))
    have hnD : ¬ Touch (if c = k then S else Option.map (fun x => x.add k) S) (sl.drop k) p := fun ht => hns (touch_drop ht)
    go_upto_region 6 with fail
    clear k3 x3 kf p1 b3 T1 T2 hO1
    generalize W2.setCell ⟨p, 3, none⟩ (.slice (if c = k then S else Option.map (fun x => x.add k) S) (n1 - k) (c - k)) = W3 at *
    have hmap : (sl.drop k).map RowR.b = h.sent.drop k := by rw [List.map_drop, HS.out]
    have hdl : (sl.drop k).length = n1 - k := by rw [List.length_drop, HL.out]
    have HM := Lib.hid hmap
    have HD := Lib.hid hdl
    have HT := Lib.hid (fun (q : Nat) (hq : Touch (if c = k then S else Option.map (fun x => x.add k) S) (sl.drop k) q) => touch_drop hq)
    clear hmap hdl HS HL hli hle hcI hcap hlen
    generalize (if c = k then S else Option.map (fun x => x.add k) S) = S2 at *
    generalize sl.drop k = sl2 at *
    by_cases hk0 : 0 < k
    · have hki : (0 : Int) < (k : Int) := by omega
      have eS : cutH h k = { h with sent := h.sent.drop k, timer := 0, tries := 0 } := by unfold cutH; rw [if_pos hk0, if_pos hk0]
      have HH3 := Lib.hid (by have := HH2.out; rw [eS] at this; exact this)
      clear HH2 eS
      have k5 := pS.cell' (i := 5) rfl
      have kf := pS.frozen
      have pA : Blk (W3.setCell ⟨p, 5, none⟩ (.int .i64 0)) p 45 #[.int .i64 h.craft, .int .i64 h.next, .int .i64 h.ahead, .slice S2 (n1 - k) (c - k), .slice A n2 d, .int .i64 0, .int .i64 h.patience, .int .i64 h.tries, .int .i64 h.limit, .int .i64 h.since, .int .i64 h.pause, .int .i64 h.halt, .slice R nR cR] := pS.set_ 5 _
      have k7 := pA.cell' (i := 7) rfl
      have kfA := pA.frozen
      have pB : Blk ((W3.setCell ⟨p, 5, none⟩ (.int .i64 0)).setCell ⟨p, 7, none⟩ (.int .i64 0)) p 45 #[.int .i64 h.craft, .int .i64 h.next, .int .i64 h.ahead, .slice S2 (n1 - k) (c - k), .slice A n2 d, .int .i64 0, .int .i64 h.patience, .int .i64 0, .int .i64 h.limit, .int .i64 h.since, .int .i64 h.pause, .int .i64 h.halt, .slice R nR cR] := pA.set_ 7 _
      have hO4 := (hOS.far (p := ⟨p, 5, none⟩) hnD (.int .i64 0)).far (p := ⟨p, 7, none⟩) hnD (.int .i64 0)
      have b4 := (bS.far (p := ⟨p, 5, none⟩) (by show g3 ≠ p; omega) (.int .i64 0)).far (p := ⟨p, 7, none⟩) (by show g3 ≠ p; omega) (.int .i64 0)
      have T4 := (TS.set (p := ⟨p, 5, none⟩) (fun _ => rfl) (.int .i64 0)).set (p := ⟨p, 7, none⟩) (fun _ => rfl) (.int .i64 0)
      go_upto_region 8 with fail
      clear k5 kf k7 kfA pS pA hOS bS TS
      generalize (W3.setCell ⟨p, 5, none⟩ (.int .i64 0)).setCell ⟨p, 7, none⟩ (.int .i64 0) = W4 at *
      have x4 := b4.cell' (i := 3) rfl
      have k11 := pB.cell' (i := 11) rfl
      have kf := pB.frozen
      cases hsh : gt.shut
      · have e := HH3.out
        rw [if_neg (by rw [hsh]; decide)] at e
        rw [hsh] at x4
        clear HH3 hsh
        subst e
        go_wp2_with fail
        refine bodyPost_ret (v := .bool true) (by simp [results, Try.results35, go_sem]) rfl ?_
        exact ⟨rfl, S2, n1 - k, c - k, sl2, HM.out, HD.out, pB, hO4, HT.out, T4⟩
      · have e := HH3.out
        rw [if_pos hsh] at e
        rw [hsh] at x4
        clear HH3 hsh
        subst e
        go_wp2_with fail
        refine bodyPost_ret (v := .bool false) (by simp [results, Try.results35, go_sem]) rfl ?_
        exact ⟨rfl, S2, n1 - k, c - k, sl2, HM.out, HD.out, pB.set_ 11 _, hO4.far (p := ⟨p, 11, none⟩) hnD _, HT.out, T4.set (p := ⟨p, 11, none⟩) (fun _ => rfl) _⟩
    · have hki : ¬ (0 : Int) < (k : Int) := by omega
      have eS : cutH h k = { h with sent := h.sent.drop k } := by unfold cutH; rw [if_neg hk0, if_neg hk0]
      have HH3 := Lib.hid (by have := HH2.out; rw [eS] at this; exact this)
      clear HH2 eS
      have pB := pS
      have hO4 := hOS
      have b4 := bS
      have T4 := TS
      clear pS hOS bS TS
      go_upto_region 8 with fail
      generalize W3 = W4 at *
      have x4 := b4.cell' (i := 3) rfl
      have k11 := pB.cell' (i := 11) rfl
      have kf := pB.frozen
      cases hsh : gt.shut
      · have e := HH3.out
        rw [if_neg (by rw [hsh]; decide)] at e
        rw [hsh] at x4
        clear HH3 hsh
        subst e
        go_wp2_with fail
        refine bodyPost_ret (v := .bool true) (by simp [results, Try.results35, go_sem]) rfl ?_
        exact ⟨rfl, S2, n1 - k, c - k, sl2, HM.out, HD.out, pB, hO4, HT.out, T4⟩
      · have e := HH3.out
        rw [if_pos hsh] at e
        rw [hsh] at x4
        clear HH3 hsh
        subst e
        go_wp2_with fail
        refine bodyPost_ret (v := .bool false) (by simp [results, Try.results35, go_sem]) rfl ?_
        exact ⟨rfl, S2, n1 - k, c - k, sl2, HM.out, HD.out, pB.set_ 11 _, hO4.far (p := ⟨p, 11, none⟩) hnD _, HT.out, T4.set (p := ⟨p, 11, none⟩) (fun _ => rfl) _⟩
end Go.Proofs.Ytppmdamcdhmcpaa
namespace Go.Proofs.Ytppmdamcdhmcpaa
set_option linter.unusedSimpArgs false
set_option linter.unusedVariables false
open Go.RowKit

theorem rmay_range (cr : Int) (by_ co : Bool) (sq : Int) (A : Option Addr) (n c : Nat) (w : World) (h : ¬ ((0 ≤ cr ∧ cr ≤ 1023) ∧ (0 ≤ sq ∧ sq ≤ 255))) :
    Calls Try.prog 43 #[.agg #[.int .i64 cr, .bool by_, .bool co, .int .i64 sq, .slice A n c]] w fun e w' => e = .returned (.int .i64 2) ∧ Below w.heap.size w w' := by
  by_cases g1 : cr < 0
  · clear h
    go_enter Try.func43, Try.ntmps43
    go_wp2
    go_ret
    exact ⟨rfl, (by repeat (first | with_reducible exact Below.refl _ _ | with_reducible assumption | with_reducible refine below_drewN ?_ _ | with_reducible refine Below.drew ?_ | with_reducible refine Below.alloc ?_ ?_ _ | with_reducible refine Below.setCell ?_ ?_ _ | with_reducible exact Nat.le_refl _ | (simp; omega) | (simp; done)))⟩
  · replace g1 : 0 ≤ cr := by omega
    by_cases g2 : 1023 < cr
    · clear h
      go_enter Try.func43, Try.ntmps43
      go_wp2
      go_ret
      exact ⟨rfl, (by repeat (first | with_reducible exact Below.refl _ _ | with_reducible assumption | with_reducible refine below_drewN ?_ _ | with_reducible refine Below.drew ?_ | with_reducible refine Below.alloc ?_ ?_ _ | with_reducible refine Below.setCell ?_ ?_ _ | with_reducible exact Nat.le_refl _ | (simp; omega) | (simp; done)))⟩
    · replace g2 : cr ≤ 1023 := by omega
      by_cases g3 : sq < 0
      · clear h
        go_enter Try.func43, Try.ntmps43
        go_wp2
        go_ret
        exact ⟨rfl, (by repeat (first | with_reducible exact Below.refl _ _ | with_reducible assumption | with_reducible refine below_drewN ?_ _ | with_reducible refine Below.drew ?_ | with_reducible refine Below.alloc ?_ ?_ _ | with_reducible refine Below.setCell ?_ ?_ _ | with_reducible exact Nat.le_refl _ | (simp; omega) | (simp; done)))⟩
      · replace g3 : 0 ≤ sq := by omega
        have g4 : 255 < sq := by
          rcases Int.lt_or_le 255 sq with g | g
          · exact g
          · exact absurd ⟨⟨g1, g2⟩, ⟨g3, g⟩⟩ h
        clear h
        go_enter Try.func43, Try.ntmps43
        go_wp2
        go_ret
        exact ⟨rfl, (by repeat (first | with_reducible exact Below.refl _ _ | with_reducible assumption | with_reducible refine below_drewN ?_ _ | with_reducible refine Below.drew ?_ | with_reducible refine Below.alloc ?_ ?_ _ | with_reducible refine Below.setCell ?_ ?_ _ | with_reducible exact Nat.le_refl _ | (simp; omega) | (simp; done)))⟩
theorem rmay_kind (cr : Int) (sq : Int) (A : Option Addr) (n c : Nat) (w : World) (h : (0 ≤ cr ∧ cr ≤ 1023) ∧ (0 ≤ sq ∧ sq ≤ 255)) :
    Calls Try.prog 43 #[.agg #[.int .i64 cr, .bool false, .bool true, .int .i64 sq, .slice A n c]] w fun e w' => e = .returned (.int .i64 6) ∧ Below w.heap.size w w' := by
  obtain ⟨⟨a0, a1⟩, ⟨b0, b1⟩⟩ := h
  have z1 : decide (cr < 0) = false := by simp; omega
  have z2 : decide (1023 < cr) = false := by simp; omega
  have z3 : decide (sq < 0) = false := by simp; omega
  have z4 : decide (255 < sq) = false := by simp; omega
  go_enter Try.func43, Try.ntmps43
  go_wp2
  go_ret
  exact ⟨rfl, (by repeat (first | with_reducible exact Below.refl _ _ | with_reducible assumption | with_reducible refine below_drewN ?_ _ | with_reducible refine Below.drew ?_ | with_reducible refine Below.alloc ?_ ?_ _ | with_reducible refine Below.setCell ?_ ?_ _ | with_reducible exact Nat.le_refl _ | (simp; omega) | (simp; done)))⟩
set_option maxHeartbeats 1600000 in
set_option maxRecDepth 100000 in
theorem rmay_size (cr : Int) (by_ co : Bool) (sq : Int) (A : Option Addr) (n c : Nat) (w : World) (h : (0 ≤ cr ∧ cr ≤ 1023) ∧ (0 ≤ sq ∧ sq ≤ 255)) (hk : co = true → by_ = true) (hs : n < 1 ∨ 1017 < n) :
    Calls Try.prog 43 #[.agg #[.int .i64 cr, .bool by_, .bool co, .int .i64 sq, .slice A n c]] w fun e w' => e = .returned (.int .i64 1) ∧ Below w.heap.size w w' := by
  obtain ⟨⟨a0, a1⟩, ⟨b0, b1⟩⟩ := h
  have z1 : decide (cr < 0) = false := by simp; omega
  have z2 : decide (1023 < cr) = false := by simp; omega
  have z3 : decide (sq < 0) = false := by simp; omega
  have z4 : decide (255 < sq) = false := by simp; omega
  rcases hs with hs | hs
  · have d1 : decide ((n : Int) < 1) = true := by simp; omega
    cases co
    · clear hk
      go_enter Try.func43, Try.ntmps43
      go_wp2
      go_ret
      exact ⟨rfl, (by repeat (first | with_reducible exact Below.refl _ _ | with_reducible assumption | with_reducible refine below_drewN ?_ _ | with_reducible refine Below.drew ?_ | with_reducible refine Below.alloc ?_ ?_ _ | with_reducible refine Below.setCell ?_ ?_ _ | with_reducible exact Nat.le_refl _ | (simp; omega) | (simp; done)))⟩
    · obtain rfl := hk rfl
      clear hk
      go_enter Try.func43, Try.ntmps43
      go_wp2
      go_ret
      exact ⟨rfl, (by repeat (first | with_reducible exact Below.refl _ _ | with_reducible assumption | with_reducible refine below_drewN ?_ _ | with_reducible refine Below.drew ?_ | with_reducible refine Below.alloc ?_ ?_ _ | with_reducible refine Below.setCell ?_ ?_ _ | with_reducible exact Nat.le_refl _ | (simp; omega) | (simp; done)))⟩
  · have d1 : decide ((n : Int) < 1) = false := by simp; omega
    have d2 : decide ((1017 : Int) < (n : Int)) = true := by simp; omega
    cases co
    · clear hk
      go_enter Try.func43, Try.ntmps43
      go_wp2
      go_ret
      exact ⟨rfl, (by repeat (first | with_reducible exact Below.refl _ _ | with_reducible assumption | with_reducible refine below_drewN ?_ _ | with_reducible refine Below.drew ?_ | with_reducible refine Below.alloc ?_ ?_ _ | with_reducible refine Below.setCell ?_ ?_ _ | with_reducible exact Nat.le_refl _ | (simp; omega) | (simp; done)))⟩
    · obtain rfl := hk rfl
      clear hk
      go_enter Try.func43, Try.ntmps43
      go_wp2
      go_ret
      exact ⟨rfl, (by repeat (first | with_reducible exact Below.refl _ _ | with_reducible assumption | with_reducible refine below_drewN ?_ _ | with_reducible refine Below.drew ?_ | with_reducible refine Below.alloc ?_ ?_ _ | with_reducible refine Below.setCell ?_ ?_ _ | with_reducible exact Nat.le_refl _ | (simp; omega) | (simp; done)))⟩
set_option maxHeartbeats 1600000 in
set_option maxRecDepth 100000 in
theorem rmay_ok (cr : Int) (by_ co : Bool) (sq : Int) (A : Option Addr) (n c : Nat) (w : World) (h : (0 ≤ cr ∧ cr ≤ 1023) ∧ (0 ≤ sq ∧ sq ≤ 255)) (hk : co = true → by_ = true) (hs : 1 ≤ n ∧ n ≤ 1017) :
    Calls Try.prog 43 #[.agg #[.int .i64 cr, .bool by_, .bool co, .int .i64 sq, .slice A n c]] w fun e w' => e = .returned (.int .i64 0) ∧ Below w.heap.size w w' := by
  obtain ⟨⟨a0, a1⟩, ⟨b0, b1⟩⟩ := h
  have z1 : decide (cr < 0) = false := by simp; omega
  have z2 : decide (1023 < cr) = false := by simp; omega
  have z3 : decide (sq < 0) = false := by simp; omega
  have z4 : decide (255 < sq) = false := by simp; omega
  obtain ⟨h1, h2⟩ := hs
  have d1 : decide ((n : Int) < 1) = false := by simp; omega
  have d2 : decide ((1017 : Int) < (n : Int)) = false := by simp; omega
  cases co
  · clear hk
    go_enter Try.func43, Try.ntmps43
    go_wp2
    go_ret
    exact ⟨rfl, (by repeat (first | with_reducible exact Below.refl _ _ | with_reducible assumption | with_reducible refine below_drewN ?_ _ | with_reducible refine Below.drew ?_ | with_reducible refine Below.alloc ?_ ?_ _ | with_reducible refine Below.setCell ?_ ?_ _ | with_reducible exact Nat.le_refl _ | (simp; omega) | (simp; done)))⟩
  · obtain rfl := hk rfl
    clear hk
    go_enter Try.func43, Try.ntmps43
    go_wp2
    go_ret
    exact ⟨rfl, (by repeat (first | with_reducible exact Below.refl _ _ | with_reducible assumption | with_reducible refine below_drewN ?_ _ | with_reducible refine Below.drew ?_ | with_reducible refine Below.alloc ?_ ?_ _ | with_reducible refine Below.setCell ?_ ?_ _ | with_reducible exact Nat.le_refl _ | (simp; omega) | (simp; done)))⟩
theorem rmay_any (o : Ord) (A : Option Addr) (n c : Nat) (w : World) (hn : o.data.length = n) :
    Calls Try.prog 43 #[.agg #[.int .i64 o.craft, .bool o.bypass, .bool o.control, .int .i64 o.seq, .slice A n c]] w fun e w' => e = .returned (.int .i64 (ordMay o)) ∧ Below w.heap.size w w' := by
  subst hn
  unfold ordMay
  by_cases h1 : ordRange o
  · rw [if_pos h1]
    by_cases h2 : ordKind o
    · rw [if_pos h2]
      by_cases h3 : ordSize o
      · rw [if_pos h3]
        exact rmay_ok o.craft o.bypass o.control o.seq A _ c w h1 h2 h3
      · rw [if_neg h3]
        exact rmay_size o.craft o.bypass o.control o.seq A _ c w h1 h2 (by unfold ordSize at h3; omega)
    · rw [if_neg h2]
      have hc : o.control = true := by
        cases h : o.control with
        | true => rfl
        | false => exact absurd (fun e => by rw [h] at e; cases e) h2
      have hb : o.bypass = false := by
        cases h : o.bypass with
        | false => rfl
        | true => exact absurd (fun _ => h) h2
      rw [hc, hb]
      exact rmay_kind o.craft o.seq A _ c w h1
  · rw [if_neg h1]
    exact rmay_range o.craft o.bypass o.control o.seq A _ c w h1

theorem may_range (cr : Int) (by_ co : Bool) (sq : Int) (A : Option Addr) (n c : Nat) (w : World) (h : ¬ ((0 ≤ cr ∧ cr ≤ 1023) ∧ (0 ≤ sq ∧ sq ≤ 255))) :
    Calls Try.prog 51 #[.agg #[.int .i64 cr, .bool by_, .bool co, .int .i64 sq, .slice A n c]] w fun e w' => e = .returned (.int .i64 2) ∧ Below w.heap.size w w' := by
  have H := Lib.hid h
  clear h
  go_enter Try.func51, Try.ntmps51
  go_wp2_with fail
  by_cases g1 : 0 ≤ cr ∧ cr ≤ 1023
  rotate_left
  · refine (cin_no cr 0 1023 _ g1).mono ?_
    rintro e w' ⟨rfl, rfl⟩
    go_wp2
    go_ret
    exact ⟨rfl, (by repeat (first | with_reducible exact Below.refl _ _ | with_reducible assumption | with_reducible refine below_drewN ?_ _ | with_reducible refine Below.drew ?_ | with_reducible refine Below.alloc ?_ ?_ _ | with_reducible refine Below.setCell ?_ ?_ _ | with_reducible exact Nat.le_refl _ | (simp; omega) | (simp; done)))⟩
  refine (cin_yes cr 0 1023 _ g1.1 g1.2).mono ?_
  rintro e w' ⟨rfl, rfl⟩
  go_wp2_with fail
  refine (cin_no sq 0 255 _ (fun h => H.out ⟨g1, h⟩)).mono ?_
  rintro e w' ⟨rfl, rfl⟩
  go_wp2
  go_ret
  exact ⟨rfl, (by repeat (first | with_reducible exact Below.refl _ _ | with_reducible assumption | with_reducible refine below_drewN ?_ _ | with_reducible refine Below.drew ?_ | with_reducible refine Below.alloc ?_ ?_ _ | with_reducible refine Below.setCell ?_ ?_ _ | with_reducible exact Nat.le_refl _ | (simp; omega) | (simp; done)))⟩
theorem may_kind (cr : Int) (sq : Int) (A : Option Addr) (n c : Nat) (w : World) (h : (0 ≤ cr ∧ cr ≤ 1023) ∧ (0 ≤ sq ∧ sq ≤ 255)) :
    Calls Try.prog 51 #[.agg #[.int .i64 cr, .bool false, .bool true, .int .i64 sq, .slice A n c]] w fun e w' => e = .returned (.int .i64 6) ∧ Below w.heap.size w w' := by
  obtain ⟨⟨a0, a1⟩, ⟨b0, b1⟩⟩ := h
  go_enter Try.func51, Try.ntmps51
  go_wp2_with fail
  refine (cin_yes cr 0 1023 _ a0 a1).mono ?_
  rintro e w' ⟨rfl, rfl⟩
  go_wp2_with fail
  refine (cin_yes sq 0 255 _ b0 b1).mono ?_
  rintro e w' ⟨rfl, rfl⟩
  go_wp2
  go_ret
  exact ⟨rfl, (by repeat (first | with_reducible exact Below.refl _ _ | with_reducible assumption | with_reducible refine below_drewN ?_ _ | with_reducible refine Below.drew ?_ | with_reducible refine Below.alloc ?_ ?_ _ | with_reducible refine Below.setCell ?_ ?_ _ | with_reducible exact Nat.le_refl _ | (simp; omega) | (simp; done)))⟩
set_option maxHeartbeats 1600000 in
set_option maxRecDepth 100000 in
theorem may_size (cr : Int) (by_ co : Bool) (sq : Int) (A : Option Addr) (n c : Nat) (w : World) (h : (0 ≤ cr ∧ cr ≤ 1023) ∧ (0 ≤ sq ∧ sq ≤ 255)) (hk : co = true → by_ = true) (hs : n < 1 ∨ 1017 < n) :
    Calls Try.prog 51 #[.agg #[.int .i64 cr, .bool by_, .bool co, .int .i64 sq, .slice A n c]] w fun e w' => e = .returned (.int .i64 1) ∧ Below w.heap.size w w' := by
  obtain ⟨⟨a0, a1⟩, ⟨b0, b1⟩⟩ := h
  cases co
  · clear hk
    go_enter Try.func51, Try.ntmps51
    go_wp2_with fail
    refine (cin_yes cr 0 1023 _ a0 a1).mono ?_
    rintro e w' ⟨rfl, rfl⟩
    go_wp2_with fail
    refine (cin_yes sq 0 255 _ b0 b1).mono ?_
    rintro e w' ⟨rfl, rfl⟩
    go_wp2_with fail
    refine (cin_no (n : Int) 1 1017 _ (by omega)).mono ?_
    rintro e w' ⟨rfl, rfl⟩
    go_wp2
    go_ret
    exact ⟨rfl, (by repeat (first | with_reducible exact Below.refl _ _ | with_reducible assumption | with_reducible refine below_drewN ?_ _ | with_reducible refine Below.drew ?_ | with_reducible refine Below.alloc ?_ ?_ _ | with_reducible refine Below.setCell ?_ ?_ _ | with_reducible exact Nat.le_refl _ | (simp; omega) | (simp; done)))⟩
  · obtain rfl := hk rfl
    clear hk
    go_enter Try.func51, Try.ntmps51
    go_wp2_with fail
    refine (cin_yes cr 0 1023 _ a0 a1).mono ?_
    rintro e w' ⟨rfl, rfl⟩
    go_wp2_with fail
    refine (cin_yes sq 0 255 _ b0 b1).mono ?_
    rintro e w' ⟨rfl, rfl⟩
    go_wp2_with fail
    refine (cin_no (n : Int) 1 1017 _ (by omega)).mono ?_
    rintro e w' ⟨rfl, rfl⟩
    go_wp2
    go_ret
    exact ⟨rfl, (by repeat (first | with_reducible exact Below.refl _ _ | with_reducible assumption | with_reducible refine below_drewN ?_ _ | with_reducible refine Below.drew ?_ | with_reducible refine Below.alloc ?_ ?_ _ | with_reducible refine Below.setCell ?_ ?_ _ | with_reducible exact Nat.le_refl _ | (simp; omega) | (simp; done)))⟩
set_option maxHeartbeats 1600000 in
set_option maxRecDepth 100000 in
theorem may_ok (cr : Int) (by_ co : Bool) (sq : Int) (A : Option Addr) (n c : Nat) (w : World) (h : (0 ≤ cr ∧ cr ≤ 1023) ∧ (0 ≤ sq ∧ sq ≤ 255)) (hk : co = true → by_ = true) (hs : 1 ≤ n ∧ n ≤ 1017) :
    Calls Try.prog 51 #[.agg #[.int .i64 cr, .bool by_, .bool co, .int .i64 sq, .slice A n c]] w fun e w' => e = .returned (.int .i64 0) ∧ Below w.heap.size w w' := by
  obtain ⟨⟨a0, a1⟩, ⟨b0, b1⟩⟩ := h
  cases co
  · clear hk
    go_enter Try.func51, Try.ntmps51
    go_wp2_with fail
    refine (cin_yes cr 0 1023 _ a0 a1).mono ?_
    rintro e w' ⟨rfl, rfl⟩
    go_wp2_with fail
    refine (cin_yes sq 0 255 _ b0 b1).mono ?_
    rintro e w' ⟨rfl, rfl⟩
    go_wp2_with fail
    refine (cin_yes (n : Int) 1 1017 _ (by omega) (by omega)).mono ?_
    rintro e w' ⟨rfl, rfl⟩
    go_wp2
    go_ret
    exact ⟨rfl, (by repeat (first | with_reducible exact Below.refl _ _ | with_reducible assumption | with_reducible refine below_drewN ?_ _ | with_reducible refine Below.drew ?_ | with_reducible refine Below.alloc ?_ ?_ _ | with_reducible refine Below.setCell ?_ ?_ _ | with_reducible exact Nat.le_refl _ | (simp; omega) | (simp; done)))⟩
  · obtain rfl := hk rfl
    clear hk
    go_enter Try.func51, Try.ntmps51
    go_wp2_with fail
    refine (cin_yes cr 0 1023 _ a0 a1).mono ?_
    rintro e w' ⟨rfl, rfl⟩
    go_wp2_with fail
    refine (cin_yes sq 0 255 _ b0 b1).mono ?_
    rintro e w' ⟨rfl, rfl⟩
    go_wp2_with fail
    refine (cin_yes (n : Int) 1 1017 _ (by omega) (by omega)).mono ?_
    rintro e w' ⟨rfl, rfl⟩
    go_wp2
    go_ret
    exact ⟨rfl, (by repeat (first | with_reducible exact Below.refl _ _ | with_reducible assumption | with_reducible refine below_drewN ?_ _ | with_reducible refine Below.drew ?_ | with_reducible refine Below.alloc ?_ ?_ _ | with_reducible refine Below.setCell ?_ ?_ _ | with_reducible exact Nat.le_refl _ | (simp; omega) | (simp; done)))⟩
theorem may_any (o : Ord) (A : Option Addr) (n c : Nat) (w : World) (hn : o.data.length = n) :
    Calls Try.prog 51 #[.agg #[.int .i64 o.craft, .bool o.bypass, .bool o.control, .int .i64 o.seq, .slice A n c]] w fun e w' => e = .returned (.int .i64 (ordMay o)) ∧ Below w.heap.size w w' := by
  subst hn
  unfold ordMay
  by_cases h1 : ordRange o
  · rw [if_pos h1]
    by_cases h2 : ordKind o
    · rw [if_pos h2]
      by_cases h3 : ordSize o
      · rw [if_pos h3]
        exact may_ok o.craft o.bypass o.control o.seq A _ c w h1 h2 h3
      · rw [if_neg h3]
        exact may_size o.craft o.bypass o.control o.seq A _ c w h1 h2 (by unfold ordSize at h3; omega)
    · rw [if_neg h2]
      have hc : o.control = true := by
        cases h : o.control with
        | true => rfl
        | false => exact absurd (fun e => by rw [h] at e; cases e) h2
      have hb : o.bypass = false := by
        cases h : o.bypass with
        | false => rfl
        | true => exact absurd (fun _ => h) h2
      rw [hc, hb]
      exact may_kind o.craft o.seq A _ c w h1
  · rw [if_neg h1]
    exact may_range o.craft o.bypass o.control o.seq A _ c w h1
end Go.Proofs.Ytppmdamcdhmcpaa
