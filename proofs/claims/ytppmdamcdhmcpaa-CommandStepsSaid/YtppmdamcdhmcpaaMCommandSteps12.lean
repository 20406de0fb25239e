/-
  Two operations that may come up (XHeld's walk). The document's AskedOf.
-/
import Derived.Test.YtppmdamcdhmcpaaMCommandSteps11
import Derived.Test.YtppmdamcdhmcpaaMCommandSteps10
import Derived.Deep.DeepCutAuto
namespace Go.Proofs.Ytppmdamcdhmcpaa
set_option linter.unusedSimpArgs false
set_option linter.unusedVariables false
open Go.RowKit
section
variable {P : Program} {md : Region.Mode} {Q : Exit → Act → World → Prop} {S : World → Prop} {l : List Oper} {n f : Nat} {listed : Array Bool} {a : Act} {w : World}
theorem walk_step2 (i j : Nat) {oi oj : Oper} (hi : l.toArray[i]? = some oi) (hj : l.toArray[j]? = some oj) (hin : decide (i < n) = true) (hjn : decide (j < n) = true) (hr : Region.ready md l.toArray listed = [i, j])
    (h1 : ∀ K' : Act → World → Prop, (∀ a w, S w → Walk P md l Q S n f (listed.setIfInBounds i true) a w → K' a w) → if Region.wanted oi (yielded l.toArray a.tmps) = true then Oper.wp P oi a w K' Q else K' (a.put oi.dst undef) w)
    (h2 : ∀ K' : Act → World → Prop, (∀ a w, S w → Walk P md l Q S n f (listed.setIfInBounds j true) a w → K' a w) → if Region.wanted oj (yielded l.toArray a.tmps) = true then Oper.wp P oj a w K' Q else K' (a.put oj.dst undef) w) : Walk P md l Q S n (f + 1) listed a w := fun hB inv => by
  refine ⟨fun e => (by rw [hr] at e; cases e), fun k hk => ?_⟩
  have hk' := hk
  rw [hr] at hk'
  have hkij : k = i ∨ k = j := by simpa using hk'
  rcases hkij with e | e
  · subst e
    exact wpOp_step hi (fun K' hK => h1 K' fun a w hS hW => hK a w ⟨hS, hW hB (inv.set hk (by simpa using hin))⟩)
  · subst e
    exact wpOp_step hj (fun K' hK => h2 K' fun a w hS hW => hK a w ⟨hS, hW hB (inv.set hk (by simpa using hjn))⟩)
end
end Go.Proofs.Ytppmdamcdhmcpaa
namespace Go.Proofs.Ytppmdamcdhmcpaa
set_option linter.unusedSimpArgs false
set_option linter.unusedVariables false
open Go.RowKit

def askOk (l : List UInt8) : Prop := 1 ≤ l.length ∧ l.length ≤ 1017
instance (l : List UInt8) : Decidable (askOk l) := by unfold askOk; infer_instance
def askR (h : Hnd) (l : List UInt8) : Hnd × Int := if handOk h then (if askOk l then (if 100 ≤ h.asked.length then (h, 12) else ({ h with asked := h.asked ++ [l] }, 0)) else (h, 1)) else (Hnd.zero, 11)
/-- What a call gives: a hand and an error. -/
def HandOne (w w' : World) (H : Hnd) (m1 m2 : Nat) (err : Int) (e : Ending) : Prop :=
  ∃ S c A d sl al, e = .returned (.tuple #[hvn H S m1 c A m2 d, .int .i64 err]) ∧ (sl.map RowR.b = H.sent ∧ al.map RowR.b = H.asked) ∧ OwnRs w' w.heap.size S m1 c sl ∧ OwnRs w' w.heap.size A m2 d al ∧ Disj S sl A al ∧ Below w.heap.size w w'
theorem results_cell_slot {P : Program} {fn : Func} {p q : Tmp} {ty : TypeId} (h : fn.results = #[.cell p ty, .tmp q]) (tmps : Array Value) (w : World) (g : Nat) (t : TypeId) (cs : Array Value) (fr : Nat × Nat) (d : TypeDesc)
    {v : Value} (hp : tmps.getD p undef = .pointer (some ⟨g, 0, none⟩)) (hq : tmps.getD q undef = v) (hg : w.heap[g]? = some (.cells cs t fr))
    (hu : P.underlying ty = some d) (hd : (match d with | .struct _ | .array _ _ => true | _ => false) = true) (hi : (P.info? ty).map (·.size) = some cs.size) :
    (results fn tmps).run P w = .ok (.tuple #[.agg cs, v]) w := by
  have hq' : tmps[q]?.getD undef = v := by simpa using hq
  have hp' : tmps[p]?.getD undef = .pointer (some ⟨g, 0, none⟩) := by simpa using hp
  simp [results, h, hp', hq', asAddr, run_loadVar_row w g t ty cs fr d hg hu hd hi]
set_option maxHeartbeats 6400000 in
set_option maxRecDepth 100000 in
theorem rasked_any (h : Hnd) (S : Option Addr) (n1 c : Nat) (A : Option Addr) (n2 d : Nat) (X : Option Addr) (l : List UInt8) (nl cl : Nat) (w : World) (hS : RdRows w S h.sent) (hA : RdRows w A h.asked) (hn1 : h.sent.length = n1) (hn2 : h.asked.length = n2) (f1 : RowsFit h.sent n1) (f2 : RowsFit h.asked n2)
    (hX : Rd w X (bvs l)) (hnl : l.length = nl) (hcl : nl ≤ cl) (H : Hnd) (m1 m2 : Nat) (err : Int) (hR : askR h l = (H, err)) (hm1 : H.sent.length = m1) (hm2 : H.asked.length = m2) :
    Calls Try.prog 6 #[hvn h S n1 c A n2 d, .slice X nl cl] w fun e w' => HandOne w w' H m1 m2 err e := by
  obtain ⟨i0, hi0, hz0', hz1, hz2⟩ := info_parts u8info
  obtain ⟨j0, hj0, hy0, hy1, hy2⟩ := info_parts rowsinfo
  have CM := Lib.hid (fun w (hS : RdRows w S h.sent) (hA : RdRows w A h.asked) => rhandMay_any h S c A d w hS hA (by rw [hn1]; exact f1.1) (by rw [hn2]; exact f2.1) f1.2 f2.2)
  rw [← hvn_hdv, hn1, hn2] at CM
  have HS := Lib.hid hS
  have HA := Lib.hid hA
  have HX := Lib.hid hX
  have N1 := Lib.hid hn1
  have N2 := Lib.hid hn2
  have NL := Lib.hid hnl
  have M1 := Lib.hid hm1
  have M2 := Lib.hid hm2
  have F1 := Lib.hid f1
  have F2 := Lib.hid f2
  have HR := Lib.hid hR
  clear hS hA hX hn1 hn2 hnl hm1 hm2 f1 f2 hR
  unfold hvn at CM ⊢
  have b2 := (Blk.new w 25 #[.int .i64 h.craft, .int .i64 h.next, .int .i64 h.ahead, .slice S n1 c, .slice A n2 d, .int .i64 h.timer, .int .i64 h.patience, .int .i64 h.tries, .int .i64 h.limit, .int .i64 h.since, .int .i64 h.pause, .int .i64 h.halt]).alloc (.cells #[.int .i64 0, .int .i64 0, .int .i64 0, .slice none 0 0, .slice none 0 0, .int .i64 0, .int .i64 0, .int .i64 0, .int .i64 0, .int .i64 0, .int .i64 0, .int .i64 0] 25)
  have b4 := Blk.new (w.alloc (.cells #[.int .i64 h.craft, .int .i64 h.next, .int .i64 h.ahead, .slice S n1 c, .slice A n2 d, .int .i64 h.timer, .int .i64 h.patience, .int .i64 h.tries, .int .i64 h.limit, .int .i64 h.since, .int .i64 h.pause, .int .i64 h.halt] 25)) 25 #[.int .i64 0, .int .i64 0, .int .i64 0, .slice none 0 0, .slice none 0 0, .int .i64 0, .int .i64 0, .int .i64 0, .int .i64 0, .int .i64 0, .int .i64 0, .int .i64 0]
  rw [show (w.alloc (.cells #[.int .i64 h.craft, .int .i64 h.next, .int .i64 h.ahead, .slice S n1 c, .slice A n2 d, .int .i64 h.timer, .int .i64 h.patience, .int .i64 h.tries, .int .i64 h.limit, .int .i64 h.since, .int .i64 h.pause, .int .i64 h.halt] 25)).heap.size = w.heap.size + 1 by simp] at b4
  have hB : Below w.heap.size w ((w.alloc (.cells #[.int .i64 h.craft, .int .i64 h.next, .int .i64 h.ahead, .slice S n1 c, .slice A n2 d, .int .i64 h.timer, .int .i64 h.patience, .int .i64 h.tries, .int .i64 h.limit, .int .i64 h.since, .int .i64 h.pause, .int .i64 h.halt] 25)).alloc (.cells #[.int .i64 0, .int .i64 0, .int .i64 0, .slice none 0 0, .slice none 0 0, .int .i64 0, .int .i64 0, .int .i64 0, .int .i64 0, .int .i64 0, .int .i64 0, .int .i64 0] 25)) := ((Below.refl _ _).alloc (Nat.le_refl _) _).alloc (by simp) _
  have s0 : ((w.alloc (.cells #[.int .i64 h.craft, .int .i64 h.next, .int .i64 h.ahead, .slice S n1 c, .slice A n2 d, .int .i64 h.timer, .int .i64 h.patience, .int .i64 h.tries, .int .i64 h.limit, .int .i64 h.since, .int .i64 h.pause, .int .i64 h.halt] 25)).alloc (.cells #[.int .i64 0, .int .i64 0, .int .i64 0, .slice none 0 0, .slice none 0 0, .int .i64 0, .int .i64 0, .int .i64 0, .int .i64 0, .int .i64 0, .int .i64 0, .int .i64 0] 25)).heap.size = w.heap.size + 2 := by simp
  by_cases hok : handOk h
  · have HR2 : Hid ((if askOk l then (if 100 ≤ h.asked.length then (h, 12) else ({ h with asked := h.asked ++ [l] }, 0)) else (h, 1) : Hnd × Int) = (H, err)) := Lib.hid (by have := HR.out; unfold askR at this; rw [if_pos hok] at this; exact this)
    rw [show handB h = true from decide_eq_true hok] at CM
    have hn100 : n2 ≤ 100 := by rw [← N2.out]; exact hok.2.2.2.1
    clear HR hok
    go_enter Try.func6, Try.ntmps6
    go_wp2_with (refine wpList_load_row rfl 25 (.tmp 2) rfl (w.heap.size) rfl 25 #[.int .i64 h.craft, .int .i64 h.next, .int .i64 h.ahead, .slice S n1 c, .slice A n2 d, .int .i64 h.timer, .int .i64 h.patience, .int .i64 h.tries, .int .i64 h.limit, .int .i64 h.since, .int .i64 h.pause, .int .i64 h.halt] (0, 0) _ b2 Try.underlying25 rfl handsz ?_)
    generalize (w.alloc (.cells #[.int .i64 h.craft, .int .i64 h.next, .int .i64 h.ahead, .slice S n1 c, .slice A n2 d, .int .i64 h.timer, .int .i64 h.patience, .int .i64 h.tries, .int .i64 h.limit, .int .i64 h.since, .int .i64 h.pause, .int .i64 h.halt] 25)).alloc (.cells #[.int .i64 0, .int .i64 0, .int .i64 0, .slice none 0 0, .slice none 0 0, .int .i64 0, .int .i64 0, .int .i64 0, .int .i64 0, .int .i64 0, .int .i64 0, .int .i64 0] 25) = W0 at *
    refine (CM.out W0 (HS.out.below hB) (HA.out.below hB)).mono ?_
    rintro e w1 ⟨rfl, hb⟩
    clear CM
    have s1 := hb.size
    replace b2 := b2.step hb
    replace b4 := b4.step hb
    replace hB := hB.trans (hb.mono hB.size)
    clear hb
    go_wp2_with (refine wpList_load_row rfl 25 (.tmp 2) rfl (w.heap.size) rfl 25 #[.int .i64 h.craft, .int .i64 h.next, .int .i64 h.ahead, .slice S n1 c, .slice A n2 d, .int .i64 h.timer, .int .i64 h.patience, .int .i64 h.tries, .int .i64 h.limit, .int .i64 h.since, .int .i64 h.pause, .int .i64 h.halt] (0, 0) _ b2 Try.underlying25 rfl handsz ?_)
    refine (rhandOf_any h S n1 c A n2 d w1 N1.out N2.out (HS.out.below hB) (HA.out.below hB) F1.out.1 F2.out.1 F1.out.2 F2.out.2).mono ?_
    rintro e w2 ⟨Sk, ck, Ak, dk, sl, al, rfl, hsl, hal, hOs, hOa, dd, hb⟩
    have MS := Lib.hid hsl
    have MA := Lib.hid hal
    have DD := Lib.hid dd
    clear hsl hal dd
    have s2 := hb.size
    replace b2 := b2.step hb
    replace b4 := b4.step hb
    replace hB := hB.trans (hb.mono hB.size)
    clear hb
    unfold hvn
    have b2' := b2.row #[.int .i64 h.craft, .int .i64 h.next, .int .i64 h.ahead, .slice Sk n1 ck, .slice Ak n2 dk, .int .i64 h.timer, .int .i64 h.patience, .int .i64 h.tries, .int .i64 h.limit, .int .i64 h.since, .int .i64 h.pause, .int .i64 h.halt]
    have b4' := b4.farRow (g := w.heap.size) (by omega) #[.int .i64 h.craft, .int .i64 h.next, .int .i64 h.ahead, .slice Sk n1 ck, .slice Ak n2 dk, .int .i64 h.timer, .int .i64 h.patience, .int .i64 h.tries, .int .i64 h.limit, .int .i64 h.since, .int .i64 h.pause, .int .i64 h.halt]
    have hOs' := hOs.lowRow (g := w.heap.size) (by omega) #[.int .i64 h.craft, .int .i64 h.next, .int .i64 h.ahead, .slice Sk n1 ck, .slice Ak n2 dk, .int .i64 h.timer, .int .i64 h.patience, .int .i64 h.tries, .int .i64 h.limit, .int .i64 h.since, .int .i64 h.pause, .int .i64 h.halt]
    have hOa' := hOa.lowRow (g := w.heap.size) (by omega) #[.int .i64 h.craft, .int .i64 h.next, .int .i64 h.ahead, .slice Sk n1 ck, .slice Ak n2 dk, .int .i64 h.timer, .int .i64 h.patience, .int .i64 h.tries, .int .i64 h.limit, .int .i64 h.since, .int .i64 h.pause, .int .i64 h.halt]
    have hB' := below_row hB (g := w.heap.size) (Nat.le_refl _) #[.int .i64 h.craft, .int .i64 h.next, .int .i64 h.ahead, .slice Sk n1 ck, .slice Ak n2 dk, .int .i64 h.timer, .int .i64 h.patience, .int .i64 h.tries, .int .i64 h.limit, .int .i64 h.since, .int .i64 h.pause, .int .i64 h.halt]
    have s3 := setRow_size w2 w.heap.size #[.int .i64 h.craft, .int .i64 h.next, .int .i64 h.ahead, .slice Sk n1 ck, .slice Ak n2 dk, .int .i64 h.timer, .int .i64 h.patience, .int .i64 h.tries, .int .i64 h.limit, .int .i64 h.since, .int .i64 h.pause, .int .i64 h.halt]
    go_upto_region 4 with (refine wpList_store_row rfl 25 (.tmp 2) (.tmp 11) rfl (w.heap.size) #[.int .i64 h.craft, .int .i64 h.next, .int .i64 h.ahead, .slice Sk n1 ck, .slice Ak n2 dk, .int .i64 h.timer, .int .i64 h.patience, .int .i64 h.tries, .int .i64 h.limit, .int .i64 h.since, .int .i64 h.pause, .int .i64 h.halt] rfl rfl 25 _ b2 handsz rfl (hand_one h Sk n1 ck Ak n2 dk) ?_)
    generalize w2.setRow w.heap.size #[.int .i64 h.craft, .int .i64 h.next, .int .i64 h.ahead, .slice Sk n1 ck, .slice Ak n2 dk, .int .i64 h.timer, .int .i64 h.patience, .int .i64 h.tries, .int .i64 h.limit, .int .i64 h.since, .int .i64 h.pause, .int .i64 h.halt] = W2 at *
    clear b2 b4 hOs hOa hB
    have b2 := b2'
    have b4 := b4'
    have hOs := hOs'
    have hOa := hOa'
    have hB := hB'
    clear b2' b4' hOs' hOa' hB'
    by_cases hask : askOk l
    · rw [if_pos hask] at HR2
      have hk1 : ¬ (nl : Int) < 1 := by have := hask.1; rw [NL.out] at this; omega
      have hk2 : ¬ (1017 : Int) < (nl : Int) := by have := hask.2; rw [NL.out] at this; omega
      have hnl2 : nl ≤ 1017 := by omega
      clear hask
      have k4 := b2.cell' (i := 4) rfl
      by_cases hfull : 100 ≤ n2
      · have hf : (100 : Int) ≤ (n2 : Int) := by omega
        rw [if_pos (by rw [N2.out]; exact hfull)] at HR2
        obtain ⟨rfl, rfl⟩ : h = H ∧ err = 12 := by have := HR2.out; simp only [Prod.mk.injEq] at this; exact ⟨this.1, this.2.symm⟩
        obtain rfl : n1 = m1 := by rw [← N1.out, M1.out]
        obtain rfl : n2 = m2 := by rw [← N2.out, M2.out]
        clear HR2
        go_wp2_with (first
          | (first | (refine wpList_load_row rfl 25 (.tmp 2) rfl (w.heap.size) rfl 25 #[.int .i64 h.craft, .int .i64 h.next, .int .i64 h.ahead, .slice Sk n1 ck, .slice Ak n2 dk, .int .i64 h.timer, .int .i64 h.patience, .int .i64 h.tries, .int .i64 h.limit, .int .i64 h.since, .int .i64 h.pause, .int .i64 h.halt] (0, 0) _ b2 Try.underlying25 rfl handsz ?_))
          | (first | (refine wpList_store_row rfl 25 (.tmp 4) (.tmp 20) rfl (w.heap.size + 1) #[.int .i64 h.craft, .int .i64 h.next, .int .i64 h.ahead, .slice Sk n1 ck, .slice Ak n2 dk, .int .i64 h.timer, .int .i64 h.patience, .int .i64 h.tries, .int .i64 h.limit, .int .i64 h.since, .int .i64 h.pause, .int .i64 h.halt] rfl rfl 25 _ b4 handsz rfl (hand_one h Sk n1 ck Ak n2 dk) ?_) | (refine wpList_store_row rfl 25 (.tmp 4) (.tmp 25) rfl (w.heap.size + 1) #[.int .i64 h.craft, .int .i64 h.next, .int .i64 h.ahead, .slice Sk n1 ck, .slice Ak n2 dk, .int .i64 h.timer, .int .i64 h.patience, .int .i64 h.tries, .int .i64 h.limit, .int .i64 h.since, .int .i64 h.pause, .int .i64 h.halt] rfl rfl 25 _ b4 handsz rfl (hand_one h Sk n1 ck Ak n2 dk) ?_)))
        have b4' := b4.row #[.int .i64 h.craft, .int .i64 h.next, .int .i64 h.ahead, .slice Sk n1 ck, .slice Ak n2 dk, .int .i64 h.timer, .int .i64 h.patience, .int .i64 h.tries, .int .i64 h.limit, .int .i64 h.since, .int .i64 h.pause, .int .i64 h.halt]
        refine bodyPost_ret (v := .tuple #[.agg #[.int .i64 h.craft, .int .i64 h.next, .int .i64 h.ahead, .slice Sk n1 ck, .slice Ak n2 dk, .int .i64 h.timer, .int .i64 h.patience, .int .i64 h.tries, .int .i64 h.limit, .int .i64 h.since, .int .i64 h.pause, .int .i64 h.halt], .int .i64 12]) (results_cell_slot (ty := 25) Try.results6 _ _ (w.heap.size + 1) 25 _ (0, 0) _ rfl rfl b4' Try.underlying25 rfl handsz) rfl ?_
        refine ⟨Sk, ck, Ak, dk, sl, al, rfl, ⟨MS.out, MA.out⟩, (hOs.lowRow (by omega) _).mono (by omega), (hOa.lowRow (by omega) _).mono (by omega), DD.out, below_row hB (by omega) _⟩
      · have hf : ¬ (100 : Int) ≤ (n2 : Int) := by omega
        rw [if_neg (by rw [N2.out]; exact hfull)] at HR2
        go_upto_region 8 with fail
        have q1 : Hid ((bvs l).length = nl * 1) := Lib.hid (by simp [bvs, NL.out])
        have q2 : 0 + nl ≤ maxLen := by unfold maxLen; omega
        have q3 : (0 + nl) * 1 ≤ 140737488355328 := by omega
        have q4 : n2 + 1 ≤ maxLen := by unfold maxLen; omega
        have q5 : (n2 + 1) * 24 ≤ 140737488355328 := by omega
        have hRD : Rd W2.drew X (bvs l) := (HX.out.below hB).drew
        have hbs : w.heap.size ≤ W2.drew.heap.size := hB.size
        refine heldRegion (fun v => v.cell? ⟨w.heap.size, 4, none⟩ = some (.slice Ak n2 dk)) 5 (by kernel_rfl) (by kernel_rfl) k4 (fun hSS => ?_)
        refine walk_take 0 (v := ?v10) rfl (by kernel_rfl) (by kernel_rfl) (by kernel_rfl) (fun _ _ _ h => h) (hSS) (Or.inl ⟨by rfl, ?y10⟩) ?r10
        case y10 => intro w hSw; (try dsimp only at hSw); go_simp; try rfl
        case' r10 => try simp only [List.getElem_toArray, List.getElem_cons_succ, List.getElem_cons_zero, Act.put, List.setIfInBounds_toArray, List.set_cons_zero, List.set_cons_succ]
        refine walk_take 1 (v := ?v11) rfl (by kernel_rfl) (by kernel_rfl) (by kernel_rfl) (fun _ _ _ h => h) (hSS) (Or.inl ⟨by rfl, ?y11⟩) ?r11
        case y11 => intro w hSw; (try dsimp only at hSw); go_simp; try rfl
        case' r11 => try simp only [List.getElem_toArray, List.getElem_cons_succ, List.getElem_cons_zero, Act.put, List.setIfInBounds_toArray, List.set_cons_zero, List.set_cons_succ]
        refine walk_take 2 (v := ?v12) rfl (by kernel_rfl) (by kernel_rfl) (by kernel_rfl) (fun _ _ _ h => h) (hSS) (Or.inl ⟨by rfl, ?y12⟩) ?r12
        case y12 => intro w hSw; (try dsimp only at hSw); go_simp; try rfl
        case' r12 => try simp only [List.getElem_toArray, List.getElem_cons_succ, List.getElem_cons_zero, Act.put, List.setIfInBounds_toArray, List.set_cons_zero, List.set_cons_succ]
        refine walk_step 3 rfl (by kernel_rfl) (by kernel_rfl) (fun K hK => ?ap)
        case ap =>
          rw [if_pos (by kernel_rfl)]
          refine wp_append_Own _ (.const (.slice none 0 0)) (.tmp 28) 26 rfl w.heap.size 5 i0 _ 1 1 Try.underlying26 hi0 hz0' hz1 hz2 rfl none 0 0 [] rfl (Own.none_ _ _ _ _) X nl cl (bvs l) rfl q1.out hRD (bvs_one _) q2 q3 hbs ?_
          intro A4 c4 w4 hO4 hg4 hor4
          rw [Nat.zero_add, List.nil_append] at hO4
          try simp only [Nat.zero_add]
          have hb4 : Below W2.heap.size W2 w4 := ((Below.refl W2.heap.size W2).drew).trans (below_of_grown hg4)
          have hb5 : Below W2.heap.size W2 (w4.alloc (.cells #[.slice A4 nl c4] 26)) := hb4.alloc hb4.size _
          have hxm : ∀ q, blk A4 = some q → W2.heap.size ≤ q := fun q hq => by
            rcases hor4 with h | h
            · rw [h] at hq; simp [blk] at hq
            · rw [h] at hq; injection hq with hq; exact Nat.le_of_eq hq
          have z4 := hb4.size
          have k44 := (b2.step hb4).cell' (i := 4) rfl
          replace b2 := b2.step hb5
          replace b4 := b4.step hb5
          have hlt := fun (q : Nat) (hq : Touch Ak al q) => hOa.lt hq
          have hltb := fun (i : Nat) (y : RowR) (hy : al[i]? = some y) (q : Nat) (hq : blk y.A = some q) => (hOa.bs.lt hy hq).2
          have hOaa := hOa.arr.lt
          have hsb2 := fun (q : Nat) (hq : Touch Sk sl q) => (hOs.lt hq).2
          replace hOs := hOs.step hb5
          replace hOa := hOa.step hb5
          have hx5 := hO4.alloc (.cells #[.slice A4 nl c4] 26)
          have hB5 := hB.trans (hb5.mono hB.size)
          have z5 : (w4.alloc (.cells #[.slice A4 nl c4] 26)).heap.size = w4.heap.size + 1 := by simp
          have hR5 := Rd_new w4 [.slice A4 nl c4] 26
          have hbs6 : w.heap.size ≤ (w4.alloc (.cells #[.slice A4 nl c4] 26)).heap.size := hB5.size
          refine hK _ _ k44 ?_
          clear hK K k44
          try simp only [Act.put, List.setIfInBounds_toArray, List.set_cons_zero, List.set_cons_succ]
          refine walk_step 4 rfl (by kernel_rfl) (by kernel_rfl) (fun K hK => ?bs)
          case bs =>
            go_simp
            refine hK _ _ (b2.cell' (i := 4) rfl) ?_
            clear hK K
            try simp only [Act.put, List.setIfInBounds_toArray, List.set_cons_zero, List.set_cons_succ]
            refine walk_tail (by kernel_rfl) ?_
            simp only [List.drop_succ_cons, List.drop_zero]
            have hArr : Own (w4.alloc (.cells #[.slice A4 nl c4] 26)) w.heap.size 26 1 Ak n2 dk (rowvs al) := hOa.arr.mono (by omega)
            have hne2 : ∀ q, blk Ak = some q → w.heap.size + 2 ≤ q := fun q hq => by have := (hOaa q hq).1; omega
            go_wp2_with (first
              | (at_builtin; refine wpList_append_Own (w4.alloc (.cells #[.slice A4 nl c4] 26)) rfl (.tmp 27) (.tmp 30) 22 rfl w.heap.size 26 j0 _ 1 24 Try.underlying22 hj0 hy0 hy1 hy2 rfl Ak n2 dk (rowvs al) rfl hArr (some ⟨w4.heap.size, 0, none⟩) 1 1 [.slice A4 nl c4] rfl rfl hR5 (one_slice A4 nl c4) q4 q5 hbs6 ?_; intro B6 d6 w6 hB6 hg6 hor6; have b26 := b2.over hg6 (fun q hq e => (by have := hne2 q hq; injection e with e; omega)); have k46 := b26.cell' (i := 4) rfl; have kf6 := b26.frozen; have b46 := b4.over hg6 (fun q hq e => (by have := hne2 q hq; injection e with e; omega)); have b27 : Blk (w6.setCell ⟨w.heap.size, 4, none⟩ (.slice B6 (n2 + 1) d6)) w.heap.size 25 #[.int .i64 h.craft, .int .i64 h.next, .int .i64 h.ahead, .slice Sk n1 ck, .slice B6 (n2 + 1) d6, .int .i64 h.timer, .int .i64 h.patience, .int .i64 h.tries, .int .i64 h.limit, .int .i64 h.since, .int .i64 h.pause, .int .i64 h.halt] := b26.set_ 4 _; have b47 := b46.far (p := ⟨w.heap.size, 4, none⟩) (by show w.heap.size + 1 ≠ w.heap.size; omega) (.slice B6 (n2 + 1) d6))
              | (refine wpList_load_row rfl 25 (.tmp 2) rfl (w.heap.size) rfl 25 #[.int .i64 h.craft, .int .i64 h.next, .int .i64 h.ahead, .slice Sk n1 ck, .slice B6 (n2 + 1) d6, .int .i64 h.timer, .int .i64 h.patience, .int .i64 h.tries, .int .i64 h.limit, .int .i64 h.since, .int .i64 h.pause, .int .i64 h.halt] (0, 0) _ b27 Try.underlying25 rfl handsz ?_)
              | (refine wpList_store_row rfl 25 (.tmp 4) (.tmp 33) rfl (w.heap.size + 1) #[.int .i64 h.craft, .int .i64 h.next, .int .i64 h.ahead, .slice Sk n1 ck, .slice B6 (n2 + 1) d6, .int .i64 h.timer, .int .i64 h.patience, .int .i64 h.tries, .int .i64 h.limit, .int .i64 h.since, .int .i64 h.pause, .int .i64 h.halt] rfl rfl 25 _ b47 handsz rfl (hand_one h Sk n1 ck B6 (n2 + 1) d6) ?_))
            have hx6 := add_row (x := ⟨l, A4, c4⟩) (hOa.bs.map fun _ _ _ h => h.mono (by omega)) (by show Own _ _ _ _ A4 l.length c4 (bvs l); rw [NL.out]; exact hx5.mono (by omega)) hArr hg6 (m := W2.heap.size) hltb hxm (by show Own _ _ _ _ _ _ _ (rowvs al ++ [.slice A4 l.length c4]); rw [NL.out]; exact hB6)
            have hOs6 : OwnRs w6 w1.heap.size Sk n1 ck sl := hOs.over hg6 (fun q hq ht => DD.out q ht (.inl hq))
            have hB6' : Below w.heap.size w w6 := hB5.grown hg6 hB5.size (fun q hq => by have := hne2 q hq; omega)
            have z6 := hg6.size
            have hlt6 : ∀ q, Touch B6 (al ++ [⟨l, A4, c4⟩]) q → w1.heap.size ≤ q := fun q hq => by
              rcases hq with hq | ⟨i, r, hr, hq⟩
              · rcases hor6 with e | e
                · rw [e] at hq; exact (hOaa q hq).1
                · rw [e] at hq; injection hq with hq; omega
              · rcases Nat.lt_or_ge i al.length with h1 | h1
                · rw [List.getElem?_append_left h1] at hr
                  exact (hlt q (.inr ⟨i, r, hr, hq⟩)).1
                · have hi : i < (al ++ [(⟨l, A4, c4⟩ : RowR)]).length := (List.getElem?_eq_some_iff.1 hr).1
                  rw [List.length_append, List.length_singleton] at hi
                  rw [List.getElem?_append_right h1, show i - al.length = 0 by omega] at hr
                  injection hr with hr
                  subst hr
                  have := hxm q hq
                  omega
            have hdj : Disj Sk sl B6 (al ++ [⟨l, A4, c4⟩]) := fun q h1 h2 => by
              have hs := (hOs.lt h1)
              rcases h2 with hq | ⟨i, r, hr, hq⟩
              · rcases hor6 with e | e
                · rw [e] at hq; exact DD.out q h1 (.inl hq)
                · rw [e] at hq; injection hq with hq; omega
              · rcases Nat.lt_or_ge i al.length with h3 | h3
                · rw [List.getElem?_append_left h3] at hr
                  exact DD.out q h1 (.inr ⟨i, r, hr, hq⟩)
                · have hi : i < (al ++ [(⟨l, A4, c4⟩ : RowR)]).length := (List.getElem?_eq_some_iff.1 hr).1
                  rw [List.length_append, List.length_singleton] at hi
                  rw [List.getElem?_append_right h3, show i - al.length = 0 by omega] at hr
                  injection hr with hr
                  subst hr
                  have := hxm q hq
                  have := hsb2 q h1
                  omega
            have hOs7 := hOs6.low (p := ⟨w.heap.size, 4, none⟩) (by show w.heap.size < w1.heap.size; omega) (.slice B6 (n2 + 1) d6)
            have hOa7 : OwnRs (w6.setCell ⟨w.heap.size, 4, none⟩ (.slice B6 (n2 + 1) d6)) w.heap.size B6 (n2 + 1) d6 (al ++ [⟨l, A4, c4⟩]) := hx6.far (p := ⟨w.heap.size, 4, none⟩) (fun ht => by have := hlt6 _ ht; have : w1.heap.size ≤ w.heap.size := this; omega) _
            have hB7 := hB6'.setCell (p := ⟨w.heap.size, 4, none⟩) (Nat.le_refl _) (.slice B6 (n2 + 1) d6)
            obtain ⟨rfl, rfl⟩ : { h with asked := h.asked ++ [l] } = H ∧ err = 0 := by have := HR2.out; simp only [Prod.mk.injEq] at this; exact ⟨this.1, this.2.symm⟩
            obtain rfl : n1 = m1 := by rw [← N1.out, ← M1.out]
            obtain rfl : m2 = n2 + 1 := by rw [← N2.out, ← M2.out]; simp
            have b4' := b47.row #[.int .i64 h.craft, .int .i64 h.next, .int .i64 h.ahead, .slice Sk n1 ck, .slice B6 (n2 + 1) d6, .int .i64 h.timer, .int .i64 h.patience, .int .i64 h.tries, .int .i64 h.limit, .int .i64 h.since, .int .i64 h.pause, .int .i64 h.halt]
            refine bodyPost_ret (v := .tuple #[.agg #[.int .i64 h.craft, .int .i64 h.next, .int .i64 h.ahead, .slice Sk n1 ck, .slice B6 (n2 + 1) d6, .int .i64 h.timer, .int .i64 h.patience, .int .i64 h.tries, .int .i64 h.limit, .int .i64 h.since, .int .i64 h.pause, .int .i64 h.halt], .int .i64 0]) (results_cell_slot (ty := 25) Try.results6 _ _ (w.heap.size + 1) 25 _ (0, 0) _ rfl rfl b4' Try.underlying25 rfl handsz) rfl ?_
            refine ⟨Sk, ck, B6, d6, sl, al ++ [⟨l, A4, c4⟩], rfl, ⟨MS.out, by rw [List.map_append, MA.out]; rfl⟩, (hOs7.lowRow (by omega) _).mono (by omega), ?_, hdj, below_row hB7 (by omega) _⟩
            exact hOa7.keep fun q hq => setRow_other _ _ q _ (by have := hlt6 q hq; omega)
    · rw [if_neg hask] at HR2
      obtain ⟨rfl, rfl⟩ : h = H ∧ err = 1 := by have := HR2.out; simp only [Prod.mk.injEq] at this; exact ⟨this.1, this.2.symm⟩
      obtain rfl : n1 = m1 := by rw [← N1.out, M1.out]
      obtain rfl : n2 = m2 := by rw [← N2.out, M2.out]
      clear HR2
      have hk : nl < 1 ∨ 1017 < nl := by unfold askOk at hask; rw [NL.out] at hask; omega
      clear hask
      rcases hk with hk | hk
      · have hki : (nl : Int) < 1 := by omega
        go_wp2_with (first
          | (first | (refine wpList_load_row rfl 25 (.tmp 2) rfl (w.heap.size) rfl 25 #[.int .i64 h.craft, .int .i64 h.next, .int .i64 h.ahead, .slice Sk n1 ck, .slice Ak n2 dk, .int .i64 h.timer, .int .i64 h.patience, .int .i64 h.tries, .int .i64 h.limit, .int .i64 h.since, .int .i64 h.pause, .int .i64 h.halt] (0, 0) _ b2 Try.underlying25 rfl handsz ?_))
          | (first | (refine wpList_store_row rfl 25 (.tmp 4) (.tmp 20) rfl (w.heap.size + 1) #[.int .i64 h.craft, .int .i64 h.next, .int .i64 h.ahead, .slice Sk n1 ck, .slice Ak n2 dk, .int .i64 h.timer, .int .i64 h.patience, .int .i64 h.tries, .int .i64 h.limit, .int .i64 h.since, .int .i64 h.pause, .int .i64 h.halt] rfl rfl 25 _ b4 handsz rfl (hand_one h Sk n1 ck Ak n2 dk) ?_) | (refine wpList_store_row rfl 25 (.tmp 4) (.tmp 25) rfl (w.heap.size + 1) #[.int .i64 h.craft, .int .i64 h.next, .int .i64 h.ahead, .slice Sk n1 ck, .slice Ak n2 dk, .int .i64 h.timer, .int .i64 h.patience, .int .i64 h.tries, .int .i64 h.limit, .int .i64 h.since, .int .i64 h.pause, .int .i64 h.halt] rfl rfl 25 _ b4 handsz rfl (hand_one h Sk n1 ck Ak n2 dk) ?_)))
        have b4' := b4.row #[.int .i64 h.craft, .int .i64 h.next, .int .i64 h.ahead, .slice Sk n1 ck, .slice Ak n2 dk, .int .i64 h.timer, .int .i64 h.patience, .int .i64 h.tries, .int .i64 h.limit, .int .i64 h.since, .int .i64 h.pause, .int .i64 h.halt]
        refine bodyPost_ret (v := .tuple #[.agg #[.int .i64 h.craft, .int .i64 h.next, .int .i64 h.ahead, .slice Sk n1 ck, .slice Ak n2 dk, .int .i64 h.timer, .int .i64 h.patience, .int .i64 h.tries, .int .i64 h.limit, .int .i64 h.since, .int .i64 h.pause, .int .i64 h.halt], .int .i64 1]) (results_cell_slot (ty := 25) Try.results6 _ _ (w.heap.size + 1) 25 _ (0, 0) _ rfl rfl b4' Try.underlying25 rfl handsz) rfl ?_
        refine ⟨Sk, ck, Ak, dk, sl, al, rfl, ⟨MS.out, MA.out⟩, (hOs.lowRow (by omega) _).mono (by omega), (hOa.lowRow (by omega) _).mono (by omega), DD.out, below_row hB (by omega) _⟩
      · have hki : (1017 : Int) < (nl : Int) := by omega
        go_wp2_with (first
          | (first | (refine wpList_load_row rfl 25 (.tmp 2) rfl (w.heap.size) rfl 25 #[.int .i64 h.craft, .int .i64 h.next, .int .i64 h.ahead, .slice Sk n1 ck, .slice Ak n2 dk, .int .i64 h.timer, .int .i64 h.patience, .int .i64 h.tries, .int .i64 h.limit, .int .i64 h.since, .int .i64 h.pause, .int .i64 h.halt] (0, 0) _ b2 Try.underlying25 rfl handsz ?_))
          | (first | (refine wpList_store_row rfl 25 (.tmp 4) (.tmp 20) rfl (w.heap.size + 1) #[.int .i64 h.craft, .int .i64 h.next, .int .i64 h.ahead, .slice Sk n1 ck, .slice Ak n2 dk, .int .i64 h.timer, .int .i64 h.patience, .int .i64 h.tries, .int .i64 h.limit, .int .i64 h.since, .int .i64 h.pause, .int .i64 h.halt] rfl rfl 25 _ b4 handsz rfl (hand_one h Sk n1 ck Ak n2 dk) ?_) | (refine wpList_store_row rfl 25 (.tmp 4) (.tmp 25) rfl (w.heap.size + 1) #[.int .i64 h.craft, .int .i64 h.next, .int .i64 h.ahead, .slice Sk n1 ck, .slice Ak n2 dk, .int .i64 h.timer, .int .i64 h.patience, .int .i64 h.tries, .int .i64 h.limit, .int .i64 h.since, .int .i64 h.pause, .int .i64 h.halt] rfl rfl 25 _ b4 handsz rfl (hand_one h Sk n1 ck Ak n2 dk) ?_)))
        have b4' := b4.row #[.int .i64 h.craft, .int .i64 h.next, .int .i64 h.ahead, .slice Sk n1 ck, .slice Ak n2 dk, .int .i64 h.timer, .int .i64 h.patience, .int .i64 h.tries, .int .i64 h.limit, .int .i64 h.since, .int .i64 h.pause, .int .i64 h.halt]
        refine bodyPost_ret (v := .tuple #[.agg #[.int .i64 h.craft, .int .i64 h.next, .int .i64 h.ahead, .slice Sk n1 ck, .slice Ak n2 dk, .int .i64 h.timer, .int .i64 h.patience, .int .i64 h.tries, .int .i64 h.limit, .int .i64 h.since, .int .i64 h.pause, .int .i64 h.halt], .int .i64 1]) (results_cell_slot (ty := 25) Try.results6 _ _ (w.heap.size + 1) 25 _ (0, 0) _ rfl rfl b4' Try.underlying25 rfl handsz) rfl ?_
        refine ⟨Sk, ck, Ak, dk, sl, al, rfl, ⟨MS.out, MA.out⟩, (hOs.lowRow (by omega) _).mono (by omega), (hOa.lowRow (by omega) _).mono (by omega), DD.out, below_row hB (by omega) _⟩
  · obtain ⟨rfl, rfl⟩ : H = Hnd.zero ∧ err = 11 := by have := HR.out; unfold askR at this; rw [if_neg hok] at this; simp only [Prod.mk.injEq] at this; exact ⟨this.1.symm, this.2.symm⟩
    obtain rfl : m1 = 0 := by rw [← M1.out]; rfl
    obtain rfl : m2 = 0 := by rw [← M2.out]; rfl
    rw [show handB h = false from decide_eq_false hok] at CM
    clear HR hok
    go_enter Try.func6, Try.ntmps6
    go_wp2_with (refine wpList_load_row rfl 25 (.tmp 2) rfl (w.heap.size) rfl 25 #[.int .i64 h.craft, .int .i64 h.next, .int .i64 h.ahead, .slice S n1 c, .slice A n2 d, .int .i64 h.timer, .int .i64 h.patience, .int .i64 h.tries, .int .i64 h.limit, .int .i64 h.since, .int .i64 h.pause, .int .i64 h.halt] (0, 0) _ b2 Try.underlying25 rfl handsz ?_)
    generalize (w.alloc (.cells #[.int .i64 h.craft, .int .i64 h.next, .int .i64 h.ahead, .slice S n1 c, .slice A n2 d, .int .i64 h.timer, .int .i64 h.patience, .int .i64 h.tries, .int .i64 h.limit, .int .i64 h.since, .int .i64 h.pause, .int .i64 h.halt] 25)).alloc (.cells #[.int .i64 0, .int .i64 0, .int .i64 0, .slice none 0 0, .slice none 0 0, .int .i64 0, .int .i64 0, .int .i64 0, .int .i64 0, .int .i64 0, .int .i64 0, .int .i64 0] 25) = W0 at *
    refine (CM.out W0 (HS.out.below hB) (HA.out.below hB)).mono ?_
    rintro e w1 ⟨rfl, hb⟩
    clear CM
    have s1 := hb.size
    replace b4 := b4.step hb
    replace hB := hB.trans (hb.mono hB.size)
    go_wp2_with (first
      | (refine wpList_store_row rfl 25 (.tmp 4) (.tmp 9) rfl (w.heap.size + 1) #[.int .i64 0, .int .i64 0, .int .i64 0, .slice none 0 0, .slice none 0 0, .int .i64 0, .int .i64 0, .int .i64 0, .int .i64 0, .int .i64 0, .int .i64 0, .int .i64 0] rfl rfl 25 _ b4 handsz rfl (by simp [Value.oneCell']) ?_))
    have b4' := b4.row #[.int .i64 0, .int .i64 0, .int .i64 0, .slice none 0 0, .slice none 0 0, .int .i64 0, .int .i64 0, .int .i64 0, .int .i64 0, .int .i64 0, .int .i64 0, .int .i64 0]
    refine bodyPost_ret (v := .tuple #[.agg #[.int .i64 0, .int .i64 0, .int .i64 0, .slice none 0 0, .slice none 0 0, .int .i64 0, .int .i64 0, .int .i64 0, .int .i64 0, .int .i64 0, .int .i64 0, .int .i64 0], .int .i64 11]) (results_cell_slot (ty := 25) Try.results6 _ _ (w.heap.size + 1) 25 _ (0, 0) _ rfl rfl b4' Try.underlying25 rfl handsz) rfl ?_
    exact ⟨none, 0, none, 0, [], [], rfl, ⟨rfl, rfl⟩, OwnRs.nil _ _, OwnRs.nil _ _, Disj.nil _ _, below_row hB (by omega) _⟩
end Go.Proofs.Ytppmdamcdhmcpaa
