/-
  XHeld's walk: a store of a whole row that alone may come up. command.with: something is done to a hand that may be.
-/
import Derived.Test.YtppmdamcdhmcpaaMCommandSteps13
import Derived.Laws.Tables
namespace Go.Proofs.Ytppmdamcdhmcpaa
set_option linter.unusedSimpArgs false
set_option linter.unusedVariables false
open Go.RowKit
section
variable {P : Program} {md : Region.Mode} {Q : Exit → Act → World → Prop} {S : World → Prop} {l : List Oper} {n f : Nat} {listed : Array Bool} {a : Act} {w : World}
theorem walk_store_row (i : Nat) (oi : Oper) (ty : TypeId) (x y : Operand) (g : Nat) (cells old : Array Value) (t : TypeId) (hi : l.toArray[i]? = some oi) (hg : oi.guard = none) (ho : oi.op = .store ty x y) (hin : decide (i < n) = true) (hr : Region.ready md l.toArray listed = [i])
    (hx : a.eval x = .pointer (some ⟨g, 0, none⟩)) (hy : a.eval y = .agg cells) (hw : w.heap[g]? = some (.cells old t (0, 0))) (hf : (P.info? ty).map (·.size) = some cells.size) (hold : old.size = cells.size) (h1 : cells.all (·.oneCell') = true)
    (hS : S (w.setRow g cells)) (h : Walk P md l Q S n f (listed.setIfInBounds i true) (a.put oi.dst undef) (w.setRow g cells)) : Walk P md l Q S n (f + 1) listed a w :=
  walk_op i oi hi hg hin hr (fun K' hK => wp_store_row ty x y ho g cells hx hy t old hw hf hold h1 (hK _ _ hS h))
end
end Go.Proofs.Ytppmdamcdhmcpaa
namespace Go.Proofs.Ytppmdamcdhmcpaa
set_option linter.unusedSimpArgs false
set_option linter.unusedVariables false
open Go.RowKit

set_option maxHeartbeats 12800000 in
set_option maxRecDepth 100000 in
theorem with_Step (q0 q1 : Value) (h : Hnd) (S : Option Addr) (n1 c : Nat) (A : Option Addr) (n2 d : Nat) (w : World) (hS : RdRows w S h.sent) (hA : RdRows w A h.asked) (hn1 : h.sent.length = n1) (hn2 : h.asked.length = n2) (f1 : RowsFit h.sent n1) (f2 : RowsFit h.asked n2)
    (H : Hnd) (m1 m2 : Nat) (rows : List (List UInt8)) (nR : Nat) (err : Int) (hok : handOk h)
    (HC : ∀ (W : World) (p ck dk base : Nat) (Sk Ak : Option Addr) (sl al : List RowR), Below w.heap.size w W → w.heap.size ≤ base → base ≤ p → Blk W p 45 #[.int .i64 h.craft, .int .i64 h.next, .int .i64 h.ahead, .slice Sk n1 ck, .slice Ak n2 dk, .int .i64 h.timer, .int .i64 h.patience, .int .i64 h.tries, .int .i64 h.limit, .int .i64 h.since, .int .i64 h.pause, .int .i64 h.halt, .slice none 0 0] → sl.map RowR.b = h.sent → al.map RowR.b = h.asked → OwnRs W base Sk n1 ck sl → OwnRs W base Ak n2 dk al → Disj Sk sl Ak al →
      Calls Try.prog 33 #[.pointer (some ⟨p, 0, none⟩), q0, q1] W fun e w' => DoOut W w' base p Sk sl Ak al H m1 m2 rows nR err e) :
    Calls Try.prog 21 #[hvn h S n1 c A n2 d, .func (.func 33) #[] #[q0, q1]] w fun e w' => HandOut w w' H m1 m2 rows nR err e := by
  have CM := Lib.hid (fun w (hS : RdRows w S h.sent) (hA : RdRows w A h.asked) => pready_any h S c A d w hS hA (by rw [hn1]; exact f1.1) (by rw [hn2]; exact f2.1) f1.2 f2.2)
  rw [← hvn_hdv, hn1, hn2] at CM
  rw [show handB h = true from decide_eq_true hok] at CM
  have HCc := Lib.hid HC
  have HS := Lib.hid hS
  have HA := Lib.hid hA
  have N1 := Lib.hid hn1
  have N2 := Lib.hid hn2
  have CS := Lib.hid (fun w (hS : RdRows w S h.sent) => clones_any S h.sent n1 c w hn1 hS f1.1 f1.2)
  have CA := Lib.hid (fun w (hA : RdRows w A h.asked) => clones_any A h.asked n2 d w hn2 hA f2.1 f2.2)
  clear hS hA hn1 hn2 f1 f2 HC hok
  unfold hvn at CM ⊢
  have b2 := (Blk.new w 25 #[.int .i64 h.craft, .int .i64 h.next, .int .i64 h.ahead, .slice S n1 c, .slice A n2 d, .int .i64 h.timer, .int .i64 h.patience, .int .i64 h.tries, .int .i64 h.limit, .int .i64 h.since, .int .i64 h.pause, .int .i64 h.halt]).alloc (.cells #[.int .i64 0, .int .i64 0, .int .i64 0, .slice none 0 0, .slice none 0 0, .int .i64 0, .int .i64 0, .int .i64 0, .int .i64 0, .int .i64 0, .int .i64 0, .int .i64 0] 25)
  have b4 := Blk.new (w.alloc (.cells #[.int .i64 h.craft, .int .i64 h.next, .int .i64 h.ahead, .slice S n1 c, .slice A n2 d, .int .i64 h.timer, .int .i64 h.patience, .int .i64 h.tries, .int .i64 h.limit, .int .i64 h.since, .int .i64 h.pause, .int .i64 h.halt] 25)) 25 #[.int .i64 0, .int .i64 0, .int .i64 0, .slice none 0 0, .slice none 0 0, .int .i64 0, .int .i64 0, .int .i64 0, .int .i64 0, .int .i64 0, .int .i64 0, .int .i64 0]
  rw [show (w.alloc (.cells #[.int .i64 h.craft, .int .i64 h.next, .int .i64 h.ahead, .slice S n1 c, .slice A n2 d, .int .i64 h.timer, .int .i64 h.patience, .int .i64 h.tries, .int .i64 h.limit, .int .i64 h.since, .int .i64 h.pause, .int .i64 h.halt] 25)).heap.size = w.heap.size + 1 by simp] at b4
  have hB : Below w.heap.size w ((w.alloc (.cells #[.int .i64 h.craft, .int .i64 h.next, .int .i64 h.ahead, .slice S n1 c, .slice A n2 d, .int .i64 h.timer, .int .i64 h.patience, .int .i64 h.tries, .int .i64 h.limit, .int .i64 h.since, .int .i64 h.pause, .int .i64 h.halt] 25)).alloc (.cells #[.int .i64 0, .int .i64 0, .int .i64 0, .slice none 0 0, .slice none 0 0, .int .i64 0, .int .i64 0, .int .i64 0, .int .i64 0, .int .i64 0, .int .i64 0, .int .i64 0] 25)) := ((Below.refl _ _).alloc (Nat.le_refl _) _).alloc (by simp) _
  have s0 : ((w.alloc (.cells #[.int .i64 h.craft, .int .i64 h.next, .int .i64 h.ahead, .slice S n1 c, .slice A n2 d, .int .i64 h.timer, .int .i64 h.patience, .int .i64 h.tries, .int .i64 h.limit, .int .i64 h.since, .int .i64 h.pause, .int .i64 h.halt] 25)).alloc (.cells #[.int .i64 0, .int .i64 0, .int .i64 0, .slice none 0 0, .slice none 0 0, .int .i64 0, .int .i64 0, .int .i64 0, .int .i64 0, .int .i64 0, .int .i64 0, .int .i64 0] 25)).heap.size = w.heap.size + 2 := by simp
  go_enter Try.func21, Try.ntmps21
  go_wp2_with (refine wpList_load_row rfl 25 (.tmp 2) rfl (w.heap.size) rfl 25 #[.int .i64 h.craft, .int .i64 h.next, .int .i64 h.ahead, .slice S n1 c, .slice A n2 d, .int .i64 h.timer, .int .i64 h.patience, .int .i64 h.tries, .int .i64 h.limit, .int .i64 h.since, .int .i64 h.pause, .int .i64 h.halt] (0, 0) _ b2 Try.underlying25 rfl handsz ?_)
  generalize (w.alloc (.cells #[.int .i64 h.craft, .int .i64 h.next, .int .i64 h.ahead, .slice S n1 c, .slice A n2 d, .int .i64 h.timer, .int .i64 h.patience, .int .i64 h.tries, .int .i64 h.limit, .int .i64 h.since, .int .i64 h.pause, .int .i64 h.halt] 25)).alloc (.cells #[.int .i64 0, .int .i64 0, .int .i64 0, .slice none 0 0, .slice none 0 0, .int .i64 0, .int .i64 0, .int .i64 0, .int .i64 0, .int .i64 0, .int .i64 0, .int .i64 0] 25) = W0 at *
  refine (CM.out W0 (HS.out.below hB) (HA.out.below hB)).mono ?_
  rintro e w1 ⟨rfl, hb⟩
  clear CM
  have s1 := hb.size
  replace b2 := b2.step hb
  replace b4 := b4.step hb
  replace hB := hB.trans (hb.mono hB.size)
  clear hb
  go_upto_region 3 with fail
  have k3 := b2.cell' (i := 3) rfl
  have k4 := b2.cell' (i := 4) rfl
  refine heldRegion (fun v => v.cell? ⟨w.heap.size, 3, none⟩ = some (.slice S n1 c) ∧ v.cell? ⟨w.heap.size, 4, none⟩ = some (.slice A n2 d)) 7 (by kernel_rfl) (by kernel_rfl) ⟨k3, k4⟩ (fun hSS => ?_)
  refine walk_take 0 (v := ?v10) rfl (by kernel_rfl) (by kernel_rfl) (by kernel_rfl) (fun _ _ _ h => h) (hSS) (Or.inl ⟨by rfl, ?y10⟩) ?r10
  case y10 => intro w hSw; obtain ⟨hw1, hw2⟩ := hSw; (try dsimp only at hSw); go_simp; try rfl
  case' r10 => try simp only [List.getElem_toArray, List.getElem_cons_succ, List.getElem_cons_zero, Act.put, List.setIfInBounds_toArray, List.set_cons_zero, List.set_cons_succ]
  refine walk_take 1 (v := ?v11) rfl (by kernel_rfl) (by kernel_rfl) (by kernel_rfl) (fun _ _ _ h => h) (hSS) (Or.inl ⟨by rfl, ?y11⟩) ?r11
  case y11 => intro w hSw; obtain ⟨hw1, hw2⟩ := hSw; (try dsimp only at hSw); go_simp; try rfl
  case' r11 => try simp only [List.getElem_toArray, List.getElem_cons_succ, List.getElem_cons_zero, Act.put, List.setIfInBounds_toArray, List.set_cons_zero, List.set_cons_succ]
  refine walk_take 3 (v := ?v13) rfl (by kernel_rfl) (by kernel_rfl) (by kernel_rfl) (fun _ _ _ h => h) (hSS) (Or.inl ⟨by rfl, ?y13⟩) ?r13
  case y13 => intro w hSw; obtain ⟨hw1, hw2⟩ := hSw; (try dsimp only at hSw); go_simp; try rfl
  case' r13 => try simp only [List.getElem_toArray, List.getElem_cons_succ, List.getElem_cons_zero, Act.put, List.setIfInBounds_toArray, List.set_cons_zero, List.set_cons_succ]
  refine walk_take 4 (v := ?v14) rfl (by kernel_rfl) (by kernel_rfl) (by kernel_rfl) (fun _ _ _ h => h) (hSS) (Or.inl ⟨by rfl, ?y14⟩) ?r14
  case y14 => intro w hSw; obtain ⟨hw1, hw2⟩ := hSw; (try dsimp only at hSw); go_simp; try rfl
  case' r14 => try simp only [List.getElem_toArray, List.getElem_cons_succ, List.getElem_cons_zero, Act.put, List.setIfInBounds_toArray, List.set_cons_zero, List.set_cons_succ]
  refine walk_step 2 rfl (by kernel_rfl) (by kernel_rfl) (fun K hK => ?cs)
  case cs =>
    go_simp
    refine (CS.out w1.drew (HS.out.below hB : RdRows w1 S h.sent)).mono ?_
    rintro e w2 ⟨Sk, ck, rfl, ⟨sl, hsl, hOs⟩, hb⟩
    have hb' : Below w1.heap.size w1 w2 := ((Below.refl w1.heap.size w1).drew).trans hb
    have s2 := hb'.size
    replace b2 := b2.step hb'
    replace b4 := b4.step hb'
    replace hB := hB.trans (hb'.mono hB.size)
    have hOs1 : OwnRs w2 w1.heap.size Sk n1 ck sl := hOs
    have hsb2 := fun (q : Nat) (hq : Touch Sk sl q) => (hOs1.lt hq).2
    refine hK _ _ ⟨b2.cell' (i := 3) rfl, b2.cell' (i := 4) rfl⟩ ?_
    clear hK K hb hb' hSS k3 k4 hOs
    try simp only [List.getElem_toArray, List.getElem_cons_succ, List.getElem_cons_zero, Act.put, List.setIfInBounds_toArray, List.set_cons_zero, List.set_cons_succ]
    refine walk_take 6 (v := ?v26) rfl (by kernel_rfl) (by kernel_rfl) (by kernel_rfl) (fun _ _ _ h => h) (⟨b2.cell' (i := 3) rfl, b2.cell' (i := 4) rfl⟩) (Or.inl ⟨by rfl, ?y26⟩) ?r26
    case y26 => intro w hSw; (try dsimp only at hSw); go_simp; try rfl
    case' r26 => try simp only [List.getElem_toArray, List.getElem_cons_succ, List.getElem_cons_zero, Act.put, List.setIfInBounds_toArray, List.set_cons_zero, List.set_cons_succ]
    refine walk_step 5 rfl (by kernel_rfl) (by kernel_rfl) (fun K hK => ?ca)
    case ca =>
      go_simp
      refine (CA.out w2 (HA.out.below hB)).mono ?_
      rintro e w3 ⟨Ak, dk, rfl, ⟨al, hal, hOa⟩, hb⟩
      have s3 := hb.size
      replace b2 := b2.step hb
      replace b4 := b4.step hb
      replace hOs1 := hOs1.step hb
      replace hB := hB.trans (hb.mono hB.size)
      have hdj : Disj Sk sl Ak al := fun q h1 h2 => by have := (hOa.lt h2).1; have := hsb2 q h1; omega
      refine hK _ _ ⟨b2.cell' (i := 3) rfl, b2.cell' (i := 4) rfl⟩ ?_
      clear hK K hb CS CA
      try simp only [List.getElem_toArray, List.getElem_cons_succ, List.getElem_cons_zero, Act.put, List.setIfInBounds_toArray, List.set_cons_zero, List.set_cons_succ]
      refine walk_tail (by kernel_rfl) ?_
      simp only [List.drop_succ_cons, List.drop_zero]
      have DD := Lib.hid hdj
      have MS := Lib.hid hsl
      have MA := Lib.hid hal
      clear hdj hsl hal
      have k3 := b2.cell' (i := 3) rfl
      have kf := b2.frozen
      have b2' := b2.set_ 3 (.slice Sk n1 ck)
      have k4 := b2'.cell' (i := 4) rfl
      have kf' := b2'.frozen
      have b2'' : Blk ((w3.setCell ⟨w.heap.size, 3, none⟩ (.slice Sk n1 ck)).setCell ⟨w.heap.size, 4, none⟩ (.slice Ak n2 dk)) w.heap.size 25 #[.int .i64 h.craft, .int .i64 h.next, .int .i64 h.ahead, .slice Sk n1 ck, .slice Ak n2 dk, .int .i64 h.timer, .int .i64 h.patience, .int .i64 h.tries, .int .i64 h.limit, .int .i64 h.since, .int .i64 h.pause, .int .i64 h.halt] := b2'.set_ 4 (.slice Ak n2 dk)
      have b4'' := (b4.far (p := ⟨w.heap.size, 3, none⟩) (by show w.heap.size + 1 ≠ w.heap.size; omega) (.slice Sk n1 ck)).far (p := ⟨w.heap.size, 4, none⟩) (by show w.heap.size + 1 ≠ w.heap.size; omega) (.slice Ak n2 dk)
      have hOs'' := (hOs1.low (p := ⟨w.heap.size, 3, none⟩) (by show w.heap.size < w1.heap.size; omega) (.slice Sk n1 ck)).low (p := ⟨w.heap.size, 4, none⟩) (by show w.heap.size < w1.heap.size; omega) (.slice Ak n2 dk)
      have hOa'' := ((hOa.mono s2).low (p := ⟨w.heap.size, 3, none⟩) (by show w.heap.size < w1.heap.size; omega) (.slice Sk n1 ck)).low (p := ⟨w.heap.size, 4, none⟩) (by show w.heap.size < w1.heap.size; omega) (.slice Ak n2 dk)
      have hB'' := (hB.setCell (p := ⟨w.heap.size, 3, none⟩) (Nat.le_refl _) (.slice Sk n1 ck)).setCell (p := ⟨w.heap.size, 4, none⟩) (Nat.le_refl _) (.slice Ak n2 dk)
      have s3'' : ((w3.setCell ⟨w.heap.size, 3, none⟩ (.slice Sk n1 ck)).setCell ⟨w.heap.size, 4, none⟩ (.slice Ak n2 dk)).heap.size = w3.heap.size := by simp
      go_wp2_with (refine wpList_load_row rfl 25 (.tmp 2) rfl (w.heap.size) rfl 25 #[.int .i64 h.craft, .int .i64 h.next, .int .i64 h.ahead, .slice Sk n1 ck, .slice Ak n2 dk, .int .i64 h.timer, .int .i64 h.patience, .int .i64 h.tries, .int .i64 h.limit, .int .i64 h.since, .int .i64 h.pause, .int .i64 h.halt] (0, 0) _ b2'' Try.underlying25 rfl handsz ?_)
      clear k3 kf k4 kf' b2' b2 b4 hOs1 hOa hB b2''
      generalize (w3.setCell ⟨w.heap.size, 3, none⟩ (.slice Sk n1 ck)).setCell ⟨w.heap.size, 4, none⟩ (.slice Ak n2 dk) = W3 at *
      have bp := Blk.new W3 45 #[.int .i64 h.craft, .int .i64 h.next, .int .i64 h.ahead, .slice Sk n1 ck, .slice Ak n2 dk, .int .i64 h.timer, .int .i64 h.patience, .int .i64 h.tries, .int .i64 h.limit, .int .i64 h.since, .int .i64 h.pause, .int .i64 h.halt, .slice none 0 0]
      have b4 := b4''.alloc (.cells #[.int .i64 h.craft, .int .i64 h.next, .int .i64 h.ahead, .slice Sk n1 ck, .slice Ak n2 dk, .int .i64 h.timer, .int .i64 h.patience, .int .i64 h.tries, .int .i64 h.limit, .int .i64 h.since, .int .i64 h.pause, .int .i64 h.halt, .slice none 0 0] 45)
      have hOs := hOs''.alloc (.cells #[.int .i64 h.craft, .int .i64 h.next, .int .i64 h.ahead, .slice Sk n1 ck, .slice Ak n2 dk, .int .i64 h.timer, .int .i64 h.patience, .int .i64 h.tries, .int .i64 h.limit, .int .i64 h.since, .int .i64 h.pause, .int .i64 h.halt, .slice none 0 0] 45)
      have hOa := hOa''.alloc (.cells #[.int .i64 h.craft, .int .i64 h.next, .int .i64 h.ahead, .slice Sk n1 ck, .slice Ak n2 dk, .int .i64 h.timer, .int .i64 h.patience, .int .i64 h.tries, .int .i64 h.limit, .int .i64 h.since, .int .i64 h.pause, .int .i64 h.halt, .slice none 0 0] 45)
      have hB := hB''.alloc hB''.size (.cells #[.int .i64 h.craft, .int .i64 h.next, .int .i64 h.ahead, .slice Sk n1 ck, .slice Ak n2 dk, .int .i64 h.timer, .int .i64 h.patience, .int .i64 h.tries, .int .i64 h.limit, .int .i64 h.since, .int .i64 h.pause, .int .i64 h.halt, .slice none 0 0] 45)
      have s4 : (W3.alloc (.cells #[.int .i64 h.craft, .int .i64 h.next, .int .i64 h.ahead, .slice Sk n1 ck, .slice Ak n2 dk, .int .i64 h.timer, .int .i64 h.patience, .int .i64 h.tries, .int .i64 h.limit, .int .i64 h.since, .int .i64 h.pause, .int .i64 h.halt, .slice none 0 0] 45)).heap.size = W3.heap.size + 1 := by simp
      rw [s3''] at bp s4
      refine (HCc.out (W3.alloc (.cells #[.int .i64 h.craft, .int .i64 h.next, .int .i64 h.ahead, .slice Sk n1 ck, .slice Ak n2 dk, .int .i64 h.timer, .int .i64 h.patience, .int .i64 h.tries, .int .i64 h.limit, .int .i64 h.since, .int .i64 h.pause, .int .i64 h.halt, .slice none 0 0] 45)) w3.heap.size ck dk w1.heap.size Sk Ak sl al hB (by omega) (by omega) bp MS.out MA.out hOs hOa DD.out).mono ?_
      rintro e w5 ⟨S9, c9, A9, d9, R9, cR9, sl9, al9, rl9, rfl, ⟨h91, h92, h93⟩, bp5, hO9s, hO9a, hO9r, e1, e2, e3, hT⟩
      have H91 := Lib.hid h91
      have H92 := Lib.hid h92
      have H93 := Lib.hid h93
      have E1 := Lib.hid e1
      have E2 := Lib.hid e2
      have E3 := Lib.hid e3
      clear h91 h92 h93 e1 e2 e3
      have hlo : ∀ q, (q = w3.heap.size ∨ Touch Sk sl q ∨ Touch Ak al q) → w1.heap.size ≤ q := fun q hq => by
        rcases hq with hq | hq | hq
        · omega
        · exact (hOs.lt hq).1
        · exact (hOa.lt hq).1
      replace b4 := b4.turned hT (fun hq => by have := hlo _ hq; omega)
      replace hB := hB.trans (hT.below (N := w.heap.size) (fun q hq => by have := hlo _ hq; omega) hB.size)
      have s5 := hT.size
      clear hOs hOa hT HCc b4'' hB'' hOs'' hOa''
      go_upto_region 6 with fail
      refine heldRegion (fun v => Blk v w3.heap.size 45 #[.int .i64 H.craft, .int .i64 H.next, .int .i64 H.ahead, .slice S9 m1 c9, .slice A9 m2 d9, .int .i64 H.timer, .int .i64 H.patience, .int .i64 H.tries, .int .i64 H.limit, .int .i64 H.since, .int .i64 H.pause, .int .i64 H.halt, .slice R9 nR cR9]) 11 (by kernel_rfl) (by kernel_rfl) bp5.drew (fun hSS => ?_)
      refine walk_take 0 (v := ?v30) rfl (by kernel_rfl) (by kernel_rfl) (by kernel_rfl) (fun _ _ _ h => h) (hSS) (Or.inl ⟨by rfl, ?y30⟩) ?r30
      case y30 => intro w hSw; obtain ⟨hw0, hw1, hw2, hw3, hw4, hw5, hw6, hw7, hw8, hw9, hw10, hw11, hw12, hw13⟩ := Blk.thirteen hSw; (try dsimp only at hSw); go_simp; try rfl
      case' r30 => try simp only [List.getElem_toArray, List.getElem_cons_succ, List.getElem_cons_zero, Act.put, List.setIfInBounds_toArray, List.set_cons_zero, List.set_cons_succ]
      refine walk_take 1 (v := ?v31) rfl (by kernel_rfl) (by kernel_rfl) (by kernel_rfl) (fun _ _ _ h => h) (hSS) (Or.inl ⟨by rfl, ?y31⟩) ?r31
      case y31 => intro w hSw; obtain ⟨hw0, hw1, hw2, hw3, hw4, hw5, hw6, hw7, hw8, hw9, hw10, hw11, hw12, hw13⟩ := Blk.thirteen hSw; (try dsimp only at hSw); go_simp; try rfl
      case' r31 => try simp only [List.getElem_toArray, List.getElem_cons_succ, List.getElem_cons_zero, Act.put, List.setIfInBounds_toArray, List.set_cons_zero, List.set_cons_succ]
      refine walk_take 2 (v := ?v32) rfl (by kernel_rfl) (by kernel_rfl) (by kernel_rfl) (fun _ _ _ h => h) (hSS) (Or.inl ⟨by rfl, ?y32⟩) ?r32
      case y32 => intro w hSw; obtain ⟨hw0, hw1, hw2, hw3, hw4, hw5, hw6, hw7, hw8, hw9, hw10, hw11, hw12, hw13⟩ := Blk.thirteen hSw; (try dsimp only at hSw); go_simp; try rfl
      case' r32 => try simp only [List.getElem_toArray, List.getElem_cons_succ, List.getElem_cons_zero, Act.put, List.setIfInBounds_toArray, List.set_cons_zero, List.set_cons_succ]
      refine walk_take 3 (v := ?v33) rfl (by kernel_rfl) (by kernel_rfl) (by kernel_rfl) (fun _ _ _ h => h) (hSS) (Or.inl ⟨by rfl, ?y33⟩) ?r33
      case y33 => intro w hSw; obtain ⟨hw0, hw1, hw2, hw3, hw4, hw5, hw6, hw7, hw8, hw9, hw10, hw11, hw12, hw13⟩ := Blk.thirteen hSw; (try dsimp only at hSw); go_simp; try rfl
      case' r33 => try simp only [List.getElem_toArray, List.getElem_cons_succ, List.getElem_cons_zero, Act.put, List.setIfInBounds_toArray, List.set_cons_zero, List.set_cons_succ]
      refine walk_take 4 (v := ?v34) rfl (by kernel_rfl) (by kernel_rfl) (by kernel_rfl) (fun _ _ _ h => h) (hSS) (Or.inl ⟨by rfl, ?y34⟩) ?r34
      case y34 => intro w hSw; obtain ⟨hw0, hw1, hw2, hw3, hw4, hw5, hw6, hw7, hw8, hw9, hw10, hw11, hw12, hw13⟩ := Blk.thirteen hSw; (try dsimp only at hSw); go_simp; try rfl
      case' r34 => try simp only [List.getElem_toArray, List.getElem_cons_succ, List.getElem_cons_zero, Act.put, List.setIfInBounds_toArray, List.set_cons_zero, List.set_cons_succ]
      refine walk_take 5 (v := ?v35) rfl (by kernel_rfl) (by kernel_rfl) (by kernel_rfl) (fun _ _ _ h => h) (hSS) (Or.inl ⟨by rfl, ?y35⟩) ?r35
      case y35 => intro w hSw; obtain ⟨hw0, hw1, hw2, hw3, hw4, hw5, hw6, hw7, hw8, hw9, hw10, hw11, hw12, hw13⟩ := Blk.thirteen hSw; (try dsimp only at hSw); go_simp; try rfl
      case' r35 => try simp only [List.getElem_toArray, List.getElem_cons_succ, List.getElem_cons_zero, Act.put, List.setIfInBounds_toArray, List.set_cons_zero, List.set_cons_succ]
      refine walk_take 6 (v := ?v36) rfl (by kernel_rfl) (by kernel_rfl) (by kernel_rfl) (fun _ _ _ h => h) (hSS) (Or.inl ⟨by rfl, ?y36⟩) ?r36
      case y36 => intro w hSw; obtain ⟨hw0, hw1, hw2, hw3, hw4, hw5, hw6, hw7, hw8, hw9, hw10, hw11, hw12, hw13⟩ := Blk.thirteen hSw; (try dsimp only at hSw); go_simp; try rfl
      case' r36 => try simp only [List.getElem_toArray, List.getElem_cons_succ, List.getElem_cons_zero, Act.put, List.setIfInBounds_toArray, List.set_cons_zero, List.set_cons_succ]
      refine walk_take 7 (v := ?v37) rfl (by kernel_rfl) (by kernel_rfl) (by kernel_rfl) (fun _ _ _ h => h) (hSS) (Or.inl ⟨by rfl, ?y37⟩) ?r37
      case y37 => intro w hSw; obtain ⟨hw0, hw1, hw2, hw3, hw4, hw5, hw6, hw7, hw8, hw9, hw10, hw11, hw12, hw13⟩ := Blk.thirteen hSw; (try dsimp only at hSw); go_simp; try rfl
      case' r37 => try simp only [List.getElem_toArray, List.getElem_cons_succ, List.getElem_cons_zero, Act.put, List.setIfInBounds_toArray, List.set_cons_zero, List.set_cons_succ]
      refine walk_take 8 (v := ?v38) rfl (by kernel_rfl) (by kernel_rfl) (by kernel_rfl) (fun _ _ _ h => h) (hSS) (Or.inl ⟨by rfl, ?y38⟩) ?r38
      case y38 => intro w hSw; obtain ⟨hw0, hw1, hw2, hw3, hw4, hw5, hw6, hw7, hw8, hw9, hw10, hw11, hw12, hw13⟩ := Blk.thirteen hSw; (try dsimp only at hSw); go_simp; try rfl
      case' r38 => try simp only [List.getElem_toArray, List.getElem_cons_succ, List.getElem_cons_zero, Act.put, List.setIfInBounds_toArray, List.set_cons_zero, List.set_cons_succ]
      have hne : w3.heap.size ≠ w.heap.size + 1 := by omega
      apply walk_store_row 9 _ 25 (.tmp 4) (.tmp 30) (w.heap.size + 1) #[.int .i64 H.craft, .int .i64 H.next, .int .i64 H.ahead, .slice S9 m1 c9, .slice A9 m2 d9, .int .i64 H.timer, .int .i64 H.patience, .int .i64 H.tries, .int .i64 H.limit, .int .i64 H.since, .int .i64 H.pause, .int .i64 H.halt]
      case hi => rfl
      case hg => rfl
      case ho => rfl
      case hin => kernel_rfl
      case hr => decide +kernel
      case hx =>
        rfl
      case hy => rfl
      case hw => exact b4.drew
      case hf => exact handsz
      case hold => rfl
      case h1 => exact hand_one H S9 m1 c9 A9 m2 d9
      case hS => exact bp5.drew.farRow hne #[.int .i64 H.craft, .int .i64 H.next, .int .i64 H.ahead, .slice S9 m1 c9, .slice A9 m2 d9, .int .i64 H.timer, .int .i64 H.patience, .int .i64 H.tries, .int .i64 H.limit, .int .i64 H.since, .int .i64 H.pause, .int .i64 H.halt]
      case h =>
        try simp only [List.getElem_toArray, List.getElem_cons_succ, List.getElem_cons_zero, Act.put, List.setIfInBounds_toArray, List.set_cons_zero, List.set_cons_succ]
        refine walk_take 10 (v := ?v410) rfl (by kernel_rfl) (by kernel_rfl) (by kernel_rfl) (fun _ _ _ h => h) (bp5.drew.farRow hne #[.int .i64 H.craft, .int .i64 H.next, .int .i64 H.ahead, .slice S9 m1 c9, .slice A9 m2 d9, .int .i64 H.timer, .int .i64 H.patience, .int .i64 H.tries, .int .i64 H.limit, .int .i64 H.since, .int .i64 H.pause, .int .i64 H.halt]) (Or.inl ⟨by rfl, ?y410⟩) ?r410
        case y410 => intro w hSw; obtain ⟨hw0, hw1, hw2, hw3, hw4, hw5, hw6, hw7, hw8, hw9, hw10, hw11, hw12, hw13⟩ := Blk.thirteen hSw; (try dsimp only at hSw); go_simp; try rfl
        case' r410 => try simp only [List.getElem_toArray, List.getElem_cons_succ, List.getElem_cons_zero, Act.put, List.setIfInBounds_toArray, List.set_cons_zero, List.set_cons_succ]
        refine walk_tail (by kernel_rfl) ?_
        simp only [List.drop_succ_cons, List.drop_zero]
        go_wp2_with fail
        have b4' := b4.drew.row #[.int .i64 H.craft, .int .i64 H.next, .int .i64 H.ahead, .slice S9 m1 c9, .slice A9 m2 d9, .int .i64 H.timer, .int .i64 H.patience, .int .i64 H.tries, .int .i64 H.limit, .int .i64 H.since, .int .i64 H.pause, .int .i64 H.halt]
        refine bodyPost_ret (v := .tuple #[.agg #[.int .i64 H.craft, .int .i64 H.next, .int .i64 H.ahead, .slice S9 m1 c9, .slice A9 m2 d9, .int .i64 H.timer, .int .i64 H.patience, .int .i64 H.tries, .int .i64 H.limit, .int .i64 H.since, .int .i64 H.pause, .int .i64 H.halt], .slice R9 nR cR9, .int .i64 err]) (results_cell_slot2 (ty := 25) Try.results21 _ _ (w.heap.size + 1) 25 _ (0, 0) _ rfl rfl rfl b4' Try.underlying25 rfl handsz) rfl ?_
        refine ⟨S9, c9, A9, d9, R9, cR9, sl9, al9, rl9, rfl, ⟨H91.out, H92.out, H93.out⟩, ?_, ?_, ?_, E1.out, E2.out, E3.out, below_row hB.drew (by omega) _⟩
        · exact (hO9s.drew.lowRow (by omega) _).mono (by omega)
        · exact (hO9a.drew.lowRow (by omega) _).mono (by omega)
        · exact (hO9r.drew.lowRow (by omega) _).mono (by omega)
end Go.Proofs.Ytppmdamcdhmcpaa
