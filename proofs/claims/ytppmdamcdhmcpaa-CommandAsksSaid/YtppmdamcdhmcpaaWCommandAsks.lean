/-
  CommandAsks's walk.
-/
import Derived.Test.YtppmdamcdhmcpaaWCommandAsks1
import Derived.Test.YtppmdamcdhmcpaaHeld4
import Derived.Test.YtppmdamcdhmcpaaHeld2
namespace Go.Proofs.Ytppmdamcdhmcpaa
set_option linter.unusedSimpArgs false
set_option linter.unusedVariables false
open Go.RowKit

set_option maxHeartbeats 12800000 in
set_option maxRecDepth 100000 in
theorem commandAsks_go (h : Hnd) (S : Option Addr) (n1 c : Nat) (A : Option Addr) (n2 d : Nat) (X : Option Addr) (l : List UInt8) (nl xc : Nat) (w : World) (hS : RdRows w S h.sent) (hA : RdRows w A h.asked) (hn1 : h.sent.length = n1) (hn2 : h.asked.length = n2) (f1 : RowsFit h.sent n1) (f2 : RowsFit h.asked n2)
    (hX : Rd w X (bvs l)) (hnl : l.length = nl) (hxc : nl ≤ xc) (hnm : nl ≤ 140737488351232) :
    Calls Try.prog 3 #[hvn h S n1 c A n2 d, .slice X nl xc] w fun e w' => e = .returned (.bool true) ∧ Below w.heap.size w w' := by
  obtain ⟨H, err, hR⟩ : ∃ H err, askR h l = (H, err) := ⟨_, _, rfl⟩
  obtain ⟨f3, f4⟩ := askR_fits (h := h) (l := l) (by rw [hn1]; exact f1) (by rw [hn2]; exact f2)
  rw [hR] at f3 f4
  dsimp only at f3 f4
  obtain ⟨m1, hm1⟩ : ∃ m1, H.sent.length = m1 := ⟨_, rfl⟩
  obtain ⟨m2, hm2⟩ : ∃ m2, H.asked.length = m2 := ⟨_, rfl⟩
  rw [hm1] at f3
  rw [hm2] at f4
  have CU := Lib.hid (fun (w : World) (hS : RdRows w S h.sent) (hA : RdRows w A h.asked) (hX : Rd w X (bvs l)) => rasked_any h S n1 c A n2 d X l nl xc w hS hA hn1 hn2 f1 f2 hX hnl hxc H m1 m2 err hR hm1 hm2)
  have HR := Lib.hid hR
  have HS := Lib.hid hS
  have HA := Lib.hid hA
  have HX := Lib.hid hX
  have N1 := Lib.hid hn1
  have N2 := Lib.hid hn2
  have NL := Lib.hid hnl
  have M1 := Lib.hid hm1
  have M2 := Lib.hid hm2
  have F1 := Lib.hid f1
  have F2 := Lib.hid f2
  have F3 := Lib.hid f3
  have F4 := Lib.hid f4
  clear hR hS hA hX hn1 hn2 hnl hm1 hm2 f1 f2 f3 f4
  unfold hvn at CU ⊢
  have b2 := Blk.new w 25 #[.int .i64 h.craft, .int .i64 h.next, .int .i64 h.ahead, .slice S n1 c, .slice A n2 d, .int .i64 h.timer, .int .i64 h.patience, .int .i64 h.tries, .int .i64 h.limit, .int .i64 h.since, .int .i64 h.pause, .int .i64 h.halt]
  have hB : Below w.heap.size w (w.alloc (.cells #[.int .i64 h.craft, .int .i64 h.next, .int .i64 h.ahead, .slice S n1 c, .slice A n2 d, .int .i64 h.timer, .int .i64 h.patience, .int .i64 h.tries, .int .i64 h.limit, .int .i64 h.since, .int .i64 h.pause, .int .i64 h.halt] 25)) := (Below.refl _ _).alloc (Nat.le_refl _) _
  have s0 : (w.alloc (.cells #[.int .i64 h.craft, .int .i64 h.next, .int .i64 h.ahead, .slice S n1 c, .slice A n2 d, .int .i64 h.timer, .int .i64 h.patience, .int .i64 h.tries, .int .i64 h.limit, .int .i64 h.since, .int .i64 h.pause, .int .i64 h.halt] 25)).heap.size = w.heap.size + 1 := by simp
  go_enter Try.func3, Try.ntmps3
  go_wp2_with (refine wpList_load_row rfl 25 (.tmp 2) rfl (w.heap.size) rfl 25 #[.int .i64 h.craft, .int .i64 h.next, .int .i64 h.ahead, .slice S n1 c, .slice A n2 d, .int .i64 h.timer, .int .i64 h.patience, .int .i64 h.tries, .int .i64 h.limit, .int .i64 h.since, .int .i64 h.pause, .int .i64 h.halt] (0, 0) _ b2 Try.underlying25 rfl handsz ?_)
  generalize w.alloc (.cells #[.int .i64 h.craft, .int .i64 h.next, .int .i64 h.ahead, .slice S n1 c, .slice A n2 d, .int .i64 h.timer, .int .i64 h.patience, .int .i64 h.tries, .int .i64 h.limit, .int .i64 h.since, .int .i64 h.pause, .int .i64 h.halt] 25) = W0 at *
  refine (CU.out W0 (HS.out.below hB) (HA.out.below hB) (HX.out.below hB)).mono ?_
  rintro e w1 ⟨S9, c9, A9, d9, sl9, al9, rfl, ⟨h91, h92⟩, hO9s, hO9a, dj1, hb⟩
  have H91 := Lib.hid h91
  have H92 := Lib.hid h92
  clear CU h91 h92 dj1
  have s1 := hb.size
  replace b2 := b2.step hb
  replace hB := hB.trans (hb.mono hB.size)
  clear hb
  unfold hvn
  have b5 := Blk.new w1 25 #[.int .i64 0, .int .i64 0, .int .i64 0, .slice none 0 0, .slice none 0 0, .int .i64 0, .int .i64 0, .int .i64 0, .int .i64 0, .int .i64 0, .int .i64 0, .int .i64 0]
  have b2' := (b2.alloc (.cells #[.int .i64 0, .int .i64 0, .int .i64 0, .slice none 0 0, .slice none 0 0, .int .i64 0, .int .i64 0, .int .i64 0, .int .i64 0, .int .i64 0, .int .i64 0, .int .i64 0] 25)).farRow (g := w1.heap.size) (by omega) #[.int .i64 H.craft, .int .i64 H.next, .int .i64 H.ahead, .slice S9 m1 c9, .slice A9 m2 d9, .int .i64 H.timer, .int .i64 H.patience, .int .i64 H.tries, .int .i64 H.limit, .int .i64 H.since, .int .i64 H.pause, .int .i64 H.halt]
  have hO9s' := hO9s.allocRow (.cells #[.int .i64 0, .int .i64 0, .int .i64 0, .slice none 0 0, .slice none 0 0, .int .i64 0, .int .i64 0, .int .i64 0, .int .i64 0, .int .i64 0, .int .i64 0, .int .i64 0] 25) #[.int .i64 H.craft, .int .i64 H.next, .int .i64 H.ahead, .slice S9 m1 c9, .slice A9 m2 d9, .int .i64 H.timer, .int .i64 H.patience, .int .i64 H.tries, .int .i64 H.limit, .int .i64 H.since, .int .i64 H.pause, .int .i64 H.halt]
  have hO9a' := hO9a.allocRow (.cells #[.int .i64 0, .int .i64 0, .int .i64 0, .slice none 0 0, .slice none 0 0, .int .i64 0, .int .i64 0, .int .i64 0, .int .i64 0, .int .i64 0, .int .i64 0, .int .i64 0] 25) #[.int .i64 H.craft, .int .i64 H.next, .int .i64 H.ahead, .slice S9 m1 c9, .slice A9 m2 d9, .int .i64 H.timer, .int .i64 H.patience, .int .i64 H.tries, .int .i64 H.limit, .int .i64 H.since, .int .i64 H.pause, .int .i64 H.halt]
  have hB' := below_allocRow hB hB.size (.cells #[.int .i64 0, .int .i64 0, .int .i64 0, .slice none 0 0, .slice none 0 0, .int .i64 0, .int .i64 0, .int .i64 0, .int .i64 0, .int .i64 0, .int .i64 0, .int .i64 0] 25) #[.int .i64 H.craft, .int .i64 H.next, .int .i64 H.ahead, .slice S9 m1 c9, .slice A9 m2 d9, .int .i64 H.timer, .int .i64 H.patience, .int .i64 H.tries, .int .i64 H.limit, .int .i64 H.since, .int .i64 H.pause, .int .i64 H.halt]
  have b5' := b5.row #[.int .i64 H.craft, .int .i64 H.next, .int .i64 H.ahead, .slice S9 m1 c9, .slice A9 m2 d9, .int .i64 H.timer, .int .i64 H.patience, .int .i64 H.tries, .int .i64 H.limit, .int .i64 H.since, .int .i64 H.pause, .int .i64 H.halt]
  have s3 : ((w1.alloc (.cells #[.int .i64 0, .int .i64 0, .int .i64 0, .slice none 0 0, .slice none 0 0, .int .i64 0, .int .i64 0, .int .i64 0, .int .i64 0, .int .i64 0, .int .i64 0, .int .i64 0] 25)).setRow w1.heap.size #[.int .i64 H.craft, .int .i64 H.next, .int .i64 H.ahead, .slice S9 m1 c9, .slice A9 m2 d9, .int .i64 H.timer, .int .i64 H.patience, .int .i64 H.tries, .int .i64 H.limit, .int .i64 H.since, .int .i64 H.pause, .int .i64 H.halt]).heap.size = w1.heap.size + 1 := by rw [setRow_size]; simp
  go_upto_region 2 with (refine wpList_store_row rfl 25 (.tmp 5) (.tmp 15) rfl (w1.heap.size) #[.int .i64 H.craft, .int .i64 H.next, .int .i64 H.ahead, .slice S9 m1 c9, .slice A9 m2 d9, .int .i64 H.timer, .int .i64 H.patience, .int .i64 H.tries, .int .i64 H.limit, .int .i64 H.since, .int .i64 H.pause, .int .i64 H.halt] rfl rfl 25 _ b5 handsz rfl (hand_one H S9 m1 c9 A9 m2 d9) ?_)
  obtain ⟨p5, hp5⟩ : ∃ q, q = w1.heap.size := ⟨_, rfl⟩
  rw [← hp5] at b5' b2' hO9s' hO9a' hB' s3 ⊢
  clear b5 b2 hO9s hO9a hB
  have hp5l : w.heap.size < p5 := by omega
  clear hp5
  generalize (w1.alloc (.cells #[.int .i64 0, .int .i64 0, .int .i64 0, .slice none 0 0, .slice none 0 0, .int .i64 0, .int .i64 0, .int .i64 0, .int .i64 0, .int .i64 0, .int .i64 0, .int .i64 0] 25)).setRow p5 #[.int .i64 H.craft, .int .i64 H.next, .int .i64 H.ahead, .slice S9 m1 c9, .slice A9 m2 d9, .int .i64 H.timer, .int .i64 H.patience, .int .i64 H.tries, .int .i64 H.limit, .int .i64 H.since, .int .i64 H.pause, .int .i64 H.halt] = W2 at *
  have CR := roomy_any X l xc W2 (HX.out.below hB') (by rw [NL.out]; exact hnm)
  rw [NL.out] at CR
  go_wp2_with fail
  refine CR.mono ?_
  rintro e w2 ⟨g, rfl, hg, hRo, hb2⟩
  clear CR
  have z2 := hb2.size
  have b2 := (b2'.step hb2).alloc (.cells #[.slice (some ⟨g, 0, none⟩) nl (nl + 5)] 26)
  have b5 := (b5'.step hb2).alloc (.cells #[.slice (some ⟨g, 0, none⟩) nl (nl + 5)] 26)
  have hO9s := (hO9s'.step hb2).alloc (.cells #[.slice (some ⟨g, 0, none⟩) nl (nl + 5)] 26)
  have hO9a := (hO9a'.step hb2).alloc (.cells #[.slice (some ⟨g, 0, none⟩) nl (nl + 5)] 26)
  have hB1 := (hB'.trans (hb2.mono hB'.size))
  have hB := hB1.alloc hB1.size (.cells #[.slice (some ⟨g, 0, none⟩) nl (nl + 5)] 26)
  have hgl := hRo.lt
  have h9s : ∀ k, Touch S9 sl9 k → k ≠ g := fun k hk => by have := (hO9s'.lt hk).2; omega
  have h9a : ∀ k, Touch A9 al9 k → k ≠ g := fun k hk => by have := (hO9a'.lt hk).2; omega
  replace hRo := hRo.step ((Below.refl w2.heap.size w2).alloc (Nat.le_refl _) (.cells #[.slice (some ⟨g, 0, none⟩) nl (nl + 5)] 26))
  have b7 := Blk.new w2 26 #[.slice (some ⟨g, 0, none⟩) nl (nl + 5)]
  have hz3 : (w2.alloc (.cells #[.slice (some ⟨g, 0, none⟩) nl (nl + 5)] 26)).heap.size = w2.heap.size + 1 := by simp
  obtain ⟨q, hq⟩ : ∃ q, q = w2.heap.size := ⟨_, rfl⟩
  have k7 := b7.cell' (i := 0) rfl
  clear b2' b5' hO9s' hO9a' hB' hB1 hb2
  go_wp2_with (first | (refine wpList_load_row rfl 25 (.tmp 2) rfl (w.heap.size) rfl 25 #[.int .i64 h.craft, .int .i64 h.next, .int .i64 h.ahead, .slice S n1 c, .slice A n2 d, .int .i64 h.timer, .int .i64 h.patience, .int .i64 h.tries, .int .i64 h.limit, .int .i64 h.since, .int .i64 h.pause, .int .i64 h.halt] (0, 0) _ b2 Try.underlying25 rfl handsz ?_) | (refine wpList_load_row rfl 25 (.tmp 5) rfl (p5) rfl 25 #[.int .i64 H.craft, .int .i64 H.next, .int .i64 H.ahead, .slice S9 m1 c9, .slice A9 m2 d9, .int .i64 H.timer, .int .i64 H.patience, .int .i64 H.tries, .int .i64 H.limit, .int .i64 H.since, .int .i64 H.pause, .int .i64 H.halt] (0, 0) _ b5 Try.underlying25 rfl handsz ?_))
  rw [← hq] at b7 hz3 ⊢
  have hql : p5 < q := by omega
  have hgq : g < q := by omega
  clear hq
  clear k7
  generalize w2.alloc (.cells #[.slice (some ⟨g, 0, none⟩) nl (nl + 5)] 26) = W3 at *
  have hcell := b7.cell' (i := 0) rfl
  trace "A"
  have HC := Lib.hid (fun (W : World) (S' A' : Option Addr) (c' d' : Nat) (hb' : Below W3.heap.size W3 W) (hS' : RdRows W S' h.sent) (hA' : RdRows W A' h.asked) => asks1_any h S' n1 c' A' n2 d' l q g nl W hS' hA' N1.out N2.out F1.out F2.out ((hb'.cell (p := ⟨q, 0, none⟩) (by show q < W3.heap.size; omega)).trans hcell) (hRo.rd.below hb') NL.out H m1 m2 err HR.out M1.out M2.out)
  refine (handAs_Ask _ h H [] err S A S9 A9 none n1 n2 c d m1 m2 c9 d9 0 0 W3 (HS.out.below hB) (HA.out.below hB) N1.out N2.out F1.out F2.out (by rw [← H91.out]; exact hO9s.rd) (by rw [← H92.out]; exact hO9a.rd) M1.out M2.out F3.out F4.out (RdRows.nil _ _) rfl ⟨by decide, fun l hl => by cases hl⟩ HC.out).mono ?_
  rintro e w3 ⟨rfl, hb3⟩
  clear HC hcell
  have z4 := hb3.size
  replace b2 := b2.step hb3
  replace b5 := b5.step hb3
  replace b7 := b7.step hb3
  replace hO9s := hO9s.step hb3
  replace hO9a := hO9a.step hb3
  replace hRo := hRo.step hb3
  replace hB := hB.trans (hb3.mono hB.size)
  clear hb3
  have k7 := b7.cell' (i := 0) rfl
  have CL := left_yes g X l xc w3 hRo (HX.out.below hB) (by rw [NL.out]; exact hnm)
  rw [NL.out] at CL
  have CLh := Lib.hid CL
  clear CL
  trace "B"
  go_wp2_with fail
  refine CLh.out.mono ?_
  rintro e w4 ⟨rfl, nq, rfl⟩
  clear CLh k7
  replace b2 := b2.drewN nq
  replace b5 := b5.drewN nq
  replace b7 := b7.drewN nq
  replace hO9s := hO9s.drewN nq
  replace hO9a := hO9a.drewN nq
  replace hRo := hRo.step (below_drewN (Below.refl w3.heap.size w3) nq)
  replace hB := below_drewN hB nq
  have z5 : w3.heap.size ≤ (w3.drewN nq).heap.size := Nat.le_refl _
  generalize w3.drewN nq = W4 at *
  trace "C"
  go_upto_region 6 with fail
  trace "D"
  have k7 := b7.cell' (i := 0) rfl
  refine heldRegion (fun v => Blk v w.heap.size 25 #[.int .i64 h.craft, .int .i64 h.next, .int .i64 h.ahead, .slice S n1 c, .slice A n2 d, .int .i64 h.timer, .int .i64 h.patience, .int .i64 h.tries, .int .i64 h.limit, .int .i64 h.since, .int .i64 h.pause, .int .i64 h.halt] ∧ v.cell? ⟨q, 0, none⟩ = some (.slice (some ⟨g, 0, none⟩) nl (nl + 5))) 9 (by kernel_rfl) (by kernel_rfl) ⟨b2.drew, k7⟩ (fun hSS => ?_)
  refine walk_take 0 (v := ?v10) rfl (by kernel_rfl) (by kernel_rfl) (by kernel_rfl) (fun _ _ _ h => h) (hSS) (Or.inl ⟨by rfl, ?y10⟩) ?r10
  case y10 => intro w hSw; obtain ⟨hwB, hw99⟩ := id hSw; obtain ⟨hw0, hw1, hw2, hw3, hw4, hw5, hw6, hw7, hw8, hw9, hw10, hw11, hw12⟩ := Blk.twelve hwB; have hSx := hSw; (try dsimp only at hSw); go_simp; try rfl
  case' r10 => try simp only [List.getElem_toArray, List.getElem_cons_succ, List.getElem_cons_zero, Act.put, List.setIfInBounds_toArray, List.set_cons_zero, List.set_cons_succ]
  refine walk_take 2 (v := ?v12) rfl (by kernel_rfl) (by kernel_rfl) (by kernel_rfl) (fun _ _ _ h => h) (hSS) (Or.inl ⟨by rfl, ?y12⟩) ?r12
  case y12 => intro w hSw; obtain ⟨hw1, hw2⟩ := hSw; (try dsimp only at hSw); go_simp; try rfl
  case' r12 => try simp only [List.getElem_toArray, List.getElem_cons_succ, List.getElem_cons_zero, Act.put, List.setIfInBounds_toArray, List.set_cons_zero, List.set_cons_succ]
  trace "G"
  have BE := Lib.hid ((Below.refl W4.heap.size W4).drew)
  refine walk_step2 1 7 rfl rfl (by kernel_rfl) (by kernel_rfl) (by decide +kernel) (fun K hK => ?aA) (fun K hK => ?aB)
  trace "H"
  case aA =>
    go_simp
    have hBw := hB.trans (BE.out.mono hB.size)
    refine (rhandOf_any h S n1 c A n2 d (W4.drew) N1.out N2.out (HS.out.below hBw) (HA.out.below hBw) F1.out.1 F2.out.1 F1.out.2 F2.out.2).mono ?_
    rintro e w8 ⟨S8, c8, A8, d8, sl8, al8, rfl, hsl8, hal8, O8s, O8a, dd8, hb8⟩
    have bel8 := BE.out.trans (hb8.mono BE.out.size)
    have M8s := Lib.hid hsl8
    have M8a := Lib.hid hal8
    clear hsl8 hal8 dd8
    refine hK _ _ ⟨b2.step bel8, (b7.step bel8).cell' (i := 0) rfl⟩ ?_
    clear hK K hBw
    unfold hvn
    try simp only [List.getElem_toArray, List.getElem_cons_succ, List.getElem_cons_zero, Act.put, List.setIfInBounds_toArray, List.set_cons_zero, List.set_cons_succ]
    trace "I"
    refine walk_step2 3 7 rfl rfl (by kernel_rfl) (by kernel_rfl) (by decide +kernel) (fun K hK => ?aAA) (fun K hK => ?aAB)
    case aAA =>
      go_simp
      have hBw := hB.trans (bel8.mono hB.size)
      refine (pask_any h S8 n1 c8 A8 n2 d8 (some ⟨g, 0, none⟩) l nl (nl + 5) (w8) (by rw [← M8s.out]; exact O8s.rd) (by rw [← M8a.out]; exact O8a.rd) N1.out N2.out F1.out F2.out (hRo.step bel8).rd NL.out H m1 m2 err HR.out M1.out M2.out).mono ?_
      rintro e w7 ⟨S7, c7, A7, d7, sl7, al7, rfl, ⟨h71, h72⟩, O7s, O7a, dd7, hb7⟩
      have bel7 := bel8.trans (hb7.mono bel8.size)
      have z8 := bel8.size
      have M7s := Lib.hid h71
      have M7a := Lib.hid h72
      clear h71 h72 dd7
      refine hK _ _ ⟨b2.step bel7, (b7.step bel7).cell' (i := 0) rfl⟩ ?_
      clear hK K hBw
      unfold hvn
      try simp only [List.getElem_toArray, List.getElem_cons_succ, List.getElem_cons_zero, Act.put, List.setIfInBounds_toArray, List.set_cons_zero, List.set_cons_succ]
      refine walk_take 4 (v := ?vf14) rfl (by kernel_rfl) (by kernel_rfl) (by kernel_rfl) (fun _ _ _ h => h) (⟨b2.step bel7, (b7.step bel7).cell' (i := 0) rfl⟩) (Or.inl ⟨by rfl, ?yf14⟩) ?rf14
      case yf14 => intro w hSw; obtain ⟨hw1, hw2⟩ := hSw; (try dsimp only at hSw); go_simp; try rfl
      case' rf14 => try simp only [List.getElem_toArray, List.getElem_cons_succ, List.getElem_cons_zero, Act.put, List.setIfInBounds_toArray, List.set_cons_zero, List.set_cons_succ]
      refine walk_take 5 (v := ?vf15) rfl (by kernel_rfl) (by kernel_rfl) (by kernel_rfl) (fun _ _ _ h => h) (⟨b2.step bel7, (b7.step bel7).cell' (i := 0) rfl⟩) (Or.inl ⟨by rfl, ?yf15⟩) ?rf15
      case yf15 => intro w hSw; obtain ⟨hw1, hw2⟩ := hSw; (try dsimp only at hSw); go_simp; try rfl
      case' rf15 => try simp only [List.getElem_toArray, List.getElem_cons_succ, List.getElem_cons_zero, Act.put, List.setIfInBounds_toArray, List.set_cons_zero, List.set_cons_succ]
      refine walk_take 6 (v := ?vf16) rfl (by kernel_rfl) (by kernel_rfl) (by kernel_rfl) (fun _ _ _ h => h) (⟨b2.step bel7, (b7.step bel7).cell' (i := 0) rfl⟩) (Or.inl ⟨by rfl, ?yf16⟩) ?rf16
      case yf16 => intro w hSw; obtain ⟨hw1, hw2⟩ := hSw; (try dsimp only at hSw); go_simp; try rfl
      case' rf16 => try simp only [List.getElem_toArray, List.getElem_cons_succ, List.getElem_cons_zero, Act.put, List.setIfInBounds_toArray, List.set_cons_zero, List.set_cons_succ]
      trace "J"
      refine walk_step 7 rfl (by kernel_rfl) (by kernel_rfl) (fun K hK => ?aAAA)
      case aAAA =>
        go_simp
        have bel := bel7.alloc bel7.size (.cells #[.int .i64 0, .int .i64 0, .int .i64 0, .slice none 0 0, .slice none 0 0, .int .i64 0, .int .i64 0, .int .i64 0, .int .i64 0, .int .i64 0, .int .i64 0, .int .i64 0] 25)
        have b9 := Blk.new w7 25 #[.int .i64 0, .int .i64 0, .int .i64 0, .slice none 0 0, .slice none 0 0, .int .i64 0, .int .i64 0, .int .i64 0, .int .i64 0, .int .i64 0, .int .i64 0, .int .i64 0]
        have O7s' := (O7s.alloc (.cells #[.int .i64 0, .int .i64 0, .int .i64 0, .slice none 0 0, .slice none 0 0, .int .i64 0, .int .i64 0, .int .i64 0, .int .i64 0, .int .i64 0, .int .i64 0, .int .i64 0] 25)).mono (b := W4.heap.size) (by omega)
        have O7a' := (O7a.alloc (.cells #[.int .i64 0, .int .i64 0, .int .i64 0, .slice none 0 0, .slice none 0 0, .int .i64 0, .int .i64 0, .int .i64 0, .int .i64 0, .int .i64 0, .int .i64 0, .int .i64 0] 25)).mono (b := W4.heap.size) (by omega)
        have t7s := fun (k : Nat) (hk : Touch S7 sl7 k) => (O7s.lt hk).2
        have t7a := fun (k : Nat) (hk : Touch A7 al7 k) => (O7a.lt hk).2
        refine hK _ _ ⟨b2.step bel, (b7.step bel).cell' (i := 0) rfl⟩ ?_
        clear hK K
        obtain ⟨p9, hp9⟩ : ∃ q, q = w7.heap.size := ⟨_, rfl⟩
        have hp9l : W4.heap.size ≤ p9 := by have := bel7.size; omega
        rw [← hp9] at b9 t7s t7a ⊢
        clear hp9
        generalize w7.alloc (.cells #[.int .i64 0, .int .i64 0, .int .i64 0, .slice none 0 0, .slice none 0 0, .int .i64 0, .int .i64 0, .int .i64 0, .int .i64 0, .int .i64 0, .int .i64 0, .int .i64 0] 25) = W5 at *
        have hn1 : ∀ k, Touch S7 sl7 k → k ≠ p9 := fun k hk e => by have := t7s k hk; omega
        have hn2 : ∀ k, Touch A7 al7 k → k ≠ p9 := fun k hk e => by have := t7a k hk; omega
        try simp only [List.getElem_toArray, List.getElem_cons_succ, List.getElem_cons_zero, Act.put, List.setIfInBounds_toArray, List.set_cons_zero, List.set_cons_succ]
        have hB6 := below_row (hB.trans (bel.mono hB.size)) (g := p9) (by omega) #[.int .i64 H.craft, .int .i64 H.next, .int .i64 H.ahead, .slice S7 m1 c7, .slice A7 m2 d7, .int .i64 H.timer, .int .i64 H.patience, .int .i64 H.tries, .int .i64 H.limit, .int .i64 H.since, .int .i64 H.pause, .int .i64 H.halt]
        have b56 := (b5.step bel).farRow (g := p9) (by omega) #[.int .i64 H.craft, .int .i64 H.next, .int .i64 H.ahead, .slice S7 m1 c7, .slice A7 m2 d7, .int .i64 H.timer, .int .i64 H.patience, .int .i64 H.tries, .int .i64 H.limit, .int .i64 H.since, .int .i64 H.pause, .int .i64 H.halt]
        have b76 := (b7.step bel).farRow (g := p9) (by omega) #[.int .i64 H.craft, .int .i64 H.next, .int .i64 H.ahead, .slice S7 m1 c7, .slice A7 m2 d7, .int .i64 H.timer, .int .i64 H.patience, .int .i64 H.tries, .int .i64 H.limit, .int .i64 H.since, .int .i64 H.pause, .int .i64 H.halt]
        have b26 := (b2.step bel).farRow (g := p9) (by omega) #[.int .i64 H.craft, .int .i64 H.next, .int .i64 H.ahead, .slice S7 m1 c7, .slice A7 m2 d7, .int .i64 H.timer, .int .i64 H.patience, .int .i64 H.tries, .int .i64 H.limit, .int .i64 H.since, .int .i64 H.pause, .int .i64 H.halt]
        have b96 := b9.row #[.int .i64 H.craft, .int .i64 H.next, .int .i64 H.ahead, .slice S7 m1 c7, .slice A7 m2 d7, .int .i64 H.timer, .int .i64 H.patience, .int .i64 H.tries, .int .i64 H.limit, .int .i64 H.since, .int .i64 H.pause, .int .i64 H.halt]
        have O7s6 := O7s'.keep (w' := W5.setRow p9 #[.int .i64 H.craft, .int .i64 H.next, .int .i64 H.ahead, .slice S7 m1 c7, .slice A7 m2 d7, .int .i64 H.timer, .int .i64 H.patience, .int .i64 H.tries, .int .i64 H.limit, .int .i64 H.since, .int .i64 H.pause, .int .i64 H.halt]) fun k hk => setRow_other _ _ k _ (hn1 k hk)
        have O7a6 := O7a'.keep (w' := W5.setRow p9 #[.int .i64 H.craft, .int .i64 H.next, .int .i64 H.ahead, .slice S7 m1 c7, .slice A7 m2 d7, .int .i64 H.timer, .int .i64 H.patience, .int .i64 H.tries, .int .i64 H.limit, .int .i64 H.since, .int .i64 H.pause, .int .i64 H.halt]) fun k hk => setRow_other _ _ k _ (hn2 k hk)
        have O9s6 := (hO9s.step bel).keep (w' := W5.setRow p9 #[.int .i64 H.craft, .int .i64 H.next, .int .i64 H.ahead, .slice S7 m1 c7, .slice A7 m2 d7, .int .i64 H.timer, .int .i64 H.patience, .int .i64 H.tries, .int .i64 H.limit, .int .i64 H.since, .int .i64 H.pause, .int .i64 H.halt]) fun k hk => setRow_other _ _ k _ (by have := (hO9s.lt hk).2; omega)
        have O9a6 := (hO9a.step bel).keep (w' := W5.setRow p9 #[.int .i64 H.craft, .int .i64 H.next, .int .i64 H.ahead, .slice S7 m1 c7, .slice A7 m2 d7, .int .i64 H.timer, .int .i64 H.patience, .int .i64 H.tries, .int .i64 H.limit, .int .i64 H.since, .int .i64 H.pause, .int .i64 H.halt]) fun k hk => setRow_other _ _ k _ (by have := (hO9a.lt hk).2; omega)
        have R6 := (hRo.step bel).over (grown_row W5 p9 #[.int .i64 H.craft, .int .i64 H.next, .int .i64 H.ahead, .slice S7 m1 c7, .slice A7 m2 d7, .int .i64 H.timer, .int .i64 H.patience, .int .i64 H.tries, .int .i64 H.limit, .int .i64 H.since, .int .i64 H.pause, .int .i64 H.halt]) (fun k hk e => by replace hk : p9 = k := Option.some.inj hk; injection e with e; have := hRo.lt; omega)
        have k76 := b76.cell' (i := 0) rfl
        apply walk_store_row 8 _ 25 (.tmp 9) (.tmp 37) p9 #[.int .i64 H.craft, .int .i64 H.next, .int .i64 H.ahead, .slice S7 m1 c7, .slice A7 m2 d7, .int .i64 H.timer, .int .i64 H.patience, .int .i64 H.tries, .int .i64 H.limit, .int .i64 H.since, .int .i64 H.pause, .int .i64 H.halt]
        case hi => rfl
        case hg => rfl
        case ho => rfl
        case hin => kernel_rfl
        case hr => decide +kernel
        case hx => rfl
        case hy => rfl
        case hw => exact b9
        case hf => exact handsz
        case hold => rfl
        case h1 => exact hand_one H S7 m1 c7 A7 m2 d7
        case hS => exact ⟨b26, k76⟩
        case h =>
          try simp only [List.getElem_toArray, List.getElem_cons_succ, List.getElem_cons_zero, Act.put, List.setIfInBounds_toArray, List.set_cons_zero, List.set_cons_succ]
          refine walk_tail (by kernel_rfl) ?_
          simp only [List.drop_succ_cons, List.drop_zero]
          go_wp2_with fail
          generalize W5.setRow p9 #[.int .i64 H.craft, .int .i64 H.next, .int .i64 H.ahead, .slice S7 m1 c7, .slice A7 m2 d7, .int .i64 H.timer, .int .i64 H.patience, .int .i64 H.tries, .int .i64 H.limit, .int .i64 H.since, .int .i64 H.pause, .int .i64 H.halt] = W6 at *
          refine (spoil_any g (some ⟨g, 0, none⟩) nl (nl + 5) l W6 (by rw [← NL.out]; exact R6.own (by unfold maxLen; rw [NL.out]; omega) (Nat.le_refl _)) (by omega) (by have := R6.lt; omega)).mono ?_
          rintro e v7 ⟨rfl, hg7⟩
          have q5 := b56.over hg7 (fun k hk e => by replace hk : g = k := Option.some.inj hk; injection e with e; omega)
          have q9 := b96.over hg7 (fun k hk e => by replace hk : g = k := Option.some.inj hk; injection e with e; have := hRo.lt; omega)
          have P7s := O7s6.over hg7 (fun k hk ht => by replace hk : g = k := Option.some.inj hk; have := (O7s6.lt ht).1; have := hRo.lt; omega)
          have P7a := O7a6.over hg7 (fun k hk ht => by replace hk : g = k := Option.some.inj hk; have := (O7a6.lt ht).1; have := hRo.lt; omega)
          have P9s := O9s6.over hg7 (fun k hk ht => by replace hk : g = k := Option.some.inj hk; exact h9s k ht hk.symm)
          have P9a := O9a6.over hg7 (fun k hk ht => by replace hk : g = k := Option.some.inj hk; exact h9a k ht hk.symm)
          have hB7 := hB6.grown hg7 hB6.size (fun k hk => by replace hk : g = k := Option.some.inj hk; omega)
          trace "F"
          go_wp2_with (first | (refine wpList_load_row rfl 25 (.tmp 9) rfl (p9) rfl 25 #[.int .i64 H.craft, .int .i64 H.next, .int .i64 H.ahead, .slice S7 m1 c7, .slice A7 m2 d7, .int .i64 H.timer, .int .i64 H.patience, .int .i64 H.tries, .int .i64 H.limit, .int .i64 H.since, .int .i64 H.pause, .int .i64 H.halt] (0, 0) _ q9 Try.underlying25 rfl handsz ?_) | (refine wpList_load_row rfl 25 (.tmp 5) rfl (p5) rfl 25 #[.int .i64 H.craft, .int .i64 H.next, .int .i64 H.ahead, .slice S9 m1 c9, .slice A9 m2 d9, .int .i64 H.timer, .int .i64 H.patience, .int .i64 H.tries, .int .i64 H.limit, .int .i64 H.since, .int .i64 H.pause, .int .i64 H.halt] (0, 0) _ q5 Try.underlying25 rfl handsz ?_))
          refine (sameHand_n H S7 m1 c7 A7 m2 d7 S9 c9 A9 d9 v7 M1.out M2.out (by rw [← M7s.out]; exact P7s.rd) (by rw [← M7a.out]; exact P7a.rd) (by rw [← H91.out]; exact P9s.rd) (by rw [← H92.out]; exact P9a.rd) F3.out.1 F4.out.1).mono ?_
          rintro e v8 ⟨rfl, hb8⟩
          go_wp2_with fail
          go_ret
          exact ⟨rfl, hB7.trans (hb8.mono hB7.size)⟩
    case aAB =>
      go_simp
      have belA := bel8.alloc bel8.size (.cells #[.int .i64 0, .int .i64 0, .int .i64 0, .slice none 0 0, .slice none 0 0, .int .i64 0, .int .i64 0, .int .i64 0, .int .i64 0, .int .i64 0, .int .i64 0, .int .i64 0] 25)
      have b9a := Blk.new w8 25 #[.int .i64 0, .int .i64 0, .int .i64 0, .slice none 0 0, .slice none 0 0, .int .i64 0, .int .i64 0, .int .i64 0, .int .i64 0, .int .i64 0, .int .i64 0, .int .i64 0]
      refine hK _ _ ⟨b2.step belA, (b7.step belA).cell' (i := 0) rfl⟩ ?_
      clear hK K
      try simp only [List.getElem_toArray, List.getElem_cons_succ, List.getElem_cons_zero, Act.put, List.setIfInBounds_toArray, List.set_cons_zero, List.set_cons_succ]
      obtain ⟨p9, hp9⟩ : ∃ q, q = w8.heap.size := ⟨_, rfl⟩
      have hp9l : W4.heap.size ≤ p9 := by have := bel8.size; omega
      have zA : (w8.alloc (.cells #[.int .i64 0, .int .i64 0, .int .i64 0, .slice none 0 0, .slice none 0 0, .int .i64 0, .int .i64 0, .int .i64 0, .int .i64 0, .int .i64 0, .int .i64 0, .int .i64 0] 25)).heap.size = w8.heap.size + 1 := by simp
      rw [← hp9] at b9a zA ⊢
      have O8s' := O8s.alloc (.cells #[.int .i64 0, .int .i64 0, .int .i64 0, .slice none 0 0, .slice none 0 0, .int .i64 0, .int .i64 0, .int .i64 0, .int .i64 0, .int .i64 0, .int .i64 0, .int .i64 0] 25)
      have O8a' := O8a.alloc (.cells #[.int .i64 0, .int .i64 0, .int .i64 0, .slice none 0 0, .slice none 0 0, .int .i64 0, .int .i64 0, .int .i64 0, .int .i64 0, .int .i64 0, .int .i64 0, .int .i64 0] 25)
      clear hp9 O8s O8a bel8
      generalize w8.alloc (.cells #[.int .i64 0, .int .i64 0, .int .i64 0, .slice none 0 0, .slice none 0 0, .int .i64 0, .int .i64 0, .int .i64 0, .int .i64 0, .int .i64 0, .int .i64 0, .int .i64 0] 25) = wA at *
      have O8s := O8s'
      have O8a := O8a'
      refine walk_step 3 rfl (by kernel_rfl) (by kernel_rfl) (fun K hK => ?aABA)
      case aABA =>
        go_simp
        have hBw := hB.trans (belA.mono hB.size)
        refine (pask_any h S8 n1 c8 A8 n2 d8 (some ⟨g, 0, none⟩) l nl (nl + 5) (wA) (by rw [← M8s.out]; exact O8s.rd) (by rw [← M8a.out]; exact O8a.rd) N1.out N2.out F1.out F2.out (hRo.step belA).rd NL.out H m1 m2 err HR.out M1.out M2.out).mono ?_
        rintro e w7 ⟨S7, c7, A7, d7, sl7, al7, rfl, ⟨h71, h72⟩, O7s, O7a, dd7, hb7⟩
        have bel7 := belA.trans (hb7.mono belA.size)
        have z8 := belA.size
        have M7s := Lib.hid h71
        have M7a := Lib.hid h72
        clear h71 h72 dd7
        refine hK _ _ ⟨b2.step bel7, (b7.step bel7).cell' (i := 0) rfl⟩ ?_
        clear hK K hBw
        unfold hvn
        try simp only [List.getElem_toArray, List.getElem_cons_succ, List.getElem_cons_zero, Act.put, List.setIfInBounds_toArray, List.set_cons_zero, List.set_cons_succ]
        refine walk_take 4 (v := ?vf24) rfl (by kernel_rfl) (by kernel_rfl) (by kernel_rfl) (fun _ _ _ h => h) (⟨b2.step bel7, (b7.step bel7).cell' (i := 0) rfl⟩) (Or.inl ⟨by rfl, ?yf24⟩) ?rf24
        case yf24 => intro w hSw; obtain ⟨hw1, hw2⟩ := hSw; (try dsimp only at hSw); go_simp; try rfl
        case' rf24 => try simp only [List.getElem_toArray, List.getElem_cons_succ, List.getElem_cons_zero, Act.put, List.setIfInBounds_toArray, List.set_cons_zero, List.set_cons_succ]
        refine walk_take 5 (v := ?vf25) rfl (by kernel_rfl) (by kernel_rfl) (by kernel_rfl) (fun _ _ _ h => h) (⟨b2.step bel7, (b7.step bel7).cell' (i := 0) rfl⟩) (Or.inl ⟨by rfl, ?yf25⟩) ?rf25
        case yf25 => intro w hSw; obtain ⟨hw1, hw2⟩ := hSw; (try dsimp only at hSw); go_simp; try rfl
        case' rf25 => try simp only [List.getElem_toArray, List.getElem_cons_succ, List.getElem_cons_zero, Act.put, List.setIfInBounds_toArray, List.set_cons_zero, List.set_cons_succ]
        refine walk_take 6 (v := ?vf26) rfl (by kernel_rfl) (by kernel_rfl) (by kernel_rfl) (fun _ _ _ h => h) (⟨b2.step bel7, (b7.step bel7).cell' (i := 0) rfl⟩) (Or.inl ⟨by rfl, ?yf26⟩) ?rf26
        case yf26 => intro w hSw; obtain ⟨hw1, hw2⟩ := hSw; (try dsimp only at hSw); go_simp; try rfl
        case' rf26 => try simp only [List.getElem_toArray, List.getElem_cons_succ, List.getElem_cons_zero, Act.put, List.setIfInBounds_toArray, List.set_cons_zero, List.set_cons_succ]
        have bel := bel7
        have b9 := b9a.step hb7
        have hn1 : ∀ k, Touch S7 sl7 k → k ≠ p9 := fun k hk e => by have := (O7s.lt hk).1; omega
        have hn2 : ∀ k, Touch A7 al7 k → k ≠ p9 := fun k hk e => by have := (O7a.lt hk).1; omega
        have O7s' := O7s.mono (b := W4.heap.size) (by omega)
        have O7a' := O7a.mono (b := W4.heap.size) (by omega)
        generalize w7 = W5 at *
        try simp only [List.getElem_toArray, List.getElem_cons_succ, List.getElem_cons_zero, Act.put, List.setIfInBounds_toArray, List.set_cons_zero, List.set_cons_succ]
        have hB6 := below_row (hB.trans (bel.mono hB.size)) (g := p9) (by omega) #[.int .i64 H.craft, .int .i64 H.next, .int .i64 H.ahead, .slice S7 m1 c7, .slice A7 m2 d7, .int .i64 H.timer, .int .i64 H.patience, .int .i64 H.tries, .int .i64 H.limit, .int .i64 H.since, .int .i64 H.pause, .int .i64 H.halt]
        have b56 := (b5.step bel).farRow (g := p9) (by omega) #[.int .i64 H.craft, .int .i64 H.next, .int .i64 H.ahead, .slice S7 m1 c7, .slice A7 m2 d7, .int .i64 H.timer, .int .i64 H.patience, .int .i64 H.tries, .int .i64 H.limit, .int .i64 H.since, .int .i64 H.pause, .int .i64 H.halt]
        have b76 := (b7.step bel).farRow (g := p9) (by omega) #[.int .i64 H.craft, .int .i64 H.next, .int .i64 H.ahead, .slice S7 m1 c7, .slice A7 m2 d7, .int .i64 H.timer, .int .i64 H.patience, .int .i64 H.tries, .int .i64 H.limit, .int .i64 H.since, .int .i64 H.pause, .int .i64 H.halt]
        have b26 := (b2.step bel).farRow (g := p9) (by omega) #[.int .i64 H.craft, .int .i64 H.next, .int .i64 H.ahead, .slice S7 m1 c7, .slice A7 m2 d7, .int .i64 H.timer, .int .i64 H.patience, .int .i64 H.tries, .int .i64 H.limit, .int .i64 H.since, .int .i64 H.pause, .int .i64 H.halt]
        have b96 := b9.row #[.int .i64 H.craft, .int .i64 H.next, .int .i64 H.ahead, .slice S7 m1 c7, .slice A7 m2 d7, .int .i64 H.timer, .int .i64 H.patience, .int .i64 H.tries, .int .i64 H.limit, .int .i64 H.since, .int .i64 H.pause, .int .i64 H.halt]
        have O7s6 := O7s'.keep (w' := W5.setRow p9 #[.int .i64 H.craft, .int .i64 H.next, .int .i64 H.ahead, .slice S7 m1 c7, .slice A7 m2 d7, .int .i64 H.timer, .int .i64 H.patience, .int .i64 H.tries, .int .i64 H.limit, .int .i64 H.since, .int .i64 H.pause, .int .i64 H.halt]) fun k hk => setRow_other _ _ k _ (hn1 k hk)
        have O7a6 := O7a'.keep (w' := W5.setRow p9 #[.int .i64 H.craft, .int .i64 H.next, .int .i64 H.ahead, .slice S7 m1 c7, .slice A7 m2 d7, .int .i64 H.timer, .int .i64 H.patience, .int .i64 H.tries, .int .i64 H.limit, .int .i64 H.since, .int .i64 H.pause, .int .i64 H.halt]) fun k hk => setRow_other _ _ k _ (hn2 k hk)
        have O9s6 := (hO9s.step bel).keep (w' := W5.setRow p9 #[.int .i64 H.craft, .int .i64 H.next, .int .i64 H.ahead, .slice S7 m1 c7, .slice A7 m2 d7, .int .i64 H.timer, .int .i64 H.patience, .int .i64 H.tries, .int .i64 H.limit, .int .i64 H.since, .int .i64 H.pause, .int .i64 H.halt]) fun k hk => setRow_other _ _ k _ (by have := (hO9s.lt hk).2; omega)
        have O9a6 := (hO9a.step bel).keep (w' := W5.setRow p9 #[.int .i64 H.craft, .int .i64 H.next, .int .i64 H.ahead, .slice S7 m1 c7, .slice A7 m2 d7, .int .i64 H.timer, .int .i64 H.patience, .int .i64 H.tries, .int .i64 H.limit, .int .i64 H.since, .int .i64 H.pause, .int .i64 H.halt]) fun k hk => setRow_other _ _ k _ (by have := (hO9a.lt hk).2; omega)
        have R6 := (hRo.step bel).over (grown_row W5 p9 #[.int .i64 H.craft, .int .i64 H.next, .int .i64 H.ahead, .slice S7 m1 c7, .slice A7 m2 d7, .int .i64 H.timer, .int .i64 H.patience, .int .i64 H.tries, .int .i64 H.limit, .int .i64 H.since, .int .i64 H.pause, .int .i64 H.halt]) (fun k hk e => by replace hk : p9 = k := Option.some.inj hk; injection e with e; have := hRo.lt; omega)
        have k76 := b76.cell' (i := 0) rfl
        apply walk_store_row 8 _ 25 (.tmp 9) (.tmp 37) p9 #[.int .i64 H.craft, .int .i64 H.next, .int .i64 H.ahead, .slice S7 m1 c7, .slice A7 m2 d7, .int .i64 H.timer, .int .i64 H.patience, .int .i64 H.tries, .int .i64 H.limit, .int .i64 H.since, .int .i64 H.pause, .int .i64 H.halt]
        case hi => rfl
        case hg => rfl
        case ho => rfl
        case hin => kernel_rfl
        case hr => decide +kernel
        case hx => rfl
        case hy => rfl
        case hw => exact b9
        case hf => exact handsz
        case hold => rfl
        case h1 => exact hand_one H S7 m1 c7 A7 m2 d7
        case hS => exact ⟨b26, k76⟩
        case h =>
          try simp only [List.getElem_toArray, List.getElem_cons_succ, List.getElem_cons_zero, Act.put, List.setIfInBounds_toArray, List.set_cons_zero, List.set_cons_succ]
          refine walk_tail (by kernel_rfl) ?_
          simp only [List.drop_succ_cons, List.drop_zero]
          go_wp2_with fail
          generalize W5.setRow p9 #[.int .i64 H.craft, .int .i64 H.next, .int .i64 H.ahead, .slice S7 m1 c7, .slice A7 m2 d7, .int .i64 H.timer, .int .i64 H.patience, .int .i64 H.tries, .int .i64 H.limit, .int .i64 H.since, .int .i64 H.pause, .int .i64 H.halt] = W6 at *
          refine (spoil_any g (some ⟨g, 0, none⟩) nl (nl + 5) l W6 (by rw [← NL.out]; exact R6.own (by unfold maxLen; rw [NL.out]; omega) (Nat.le_refl _)) (by omega) (by have := R6.lt; omega)).mono ?_
          rintro e v7 ⟨rfl, hg7⟩
          have q5 := b56.over hg7 (fun k hk e => by replace hk : g = k := Option.some.inj hk; injection e with e; omega)
          have q9 := b96.over hg7 (fun k hk e => by replace hk : g = k := Option.some.inj hk; injection e with e; have := hRo.lt; omega)
          have P7s := O7s6.over hg7 (fun k hk ht => by replace hk : g = k := Option.some.inj hk; have := (O7s6.lt ht).1; have := hRo.lt; omega)
          have P7a := O7a6.over hg7 (fun k hk ht => by replace hk : g = k := Option.some.inj hk; have := (O7a6.lt ht).1; have := hRo.lt; omega)
          have P9s := O9s6.over hg7 (fun k hk ht => by replace hk : g = k := Option.some.inj hk; exact h9s k ht hk.symm)
          have P9a := O9a6.over hg7 (fun k hk ht => by replace hk : g = k := Option.some.inj hk; exact h9a k ht hk.symm)
          have hB7 := hB6.grown hg7 hB6.size (fun k hk => by replace hk : g = k := Option.some.inj hk; omega)
          trace "F"
          go_wp2_with (first | (refine wpList_load_row rfl 25 (.tmp 9) rfl (p9) rfl 25 #[.int .i64 H.craft, .int .i64 H.next, .int .i64 H.ahead, .slice S7 m1 c7, .slice A7 m2 d7, .int .i64 H.timer, .int .i64 H.patience, .int .i64 H.tries, .int .i64 H.limit, .int .i64 H.since, .int .i64 H.pause, .int .i64 H.halt] (0, 0) _ q9 Try.underlying25 rfl handsz ?_) | (refine wpList_load_row rfl 25 (.tmp 5) rfl (p5) rfl 25 #[.int .i64 H.craft, .int .i64 H.next, .int .i64 H.ahead, .slice S9 m1 c9, .slice A9 m2 d9, .int .i64 H.timer, .int .i64 H.patience, .int .i64 H.tries, .int .i64 H.limit, .int .i64 H.since, .int .i64 H.pause, .int .i64 H.halt] (0, 0) _ q5 Try.underlying25 rfl handsz ?_))
          refine (sameHand_n H S7 m1 c7 A7 m2 d7 S9 c9 A9 d9 v7 M1.out M2.out (by rw [← M7s.out]; exact P7s.rd) (by rw [← M7a.out]; exact P7a.rd) (by rw [← H91.out]; exact P9s.rd) (by rw [← H92.out]; exact P9a.rd) F3.out.1 F4.out.1).mono ?_
          rintro e v8 ⟨rfl, hb8⟩
          go_wp2_with fail
          go_ret
          exact ⟨rfl, hB7.trans (hb8.mono hB7.size)⟩
  case aB =>
    go_simp
    have belA : Below W4.heap.size W4 (W4.alloc (.cells #[.int .i64 0, .int .i64 0, .int .i64 0, .slice none 0 0, .slice none 0 0, .int .i64 0, .int .i64 0, .int .i64 0, .int .i64 0, .int .i64 0, .int .i64 0, .int .i64 0] 25)).drew := ((Below.refl W4.heap.size W4).alloc (Nat.le_refl _) (.cells #[.int .i64 0, .int .i64 0, .int .i64 0, .slice none 0 0, .slice none 0 0, .int .i64 0, .int .i64 0, .int .i64 0, .int .i64 0, .int .i64 0, .int .i64 0, .int .i64 0] 25)).drew
    have b9a : Blk (W4.alloc (.cells #[.int .i64 0, .int .i64 0, .int .i64 0, .slice none 0 0, .slice none 0 0, .int .i64 0, .int .i64 0, .int .i64 0, .int .i64 0, .int .i64 0, .int .i64 0, .int .i64 0] 25)).drew W4.heap.size 25 #[.int .i64 0, .int .i64 0, .int .i64 0, .slice none 0 0, .slice none 0 0, .int .i64 0, .int .i64 0, .int .i64 0, .int .i64 0, .int .i64 0, .int .i64 0, .int .i64 0] := (Blk.new W4 25 #[.int .i64 0, .int .i64 0, .int .i64 0, .slice none 0 0, .slice none 0 0, .int .i64 0, .int .i64 0, .int .i64 0, .int .i64 0, .int .i64 0, .int .i64 0, .int .i64 0]).drew
    refine hK _ _ ⟨b2.step belA, (b7.step belA).cell' (i := 0) rfl⟩ ?_
    clear hK K
    try simp only [List.getElem_toArray, List.getElem_cons_succ, List.getElem_cons_zero, Act.put, List.setIfInBounds_toArray, List.set_cons_zero, List.set_cons_succ]
    obtain ⟨p9, hp9⟩ : ∃ q, q = W4.heap.size := ⟨_, rfl⟩
    have hp9l : W4.heap.size ≤ p9 := by omega
    have zA : (W4.alloc (.cells #[.int .i64 0, .int .i64 0, .int .i64 0, .slice none 0 0, .slice none 0 0, .int .i64 0, .int .i64 0, .int .i64 0, .int .i64 0, .int .i64 0, .int .i64 0, .int .i64 0] 25)).drew.heap.size = W4.heap.size + 1 := by simp
    rw [← hp9] at b9a zA ⊢
    clear hp9
    generalize (W4.alloc (.cells #[.int .i64 0, .int .i64 0, .int .i64 0, .slice none 0 0, .slice none 0 0, .int .i64 0, .int .i64 0, .int .i64 0, .int .i64 0, .int .i64 0, .int .i64 0, .int .i64 0] 25)).drew = wA at *
    refine walk_step 1 rfl (by kernel_rfl) (by kernel_rfl) (fun K hK => ?aBA)
    case aBA =>
      go_simp
      have hBw := hB.trans (belA.mono hB.size)
      refine (rhandOf_any h S n1 c A n2 d (wA) N1.out N2.out (HS.out.below hBw) (HA.out.below hBw) F1.out.1 F2.out.1 F1.out.2 F2.out.2).mono ?_
      rintro e w8 ⟨S8, c8, A8, d8, sl8, al8, rfl, hsl8, hal8, O8s, O8a, dd8, hb8⟩
      have bel8 := belA.trans (hb8.mono belA.size)
      have M8s := Lib.hid hsl8
      have M8a := Lib.hid hal8
      clear hsl8 hal8 dd8
      refine hK _ _ ⟨b2.step bel8, (b7.step bel8).cell' (i := 0) rfl⟩ ?_
      clear hK K hBw
      unfold hvn
      try simp only [List.getElem_toArray, List.getElem_cons_succ, List.getElem_cons_zero, Act.put, List.setIfInBounds_toArray, List.set_cons_zero, List.set_cons_succ]
      refine walk_step 3 rfl (by kernel_rfl) (by kernel_rfl) (fun K hK => ?aBAA)
      case aBAA =>
        have b9b := b9a.step hb8
        go_simp
        have hBw := hB.trans (bel8.mono hB.size)
        refine (pask_any h S8 n1 c8 A8 n2 d8 (some ⟨g, 0, none⟩) l nl (nl + 5) (w8) (by rw [← M8s.out]; exact O8s.rd) (by rw [← M8a.out]; exact O8a.rd) N1.out N2.out F1.out F2.out (hRo.step bel8).rd NL.out H m1 m2 err HR.out M1.out M2.out).mono ?_
        rintro e w7 ⟨S7, c7, A7, d7, sl7, al7, rfl, ⟨h71, h72⟩, O7s, O7a, dd7, hb7⟩
        have bel7 := bel8.trans (hb7.mono bel8.size)
        have z8 := bel8.size
        have M7s := Lib.hid h71
        have M7a := Lib.hid h72
        clear h71 h72 dd7
        refine hK _ _ ⟨b2.step bel7, (b7.step bel7).cell' (i := 0) rfl⟩ ?_
        clear hK K hBw
        unfold hvn
        try simp only [List.getElem_toArray, List.getElem_cons_succ, List.getElem_cons_zero, Act.put, List.setIfInBounds_toArray, List.set_cons_zero, List.set_cons_succ]
        refine walk_take 4 (v := ?vf34) rfl (by kernel_rfl) (by kernel_rfl) (by kernel_rfl) (fun _ _ _ h => h) (⟨b2.step bel7, (b7.step bel7).cell' (i := 0) rfl⟩) (Or.inl ⟨by rfl, ?yf34⟩) ?rf34
        case yf34 => intro w hSw; obtain ⟨hw1, hw2⟩ := hSw; (try dsimp only at hSw); go_simp; try rfl
        case' rf34 => try simp only [List.getElem_toArray, List.getElem_cons_succ, List.getElem_cons_zero, Act.put, List.setIfInBounds_toArray, List.set_cons_zero, List.set_cons_succ]
        refine walk_take 5 (v := ?vf35) rfl (by kernel_rfl) (by kernel_rfl) (by kernel_rfl) (fun _ _ _ h => h) (⟨b2.step bel7, (b7.step bel7).cell' (i := 0) rfl⟩) (Or.inl ⟨by rfl, ?yf35⟩) ?rf35
        case yf35 => intro w hSw; obtain ⟨hw1, hw2⟩ := hSw; (try dsimp only at hSw); go_simp; try rfl
        case' rf35 => try simp only [List.getElem_toArray, List.getElem_cons_succ, List.getElem_cons_zero, Act.put, List.setIfInBounds_toArray, List.set_cons_zero, List.set_cons_succ]
        refine walk_take 6 (v := ?vf36) rfl (by kernel_rfl) (by kernel_rfl) (by kernel_rfl) (fun _ _ _ h => h) (⟨b2.step bel7, (b7.step bel7).cell' (i := 0) rfl⟩) (Or.inl ⟨by rfl, ?yf36⟩) ?rf36
        case yf36 => intro w hSw; obtain ⟨hw1, hw2⟩ := hSw; (try dsimp only at hSw); go_simp; try rfl
        case' rf36 => try simp only [List.getElem_toArray, List.getElem_cons_succ, List.getElem_cons_zero, Act.put, List.setIfInBounds_toArray, List.set_cons_zero, List.set_cons_succ]
        have bel := bel7
        have b9 := b9b.step hb7
        have hn1 : ∀ k, Touch S7 sl7 k → k ≠ p9 := fun k hk e => by have := (O7s.lt hk).1; have := hb8.size; omega
        have hn2 : ∀ k, Touch A7 al7 k → k ≠ p9 := fun k hk e => by have := (O7a.lt hk).1; have := hb8.size; omega
        have O7s' := O7s.mono (b := W4.heap.size) (by have := bel8.size; omega)
        have O7a' := O7a.mono (b := W4.heap.size) (by have := bel8.size; omega)
        generalize w7 = W5 at *
        try simp only [List.getElem_toArray, List.getElem_cons_succ, List.getElem_cons_zero, Act.put, List.setIfInBounds_toArray, List.set_cons_zero, List.set_cons_succ]
        have hB6 := below_row (hB.trans (bel.mono hB.size)) (g := p9) (by omega) #[.int .i64 H.craft, .int .i64 H.next, .int .i64 H.ahead, .slice S7 m1 c7, .slice A7 m2 d7, .int .i64 H.timer, .int .i64 H.patience, .int .i64 H.tries, .int .i64 H.limit, .int .i64 H.since, .int .i64 H.pause, .int .i64 H.halt]
        have b56 := (b5.step bel).farRow (g := p9) (by omega) #[.int .i64 H.craft, .int .i64 H.next, .int .i64 H.ahead, .slice S7 m1 c7, .slice A7 m2 d7, .int .i64 H.timer, .int .i64 H.patience, .int .i64 H.tries, .int .i64 H.limit, .int .i64 H.since, .int .i64 H.pause, .int .i64 H.halt]
        have b76 := (b7.step bel).farRow (g := p9) (by omega) #[.int .i64 H.craft, .int .i64 H.next, .int .i64 H.ahead, .slice S7 m1 c7, .slice A7 m2 d7, .int .i64 H.timer, .int .i64 H.patience, .int .i64 H.tries, .int .i64 H.limit, .int .i64 H.since, .int .i64 H.pause, .int .i64 H.halt]
        have b26 := (b2.step bel).farRow (g := p9) (by omega) #[.int .i64 H.craft, .int .i64 H.next, .int .i64 H.ahead, .slice S7 m1 c7, .slice A7 m2 d7, .int .i64 H.timer, .int .i64 H.patience, .int .i64 H.tries, .int .i64 H.limit, .int .i64 H.since, .int .i64 H.pause, .int .i64 H.halt]
        have b96 := b9.row #[.int .i64 H.craft, .int .i64 H.next, .int .i64 H.ahead, .slice S7 m1 c7, .slice A7 m2 d7, .int .i64 H.timer, .int .i64 H.patience, .int .i64 H.tries, .int .i64 H.limit, .int .i64 H.since, .int .i64 H.pause, .int .i64 H.halt]
        have O7s6 := O7s'.keep (w' := W5.setRow p9 #[.int .i64 H.craft, .int .i64 H.next, .int .i64 H.ahead, .slice S7 m1 c7, .slice A7 m2 d7, .int .i64 H.timer, .int .i64 H.patience, .int .i64 H.tries, .int .i64 H.limit, .int .i64 H.since, .int .i64 H.pause, .int .i64 H.halt]) fun k hk => setRow_other _ _ k _ (hn1 k hk)
        have O7a6 := O7a'.keep (w' := W5.setRow p9 #[.int .i64 H.craft, .int .i64 H.next, .int .i64 H.ahead, .slice S7 m1 c7, .slice A7 m2 d7, .int .i64 H.timer, .int .i64 H.patience, .int .i64 H.tries, .int .i64 H.limit, .int .i64 H.since, .int .i64 H.pause, .int .i64 H.halt]) fun k hk => setRow_other _ _ k _ (hn2 k hk)
        have O9s6 := (hO9s.step bel).keep (w' := W5.setRow p9 #[.int .i64 H.craft, .int .i64 H.next, .int .i64 H.ahead, .slice S7 m1 c7, .slice A7 m2 d7, .int .i64 H.timer, .int .i64 H.patience, .int .i64 H.tries, .int .i64 H.limit, .int .i64 H.since, .int .i64 H.pause, .int .i64 H.halt]) fun k hk => setRow_other _ _ k _ (by have := (hO9s.lt hk).2; omega)
        have O9a6 := (hO9a.step bel).keep (w' := W5.setRow p9 #[.int .i64 H.craft, .int .i64 H.next, .int .i64 H.ahead, .slice S7 m1 c7, .slice A7 m2 d7, .int .i64 H.timer, .int .i64 H.patience, .int .i64 H.tries, .int .i64 H.limit, .int .i64 H.since, .int .i64 H.pause, .int .i64 H.halt]) fun k hk => setRow_other _ _ k _ (by have := (hO9a.lt hk).2; omega)
        have R6 := (hRo.step bel).over (grown_row W5 p9 #[.int .i64 H.craft, .int .i64 H.next, .int .i64 H.ahead, .slice S7 m1 c7, .slice A7 m2 d7, .int .i64 H.timer, .int .i64 H.patience, .int .i64 H.tries, .int .i64 H.limit, .int .i64 H.since, .int .i64 H.pause, .int .i64 H.halt]) (fun k hk e => by replace hk : p9 = k := Option.some.inj hk; injection e with e; have := hRo.lt; omega)
        have k76 := b76.cell' (i := 0) rfl
        apply walk_store_row 8 _ 25 (.tmp 9) (.tmp 37) p9 #[.int .i64 H.craft, .int .i64 H.next, .int .i64 H.ahead, .slice S7 m1 c7, .slice A7 m2 d7, .int .i64 H.timer, .int .i64 H.patience, .int .i64 H.tries, .int .i64 H.limit, .int .i64 H.since, .int .i64 H.pause, .int .i64 H.halt]
        case hi => rfl
        case hg => rfl
        case ho => rfl
        case hin => kernel_rfl
        case hr => decide +kernel
        case hx => rfl
        case hy => rfl
        case hw => exact b9
        case hf => exact handsz
        case hold => rfl
        case h1 => exact hand_one H S7 m1 c7 A7 m2 d7
        case hS => exact ⟨b26, k76⟩
        case h =>
          try simp only [List.getElem_toArray, List.getElem_cons_succ, List.getElem_cons_zero, Act.put, List.setIfInBounds_toArray, List.set_cons_zero, List.set_cons_succ]
          refine walk_tail (by kernel_rfl) ?_
          simp only [List.drop_succ_cons, List.drop_zero]
          go_wp2_with fail
          generalize W5.setRow p9 #[.int .i64 H.craft, .int .i64 H.next, .int .i64 H.ahead, .slice S7 m1 c7, .slice A7 m2 d7, .int .i64 H.timer, .int .i64 H.patience, .int .i64 H.tries, .int .i64 H.limit, .int .i64 H.since, .int .i64 H.pause, .int .i64 H.halt] = W6 at *
          refine (spoil_any g (some ⟨g, 0, none⟩) nl (nl + 5) l W6 (by rw [← NL.out]; exact R6.own (by unfold maxLen; rw [NL.out]; omega) (Nat.le_refl _)) (by omega) (by have := R6.lt; omega)).mono ?_
          rintro e v7 ⟨rfl, hg7⟩
          have q5 := b56.over hg7 (fun k hk e => by replace hk : g = k := Option.some.inj hk; injection e with e; omega)
          have q9 := b96.over hg7 (fun k hk e => by replace hk : g = k := Option.some.inj hk; injection e with e; have := hRo.lt; omega)
          have P7s := O7s6.over hg7 (fun k hk ht => by replace hk : g = k := Option.some.inj hk; have := (O7s6.lt ht).1; have := hRo.lt; omega)
          have P7a := O7a6.over hg7 (fun k hk ht => by replace hk : g = k := Option.some.inj hk; have := (O7a6.lt ht).1; have := hRo.lt; omega)
          have P9s := O9s6.over hg7 (fun k hk ht => by replace hk : g = k := Option.some.inj hk; exact h9s k ht hk.symm)
          have P9a := O9a6.over hg7 (fun k hk ht => by replace hk : g = k := Option.some.inj hk; exact h9a k ht hk.symm)
          have hB7 := hB6.grown hg7 hB6.size (fun k hk => by replace hk : g = k := Option.some.inj hk; omega)
          trace "F"
          go_wp2_with (first | (refine wpList_load_row rfl 25 (.tmp 9) rfl (p9) rfl 25 #[.int .i64 H.craft, .int .i64 H.next, .int .i64 H.ahead, .slice S7 m1 c7, .slice A7 m2 d7, .int .i64 H.timer, .int .i64 H.patience, .int .i64 H.tries, .int .i64 H.limit, .int .i64 H.since, .int .i64 H.pause, .int .i64 H.halt] (0, 0) _ q9 Try.underlying25 rfl handsz ?_) | (refine wpList_load_row rfl 25 (.tmp 5) rfl (p5) rfl 25 #[.int .i64 H.craft, .int .i64 H.next, .int .i64 H.ahead, .slice S9 m1 c9, .slice A9 m2 d9, .int .i64 H.timer, .int .i64 H.patience, .int .i64 H.tries, .int .i64 H.limit, .int .i64 H.since, .int .i64 H.pause, .int .i64 H.halt] (0, 0) _ q5 Try.underlying25 rfl handsz ?_))
          refine (sameHand_n H S7 m1 c7 A7 m2 d7 S9 c9 A9 d9 v7 M1.out M2.out (by rw [← M7s.out]; exact P7s.rd) (by rw [← M7a.out]; exact P7a.rd) (by rw [← H91.out]; exact P9s.rd) (by rw [← H92.out]; exact P9a.rd) F3.out.1 F4.out.1).mono ?_
          rintro e v8 ⟨rfl, hb8⟩
          go_wp2_with fail
          go_ret
          exact ⟨rfl, hB7.trans (hb8.mono hB7.size)⟩
theorem commandAsks_walk (x : HandA) (X : Option Addr) (l : List UInt8) (xc : Nat) (w : World) (hx : HandArg w x) (hX : Rd w X (bvs l)) (hxc : l.length ≤ xc) (hnm : l.length ≤ 140737488351232) :
    Calls Try.prog 3 #[hav x, .slice X l.length xc] w fun e w' => e = .returned (.bool true) ∧ Below w.heap.size w w' := by
  obtain ⟨hS, hA, f1, f2⟩ := hx
  exact commandAsks_go x.h x.S _ x.c x.A _ x.d X l l.length xc w hS hA rfl rfl f1 f2 hX rfl hxc hnm
end Go.Proofs.Ytppmdamcdhmcpaa
