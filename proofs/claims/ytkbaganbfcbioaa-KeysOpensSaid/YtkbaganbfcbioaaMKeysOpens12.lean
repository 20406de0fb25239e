/-
  ringAs: a call is made twice on a ring; what came first, and what was handed in, is written over. What was seen, when a counter above the top one comes. Plainly. Gates and their statuses, plainly. No program is named here.
-/
import Derived.Test.YtkbaganbfcbioaaMKeysOpens11
import Derived.Test.YtkbaganbfcbioaaMKeysOpens2
import Derived.Test.YtkbaganbfcbioaaMKeysOpens1
namespace Go.Proofs.Ytkbaganbfcbioaa
set_option linter.unusedSimpArgs false
set_option linter.unusedVariables false
open Go.RowKit

set_option maxHeartbeats 12800000 in
set_option maxRecDepth 100000 in
theorem ringAs_KeysOpens (cap : Value) (l m : List KyR) (L M : List Ky) (B C X : Option Addr) (n d k dd nb xc : Nat) (body : List UInt8) (id err : Int) (w : World) (hl : l.map KyR.k = L) (hn : L.length = n) (h : RdRing w B l) (hf : RingFits L) (hnn : n ≤ 2932031007317)
    (hm : m.map KyR.k = M) (hk : M.length = k) (hw : RdRing w C m) (hfM : RingFits M) (hkk : k ≤ 2932031007317) (hL2 : ∀ x ∈ L, x.words.length ≤ 17592186044000) (hM2 : ∀ x ∈ M, x.words.length ≤ 17592186044000)
    (hX : Rd w X (bvs body)) (hbl : body.length = nb) (hnb : nb ≤ 140737488351300) (hXlt : ∀ q, blk X = some q → q < w.heap.size)
    (HC : ∀ (W : World) (B' : Option Addr) (d' : Nat) (l' : List KyR), Below w.heap.size w W → l'.map KyR.k = L → RdRing W B' l' → Calls Try.prog 34 #[.agg #[.slice B' n d'], cap] W fun e w' => AsRes W w' M k body nb id err e) :
    Calls Try.prog 23 #[.func (.func 34) #[] #[cap], .agg #[.slice B n d], .agg #[.slice C k dd], .slice X nb xc, .int .i64 id, .int .i64 err] w fun e w' => e = .returned (.bool true) ∧ Below w.heap.size w w' := by
  have HCc := Lib.hid HC
  have HRd := Lib.hid h
  have HWt := Lib.hid hw
  have HXr := Lib.hid hX
  have HN := Lib.hid hn
  have HK := Lib.hid hk
  have HBL := Lib.hid hbl
  clear HC h hw hX hn hk hbl
  obtain ⟨b7, b8, hB, hz0⟩ := box2 w #[.slice B n d] #[.slice C k dd] 44 44
  have k7 := b7.cell' (i := 0) rfl
  go_enter Try.func23, Try.ntmps23
  go_wp2_with fail
  clear k7
  generalize (w.alloc (.cells #[.slice B n d] 44)).alloc (.cells #[.slice C k dd] 44) = W0 at *
  refine (ringOf_any l L B n d W0 hl HN.out (HRd.out.below hB) hf hnn).mono ?_
  rintro e w1 ⟨Bh, dh, rfl, ⟨lh, hlh, hOh, hDh⟩, hb⟩
  replace b7 := b7.step hb
  replace b8 := b8.step hb
  have zt1 := hb.size
  have h0s : w.heap.size + 2 = W0.heap.size := hz0.symm
  replace hB := hB.trans (hb.mono hB.size)
  have lth : ∀ q, blk Bh = some q → W0.heap.size ≤ q ∧ q < w1.heap.size := hOh.lt
  have ltDh := Lib.hid (fun (i : Nat) (y : KyR) (hy : lh[i]? = some y) (q : Nat) (hq : blk y.A = some q) => hDh.lt hy hq)
  have b13 := Blk.new w1 44 #[.slice Bh n dh]
  replace b7 := b7.alloc (.cells #[.slice Bh n dh] 44)
  replace b8 := b8.alloc (.cells #[.slice Bh n dh] 44)
  replace hOh := hOh.alloc (.cells #[.slice Bh n dh] 44)
  replace hDh := hDh.map (fun _ _ _ _ h => h.alloc (.cells #[.slice Bh n dh] 44))
  replace hB := hB.alloc hB.size (.cells #[.slice Bh n dh] 44)
  have hsb13 : (w1.alloc (.cells #[.slice Bh n dh] 44)).heap.size = w1.heap.size + 1 := by simp
  clear hb
  have e_b7 := b7.cell' (i := 0) rfl
  have e_b8 := b8.cell' (i := 0) rfl
  have e_b13 := b13.cell' (i := 0) rfl
  go_wp2_with fail
  clear e_b7 e_b8 e_b13
  generalize w1.alloc (.cells #[.slice Bh n dh] 44) = W1 at *
  refine (HCc.out W1 Bh dh lh hB hlh (OwnWords.rd hOh hDh)).mono ?_
  rintro e w2 ⟨Ba, da, Xx, cx, rfl, ⟨la, hla, hOa, hDa⟩, hXx, hb⟩
  replace b7 := b7.step hb
  replace b8 := b8.step hb
  replace b13 := b13.step hb
  replace hOh := hOh.step hb
  replace hDh := hDh.step hb
  have zta := hb.size
  replace hB := hB.trans (hb.mono hB.size)
  have lta : ∀ q, blk Ba = some q → W1.heap.size ≤ q ∧ q < w2.heap.size := hOa.lt
  have ltDa := Lib.hid (fun (i : Nat) (y : KyR) (hy : la[i]? = some y) (q : Nat) (hq : blk y.A = some q) => hDa.lt hy hq)
  have ltXx : ∀ q, blk Xx = some q → W1.heap.size ≤ q ∧ q < w2.heap.size := hXx.lt
  have b14 := Blk.new w2 44 #[.slice Ba k da]
  replace b7 := b7.alloc (.cells #[.slice Ba k da] 44)
  replace b8 := b8.alloc (.cells #[.slice Ba k da] 44)
  replace b13 := b13.alloc (.cells #[.slice Ba k da] 44)
  replace hOh := hOh.alloc (.cells #[.slice Ba k da] 44)
  replace hDh := hDh.map (fun _ _ _ _ h => h.alloc (.cells #[.slice Ba k da] 44))
  replace hOa := hOa.alloc (.cells #[.slice Ba k da] 44)
  replace hDa := hDa.map (fun _ _ _ _ h => h.alloc (.cells #[.slice Ba k da] 44))
  replace hXx := hXx.alloc (.cells #[.slice Ba k da] 44)
  replace hB := hB.alloc hB.size (.cells #[.slice Ba k da] 44)
  have hsb14 : (w2.alloc (.cells #[.slice Ba k da] 44)).heap.size = w2.heap.size + 1 := by simp
  clear hb
  have e_b7 := b7.cell' (i := 0) rfl
  have e_b8 := b8.cell' (i := 0) rfl
  have e_b13 := b13.cell' (i := 0) rfl
  have e_b14 := b14.cell' (i := 0) rfl
  go_wp2_with fail
  clear e_b7 e_b8 e_b13 e_b14
  generalize w2.alloc (.cells #[.slice Ba k da] 44) = W2 at *
  refine (HCc.out W2 Bh dh lh hB hlh (OwnWords.rd hOh hDh)).mono ?_
  rintro e w3 ⟨Bb, db, Xy, cy, rfl, ⟨lb, hlb, hOb, hDb⟩, hXy, hb⟩
  replace b7 := b7.step hb
  replace b8 := b8.step hb
  replace b13 := b13.step hb
  replace b14 := b14.step hb
  replace hOh := hOh.step hb
  replace hDh := hDh.step hb
  replace hOa := hOa.step hb
  replace hDa := hDa.step hb
  replace hXx := hXx.step hb
  have ztb := hb.size
  replace hB := hB.trans (hb.mono hB.size)
  have ltb : ∀ q, blk Bb = some q → W2.heap.size ≤ q ∧ q < w3.heap.size := hOb.lt
  have ltDb := Lib.hid (fun (i : Nat) (y : KyR) (hy : lb[i]? = some y) (q : Nat) (hq : blk y.A = some q) => hDb.lt hy hq)
  have ltXy : ∀ q, blk Xy = some q → W2.heap.size ≤ q ∧ q < w3.heap.size := hXy.lt
  have b18 := Blk.new w3 44 #[.slice Bb k db]
  replace b7 := b7.alloc (.cells #[.slice Bb k db] 44)
  replace b8 := b8.alloc (.cells #[.slice Bb k db] 44)
  replace b13 := b13.alloc (.cells #[.slice Bb k db] 44)
  replace b14 := b14.alloc (.cells #[.slice Bb k db] 44)
  replace hOh := hOh.alloc (.cells #[.slice Bb k db] 44)
  replace hDh := hDh.map (fun _ _ _ _ h => h.alloc (.cells #[.slice Bb k db] 44))
  replace hOa := hOa.alloc (.cells #[.slice Bb k db] 44)
  replace hDa := hDa.map (fun _ _ _ _ h => h.alloc (.cells #[.slice Bb k db] 44))
  replace hOb := hOb.alloc (.cells #[.slice Bb k db] 44)
  replace hDb := hDb.map (fun _ _ _ _ h => h.alloc (.cells #[.slice Bb k db] 44))
  replace hXx := hXx.alloc (.cells #[.slice Bb k db] 44)
  replace hXy := hXy.alloc (.cells #[.slice Bb k db] 44)
  replace hB := hB.alloc hB.size (.cells #[.slice Bb k db] 44)
  have hsb18 : (w3.alloc (.cells #[.slice Bb k db] 44)).heap.size = w3.heap.size + 1 := by simp
  clear hb
  have e_b7 := b7.cell' (i := 0) rfl
  have e_b8 := b8.cell' (i := 0) rfl
  have e_b13 := b13.cell' (i := 0) rfl
  have e_b14 := b14.cell' (i := 0) rfl
  have e_b18 := b18.cell' (i := 0) rfl
  go_wp2_with fail
  clear e_b7 e_b8 e_b13 e_b14 e_b18
  generalize w3.alloc (.cells #[.slice Bb k db] 44) = W3 at *
  refine (sameRing_yes la m M Ba C k da dd W3 hla hm HK.out (OwnWords.rd hOa hDa) (HWt.out.below hB) hfM hkk).mono ?_
  rintro e w4 ⟨rfl, hb⟩
  replace b7 := b7.step hb
  replace b8 := b8.step hb
  replace b13 := b13.step hb
  replace b14 := b14.step hb
  replace b18 := b18.step hb
  replace hOh := hOh.step hb
  replace hDh := hDh.step hb
  replace hOa := hOa.step hb
  replace hDa := hDa.step hb
  replace hOb := hOb.step hb
  replace hDb := hDb.step hb
  replace hXx := hXx.step hb
  replace hXy := hXy.step hb
  have zc4 := hb.size
  replace hB := hB.trans (hb.mono hB.size)
  clear hb
  have e_b7 := b7.cell' (i := 0) rfl
  have e_b8 := b8.cell' (i := 0) rfl
  have e_b13 := b13.cell' (i := 0) rfl
  have e_b14 := b14.cell' (i := 0) rfl
  have e_b18 := b18.cell' (i := 0) rfl
  go_wp2_with fail
  clear e_b7 e_b8 e_b13 e_b14 e_b18
  refine (sameRing_yes lb m M Bb C k db dd w4 hlb hm HK.out (OwnWords.rd hOb hDb) (HWt.out.below hB) hfM hkk).mono ?_
  rintro e w5 ⟨rfl, hb⟩
  replace b7 := b7.step hb
  replace b8 := b8.step hb
  replace b13 := b13.step hb
  replace b14 := b14.step hb
  replace b18 := b18.step hb
  replace hOh := hOh.step hb
  replace hDh := hDh.step hb
  replace hOa := hOa.step hb
  replace hDa := hDa.step hb
  replace hOb := hOb.step hb
  replace hDb := hDb.step hb
  replace hXx := hXx.step hb
  replace hXy := hXy.step hb
  have zc5 := hb.size
  replace hB := hB.trans (hb.mono hB.size)
  clear hb
  have e_b7 := b7.cell' (i := 0) rfl
  have e_b8 := b8.cell' (i := 0) rfl
  have e_b13 := b13.cell' (i := 0) rfl
  have e_b14 := b14.cell' (i := 0) rfl
  have e_b18 := b18.cell' (i := 0) rfl
  go_wp2_with fail
  clear e_b7 e_b8 e_b13 e_b14 e_b18
  refine (sameRing_yes lh l L Bh B n dh d w5 hlh hl HN.out (OwnWords.rd hOh hDh) (HRd.out.below hB) hf hnn).mono ?_
  rintro e w6 ⟨rfl, hb⟩
  replace b7 := b7.step hb
  replace b8 := b8.step hb
  replace b13 := b13.step hb
  replace b14 := b14.step hb
  replace b18 := b18.step hb
  replace hOh := hOh.step hb
  replace hDh := hDh.step hb
  replace hOa := hOa.step hb
  replace hDa := hDa.step hb
  replace hOb := hOb.step hb
  replace hDb := hDb.step hb
  replace hXx := hXx.step hb
  replace hXy := hXy.step hb
  have zc6 := hb.size
  replace hB := hB.trans (hb.mono hB.size)
  clear hb
  have e_b7 := b7.cell' (i := 0) rfl
  have e_b8 := b8.cell' (i := 0) rfl
  have e_b13 := b13.cell' (i := 0) rfl
  have e_b14 := b14.cell' (i := 0) rfl
  have e_b18 := b18.cell' (i := 0) rfl
  go_wp2_with fail
  clear e_b7 e_b8 e_b13 e_b14 e_b18
  rw [← HBL.out] at hXx hXy ⊢
  refine (twice_yes W1.heap.size Xx Xy X body cx cy xc w6 hXx hXy.rd (HXr.out.below hB) (fun q hq e => by have := ltXx q hq; have := ltXy q e; omega) (fun q hq e => ?xfar) (by rw [HBL.out]; exact hnb) (by omega)).mono ?_
  case xfar => (have h1 := ltXx q hq; have h2 := hXlt q e; omega)
  rintro e w7 ⟨rfl, hg⟩
  replace b7 := b7.over hg (fun q hq e => by have h1 := ltXx q hq; injection e with e; omega)
  replace b8 := b8.over hg (fun q hq e => by have h1 := ltXx q hq; injection e with e; omega)
  replace b13 := b13.over hg (fun q hq e => by have h1 := ltXx q hq; injection e with e; omega)
  replace b14 := b14.over hg (fun q hq e => by have h1 := ltXx q hq; injection e with e; omega)
  replace b18 := b18.over hg (fun q hq e => by have h1 := ltXx q hq; injection e with e; omega)
  replace hDh := hDh.map (fun _ _ _ _ h => h.over hg (hXx.apart h (by decide)))
  replace hOh := hOh.over hg (hXx.apart hOh (by decide))
  replace hDa := hDa.map (fun _ _ _ _ h => h.over hg (hXx.apart h (by decide)))
  replace hOa := hOa.over hg (hXx.apart hOa (by decide))
  replace hDb := hDb.map (fun _ _ _ _ h => h.over hg (hXx.apart h (by decide)))
  replace hOb := hOb.over hg (hXx.apart hOb (by decide))
  have zc7 := hg.size
  replace hB := hB.grown hg hB.size (fun q hq => by have h1 := ltXx q hq; omega)
  clear hg hXx hXy
  have e_b7 := b7.cell' (i := 0) rfl
  have e_b8 := b8.cell' (i := 0) rfl
  have e_b13 := b13.cell' (i := 0) rfl
  have e_b14 := b14.cell' (i := 0) rfl
  have e_b18 := b18.cell' (i := 0) rfl
  go_wp2_with fail
  clear e_b7 e_b8 e_b13 e_b14 e_b18
  refine (ringOf_any m M C k dd w7 hm HK.out (HWt.out.below hB) hfM hkk).mono ?_
  rintro e w8 ⟨Bk, dk, rfl, ⟨lk, hlk, hOk, hDk⟩, hb⟩
  replace b7 := b7.step hb
  replace b8 := b8.step hb
  replace b13 := b13.step hb
  replace b14 := b14.step hb
  replace b18 := b18.step hb
  replace hOh := hOh.step hb
  replace hDh := hDh.step hb
  replace hOa := hOa.step hb
  replace hDa := hDa.step hb
  replace hOb := hOb.step hb
  replace hDb := hDb.step hb
  have zc8 := hb.size
  replace hB := hB.trans (hb.mono hB.size)
  have ltk : ∀ q, blk Bk = some q → w7.heap.size ≤ q ∧ q < w8.heap.size := hOk.lt
  have ltDk := Lib.hid (fun (i : Nat) (y : KyR) (hy : lk[i]? = some y) (q : Nat) (hq : blk y.A = some q) => hDk.lt hy hq)
  have b22 := Blk.new w8 44 #[.slice Bk k dk]
  replace b7 := b7.alloc (.cells #[.slice Bk k dk] 44)
  replace b8 := b8.alloc (.cells #[.slice Bk k dk] 44)
  replace b13 := b13.alloc (.cells #[.slice Bk k dk] 44)
  replace b14 := b14.alloc (.cells #[.slice Bk k dk] 44)
  replace b18 := b18.alloc (.cells #[.slice Bk k dk] 44)
  replace hOh := hOh.alloc (.cells #[.slice Bk k dk] 44)
  replace hDh := hDh.map (fun _ _ _ _ h => h.alloc (.cells #[.slice Bk k dk] 44))
  replace hOa := hOa.alloc (.cells #[.slice Bk k dk] 44)
  replace hDa := hDa.map (fun _ _ _ _ h => h.alloc (.cells #[.slice Bk k dk] 44))
  replace hOb := hOb.alloc (.cells #[.slice Bk k dk] 44)
  replace hDb := hDb.map (fun _ _ _ _ h => h.alloc (.cells #[.slice Bk k dk] 44))
  replace hOk := hOk.alloc (.cells #[.slice Bk k dk] 44)
  replace hDk := hDk.map (fun _ _ _ _ h => h.alloc (.cells #[.slice Bk k dk] 44))
  replace hB := hB.alloc hB.size (.cells #[.slice Bk k dk] 44)
  have hsb22 : (w8.alloc (.cells #[.slice Bk k dk] 44)).heap.size = w8.heap.size + 1 := by simp
  clear hb
  have e_b7 := b7.cell' (i := 0) rfl
  have e_b8 := b8.cell' (i := 0) rfl
  have e_b13 := b13.cell' (i := 0) rfl
  have e_b14 := b14.cell' (i := 0) rfl
  have e_b18 := b18.cell' (i := 0) rfl
  have e_b22 := b22.cell' (i := 0) rfl
  go_wp2_with fail
  clear e_b7 e_b8 e_b13 e_b14 e_b18 e_b22
  generalize w8.alloc (.cells #[.slice Bk k dk] 44) = W8 at *
  refine (overRing_any la M Ba k da W1.heap.size w2.heap.size W8 hla HK.out hOa hDa (by omega) (by omega) (fun q hq => (lta q hq).2) (fun i y hy q hq => (ltDa.out i y hy q hq).2) hM2 hkk).mono ?_
  rintro e w9 ⟨rfl, hT⟩
  replace b7 := hT.box b7 (by omega)
  replace b8 := hT.box b8 (by omega)
  replace b13 := hT.box b13 (by omega)
  replace b14 := hT.box b14 (by omega)
  replace b18 := hT.box b18 (by omega)
  replace b22 := hT.box b22 (by omega)
  replace hOh := hT.keepLow hOh (fun q hq => by have h1 := lth q hq; omega)
  replace hDh := hT.words hDh (fun i y hy q hq => by have h1 := ltDh.out i y hy q hq; omega)
  replace hOb := hT.keepLow hOb (fun q hq => by have h1 := ltb q hq; omega)
  replace hDb := hT.words hDb (fun i y hy q hq => by have h1 := ltDb.out i y hy q hq; omega)
  replace hOk := hT.keepLow hOk (fun q hq => by have h1 := ltk q hq; omega)
  replace hDk := hT.words hDk (fun i y hy q hq => by have h1 := ltDk.out i y hy q hq; omega)
  have zw9 := hT.1.size
  replace hB := hB.trans (hT.1.mono (by omega))
  clear hT hOa hDa
  have e_b7 := b7.cell' (i := 0) rfl
  have e_b8 := b8.cell' (i := 0) rfl
  have e_b13 := b13.cell' (i := 0) rfl
  have e_b14 := b14.cell' (i := 0) rfl
  have e_b18 := b18.cell' (i := 0) rfl
  have e_b22 := b22.cell' (i := 0) rfl
  go_wp2_with fail
  clear e_b7 e_b8 e_b13 e_b14 e_b18 e_b22
  refine (overRing_any lh L Bh n dh W0.heap.size w1.heap.size w9 hlh HN.out hOh hDh (by omega) (by omega) (fun q hq => (lth q hq).2) (fun i y hy q hq => (ltDh.out i y hy q hq).2) hL2 hnn).mono ?_
  rintro e w10 ⟨rfl, hT⟩
  replace b7 := hT.box b7 (by omega)
  replace b8 := hT.box b8 (by omega)
  replace b13 := hT.box b13 (by omega)
  replace b14 := hT.box b14 (by omega)
  replace b18 := hT.box b18 (by omega)
  replace b22 := hT.box b22 (by omega)
  replace hOb := hT.keepLow hOb (fun q hq => by have h1 := ltb q hq; omega)
  replace hDb := hT.words hDb (fun i y hy q hq => by have h1 := ltDb.out i y hy q hq; omega)
  replace hOk := hT.keepLow hOk (fun q hq => by have h1 := ltk q hq; omega)
  replace hDk := hT.words hDk (fun i y hy q hq => by have h1 := ltDk.out i y hy q hq; omega)
  have zw10 := hT.1.size
  replace hB := hB.trans (hT.1.mono (by omega))
  clear hT hOh hDh
  have e_b7 := b7.cell' (i := 0) rfl
  have e_b8 := b8.cell' (i := 0) rfl
  have e_b13 := b13.cell' (i := 0) rfl
  have e_b14 := b14.cell' (i := 0) rfl
  have e_b18 := b18.cell' (i := 0) rfl
  have e_b22 := b22.cell' (i := 0) rfl
  go_wp2_with fail
  clear e_b7 e_b8 e_b13 e_b14 e_b18 e_b22
  refine (sameRing_yes lb lk M Bb Bk k db dk w10 hlb hlk HK.out (OwnWords.rd hOb hDb) (OwnWords.rd hOk hDk) hfM hkk).mono ?_
  rintro e w11 ⟨rfl, hb⟩
  go_wp2_with fail
  go_ret
  exact ⟨rfl, hB.trans (hb.mono hB.size)⟩
end Go.Proofs.Ytkbaganbfcbioaa
namespace Go.Proofs.Ytkbaganbfcbioaa
set_option linter.unusedSimpArgs false
set_option linter.unusedVariables false

def upSeen (s up : Nat) : Nat := (2 ^ up * s + 2 ^ (up - 1)) % 2 ^ 62
theorem upSeen_lt (s up : Nat) : upSeen s up < 4611686018427387904 := Nat.mod_lt _ (by decide)
theorem up_bit {s up m : Nat} (hu : 1 ≤ up) (hm : m < 62) : upSeen s up / 2 ^ m % 2 = 1 ↔ m + 1 = up ∨ (up ≤ m ∧ s / 2 ^ (m - up) % 2 = 1) := by
  have hlt : 2 ^ (up - 1) < 2 ^ up := Nat.pow_lt_pow_right (by decide) (by omega)
  have h1 : (upSeen s up).testBit m = true ↔ upSeen s up / 2 ^ m % 2 = 1 := by rw [Nat.testBit_eq_decide_div_mod_eq]; simp
  have h2 : s.testBit (m - up) = true ↔ s / 2 ^ (m - up) % 2 = 1 := by rw [Nat.testBit_eq_decide_div_mod_eq]; simp
  rw [← h1, ← h2]
  unfold upSeen
  rw [Nat.testBit_mod_two_pow, Nat.testBit_two_pow_mul_add _ hlt]
  by_cases h : m < up
  · rw [if_pos h, Nat.testBit_two_pow]
    simp [hm]
    omega
  · rw [if_neg h]
    simp [hm, show ¬ m + 1 = up by omega, show up ≤ m by omega]
theorem up_big {s up : Nat} (hu : 62 < up) : upSeen s up = 0 := by
  unfold upSeen
  obtain ⟨j, rfl⟩ : ∃ j, up = 62 + (j + 1) := ⟨up - 63, by omega⟩
  rw [show 62 + (j + 1) - 1 = 62 + j by omega, Nat.pow_add 2 62 (j + 1), Nat.pow_add 2 62 j, Nat.mul_assoc, ← Nat.mul_add, Nat.mul_mod_right]
theorem acc_zero (N : Nat) : N % 2 ^ 0 = 0 := by simp [Nat.mod_one]
theorem acc_end {N : Nat} (h : N < 4611686018427387904) : N % 2 ^ 62 = N := Nat.mod_eq_of_lt h
theorem acc_no {N m : Nat} (h : ¬ N / 2 ^ m % 2 = 1) : N % 2 ^ (m + 1) = N % 2 ^ m := by
  rw [Nat.mod_pow_succ, show N / 2 ^ m % 2 = 0 by omega, Nat.mul_zero, Nat.add_zero]
theorem acc_yes {N m : Nat} (h : N / 2 ^ m % 2 = 1) : N % 2 ^ (m + 1) = N % 2 ^ m ||| 2 ^ m := by
  rw [Nat.mod_pow_succ, h, Nat.mul_one, Nat.or_comm]
  have := Nat.two_pow_add_eq_or_of_lt (Nat.mod_lt N (Nat.two_pow_pos m)) 1
  rw [Nat.mul_one] at this
  rw [← this, Nat.add_comm]
end Go.Proofs.Ytkbaganbfcbioaa
namespace Go.Proofs.Ytkbaganbfcbioaa
set_option linter.unusedSimpArgs false
set_option linter.unusedVariables false
open Go.RowKit

structure Gt where
  craft : Int
  next : Int
  half : Int
  shut : Bool
  wait : Bool
  again : Bool
  count : Int
def Gt.zero : Gt := ⟨0, 0, 0, false, false, false, 0⟩
def gtv (g : Gt) : Value := .agg #[.int .i64 g.craft, .int .i64 g.next, .int .i64 g.half, .bool g.shut, .bool g.wait, .bool g.again, .int .i64 g.count]
def guardOk (craft half : Int) : Prop := (0 ≤ craft ∧ craft ≤ 1023) ∧ (1 ≤ half ∧ half ≤ 127)
def gateOk (g : Gt) : Prop := guardOk g.craft g.half ∧ (0 ≤ g.next ∧ g.next ≤ 255) ∧ (0 ≤ g.count ∧ g.count ≤ 3)
instance (a b : Int) : Decidable (guardOk a b) := by unfold guardOk; infer_instance
instance (g : Gt) : Decidable (gateOk g) := by unfold gateOk; infer_instance
def guarded (craft half : Int) : Gt × Int := if guardOk craft half then (⟨craft, 0, half, false, false, false, 0⟩, 0) else (.zero, 2)
def flag (b : Bool) (n : Nat) : Nat := if b then n else 0
def statusOf (g : Gt) : Nat := 16777216 + flag g.shut 8192 + flag g.wait 4096 + flag g.again 2048 + g.count.toNat * 512 + g.next.toNat
def reported (g : Gt) : Int × Int := if gateOk g then ((statusOf g : Nat), 0) else (0, 11)
/-- What a status says. -/
def gateIn (n : Nat) : Gt := ⟨0, (n % 256 : Nat), 0, decide (n / 8192 % 2 = 1), decide (n / 4096 % 2 = 1), decide (n / 2048 % 2 = 1), (n / 512 % 4 : Nat)⟩
def statusForm (n : Nat) : Prop := n / 16384 = 1024 ∧ n / 256 % 2 = 0
instance (n : Nat) : Decidable (statusForm n) := by unfold statusForm; infer_instance
def readOf (n : Int) : Gt × Int := if 0 ≤ n ∧ n ≤ 4294967295 then (if statusForm n.toNat then (gateIn n.toNat, 0) else (.zero, 8)) else (.zero, 2)

theorem or_at (m : Nat) {x y : Nat} (hx : x % 2 ^ m = 0) (hy : y < 2 ^ m) (h : x + y < 9223372036854775808) : bits .or .i64 (x : Int) (y : Int) = ((x + y : Nat) : Int) := by
  have e := i64_or_nat x y (by omega) (by omega)
  rwa [nat_join m x y hx hy] at e
theorem and_mask (m : Nat) {x : Nat} (h : x < 9223372036854775808) (hm : 2 ^ m ≤ 4611686018427387904) : bits .and .i64 (x : Int) ((2 ^ m - 1 : Nat) : Int) = ((x % 2 ^ m : Nat) : Int) := by
  rw [i64_and_nat x (2 ^ m - 1) h (by omega), Nat.and_two_pow_sub_one_eq_mod]
theorem and_one {x : Nat} (h : x < 9223372036854775808) : bits .and .i64 (x : Int) 1 = ((x % 2 : Nat) : Int) := and_mask 1 h (by decide)
theorem and_two {x : Nat} (h : x < 9223372036854775808) : bits .and .i64 (x : Int) 3 = ((x % 4 : Nat) : Int) := and_mask 2 h (by decide)
theorem and_eight {x : Nat} (h : x < 9223372036854775808) : bits .and .i64 (x : Int) 255 = ((x % 256 : Nat) : Int) := and_mask 8 h (by decide)
/-- One bit alone. -/
theorem and_bit (i : Nat) {x : Nat} (h : x < 9223372036854775808) (hm : 2 ^ i ≤ 4611686018427387904) : bits .and .i64 (x : Int) ((2 ^ i : Nat) : Int) = ((x / 2 ^ i % 2 * 2 ^ i : Nat) : Int) := by
  rw [i64_and_nat x (2 ^ i) h (by omega), nat_bit]
end Go.Proofs.Ytkbaganbfcbioaa
