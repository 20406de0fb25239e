/-
  ringAs: a call is made twice on a ring; what came first, and what was handed in, is written over.
-/
import Derived.Test.YtkbaganbfcbioaaAsRes
namespace Go.Proofs.Ytkbaganbfcbioaa
set_option linter.unusedSimpArgs false
set_option linter.unusedVariables false
open Go.RowKit

set_option maxHeartbeats 12800000 in
set_option maxRecDepth 100000 in
theorem ringAs_KeysAdds (cap : Value) (l m : List KyR) (L M : List Ky) (B C X : Option Addr) (n d k dd nb xc : Nat) (body : List UInt8) (id err : Int) (w : World) (hl : l.map KyR.k = L) (hn : L.length = n) (h : RdRing w B l) (hf : RingFits L) (hnn : n ≤ 2932031007317)
    (hm : m.map KyR.k = M) (hk : M.length = k) (hw : RdRing w C m) (hfM : RingFits M) (hkk : k ≤ 2932031007317) (hL2 : ∀ x ∈ L, x.words.length ≤ 17592186044000) (hM2 : ∀ x ∈ M, x.words.length ≤ 17592186044000)
    (hX : Rd w X (bvs body)) (hbl : body.length = nb) (hnb : nb ≤ 140737488351300) (hXlt : ∀ q, blk X = some q → q < w.heap.size)
    (HC : ∀ (W : World) (B' : Option Addr) (d' : Nat) (l' : List KyR), Below w.heap.size w W → l'.map KyR.k = L → RdRing W B' l' → Calls Try.prog 21 #[.agg #[.slice B' n d'], cap] W fun e w' => AsRes W w' M k body nb id err e) :
    Calls Try.prog 23 #[.func (.func 21) #[] #[cap], .agg #[.slice B n d], .agg #[.slice C k dd], .slice X nb xc, .int .i64 id, .int .i64 err] w fun e w' => e = .returned (.bool true) ∧ Below w.heap.size w w' := by
  have HCc := Lib.hid HC
  have HRd := Lib.hid h
  have HWt := Lib.hid hw
  have HXr := Lib.hid hX
  have HN := Lib.hid hn
  have HK := Lib.hid hk
  have HBL := Lib.hid hbl
  clear HC h hw hX hn hk hbl
  obtain ⟨b7, b8, hB, hz0⟩ := box2 w #[.slice B n d] #[.slice C k dd] 44 44
  have k7 := b7.cell' (i := 0) rfl
  go_enter Try.func23, Try.ntmps23
  go_wp2_with fail
  clear k7
  generalize (w.alloc (.cells #[.slice B n d] 44)).alloc (.cells #[.slice C k dd] 44) = W0 at *
  refine (ringOf_any l L B n d W0 hl HN.out (HRd.out.below hB) hf hnn).mono ?_
  rintro e w1 ⟨Bh, dh, rfl, ⟨lh, hlh, hOh, hDh⟩, hb⟩
  replace b7 := b7.step hb
  replace b8 := b8.step hb
  have zt1 := hb.size
  have h0s : w.heap.size + 2 = W0.heap.size := hz0.symm
  replace hB := hB.trans (hb.mono hB.size)
  have lth : ∀ q, blk Bh = some q → W0.heap.size ≤ q ∧ q < w1.heap.size := hOh.lt
  have ltDh := Lib.hid (fun (i : Nat) (y : KyR) (hy : lh[i]? = some y) (q : Nat) (hq : blk y.A = some q) => hDh.lt hy hq)
  have b13 := Blk.new w1 44 #[.slice Bh n dh]
  replace b7 := b7.alloc (.cells #[.slice Bh n dh] 44)
  replace b8 := b8.alloc (.cells #[.slice Bh n dh] 44)
  replace hOh := hOh.alloc (.cells #[.slice Bh n dh] 44)
  replace hDh := hDh.map (fun _ _ _ _ h => h.alloc (.cells #[.slice Bh n dh] 44))
  replace hB := hB.alloc hB.size (.cells #[.slice Bh n dh] 44)
  have hsb13 : (w1.alloc (.cells #[.slice Bh n dh] 44)).heap.size = w1.heap.size + 1 := by simp
  clear hb
  have e_b7 := b7.cell' (i := 0) rfl
  have e_b8 := b8.cell' (i := 0) rfl
  have e_b13 := b13.cell' (i := 0) rfl
  go_wp2_with fail
  clear e_b7 e_b8 e_b13
  generalize w1.alloc (.cells #[.slice Bh n dh] 44) = W1 at *
  refine (HCc.out W1 Bh dh lh hB hlh (OwnWords.rd hOh hDh)).mono ?_
  rintro e w2 ⟨Ba, da, Xx, cx, rfl, ⟨la, hla, hOa, hDa⟩, hXx, hb⟩
  replace b7 := b7.step hb
  replace b8 := b8.step hb
  replace b13 := b13.step hb
  replace hOh := hOh.step hb
  replace hDh := hDh.step hb
  have zta := hb.size
  replace hB := hB.trans (hb.mono hB.size)
  have lta : ∀ q, blk Ba = some q → W1.heap.size ≤ q ∧ q < w2.heap.size := hOa.lt
  have ltDa := Lib.hid (fun (i : Nat) (y : KyR) (hy : la[i]? = some y) (q : Nat) (hq : blk y.A = some q) => hDa.lt hy hq)
  have ltXx : ∀ q, blk Xx = some q → W1.heap.size ≤ q ∧ q < w2.heap.size := hXx.lt
  have b14 := Blk.new w2 44 #[.slice Ba k da]
  replace b7 := b7.alloc (.cells #[.slice Ba k da] 44)
  replace b8 := b8.alloc (.cells #[.slice Ba k da] 44)
  replace b13 := b13.alloc (.cells #[.slice Ba k da] 44)
  replace hOh := hOh.alloc (.cells #[.slice Ba k da] 44)
  replace hDh := hDh.map (fun _ _ _ _ h => h.alloc (.cells #[.slice Ba k da] 44))
  replace hOa := hOa.alloc (.cells #[.slice Ba k da] 44)
  replace hDa := hDa.map (fun _ _ _ _ h => h.alloc (.cells #[.slice Ba k da] 44))
  replace hXx := hXx.alloc (.cells #[.slice Ba k da] 44)
  replace hB := hB.alloc hB.size (.cells #[.slice Ba k da] 44)
  have hsb14 : (w2.alloc (.cells #[.slice Ba k da] 44)).heap.size = w2.heap.size + 1 := by simp
  clear hb
  have e_b7 := b7.cell' (i := 0) rfl
  have e_b8 := b8.cell' (i := 0) rfl
  have e_b13 := b13.cell' (i := 0) rfl
  have e_b14 := b14.cell' (i := 0) rfl
  go_wp2_with fail
  clear e_b7 e_b8 e_b13 e_b14
  generalize w2.alloc (.cells #[.slice Ba k da] 44) = W2 at *
  refine (HCc.out W2 Bh dh lh hB hlh (OwnWords.rd hOh hDh)).mono ?_
  rintro e w3 ⟨Bb, db, Xy, cy, rfl, ⟨lb, hlb, hOb, hDb⟩, hXy, hb⟩
  replace b7 := b7.step hb
  replace b8 := b8.step hb
  replace b13 := b13.step hb
  replace b14 := b14.step hb
  replace hOh := hOh.step hb
  replace hDh := hDh.step hb
  replace hOa := hOa.step hb
  replace hDa := hDa.step hb
  replace hXx := hXx.step hb
  have ztb := hb.size
  replace hB := hB.trans (hb.mono hB.size)
  have ltb : ∀ q, blk Bb = some q → W2.heap.size ≤ q ∧ q < w3.heap.size := hOb.lt
  have ltDb := Lib.hid (fun (i : Nat) (y : KyR) (hy : lb[i]? = some y) (q : Nat) (hq : blk y.A = some q) => hDb.lt hy hq)
  have ltXy : ∀ q, blk Xy = some q → W2.heap.size ≤ q ∧ q < w3.heap.size := hXy.lt
  have b18 := Blk.new w3 44 #[.slice Bb k db]
  replace b7 := b7.alloc (.cells #[.slice Bb k db] 44)
  replace b8 := b8.alloc (.cells #[.slice Bb k db] 44)
  replace b13 := b13.alloc (.cells #[.slice Bb k db] 44)
  replace b14 := b14.alloc (.cells #[.slice Bb k db] 44)
  replace hOh := hOh.alloc (.cells #[.slice Bb k db] 44)
  replace hDh := hDh.map (fun _ _ _ _ h => h.alloc (.cells #[.slice Bb k db] 44))
  replace hOa := hOa.alloc (.cells #[.slice Bb k db] 44)
  replace hDa := hDa.map (fun _ _ _ _ h => h.alloc (.cells #[.slice Bb k db] 44))
  replace hOb := hOb.alloc (.cells #[.slice Bb k db] 44)
  replace hDb := hDb.map (fun _ _ _ _ h => h.alloc (.cells #[.slice Bb k db] 44))
  replace hXx := hXx.alloc (.cells #[.slice Bb k db] 44)
  replace hXy := hXy.alloc (.cells #[.slice Bb k db] 44)
  replace hB := hB.alloc hB.size (.cells #[.slice Bb k db] 44)
  have hsb18 : (w3.alloc (.cells #[.slice Bb k db] 44)).heap.size = w3.heap.size + 1 := by simp
  clear hb
  have e_b7 := b7.cell' (i := 0) rfl
  have e_b8 := b8.cell' (i := 0) rfl
  have e_b13 := b13.cell' (i := 0) rfl
  have e_b14 := b14.cell' (i := 0) rfl
  have e_b18 := b18.cell' (i := 0) rfl
  go_wp2_with fail
  clear e_b7 e_b8 e_b13 e_b14 e_b18
  generalize w3.alloc (.cells #[.slice Bb k db] 44) = W3 at *
  refine (sameRing_yes la m M Ba C k da dd W3 hla hm HK.out (OwnWords.rd hOa hDa) (HWt.out.below hB) hfM hkk).mono ?_
  rintro e w4 ⟨rfl, hb⟩
  replace b7 := b7.step hb
  replace b8 := b8.step hb
  replace b13 := b13.step hb
  replace b14 := b14.step hb
  replace b18 := b18.step hb
  replace hOh := hOh.step hb
  replace hDh := hDh.step hb
  replace hOa := hOa.step hb
  replace hDa := hDa.step hb
  replace hOb := hOb.step hb
  replace hDb := hDb.step hb
  replace hXx := hXx.step hb
  replace hXy := hXy.step hb
  have zc4 := hb.size
  replace hB := hB.trans (hb.mono hB.size)
  clear hb
  have e_b7 := b7.cell' (i := 0) rfl
  have e_b8 := b8.cell' (i := 0) rfl
  have e_b13 := b13.cell' (i := 0) rfl
  have e_b14 := b14.cell' (i := 0) rfl
  have e_b18 := b18.cell' (i := 0) rfl
  go_wp2_with fail
  clear e_b7 e_b8 e_b13 e_b14 e_b18
  refine (sameRing_yes lb m M Bb C k db dd w4 hlb hm HK.out (OwnWords.rd hOb hDb) (HWt.out.below hB) hfM hkk).mono ?_
  rintro e w5 ⟨rfl, hb⟩
  replace b7 := b7.step hb
  replace b8 := b8.step hb
  replace b13 := b13.step hb
  replace b14 := b14.step hb
  replace b18 := b18.step hb
  replace hOh := hOh.step hb
  replace hDh := hDh.step hb
  replace hOa := hOa.step hb
  replace hDa := hDa.step hb
  replace hOb := hOb.step hb
  replace hDb := hDb.step hb
  replace hXx := hXx.step hb
  replace hXy := hXy.step hb
  have zc5 := hb.size
  replace hB := hB.trans (hb.mono hB.size)
  clear hb
  have e_b7 := b7.cell' (i := 0) rfl
  have e_b8 := b8.cell' (i := 0) rfl
  have e_b13 := b13.cell' (i := 0) rfl
  have e_b14 := b14.cell' (i := 0) rfl
  have e_b18 := b18.cell' (i := 0) rfl
  go_wp2_with fail
  clear e_b7 e_b8 e_b13 e_b14 e_b18
  refine (sameRing_yes lh l L Bh B n dh d w5 hlh hl HN.out (OwnWords.rd hOh hDh) (HRd.out.below hB) hf hnn).mono ?_
  rintro e w6 ⟨rfl, hb⟩
  replace b7 := b7.step hb
  replace b8 := b8.step hb
  replace b13 := b13.step hb
  replace b14 := b14.step hb
  replace b18 := b18.step hb
  replace hOh := hOh.step hb
  replace hDh := hDh.step hb
  replace hOa := hOa.step hb
  replace hDa := hDa.step hb
  replace hOb := hOb.step hb
  replace hDb := hDb.step hb
  replace hXx := hXx.step hb
  replace hXy := hXy.step hb
  have zc6 := hb.size
  replace hB := hB.trans (hb.mono hB.size)
  clear hb
  have e_b7 := b7.cell' (i := 0) rfl
  have e_b8 := b8.cell' (i := 0) rfl
  have e_b13 := b13.cell' (i := 0) rfl
  have e_b14 := b14.cell' (i := 0) rfl
  have e_b18 := b18.cell' (i := 0) rfl
  go_wp2_with fail
  clear e_b7 e_b8 e_b13 e_b14 e_b18
  rw [← HBL.out] at hXx hXy ⊢
  refine (twice_yes W1.heap.size Xx Xy X body cx cy xc w6 hXx hXy.rd (HXr.out.below hB) (fun q hq e => by have := ltXx q hq; have := ltXy q e; omega) (fun q hq e => ?xfar) (by rw [HBL.out]; exact hnb) (by omega)).mono ?_
  case xfar => (have h1 := ltXx q hq; have h2 := hXlt q e; omega)
  rintro e w7 ⟨rfl, hg⟩
  replace b7 := b7.over hg (fun q hq e => by have h1 := ltXx q hq; injection e with e; omega)
  replace b8 := b8.over hg (fun q hq e => by have h1 := ltXx q hq; injection e with e; omega)
  replace b13 := b13.over hg (fun q hq e => by have h1 := ltXx q hq; injection e with e; omega)
  replace b14 := b14.over hg (fun q hq e => by have h1 := ltXx q hq; injection e with e; omega)
  replace b18 := b18.over hg (fun q hq e => by have h1 := ltXx q hq; injection e with e; omega)
  replace hDh := hDh.map (fun _ _ _ _ h => h.over hg (hXx.apart h (by decide)))
  replace hOh := hOh.over hg (hXx.apart hOh (by decide))
  replace hDa := hDa.map (fun _ _ _ _ h => h.over hg (hXx.apart h (by decide)))
  replace hOa := hOa.over hg (hXx.apart hOa (by decide))
  replace hDb := hDb.map (fun _ _ _ _ h => h.over hg (hXx.apart h (by decide)))
  replace hOb := hOb.over hg (hXx.apart hOb (by decide))
  have zc7 := hg.size
  replace hB := hB.grown hg hB.size (fun q hq => by have h1 := ltXx q hq; omega)
  clear hg hXx hXy
  have e_b7 := b7.cell' (i := 0) rfl
  have e_b8 := b8.cell' (i := 0) rfl
  have e_b13 := b13.cell' (i := 0) rfl
  have e_b14 := b14.cell' (i := 0) rfl
  have e_b18 := b18.cell' (i := 0) rfl
  go_wp2_with fail
  clear e_b7 e_b8 e_b13 e_b14 e_b18
  refine (ringOf_any m M C k dd w7 hm HK.out (HWt.out.below hB) hfM hkk).mono ?_
  rintro e w8 ⟨Bk, dk, rfl, ⟨lk, hlk, hOk, hDk⟩, hb⟩
  replace b7 := b7.step hb
  replace b8 := b8.step hb
  replace b13 := b13.step hb
  replace b14 := b14.step hb
  replace b18 := b18.step hb
  replace hOh := hOh.step hb
  replace hDh := hDh.step hb
  replace hOa := hOa.step hb
  replace hDa := hDa.step hb
  replace hOb := hOb.step hb
  replace hDb := hDb.step hb
  have zc8 := hb.size
  replace hB := hB.trans (hb.mono hB.size)
  have ltk : ∀ q, blk Bk = some q → w7.heap.size ≤ q ∧ q < w8.heap.size := hOk.lt
  have ltDk := Lib.hid (fun (i : Nat) (y : KyR) (hy : lk[i]? = some y) (q : Nat) (hq : blk y.A = some q) => hDk.lt hy hq)
  have b22 := Blk.new w8 44 #[.slice Bk k dk]
  replace b7 := b7.alloc (.cells #[.slice Bk k dk] 44)
  replace b8 := b8.alloc (.cells #[.slice Bk k dk] 44)
  replace b13 := b13.alloc (.cells #[.slice Bk k dk] 44)
  replace b14 := b14.alloc (.cells #[.slice Bk k dk] 44)
  replace b18 := b18.alloc (.cells #[.slice Bk k dk] 44)
  replace hOh := hOh.alloc (.cells #[.slice Bk k dk] 44)
  replace hDh := hDh.map (fun _ _ _ _ h => h.alloc (.cells #[.slice Bk k dk] 44))
  replace hOa := hOa.alloc (.cells #[.slice Bk k dk] 44)
  replace hDa := hDa.map (fun _ _ _ _ h => h.alloc (.cells #[.slice Bk k dk] 44))
  replace hOb := hOb.alloc (.cells #[.slice Bk k dk] 44)
  replace hDb := hDb.map (fun _ _ _ _ h => h.alloc (.cells #[.slice Bk k dk] 44))
  replace hOk := hOk.alloc (.cells #[.slice Bk k dk] 44)
  replace hDk := hDk.map (fun _ _ _ _ h => h.alloc (.cells #[.slice Bk k dk] 44))
  replace hB := hB.alloc hB.size (.cells #[.slice Bk k dk] 44)
  have hsb22 : (w8.alloc (.cells #[.slice Bk k dk] 44)).heap.size = w8.heap.size + 1 := by simp
  clear hb
  have e_b7 := b7.cell' (i := 0) rfl
  have e_b8 := b8.cell' (i := 0) rfl
  have e_b13 := b13.cell' (i := 0) rfl
  have e_b14 := b14.cell' (i := 0) rfl
  have e_b18 := b18.cell' (i := 0) rfl
  have e_b22 := b22.cell' (i := 0) rfl
  go_wp2_with fail
  clear e_b7 e_b8 e_b13 e_b14 e_b18 e_b22
  generalize w8.alloc (.cells #[.slice Bk k dk] 44) = W8 at *
  refine (overRing_any la M Ba k da W1.heap.size w2.heap.size W8 hla HK.out hOa hDa (by omega) (by omega) (fun q hq => (lta q hq).2) (fun i y hy q hq => (ltDa.out i y hy q hq).2) hM2 hkk).mono ?_
  rintro e w9 ⟨rfl, hT⟩
  replace b7 := hT.box b7 (by omega)
  replace b8 := hT.box b8 (by omega)
  replace b13 := hT.box b13 (by omega)
  replace b14 := hT.box b14 (by omega)
  replace b18 := hT.box b18 (by omega)
  replace b22 := hT.box b22 (by omega)
  replace hOh := hT.keepLow hOh (fun q hq => by have h1 := lth q hq; omega)
  replace hDh := hT.words hDh (fun i y hy q hq => by have h1 := ltDh.out i y hy q hq; omega)
  replace hOb := hT.keepLow hOb (fun q hq => by have h1 := ltb q hq; omega)
  replace hDb := hT.words hDb (fun i y hy q hq => by have h1 := ltDb.out i y hy q hq; omega)
  replace hOk := hT.keepLow hOk (fun q hq => by have h1 := ltk q hq; omega)
  replace hDk := hT.words hDk (fun i y hy q hq => by have h1 := ltDk.out i y hy q hq; omega)
  have zw9 := hT.1.size
  replace hB := hB.trans (hT.1.mono (by omega))
  clear hT hOa hDa
  have e_b7 := b7.cell' (i := 0) rfl
  have e_b8 := b8.cell' (i := 0) rfl
  have e_b13 := b13.cell' (i := 0) rfl
  have e_b14 := b14.cell' (i := 0) rfl
  have e_b18 := b18.cell' (i := 0) rfl
  have e_b22 := b22.cell' (i := 0) rfl
  go_wp2_with fail
  clear e_b7 e_b8 e_b13 e_b14 e_b18 e_b22
  refine (overRing_any lh L Bh n dh W0.heap.size w1.heap.size w9 hlh HN.out hOh hDh (by omega) (by omega) (fun q hq => (lth q hq).2) (fun i y hy q hq => (ltDh.out i y hy q hq).2) hL2 hnn).mono ?_
  rintro e w10 ⟨rfl, hT⟩
  replace b7 := hT.box b7 (by omega)
  replace b8 := hT.box b8 (by omega)
  replace b13 := hT.box b13 (by omega)
  replace b14 := hT.box b14 (by omega)
  replace b18 := hT.box b18 (by omega)
  replace b22 := hT.box b22 (by omega)
  replace hOb := hT.keepLow hOb (fun q hq => by have h1 := ltb q hq; omega)
  replace hDb := hT.words hDb (fun i y hy q hq => by have h1 := ltDb.out i y hy q hq; omega)
  replace hOk := hT.keepLow hOk (fun q hq => by have h1 := ltk q hq; omega)
  replace hDk := hT.words hDk (fun i y hy q hq => by have h1 := ltDk.out i y hy q hq; omega)
  have zw10 := hT.1.size
  replace hB := hB.trans (hT.1.mono (by omega))
  clear hT hOh hDh
  have e_b7 := b7.cell' (i := 0) rfl
  have e_b8 := b8.cell' (i := 0) rfl
  have e_b13 := b13.cell' (i := 0) rfl
  have e_b14 := b14.cell' (i := 0) rfl
  have e_b18 := b18.cell' (i := 0) rfl
  have e_b22 := b22.cell' (i := 0) rfl
  go_wp2_with fail
  clear e_b7 e_b8 e_b13 e_b14 e_b18 e_b22
  refine (sameRing_yes lb lk M Bb Bk k db dk w10 hlb hlk HK.out (OwnWords.rd hOb hDb) (OwnWords.rd hOk hDk) hfM hkk).mono ?_
  rintro e w11 ⟨rfl, hb⟩
  go_wp2_with fail
  go_ret
  exact ⟨rfl, hB.trans (hb.mono hB.size)⟩
end Go.Proofs.Ytkbaganbfcbioaa
