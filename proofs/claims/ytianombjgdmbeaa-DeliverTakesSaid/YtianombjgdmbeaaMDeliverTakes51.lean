/-
  A note comes to a taker, by the document (TakeOf). takerAs: a call is made twice on a taker; the first answer, and what was handed in, is written over.
-/
import Derived.Test.YtianombjgdmbeaaMDeliverTakes48
import Derived.Test.YtianombjgdmbeaaMDeliverTakes49
import Derived.Test.YtianombjgdmbeaaMDeliverTakes50
import Derived.Test.YtianombjgdmbeaaMDeliverTakes32
namespace Go.Proofs.Ytianombjgdmbeaa
set_option linter.unusedSimpArgs false
set_option linter.unusedVariables false
open Go.RowKit

set_option maxHeartbeats 12800000 in
set_option maxRecDepth 100000 in
theorem takeOf_any (x : Tk) (F : Option Addr) (fn fc : Nat) (A : Option Addr) (an ac : Nat) (n : Nt) (D : Option Addr) (dn dc : Nat) (G : Option Addr) (gn gc : Nat) (y : Tk) (ns : List Nt) (k : Int) (w : World) (hr : takeR x n = (y, ns, k)) (hf : x.file.length = fn) (ha : x.have_.length = an) (hF : Rd w F (bvs x.file)) (hA : Rd w A (gps x.have_)) (hfn : fn ≤ 140737488351232) (han : an ≤ 8796093022200) (hd : n.data.length = dn) (hg : n.gaps.length = gn) (hD : Rd w D (bvs n.data)) (hG : Rd w G (gps n.gaps)) (hdn : dn ≤ 140737488351232) (hgn : gn ≤ 8796093022200) :
    Calls Try.prog 35 #[tvv x F fn fc A an ac, ntv n D dn dc G gn gc] w fun e w' => TkRes w w' y ns k e := by
  by_cases h : GoOk x n
  · by_cases hj : GoJ (comesT { x with timer := 0, tries := 0 } n)
    · exact takeOf_goB x F fn fc A an ac n D dn dc G gn gc y ns k w hr hf ha hF hA hfn han hd hg hD hG hdn hgn h hj
    · exact takeOf_goA x F fn fc A an ac n D dn dc G gn gc y ns k w hr hf ha hF hA hfn han hd hg hD hG hdn hgn h hj
  · exact takeOf_over x F fn fc A an ac n D dn dc G gn gc y ns k w hr hf ha hF hA hfn han hd hg hD hG hdn hgn h
end Go.Proofs.Ytianombjgdmbeaa
namespace Go.Proofs.Ytianombjgdmbeaa
set_option linter.unusedSimpArgs false
set_option linter.unusedVariables false
open Go.RowKit

set_option maxHeartbeats 12800000 in
set_option maxRecDepth 100000 in
theorem takerAs_Takes (q0 : Value) (x y : Tk) (ns : List Nt) (k : Int) (F : Option Addr) (fn fc : Nat) (A : Option Addr) (an ac : Nat) (F2 : Option Addr) (yn f2 : Nat) (A2 : Option Addr) (yan a2 : Nat) (O : Option Addr) (on oc : Nat) (lw : List NtR) (w : World)
    (hf : x.file.length = fn) (ha : x.have_.length = an) (hF : Rd w F (bvs x.file)) (hA : Rd w A (gps x.have_)) (hfn : fn ≤ 140737488351232) (han : an ≤ 8796093022200)
    (hyf : y.file.length = yn) (hya : y.have_.length = yan) (hF2 : Rd w F2 (bvs y.file)) (hA2 : Rd w A2 (gps y.have_)) (hyn : yn ≤ 140737488351232) (hyan : yan ≤ 8796093022200)
    (hO : RdNotes w O lw) (hlw : lw.map NtR.n = ns) (hon : ns.length = on) (hfit : ∀ n ∈ ns, NoteFits n) (honn : on ≤ 1000000)
    (HC : ∀ (V : World) (F' A' : Option Addr) (f' a' : Nat), Below w.heap.size w V → Rd V F' (bvs x.file) → Rd V A' (gps x.have_) → fn ≤ f' → Calls Try.prog 36 #[tvv x F' fn f' A' an a', q0] V fun e w' => TkRes V w' y ns k e) :
    Calls Try.prog 26 #[.func (.func 36) #[] #[q0], tvv x F fn fc A an ac, tvv y F2 yn f2 A2 yan a2, .slice O on oc, .int .i64 k] w fun e w' => e = .returned (.bool true) ∧ Below w.heap.size w w' := by
  have HCc := Lib.hid HC
  have CO := Lib.hid (fun (V : World) (hB : Below w.heap.size w V) => takerOf_v x F fn fc A an ac V hf ha (hF.below hB) (hA.below hB) hfn han)
  have CK := Lib.hid (fun (V : World) (hB : Below w.heap.size w V) => takerOf_v y F2 yn f2 A2 yan a2 V hyf hya (hF2.below hB) (hA2.below hB) hyn hyan)
  have CSx := Lib.hid (fun (V : World) (hB : Below w.heap.size w V) (F' A' : Option Addr) (f' a' : Nat) (h1 : Rd V F' (bvs x.file)) (h2 : Rd V A' (gps x.have_)) => sameTv_yes x F' F fn f' fc A' A an a' ac V hf ha (by omega) (by omega) h1 (hF.below hB) h2 (hA.below hB))
  have CSy := Lib.hid (fun (V : World) (hB : Below w.heap.size w V) (F' A' : Option Addr) (f' a' : Nat) (h1 : Rd V F' (bvs y.file)) (h2 : Rd V A' (gps y.have_)) => sameTv_yes y F' F2 yn f' f2 A' A2 yan a' a2 V hyf hya (by omega) (by omega) h1 (hF2.below hB) h2 (hA2.below hB))
  have CSk := Lib.hid (fun (V : World) (F' A' E' B' : Option Addr) (f' a' e' b' : Nat) (h1 : Rd V F' (bvs y.file)) (h2 : Rd V A' (gps y.have_)) (h3 : Rd V E' (bvs y.file)) (h4 : Rd V B' (gps y.have_)) => sameTv_yes y F' E' yn f' e' A' B' yan a' b' V hyf hya (by omega) (by omega) h1 h3 h2 h4)
  have CN := Lib.hid (fun (V : World) (hB : Below w.heap.size w V) (l : List NtR) (O' : Option Addr) (oc' : Nat) (h1 : l.map NtR.n = ns) (h2 : RdNotes V O' l) => sameNotes_yes l lw ns O' O on oc' oc V h1 hlw hon h2 (hO.step hB) hfit (by omega))
  obtain ⟨HYF, HYA, HON⟩ : Hid (y.file.length = yn) ∧ Hid (y.have_.length = yan) ∧ Hid (ns.length = on) := ⟨Lib.hid hyf, Lib.hid hya, Lib.hid hon⟩
  have HFT := Lib.hid hfit
  clear HC hf ha hF hA hyf hya hF2 hA2 hO hlw hon hfit
  obtain ⟨xid, xknown, xname, xsize, xended, xlast, xsum, xhave, xfile, xstage, xtimer, xpatience, xtries, xlimit⟩ := x
  obtain ⟨yid, yknown, yname, ysize, yended, ylast, ysum, yhave, yfile, ystage, ytimer, ypatience, ytries, ylimit⟩ := y
  unfold tvv tkv tkc at HCc CO CK CSx CSy CSk
  unfold tvv tkv tkc
  dsimp only at HCc CO CK CSx CSy CSk HYF HYA ⊢
  have b6 := (Blk.new w 44 #[.int .i64 xid, .bool xknown, .string xname, .int .i64 xsize, .bool xended, .int .i64 xlast, .int .i64 xsum, .slice A an ac, .slice F fn fc, .int .i64 xstage, .int .i64 xtimer, .int .i64 xpatience, .int .i64 xtries, .int .i64 xlimit]).alloc (.cells #[.int .i64 yid, .bool yknown, .string yname, .int .i64 ysize, .bool yended, .int .i64 ylast, .int .i64 ysum, .slice A2 yan a2, .slice F2 yn f2, .int .i64 ystage, .int .i64 ytimer, .int .i64 ypatience, .int .i64 ytries, .int .i64 ylimit] 44)
  have b7 := Blk.new (w.alloc (.cells #[.int .i64 xid, .bool xknown, .string xname, .int .i64 xsize, .bool xended, .int .i64 xlast, .int .i64 xsum, .slice A an ac, .slice F fn fc, .int .i64 xstage, .int .i64 xtimer, .int .i64 xpatience, .int .i64 xtries, .int .i64 xlimit] 44)) 44 #[.int .i64 yid, .bool yknown, .string yname, .int .i64 ysize, .bool yended, .int .i64 ylast, .int .i64 ysum, .slice A2 yan a2, .slice F2 yn f2, .int .i64 ystage, .int .i64 ytimer, .int .i64 ypatience, .int .i64 ytries, .int .i64 ylimit]
  rw [show (w.alloc (.cells #[.int .i64 xid, .bool xknown, .string xname, .int .i64 xsize, .bool xended, .int .i64 xlast, .int .i64 xsum, .slice A an ac, .slice F fn fc, .int .i64 xstage, .int .i64 xtimer, .int .i64 xpatience, .int .i64 xtries, .int .i64 xlimit] 44)).heap.size = w.heap.size + 1 by simp] at b7
  have hB : Below w.heap.size w ((w.alloc (.cells #[.int .i64 xid, .bool xknown, .string xname, .int .i64 xsize, .bool xended, .int .i64 xlast, .int .i64 xsum, .slice A an ac, .slice F fn fc, .int .i64 xstage, .int .i64 xtimer, .int .i64 xpatience, .int .i64 xtries, .int .i64 xlimit] 44)).alloc (.cells #[.int .i64 yid, .bool yknown, .string yname, .int .i64 ysize, .bool yended, .int .i64 ylast, .int .i64 ysum, .slice A2 yan a2, .slice F2 yn f2, .int .i64 ystage, .int .i64 ytimer, .int .i64 ypatience, .int .i64 ytries, .int .i64 ylimit] 44)) := ((Below.refl _ _).alloc (Nat.le_refl _) _).alloc (by simp) _
  go_enter Try.func26, Try.ntmps26
  go_upto_region 1 with fail
  generalize (w.alloc (.cells #[.int .i64 xid, .bool xknown, .string xname, .int .i64 xsize, .bool xended, .int .i64 xlast, .int .i64 xsum, .slice A an ac, .slice F fn fc, .int .i64 xstage, .int .i64 xtimer, .int .i64 xpatience, .int .i64 xtries, .int .i64 xlimit] 44)).alloc (.cells #[.int .i64 yid, .bool yknown, .string yname, .int .i64 ysize, .bool yended, .int .i64 ylast, .int .i64 ysum, .slice A2 yan a2, .slice F2 yn f2, .int .i64 ystage, .int .i64 ytimer, .int .i64 ypatience, .int .i64 ytries, .int .i64 ylimit] 44) = W0 at *
  have zb7 := b7.lt
  go_wp2_with (refine wpList_load_row rfl 44 (.tmp 6) rfl w.heap.size rfl 44 #[.int .i64 xid, .bool xknown, .string xname, .int .i64 xsize, .bool xended, .int .i64 xlast, .int .i64 xsum, .slice A an ac, .slice F fn fc, .int .i64 xstage, .int .i64 xtimer, .int .i64 xpatience, .int .i64 xtries, .int .i64 xlimit] (0, 0) _ b6 Try.underlying44 rfl takersz ?_)
  refine (CO.out _ hB).mono ?_
  rintro e w1 ⟨Fh, fh, Ah, ah, rfl, hFh, hAh, hb⟩
  replace b6 := b6.step hb
  replace b7 := b7.step hb
  have zt1 := hb.size
  have zW0 : w.heap.size + 1 < W0.heap.size := zb7
  replace hB := hB.trans (hb.mono hB.size)
  have ltFh : ∀ q, blk Fh = some q → W0.heap.size ≤ q ∧ q < w1.heap.size := hFh.lt
  have ltAh : ∀ q, blk Ah = some q → W0.heap.size ≤ q ∧ q < w1.heap.size := hAh.lt
  clear hb CO
  go_upto_region 2 with fail
  have b11 := Blk.new w1 44 #[.int .i64 xid, .bool xknown, .string xname, .int .i64 xsize, .bool xended, .int .i64 xlast, .int .i64 xsum, .slice Ah an ah, .slice Fh fn fh, .int .i64 xstage, .int .i64 xtimer, .int .i64 xpatience, .int .i64 xtries, .int .i64 xlimit]
  replace b6 := b6.alloc (.cells #[.int .i64 xid, .bool xknown, .string xname, .int .i64 xsize, .bool xended, .int .i64 xlast, .int .i64 xsum, .slice Ah an ah, .slice Fh fn fh, .int .i64 xstage, .int .i64 xtimer, .int .i64 xpatience, .int .i64 xtries, .int .i64 xlimit] 44)
  replace b7 := b7.alloc (.cells #[.int .i64 xid, .bool xknown, .string xname, .int .i64 xsize, .bool xended, .int .i64 xlast, .int .i64 xsum, .slice Ah an ah, .slice Fh fn fh, .int .i64 xstage, .int .i64 xtimer, .int .i64 xpatience, .int .i64 xtries, .int .i64 xlimit] 44)
  replace hFh := hFh.alloc (.cells #[.int .i64 xid, .bool xknown, .string xname, .int .i64 xsize, .bool xended, .int .i64 xlast, .int .i64 xsum, .slice Ah an ah, .slice Fh fn fh, .int .i64 xstage, .int .i64 xtimer, .int .i64 xpatience, .int .i64 xtries, .int .i64 xlimit] 44)
  replace hAh := hAh.alloc (.cells #[.int .i64 xid, .bool xknown, .string xname, .int .i64 xsize, .bool xended, .int .i64 xlast, .int .i64 xsum, .slice Ah an ah, .slice Fh fn fh, .int .i64 xstage, .int .i64 xtimer, .int .i64 xpatience, .int .i64 xtries, .int .i64 xlimit] 44)
  replace hB := hB.alloc hB.size (.cells #[.int .i64 xid, .bool xknown, .string xname, .int .i64 xsize, .bool xended, .int .i64 xlast, .int .i64 xsum, .slice Ah an ah, .slice Fh fn fh, .int .i64 xstage, .int .i64 xtimer, .int .i64 xpatience, .int .i64 xtries, .int .i64 xlimit] 44)
  have hsb11 : w1.heap.size < (w1.alloc (.cells #[.int .i64 xid, .bool xknown, .string xname, .int .i64 xsize, .bool xended, .int .i64 xlast, .int .i64 xsum, .slice Ah an ah, .slice Fh fn fh, .int .i64 xstage, .int .i64 xtimer, .int .i64 xpatience, .int .i64 xtries, .int .i64 xlimit] 44)).heap.size := by simp
  generalize w1.alloc (.cells #[.int .i64 xid, .bool xknown, .string xname, .int .i64 xsize, .bool xended, .int .i64 xlast, .int .i64 xsum, .slice Ah an ah, .slice Fh fn fh, .int .i64 xstage, .int .i64 xtimer, .int .i64 xpatience, .int .i64 xtries, .int .i64 xlimit] 44) = W1 at *
  go_wp2_with (refine wpList_load_row rfl 44 (.tmp 11) rfl w1.heap.size rfl 44 #[.int .i64 xid, .bool xknown, .string xname, .int .i64 xsize, .bool xended, .int .i64 xlast, .int .i64 xsum, .slice Ah an ah, .slice Fh fn fh, .int .i64 xstage, .int .i64 xtimer, .int .i64 xpatience, .int .i64 xtries, .int .i64 xlimit] (0, 0) _ b11 Try.underlying44 rfl takersz ?_)
  refine (HCc.out _ Fh Ah fh ah hB hFh.rd hAh.rd hFh.le).mono ?_
  intro e w2 ha
  obtain ⟨Fa, na, fa, Aa, ma, aa, Oa, ka, ca, la, rfl, Ma, hb⟩ := ha
  unfold tvv tkv tkc
  dsimp only
  have en : yn = na := HYF.out.symm.trans Ma.fl
  subst en
  have em : yan = ma := HYA.out.symm.trans Ma.al
  subst em
  have ek : on = ka := by rw [← Ma.nl, ← HON.out]
  subst ek
  replace b6 := b6.step hb
  replace b7 := b7.step hb
  replace b11 := b11.step hb
  replace hFh := hFh.step hb
  replace hAh := hAh.step hb
  have zta := hb.size
  replace hB := hB.trans (hb.mono hB.size)
  clear hb
  have lta := Lib.hid (gvmem_lt Ma)
  go_upto_region 3 with fail
  have b12 := Blk.new w2 44 #[.int .i64 yid, .bool yknown, .string yname, .int .i64 ysize, .bool yended, .int .i64 ylast, .int .i64 ysum, .slice Aa yan aa, .slice Fa yn fa, .int .i64 ystage, .int .i64 ytimer, .int .i64 ypatience, .int .i64 ytries, .int .i64 ylimit]
  replace b6 := b6.alloc (.cells #[.int .i64 yid, .bool yknown, .string yname, .int .i64 ysize, .bool yended, .int .i64 ylast, .int .i64 ysum, .slice Aa yan aa, .slice Fa yn fa, .int .i64 ystage, .int .i64 ytimer, .int .i64 ypatience, .int .i64 ytries, .int .i64 ylimit] 44)
  replace b7 := b7.alloc (.cells #[.int .i64 yid, .bool yknown, .string yname, .int .i64 ysize, .bool yended, .int .i64 ylast, .int .i64 ysum, .slice Aa yan aa, .slice Fa yn fa, .int .i64 ystage, .int .i64 ytimer, .int .i64 ypatience, .int .i64 ytries, .int .i64 ylimit] 44)
  replace b11 := b11.alloc (.cells #[.int .i64 yid, .bool yknown, .string yname, .int .i64 ysize, .bool yended, .int .i64 ylast, .int .i64 ysum, .slice Aa yan aa, .slice Fa yn fa, .int .i64 ystage, .int .i64 ytimer, .int .i64 ypatience, .int .i64 ytries, .int .i64 ylimit] 44)
  replace hFh := hFh.alloc (.cells #[.int .i64 yid, .bool yknown, .string yname, .int .i64 ysize, .bool yended, .int .i64 ylast, .int .i64 ysum, .slice Aa yan aa, .slice Fa yn fa, .int .i64 ystage, .int .i64 ytimer, .int .i64 ypatience, .int .i64 ytries, .int .i64 ylimit] 44)
  replace hAh := hAh.alloc (.cells #[.int .i64 yid, .bool yknown, .string yname, .int .i64 ysize, .bool yended, .int .i64 ylast, .int .i64 ysum, .slice Aa yan aa, .slice Fa yn fa, .int .i64 ystage, .int .i64 ytimer, .int .i64 ypatience, .int .i64 ytries, .int .i64 ylimit] 44)
  replace Ma := Ma.map (fun _ _ _ _ _ _ h => h.alloc (.cells #[.int .i64 yid, .bool yknown, .string yname, .int .i64 ysize, .bool yended, .int .i64 ylast, .int .i64 ysum, .slice Aa yan aa, .slice Fa yn fa, .int .i64 ystage, .int .i64 ytimer, .int .i64 ypatience, .int .i64 ytries, .int .i64 ylimit] 44))
  replace hB := hB.alloc hB.size (.cells #[.int .i64 yid, .bool yknown, .string yname, .int .i64 ysize, .bool yended, .int .i64 ylast, .int .i64 ysum, .slice Aa yan aa, .slice Fa yn fa, .int .i64 ystage, .int .i64 ytimer, .int .i64 ypatience, .int .i64 ytries, .int .i64 ylimit] 44)
  have hsb12 : w2.heap.size < (w2.alloc (.cells #[.int .i64 yid, .bool yknown, .string yname, .int .i64 ysize, .bool yended, .int .i64 ylast, .int .i64 ysum, .slice Aa yan aa, .slice Fa yn fa, .int .i64 ystage, .int .i64 ytimer, .int .i64 ypatience, .int .i64 ytries, .int .i64 ylimit] 44)).heap.size := by simp
  generalize w2.alloc (.cells #[.int .i64 yid, .bool yknown, .string yname, .int .i64 ysize, .bool yended, .int .i64 ylast, .int .i64 ysum, .slice Aa yan aa, .slice Fa yn fa, .int .i64 ystage, .int .i64 ytimer, .int .i64 ypatience, .int .i64 ytries, .int .i64 ylimit] 44) = W2 at *
  go_wp2_with (refine wpList_load_row rfl 44 (.tmp 11) rfl w1.heap.size rfl 44 #[.int .i64 xid, .bool xknown, .string xname, .int .i64 xsize, .bool xended, .int .i64 xlast, .int .i64 xsum, .slice Ah an ah, .slice Fh fn fh, .int .i64 xstage, .int .i64 xtimer, .int .i64 xpatience, .int .i64 xtries, .int .i64 xlimit] (0, 0) _ b11 Try.underlying44 rfl takersz ?_)
  refine (HCc.out _ Fh Ah fh ah hB hFh.rd hAh.rd hFh.le).mono ?_
  intro e w3 hb
  obtain ⟨Fb, nb, fb, Ab, mb, ab, Ob, kb, cb, lb, rfl, Mb, hb⟩ := hb
  unfold tvv tkv tkc
  dsimp only
  have en : yn = nb := HYF.out.symm.trans Mb.fl
  subst en
  have em : yan = mb := HYA.out.symm.trans Mb.al
  subst em
  have ek : on = kb := by rw [← Mb.nl, ← HON.out]
  subst ek
  replace b6 := b6.step hb
  replace b7 := b7.step hb
  replace b11 := b11.step hb
  replace b12 := b12.step hb
  replace hFh := hFh.step hb
  replace hAh := hAh.step hb
  replace Ma := Ma.step hb
  have ztb := hb.size
  replace hB := hB.trans (hb.mono hB.size)
  clear hb
  have ltb := Lib.hid (gvmem_lt Mb)
  go_upto_region 4 with fail
  have b15 := Blk.new w3 44 #[.int .i64 yid, .bool yknown, .string yname, .int .i64 ysize, .bool yended, .int .i64 ylast, .int .i64 ysum, .slice Ab yan ab, .slice Fb yn fb, .int .i64 ystage, .int .i64 ytimer, .int .i64 ypatience, .int .i64 ytries, .int .i64 ylimit]
  replace b6 := b6.alloc (.cells #[.int .i64 yid, .bool yknown, .string yname, .int .i64 ysize, .bool yended, .int .i64 ylast, .int .i64 ysum, .slice Ab yan ab, .slice Fb yn fb, .int .i64 ystage, .int .i64 ytimer, .int .i64 ypatience, .int .i64 ytries, .int .i64 ylimit] 44)
  replace b7 := b7.alloc (.cells #[.int .i64 yid, .bool yknown, .string yname, .int .i64 ysize, .bool yended, .int .i64 ylast, .int .i64 ysum, .slice Ab yan ab, .slice Fb yn fb, .int .i64 ystage, .int .i64 ytimer, .int .i64 ypatience, .int .i64 ytries, .int .i64 ylimit] 44)
  replace b11 := b11.alloc (.cells #[.int .i64 yid, .bool yknown, .string yname, .int .i64 ysize, .bool yended, .int .i64 ylast, .int .i64 ysum, .slice Ab yan ab, .slice Fb yn fb, .int .i64 ystage, .int .i64 ytimer, .int .i64 ypatience, .int .i64 ytries, .int .i64 ylimit] 44)
  replace b12 := b12.alloc (.cells #[.int .i64 yid, .bool yknown, .string yname, .int .i64 ysize, .bool yended, .int .i64 ylast, .int .i64 ysum, .slice Ab yan ab, .slice Fb yn fb, .int .i64 ystage, .int .i64 ytimer, .int .i64 ypatience, .int .i64 ytries, .int .i64 ylimit] 44)
  replace hFh := hFh.alloc (.cells #[.int .i64 yid, .bool yknown, .string yname, .int .i64 ysize, .bool yended, .int .i64 ylast, .int .i64 ysum, .slice Ab yan ab, .slice Fb yn fb, .int .i64 ystage, .int .i64 ytimer, .int .i64 ypatience, .int .i64 ytries, .int .i64 ylimit] 44)
  replace hAh := hAh.alloc (.cells #[.int .i64 yid, .bool yknown, .string yname, .int .i64 ysize, .bool yended, .int .i64 ylast, .int .i64 ysum, .slice Ab yan ab, .slice Fb yn fb, .int .i64 ystage, .int .i64 ytimer, .int .i64 ypatience, .int .i64 ytries, .int .i64 ylimit] 44)
  replace Ma := Ma.map (fun _ _ _ _ _ _ h => h.alloc (.cells #[.int .i64 yid, .bool yknown, .string yname, .int .i64 ysize, .bool yended, .int .i64 ylast, .int .i64 ysum, .slice Ab yan ab, .slice Fb yn fb, .int .i64 ystage, .int .i64 ytimer, .int .i64 ypatience, .int .i64 ytries, .int .i64 ylimit] 44))
  replace Mb := Mb.map (fun _ _ _ _ _ _ h => h.alloc (.cells #[.int .i64 yid, .bool yknown, .string yname, .int .i64 ysize, .bool yended, .int .i64 ylast, .int .i64 ysum, .slice Ab yan ab, .slice Fb yn fb, .int .i64 ystage, .int .i64 ytimer, .int .i64 ypatience, .int .i64 ytries, .int .i64 ylimit] 44))
  replace hB := hB.alloc hB.size (.cells #[.int .i64 yid, .bool yknown, .string yname, .int .i64 ysize, .bool yended, .int .i64 ylast, .int .i64 ysum, .slice Ab yan ab, .slice Fb yn fb, .int .i64 ystage, .int .i64 ytimer, .int .i64 ypatience, .int .i64 ytries, .int .i64 ylimit] 44)
  have hsb15 : w3.heap.size < (w3.alloc (.cells #[.int .i64 yid, .bool yknown, .string yname, .int .i64 ysize, .bool yended, .int .i64 ylast, .int .i64 ysum, .slice Ab yan ab, .slice Fb yn fb, .int .i64 ystage, .int .i64 ytimer, .int .i64 ypatience, .int .i64 ytries, .int .i64 ylimit] 44)).heap.size := by simp
  generalize w3.alloc (.cells #[.int .i64 yid, .bool yknown, .string yname, .int .i64 ysize, .bool yended, .int .i64 ylast, .int .i64 ysum, .slice Ab yan ab, .slice Fb yn fb, .int .i64 ystage, .int .i64 ytimer, .int .i64 ypatience, .int .i64 ytries, .int .i64 ylimit] 44) = W3 at *
  clear HCc
  have eb12_0 := b12.cell' (i := 0) rfl
  have eb12_1 := b12.cell' (i := 1) rfl
  have eb12_2 := b12.cell' (i := 2) rfl
  have eb12_3 := b12.cell' (i := 3) rfl
  have eb12_4 := b12.cell' (i := 4) rfl
  have eb12_5 := b12.cell' (i := 5) rfl
  have eb12_6 := b12.cell' (i := 6) rfl
  have eb12_7 := b12.cell' (i := 7) rfl
  have eb12_8 := b12.cell' (i := 8) rfl
  have eb12_9 := b12.cell' (i := 9) rfl
  have eb12_10 := b12.cell' (i := 10) rfl
  have eb12_11 := b12.cell' (i := 11) rfl
  have eb12_12 := b12.cell' (i := 12) rfl
  have eb12_13 := b12.cell' (i := 13) rfl
  have eb7_0 := b7.cell' (i := 0) rfl
  have eb7_1 := b7.cell' (i := 1) rfl
  have eb7_2 := b7.cell' (i := 2) rfl
  have eb7_3 := b7.cell' (i := 3) rfl
  have eb7_4 := b7.cell' (i := 4) rfl
  have eb7_5 := b7.cell' (i := 5) rfl
  have eb7_6 := b7.cell' (i := 6) rfl
  have eb7_7 := b7.cell' (i := 7) rfl
  have eb7_8 := b7.cell' (i := 8) rfl
  have eb7_9 := b7.cell' (i := 9) rfl
  have eb7_10 := b7.cell' (i := 10) rfl
  have eb7_11 := b7.cell' (i := 11) rfl
  have eb7_12 := b7.cell' (i := 12) rfl
  have eb7_13 := b7.cell' (i := 13) rfl
  go_wp2_with fail
  clear eb12_0 eb12_1 eb12_2 eb12_3 eb12_4 eb12_5 eb12_6 eb12_7 eb12_8 eb12_9 eb12_10 eb12_11 eb12_12 eb12_13 eb7_0 eb7_1 eb7_2 eb7_3 eb7_4 eb7_5 eb7_6 eb7_7 eb7_8 eb7_9 eb7_10 eb7_11 eb7_12 eb7_13
  refine (CSy.out _ hB Fa Aa fa aa Ma.file.rd Ma.again.rd).mono ?_
  rintro e w4 ⟨rfl, hb⟩
  replace b6 := b6.step hb
  replace b7 := b7.step hb
  replace b11 := b11.step hb
  replace b12 := b12.step hb
  replace b15 := b15.step hb
  replace hFh := hFh.step hb
  replace hAh := hAh.step hb
  replace Ma := Ma.step hb
  replace Mb := Mb.step hb
  have zc4 := hb.size
  replace hB := hB.trans (hb.mono hB.size)
  clear hb
  have eb15_0 := b15.cell' (i := 0) rfl
  have eb15_1 := b15.cell' (i := 1) rfl
  have eb15_2 := b15.cell' (i := 2) rfl
  have eb15_3 := b15.cell' (i := 3) rfl
  have eb15_4 := b15.cell' (i := 4) rfl
  have eb15_5 := b15.cell' (i := 5) rfl
  have eb15_6 := b15.cell' (i := 6) rfl
  have eb15_7 := b15.cell' (i := 7) rfl
  have eb15_8 := b15.cell' (i := 8) rfl
  have eb15_9 := b15.cell' (i := 9) rfl
  have eb15_10 := b15.cell' (i := 10) rfl
  have eb15_11 := b15.cell' (i := 11) rfl
  have eb15_12 := b15.cell' (i := 12) rfl
  have eb15_13 := b15.cell' (i := 13) rfl
  have eb7_0 := b7.cell' (i := 0) rfl
  have eb7_1 := b7.cell' (i := 1) rfl
  have eb7_2 := b7.cell' (i := 2) rfl
  have eb7_3 := b7.cell' (i := 3) rfl
  have eb7_4 := b7.cell' (i := 4) rfl
  have eb7_5 := b7.cell' (i := 5) rfl
  have eb7_6 := b7.cell' (i := 6) rfl
  have eb7_7 := b7.cell' (i := 7) rfl
  have eb7_8 := b7.cell' (i := 8) rfl
  have eb7_9 := b7.cell' (i := 9) rfl
  have eb7_10 := b7.cell' (i := 10) rfl
  have eb7_11 := b7.cell' (i := 11) rfl
  have eb7_12 := b7.cell' (i := 12) rfl
  have eb7_13 := b7.cell' (i := 13) rfl
  go_wp2_with fail
  clear eb15_0 eb15_1 eb15_2 eb15_3 eb15_4 eb15_5 eb15_6 eb15_7 eb15_8 eb15_9 eb15_10 eb15_11 eb15_12 eb15_13 eb7_0 eb7_1 eb7_2 eb7_3 eb7_4 eb7_5 eb7_6 eb7_7 eb7_8 eb7_9 eb7_10 eb7_11 eb7_12 eb7_13
  refine (CSy.out _ hB Fb Ab fb ab Mb.file.rd Mb.again.rd).mono ?_
  rintro e w5 ⟨rfl, hb⟩
  replace b6 := b6.step hb
  replace b7 := b7.step hb
  replace b11 := b11.step hb
  replace b12 := b12.step hb
  replace b15 := b15.step hb
  replace hFh := hFh.step hb
  replace hAh := hAh.step hb
  replace Ma := Ma.step hb
  replace Mb := Mb.step hb
  have zc5 := hb.size
  replace hB := hB.trans (hb.mono hB.size)
  clear hb
  have eb11_0 := b11.cell' (i := 0) rfl
  have eb11_1 := b11.cell' (i := 1) rfl
  have eb11_2 := b11.cell' (i := 2) rfl
  have eb11_3 := b11.cell' (i := 3) rfl
  have eb11_4 := b11.cell' (i := 4) rfl
  have eb11_5 := b11.cell' (i := 5) rfl
  have eb11_6 := b11.cell' (i := 6) rfl
  have eb11_7 := b11.cell' (i := 7) rfl
  have eb11_8 := b11.cell' (i := 8) rfl
  have eb11_9 := b11.cell' (i := 9) rfl
  have eb11_10 := b11.cell' (i := 10) rfl
  have eb11_11 := b11.cell' (i := 11) rfl
  have eb11_12 := b11.cell' (i := 12) rfl
  have eb11_13 := b11.cell' (i := 13) rfl
  have eb6_0 := b6.cell' (i := 0) rfl
  have eb6_1 := b6.cell' (i := 1) rfl
  have eb6_2 := b6.cell' (i := 2) rfl
  have eb6_3 := b6.cell' (i := 3) rfl
  have eb6_4 := b6.cell' (i := 4) rfl
  have eb6_5 := b6.cell' (i := 5) rfl
  have eb6_6 := b6.cell' (i := 6) rfl
  have eb6_7 := b6.cell' (i := 7) rfl
  have eb6_8 := b6.cell' (i := 8) rfl
  have eb6_9 := b6.cell' (i := 9) rfl
  have eb6_10 := b6.cell' (i := 10) rfl
  have eb6_11 := b6.cell' (i := 11) rfl
  have eb6_12 := b6.cell' (i := 12) rfl
  have eb6_13 := b6.cell' (i := 13) rfl
  go_wp2_with fail
  clear eb11_0 eb11_1 eb11_2 eb11_3 eb11_4 eb11_5 eb11_6 eb11_7 eb11_8 eb11_9 eb11_10 eb11_11 eb11_12 eb11_13 eb6_0 eb6_1 eb6_2 eb6_3 eb6_4 eb6_5 eb6_6 eb6_7 eb6_8 eb6_9 eb6_10 eb6_11 eb6_12 eb6_13
  refine (CSx.out _ hB Fh Ah fh ah hFh.rd hAh.rd).mono ?_
  rintro e w6 ⟨rfl, hb⟩
  replace b6 := b6.step hb
  replace b7 := b7.step hb
  replace b11 := b11.step hb
  replace b12 := b12.step hb
  replace b15 := b15.step hb
  replace hFh := hFh.step hb
  replace hAh := hAh.step hb
  replace Ma := Ma.step hb
  replace Mb := Mb.step hb
  have zc6 := hb.size
  replace hB := hB.trans (hb.mono hB.size)
  clear hb
  go_wp2_with fail
  refine (CN.out _ hB la Oa ca Ma.ln (Ma.parts.rd Ma.out)).mono ?_
  rintro e w7 ⟨rfl, hb⟩
  replace b6 := b6.step hb
  replace b7 := b7.step hb
  replace b11 := b11.step hb
  replace b12 := b12.step hb
  replace b15 := b15.step hb
  replace hFh := hFh.step hb
  replace hAh := hAh.step hb
  replace Ma := Ma.step hb
  replace Mb := Mb.step hb
  have zc7 := hb.size
  replace hB := hB.trans (hb.mono hB.size)
  clear hb
  go_wp2_with fail
  refine (CN.out _ hB lb Ob cb Mb.ln (Mb.parts.rd Mb.out)).mono ?_
  rintro e w8 ⟨rfl, hb⟩
  replace b6 := b6.step hb
  replace b7 := b7.step hb
  replace b11 := b11.step hb
  replace b12 := b12.step hb
  replace b15 := b15.step hb
  replace hFh := hFh.step hb
  replace hAh := hAh.step hb
  replace Ma := Ma.step hb
  replace Mb := Mb.step hb
  have zc8 := hb.size
  replace hB := hB.trans (hb.mono hB.size)
  clear hb
  go_wp2_with (refine wpList_load_row rfl 44 (.tmp 7) rfl (w.heap.size + 1) rfl 44 #[.int .i64 yid, .bool yknown, .string yname, .int .i64 ysize, .bool yended, .int .i64 ylast, .int .i64 ysum, .slice A2 yan a2, .slice F2 yn f2, .int .i64 ystage, .int .i64 ytimer, .int .i64 ypatience, .int .i64 ytries, .int .i64 ylimit] (0, 0) _ b7 Try.underlying44 rfl takersz ?_)
  refine (CK.out _ hB).mono ?_
  rintro e w9 ⟨Fk, fk, Ak, ak, rfl, hFk, hAk, hb⟩
  replace b6 := b6.step hb
  replace b7 := b7.step hb
  replace b11 := b11.step hb
  replace b12 := b12.step hb
  replace b15 := b15.step hb
  replace hFh := hFh.step hb
  replace hAh := hAh.step hb
  replace Ma := Ma.step hb
  replace Mb := Mb.step hb
  have zt9 := hb.size
  replace hB := hB.trans (hb.mono hB.size)
  clear hb CK
  have ltFk : ∀ q, blk Fk = some q → w8.heap.size ≤ q := fun q hq => (hFk.lt q hq).1
  have ltAk : ∀ q, blk Ak = some q → w8.heap.size ≤ q := fun q hq => (hAk.lt q hq).1
  go_upto_region 7 with fail
  have b18 := Blk.new w9 44 #[.int .i64 yid, .bool yknown, .string yname, .int .i64 ysize, .bool yended, .int .i64 ylast, .int .i64 ysum, .slice Ak yan ak, .slice Fk yn fk, .int .i64 ystage, .int .i64 ytimer, .int .i64 ypatience, .int .i64 ytries, .int .i64 ylimit]
  replace b6 := b6.alloc (.cells #[.int .i64 yid, .bool yknown, .string yname, .int .i64 ysize, .bool yended, .int .i64 ylast, .int .i64 ysum, .slice Ak yan ak, .slice Fk yn fk, .int .i64 ystage, .int .i64 ytimer, .int .i64 ypatience, .int .i64 ytries, .int .i64 ylimit] 44)
  replace b7 := b7.alloc (.cells #[.int .i64 yid, .bool yknown, .string yname, .int .i64 ysize, .bool yended, .int .i64 ylast, .int .i64 ysum, .slice Ak yan ak, .slice Fk yn fk, .int .i64 ystage, .int .i64 ytimer, .int .i64 ypatience, .int .i64 ytries, .int .i64 ylimit] 44)
  replace b11 := b11.alloc (.cells #[.int .i64 yid, .bool yknown, .string yname, .int .i64 ysize, .bool yended, .int .i64 ylast, .int .i64 ysum, .slice Ak yan ak, .slice Fk yn fk, .int .i64 ystage, .int .i64 ytimer, .int .i64 ypatience, .int .i64 ytries, .int .i64 ylimit] 44)
  replace b12 := b12.alloc (.cells #[.int .i64 yid, .bool yknown, .string yname, .int .i64 ysize, .bool yended, .int .i64 ylast, .int .i64 ysum, .slice Ak yan ak, .slice Fk yn fk, .int .i64 ystage, .int .i64 ytimer, .int .i64 ypatience, .int .i64 ytries, .int .i64 ylimit] 44)
  replace b15 := b15.alloc (.cells #[.int .i64 yid, .bool yknown, .string yname, .int .i64 ysize, .bool yended, .int .i64 ylast, .int .i64 ysum, .slice Ak yan ak, .slice Fk yn fk, .int .i64 ystage, .int .i64 ytimer, .int .i64 ypatience, .int .i64 ytries, .int .i64 ylimit] 44)
  replace hFh := hFh.alloc (.cells #[.int .i64 yid, .bool yknown, .string yname, .int .i64 ysize, .bool yended, .int .i64 ylast, .int .i64 ysum, .slice Ak yan ak, .slice Fk yn fk, .int .i64 ystage, .int .i64 ytimer, .int .i64 ypatience, .int .i64 ytries, .int .i64 ylimit] 44)
  replace hAh := hAh.alloc (.cells #[.int .i64 yid, .bool yknown, .string yname, .int .i64 ysize, .bool yended, .int .i64 ylast, .int .i64 ysum, .slice Ak yan ak, .slice Fk yn fk, .int .i64 ystage, .int .i64 ytimer, .int .i64 ypatience, .int .i64 ytries, .int .i64 ylimit] 44)
  replace hFk := hFk.alloc (.cells #[.int .i64 yid, .bool yknown, .string yname, .int .i64 ysize, .bool yended, .int .i64 ylast, .int .i64 ysum, .slice Ak yan ak, .slice Fk yn fk, .int .i64 ystage, .int .i64 ytimer, .int .i64 ypatience, .int .i64 ytries, .int .i64 ylimit] 44)
  replace hAk := hAk.alloc (.cells #[.int .i64 yid, .bool yknown, .string yname, .int .i64 ysize, .bool yended, .int .i64 ylast, .int .i64 ysum, .slice Ak yan ak, .slice Fk yn fk, .int .i64 ystage, .int .i64 ytimer, .int .i64 ypatience, .int .i64 ytries, .int .i64 ylimit] 44)
  replace Ma := Ma.map (fun _ _ _ _ _ _ h => h.alloc (.cells #[.int .i64 yid, .bool yknown, .string yname, .int .i64 ysize, .bool yended, .int .i64 ylast, .int .i64 ysum, .slice Ak yan ak, .slice Fk yn fk, .int .i64 ystage, .int .i64 ytimer, .int .i64 ypatience, .int .i64 ytries, .int .i64 ylimit] 44))
  replace Mb := Mb.map (fun _ _ _ _ _ _ h => h.alloc (.cells #[.int .i64 yid, .bool yknown, .string yname, .int .i64 ysize, .bool yended, .int .i64 ylast, .int .i64 ysum, .slice Ak yan ak, .slice Fk yn fk, .int .i64 ystage, .int .i64 ytimer, .int .i64 ypatience, .int .i64 ytries, .int .i64 ylimit] 44))
  replace hB := hB.alloc hB.size (.cells #[.int .i64 yid, .bool yknown, .string yname, .int .i64 ysize, .bool yended, .int .i64 ylast, .int .i64 ysum, .slice Ak yan ak, .slice Fk yn fk, .int .i64 ystage, .int .i64 ytimer, .int .i64 ypatience, .int .i64 ytries, .int .i64 ylimit] 44)
  have hsb18 : w9.heap.size < (w9.alloc (.cells #[.int .i64 yid, .bool yknown, .string yname, .int .i64 ysize, .bool yended, .int .i64 ylast, .int .i64 ysum, .slice Ak yan ak, .slice Fk yn fk, .int .i64 ystage, .int .i64 ytimer, .int .i64 ypatience, .int .i64 ytries, .int .i64 ylimit] 44)).heap.size := by simp
  generalize w9.alloc (.cells #[.int .i64 yid, .bool yknown, .string yname, .int .i64 ysize, .bool yended, .int .i64 ylast, .int .i64 ysum, .slice Ak yan ak, .slice Fk yn fk, .int .i64 ystage, .int .i64 ytimer, .int .i64 ypatience, .int .i64 ytries, .int .i64 ylimit] 44) = W9 at *
  obtain ⟨pa1, pa2, pa3, pa4, pa5, pa6, pa7, pa8, pa9⟩ := Ma
  clear pa1 pa2
  have e2 := b12.cell' (i := 8) rfl
  go_wp2_with fail
  clear e2
  refine (spoil_any W1.heap.size Fa yn fa yfile W9 pa5 (by omega) (by omega)).mono ?_
  rintro e w10 ⟨rfl, hg⟩
  replace b6 := b6.over hg (fun q hq e => pa5.notBlk b6 (by decide) (by rw [hq]; exact e.symm))
  replace b7 := b7.over hg (fun q hq e => pa5.notBlk b7 (by decide) (by rw [hq]; exact e.symm))
  replace b11 := b11.over hg (fun q hq e => pa5.notBlk b11 (by decide) (by rw [hq]; exact e.symm))
  replace b12 := b12.over hg (fun q hq e => pa5.notBlk b12 (by decide) (by rw [hq]; exact e.symm))
  replace b15 := b15.over hg (fun q hq e => pa5.notBlk b15 (by decide) (by rw [hq]; exact e.symm))
  replace b18 := b18.over hg (fun q hq e => pa5.notBlk b18 (by decide) (by rw [hq]; exact e.symm))
  replace hFk := hFk.over hg (fun q hq hq2 => by have h1 := (lta.out).1 q hq; have h2 := ltFk q hq2; omega)
  replace hAk := hAk.over hg (fun q hq hq2 => by have h1 := (lta.out).1 q hq; have h2 := ltAk q hq2; omega)
  replace hFh := hFh.over hg (fun q hq hq2 => by have h1 := (lta.out).1 q hq; have h2 := ltFh q hq2; omega)
  replace hAh := hAh.over hg (fun q hq hq2 => by have h1 := (lta.out).1 q hq; have h2 := ltAh q hq2; omega)
  replace Mb := Mb.up (grownBy_turned hg) (fun q hq => by have h1 := (lta.out).1 q hq; omega)
  replace pa6 := pa6.over hg (pa5.apart pa6 (by decide))
  replace pa7 := pa7.over hg (pa5.apart pa7 (by decide))
  replace pa8 := (⟨fun i x hx => ⟨(pa8.1 i x hx).1.over hg (fun q hq => (pa9 i x hx).1 q hq), (pa8.1 i x hx).2.over hg (pa5.apart (pa8.1 i x hx).2 (by decide))⟩, pa8.2⟩ : OwnParts w10 W1.heap.size la)
  replace hB := hB.grown hg hB.size (fun q hq => by have := (lta.out).1 q hq; omega)
  have zpa5 := hg.size
  clear hg
  clear pa5
  have e8 := b12.cell' (i := 7) rfl
  go_wp2_with fail
  clear e8
  refine (overGaps_any W1.heap.size Aa yan aa yhave w10 pa6 (by omega) (by omega)).mono ?_
  rintro e w11 ⟨rfl, hg⟩
  replace b6 := b6.over hg (fun q hq e => pa6.notBlk b6 (by decide) (by rw [hq]; exact e.symm))
  replace b7 := b7.over hg (fun q hq e => pa6.notBlk b7 (by decide) (by rw [hq]; exact e.symm))
  replace b11 := b11.over hg (fun q hq e => pa6.notBlk b11 (by decide) (by rw [hq]; exact e.symm))
  replace b12 := b12.over hg (fun q hq e => pa6.notBlk b12 (by decide) (by rw [hq]; exact e.symm))
  replace b15 := b15.over hg (fun q hq e => pa6.notBlk b15 (by decide) (by rw [hq]; exact e.symm))
  replace b18 := b18.over hg (fun q hq e => pa6.notBlk b18 (by decide) (by rw [hq]; exact e.symm))
  replace hFk := hFk.over hg (fun q hq hq2 => by have h1 := (lta.out).2.1 q hq; have h2 := ltFk q hq2; omega)
  replace hAk := hAk.over hg (fun q hq hq2 => by have h1 := (lta.out).2.1 q hq; have h2 := ltAk q hq2; omega)
  replace hFh := hFh.over hg (fun q hq hq2 => by have h1 := (lta.out).2.1 q hq; have h2 := ltFh q hq2; omega)
  replace hAh := hAh.over hg (fun q hq hq2 => by have h1 := (lta.out).2.1 q hq; have h2 := ltAh q hq2; omega)
  replace Mb := Mb.up (grownBy_turned hg) (fun q hq => by have h1 := (lta.out).2.1 q hq; omega)
  replace pa7 := pa7.over hg (pa6.apart pa7 (by decide))
  replace pa8 := (⟨fun i x hx => ⟨(pa8.1 i x hx).1.over hg (pa6.apart (pa8.1 i x hx).1 (by decide)), (pa8.1 i x hx).2.over hg (fun q hq => (pa9 i x hx).2 q hq)⟩, pa8.2⟩ : OwnParts w11 W1.heap.size la)
  replace hB := hB.grown hg hB.size (fun q hq => by have := (lta.out).2.1 q hq; omega)
  have zpa6 := hg.size
  clear hg
  clear pa6
  have e2 := b11.cell' (i := 8) rfl
  go_wp2_with fail
  clear e2
  refine (spoil_any W0.heap.size Fh fn fh xfile w11 hFh (by omega) (by omega)).mono ?_
  rintro e w12 ⟨rfl, hg⟩
  replace b6 := b6.over hg (fun q hq e => hFh.notBlk b6 (by decide) (by rw [hq]; exact e.symm))
  replace b7 := b7.over hg (fun q hq e => hFh.notBlk b7 (by decide) (by rw [hq]; exact e.symm))
  replace b11 := b11.over hg (fun q hq e => hFh.notBlk b11 (by decide) (by rw [hq]; exact e.symm))
  replace b12 := b12.over hg (fun q hq e => hFh.notBlk b12 (by decide) (by rw [hq]; exact e.symm))
  replace b15 := b15.over hg (fun q hq e => hFh.notBlk b15 (by decide) (by rw [hq]; exact e.symm))
  replace b18 := b18.over hg (fun q hq e => hFh.notBlk b18 (by decide) (by rw [hq]; exact e.symm))
  replace hFk := hFk.over hg (fun q hq hq2 => by have h1 := ltFh q hq; have h2 := ltFk q hq2; omega)
  replace hAk := hAk.over hg (fun q hq hq2 => by have h1 := ltFh q hq; have h2 := ltAk q hq2; omega)
  replace Mb := Mb.up (grownBy_turned hg) (fun q hq => by have h1 := ltFh q hq; omega)
  replace hAh := hAh.over hg (hFh.apart hAh (by decide))
  replace pa7 := pa7.over hg (hFh.apart pa7 (by decide))
  replace pa8 := (⟨fun i x hx => ⟨(pa8.1 i x hx).1.over hg (fun q hq hq2 => by have h1 := ltFh q hq; have h2 := ((lta.out).2.2.2 i x hx).1 q hq2; omega), (pa8.1 i x hx).2.over hg (fun q hq hq2 => by have h1 := ltFh q hq; have h2 := ((lta.out).2.2.2 i x hx).2 q hq2; omega)⟩, pa8.2⟩ : OwnParts w12 W1.heap.size la)
  replace hB := hB.grown hg hB.size (fun q hq => by have := ltFh q hq; omega)
  have zhFh := hg.size
  clear hg
  clear hFh
  have e8 := b11.cell' (i := 7) rfl
  go_wp2_with fail
  clear e8
  refine (overGaps_any W0.heap.size Ah an ah xhave w12 hAh (by omega) (by omega)).mono ?_
  rintro e w13 ⟨rfl, hg⟩
  replace b6 := b6.over hg (fun q hq e => hAh.notBlk b6 (by decide) (by rw [hq]; exact e.symm))
  replace b7 := b7.over hg (fun q hq e => hAh.notBlk b7 (by decide) (by rw [hq]; exact e.symm))
  replace b11 := b11.over hg (fun q hq e => hAh.notBlk b11 (by decide) (by rw [hq]; exact e.symm))
  replace b12 := b12.over hg (fun q hq e => hAh.notBlk b12 (by decide) (by rw [hq]; exact e.symm))
  replace b15 := b15.over hg (fun q hq e => hAh.notBlk b15 (by decide) (by rw [hq]; exact e.symm))
  replace b18 := b18.over hg (fun q hq e => hAh.notBlk b18 (by decide) (by rw [hq]; exact e.symm))
  replace hFk := hFk.over hg (fun q hq hq2 => by have h1 := ltAh q hq; have h2 := ltFk q hq2; omega)
  replace hAk := hAk.over hg (fun q hq hq2 => by have h1 := ltAh q hq; have h2 := ltAk q hq2; omega)
  replace Mb := Mb.up (grownBy_turned hg) (fun q hq => by have h1 := ltAh q hq; omega)
  replace pa7 := pa7.over hg (hAh.apart pa7 (by decide))
  replace pa8 := (⟨fun i x hx => ⟨(pa8.1 i x hx).1.over hg (fun q hq hq2 => by have h1 := ltAh q hq; have h2 := ((lta.out).2.2.2 i x hx).1 q hq2; omega), (pa8.1 i x hx).2.over hg (fun q hq hq2 => by have h1 := ltAh q hq; have h2 := ((lta.out).2.2.2 i x hx).2 q hq2; omega)⟩, pa8.2⟩ : OwnParts w13 W1.heap.size la)
  replace hB := hB.grown hg hB.size (fun q hq => by have := ltAh q hq; omega)
  have zhAh := hg.size
  clear hg
  clear hAh
  go_wp2_with fail
  refine (overNotes_any la ns Oa on ca W1.heap.size w2.heap.size w13 pa4 HON.out pa7 pa8 (by omega) (fun q hq => ((lta.out).2.2.1 q hq).2) (fun i x hx => ⟨fun q hq => (((lta.out).2.2.2 i x hx).1 q hq).2, fun q hq => (((lta.out).2.2.2 i x hx).2 q hq).2⟩) HFT.out (by omega)).mono ?_
  rintro e w14 ⟨rfl, hT⟩
  replace b15 := b15.turned hT (fun h => by have := h.2; omega)
  replace b18 := b18.turned hT (fun h => by have := h.2; omega)
  replace hFk := hFk.turned hT (fun q hq h => by have h1 := ltFk q hq; have := h.2; omega)
  replace hAk := hAk.turned hT (fun q hq h => by have h1 := ltAk q hq; have := h.2; omega)
  replace Mb := Mb.up hT (fun q h => by have := h.2; omega)
  replace hB := hB.trans (hT.below (N := w.heap.size) (fun q h => by have := h.1; omega) hB.size)
  have z14 := hT.size
  clear hT pa7 pa8 pa9 lta
  have eb15_0 := b15.cell' (i := 0) rfl
  have eb15_1 := b15.cell' (i := 1) rfl
  have eb15_2 := b15.cell' (i := 2) rfl
  have eb15_3 := b15.cell' (i := 3) rfl
  have eb15_4 := b15.cell' (i := 4) rfl
  have eb15_5 := b15.cell' (i := 5) rfl
  have eb15_6 := b15.cell' (i := 6) rfl
  have eb15_7 := b15.cell' (i := 7) rfl
  have eb15_8 := b15.cell' (i := 8) rfl
  have eb15_9 := b15.cell' (i := 9) rfl
  have eb15_10 := b15.cell' (i := 10) rfl
  have eb15_11 := b15.cell' (i := 11) rfl
  have eb15_12 := b15.cell' (i := 12) rfl
  have eb15_13 := b15.cell' (i := 13) rfl
  have eb18_0 := b18.cell' (i := 0) rfl
  have eb18_1 := b18.cell' (i := 1) rfl
  have eb18_2 := b18.cell' (i := 2) rfl
  have eb18_3 := b18.cell' (i := 3) rfl
  have eb18_4 := b18.cell' (i := 4) rfl
  have eb18_5 := b18.cell' (i := 5) rfl
  have eb18_6 := b18.cell' (i := 6) rfl
  have eb18_7 := b18.cell' (i := 7) rfl
  have eb18_8 := b18.cell' (i := 8) rfl
  have eb18_9 := b18.cell' (i := 9) rfl
  have eb18_10 := b18.cell' (i := 10) rfl
  have eb18_11 := b18.cell' (i := 11) rfl
  have eb18_12 := b18.cell' (i := 12) rfl
  have eb18_13 := b18.cell' (i := 13) rfl
  go_wp2_with fail
  clear eb15_0 eb15_1 eb15_2 eb15_3 eb15_4 eb15_5 eb15_6 eb15_7 eb15_8 eb15_9 eb15_10 eb15_11 eb15_12 eb15_13 eb18_0 eb18_1 eb18_2 eb18_3 eb18_4 eb18_5 eb18_6 eb18_7 eb18_8 eb18_9 eb18_10 eb18_11 eb18_12 eb18_13
  refine (CSk.out _ Fb Ab Fk Ak fb ab fk ak Mb.file.rd Mb.again.rd hFk.rd hAk.rd).mono ?_
  rintro e w15 ⟨rfl, hb⟩
  replace b15 := b15.step hb
  replace b18 := b18.step hb
  replace hFk := hFk.step hb
  replace hAk := hAk.step hb
  replace Mb := Mb.step hb
  replace hB := hB.trans (hb.mono hB.size)
  clear hb
  go_wp2_with fail
  refine (CN.out _ hB lb Ob cb Mb.ln (Mb.parts.rd Mb.out)).mono ?_
  rintro e w16 ⟨rfl, hb⟩
  go_wp2_with fail
  go_ret
  exact ⟨rfl, hB.trans (hb.mono hB.size)⟩
end Go.Proofs.Ytianombjgdmbeaa
