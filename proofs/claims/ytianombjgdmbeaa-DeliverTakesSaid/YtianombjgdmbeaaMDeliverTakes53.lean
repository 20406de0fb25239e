/-
  An argument that is a taker. The law DeliverTakes, walked.
-/
import Derived.Test.YtianombjgdmbeaaMDeliverTakes52
import Derived.Test.YtianombjgdmbeaaMDeliverTakes32
import Derived.Test.YtianombjgdmbeaaMDeliverTakes46
import Derived.Test.YtianombjgdmbeaaMDeliverTakes51
import Derived.Test.YtianombjgdmbeaaMDeliverTakes15
import Derived.Test.YtianombjgdmbeaaMDeliverTakes14
import Derived.Test.YtianombjgdmbeaaMDeliverTakes30
import Derived.Test.YtianombjgdmbeaaMDeliverTakes39
namespace Go.Proofs.Ytianombjgdmbeaa
set_option linter.unusedSimpArgs false
set_option linter.unusedVariables false
open Go.ChangeShapes Go.WideShapes Go.ChangeAt Go.RowKit Go.Joins Go.Deep

structure TkA where
  g : Tk
  F : Option Addr
  fc : Nat
  A : Option Addr
  ac : Nat
def tkav (x : TkA) : Value := tvv x.g x.F x.g.file.length x.fc x.A x.g.have_.length x.ac
structure TakerArg (w : World) (x : TkA) : Prop where
  file : Rd w x.F (bvs x.g.file)
  have_ : Rd w x.A (gps x.g.have_)
  fle : x.g.file.length ≤ 140737488351232
  fcap : x.g.file.length ≤ x.fc
  ale : x.g.have_.length ≤ 8796093022200
theorem list14T {α : Type} {l : List α} (h : l.length = 14) : ∃ c0 c1 c2 c3 c4 c5 c6 c7 c8 c9 c10 c11 c12 c13, l = [c0, c1, c2, c3, c4, c5, c6, c7, c8, c9, c10, c11, c12, c13] := by
  match l, h with
  | [c0, c1, c2, c3, c4, c5, c6, c7, c8, c9, c10, c11, c12, c13], _ => exact ⟨_, _, _, _, _, _, _, _, _, _, _, _, _, _, rfl⟩
set_option maxRecDepth 100000 in
theorem open_taker {H : Type} {enc : TypeId × Value → H} {w : World} {base : Nat} {spare : Nat → Bool} {held : Bool} {r : Reach} {b0 : Nat} {v : Value} {d : DataW H} {p : List MemPlace}
    (hw : Value.okWide Try.prog w r b0 44 v) (h : DataW.Trod enc Try.prog w base spare held 44 v d p) (hz : Sized Try.prog 44 d) :
    ∃ x : TkA, v = tkav x ∧ TakerArg w x := by
  obtain ⟨cs, rfl, hl, n, hf⟩ := open_agg Try.underlying44 (by kernel_rfl) (by kernel_rfl) hw h hz
  obtain ⟨c0, c1, c2, c3, c4, c5, c6, c7, c8, c9, c10, c11, c12, c13, rfl⟩ := list14T (hl.trans rfl)
  obtain ⟨u0, y0, e0, t0, s0⟩ := hf 0 _ rfl
  obtain ⟨z0, rfl, _⟩ := cell_int (k := .i64) (by kernel_rfl) t0
  obtain rfl : c0 = .int .i64 z0 := by simpa using e0
  obtain ⟨u3, y3, e3, t3, s3⟩ := hf 3 _ rfl
  obtain ⟨z3, rfl, _⟩ := cell_int (k := .i64) (by kernel_rfl) t3
  obtain rfl : c3 = .int .i64 z3 := by simpa using e3
  obtain ⟨u5, y5, e5, t5, s5⟩ := hf 5 _ rfl
  obtain ⟨z5, rfl, _⟩ := cell_int (k := .i64) (by kernel_rfl) t5
  obtain rfl : c5 = .int .i64 z5 := by simpa using e5
  obtain ⟨u6, y6, e6, t6, s6⟩ := hf 6 _ rfl
  obtain ⟨z6, rfl, _⟩ := cell_int (k := .i64) (by kernel_rfl) t6
  obtain rfl : c6 = .int .i64 z6 := by simpa using e6
  obtain ⟨u9, y9, e9, t9, s9⟩ := hf 9 _ rfl
  obtain ⟨z9, rfl, _⟩ := cell_int (k := .i64) (by kernel_rfl) t9
  obtain rfl : c9 = .int .i64 z9 := by simpa using e9
  obtain ⟨u10, y10, e10, t10, s10⟩ := hf 10 _ rfl
  obtain ⟨z10, rfl, _⟩ := cell_int (k := .i64) (by kernel_rfl) t10
  obtain rfl : c10 = .int .i64 z10 := by simpa using e10
  obtain ⟨u11, y11, e11, t11, s11⟩ := hf 11 _ rfl
  obtain ⟨z11, rfl, _⟩ := cell_int (k := .i64) (by kernel_rfl) t11
  obtain rfl : c11 = .int .i64 z11 := by simpa using e11
  obtain ⟨u12, y12, e12, t12, s12⟩ := hf 12 _ rfl
  obtain ⟨z12, rfl, _⟩ := cell_int (k := .i64) (by kernel_rfl) t12
  obtain rfl : c12 = .int .i64 z12 := by simpa using e12
  obtain ⟨u13, y13, e13, t13, s13⟩ := hf 13 _ rfl
  obtain ⟨z13, rfl, _⟩ := cell_int (k := .i64) (by kernel_rfl) t13
  obtain rfl : c13 = .int .i64 z13 := by simpa using e13
  obtain ⟨u1, y1, e1, t1, s1⟩ := hf 1 _ rfl
  obtain ⟨z1, rfl⟩ := cell_bool (by kernel_rfl) t1
  obtain rfl : c1 = .bool z1 := by simpa using e1
  obtain ⟨u4, y4, e4, t4, s4⟩ := hf 4 _ rfl
  obtain ⟨z4, rfl⟩ := cell_bool (by kernel_rfl) t4
  obtain rfl : c4 = .bool z4 := by simpa using e4
  obtain ⟨u2, y2, e2, t2, s2⟩ := hf 2 _ rfl
  obtain ⟨z2, rfl⟩ := cell_str (by kernel_rfl) t2
  obtain rfl : c2 = .string z2 := by simpa using e2
  obtain ⟨u8, y8, e8, t8, s8⟩ := hf 8 _ rfl
  obtain ⟨A2, l2, d2, rfl, hR2, hC2, hN2⟩ := cell_slice Try.underlying23 Try.underlying5 Try.cells1 Try.bytes1 t8 s8
  obtain rfl : c8 = .slice A2 l2.length d2 := by simpa using e8
  obtain ⟨u7, y7, e7, t7, s7⟩ := hf 7 _ rfl
  obtain ⟨A8, len8, cap8, rfl⟩ := slice_at Try.underlying24 t7
  obtain rfl : c7 = .slice A8 len8 cap8 := by simpa using e7
  obtain ⟨l8, rfl, hR8, hC8, hN8⟩ := cell_pairs Try.underlying24 Try.underlying66 Try.underlying3 (by kernel_rfl) cells66 bytes66 t7 s7
  exact ⟨⟨⟨z0, z1, z2, z3, z4, z5, z6, l8, l2, z9, z10, z11, z12, z13⟩, A2, d2, A8, cap8⟩, rfl, hR2, hR8, hN2, hC2, hN8⟩
end Go.Proofs.Ytianombjgdmbeaa
namespace Go.Proofs.Ytianombjgdmbeaa
set_option linter.unusedSimpArgs false
set_option linter.unusedVariables false
open Go.RowKit

/-- A taker that Take has left in a box, all in memory of its own. -/
def Left10 (w0 W : World) (p10 : Nat) (y : Tk) : Prop :=
  ∃ F8 n8 f8 A8 m8 a8, Blk W p10 44 (tkc y A8 m8 a8 F8 n8 f8) ∧ y.file.length = n8 ∧ y.have_.length = m8 ∧ Own W w0.heap.size 5 1 F8 n8 f8 (bvs y.file) ∧ Own W w0.heap.size 66 2 A8 m8 a8 (gps y.have_)
theorem Own.rowFar' {w : World} {base : Nat} {e : TypeId} {s n c r : Nat} {A : Option Addr} {xs : List Value} (h : Own w base e s A n c xs) (hr : blk A = some r → False) (C : Array Value) : Own (w.setRow r C) base e s A n c xs :=
  h.keep (w' := w.setRow r C) fun a ha _ => setRow_other _ _ a.block _ (fun e => hr (by rw [ha, ← e]; rfl))
set_option maxHeartbeats 12800000 in
set_option maxRecDepth 100000 in
theorem deliverTakes_walk (x : TkA) (m : NtA) (w : World) (hx : TakerArg w x) (hm : NoteArg w m) :
    Calls Try.prog 8 #[tkav x, ntav m] w fun e w' => e = .returned (.bool true) ∧ Below w.heap.size w w' := by
  obtain ⟨x, F, fc, A, ac⟩ := x
  obtain ⟨n, D, dc, G, gc⟩ := m
  obtain ⟨hF, hA, hfn, hfc, han⟩ := hx
  obtain ⟨hD, hG, hdn, hgn⟩ := hm
  unfold tkav ntav
  dsimp only at hF hA hfn hfc han hD hG hdn hgn ⊢
  obtain ⟨y, ns, k, hR⟩ : ∃ y ns k, takeR x n = (y, ns, k) := ⟨_, _, _, rfl⟩
  obtain ⟨k1, k2, k3, k4⟩ := takeR_fits hR
  obtain ⟨fn, hf⟩ : ∃ fn, x.file.length = fn := ⟨_, rfl⟩
  obtain ⟨an, ha⟩ : ∃ an, x.have_.length = an := ⟨_, rfl⟩
  obtain ⟨dn, hd⟩ : ∃ dn, n.data.length = dn := ⟨_, rfl⟩
  obtain ⟨gn, hg⟩ : ∃ gn, n.gaps.length = gn := ⟨_, rfl⟩
  rw [hf] at hfn hfc
  rw [ha] at han
  rw [hd] at hdn
  rw [hg] at hgn
  rw [hf, ha, hd, hg]
  have HYF : Hid (y.file.length ≤ 140737488351232) := Lib.hid (by
    rcases k1 with h | h
    · rw [h, hf]; exact hfn
    · omega)
  have HYL : Hid (y.have_.length ≤ 8796093022200) := Lib.hid (by
    rcases k2 with h | h
    · rw [h, ha]; exact han
    · omega)
  have HNF := Lib.hid (And.intro k3 k4)
  clear k1 k2 k3 k4
  have CR := Lib.hid (fun (V : World) (hB : Below w.heap.size w V) => takeOf_any x F fn fc A an ac n D dn dc G gn gc y ns k V hR hf ha (hF.below hB) (hA.below hB) hfn han hd hg (hD.below hB) (hG.below hB) hdn hgn)
  have CO := Lib.hid (fun (V : World) (hB : Below w.heap.size w V) => noteOwn_any n D dn dc G gn gc V hd hg hdn hgn (hD.below hB) (hG.below hB))
  have CT := Lib.hid (fun (V : World) (hB : Below w.heap.size w V) => takerOf_v x F fn fc A an ac V hf ha (hF.below hB) (hA.below hB) hfn han)
  have CA := Lib.hid (fun (V : World) (hB : Below w.heap.size w V) (nb g : Nat) (H : Option Addr) (hc : Nat) (F1 : Option Addr) (n1 f1 : Nat) (A1 : Option Addr) (m1 a1 : Nat) (O : Option Addr) (on oc : Nat) (l : List NtR) (base : Nat) (hM : GvMem V base (pg y) ns F1 n1 f1 A1 m1 a1 O on oc l) (hDr : Rd V (some ⟨g, 0, none⟩) (bvs n.data)) (hDl : g < V.heap.size) (hH : Rd V H (gps n.gaps)) (hnb : Blk V nb 27 #[.int .i64 n.kind, .int .i64 n.id, .string n.name, .int .i64 n.size, .int .i64 n.sum, .int .i64 n.at_, .slice (some ⟨g, 0, none⟩) dn (dn + 5), .slice H gn hc, .int .i64 n.of_, .int .i64 n.code]) =>
    takerAs_Takes (.pointer (some ⟨nb, 0, none⟩)) x y ns k F fn fc A an ac F1 n1 f1 A1 m1 a1 O on oc l V hf ha (hF.below hB) (hA.below hB) hfn han hM.fl hM.al hM.file.rd hM.again.rd (by have h := HYF.out; have e : y.file.length = n1 := hM.fl; omega) (by have h := HYL.out; have e : y.have_.length = m1 := hM.al; omega) (hM.parts.rd hM.out) hM.ln hM.nl HNF.out.1 (by have e := hM.nl; have := HNF.out.2; omega)
      (fun V' F' A' f' a' hBV h1 h2 h3 => takes1_any x F' fn f' A' an a' n (some ⟨g, 0, none⟩) dn (dn + 5) H gn hc y ns k nb V' hR hf ha h1 h2 hfn h3 han hd hg (hDr.below hBV) (fun i hi => by have h : g = i := Option.some.inj hi; have := hBV.size; omega) (hH.below hBV) (hnb.below' hBV)))
  have CK := Lib.hid (fun (V : World) (g : Nat) (H : Option Addr) (hc : Nat) (F9 : Option Addr) (f9 : Nat) (A9 : Option Addr) (a9 : Nat) (h1 : Rd V F9 (bvs x.file)) (h2 : Rd V A9 (gps x.have_)) (h3 : fn ≤ f9) (hDr : Rd V (some ⟨g, 0, none⟩) (bvs n.data)) (hDl : g < V.heap.size) (hH : Rd V H (gps n.gaps)) => take_any x F9 fn f9 A9 an a9 n (some ⟨g, 0, none⟩) dn (dn + 5) H gn hc y ns k V hR hf ha h1 h2 hfn h3 han hd hg hDr (fun i hi => by have h : g = i := Option.some.inj hi; omega) hH)
  have CN := Lib.hid (fun (V : World) (hB : Below w.heap.size w V) (g : Nat) (H : Option Addr) (hc : Nat) (hRm : Rd V (some ⟨g, 0, none⟩) (bvs n.data)) (hH : Rd V H (gps n.gaps)) => sameNote_yes n (some ⟨g, 0, none⟩) D dn (dn + 5) dc H G gn hc gc V hd hg (by omega) (by omega) hRm (hD.below hB) hH (hG.below hB))
  have CP := Lib.hid (fun (base : Nat) (V : World) (g : Nat) (hR : Room V g n.data) (hb : base ≤ g) (hbV : base ≤ V.heap.size) => spoil_any base (some ⟨g, 0, none⟩) dn (dn + 5) n.data V (by rw [← hd]; exact hR.own (by unfold maxLen; omega) hb) (by omega) hbV)
  have CS := Lib.hid (fun (V : World) (F1 : Option Addr) (n1 f1 : Nat) (A1 : Option Addr) (m1 a1 : Nat) (F8 : Option Addr) (f8 : Nat) (A8 : Option Addr) (a8 : Nat) (h1 : y.file.length = n1) (h2 : y.have_.length = m1) (r1 : Rd V F1 (bvs y.file)) (r2 : Rd V A1 (gps y.have_)) (r3 : Rd V F8 (bvs y.file)) (r4 : Rd V A8 (gps y.have_)) => sameTv_yes y F8 F1 n1 f8 f1 A8 A1 m1 a8 a1 V h1 h2 (by have := HYF.out; omega) (by have := HYL.out; omega) r3 r1 r4 r2)
  have HDN := Lib.hid hdn
  have HDL := Lib.hid hd
  clear hF hA hD hG hf ha hd hg HYL HYF HNF hR
  obtain ⟨id, known, name, size, ended, last, sum, have_, file, stage, timer, patience, tries, limit⟩ := x
  obtain ⟨nk, nid, nn, ns_, nsum, nat_, nd, ng, nof, ncode⟩ := n
  unfold tvv tkv tkc at CR CA CT CK
  unfold ntv at CR CO CK CN
  unfold tvv tkv tkc ntv
  dsimp only at CR CO CA CT CK CN CP HDL ⊢
  have b1 := (Blk.new w 44 #[.int .i64 id, .bool known, .string name, .int .i64 size, .bool ended, .int .i64 last, .int .i64 sum, .slice A an ac, .slice F fn fc, .int .i64 stage, .int .i64 timer, .int .i64 patience, .int .i64 tries, .int .i64 limit]).alloc (.cells #[.int .i64 nk, .int .i64 nid, .string nn, .int .i64 ns_, .int .i64 nsum, .int .i64 nat_, .slice D dn dc, .slice G gn gc, .int .i64 nof, .int .i64 ncode] 27)
  have bn := Blk.new (w.alloc (.cells #[.int .i64 id, .bool known, .string name, .int .i64 size, .bool ended, .int .i64 last, .int .i64 sum, .slice A an ac, .slice F fn fc, .int .i64 stage, .int .i64 timer, .int .i64 patience, .int .i64 tries, .int .i64 limit] 44)) 27 #[.int .i64 nk, .int .i64 nid, .string nn, .int .i64 ns_, .int .i64 nsum, .int .i64 nat_, .slice D dn dc, .slice G gn gc, .int .i64 nof, .int .i64 ncode]
  rw [show (w.alloc (.cells #[.int .i64 id, .bool known, .string name, .int .i64 size, .bool ended, .int .i64 last, .int .i64 sum, .slice A an ac, .slice F fn fc, .int .i64 stage, .int .i64 timer, .int .i64 patience, .int .i64 tries, .int .i64 limit] 44)).heap.size = w.heap.size + 1 by simp] at bn
  have hB : Below w.heap.size w ((w.alloc (.cells #[.int .i64 id, .bool known, .string name, .int .i64 size, .bool ended, .int .i64 last, .int .i64 sum, .slice A an ac, .slice F fn fc, .int .i64 stage, .int .i64 timer, .int .i64 patience, .int .i64 tries, .int .i64 limit] 44)).alloc (.cells #[.int .i64 nk, .int .i64 nid, .string nn, .int .i64 ns_, .int .i64 nsum, .int .i64 nat_, .slice D dn dc, .slice G gn gc, .int .i64 nof, .int .i64 ncode] 27)) := ((Below.refl _ _).alloc (Nat.le_refl _) _).alloc (by simp) _
  go_enter Try.func8, Try.ntmps8
  go_upto_region 1 with fail
  generalize (w.alloc (.cells #[.int .i64 id, .bool known, .string name, .int .i64 size, .bool ended, .int .i64 last, .int .i64 sum, .slice A an ac, .slice F fn fc, .int .i64 stage, .int .i64 timer, .int .i64 patience, .int .i64 tries, .int .i64 limit] 44)).alloc (.cells #[.int .i64 nk, .int .i64 nid, .string nn, .int .i64 ns_, .int .i64 nsum, .int .i64 nat_, .slice D dn dc, .slice G gn gc, .int .i64 nof, .int .i64 ncode] 27) = W at *
  go_wp2_with (first
    | (refine wpList_load_row rfl 44 (.tmp 2) rfl w.heap.size rfl 44 #[.int .i64 id, .bool known, .string name, .int .i64 size, .bool ended, .int .i64 last, .int .i64 sum, .slice A an ac, .slice F fn fc, .int .i64 stage, .int .i64 timer, .int .i64 patience, .int .i64 tries, .int .i64 limit] (0, 0) _ b1 Try.underlying44 rfl takersz ?_)
    | (refine wpList_load_row rfl 27 (.tmp 3) rfl (w.heap.size + 1) rfl 27 #[.int .i64 nk, .int .i64 nid, .string nn, .int .i64 ns_, .int .i64 nsum, .int .i64 nat_, .slice D dn dc, .slice G gn gc, .int .i64 nof, .int .i64 ncode] (0, 0) _ bn Try.underlying27 rfl notesz ?_))
  refine (CR.out _ hB).mono ?_
  intro e w1 h1
  obtain ⟨F1, n1, f1, A1, m1, a1, O, on, oc, l, rfl, hM, hb⟩ := h1
  replace b1 := b1.step hb
  replace bn := bn.step hb
  replace hB := hB.trans (hb.mono hB.size)
  clear hb CR
  obtain ⟨yid, yknown, yname, ysize, yended, ylast, ysum, yhave_, yfile, ystage, ytimer, ypatience, ytries, ylimit⟩ := y
  unfold tvv tkv tkc
  unfold tvv tkv tkc at CS
  dsimp only at CA CS ⊢
  go_upto_region 2 with fail
  trace "A"
  have l0 := bn.lt
  have b5 := Blk.new w1 44 #[.int .i64 yid, .bool yknown, .string yname, .int .i64 ysize, .bool yended, .int .i64 ylast, .int .i64 ysum, .slice A1 m1 a1, .slice F1 n1 f1, .int .i64 ystage, .int .i64 ytimer, .int .i64 ypatience, .int .i64 ytries, .int .i64 ylimit]
  replace b1 := b1.alloc (.cells #[.int .i64 yid, .bool yknown, .string yname, .int .i64 ysize, .bool yended, .int .i64 ylast, .int .i64 ysum, .slice A1 m1 a1, .slice F1 n1 f1, .int .i64 ystage, .int .i64 ytimer, .int .i64 ypatience, .int .i64 ytries, .int .i64 ylimit] 44)
  replace bn := bn.alloc (.cells #[.int .i64 yid, .bool yknown, .string yname, .int .i64 ysize, .bool yended, .int .i64 ylast, .int .i64 ysum, .slice A1 m1 a1, .slice F1 n1 f1, .int .i64 ystage, .int .i64 ytimer, .int .i64 ypatience, .int .i64 ytries, .int .i64 ylimit] 44)
  replace hM := hM.map (fun _ _ _ _ _ _ h => h.alloc (.cells #[.int .i64 yid, .bool yknown, .string yname, .int .i64 ysize, .bool yended, .int .i64 ylast, .int .i64 ysum, .slice A1 m1 a1, .slice F1 n1 f1, .int .i64 ystage, .int .i64 ytimer, .int .i64 ypatience, .int .i64 ytries, .int .i64 ylimit] 44))
  replace hB := hB.alloc hB.size (.cells #[.int .i64 yid, .bool yknown, .string yname, .int .i64 ysize, .bool yended, .int .i64 ylast, .int .i64 ysum, .slice A1 m1 a1, .slice F1 n1 f1, .int .i64 ystage, .int .i64 ytimer, .int .i64 ypatience, .int .i64 ytries, .int .i64 ylimit] 44)
  obtain ⟨p5, hp5⟩ : ∃ p, w1.heap.size = p := ⟨_, rfl⟩
  rw [hp5] at b5 ⊢
  have zp5 : w.heap.size + 2 ≤ p5 := by omega
  clear hp5
  generalize w1.alloc (.cells #[.int .i64 yid, .bool yknown, .string yname, .int .i64 ysize, .bool yended, .int .i64 ylast, .int .i64 ysum, .slice A1 m1 a1, .slice F1 n1 f1, .int .i64 ystage, .int .i64 ytimer, .int .i64 ypatience, .int .i64 ytries, .int .i64 ylimit] 44) = W1 at *
  go_wp2_with (refine wpList_load_row rfl 27 (.tmp 3) rfl (w.heap.size + 1) rfl 27 #[.int .i64 nk, .int .i64 nid, .string nn, .int .i64 ns_, .int .i64 nsum, .int .i64 nat_, .slice D dn dc, .slice G gn gc, .int .i64 nof, .int .i64 ncode] (0, 0) _ bn Try.underlying27 rfl notesz ?_)
  refine (CO.out _ hB).mono ?_
  rintro e w2 ⟨g, H, hc, rfl, hg, hRm, hH, hb⟩
  have l5 := b5.lt
  have zm := Lib.hid (fun (i : Nat) (h : blk F1 = some i) => (hM.file.lt i h).2)
  have zmA := Lib.hid (fun (i : Nat) (h : blk A1 = some i) => (hM.again.lt i h).2)
  have zb := hb.size
  replace b1 := b1.step hb
  replace bn := bn.step hb
  replace b5 := b5.step hb
  replace hM := hM.step hb
  replace hB := hB.trans (hb.mono hB.size)
  clear hb CO
  go_upto_region 3 with fail
  trace "B"
  have b8 := Blk.new w2 27 #[.int .i64 nk, .int .i64 nid, .string nn, .int .i64 ns_, .int .i64 nsum, .int .i64 nat_, .slice (some ⟨g, 0, none⟩) dn (dn + 5), .slice H gn hc, .int .i64 nof, .int .i64 ncode]
  replace b1 := b1.alloc (.cells #[.int .i64 nk, .int .i64 nid, .string nn, .int .i64 ns_, .int .i64 nsum, .int .i64 nat_, .slice (some ⟨g, 0, none⟩) dn (dn + 5), .slice H gn hc, .int .i64 nof, .int .i64 ncode] 27)
  replace bn := bn.alloc (.cells #[.int .i64 nk, .int .i64 nid, .string nn, .int .i64 ns_, .int .i64 nsum, .int .i64 nat_, .slice (some ⟨g, 0, none⟩) dn (dn + 5), .slice H gn hc, .int .i64 nof, .int .i64 ncode] 27)
  replace b5 := b5.alloc (.cells #[.int .i64 nk, .int .i64 nid, .string nn, .int .i64 ns_, .int .i64 nsum, .int .i64 nat_, .slice (some ⟨g, 0, none⟩) dn (dn + 5), .slice H gn hc, .int .i64 nof, .int .i64 ncode] 27)
  replace hM := hM.map (fun _ _ _ _ _ _ h => h.alloc (.cells #[.int .i64 nk, .int .i64 nid, .string nn, .int .i64 ns_, .int .i64 nsum, .int .i64 nat_, .slice (some ⟨g, 0, none⟩) dn (dn + 5), .slice H gn hc, .int .i64 nof, .int .i64 ncode] 27))
  replace hRm := hRm.below ((Below.refl _ _).alloc (Nat.le_refl _) (.cells #[.int .i64 nk, .int .i64 nid, .string nn, .int .i64 ns_, .int .i64 nsum, .int .i64 nat_, .slice (some ⟨g, 0, none⟩) dn (dn + 5), .slice H gn hc, .int .i64 nof, .int .i64 ncode] 27))
  replace hH := hH.alloc (.cells #[.int .i64 nk, .int .i64 nid, .string nn, .int .i64 ns_, .int .i64 nsum, .int .i64 nat_, .slice (some ⟨g, 0, none⟩) dn (dn + 5), .slice H gn hc, .int .i64 nof, .int .i64 ncode] 27)
  replace hB := hB.alloc hB.size (.cells #[.int .i64 nk, .int .i64 nid, .string nn, .int .i64 ns_, .int .i64 nsum, .int .i64 nat_, .slice (some ⟨g, 0, none⟩) dn (dn + 5), .slice H gn hc, .int .i64 nof, .int .i64 ncode] 27)
  obtain ⟨p8, hp8⟩ : ∃ p, w2.heap.size = p := ⟨_, rfl⟩
  rw [hp8] at b8 ⊢
  have zp8 : W1.heap.size ≤ p8 := by omega
  clear hp8
  generalize w2.alloc (.cells #[.int .i64 nk, .int .i64 nid, .string nn, .int .i64 ns_, .int .i64 nsum, .int .i64 nat_, .slice (some ⟨g, 0, none⟩) dn (dn + 5), .slice H gn hc, .int .i64 nof, .int .i64 ncode] 27) = W2 at *
  have lg : g < W2.heap.size := RoomK.lt hRm
  have CA2 := Lib.hid (CA.out W2 hB p8 g H hc F1 n1 f1 A1 m1 a1 O on oc l _ hM hRm.rd lg hH.rd b8)
  have HFL := Lib.hid hM.fl
  have HAL := Lib.hid hM.al
  have hF1 := hM.file
  have hA1 := hM.again
  have CN3 := Lib.hid (fun (V : World) (hBV : Below w.heap.size w V) (h1 : Rd V (some ⟨g, 0, none⟩) (bvs nd)) (h2 : Rd V H (gps ng)) => CN.out V hBV g H hc h1 h2)
  clear CA hM CN
  trace "C"
  go_wp2_with (first
    | (refine wpList_load_row rfl 44 (.tmp 2) rfl w.heap.size rfl 44 #[.int .i64 id, .bool known, .string name, .int .i64 size, .bool ended, .int .i64 last, .int .i64 sum, .slice A an ac, .slice F fn fc, .int .i64 stage, .int .i64 timer, .int .i64 patience, .int .i64 tries, .int .i64 limit] (0, 0) _ b1 Try.underlying44 rfl takersz ?_)
    | (refine wpList_load_row rfl 44 (.tmp 5) rfl p5 rfl 44 #[.int .i64 yid, .bool yknown, .string yname, .int .i64 ysize, .bool yended, .int .i64 ylast, .int .i64 ysum, .slice A1 m1 a1, .slice F1 n1 f1, .int .i64 ystage, .int .i64 ytimer, .int .i64 ypatience, .int .i64 ytries, .int .i64 ylimit] (0, 0) _ b5 Try.underlying44 rfl takersz ?_))
  refine CA2.out.mono ?_
  rintro e w3 ⟨rfl, hb⟩
  replace b1 := b1.step hb
  replace bn := bn.step hb
  replace b5 := b5.step hb
  replace b8 := b8.step hb
  replace hRm := hRm.below hb
  replace hH := hH.step hb
  replace hF1 := hF1.step hb
  replace hA1 := hA1.step hb
  replace hB := hB.trans (hb.mono hB.size)
  have lg3 : g < w3.heap.size := by have := hb.size; omega
  clear hb CA2
  have x0 := bn.cell' (i := 0) rfl
  have y0 := b8.cell' (i := 0) rfl
  have x1 := bn.cell' (i := 1) rfl
  have y1 := b8.cell' (i := 1) rfl
  have x2 := bn.cell' (i := 2) rfl
  have y2 := b8.cell' (i := 2) rfl
  have x3 := bn.cell' (i := 3) rfl
  have y3 := b8.cell' (i := 3) rfl
  have x4 := bn.cell' (i := 4) rfl
  have y4 := b8.cell' (i := 4) rfl
  have x5 := bn.cell' (i := 5) rfl
  have y5 := b8.cell' (i := 5) rfl
  have x6 := bn.cell' (i := 6) rfl
  have y6 := b8.cell' (i := 6) rfl
  have x7 := bn.cell' (i := 7) rfl
  have y7 := b8.cell' (i := 7) rfl
  have x8 := bn.cell' (i := 8) rfl
  have y8 := b8.cell' (i := 8) rfl
  have x9 := bn.cell' (i := 9) rfl
  have y9 := b8.cell' (i := 9) rfl
  trace "D"
  go_wp2_with fail
  refine (CN3.out _ hB hRm.rd hH.rd).mono ?_
  rintro e w4 ⟨rfl, hb⟩
  replace b1 := b1.step hb
  replace b5 := b5.step hb
  replace b8 := b8.step hb
  replace hRm := hRm.below hb
  replace hH := hH.step hb
  replace hF1 := hF1.step hb
  replace hA1 := hA1.step hb
  replace hB := hB.trans (hb.mono hB.size)
  replace lg3 : g < w4.heap.size := by have := hb.size; omega
  clear hb CN3 x0 y0 x1 y1 x2 y2 x3 y3 x4 y4 x5 y5 x6 y6 x7 y7 x8 y8 x9 y9
  go_upto_region 6 with fail
  trace "E"
  have l8 := b8.lt
  have l54 := b5.lt
  go_cut [10] (fun s wx => ∃ (p10 : Nat) (W : World), W = wx ∧ s = .pointer (some ⟨p10, 0, none⟩) ∧ Left10 w4 W p10 ⟨yid, yknown, yname, ysize, yended, ylast, ysum, yhave_, yfile, ystage, ytimer, ypatience, ytries, ylimit⟩ ∧ Below w4.heap.size w4 W)
  case first =>
    trace "F"
    refine freeRegion (fun v => Blk v w.heap.size 44 #[.int .i64 id, .bool known, .string name, .int .i64 size, .bool ended, .int .i64 last, .int .i64 sum, .slice A an ac, .slice F fn fc, .int .i64 stage, .int .i64 timer, .int .i64 patience, .int .i64 tries, .int .i64 limit] ∧ Blk v p8 27 #[.int .i64 nk, .int .i64 nid, .string nn, .int .i64 ns_, .int .i64 nsum, .int .i64 nat_, .slice (some ⟨g, 0, none⟩) dn (dn + 5), .slice H gn hc, .int .i64 nof, .int .i64 ncode]) (by kernel_rfl) (by kernel_rfl) ⟨b1.drew, b8.drew⟩ (fun hSS => ?_)
    clear hSS
    replace b1 := b1.drew
    replace b8 := b8.drew
    replace hRm := hRm.below ((Below.refl w4.heap.size w4).drew)
    replace hH := hH.drew
    have hBW := hB.drew
    have hB4 : Below w4.heap.size w4 w4.drew := (Below.refl _ _).drew
    have lgD : g < w4.drew.heap.size := lg3
    clear hF1 hA1 b5
    generalize w4.drew = V0 at *
    refine free_take 0 (v := ?va0) rfl (by kernel_rfl) (by kernel_rfl) (fun _ _ _ h => h) (⟨b1, b8⟩) (Or.inl ⟨by rfl, ?ya0⟩) ?ra0
    case ya0 => intro w hSw; obtain ⟨hw, hx⟩ := _root_.id hSw; have e0 := hw.cell' (i := 0) rfl; have e1 := hw.cell' (i := 1) rfl; have e2 := hw.cell' (i := 2) rfl; have e3 := hw.cell' (i := 3) rfl; have e4 := hw.cell' (i := 4) rfl; have e5 := hw.cell' (i := 5) rfl; have e6 := hw.cell' (i := 6) rfl; have e7 := hw.cell' (i := 7) rfl; have e8 := hw.cell' (i := 8) rfl; have e9 := hw.cell' (i := 9) rfl; have e10 := hw.cell' (i := 10) rfl; have e11 := hw.cell' (i := 11) rfl; have e12 := hw.cell' (i := 12) rfl; have e13 := hw.cell' (i := 13) rfl; have d0 := hx.cell' (i := 0) rfl; have d1 := hx.cell' (i := 1) rfl; have d2 := hx.cell' (i := 2) rfl; have d3 := hx.cell' (i := 3) rfl; have d4 := hx.cell' (i := 4) rfl; have d5 := hx.cell' (i := 5) rfl; have d6 := hx.cell' (i := 6) rfl; have d7 := hx.cell' (i := 7) rfl; have d8 := hx.cell' (i := 8) rfl; have d9 := hx.cell' (i := 9) rfl; have hSx := hSw; (try dsimp only at hSw); go_simp; try rfl
    case' ra0 => try simp only [List.getElem_toArray, List.getElem_cons_succ, List.getElem_cons_zero, Act.put, List.setIfInBounds_toArray, List.set_cons_zero, List.set_cons_succ]
    refine free_take 2 (v := ?va2) rfl (by kernel_rfl) (by kernel_rfl) (fun _ _ _ h => h) (⟨b1, b8⟩) (Or.inl ⟨by rfl, ?ya2⟩) ?ra2
    case ya2 => intro w hSw; obtain ⟨hw, hx⟩ := _root_.id hSw; have e0 := hw.cell' (i := 0) rfl; have e1 := hw.cell' (i := 1) rfl; have e2 := hw.cell' (i := 2) rfl; have e3 := hw.cell' (i := 3) rfl; have e4 := hw.cell' (i := 4) rfl; have e5 := hw.cell' (i := 5) rfl; have e6 := hw.cell' (i := 6) rfl; have e7 := hw.cell' (i := 7) rfl; have e8 := hw.cell' (i := 8) rfl; have e9 := hw.cell' (i := 9) rfl; have e10 := hw.cell' (i := 10) rfl; have e11 := hw.cell' (i := 11) rfl; have e12 := hw.cell' (i := 12) rfl; have e13 := hw.cell' (i := 13) rfl; have d0 := hx.cell' (i := 0) rfl; have d1 := hx.cell' (i := 1) rfl; have d2 := hx.cell' (i := 2) rfl; have d3 := hx.cell' (i := 3) rfl; have d4 := hx.cell' (i := 4) rfl; have d5 := hx.cell' (i := 5) rfl; have d6 := hx.cell' (i := 6) rfl; have d7 := hx.cell' (i := 7) rfl; have d8 := hx.cell' (i := 8) rfl; have d9 := hx.cell' (i := 9) rfl; have hSx := hSw; (try dsimp only at hSw); go_simp; try rfl
    case' ra2 => try simp only [List.getElem_toArray, List.getElem_cons_succ, List.getElem_cons_zero, Act.put, List.setIfInBounds_toArray, List.set_cons_zero, List.set_cons_succ]
    trace "G"
    refine free_step2 1 8 rfl rfl (by kernel_rfl) (fun K hK => ?w1) (fun K hK => ?w2)
    case w1 =>
      go_simp
      refine (CT.out _ hBW).mono ?_
      rintro e v3 ⟨F9, f9, A9, a9, rfl, hF9, hA9, hb⟩
      replace b1 := b1.step hb
      replace b8 := b8.step hb
      replace hH := hH.step hb
      replace hRm := hRm.below hb
      replace hBW := hBW.trans (hb.mono hBW.size)
      replace hB4 := hB4.trans (hb.mono hB4.size)
      replace lgD := Nat.lt_of_lt_of_le lgD hb.size
      refine hK _ _ ⟨b1, b8⟩ ?_
      clear hK K hb
      try simp only [List.getElem_toArray, List.getElem_cons_succ, List.getElem_cons_zero, Act.put, List.setIfInBounds_toArray, List.set_cons_zero, List.set_cons_succ]
      refine free_step2 3 8 rfl rfl (by kernel_rfl) (fun K hK => ?w4) (fun K hK => ?w5)
      case w4 =>
        go_simp
        refine (CK.out _ g H hc F9 f9 A9 a9 hF9.rd hA9.rd hF9.le hRm.rd lgD hH.rd).mono ?_
        rintro e v6 ⟨F8, n8, f8, A8, m8, a8, O8, on8, oc8, l8, rfl, hM8, hb⟩
        have zb8 : w4.heap.size ≤ v3.heap.size := hB4.size
        replace b1 := b1.step hb
        replace b8 := b8.step hb
        replace hH := hH.step hb
        replace hRm := hRm.below hb
        replace hBW := hBW.trans (hb.mono hBW.size)
        replace hB4 := hB4.trans (hb.mono hB4.size)
        replace lgD := Nat.lt_of_lt_of_le lgD hb.size
        refine hK _ _ ⟨b1, b8⟩ ?_
        clear hK K hb hF9 hA9
        unfold tvv tkv tkc
        dsimp only
        try simp only [List.getElem_toArray, List.getElem_cons_succ, List.getElem_cons_zero, Act.put, List.setIfInBounds_toArray, List.set_cons_zero, List.set_cons_succ]
        refine free_take 4 (v := ?vx74) rfl (by kernel_rfl) (by kernel_rfl) (fun _ _ _ h => h) (⟨b1, b8⟩) (Or.inl ⟨by rfl, ?yx74⟩) ?rx74
        case yx74 => intro w hSw; (try dsimp only at hSw); go_simp; try rfl
        case' rx74 => try simp only [List.getElem_toArray, List.getElem_cons_succ, List.getElem_cons_zero, Act.put, List.setIfInBounds_toArray, List.set_cons_zero, List.set_cons_succ]
        refine free_take 5 (v := ?vx75) rfl (by kernel_rfl) (by kernel_rfl) (fun _ _ _ h => h) (⟨b1, b8⟩) (Or.inl ⟨by rfl, ?yx75⟩) ?rx75
        case yx75 => intro w hSw; (try dsimp only at hSw); go_simp; try rfl
        case' rx75 => try simp only [List.getElem_toArray, List.getElem_cons_succ, List.getElem_cons_zero, Act.put, List.setIfInBounds_toArray, List.set_cons_zero, List.set_cons_succ]
        refine free_take 6 (v := ?vx76) rfl (by kernel_rfl) (by kernel_rfl) (fun _ _ _ h => h) (⟨b1, b8⟩) (Or.inl ⟨by rfl, ?yx76⟩) ?rx76
        case yx76 => intro w hSw; (try dsimp only at hSw); go_simp; try rfl
        case' rx76 => try simp only [List.getElem_toArray, List.getElem_cons_succ, List.getElem_cons_zero, Act.put, List.setIfInBounds_toArray, List.set_cons_zero, List.set_cons_succ]
        refine free_take 7 (v := ?vx77) rfl (by kernel_rfl) (by kernel_rfl) (fun _ _ _ h => h) (⟨b1, b8⟩) (Or.inl ⟨by rfl, ?yx77⟩) ?rx77
        case yx77 => intro w hSw; (try dsimp only at hSw); go_simp; try rfl
        case' rx77 => try simp only [List.getElem_toArray, List.getElem_cons_succ, List.getElem_cons_zero, Act.put, List.setIfInBounds_toArray, List.set_cons_zero, List.set_cons_succ]
        refine free_step 8 rfl (by kernel_rfl) (fun K hK => ?w8)
        case w8 =>
          go_simp
          have bz := Blk.new v6 44 #[.int .i64 0, .bool false, .string ⟨#[]⟩, .int .i64 0, .bool false, .int .i64 0, .int .i64 0, .slice none 0 0, .slice none 0 0, .int .i64 0, .int .i64 0, .int .i64 0, .int .i64 0, .int .i64 0]
          have hza : w4.heap.size ≤ v6.heap.size := hB4.size
          have hz := (Below.refl v6.heap.size v6).alloc (Nat.le_refl _) (.cells #[.int .i64 0, .bool false, .string ⟨#[]⟩, .int .i64 0, .bool false, .int .i64 0, .int .i64 0, .slice none 0 0, .slice none 0 0, .int .i64 0, .int .i64 0, .int .i64 0, .int .i64 0, .int .i64 0] 44)
          replace b1 := b1.step hz
          replace b8 := b8.step hz
          replace hH := hH.step hz
          replace hRm := hRm.below hz
          replace hBW := hBW.trans (hz.mono hBW.size)
          replace hB4 := hB4.trans (hz.mono hB4.size)
          replace lgD := Nat.lt_of_lt_of_le lgD hz.size
          replace hM8 := hM8.step hz
          obtain ⟨p10, hp10⟩ : ∃ p, v6.heap.size = p := ⟨_, rfl⟩
          rw [hp10] at bz hza ⊢
          clear hz hp10
          refine hK _ _ ⟨b1, b8⟩ ?_
          clear hK K
          try simp only [List.getElem_toArray, List.getElem_cons_succ, List.getElem_cons_zero, Act.put, List.setIfInBounds_toArray, List.set_cons_zero, List.set_cons_succ]
          generalize v6.alloc (.cells #[.int .i64 0, .bool false, .string ⟨#[]⟩, .int .i64 0, .bool false, .int .i64 0, .int .i64 0, .slice none 0 0, .slice none 0 0, .int .i64 0, .int .i64 0, .int .i64 0, .int .i64 0, .int .i64 0] 44) = v6a at *
          refine free_step 9 rfl (by kernel_rfl) (fun K hK => ?z10)
          case z10 =>
            rw [if_pos (by kernel_rfl)]
            refine wp_store_row 44 (.tmp 10) (.tmp 41) rfl p10 #[.int .i64 yid, .bool yknown, .string yname, .int .i64 ysize, .bool yended, .int .i64 ylast, .int .i64 ysum, .slice A8 m8 a8, .slice F8 n8 f8, .int .i64 ystage, .int .i64 ytimer, .int .i64 ypatience, .int .i64 ytries, .int .i64 ylimit] rfl rfl 44 _ bz takersz rfl (by simp [Value.oneCell']) ?_
            have b1' := b1.farRow (g := p10) (by omega) #[.int .i64 yid, .bool yknown, .string yname, .int .i64 ysize, .bool yended, .int .i64 ylast, .int .i64 ysum, .slice A8 m8 a8, .slice F8 n8 f8, .int .i64 ystage, .int .i64 ytimer, .int .i64 ypatience, .int .i64 ytries, .int .i64 ylimit]
            have b8' := b8.farRow (g := p10) (by omega) #[.int .i64 yid, .bool yknown, .string yname, .int .i64 ysize, .bool yended, .int .i64 ylast, .int .i64 ysum, .slice A8 m8 a8, .slice F8 n8 f8, .int .i64 ystage, .int .i64 ytimer, .int .i64 ypatience, .int .i64 ytries, .int .i64 ylimit]
            have bz' := bz.row #[.int .i64 yid, .bool yknown, .string yname, .int .i64 ysize, .bool yended, .int .i64 ylast, .int .i64 ysum, .slice A8 m8 a8, .slice F8 n8 f8, .int .i64 ystage, .int .i64 ytimer, .int .i64 ypatience, .int .i64 ytries, .int .i64 ylimit]
            have hB' := below_row hB4 (g := p10) (by omega) #[.int .i64 yid, .bool yknown, .string yname, .int .i64 ysize, .bool yended, .int .i64 ylast, .int .i64 ysum, .slice A8 m8 a8, .slice F8 n8 f8, .int .i64 ystage, .int .i64 ytimer, .int .i64 ypatience, .int .i64 ytries, .int .i64 ylimit]
            have hF' := (hM8.file.rowFar' (r := p10) (fun h => hM8.file.notBlk bz (by decide) h) #[.int .i64 yid, .bool yknown, .string yname, .int .i64 ysize, .bool yended, .int .i64 ylast, .int .i64 ysum, .slice A8 m8 a8, .slice F8 n8 f8, .int .i64 ystage, .int .i64 ytimer, .int .i64 ypatience, .int .i64 ytries, .int .i64 ylimit]).mono zb8
            have hA' := (hM8.again.rowFar' (r := p10) (fun h => hM8.again.notBlk bz (by decide) h) #[.int .i64 yid, .bool yknown, .string yname, .int .i64 ysize, .bool yended, .int .i64 ylast, .int .i64 ysum, .slice A8 m8 a8, .slice F8 n8 f8, .int .i64 ystage, .int .i64 ytimer, .int .i64 ypatience, .int .i64 ytries, .int .i64 ylimit]).mono zb8
            have hL1 := hM8.fl
            have hL2 := hM8.al
            refine hK _ _ ⟨b1', b8'⟩ ?_
            clear hK K b1 b8 bz hM8 hB4
            try simp only [List.getElem_toArray, List.getElem_cons_succ, List.getElem_cons_zero, Act.put, List.setIfInBounds_toArray, List.set_cons_zero, List.set_cons_succ]
            refine free_take 10 (v := ?vy1110) rfl (by kernel_rfl) (by kernel_rfl) (fun _ _ _ h => h) (⟨b1', b8'⟩) (Or.inl ⟨by rfl, ?yy1110⟩) ?ry1110
            case yy1110 => intro w hSw; (try dsimp only at hSw); go_simp; try rfl
            case' ry1110 => try simp only [List.getElem_toArray, List.getElem_cons_succ, List.getElem_cons_zero, Act.put, List.setIfInBounds_toArray, List.set_cons_zero, List.set_cons_succ]
            refine free_take 11 (v := ?vy1111) rfl (by kernel_rfl) (by kernel_rfl) (fun _ _ _ h => h) (⟨b1', b8'⟩) (Or.inl ⟨by rfl, ?yy1111⟩) ?ry1111
            case yy1111 => intro w hSw; (try dsimp only at hSw); go_simp; try rfl
            case' ry1111 => try simp only [List.getElem_toArray, List.getElem_cons_succ, List.getElem_cons_zero, Act.put, List.setIfInBounds_toArray, List.set_cons_zero, List.set_cons_succ]
            refine free_end (by kernel_rfl) ?_
            go_wp2_with fail
            go_meet
            exact ⟨p10, _, rfl, rfl, ⟨F8, n8, f8, A8, m8, a8, bz', hL1, hL2, hF', hA'⟩, hB'⟩
      case w5 =>
        go_simp
        have bz := Blk.new v3 44 #[.int .i64 0, .bool false, .string ⟨#[]⟩, .int .i64 0, .bool false, .int .i64 0, .int .i64 0, .slice none 0 0, .slice none 0 0, .int .i64 0, .int .i64 0, .int .i64 0, .int .i64 0, .int .i64 0]
        have hza : w4.heap.size ≤ v3.heap.size := hB4.size
        have hz := (Below.refl v3.heap.size v3).alloc (Nat.le_refl _) (.cells #[.int .i64 0, .bool false, .string ⟨#[]⟩, .int .i64 0, .bool false, .int .i64 0, .int .i64 0, .slice none 0 0, .slice none 0 0, .int .i64 0, .int .i64 0, .int .i64 0, .int .i64 0, .int .i64 0] 44)
        replace b1 := b1.step hz
        replace b8 := b8.step hz
        replace hH := hH.step hz
        replace hRm := hRm.below hz
        replace hBW := hBW.trans (hz.mono hBW.size)
        replace hB4 := hB4.trans (hz.mono hB4.size)
        replace lgD := Nat.lt_of_lt_of_le lgD hz.size
        replace hF9 := hF9.step hz
        replace hA9 := hA9.step hz
        obtain ⟨p10, hp10⟩ : ∃ p, v3.heap.size = p := ⟨_, rfl⟩
        rw [hp10] at bz hza ⊢
        clear hz hp10
        refine hK _ _ ⟨b1, b8⟩ ?_
        clear hK K
        try simp only [List.getElem_toArray, List.getElem_cons_succ, List.getElem_cons_zero, Act.put, List.setIfInBounds_toArray, List.set_cons_zero, List.set_cons_succ]
        generalize v3.alloc (.cells #[.int .i64 0, .bool false, .string ⟨#[]⟩, .int .i64 0, .bool false, .int .i64 0, .int .i64 0, .slice none 0 0, .slice none 0 0, .int .i64 0, .int .i64 0, .int .i64 0, .int .i64 0, .int .i64 0] 44) = v3a at *
        refine free_step 3 rfl (by kernel_rfl) (fun K hK => ?w13)
        case w13 =>
          go_simp
          refine (CK.out _ g H hc F9 f9 A9 a9 hF9.rd hA9.rd hF9.le hRm.rd lgD hH.rd).mono ?_
          rintro e v14 ⟨F8, n8, f8, A8, m8, a8, O8, on8, oc8, l8, rfl, hM8, hb⟩
          have zb8 : w4.heap.size ≤ v3a.heap.size := hB4.size
          replace b1 := b1.step hb
          replace b8 := b8.step hb
          replace hH := hH.step hb
          replace hRm := hRm.below hb
          replace hBW := hBW.trans (hb.mono hBW.size)
          replace hB4 := hB4.trans (hb.mono hB4.size)
          replace lgD := Nat.lt_of_lt_of_le lgD hb.size
          replace bz := bz.step hb
          refine hK _ _ ⟨b1, b8⟩ ?_
          clear hK K hb hF9 hA9
          unfold tvv tkv tkc
          dsimp only
          try simp only [List.getElem_toArray, List.getElem_cons_succ, List.getElem_cons_zero, Act.put, List.setIfInBounds_toArray, List.set_cons_zero, List.set_cons_succ]
          refine free_take 4 (v := ?vx154) rfl (by kernel_rfl) (by kernel_rfl) (fun _ _ _ h => h) (⟨b1, b8⟩) (Or.inl ⟨by rfl, ?yx154⟩) ?rx154
          case yx154 => intro w hSw; (try dsimp only at hSw); go_simp; try rfl
          case' rx154 => try simp only [List.getElem_toArray, List.getElem_cons_succ, List.getElem_cons_zero, Act.put, List.setIfInBounds_toArray, List.set_cons_zero, List.set_cons_succ]
          refine free_take 5 (v := ?vx155) rfl (by kernel_rfl) (by kernel_rfl) (fun _ _ _ h => h) (⟨b1, b8⟩) (Or.inl ⟨by rfl, ?yx155⟩) ?rx155
          case yx155 => intro w hSw; (try dsimp only at hSw); go_simp; try rfl
          case' rx155 => try simp only [List.getElem_toArray, List.getElem_cons_succ, List.getElem_cons_zero, Act.put, List.setIfInBounds_toArray, List.set_cons_zero, List.set_cons_succ]
          refine free_take 6 (v := ?vx156) rfl (by kernel_rfl) (by kernel_rfl) (fun _ _ _ h => h) (⟨b1, b8⟩) (Or.inl ⟨by rfl, ?yx156⟩) ?rx156
          case yx156 => intro w hSw; (try dsimp only at hSw); go_simp; try rfl
          case' rx156 => try simp only [List.getElem_toArray, List.getElem_cons_succ, List.getElem_cons_zero, Act.put, List.setIfInBounds_toArray, List.set_cons_zero, List.set_cons_succ]
          refine free_take 7 (v := ?vx157) rfl (by kernel_rfl) (by kernel_rfl) (fun _ _ _ h => h) (⟨b1, b8⟩) (Or.inl ⟨by rfl, ?yx157⟩) ?rx157
          case yx157 => intro w hSw; (try dsimp only at hSw); go_simp; try rfl
          case' rx157 => try simp only [List.getElem_toArray, List.getElem_cons_succ, List.getElem_cons_zero, Act.put, List.setIfInBounds_toArray, List.set_cons_zero, List.set_cons_succ]
          refine free_step 9 rfl (by kernel_rfl) (fun K hK => ?z16)
          case z16 =>
            rw [if_pos (by kernel_rfl)]
            refine wp_store_row 44 (.tmp 10) (.tmp 41) rfl p10 #[.int .i64 yid, .bool yknown, .string yname, .int .i64 ysize, .bool yended, .int .i64 ylast, .int .i64 ysum, .slice A8 m8 a8, .slice F8 n8 f8, .int .i64 ystage, .int .i64 ytimer, .int .i64 ypatience, .int .i64 ytries, .int .i64 ylimit] rfl rfl 44 _ bz takersz rfl (by simp [Value.oneCell']) ?_
            have b1' := b1.farRow (g := p10) (by omega) #[.int .i64 yid, .bool yknown, .string yname, .int .i64 ysize, .bool yended, .int .i64 ylast, .int .i64 ysum, .slice A8 m8 a8, .slice F8 n8 f8, .int .i64 ystage, .int .i64 ytimer, .int .i64 ypatience, .int .i64 ytries, .int .i64 ylimit]
            have b8' := b8.farRow (g := p10) (by omega) #[.int .i64 yid, .bool yknown, .string yname, .int .i64 ysize, .bool yended, .int .i64 ylast, .int .i64 ysum, .slice A8 m8 a8, .slice F8 n8 f8, .int .i64 ystage, .int .i64 ytimer, .int .i64 ypatience, .int .i64 ytries, .int .i64 ylimit]
            have bz' := bz.row #[.int .i64 yid, .bool yknown, .string yname, .int .i64 ysize, .bool yended, .int .i64 ylast, .int .i64 ysum, .slice A8 m8 a8, .slice F8 n8 f8, .int .i64 ystage, .int .i64 ytimer, .int .i64 ypatience, .int .i64 ytries, .int .i64 ylimit]
            have hB' := below_row hB4 (g := p10) (by omega) #[.int .i64 yid, .bool yknown, .string yname, .int .i64 ysize, .bool yended, .int .i64 ylast, .int .i64 ysum, .slice A8 m8 a8, .slice F8 n8 f8, .int .i64 ystage, .int .i64 ytimer, .int .i64 ypatience, .int .i64 ytries, .int .i64 ylimit]
            have hF' := (hM8.file.rowFar' (r := p10) (fun h => hM8.file.notBlk bz (by decide) h) #[.int .i64 yid, .bool yknown, .string yname, .int .i64 ysize, .bool yended, .int .i64 ylast, .int .i64 ysum, .slice A8 m8 a8, .slice F8 n8 f8, .int .i64 ystage, .int .i64 ytimer, .int .i64 ypatience, .int .i64 ytries, .int .i64 ylimit]).mono zb8
            have hA' := (hM8.again.rowFar' (r := p10) (fun h => hM8.again.notBlk bz (by decide) h) #[.int .i64 yid, .bool yknown, .string yname, .int .i64 ysize, .bool yended, .int .i64 ylast, .int .i64 ysum, .slice A8 m8 a8, .slice F8 n8 f8, .int .i64 ystage, .int .i64 ytimer, .int .i64 ypatience, .int .i64 ytries, .int .i64 ylimit]).mono zb8
            have hL1 := hM8.fl
            have hL2 := hM8.al
            refine hK _ _ ⟨b1', b8'⟩ ?_
            clear hK K b1 b8 bz hM8 hB4
            try simp only [List.getElem_toArray, List.getElem_cons_succ, List.getElem_cons_zero, Act.put, List.setIfInBounds_toArray, List.set_cons_zero, List.set_cons_succ]
            refine free_take 10 (v := ?vy1710) rfl (by kernel_rfl) (by kernel_rfl) (fun _ _ _ h => h) (⟨b1', b8'⟩) (Or.inl ⟨by rfl, ?yy1710⟩) ?ry1710
            case yy1710 => intro w hSw; (try dsimp only at hSw); go_simp; try rfl
            case' ry1710 => try simp only [List.getElem_toArray, List.getElem_cons_succ, List.getElem_cons_zero, Act.put, List.setIfInBounds_toArray, List.set_cons_zero, List.set_cons_succ]
            refine free_take 11 (v := ?vy1711) rfl (by kernel_rfl) (by kernel_rfl) (fun _ _ _ h => h) (⟨b1', b8'⟩) (Or.inl ⟨by rfl, ?yy1711⟩) ?ry1711
            case yy1711 => intro w hSw; (try dsimp only at hSw); go_simp; try rfl
            case' ry1711 => try simp only [List.getElem_toArray, List.getElem_cons_succ, List.getElem_cons_zero, Act.put, List.setIfInBounds_toArray, List.set_cons_zero, List.set_cons_succ]
            refine free_end (by kernel_rfl) ?_
            go_wp2_with fail
            go_meet
            exact ⟨p10, _, rfl, rfl, ⟨F8, n8, f8, A8, m8, a8, bz', hL1, hL2, hF', hA'⟩, hB'⟩
    case w2 =>
      go_simp
      have bz := Blk.new V0 44 #[.int .i64 0, .bool false, .string ⟨#[]⟩, .int .i64 0, .bool false, .int .i64 0, .int .i64 0, .slice none 0 0, .slice none 0 0, .int .i64 0, .int .i64 0, .int .i64 0, .int .i64 0, .int .i64 0]
      have hza : w4.heap.size ≤ V0.heap.size := hB4.size
      have hz := (Below.refl V0.heap.size V0).alloc (Nat.le_refl _) (.cells #[.int .i64 0, .bool false, .string ⟨#[]⟩, .int .i64 0, .bool false, .int .i64 0, .int .i64 0, .slice none 0 0, .slice none 0 0, .int .i64 0, .int .i64 0, .int .i64 0, .int .i64 0, .int .i64 0] 44)
      replace b1 := b1.step hz
      replace b8 := b8.step hz
      replace hH := hH.step hz
      replace hRm := hRm.below hz
      replace hBW := hBW.trans (hz.mono hBW.size)
      replace hB4 := hB4.trans (hz.mono hB4.size)
      replace lgD := Nat.lt_of_lt_of_le lgD hz.size
      obtain ⟨p10, hp10⟩ : ∃ p, V0.heap.size = p := ⟨_, rfl⟩
      rw [hp10] at bz hza ⊢
      clear hz hp10
      refine hK _ _ ⟨b1, b8⟩ ?_
      clear hK K
      try simp only [List.getElem_toArray, List.getElem_cons_succ, List.getElem_cons_zero, Act.put, List.setIfInBounds_toArray, List.set_cons_zero, List.set_cons_succ]
      generalize V0.alloc (.cells #[.int .i64 0, .bool false, .string ⟨#[]⟩, .int .i64 0, .bool false, .int .i64 0, .int .i64 0, .slice none 0 0, .slice none 0 0, .int .i64 0, .int .i64 0, .int .i64 0, .int .i64 0, .int .i64 0] 44) = V0a at *
      refine free_step 1 rfl (by kernel_rfl) (fun K hK => ?w19)
      case w19 =>
        go_simp
        refine (CT.out _ hBW).mono ?_
        rintro e v20 ⟨F9, f9, A9, a9, rfl, hF9, hA9, hb⟩
        replace b1 := b1.step hb
        replace b8 := b8.step hb
        replace hH := hH.step hb
        replace hRm := hRm.below hb
        replace hBW := hBW.trans (hb.mono hBW.size)
        replace hB4 := hB4.trans (hb.mono hB4.size)
        replace lgD := Nat.lt_of_lt_of_le lgD hb.size
        replace bz := bz.step hb
        refine hK _ _ ⟨b1, b8⟩ ?_
        clear hK K hb
        try simp only [List.getElem_toArray, List.getElem_cons_succ, List.getElem_cons_zero, Act.put, List.setIfInBounds_toArray, List.set_cons_zero, List.set_cons_succ]
        refine free_step 3 rfl (by kernel_rfl) (fun K hK => ?w21)
        case w21 =>
          go_simp
          refine (CK.out _ g H hc F9 f9 A9 a9 hF9.rd hA9.rd hF9.le hRm.rd lgD hH.rd).mono ?_
          rintro e v22 ⟨F8, n8, f8, A8, m8, a8, O8, on8, oc8, l8, rfl, hM8, hb⟩
          have zb8 : w4.heap.size ≤ v20.heap.size := hB4.size
          replace b1 := b1.step hb
          replace b8 := b8.step hb
          replace hH := hH.step hb
          replace hRm := hRm.below hb
          replace hBW := hBW.trans (hb.mono hBW.size)
          replace hB4 := hB4.trans (hb.mono hB4.size)
          replace lgD := Nat.lt_of_lt_of_le lgD hb.size
          replace bz := bz.step hb
          refine hK _ _ ⟨b1, b8⟩ ?_
          clear hK K hb hF9 hA9
          unfold tvv tkv tkc
          dsimp only
          try simp only [List.getElem_toArray, List.getElem_cons_succ, List.getElem_cons_zero, Act.put, List.setIfInBounds_toArray, List.set_cons_zero, List.set_cons_succ]
          refine free_take 4 (v := ?vx234) rfl (by kernel_rfl) (by kernel_rfl) (fun _ _ _ h => h) (⟨b1, b8⟩) (Or.inl ⟨by rfl, ?yx234⟩) ?rx234
          case yx234 => intro w hSw; (try dsimp only at hSw); go_simp; try rfl
          case' rx234 => try simp only [List.getElem_toArray, List.getElem_cons_succ, List.getElem_cons_zero, Act.put, List.setIfInBounds_toArray, List.set_cons_zero, List.set_cons_succ]
          refine free_take 5 (v := ?vx235) rfl (by kernel_rfl) (by kernel_rfl) (fun _ _ _ h => h) (⟨b1, b8⟩) (Or.inl ⟨by rfl, ?yx235⟩) ?rx235
          case yx235 => intro w hSw; (try dsimp only at hSw); go_simp; try rfl
          case' rx235 => try simp only [List.getElem_toArray, List.getElem_cons_succ, List.getElem_cons_zero, Act.put, List.setIfInBounds_toArray, List.set_cons_zero, List.set_cons_succ]
          refine free_take 6 (v := ?vx236) rfl (by kernel_rfl) (by kernel_rfl) (fun _ _ _ h => h) (⟨b1, b8⟩) (Or.inl ⟨by rfl, ?yx236⟩) ?rx236
          case yx236 => intro w hSw; (try dsimp only at hSw); go_simp; try rfl
          case' rx236 => try simp only [List.getElem_toArray, List.getElem_cons_succ, List.getElem_cons_zero, Act.put, List.setIfInBounds_toArray, List.set_cons_zero, List.set_cons_succ]
          refine free_take 7 (v := ?vx237) rfl (by kernel_rfl) (by kernel_rfl) (fun _ _ _ h => h) (⟨b1, b8⟩) (Or.inl ⟨by rfl, ?yx237⟩) ?rx237
          case yx237 => intro w hSw; (try dsimp only at hSw); go_simp; try rfl
          case' rx237 => try simp only [List.getElem_toArray, List.getElem_cons_succ, List.getElem_cons_zero, Act.put, List.setIfInBounds_toArray, List.set_cons_zero, List.set_cons_succ]
          refine free_step 9 rfl (by kernel_rfl) (fun K hK => ?z24)
          case z24 =>
            rw [if_pos (by kernel_rfl)]
            refine wp_store_row 44 (.tmp 10) (.tmp 41) rfl p10 #[.int .i64 yid, .bool yknown, .string yname, .int .i64 ysize, .bool yended, .int .i64 ylast, .int .i64 ysum, .slice A8 m8 a8, .slice F8 n8 f8, .int .i64 ystage, .int .i64 ytimer, .int .i64 ypatience, .int .i64 ytries, .int .i64 ylimit] rfl rfl 44 _ bz takersz rfl (by simp [Value.oneCell']) ?_
            have b1' := b1.farRow (g := p10) (by omega) #[.int .i64 yid, .bool yknown, .string yname, .int .i64 ysize, .bool yended, .int .i64 ylast, .int .i64 ysum, .slice A8 m8 a8, .slice F8 n8 f8, .int .i64 ystage, .int .i64 ytimer, .int .i64 ypatience, .int .i64 ytries, .int .i64 ylimit]
            have b8' := b8.farRow (g := p10) (by omega) #[.int .i64 yid, .bool yknown, .string yname, .int .i64 ysize, .bool yended, .int .i64 ylast, .int .i64 ysum, .slice A8 m8 a8, .slice F8 n8 f8, .int .i64 ystage, .int .i64 ytimer, .int .i64 ypatience, .int .i64 ytries, .int .i64 ylimit]
            have bz' := bz.row #[.int .i64 yid, .bool yknown, .string yname, .int .i64 ysize, .bool yended, .int .i64 ylast, .int .i64 ysum, .slice A8 m8 a8, .slice F8 n8 f8, .int .i64 ystage, .int .i64 ytimer, .int .i64 ypatience, .int .i64 ytries, .int .i64 ylimit]
            have hB' := below_row hB4 (g := p10) (by omega) #[.int .i64 yid, .bool yknown, .string yname, .int .i64 ysize, .bool yended, .int .i64 ylast, .int .i64 ysum, .slice A8 m8 a8, .slice F8 n8 f8, .int .i64 ystage, .int .i64 ytimer, .int .i64 ypatience, .int .i64 ytries, .int .i64 ylimit]
            have hF' := (hM8.file.rowFar' (r := p10) (fun h => hM8.file.notBlk bz (by decide) h) #[.int .i64 yid, .bool yknown, .string yname, .int .i64 ysize, .bool yended, .int .i64 ylast, .int .i64 ysum, .slice A8 m8 a8, .slice F8 n8 f8, .int .i64 ystage, .int .i64 ytimer, .int .i64 ypatience, .int .i64 ytries, .int .i64 ylimit]).mono zb8
            have hA' := (hM8.again.rowFar' (r := p10) (fun h => hM8.again.notBlk bz (by decide) h) #[.int .i64 yid, .bool yknown, .string yname, .int .i64 ysize, .bool yended, .int .i64 ylast, .int .i64 ysum, .slice A8 m8 a8, .slice F8 n8 f8, .int .i64 ystage, .int .i64 ytimer, .int .i64 ypatience, .int .i64 ytries, .int .i64 ylimit]).mono zb8
            have hL1 := hM8.fl
            have hL2 := hM8.al
            refine hK _ _ ⟨b1', b8'⟩ ?_
            clear hK K b1 b8 bz hM8 hB4
            try simp only [List.getElem_toArray, List.getElem_cons_succ, List.getElem_cons_zero, Act.put, List.setIfInBounds_toArray, List.set_cons_zero, List.set_cons_succ]
            refine free_take 10 (v := ?vy2510) rfl (by kernel_rfl) (by kernel_rfl) (fun _ _ _ h => h) (⟨b1', b8'⟩) (Or.inl ⟨by rfl, ?yy2510⟩) ?ry2510
            case yy2510 => intro w hSw; (try dsimp only at hSw); go_simp; try rfl
            case' ry2510 => try simp only [List.getElem_toArray, List.getElem_cons_succ, List.getElem_cons_zero, Act.put, List.setIfInBounds_toArray, List.set_cons_zero, List.set_cons_succ]
            refine free_take 11 (v := ?vy2511) rfl (by kernel_rfl) (by kernel_rfl) (fun _ _ _ h => h) (⟨b1', b8'⟩) (Or.inl ⟨by rfl, ?yy2511⟩) ?ry2511
            case yy2511 => intro w hSw; (try dsimp only at hSw); go_simp; try rfl
            case' ry2511 => try simp only [List.getElem_toArray, List.getElem_cons_succ, List.getElem_cons_zero, Act.put, List.setIfInBounds_toArray, List.set_cons_zero, List.set_cons_succ]
            refine free_end (by kernel_rfl) ?_
            go_wp2_with fail
            go_meet
            exact ⟨p10, _, rfl, rfl, ⟨F8, n8, f8, A8, m8, a8, bz', hL1, hL2, hF', hA'⟩, hB'⟩
  case rest =>
    trace "R"
    obtain ⟨p10, W, hW, rfl, ⟨F8, n8, f8, A8, m8, a8, b10, hL1, hL2, hF8, hA8⟩, hb⟩ := hcut
    subst hW
    obtain rfl : n8 = n1 := by rw [← hL1]; exact HFL.out
    obtain rfl : m8 = m1 := by rw [← hL2]; exact HAL.out
    replace b5 := b5.step hb
    replace b8 := b8.step hb
    replace hRm := hRm.below hb
    replace hF1 := hF1.step hb
    replace hA1 := hA1.step hb
    replace hB := hB.trans (hb.mono hB.size)
    clear hb b1 bn hH CT CK HFL HAL
    unfold tkc at b10
    dsimp only at b10 hL1 hL2
    have CP2 := Lib.hid (CP.out w.heap.size W g hRm (by omega) hB.size)
    have hgO := hRm.own (base := w.heap.size) (by unfold maxLen; have h := HDN.out; have e : nd.length = dn := HDL.out; omega) (by omega)
    have y6 := b8.cell' (i := 6) rfl
    go_wp2_with fail
    trace "S"
    refine CP2.out.mono ?_
    rintro e w7 ⟨rfl, hg7⟩
    have b5' := b5.over hg7 (fun q hq e => by have h1 : g = q := Option.some.inj hq; have h2 : p5 = q := Option.some.inj e; omega)
    have b10' := b10.over hg7 (fun q hq e => (hgO.notBlk b10 (by decide)) (by rw [hq]; exact e.symm))
    have hF1' := hF1.over hg7 (fun q hq e => by have h1 : g = q := Option.some.inj hq; have h2 := zm.out q e; omega)
    have hA1' := hA1.over hg7 (fun q hq e => by have h1 : g = q := Option.some.inj hq; have h2 := zmA.out q e; omega)
    have hF8' := hF8.over hg7 (fun q hq e => by have h1 : g = q := Option.some.inj hq; have h2 := (hF8.lt q e).1; omega)
    have hA8' := hA8.over hg7 (fun q hq e => by have h1 : g = q := Option.some.inj hq; have h2 := (hA8.lt q e).1; omega)
    replace hB := hB.grown hg7 hB.size (fun q hq => by have h1 : g = q := Option.some.inj hq; omega)
    have CS2 := Lib.hid (CS.out w7 F1 n8 f1 A1 m8 a1 F8 f8 A8 a8 hL1 hL2 hF1'.rd hA1'.rd hF8'.rd hA8'.rd)
    clear hg7 CP2 CP CS hgO b5 b10 b8 hRm hF1 hA1 hF8 hA8 y6
    trace "T"
    go_wp2_with (first
      | (refine wpList_load_row rfl 44 (.tmp 10) rfl p10 rfl 44 #[.int .i64 yid, .bool yknown, .string yname, .int .i64 ysize, .bool yended, .int .i64 ylast, .int .i64 ysum, .slice A8 m8 a8, .slice F8 n8 f8, .int .i64 ystage, .int .i64 ytimer, .int .i64 ypatience, .int .i64 ytries, .int .i64 ylimit] (0, 0) _ b10' Try.underlying44 rfl takersz ?_)
      | (refine wpList_load_row rfl 44 (.tmp 5) rfl p5 rfl 44 #[.int .i64 yid, .bool yknown, .string yname, .int .i64 ysize, .bool yended, .int .i64 ylast, .int .i64 ysum, .slice A1 m8 a1, .slice F1 n8 f1, .int .i64 ystage, .int .i64 ytimer, .int .i64 ypatience, .int .i64 ytries, .int .i64 ylimit] (0, 0) _ b5' Try.underlying44 rfl takersz ?_))
    refine CS2.out.mono ?_
    rintro e w8 ⟨rfl, hb⟩
    go_wp2_with fail
    go_ret
    exact ⟨rfl, hB.trans (hb.mono hB.size)⟩
end Go.Proofs.Ytianombjgdmbeaa
