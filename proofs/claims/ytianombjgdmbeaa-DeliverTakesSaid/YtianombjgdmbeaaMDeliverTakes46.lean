/-
  A note comes to a taker, by the program (deliver.Take); the law's own func. The bytes of a piece, by the document (lay).
-/
import Derived.Test.YtianombjgdmbeaaMDeliverTakes37
import Derived.Test.YtianombjgdmbeaaMDeliverTakes45
import Derived.Test.YtianombjgdmbeaaMDeliverTakes41
import Derived.Test.YtianombjgdmbeaaMDeliverTakes35
import Derived.Test.YtianombjgdmbeaaMDeliverTakes32
import Derived.Test.YtianombjgdmbeaaMDeliverTakes39
import Derived.Test.YtianombjgdmbeaaMDeliverTakes13
namespace Go.Proofs.Ytianombjgdmbeaa
set_option linter.unusedSimpArgs false
set_option linter.unusedVariables false
open Go.RowKit

theorem takeR_zero {x y : Tk} {n : Nt} {ns : List Nt} {k : Int} (h : takeR x n = (y, ns, k)) (h0 : tkOk x = false) : y = tkZero ∧ ns = [] ∧ k = 11 := by
  unfold takeR at h
  rw [if_pos h0] at h
  injection h with e1 h
  injection h with e2 e3
  exact ⟨e1.symm, e2.symm, e3.symm⟩
theorem done_fits (x : Tk) (c : Int) : NoteFits (doneN x c) := ⟨by simp [doneN], by simp [doneN]⟩
theorem seen_fits (x : Tk) : NoteFits (seenN x) := ⟨by simp [seenN], by simp [seenN]⟩
theorem ask_fits (x : Tk) : (∀ n ∈ askT x, NoteFits n) ∧ (askT x).length ≤ 1 := by
  unfold askT
  split
  · exact ⟨(fun n hn => by cases hn), by simp⟩
  · refine ⟨fun n hn => ?_, by simp⟩
    rw [List.mem_singleton.1 hn]
    refine ⟨by simp [gapsN], ?_⟩
    show (missT x).length ≤ _
    unfold missT capG
    rw [List.length_take]
    omega
theorem judge_fits (x : Tk) : (judgeT x).1.file = x.file ∧ (judgeT x).1.have_ = x.have_ ∧ (∀ n ∈ (judgeT x).2, NoteFits n) ∧ (judgeT x).2.length ≤ 1 := by
  unfold judgeT
  split
  · exact ⟨rfl, rfl, (fun n hn => by rw [List.mem_singleton.1 hn]; exact done_fits _ _), by simp⟩
  · split
    · split
      · exact ⟨rfl, rfl, (fun n hn => by rw [List.mem_singleton.1 hn]; exact done_fits _ _), by simp⟩
      · exact ⟨rfl, rfl, (fun n hn => by rw [List.mem_singleton.1 hn]; exact done_fits _ _), by simp⟩
    · exact ⟨rfl, rfl, (fun n hn => by cases hn), by simp⟩
theorem two_fits {x : Tk} {a b : Nt} (ha : NoteFits a) (hb : NoteFits b) : (∀ n ∈ [a, b], NoteFits n) := by
  intro n hn
  simp only [List.mem_cons, List.not_mem_nil, or_false] at hn
  rcases hn with rfl | rfl
  · exact ha
  · exact hb
/-- What a note leaves fits the machine. -/
theorem takeR_fits {x y : Tk} {n : Nt} {ns : List Nt} {k : Int} (h : takeR x n = (y, ns, k)) : (y.file = x.file ∨ y.file.length ≤ 65536) ∧ (y.have_ = x.have_ ∨ y.have_.length ≤ 100000) ∧ (∀ n ∈ ns, NoteFits n) ∧ ns.length ≤ 3 := by
  have e1 : y = (takeR x n).1 := by rw [h]
  have e2 : ns = (takeR x n).2.1 := by rw [h]
  rw [e1, e2]
  clear h e1 e2
  unfold takeR
  split
  · exact ⟨.inr (by simp [tkZero]), .inr (by simp [tkZero]), fun n hn => (by cases hn), by simp⟩
  rename_i hok
  split
  · exact ⟨.inl rfl, .inl rfl, fun n hn => (by cases hn), by simp⟩
  rename_i hn
  split
  · exact ⟨.inl rfl, .inl rfl, fun n hn => (by cases hn), by simp⟩
  split
  · exact ⟨.inl rfl, .inl rfl, fun n hn => (by cases hn), by simp⟩
  unfold takeT
  split
  · refine ⟨.inl rfl, .inl rfl, ?_, ?_⟩
    · split
      · exact two_fits (x := x) (seen_fits x) (done_fits x 9)
      · exact fun n hn => by cases hn
    · split <;> simp
  split
  · split
    · exact ⟨.inl rfl, .inl rfl, two_fits (x := x) (seen_fits x) (done_fits x 0), by simp⟩
    · split <;> exact ⟨.inl rfl, .inl rfl, fun n hn => (by cases hn), by simp⟩
  have hok' : tkOk x = true := by simpa using hok
  have hn' : noteOk n = true := by simpa using hn
  have hJ : TkJ (comesT { x with timer := 0, tries := 0 } n) := by
    have h := (TkI.of hok').j
    exact comes_J ⟨h.size, h.last, h.rows, h.long, h.small⟩ hn'
  obtain ⟨j1, j2, j3, j4⟩ := judge_fits (comesT { x with timer := 0, tries := 0 } n)
  obtain ⟨a1, a2⟩ := ask_fits (judgeT (comesT { x with timer := 0, tries := 0 } n)).1
  unfold goT
  dsimp only
  refine ⟨.inr (by rw [j1]; exact hJ.small), .inr (by rw [j2]; exact hJ.few), ?_, ?_⟩
  · intro m hm
    rw [List.mem_append, List.mem_append] at hm
    rcases hm with (hm | hm) | hm
    · split at hm
      · rw [List.mem_singleton.1 hm]; exact seen_fits x
      · cases hm
    · exact j3 m hm
    · split at hm
      · exact a1 m hm
      · cases hm
  · rw [List.length_append, List.length_append]
    have : (if n.kind = 3 then [seenN x] else []).length ≤ 1 := by split <;> simp
    have : (if (judgeT (comesT { x with timer := 0, tries := 0 } n)).2 = [] ∧ n.kind = 3 then askT (judgeT (comesT { x with timer := 0, tries := 0 } n)).1 else []).length ≤ 1 := by
      split
      · exact a2
      · simp
    omega
set_option maxHeartbeats 6400000 in
set_option maxRecDepth 100000 in
theorem take_any (x : Tk) (F : Option Addr) (fn fc : Nat) (A : Option Addr) (an ac : Nat) (n : Nt) (D : Option Addr) (dn dc : Nat) (G : Option Addr) (gn gc : Nat) (y : Tk) (ns : List Nt) (k : Int) (w : World) (hR : takeR x n = (y, ns, k)) (hf : x.file.length = fn) (ha : x.have_.length = an) (hF : Rd w F (bvs x.file)) (hA : Rd w A (gps x.have_)) (hfn : fn ≤ 140737488351232) (hfc : fn ≤ fc) (han : an ≤ 8796093022200)
    (hd : n.data.length = dn) (hg : n.gaps.length = gn) (hD : Rd w D (bvs n.data)) (hDl : ∀ i, blk D = some i → i < w.heap.size) (hG : Rd w G (gps n.gaps)) :
    Calls Try.prog 37 #[tvv x F fn fc A an ac, ntv n D dn dc G gn gc] w fun e w' => TkRes w w' y ns k e := by
  have hzr := fun h => takeR_zero hR h
  have CG := Lib.hid (fun (V : World) (nb : Nat) (hB : Below w.heap.size w V) (hlt : w.heap.size ≤ V.heap.size) (hnV : nb < V.heap.size) (hnb : Blk V nb 27 #[.int .i64 n.kind, .int .i64 n.id, .string n.name, .int .i64 n.size, .int .i64 n.sum, .int .i64 n.at_, .slice D dn dc, .slice G gn gc, .int .i64 n.of_, .int .i64 n.code]) =>
    taking_Take (.pointer (some ⟨nb, 0, none⟩)) x F fn fc A an ac y ns k V hf ha (hF.below hB) (hA.below hB) hfn hfc han hzr
      (fun V' q base F1 A1 f1 a1 hok hBV hq hOF hOA h1 h2 h3 => doTake_any x F1 fn f1 A1 an a1 n D dn dc G gn gc y ns k nb q base V' hR hok hq (hnb.below' hBV) hf ha hOF hOA hd hg ((hD.below hB).below hBV) (fun i hi => by have := hDl i hi; omega) ((hG.below hB).below hBV) h2 (by omega) h3))
  obtain ⟨id, known, name, size, ended, last, sum, have_, file, stage, timer, patience, tries, limit⟩ := x
  obtain ⟨nk, nid, nn, ns_, nsum, nat_, nd, ng, nof, ncode⟩ := n
  unfold tvv tkv tkc at CG
  unfold tvv tkv tkc ntv
  dsimp only at CG ⊢
  have bx := ((Blk.new w 44 #[.int .i64 id, .bool known, .string name, .int .i64 size, .bool ended, .int .i64 last, .int .i64 sum, .slice A an ac, .slice F fn fc, .int .i64 stage, .int .i64 timer, .int .i64 patience, .int .i64 tries, .int .i64 limit]).alloc (.cells #[.int .i64 nk, .int .i64 nid, .string nn, .int .i64 ns_, .int .i64 nsum, .int .i64 nat_, .slice D dn dc, .slice G gn gc, .int .i64 nof, .int .i64 ncode] 27)).alloc (.cells #[.int .i64 0, .bool false, .string ⟨#[]⟩, .int .i64 0, .bool false, .int .i64 0, .int .i64 0, .slice none 0 0, .slice none 0 0, .int .i64 0, .int .i64 0, .int .i64 0, .int .i64 0, .int .i64 0] 44)
  have bn := (Blk.new (w.alloc (.cells #[.int .i64 id, .bool known, .string name, .int .i64 size, .bool ended, .int .i64 last, .int .i64 sum, .slice A an ac, .slice F fn fc, .int .i64 stage, .int .i64 timer, .int .i64 patience, .int .i64 tries, .int .i64 limit] 44)) 27 #[.int .i64 nk, .int .i64 nid, .string nn, .int .i64 ns_, .int .i64 nsum, .int .i64 nat_, .slice D dn dc, .slice G gn gc, .int .i64 nof, .int .i64 ncode]).alloc (.cells #[.int .i64 0, .bool false, .string ⟨#[]⟩, .int .i64 0, .bool false, .int .i64 0, .int .i64 0, .slice none 0 0, .slice none 0 0, .int .i64 0, .int .i64 0, .int .i64 0, .int .i64 0, .int .i64 0] 44)
  have br := Blk.new ((w.alloc (.cells #[.int .i64 id, .bool known, .string name, .int .i64 size, .bool ended, .int .i64 last, .int .i64 sum, .slice A an ac, .slice F fn fc, .int .i64 stage, .int .i64 timer, .int .i64 patience, .int .i64 tries, .int .i64 limit] 44)).alloc (.cells #[.int .i64 nk, .int .i64 nid, .string nn, .int .i64 ns_, .int .i64 nsum, .int .i64 nat_, .slice D dn dc, .slice G gn gc, .int .i64 nof, .int .i64 ncode] 27)) 44 #[.int .i64 0, .bool false, .string ⟨#[]⟩, .int .i64 0, .bool false, .int .i64 0, .int .i64 0, .slice none 0 0, .slice none 0 0, .int .i64 0, .int .i64 0, .int .i64 0, .int .i64 0, .int .i64 0]
  rw [show (w.alloc (.cells #[.int .i64 id, .bool known, .string name, .int .i64 size, .bool ended, .int .i64 last, .int .i64 sum, .slice A an ac, .slice F fn fc, .int .i64 stage, .int .i64 timer, .int .i64 patience, .int .i64 tries, .int .i64 limit] 44)).heap.size = w.heap.size + 1 by simp] at bn
  rw [show ((w.alloc (.cells #[.int .i64 id, .bool known, .string name, .int .i64 size, .bool ended, .int .i64 last, .int .i64 sum, .slice A an ac, .slice F fn fc, .int .i64 stage, .int .i64 timer, .int .i64 patience, .int .i64 tries, .int .i64 limit] 44)).alloc (.cells #[.int .i64 nk, .int .i64 nid, .string nn, .int .i64 ns_, .int .i64 nsum, .int .i64 nat_, .slice D dn dc, .slice G gn gc, .int .i64 nof, .int .i64 ncode] 27)).heap.size = w.heap.size + 2 by simp] at br
  have hB : Below w.heap.size w (((w.alloc (.cells #[.int .i64 id, .bool known, .string name, .int .i64 size, .bool ended, .int .i64 last, .int .i64 sum, .slice A an ac, .slice F fn fc, .int .i64 stage, .int .i64 timer, .int .i64 patience, .int .i64 tries, .int .i64 limit] 44)).alloc (.cells #[.int .i64 nk, .int .i64 nid, .string nn, .int .i64 ns_, .int .i64 nsum, .int .i64 nat_, .slice D dn dc, .slice G gn gc, .int .i64 nof, .int .i64 ncode] 27)).alloc (.cells #[.int .i64 0, .bool false, .string ⟨#[]⟩, .int .i64 0, .bool false, .int .i64 0, .int .i64 0, .slice none 0 0, .slice none 0 0, .int .i64 0, .int .i64 0, .int .i64 0, .int .i64 0, .int .i64 0] 44)) := (((Below.refl _ _).alloc (Nat.le_refl _) _).alloc (by simp) _).alloc (by simp; omega) _
  go_enter Try.func37, Try.ntmps37
  go_upto_region 1 with fail
  generalize ((w.alloc (.cells #[.int .i64 id, .bool known, .string name, .int .i64 size, .bool ended, .int .i64 last, .int .i64 sum, .slice A an ac, .slice F fn fc, .int .i64 stage, .int .i64 timer, .int .i64 patience, .int .i64 tries, .int .i64 limit] 44)).alloc (.cells #[.int .i64 nk, .int .i64 nid, .string nn, .int .i64 ns_, .int .i64 nsum, .int .i64 nat_, .slice D dn dc, .slice G gn gc, .int .i64 nof, .int .i64 ncode] 27)).alloc (.cells #[.int .i64 0, .bool false, .string ⟨#[]⟩, .int .i64 0, .bool false, .int .i64 0, .int .i64 0, .slice none 0 0, .slice none 0 0, .int .i64 0, .int .i64 0, .int .i64 0, .int .i64 0, .int .i64 0] 44) = W at *
  have zb := br.lt
  have CG2 := Lib.hid (CG.out W (w.heap.size + 1) hB hB.size bn.lt bn)
  clear CG
  go_wp2_with (refine wpList_load_row rfl 44 (.tmp 2) rfl w.heap.size rfl 44 #[.int .i64 id, .bool known, .string name, .int .i64 size, .bool ended, .int .i64 last, .int .i64 sum, .slice A an ac, .slice F fn fc, .int .i64 stage, .int .i64 timer, .int .i64 patience, .int .i64 tries, .int .i64 limit] (0, 0) _ bx Try.underlying44 rfl takersz ?_)
  refine CG2.out.mono ?_
  intro e w1 h1
  obtain ⟨F1, n1, f1, A1, m1, a1, O, on, oc, l, rfl, hM, hb⟩ := h1
  replace br := br.step hb
  have zt := hb.size
  replace hB := hB.trans (hb.mono hB.size)
  clear hb CG2 hzr
  have HR := Lib.hid hR
  clear hR
  obtain ⟨yid, yknown, yname, ysize, yended, ylast, ysum, yhave_, yfile, ystage, ytimer, ypatience, ytries, ylimit⟩ := y
  unfold tvv tkv tkc
  dsimp only
  go_wp2_with (refine wpList_store_row rfl 44 (.tmp 4) (.tmp 10) rfl (w.heap.size + 2) #[.int .i64 yid, .bool yknown, .string yname, .int .i64 ysize, .bool yended, .int .i64 ylast, .int .i64 ysum, .slice A1 m1 a1, .slice F1 n1 f1, .int .i64 ystage, .int .i64 ytimer, .int .i64 ypatience, .int .i64 ytries, .int .i64 ylimit] rfl rfl 44 _ br takersz rfl (by simp [Value.oneCell']) ?_)
  have br2 := br.row #[.int .i64 yid, .bool yknown, .string yname, .int .i64 ysize, .bool yended, .int .i64 ylast, .int .i64 ysum, .slice A1 m1 a1, .slice F1 n1 f1, .int .i64 ystage, .int .i64 ytimer, .int .i64 ypatience, .int .i64 ytries, .int .i64 ylimit]
  refine bodyPost_ret (v := .tuple #[.agg #[.int .i64 yid, .bool yknown, .string yname, .int .i64 ysize, .bool yended, .int .i64 ylast, .int .i64 ysum, .slice A1 m1 a1, .slice F1 n1 f1, .int .i64 ystage, .int .i64 ytimer, .int .i64 ypatience, .int .i64 ytries, .int .i64 ylimit], .slice O on oc, .int .i64 k]) (results_cell_two rfl _ _ (w.heap.size + 2) 44 _ (0, 0) _ rfl rfl rfl br2 Try.underlying44 rfl takersz) rfl ?_
  exact tk_out (y := ⟨yid, yknown, yname, ysize, yended, ylast, ysum, yhave_, yfile, ystage, ytimer, ypatience, ytries, ylimit⟩) (base := W.heap.size) hB (by omega) (by omega) hM
set_option maxHeartbeats 6400000 in
set_option maxRecDepth 100000 in
theorem takes1_any (x : Tk) (F : Option Addr) (fn fc : Nat) (A : Option Addr) (an ac : Nat) (n : Nt) (D : Option Addr) (dn dc : Nat) (G : Option Addr) (gn gc : Nat) (y : Tk) (ns : List Nt) (k : Int) (nb : Nat) (w : World) (hR : takeR x n = (y, ns, k)) (hf : x.file.length = fn) (ha : x.have_.length = an) (hF : Rd w F (bvs x.file)) (hA : Rd w A (gps x.have_)) (hfn : fn ≤ 140737488351232) (hfc : fn ≤ fc) (han : an ≤ 8796093022200)
    (hd : n.data.length = dn) (hg : n.gaps.length = gn) (hD : Rd w D (bvs n.data)) (hDl : ∀ i, blk D = some i → i < w.heap.size) (hG : Rd w G (gps n.gaps)) (hnb : Blk w nb 27 #[.int .i64 n.kind, .int .i64 n.id, .string n.name, .int .i64 n.size, .int .i64 n.sum, .int .i64 n.at_, .slice D dn dc, .slice G gn gc, .int .i64 n.of_, .int .i64 n.code]) :
    Calls Try.prog 36 #[tvv x F fn fc A an ac, .pointer (some ⟨nb, 0, none⟩)] w fun e w' => TkRes w w' y ns k e := by
  have CR := Lib.hid (fun (V : World) (hB : Below w.heap.size w V) => take_any x F fn fc A an ac n D dn dc G gn gc y ns k V hR hf ha (hF.below hB) (hA.below hB) hfn hfc han hd hg (hD.below hB) (fun i hi => by have := hDl i hi; have := hB.size; omega) (hG.below hB))
  obtain ⟨id, known, name, size, ended, last, sum, have_, file, stage, timer, patience, tries, limit⟩ := x
  obtain ⟨nk, nid, nn, ns_, nsum, nat_, nd, ng, nof, ncode⟩ := n
  unfold tvv tkv tkc ntv at CR
  unfold tvv tkv tkc
  dsimp only at CR hnb ⊢
  have bx := (Blk.new w 44 #[.int .i64 id, .bool known, .string name, .int .i64 size, .bool ended, .int .i64 last, .int .i64 sum, .slice A an ac, .slice F fn fc, .int .i64 stage, .int .i64 timer, .int .i64 patience, .int .i64 tries, .int .i64 limit]).alloc (.cells #[.int .i64 0, .bool false, .string ⟨#[]⟩, .int .i64 0, .bool false, .int .i64 0, .int .i64 0, .slice none 0 0, .slice none 0 0, .int .i64 0, .int .i64 0, .int .i64 0, .int .i64 0, .int .i64 0] 44)
  have bn := (hnb.alloc (.cells #[.int .i64 id, .bool known, .string name, .int .i64 size, .bool ended, .int .i64 last, .int .i64 sum, .slice A an ac, .slice F fn fc, .int .i64 stage, .int .i64 timer, .int .i64 patience, .int .i64 tries, .int .i64 limit] 44)).alloc (.cells #[.int .i64 0, .bool false, .string ⟨#[]⟩, .int .i64 0, .bool false, .int .i64 0, .int .i64 0, .slice none 0 0, .slice none 0 0, .int .i64 0, .int .i64 0, .int .i64 0, .int .i64 0, .int .i64 0] 44)
  have br := Blk.new (w.alloc (.cells #[.int .i64 id, .bool known, .string name, .int .i64 size, .bool ended, .int .i64 last, .int .i64 sum, .slice A an ac, .slice F fn fc, .int .i64 stage, .int .i64 timer, .int .i64 patience, .int .i64 tries, .int .i64 limit] 44)) 44 #[.int .i64 0, .bool false, .string ⟨#[]⟩, .int .i64 0, .bool false, .int .i64 0, .int .i64 0, .slice none 0 0, .slice none 0 0, .int .i64 0, .int .i64 0, .int .i64 0, .int .i64 0, .int .i64 0]
  rw [show (w.alloc (.cells #[.int .i64 id, .bool known, .string name, .int .i64 size, .bool ended, .int .i64 last, .int .i64 sum, .slice A an ac, .slice F fn fc, .int .i64 stage, .int .i64 timer, .int .i64 patience, .int .i64 tries, .int .i64 limit] 44)).heap.size = w.heap.size + 1 by simp] at br
  have hB : Below w.heap.size w ((w.alloc (.cells #[.int .i64 id, .bool known, .string name, .int .i64 size, .bool ended, .int .i64 last, .int .i64 sum, .slice A an ac, .slice F fn fc, .int .i64 stage, .int .i64 timer, .int .i64 patience, .int .i64 tries, .int .i64 limit] 44)).alloc (.cells #[.int .i64 0, .bool false, .string ⟨#[]⟩, .int .i64 0, .bool false, .int .i64 0, .int .i64 0, .slice none 0 0, .slice none 0 0, .int .i64 0, .int .i64 0, .int .i64 0, .int .i64 0, .int .i64 0] 44)) := ((Below.refl _ _).alloc (Nat.le_refl _) _).alloc (by simp) _
  go_enter Try.func36, Try.ntmps36
  go_upto_region 1 with fail
  generalize (w.alloc (.cells #[.int .i64 id, .bool known, .string name, .int .i64 size, .bool ended, .int .i64 last, .int .i64 sum, .slice A an ac, .slice F fn fc, .int .i64 stage, .int .i64 timer, .int .i64 patience, .int .i64 tries, .int .i64 limit] 44)).alloc (.cells #[.int .i64 0, .bool false, .string ⟨#[]⟩, .int .i64 0, .bool false, .int .i64 0, .int .i64 0, .slice none 0 0, .slice none 0 0, .int .i64 0, .int .i64 0, .int .i64 0, .int .i64 0, .int .i64 0] 44) = W at *
  have zb := br.lt
  go_wp2_with (first
    | (refine wpList_load_row rfl 44 (.tmp 2) rfl w.heap.size rfl 44 #[.int .i64 id, .bool known, .string name, .int .i64 size, .bool ended, .int .i64 last, .int .i64 sum, .slice A an ac, .slice F fn fc, .int .i64 stage, .int .i64 timer, .int .i64 patience, .int .i64 tries, .int .i64 limit] (0, 0) _ bx Try.underlying44 rfl takersz ?_)
    | (refine wpList_load_row rfl 27 (.tmp 1) rfl nb rfl 27 #[.int .i64 nk, .int .i64 nid, .string nn, .int .i64 ns_, .int .i64 nsum, .int .i64 nat_, .slice D dn dc, .slice G gn gc, .int .i64 nof, .int .i64 ncode] (0, 0) _ bn Try.underlying27 rfl notesz ?_))
  refine (CR.out _ hB).mono ?_
  intro e w1 h1
  obtain ⟨F1, n1, f1, A1, m1, a1, O, on, oc, l, rfl, hM, hb⟩ := h1
  replace br := br.step hb
  have zt := hb.size
  replace hB := hB.trans (hb.mono hB.size)
  clear hb CR
  have HR := Lib.hid hR
  clear hR
  obtain ⟨yid, yknown, yname, ysize, yended, ylast, ysum, yhave_, yfile, ystage, ytimer, ypatience, ytries, ylimit⟩ := y
  unfold tvv tkv tkc
  dsimp only
  go_wp2_with (refine wpList_store_row rfl 44 (.tmp 3) (.tmp 9) rfl (w.heap.size + 1) #[.int .i64 yid, .bool yknown, .string yname, .int .i64 ysize, .bool yended, .int .i64 ylast, .int .i64 ysum, .slice A1 m1 a1, .slice F1 n1 f1, .int .i64 ystage, .int .i64 ytimer, .int .i64 ypatience, .int .i64 ytries, .int .i64 ylimit] rfl rfl 44 _ br takersz rfl (by simp [Value.oneCell']) ?_)
  have br2 := br.row #[.int .i64 yid, .bool yknown, .string yname, .int .i64 ysize, .bool yended, .int .i64 ylast, .int .i64 ysum, .slice A1 m1 a1, .slice F1 n1 f1, .int .i64 ystage, .int .i64 ytimer, .int .i64 ypatience, .int .i64 ytries, .int .i64 ylimit]
  refine bodyPost_ret (v := .tuple #[.agg #[.int .i64 yid, .bool yknown, .string yname, .int .i64 ysize, .bool yended, .int .i64 ylast, .int .i64 ysum, .slice A1 m1 a1, .slice F1 n1 f1, .int .i64 ystage, .int .i64 ytimer, .int .i64 ypatience, .int .i64 ytries, .int .i64 ylimit], .slice O on oc, .int .i64 k]) (results_cell_two rfl _ _ (w.heap.size + 1) 44 _ (0, 0) _ rfl rfl rfl br2 Try.underlying44 rfl takersz) rfl ?_
  exact tk_out (y := ⟨yid, yknown, yname, ysize, yended, ylast, ysum, yhave_, yfile, ystage, ytimer, ypatience, ytries, ylimit⟩) (base := W.heap.size) hB (by omega) (by omega) hM
end Go.Proofs.Ytianombjgdmbeaa
namespace Go.Proofs.Ytianombjgdmbeaa
set_option linter.unusedSimpArgs false
set_option linter.unusedVariables false
open Go.RowKit

theorem comeM_0' (l : List (Int × Int)) (a long : Nat) : comeM l a 0 long = hasL l long := comeM_0 l a long
/-- A taker that a piece has been laid into. -/
def LayRes (w w' : World) (x : Tk) (n : Nt) (e : Ending) : Prop :=
  ∃ F fn fc A an ac, e = .returned (tvv (layT x n) F fn fc A an ac) ∧ (layT x n).file.length = fn ∧ (layT x n).have_.length = an ∧ Own w' w.heap.size 5 1 F fn fc (bvs (layT x n).file) ∧ Own w' w.heap.size 66 2 A an ac (gps (layT x n).have_) ∧ Below w.heap.size w w'
set_option maxHeartbeats 12800000 in
set_option maxRecDepth 100000 in
theorem rlay_any (x : Tk) (F : Option Addr) (fn fc : Nat) (A : Option Addr) (an ac : Nat) (n : Nt) (D : Option Addr) (dn dc : Nat) (G : Option Addr) (gn gc a : Nat) (w : World) (hf : x.file.length = fn) (ha : x.have_.length = an) (hF : Rd w F (bvs x.file)) (hA : Rd w A (gps x.have_)) (hD : Rd w D (bvs n.data)) (hdn : n.data.length = dn) (hat : n.at_ = (a : Int)) (hd1 : 1 ≤ dn) (had : a + dn ≤ 65536) (han : an ≤ 8796093022200) (hs : Srt (-1) x.have_) (hl : max (endR (-1) x.have_) 0 = (x.file.length : Int)) (hfn : fn ≤ 65536) (hz : ∀ j, j < x.file.length → inR x.have_ j = true ∨ bAt x.file j = 0) :
    Calls Try.prog 73 #[tvv x F fn fc A an ac, ntv n D dn dc G gn gc] w fun e w' => LayRes w w' x n e := by
  obtain ⟨i0, hi0, hz0, hz1, hz2⟩ := info_parts u8info
  obtain ⟨long, hlong⟩ : ∃ long, max fn (a + dn) = long := ⟨_, rfl⟩
  have hlg : long ≤ 65536 := by omega
  have HLF : Hid (layF x.file x.have_ a n.data = layM x.file x.have_ a n.data dn long) := Lib.hid (by rw [← hdn, ← hlong, ← hf, ← hdn]; exact (layM_end hz).symm)
  have HLG : Hid (layG x.have_ ((a : Int), (a : Int) + (dn : Int)) = rowsF (fun j => inR x.have_ j || decide (a ≤ j ∧ j < a + dn)) long) := Lib.hid (by rw [← hlong, ← hf, ← hdn]; exact (layRows hs (by omega) hl).symm)
  have HPO := Lib.hid (hs.pos (Int.le_refl _))
  have HF := Lib.hid hF
  have HA := Lib.hid hA
  have HD := Lib.hid hD
  have HFL := Lib.hid hf
  have HHL := Lib.hid ha
  have HDL := Lib.hid hdn
  have hmk := run_make_row' (P := Try.prog) 23 5 (.int .u8 0) 1 Try.underlying23 u8info rfl .i64 .i64 long (by omega) (by omega)
  unfold LayRes layT
  rw [hat]
  clear hf ha hF hA hD hdn hs hl hz
  obtain ⟨id, known, name, size, ended, last, sum, have_, file, stage, timer, patience, tries, limit⟩ := x
  obtain ⟨kind, nid, nname, nsize, nsum, nat_, data, gaps, nof, ncode⟩ := n
  dsimp only at hat
  subst hat
  unfold tvv tkv tkc ntv
  dsimp only at HF HA HD HFL HHL HDL HLF HLG HPO ⊢
  rw [HDL.out]
  have b2 := ((Blk.new w 44 #[.int .i64 id, .bool known, .string name, .int .i64 size, .bool ended, .int .i64 last, .int .i64 sum, .slice A an ac, .slice F fn fc, .int .i64 stage, .int .i64 timer, .int .i64 patience, .int .i64 tries, .int .i64 limit]).alloc (.cells #[.int .i64 kind, .int .i64 nid, .string nname, .int .i64 nsize, .int .i64 nsum, .int .i64 (a : Int), .slice D dn dc, .slice G gn gc, .int .i64 nof, .int .i64 ncode] 27)).alloc (.cells #[.int .i64 0, .bool false, .string ⟨#[]⟩, .int .i64 0, .bool false, .int .i64 0, .int .i64 0, .slice none 0 0, .slice none 0 0, .int .i64 0, .int .i64 0, .int .i64 0, .int .i64 0, .int .i64 0] 44)
  have b3 := (Blk.new (w.alloc (.cells #[.int .i64 id, .bool known, .string name, .int .i64 size, .bool ended, .int .i64 last, .int .i64 sum, .slice A an ac, .slice F fn fc, .int .i64 stage, .int .i64 timer, .int .i64 patience, .int .i64 tries, .int .i64 limit] 44)) 27 #[.int .i64 kind, .int .i64 nid, .string nname, .int .i64 nsize, .int .i64 nsum, .int .i64 (a : Int), .slice D dn dc, .slice G gn gc, .int .i64 nof, .int .i64 ncode]).alloc (.cells #[.int .i64 0, .bool false, .string ⟨#[]⟩, .int .i64 0, .bool false, .int .i64 0, .int .i64 0, .slice none 0 0, .slice none 0 0, .int .i64 0, .int .i64 0, .int .i64 0, .int .i64 0, .int .i64 0] 44)
  have b4 := Blk.new ((w.alloc (.cells #[.int .i64 id, .bool known, .string name, .int .i64 size, .bool ended, .int .i64 last, .int .i64 sum, .slice A an ac, .slice F fn fc, .int .i64 stage, .int .i64 timer, .int .i64 patience, .int .i64 tries, .int .i64 limit] 44)).alloc (.cells #[.int .i64 kind, .int .i64 nid, .string nname, .int .i64 nsize, .int .i64 nsum, .int .i64 (a : Int), .slice D dn dc, .slice G gn gc, .int .i64 nof, .int .i64 ncode] 27)) 44 #[.int .i64 0, .bool false, .string ⟨#[]⟩, .int .i64 0, .bool false, .int .i64 0, .int .i64 0, .slice none 0 0, .slice none 0 0, .int .i64 0, .int .i64 0, .int .i64 0, .int .i64 0, .int .i64 0]
  rw [show (w.alloc (.cells #[.int .i64 id, .bool known, .string name, .int .i64 size, .bool ended, .int .i64 last, .int .i64 sum, .slice A an ac, .slice F fn fc, .int .i64 stage, .int .i64 timer, .int .i64 patience, .int .i64 tries, .int .i64 limit] 44)).heap.size = w.heap.size + 1 by simp] at b3
  rw [show ((w.alloc (.cells #[.int .i64 id, .bool known, .string name, .int .i64 size, .bool ended, .int .i64 last, .int .i64 sum, .slice A an ac, .slice F fn fc, .int .i64 stage, .int .i64 timer, .int .i64 patience, .int .i64 tries, .int .i64 limit] 44)).alloc (.cells #[.int .i64 kind, .int .i64 nid, .string nname, .int .i64 nsize, .int .i64 nsum, .int .i64 (a : Int), .slice D dn dc, .slice G gn gc, .int .i64 nof, .int .i64 ncode] 27)).heap.size = w.heap.size + 1 + 1 by simp] at b4
  have hB : Below w.heap.size w (((w.alloc (.cells #[.int .i64 id, .bool known, .string name, .int .i64 size, .bool ended, .int .i64 last, .int .i64 sum, .slice A an ac, .slice F fn fc, .int .i64 stage, .int .i64 timer, .int .i64 patience, .int .i64 tries, .int .i64 limit] 44)).alloc (.cells #[.int .i64 kind, .int .i64 nid, .string nname, .int .i64 nsize, .int .i64 nsum, .int .i64 (a : Int), .slice D dn dc, .slice G gn gc, .int .i64 nof, .int .i64 ncode] 27)).alloc (.cells #[.int .i64 0, .bool false, .string ⟨#[]⟩, .int .i64 0, .bool false, .int .i64 0, .int .i64 0, .slice none 0 0, .slice none 0 0, .int .i64 0, .int .i64 0, .int .i64 0, .int .i64 0, .int .i64 0] 44)) := (((Below.refl _ _).alloc (Nat.le_refl _) _).alloc (by simp) _).alloc (by simp; omega) _
  go_enter Try.func73, Try.ntmps73
  go_upto_region 1 with fail
  generalize ((w.alloc (.cells #[.int .i64 id, .bool known, .string name, .int .i64 size, .bool ended, .int .i64 last, .int .i64 sum, .slice A an ac, .slice F fn fc, .int .i64 stage, .int .i64 timer, .int .i64 patience, .int .i64 tries, .int .i64 limit] 44)).alloc (.cells #[.int .i64 kind, .int .i64 nid, .string nname, .int .i64 nsize, .int .i64 nsum, .int .i64 (a : Int), .slice D dn dc, .slice G gn gc, .int .i64 nof, .int .i64 ncode] 27)).alloc (.cells #[.int .i64 0, .bool false, .string ⟨#[]⟩, .int .i64 0, .bool false, .int .i64 0, .int .i64 0, .slice none 0 0, .slice none 0 0, .int .i64 0, .int .i64 0, .int .i64 0, .int .i64 0, .int .i64 0] 44) = W at *
  have x8 := b2.cell' (i := 8) rfl
  have x5 := b3.cell' (i := 5) rfl
  have x6 := b3.cell' (i := 6) rfl
  trace "A"
  go_upto_if 19 with fail
  trace "A2"
  go_cut [5] (fun s wx => s = .int .i64 (long : Int) ∧ W = wx)
  case first =>
    by_cases c : fn < a + dn
    ·
      have c1 : decide ((fn : Int) < (a : Int) + (dn : Int)) = true := decide_eq_true (by omega)
      have e := Lib.hid (show (a : Int) + (dn : Int) = (long : Int) by omega)
      clear hlong
      go_wp2_with fail
      go_meet
      exact ⟨by rw [← e.out] <;> rfl, rfl⟩
    ·
      have c1 : decide ((fn : Int) < (a : Int) + (dn : Int)) = false := decide_eq_false (by omega)
      have e := Lib.hid (show (fn : Int) = (long : Int) by omega)
      clear hlong
      go_wp2_with fail
      go_meet
      exact ⟨by rw [← e.out] <;> rfl, rfl⟩
  case rest =>
    obtain ⟨rfl, hW⟩ := hcut
    subst hW
    clear x5 x6
    have x7 := b2.cell' (i := 7) rfl
    trace "B"
    go_wp2_with fail
    refine (has_any have_ A an ac long W HHL.out (HA.out.below hB) han (by omega) HPO.out).mono ?_
    rintro e w2 ⟨rfl, hC, hb⟩
    have z2 := hb.size
    have zW := hB.size
    have zb4 := b4.lt
    replace b2 := b2.step hb
    replace b3 := b3.step hb
    replace b4 := b4.step hb
    replace hB := hB.trans (hb.mono hB.size)
    obtain ⟨cb, hcb⟩ : ∃ g, W.heap.size = g := ⟨_, rfl⟩
    rw [hcb] at hC zb4 ⊢
    have zcb := hC.lt cb rfl
    clear hb x7 x8 hcb
    go_upto_region 6 with fail
    trace "C"
    have hsz1 : (Try.prog.info? 5).map (·.size) = some 1 := by kernel_rfl
    obtain ⟨fb, hfb⟩ : ∃ g, w2.heap.size = g := ⟨_, rfl⟩
    have zfb : w.heap.size + 3 ≤ fb := by omega
    have hnecb : fb ≠ cb := by omega
    have HFB := Lib.hid hfb
    clear hfb
    have hBm : Below w2.heap.size w2 (w2.alloc (.cells (madeCells #[.int .u8 0] long) 5)) := (Below.refl _ _).alloc (Nat.le_refl _) _
    have x8 := (b2.step hBm).cell' (i := 8) rfl
    have hFW := (HF.out.below hB).below hBm
    have hg0 : (w2.alloc (.cells (madeCells #[.int .u8 0] long) 5)).heap[w2.heap.size]? = some (.cells (List.replicate long (.int .u8 0)).toArray 5 (0, 0)) := by
      rw [heap_alloc_new w2 _]
      congr 2
      apply Array.ext'
      rw [toList_madeCells_one]
    have hlf : fn ≤ long := by omega
    have hcl : (bvs file).length = Nat.min fn long := by rw [bvs_length, HFL.out]; show fn = min fn long; omega
    go_upto_region 7 with (with_reducible refine wpList_copy_splice rfl (.tmp 32) (.tmp 34) 23 23 rfl 5 Try.underlying23 hsz1 (some ⟨w2.heap.size, 0, none⟩) F long long fn fc rfl rfl w2.heap.size 0 (List.replicate long (.int .u8 0)) 5 hg0 (bvs file) hcl ?h3 ?h4 (bvs_one file) w2.heap.size w2 hBm (Nat.le_refl _) ?h6)
    case h3 =>
      intro hpos
      have hl : 0 < file.length := by rw [HFL.out]; exact hpos
      obtain ⟨b, off, e, _⟩ := hFW.byte hl
      refine ⟨⟨b, off, none⟩, e, fun j v hv => ?_⟩
      subst e
      rw [Addr.add_lit]
      exact hFW.cell hv
    case h4 => rw [bvs_length, HFL.out, List.length_replicate]; omega
    case h6 =>
      intro w3 hg3 hb3
      trace "D"
      have hC3 := hC.below hb3
      have hP3 : Own w3 (w.heap.size + 3) 5 1 (some ⟨w2.heap.size, 0, none⟩) long long (bvs (layM file have_ a data 0 long)) := by
        have e : splice (List.replicate long (.int .u8 0)) 0 (bvs file) = bvs (layM file have_ a data 0 long) := by
          rw [layM_0 file have_ a data (by rw [HFL.out]; exact hlf), bvs_append]
          simp [splice, bvs, bv, HFL.out]
        have hg4 := hg3.out
        rw [e] at hg4
        exact Own.of_block hg4 (by rw [HFB.out]; exact zfb) (by rw [bvs_length, layM_len, Nat.mul_one]) (Nat.le_refl _) (by unfold maxLen; omega) (by simp [bvs_length, layM_len]) (fun i u h => by simpa using h)
      have k2 := b2.step hb3
      have k3 := b3.step hb3
      have k4 := b4.step hb3
      have hB3 := hB.trans (hb3.mono hB.size)
      replace hC3 := hC3.mono (base' := w.heap.size + 3) (by omega)
      rw [← comeM_0' have_ a long] at hC3
      rw [HFB.out] at hP3 ⊢
      clear hg3 hb3 hcl x8 hFW hg0 hBm b2 b3 b4 hB hC hmk z2
      trace "E"
      go_wp2_with fail
      go_loopw [8] (fun iv wr => ∃ i : Nat, i ≤ dn ∧ iv = .int .i64 (i : Int) ∧ Own wr (w.heap.size + 3) 5 1 (some ⟨fb, 0, none⟩) long long (bvs (layM file have_ a data i long)) ∧ Own wr (w.heap.size + 3) 4 1 (some ⟨cb, 0, none⟩) long long (obs (comeM have_ a i long)) ∧ Blk wr w.heap.size 44 #[.int .i64 id, .bool known, .string name, .int .i64 size, .bool ended, .int .i64 last, .int .i64 sum, .slice A an ac, .slice F fn fc, .int .i64 stage, .int .i64 timer, .int .i64 patience, .int .i64 tries, .int .i64 limit] ∧ Blk wr (w.heap.size + 1) 27 #[.int .i64 kind, .int .i64 nid, .string nname, .int .i64 nsize, .int .i64 nsum, .int .i64 (a : Int), .slice D dn dc, .slice G gn gc, .int .i64 nof, .int .i64 ncode] ∧ Blk wr (w.heap.size + 1 + 1) 44 #[.int .i64 0, .bool false, .string ⟨#[]⟩, .int .i64 0, .bool false, .int .i64 0, .int .i64 0, .slice none 0 0, .slice none 0 0, .int .i64 0, .int .i64 0, .int .i64 0, .int .i64 0, .int .i64 0] ∧ Below w.heap.size w wr) (fun iv _ => dn - (intOf iv).toNat)
      case atStart => exact ⟨0, Nat.zero_le _, rfl, hP3, hC3, k2, k3, k4, hB3⟩
      case round =>
        clear hP3 hC3 k2 k3 k4 hB3
        obtain ⟨i, hi, rfl, hP, hC, k2, k3, k4, hB⟩ := hrel
        trace "F"
        have x5 := k3.cell' (i := 5) rfl
        have x6 := k3.cell' (i := 6) rfl
        by_cases h5 : i < dn
        ·
          have h5i : (i : Int) < (dn : Int) := by omega
          have hip : (0 : Int) ≤ (i : Int) := by omega
          have hai : a + i < long := by omega
          have haii : (a : Int) + (i : Int) < (long : Int) := by omega
          have hai0 : (0 : Int) ≤ (a : Int) + (i : Int) := by omega
          have hail : (a : Int) + (i : Int) ≤ 65536 := by omega
          have c0 := hC.cell (i := a + i) (obs_get (comeM_get (l := have_) (a := a) (i := i) hai))
          rw [Nat.zero_add, show decide (a ≤ a + i ∧ a + i < a + i) = false from decide_eq_false (by omega), Bool.or_false] at c0
          have tn : ((a : Int) + (i : Int)).toNat = a + i := by omega
          cases hin : inR have_ (a + i)
          ·
            rw [hin] at c0
            have HIN := Lib.hid hin
            clear hin
            trace "G"
            have hiL : i < data.length := by rw [HDL.out]; exact h5
            obtain ⟨db, dof, rfl, d0⟩ := (HD.out.below hB).byte hiL
            have hdb : db < w.heap.size := by
              obtain ⟨b', o', e, hc⟩ := HD.out.byte hiL
              injection e with e
              injection e with e1 e2
              subst e1
              exact World.block_lt_of_cell? _ _ hc
            obtain ⟨xb, hxb⟩ : ∃ xb, data.getD i 0 = xb := ⟨_, rfl⟩
            have hxd : data[i] = xb := by rw [← hxb, List.getD_eq_getElem?_getD, List.getElem?_eq_getElem hiL]; rfl
            rw [hxd] at d0
            have HMS := Lib.hid (layM_set (file := file) (data := data) (long := long) HIN.out)
            rw [hxb] at HMS
            have HCS := Lib.hid (comeM_set (l := have_) (a := a) (i := i) (long := long))
            clear hxb hxd
            have hx256 := byte_lt xb
            go_upto_region 11 with fail
            trace "G1"
            have f5 : wr.drew.cell? ⟨w.heap.size + 1, 5, none⟩ = some (.int .i64 (a : Int)) := x5
            have f6 : wr.drew.cell? ⟨w.heap.size + 1, 6, none⟩ = some (.slice (some ⟨db, dof, none⟩) dn dc) := x6
            have f0 : wr.drew.cell? ⟨db, dof + i, none⟩ = some (.int .u8 (xb.toNat : Int)) := d0
            refine freeRegion (fun v => v.cell? ⟨w.heap.size + 1, 5, none⟩ = some (.int .i64 (a : Int)) ∧ v.cell? ⟨w.heap.size + 1, 6, none⟩ = some (.slice (some ⟨db, dof, none⟩) dn dc) ∧ v.cell? ⟨db, dof + i, none⟩ = some (.int .u8 (xb.toNat : Int))) (by kernel_rfl) (by kernel_rfl) ⟨f5, f6, f0⟩ (fun hSS => ?_)
            clear hSS x5 x6 d0 c0
            replace hP := hP.drew
            replace hC := hC.drew
            replace k2 := k2.drew
            replace k3 := k3.drew
            replace k4 := k4.drew
            replace hB := hB.drew
            generalize wr.drew = V at *
            refine free_take 0 (v := ?va0) rfl (by kernel_rfl) (by kernel_rfl) (fun _ _ _ h => h) (⟨f5, f6, f0⟩) (Or.inl ⟨by rfl, ?ya0⟩) ?ra0
            case ya0 => intro w hSw; obtain ⟨hw5, hw6, hw0⟩ := hSw; (try dsimp only at hSw); go_simp; try rfl
            case' ra0 => try simp only [List.getElem_toArray, List.getElem_cons_succ, List.getElem_cons_zero, Act.put, List.setIfInBounds_toArray, List.set_cons_zero, List.set_cons_succ]
            refine free_take 1 (v := ?va1) rfl (by kernel_rfl) (by kernel_rfl) (fun _ _ _ h => h) (⟨f5, f6, f0⟩) (Or.inl ⟨by rfl, ?ya1⟩) ?ra1
            case ya1 => intro w hSw; obtain ⟨hw5, hw6, hw0⟩ := hSw; (try dsimp only at hSw); go_simp; try rfl
            case' ra1 => try simp only [List.getElem_toArray, List.getElem_cons_succ, List.getElem_cons_zero, Act.put, List.setIfInBounds_toArray, List.set_cons_zero, List.set_cons_succ]
            refine free_take 2 (v := ?va2) rfl (by kernel_rfl) (by kernel_rfl) (fun _ _ _ h => h) (⟨f5, f6, f0⟩) (Or.inl ⟨by rfl, ?ya2⟩) ?ra2
            case ya2 => intro w hSw; obtain ⟨hw5, hw6, hw0⟩ := hSw; (try dsimp only at hSw); go_simp; try rfl
            case' ra2 => try simp only [List.getElem_toArray, List.getElem_cons_succ, List.getElem_cons_zero, Act.put, List.setIfInBounds_toArray, List.set_cons_zero, List.set_cons_succ]
            refine free_take 3 (v := ?va3) rfl (by kernel_rfl) (by kernel_rfl) (fun _ _ _ h => h) (⟨f5, f6, f0⟩) (Or.inl ⟨by rfl, ?ya3⟩) ?ra3
            case ya3 => intro w hSw; obtain ⟨hw5, hw6, hw0⟩ := hSw; (try dsimp only at hSw); go_simp; try rfl
            case' ra3 => try simp only [List.getElem_toArray, List.getElem_cons_succ, List.getElem_cons_zero, Act.put, List.setIfInBounds_toArray, List.set_cons_zero, List.set_cons_succ]
            refine free_take 4 (v := ?va4) rfl (by kernel_rfl) (by kernel_rfl) (fun _ _ _ h => h) (⟨f5, f6, f0⟩) (Or.inl ⟨by rfl, ?ya4⟩) ?ra4
            case ya4 => intro w hSw; obtain ⟨hw5, hw6, hw0⟩ := hSw; (try dsimp only at hSw); go_simp; try rfl
            case' ra4 => try simp only [List.getElem_toArray, List.getElem_cons_succ, List.getElem_cons_zero, Act.put, List.setIfInBounds_toArray, List.set_cons_zero, List.set_cons_succ]
            have w1 : IntKind.i64.wrap ((a : Int) + (i : Int)) = (a : Int) + (i : Int) := by rw [IntKind.wrap_i64]; omega
            simp only [w1]
            clear w1
            refine free_take 5 (v := ?vb5) rfl (by kernel_rfl) (by kernel_rfl) (fun _ _ _ h => h) (⟨f5, f6, f0⟩) (Or.inl ⟨by rfl, ?yb5⟩) ?rb5
            case yb5 => intro w hSw; obtain ⟨hw5, hw6, hw0⟩ := hSw; (try dsimp only at hSw); go_simp; try rfl
            case' rb5 => try simp only [List.getElem_toArray, List.getElem_cons_succ, List.getElem_cons_zero, Act.put, List.setIfInBounds_toArray, List.set_cons_zero, List.set_cons_succ]
            refine free_take 6 (v := ?vb6) rfl (by kernel_rfl) (by kernel_rfl) (fun _ _ _ h => h) (⟨f5, f6, f0⟩) (Or.inl ⟨by rfl, ?yb6⟩) ?rb6
            case yb6 => intro w hSw; obtain ⟨hw5, hw6, hw0⟩ := hSw; (try dsimp only at hSw); go_simp; try rfl
            case' rb6 => try simp only [List.getElem_toArray, List.getElem_cons_succ, List.getElem_cons_zero, Act.put, List.setIfInBounds_toArray, List.set_cons_zero, List.set_cons_succ]
            refine free_take 7 (v := ?vb7) rfl (by kernel_rfl) (by kernel_rfl) (fun _ _ _ h => h) (⟨f5, f6, f0⟩) (Or.inl ⟨by rfl, ?yb7⟩) ?rb7
            case yb7 => intro w hSw; obtain ⟨hw5, hw6, hw0⟩ := hSw; (try dsimp only at hSw); go_simp; try rfl
            case' rb7 => try simp only [List.getElem_toArray, List.getElem_cons_succ, List.getElem_cons_zero, Act.put, List.setIfInBounds_toArray, List.set_cons_zero, List.set_cons_succ]
            refine free_take 8 (v := ?vb8) rfl (by kernel_rfl) (by kernel_rfl) (fun _ _ _ h => h) (⟨f5, f6, f0⟩) (Or.inl ⟨by rfl, ?yb8⟩) ?rb8
            case yb8 => intro w hSw; obtain ⟨hw5, hw6, hw0⟩ := hSw; (try dsimp only at hSw); go_simp; try rfl
            case' rb8 => try simp only [List.getElem_toArray, List.getElem_cons_succ, List.getElem_cons_zero, Act.put, List.setIfInBounds_toArray, List.set_cons_zero, List.set_cons_succ]
            refine free_take 9 (v := ?vb9) rfl (by kernel_rfl) (by kernel_rfl) (fun _ _ _ h => h) (⟨f5, f6, f0⟩) (Or.inl ⟨by rfl, ?yb9⟩) ?rb9
            case yb9 => intro w hSw; obtain ⟨hw5, hw6, hw0⟩ := hSw; (try dsimp only at hSw); go_simp; try rfl
            case' rb9 => try simp only [List.getElem_toArray, List.getElem_cons_succ, List.getElem_cons_zero, Act.put, List.setIfInBounds_toArray, List.set_cons_zero, List.set_cons_succ]
            refine free_take 10 (v := ?vb10) rfl (by kernel_rfl) (by kernel_rfl) (fun _ _ _ h => h) (⟨f5, f6, f0⟩) (Or.inl ⟨by rfl, ?yb10⟩) ?rb10
            case yb10 => intro w hSw; obtain ⟨hw5, hw6, hw0⟩ := hSw; (try dsimp only at hSw); go_simp; try rfl
            case' rb10 => try simp only [List.getElem_toArray, List.getElem_cons_succ, List.getElem_cons_zero, Act.put, List.setIfInBounds_toArray, List.set_cons_zero, List.set_cons_succ]
            obtain ⟨u, hu⟩ : ∃ u, V.cell? ⟨fb, a + i, none⟩ = some u := by
              have := hP.cell (i := a + i) (u := bv _) ((List.getElem?_eq_getElem (by rw [bvs_length, layM_len]; exact hai)).trans (by unfold bvs; rw [List.getElem_map]))
              rw [Nat.zero_add] at this
              exact ⟨_, this⟩
            have hfz := hP.frozen (a + i)
            have hPs := hP.setB hai xb
            rw [Nat.zero_add, HMS.out] at hPs
            have hCs := hC.setFar (p := ⟨fb, a + i, none⟩) (fun h => hnecb (Option.some.inj h).symm) (.int .u8 (xb.toNat : Int))
            have k2s := k2.far (p := ⟨fb, a + i, none⟩) (by show w.heap.size ≠ fb; omega) (.int .u8 (xb.toNat : Int))
            have k3s := k3.far (p := ⟨fb, a + i, none⟩) (by show w.heap.size + 1 ≠ fb; omega) (.int .u8 (xb.toNat : Int))
            have k4s := k4.far (p := ⟨fb, a + i, none⟩) (by show w.heap.size + 1 + 1 ≠ fb; omega) (.int .u8 (xb.toNat : Int))
            have hBs := hB.setCell (p := ⟨fb, a + i, none⟩) (by show w.heap.size ≤ fb; omega) (.int .u8 (xb.toNat : Int))
            have g0 : (V.setCell ⟨fb, a + i, none⟩ (.int .u8 (xb.toNat : Int))).cell? ⟨db, dof + i, none⟩ = some (.int .u8 (xb.toNat : Int)) := (World.cell?_of_block (w := V) (a := ⟨db, dof + i, none⟩) (Below.heap_setCell V ⟨fb, a + i, none⟩ _ db (by show db ≠ fb; omega))).trans f0
            refine free_step 11 rfl (by kernel_rfl) (fun K hK => ?st)
            case st =>
              go_simp
              refine hK _ _ ⟨k3s.cell' (i := 5) rfl, k3s.cell' (i := 6) rfl, g0⟩ ?_
              clear hK K f5 f6 f0 hu hfz u hP hC k2 k3 k4 hB g0
              try simp only [List.getElem_toArray, List.getElem_cons_succ, List.getElem_cons_zero, Act.put, List.setIfInBounds_toArray, List.set_cons_zero, List.set_cons_succ]
              refine free_end (by kernel_rfl) ?_
              trace "G2"
              generalize V.setCell ⟨fb, a + i, none⟩ (.int .u8 (xb.toNat : Int)) = V2 at *
              have x5 := k3s.cell' (i := 5) rfl
              have hfz := hCs.frozen (a + i)
              obtain ⟨u, hu⟩ : ∃ u, V2.cell? ⟨cb, a + i, none⟩ = some u := by
                have := hCs.cell (i := a + i) (obs_get (comeM_get (l := have_) (a := a) (i := i) hai))
                rw [Nat.zero_add] at this
                exact ⟨_, this⟩
              have hC2 := hCs.setBo hai true
              rw [Nat.zero_add, HCS.out] at hC2
              have hP2 := hPs.setFar (p := ⟨cb, a + i, none⟩) (fun h => hnecb (Option.some.inj h)) (.bool true)
              have k2' := k2s.far (p := ⟨cb, a + i, none⟩) (by show w.heap.size ≠ cb; omega) (.bool true)
              have k3' := k3s.far (p := ⟨cb, a + i, none⟩) (by show w.heap.size + 1 ≠ cb; omega) (.bool true)
              have k4' := k4s.far (p := ⟨cb, a + i, none⟩) (by show w.heap.size + 1 + 1 ≠ cb; omega) (.bool true)
              have hB' := hBs.setCell (p := ⟨cb, a + i, none⟩) (by show w.heap.size ≤ cb; omega) (.bool true)
              go_wp2_with fail
              trace "G3"
              go_roundw
              case rel => exact ⟨i + 1, by omega, by go_num, hP2, hC2, k2', k3', k4', hB'⟩
              case measure => simp [intOf]; omega
          ·
            rw [hin] at c0
            have hP2 := hP
            have hC2 := hC
            rw [← layM_skip (file := file) (data := data) (long := long) hin] at hP2
            rw [← comeM_skip (long := long) hin] at hC2
            clear hin
            go_wp2_with fail
            trace "H"
            go_roundw
            case rel => exact ⟨i + 1, by omega, by go_num, hP2, hC2, k2, k3, k4, hB⟩
            case measure => simp [intOf]; omega
        ·
          trace "I"
          obtain rfl : i = dn := by omega
          have h5i : ¬ (i : Int) < (i : Int) := by omega
          have kf := k2.frozen
          have x8 := k2.cell' (i := 8) rfl
          go_upto_region 14 with fail
          trace "J"
          clear kf x8 x5 x6
          have hPn := hP.notBlk k2 (by decide)
          have hCn := hC.notBlk k2 (by decide)
          replace hP := hP.setFar (p := ⟨w.heap.size, 8, none⟩) hPn (.slice (some ⟨fb, 0, none⟩) long long)
          replace hC := hC.setFar (p := ⟨w.heap.size, 8, none⟩) hCn (.slice (some ⟨fb, 0, none⟩) long long)
          replace k4 := k4.far (p := ⟨w.heap.size, 8, none⟩) (by show w.heap.size + 1 + 1 ≠ w.heap.size; omega) (.slice (some ⟨fb, 0, none⟩) long long)
          replace hB := hB.setCell (p := ⟨w.heap.size, 8, none⟩) (Nat.le_refl _) (.slice (some ⟨fb, 0, none⟩) long long)
          replace k2 := k2.set_ 8 (.slice (some ⟨fb, 0, none⟩) long long)
          generalize wr.setCell ⟨w.heap.size, 8, none⟩ (.slice (some ⟨fb, 0, none⟩) long long) = V at *
          have kz := k4.lt
          go_wp2_with fail
          refine (rowsIn_any (comeM have_ a i long) true (some ⟨cb, 0, none⟩) long long V (comeM_len _ _ _ _) hC.rd (by omega) (fun j => inR have_ j || decide (a ≤ j ∧ j < a + i)) (fun j b hj => by
            have hjl : j < long := by
              rcases Nat.lt_or_ge j long with h | h
              · exact h
              · rw [List.getElem?_eq_none (by rw [comeM_len]; exact h)] at hj; cases hj
            rw [comeM_get hjl] at hj
            rw [← Option.some.inj hj]
            cases (inR have_ j || decide (a ≤ j ∧ j < a + i)) <;> rfl)).mono ?_
          rintro e w4 ⟨R, rc, rfl, hR, hb⟩
          rw [← HLG.out] at hR ⊢
          obtain ⟨rn, hrn⟩ : ∃ rn, (layG have_ ((a : Int), (a : Int) + (i : Int))).length = rn := ⟨_, rfl⟩
          rw [hrn] at hR ⊢
          have HRN := Lib.hid hrn
          clear hrn
          replace hR := hR.mono (base' := w.heap.size + 3) (by omega)
          replace hP := hP.step hb
          replace k2 := k2.step hb
          replace k4 := k4.step hb
          replace hB := hB.trans (hb.mono hB.size)
          clear hb hC hCn
          have kf := k2.frozen
          have x7 := k2.cell' (i := 7) rfl
          go_upto_region 15 with fail
          trace "K"
          clear kf x7
          have hPn := hP.notBlk k2 (by decide)
          have hRn := hR.notBlk k2 (by decide)
          replace hP := hP.setFar (p := ⟨w.heap.size, 7, none⟩) hPn (.slice R rn rc)
          replace hR := hR.setFar (p := ⟨w.heap.size, 7, none⟩) hRn (.slice R rn rc)
          replace k4 := k4.far (p := ⟨w.heap.size, 7, none⟩) (by show w.heap.size + 1 + 1 ≠ w.heap.size; omega) (.slice R rn rc)
          replace hB := hB.setCell (p := ⟨w.heap.size, 7, none⟩) (Nat.le_refl _) (.slice R rn rc)
          replace k2 := k2.set_ 7 (.slice R rn rc)
          generalize w4.setCell ⟨w.heap.size, 7, none⟩ (.slice R rn rc) = V2 at *
          go_wp2_with (first
            | (refine wpList_load_row rfl 44 (.tmp 2) rfl w.heap.size rfl 44 #[.int .i64 id, .bool known, .string name, .int .i64 size, .bool ended, .int .i64 last, .int .i64 sum, .slice R rn rc, .slice (some ⟨fb, 0, none⟩) long long, .int .i64 stage, .int .i64 timer, .int .i64 patience, .int .i64 tries, .int .i64 limit] (0, 0) _ k2 Try.underlying44 rfl takersz ?_)
            | (refine wpList_store_row rfl 44 (.tmp 4) (.tmp 73) rfl (w.heap.size + 1 + 1) #[.int .i64 id, .bool known, .string name, .int .i64 size, .bool ended, .int .i64 last, .int .i64 sum, .slice R rn rc, .slice (some ⟨fb, 0, none⟩) long long, .int .i64 stage, .int .i64 timer, .int .i64 patience, .int .i64 tries, .int .i64 limit] rfl rfl 44 _ k4 takersz rfl (by simp [Value.oneCell']) ?_))
          have br2 := k4.row #[.int .i64 id, .bool known, .string name, .int .i64 size, .bool ended, .int .i64 last, .int .i64 sum, .slice R rn rc, .slice (some ⟨fb, 0, none⟩) long long, .int .i64 stage, .int .i64 timer, .int .i64 patience, .int .i64 tries, .int .i64 limit]
          refine bodyPost_ret (v := .agg #[.int .i64 id, .bool known, .string name, .int .i64 size, .bool ended, .int .i64 last, .int .i64 sum, .slice R rn rc, .slice (some ⟨fb, 0, none⟩) long long, .int .i64 stage, .int .i64 timer, .int .i64 patience, .int .i64 tries, .int .i64 limit]) (results_cell_row (ty := 44) rfl _ _ (w.heap.size + 1 + 1) 44 _ (0, 0) _ rfl br2 Try.underlying44 rfl takersz) rfl ?_
          have hPf := hP.rowFar (r := w.heap.size + 1 + 1) (by omega) #[.int .i64 id, .bool known, .string name, .int .i64 size, .bool ended, .int .i64 last, .int .i64 sum, .slice R rn rc, .slice (some ⟨fb, 0, none⟩) long long, .int .i64 stage, .int .i64 timer, .int .i64 patience, .int .i64 tries, .int .i64 limit]
          have hRf := hR.rowFar (r := w.heap.size + 1 + 1) (by omega) #[.int .i64 id, .bool known, .string name, .int .i64 size, .bool ended, .int .i64 last, .int .i64 sum, .slice R rn rc, .slice (some ⟨fb, 0, none⟩) long long, .int .i64 stage, .int .i64 timer, .int .i64 patience, .int .i64 tries, .int .i64 limit]
          refine ⟨some ⟨fb, 0, none⟩, long, long, R, rn, rc, rfl, ?_, ?_, ?_, ?_, below_row hB (by omega) _⟩
          · rw [show ((a : Int).toNat) = a from rfl, HLF.out, layM_len]
          · exact HRN.out
          · rw [show ((a : Int).toNat) = a from rfl, HLF.out]
            exact hPf.mono (by omega)
          · exact hRf.mono (by omega)
end Go.Proofs.Ytianombjgdmbeaa
