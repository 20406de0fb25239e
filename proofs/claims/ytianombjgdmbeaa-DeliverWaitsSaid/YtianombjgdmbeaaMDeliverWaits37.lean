/-
  A tick of a taker, by the document (WaitOf).
-/
import Derived.Test.YtianombjgdmbeaaMDeliverWaits29
import Derived.Test.YtianombjgdmbeaaMDeliverWaits32
import Derived.Test.YtianombjgdmbeaaMDeliverWaits35
import Derived.Test.YtianombjgdmbeaaMDeliverWaits9
namespace Go.Proofs.Ytianombjgdmbeaa
set_option linter.unusedSimpArgs false
set_option linter.unusedVariables false
open Go.RowKit

theorem TkRes.of {r : Tk × List Nt × Int} {y y' : Tk} {ns ns' : List Nt} {k k' : Int} {w w' : World} {e : Ending} (h : r = (y, ns, k)) (h' : r = (y', ns', k')) (g : TkRes w w' y' ns' k' e) : TkRes w w' y ns k e := by
  rw [h] at h'
  injection h' with e1 h'
  injection h' with e2 e3
  rw [e1, e2, e3]
  exact g
theorem gv_one {W : World} {base b : Nat} {y : Gv} {F A : Option Addr} {fn fc an ac : Nat} {n : Nt} {G : Option Addr} {gc : Nat} (h : GvMem W base y [] F fn fc A an ac none 0 0 []) (hO : Own W base 27 10 (some ⟨b, 0, none⟩) 1 1 (nts [⟨n, none, 0, G, gc⟩])) (hd : n.data = []) (hG : Own W base 66 2 G n.gaps.length gc (gps n.gaps)) (hGA : ∀ q, blk A = some q → blk G ≠ some q) : GvMem W base y [n] F fn fc A an ac (some ⟨b, 0, none⟩) 1 1 [⟨n, none, 0, G, gc⟩] :=
  ⟨h.fl, h.al, rfl, rfl, h.file, h.again, hO, ⟨fun i x hx => by
    rcases i with _ | i
    · simp at hx
      subst hx
      refine ⟨?_, hG⟩
      show Own W base 5 1 none n.data.length 0 (bvs n.data)
      rw [hd]
      exact Own.none_ _ _ _ _
    · simp at hx, fun i j x y hij hx hy => by
    rcases j with _ | j
    · omega
    · simp at hy⟩, fun i x hx => by
    rcases i with _ | i
    · simp at hx
      subst hx
      exact ⟨fun q _ h => by simp [blk] at h, hGA⟩
    · simp at hx⟩
theorem tk_fin {w W : World} {base : Nat} {y : Tk} {ns : List Nt} {F A O : Option Addr} {fn fc an ac on oc : Nat} {l : List NtR} {k : Int} (hB : Below w.heap.size w W) (hb : w.heap.size ≤ base) (hM : GvMem W base (pg y) ns F fn fc A an ac O on oc l) :
    TkRes w W y ns k (.returned (.tuple #[tvv y F fn fc A an ac, .slice O on oc, .int .i64 k])) :=
  ⟨F, fn, fc, A, an, ac, O, on, oc, l, rfl, hM.map fun e s A n c xs h => h.mono hb, hB⟩
theorem notesz2 : (Try.prog.info? 27).map (·.size) = some 10 := by kernel_rfl
set_option maxHeartbeats 3200000 in
set_option maxRecDepth 100000 in
theorem rdone_any (x : Tk) (F : Option Addr) (fn fc : Nat) (A : Option Addr) (an ac : Nat) (c : Int) (w : World) :
    Calls Try.prog 50 #[tvv x F fn fc A an ac, .int .i64 c] w fun e w' => e = .returned (ntv (doneN x c) none 0 0 none 0 0) ∧ Below w.heap.size w w' := by
  obtain ⟨id, known, name, size, ended, last, sum, have_, file, stage, timer, patience, tries, limit⟩ := x
  unfold tvv tkv tkc ntv doneN
  dsimp only
  have b1 := (Blk.new w 44 #[.int .i64 id, .bool known, .string name, .int .i64 size, .bool ended, .int .i64 last, .int .i64 sum, .slice A an ac, .slice F fn fc, .int .i64 stage, .int .i64 timer, .int .i64 patience, .int .i64 tries, .int .i64 limit]).alloc (.cells #[.int .i64 0, .int .i64 0, .string ⟨#[]⟩, .int .i64 0, .int .i64 0, .int .i64 0, .slice none 0 0, .slice none 0 0, .int .i64 0, .int .i64 0] 27)
  have br := Blk.new (w.alloc (.cells #[.int .i64 id, .bool known, .string name, .int .i64 size, .bool ended, .int .i64 last, .int .i64 sum, .slice A an ac, .slice F fn fc, .int .i64 stage, .int .i64 timer, .int .i64 patience, .int .i64 tries, .int .i64 limit] 44)) 27 #[.int .i64 0, .int .i64 0, .string ⟨#[]⟩, .int .i64 0, .int .i64 0, .int .i64 0, .slice none 0 0, .slice none 0 0, .int .i64 0, .int .i64 0]
  rw [show (w.alloc (.cells #[.int .i64 id, .bool known, .string name, .int .i64 size, .bool ended, .int .i64 last, .int .i64 sum, .slice A an ac, .slice F fn fc, .int .i64 stage, .int .i64 timer, .int .i64 patience, .int .i64 tries, .int .i64 limit] 44)).heap.size = w.heap.size + 1 by simp] at br
  have hB : Below w.heap.size w ((w.alloc (.cells #[.int .i64 id, .bool known, .string name, .int .i64 size, .bool ended, .int .i64 last, .int .i64 sum, .slice A an ac, .slice F fn fc, .int .i64 stage, .int .i64 timer, .int .i64 patience, .int .i64 tries, .int .i64 limit] 44)).alloc (.cells #[.int .i64 0, .int .i64 0, .string ⟨#[]⟩, .int .i64 0, .int .i64 0, .int .i64 0, .slice none 0 0, .slice none 0 0, .int .i64 0, .int .i64 0] 27)) := ((Below.refl _ _).alloc (Nat.le_refl _) _).alloc (by simp) _
  go_enter Try.func50, Try.ntmps50
  go_upto_region 1 with fail
  generalize (w.alloc (.cells #[.int .i64 id, .bool known, .string name, .int .i64 size, .bool ended, .int .i64 last, .int .i64 sum, .slice A an ac, .slice F fn fc, .int .i64 stage, .int .i64 timer, .int .i64 patience, .int .i64 tries, .int .i64 limit] 44)).alloc (.cells #[.int .i64 0, .int .i64 0, .string ⟨#[]⟩, .int .i64 0, .int .i64 0, .int .i64 0, .slice none 0 0, .slice none 0 0, .int .i64 0, .int .i64 0] 27) = W at *
  have x0 := b1.cell' (i := 0) rfl
  go_wp2_with (refine wpList_store_row rfl 27 (.tmp 4) (.tmp 8) rfl (w.heap.size + 1) #[.int .i64 5, .int .i64 id, .string ⟨#[]⟩, .int .i64 0, .int .i64 0, .int .i64 0, .slice none 0 0, .slice none 0 0, .int .i64 0, .int .i64 c] rfl rfl 27 _ br notesz2 rfl (by simp [Value.oneCell']) ?_)
  have br9 := br.row #[.int .i64 5, .int .i64 id, .string ⟨#[]⟩, .int .i64 0, .int .i64 0, .int .i64 0, .slice none 0 0, .slice none 0 0, .int .i64 0, .int .i64 c]
  refine bodyPost_ret (v := .agg #[.int .i64 5, .int .i64 id, .string ⟨#[]⟩, .int .i64 0, .int .i64 0, .int .i64 0, .slice none 0 0, .slice none 0 0, .int .i64 0, .int .i64 c]) (results_cell_row (ty := 27) rfl _ _ (w.heap.size + 1) 27 _ (0, 0) _ rfl br9 Try.underlying27 rfl notesz2) rfl ?_
  exact ⟨rfl, below_row hB (by omega) _⟩
theorem waitR_no {x : Tk} (h : tkOk x = false) : waitR x = (tkZero, [], 11) := by unfold waitR; rw [if_pos h]
theorem waitR_is {x : Tk} {y : Tk} {ns : List Nt} (h : tkOk x = true) (h2 : waitT x = (y, ns)) : waitR x = (y, ns, 0) := by unfold waitR; rw [if_neg (by rw [h]; decide), h2]
theorem waitT_a {x : Tk} (h : x.stage = 0 ∧ x.ended = true) (h1 : ¬ x.timer + 1 = x.patience) : waitT x = ({ x with timer := x.timer + 1 }, []) := by unfold waitT; rw [if_pos h, if_neg h1]
theorem waitT_b {x : Tk} (h : x.stage = 0 ∧ x.ended = true) (h1 : x.timer + 1 = x.patience) (h2 : x.tries = x.limit) : waitT x = ({ x with timer := 0, stage := 4 }, []) := by unfold waitT; rw [if_pos h, if_pos h1, if_pos h2]
theorem waitT_c {x : Tk} (h : x.stage = 0 ∧ x.ended = true) (h1 : x.timer + 1 = x.patience) (h2 : ¬ x.tries = x.limit) : waitT x = ({ x with timer := 0, tries := x.tries + 1 }, askT x) := by unfold waitT; rw [if_pos h, if_pos h1, if_neg h2]
theorem waitT_d {x : Tk} (h : ¬ (x.stage = 0 ∧ x.ended = true)) (h1 : x.stage = 3 ∧ x.tries < x.limit) (h2 : x.timer + 1 = x.patience) : waitT x = ({ x with timer := 0, tries := x.tries + 1 }, [doneN x 0]) := by unfold waitT; rw [if_neg h, if_pos h1, if_pos h2]
theorem waitT_e {x : Tk} (h : ¬ (x.stage = 0 ∧ x.ended = true)) (h1 : x.stage = 3 ∧ x.tries < x.limit) (h2 : ¬ x.timer + 1 = x.patience) : waitT x = ({ x with timer := x.timer + 1 }, []) := by unfold waitT; rw [if_neg h, if_pos h1, if_neg h2]
theorem waitT_f {x : Tk} (h : ¬ (x.stage = 0 ∧ x.ended = true)) (h1 : ¬ (x.stage = 3 ∧ x.tries < x.limit)) : waitT x = (x, []) := by unfold waitT; rw [if_neg h, if_neg h1]
theorem askT_no {x : Tk} (h : missT x = []) : askT x = [] := by unfold askT; rw [if_pos h]
theorem askT_yes {x : Tk} (h : missT x ≠ []) : askT x = [gapsN x (missT x)] := by unfold askT; rw [if_neg h]
/-- What a taker that may be keeps. -/
structure TkI (x : Tk) : Prop where
  timer : 0 ≤ x.timer ∧ x.timer < x.patience ∧ x.patience ≤ 1000
  tries : 0 ≤ x.tries ∧ x.tries ≤ x.limit ∧ x.limit ≤ 100
  last : 0 ≤ x.last ∧ x.last ≤ 65536
  size : 0 ≤ x.size ∧ x.size ≤ 65536
  rows : Srt (-1) x.have_
  long : (x.file.length : Int) = max (endR (-1) x.have_) 0 ∧ x.file.length ≤ 65536
theorem TkI.of {x : Tk} (h : tkOk x = true) : TkI x := by
  obtain ⟨h1, h2, h3, h4, h5, h6, h7, h8⟩ := tk_parts h
  unfold expB at h1
  unfold tickB at h2
  unfold sizesB at h4
  unfold rowsB endF at h6
  simp only [Bool.and_eq_true, rngB_iff, decide_eq_true_eq] at h1 h2 h4 h6
  exact ⟨by omega, by omega, by omega, by omega, (srtB_iff _ _).1 h6.1, by omega, by omega⟩
set_option maxHeartbeats 12800000 in
set_option maxRecDepth 100000 in
theorem waitOf_any (x : Tk) (F : Option Addr) (fn fc : Nat) (A : Option Addr) (an ac : Nat) (y : Tk) (ns : List Nt) (k : Int) (w : World) (hr : waitR x = (y, ns, k)) (hf : x.file.length = fn) (ha : x.have_.length = an) (hF : Rd w F (bvs x.file)) (hA : Rd w A (gps x.have_)) (hfn : fn ≤ 140737488351232) (han : an ≤ 8796093022200) :
    Calls Try.prog 22 #[tvv x F fn fc A an ac] w fun e w' => TkRes w w' y ns k e := by
  have HR := Lib.hid hr
  have CM := Lib.hid (fun (V : World) (hB : Below w.heap.size w V) => takerMay_any x A an ac F fn fc V ha hf (hA.below hB) (hF.below hB) han hfn)
  have CO := Lib.hid (fun (V : World) (hB : Below w.heap.size w V) => takerOf_v x F fn fc A an ac V hf ha (hF.below hB) (hA.below hB) hfn han)
  obtain ⟨r1, hr1⟩ : ∃ r1, tkOk x = r1 := ⟨_, rfl⟩
  rw [hr1] at CM
  have H1 := Lib.hid hr1
  have HFL := Lib.hid hf
  have HHL := Lib.hid ha
  clear hr hr1 hf ha hF hA
  obtain ⟨id, known, name, size, ended, last, sum, have_, file, stage, timer, patience, tries, limit⟩ := x
  unfold tvv tkv tkc
  unfold tkv tkc at CM
  unfold tvv tkv tkc at CO
  dsimp only at CM CO H1 HFL HHL ⊢
  have bx := (Blk.new w 44 #[.int .i64 id, .bool known, .string name, .int .i64 size, .bool ended, .int .i64 last, .int .i64 sum, .slice A an ac, .slice F fn fc, .int .i64 stage, .int .i64 timer, .int .i64 patience, .int .i64 tries, .int .i64 limit]).alloc (.cells #[.int .i64 0, .bool false, .string ⟨#[]⟩, .int .i64 0, .bool false, .int .i64 0, .int .i64 0, .slice none 0 0, .slice none 0 0, .int .i64 0, .int .i64 0, .int .i64 0, .int .i64 0, .int .i64 0] 44)
  have br := Blk.new (w.alloc (.cells #[.int .i64 id, .bool known, .string name, .int .i64 size, .bool ended, .int .i64 last, .int .i64 sum, .slice A an ac, .slice F fn fc, .int .i64 stage, .int .i64 timer, .int .i64 patience, .int .i64 tries, .int .i64 limit] 44)) 44 #[.int .i64 0, .bool false, .string ⟨#[]⟩, .int .i64 0, .bool false, .int .i64 0, .int .i64 0, .slice none 0 0, .slice none 0 0, .int .i64 0, .int .i64 0, .int .i64 0, .int .i64 0, .int .i64 0]
  rw [show (w.alloc (.cells #[.int .i64 id, .bool known, .string name, .int .i64 size, .bool ended, .int .i64 last, .int .i64 sum, .slice A an ac, .slice F fn fc, .int .i64 stage, .int .i64 timer, .int .i64 patience, .int .i64 tries, .int .i64 limit] 44)).heap.size = w.heap.size + 1 by simp] at br
  have hB : Below w.heap.size w ((w.alloc (.cells #[.int .i64 id, .bool known, .string name, .int .i64 size, .bool ended, .int .i64 last, .int .i64 sum, .slice A an ac, .slice F fn fc, .int .i64 stage, .int .i64 timer, .int .i64 patience, .int .i64 tries, .int .i64 limit] 44)).alloc (.cells #[.int .i64 0, .bool false, .string ⟨#[]⟩, .int .i64 0, .bool false, .int .i64 0, .int .i64 0, .slice none 0 0, .slice none 0 0, .int .i64 0, .int .i64 0, .int .i64 0, .int .i64 0, .int .i64 0] 44)) := ((Below.refl _ _).alloc (Nat.le_refl _) _).alloc (by simp) _
  go_enter Try.func22, Try.ntmps22
  go_upto_region 1 with fail
  generalize (w.alloc (.cells #[.int .i64 id, .bool known, .string name, .int .i64 size, .bool ended, .int .i64 last, .int .i64 sum, .slice A an ac, .slice F fn fc, .int .i64 stage, .int .i64 timer, .int .i64 patience, .int .i64 tries, .int .i64 limit] 44)).alloc (.cells #[.int .i64 0, .bool false, .string ⟨#[]⟩, .int .i64 0, .bool false, .int .i64 0, .int .i64 0, .slice none 0 0, .slice none 0 0, .int .i64 0, .int .i64 0, .int .i64 0, .int .i64 0, .int .i64 0] 44) = W at *
  go_wp2_with (refine wpList_load_row rfl 44 (.tmp 1) rfl w.heap.size rfl 44 #[.int .i64 id, .bool known, .string name, .int .i64 size, .bool ended, .int .i64 last, .int .i64 sum, .slice A an ac, .slice F fn fc, .int .i64 stage, .int .i64 timer, .int .i64 patience, .int .i64 tries, .int .i64 limit] (0, 0) _ bx Try.underlying44 rfl takersz ?_)
  refine (CM.out _ hB).mono ?_
  rintro e w1 ⟨rfl, hb⟩
  replace bx := bx.step hb
  replace br := br.step hb
  replace hB := hB.trans (hb.mono hB.size)
  clear hb CM
  cases r1
  ·
    go_wp2_with (refine wpList_store_row rfl 44 (.tmp 2) (.tmp 10) rfl (w.heap.size + 1) #[.int .i64 0, .bool false, .string ⟨#[]⟩, .int .i64 0, .bool false, .int .i64 0, .int .i64 0, .slice none 0 0, .slice none 0 0, .int .i64 0, .int .i64 0, .int .i64 0, .int .i64 0, .int .i64 0] rfl rfl 44 _ br takersz rfl (by simp [Value.oneCell']) ?_)
    have br2 := br.row #[.int .i64 0, .bool false, .string ⟨#[]⟩, .int .i64 0, .bool false, .int .i64 0, .int .i64 0, .slice none 0 0, .slice none 0 0, .int .i64 0, .int .i64 0, .int .i64 0, .int .i64 0, .int .i64 0]
    refine bodyPost_ret (v := .tuple #[.agg #[.int .i64 0, .bool false, .string ⟨#[]⟩, .int .i64 0, .bool false, .int .i64 0, .int .i64 0, .slice none 0 0, .slice none 0 0, .int .i64 0, .int .i64 0, .int .i64 0, .int .i64 0, .int .i64 0], .slice none 0 0, .int .i64 11]) (results_cell_two rfl _ _ (w.heap.size + 1) 44 _ (0, 0) _ rfl rfl rfl br2 Try.underlying44 rfl takersz) rfl ?_
    exact TkRes.of HR.out (waitR_no H1.out) (tk_out (y := tkZero) (base := w.heap.size + 2) hB (by omega) (by omega) (GvMem.none rfl rfl (Own.none_ _ _ _ _) (Own.none_ _ _ _ _)))
  have HI := Lib.hid (TkI.of H1.out)
  obtain ⟨⟨ht1, ht2, ht3⟩, ⟨hu1, hu2, hu3⟩, hl1, hs1, hsr, -⟩ := TkI.of H1.out
  dsimp only at ht1 ht2 ht3 hu1 hu2 hu3 hl1
  have HPO := Lib.hid (hsr.pos (Int.le_refl _))
  clear hsr hs1
  trace "A"
  go_wp2_with (refine wpList_load_row rfl 44 (.tmp 1) rfl w.heap.size rfl 44 #[.int .i64 id, .bool known, .string name, .int .i64 size, .bool ended, .int .i64 last, .int .i64 sum, .slice A an ac, .slice F fn fc, .int .i64 stage, .int .i64 timer, .int .i64 patience, .int .i64 tries, .int .i64 limit] (0, 0) _ bx Try.underlying44 rfl takersz ?_)
  refine (CO.out _ hB).mono ?_
  rintro e w2 ⟨F1, f1, A1, a1, rfl, hF, hA, hb⟩
  have zr := br.lt
  have zb := hb.size
  replace br := br.step hb
  replace hB := hB.trans (hb.mono hB.size)
  replace hF := hF.mono (base' := w.heap.size + 2) (by omega)
  replace hA := hA.mono (base' := w.heap.size + 2) (by omega)
  clear hb CO bx
  go_upto_region 4 with fail
  have bq := Blk.new w2 44 #[.int .i64 id, .bool known, .string name, .int .i64 size, .bool ended, .int .i64 last, .int .i64 sum, .slice A1 an a1, .slice F1 fn f1, .int .i64 stage, .int .i64 timer, .int .i64 patience, .int .i64 tries, .int .i64 limit]
  replace br := br.alloc (.cells #[.int .i64 id, .bool known, .string name, .int .i64 size, .bool ended, .int .i64 last, .int .i64 sum, .slice A1 an a1, .slice F1 fn f1, .int .i64 stage, .int .i64 timer, .int .i64 patience, .int .i64 tries, .int .i64 limit] 44)
  replace hF := hF.alloc (.cells #[.int .i64 id, .bool known, .string name, .int .i64 size, .bool ended, .int .i64 last, .int .i64 sum, .slice A1 an a1, .slice F1 fn f1, .int .i64 stage, .int .i64 timer, .int .i64 patience, .int .i64 tries, .int .i64 limit] 44)
  replace hA := hA.alloc (.cells #[.int .i64 id, .bool known, .string name, .int .i64 size, .bool ended, .int .i64 last, .int .i64 sum, .slice A1 an a1, .slice F1 fn f1, .int .i64 stage, .int .i64 timer, .int .i64 patience, .int .i64 tries, .int .i64 limit] 44)
  replace hB := hB.alloc hB.size (.cells #[.int .i64 id, .bool known, .string name, .int .i64 size, .bool ended, .int .i64 last, .int .i64 sum, .slice A1 an a1, .slice F1 fn f1, .int .i64 stage, .int .i64 timer, .int .i64 patience, .int .i64 tries, .int .i64 limit] 44)
  obtain ⟨q, hq⟩ : ∃ q, w2.heap.size = q := ⟨_, rfl⟩
  rw [hq] at bq zb ⊢
  have hrq : w.heap.size + 1 ≠ q := by omega
  have hq2 : w.heap.size + 2 ≤ q := by omega
  clear hq
  generalize w2.alloc (.cells #[.int .i64 id, .bool known, .string name, .int .i64 size, .bool ended, .int .i64 last, .int .i64 sum, .slice A1 an a1, .slice F1 fn f1, .int .i64 stage, .int .i64 timer, .int .i64 patience, .int .i64 tries, .int .i64 limit] 44) = V0 at *
  have xF := hF.notBlk bq (by decide)
  have xA := hA.notBlk bq (by decide)
  trace "B"
  have x9 := bq.cell' (i := 9) rfl
  have x4 := bq.cell' (i := 4) rfl
  have x10 := bq.cell' (i := 10) rfl
  have x11 := bq.cell' (i := 11) rfl
  have x12 := bq.cell' (i := 12) rfl
  have x13 := bq.cell' (i := 13) rfl
  have kf := bq.frozen
  by_cases hA0 : stage = 0 ∧ ended = true
  ·
    obtain ⟨rfl, rfl⟩ := hA0
    go_upto_region 6 with fail
    clear x9 x4 x10 x11 x12 x13 kf
    replace bq := bq.set_ 10 (.int .i64 (timer + 1))
    replace hF := hF.setFar (p := ⟨q, 10, none⟩) xF (.int .i64 (timer + 1))
    replace hA := hA.setFar (p := ⟨q, 10, none⟩) xA (.int .i64 (timer + 1))
    replace br := br.far (p := ⟨q, 10, none⟩) hrq (.int .i64 (timer + 1))
    replace hB := hB.setCell (p := ⟨q, 10, none⟩) (by show w.heap.size ≤ q; omega) (.int .i64 (timer + 1))
    generalize V0.setCell ⟨q, 10, none⟩ (.int .i64 (timer + 1)) = V1 at *
    replace xF := hF.notBlk bq (by decide)
    replace xA := hA.notBlk bq (by decide)
    have x10 := bq.cell' (i := 10) rfl
    have x11 := bq.cell' (i := 11) rfl
    trace "C"
    by_cases hp : timer + 1 = patience
    rotate_left
    ·
      have hpb : (timer + 1 == patience) = false := by rw [beq_eq_false_iff_ne]; exact hp
      have HE := Lib.hid (waitR_is H1.out (waitT_a ⟨rfl, rfl⟩ hp))
      have x9 := bq.cell' (i := 9) rfl
      clear hp
      go_wp2_with (first
        | (refine wpList_load_row rfl 44 (.tmp 5) rfl q rfl 44 #[.int .i64 id, .bool known, .string name, .int .i64 size, .bool true, .int .i64 last, .int .i64 sum, .slice A1 an a1, .slice F1 fn f1, .int .i64 0, .int .i64 (timer + 1), .int .i64 patience, .int .i64 tries, .int .i64 limit] (0, 0) _ bq Try.underlying44 rfl takersz ?_)
        | (refine wpList_store_row rfl 44 (.tmp 2) (.tmp 82) rfl (w.heap.size + 1) #[.int .i64 id, .bool known, .string name, .int .i64 size, .bool true, .int .i64 last, .int .i64 sum, .slice A1 an a1, .slice F1 fn f1, .int .i64 0, .int .i64 (timer + 1), .int .i64 patience, .int .i64 tries, .int .i64 limit] rfl rfl 44 _ br takersz rfl (by simp [Value.oneCell']) ?_))
      have br9 := br.row #[.int .i64 id, .bool known, .string name, .int .i64 size, .bool true, .int .i64 last, .int .i64 sum, .slice A1 an a1, .slice F1 fn f1, .int .i64 0, .int .i64 (timer + 1), .int .i64 patience, .int .i64 tries, .int .i64 limit]
      refine bodyPost_ret (v := .tuple #[.agg #[.int .i64 id, .bool known, .string name, .int .i64 size, .bool true, .int .i64 last, .int .i64 sum, .slice A1 an a1, .slice F1 fn f1, .int .i64 0, .int .i64 (timer + 1), .int .i64 patience, .int .i64 tries, .int .i64 limit], .slice none 0 0, .int .i64 0]) (results_cell_two rfl _ _ (w.heap.size + 1) 44 _ (0, 0) _ rfl rfl rfl br9 Try.underlying44 rfl takersz) rfl ?_
      exact TkRes.of HR.out (HE.out) (tk_out (y := (⟨id, known, name, size, true, last, sum, have_, file, 0, timer + 1, patience, tries, limit⟩ : Tk)) (base := w.heap.size + 2) hB (by omega) (by omega) (GvMem.none HFL.out HHL.out hF hA))
    have hpb : (timer + 1 == patience) = true := by rw [beq_iff_eq]; exact hp
    have kf := bq.frozen
    go_upto_region 8 with fail
    clear kf x10 x11
    replace bq := bq.set_ 10 (.int .i64 0)
    replace hF := hF.setFar (p := ⟨q, 10, none⟩) xF (.int .i64 0)
    replace hA := hA.setFar (p := ⟨q, 10, none⟩) xA (.int .i64 0)
    replace br := br.far (p := ⟨q, 10, none⟩) hrq (.int .i64 0)
    replace hB := hB.setCell (p := ⟨q, 10, none⟩) (by show w.heap.size ≤ q; omega) (.int .i64 0)
    generalize V1.setCell ⟨q, 10, none⟩ (.int .i64 0) = V2 at *
    replace xF := hF.notBlk bq (by decide)
    replace xA := hA.notBlk bq (by decide)
    have x12 := bq.cell' (i := 12) rfl
    have kf := bq.frozen
    go_upto_region 9 with fail
    clear kf x12
    replace bq := bq.set_ 12 (.int .i64 (tries + 1))
    replace hF := hF.setFar (p := ⟨q, 12, none⟩) xF (.int .i64 (tries + 1))
    replace hA := hA.setFar (p := ⟨q, 12, none⟩) xA (.int .i64 (tries + 1))
    replace br := br.far (p := ⟨q, 12, none⟩) hrq (.int .i64 (tries + 1))
    replace hB := hB.setCell (p := ⟨q, 12, none⟩) (by show w.heap.size ≤ q; omega) (.int .i64 (tries + 1))
    generalize V2.setCell ⟨q, 12, none⟩ (.int .i64 (tries + 1)) = V3 at *
    replace xF := hF.notBlk bq (by decide)
    replace xA := hA.notBlk bq (by decide)
    have x12 := bq.cell' (i := 12) rfl
    have x13 := bq.cell' (i := 13) rfl
    trace "D"
    by_cases hl : tries = limit
    ·
      have d1 : decide (limit < tries + 1) = true := decide_eq_true (by omega)
      have HE := Lib.hid (waitR_is H1.out (waitT_b ⟨rfl, rfl⟩ hp hl))
      have HL := Lib.hid hl
      have kf := bq.frozen
      go_upto_region 11 with fail
      clear kf x12 x13 d1 hl
      replace bq := bq.set_ 12 (.int .i64 limit)
      replace hF := hF.setFar (p := ⟨q, 12, none⟩) xF (.int .i64 limit)
      replace hA := hA.setFar (p := ⟨q, 12, none⟩) xA (.int .i64 limit)
      replace br := br.far (p := ⟨q, 12, none⟩) hrq (.int .i64 limit)
      replace hB := hB.setCell (p := ⟨q, 12, none⟩) (by show w.heap.size ≤ q; omega) (.int .i64 limit)
      generalize V3.setCell ⟨q, 12, none⟩ (.int .i64 limit) = V4 at *
      replace xF := hF.notBlk bq (by decide)
      replace xA := hA.notBlk bq (by decide)
      have kf := bq.frozen
      have y9 := bq.cell' (i := 9) rfl
      go_upto_region 15 with fail
      clear kf y9
      replace bq := bq.set_ 9 (.int .i64 4)
      replace hF := hF.setFar (p := ⟨q, 9, none⟩) xF (.int .i64 4)
      replace hA := hA.setFar (p := ⟨q, 9, none⟩) xA (.int .i64 4)
      replace br := br.far (p := ⟨q, 9, none⟩) hrq (.int .i64 4)
      replace hB := hB.setCell (p := ⟨q, 9, none⟩) (by show w.heap.size ≤ q; omega) (.int .i64 4)
      generalize V4.setCell ⟨q, 9, none⟩ (.int .i64 4) = V5 at *
      replace xF := hF.notBlk bq (by decide)
      replace xA := hA.notBlk bq (by decide)
      have x9 := bq.cell' (i := 9) rfl
      obtain rfl : limit = tries := HL.out.symm
      clear hp
      go_wp2_with (first
        | (refine wpList_load_row rfl 44 (.tmp 5) rfl q rfl 44 #[.int .i64 id, .bool known, .string name, .int .i64 size, .bool true, .int .i64 last, .int .i64 sum, .slice A1 an a1, .slice F1 fn f1, .int .i64 4, .int .i64 0, .int .i64 patience, .int .i64 limit, .int .i64 limit] (0, 0) _ bq Try.underlying44 rfl takersz ?_)
        | (refine wpList_store_row rfl 44 (.tmp 2) (.tmp 82) rfl (w.heap.size + 1) #[.int .i64 id, .bool known, .string name, .int .i64 size, .bool true, .int .i64 last, .int .i64 sum, .slice A1 an a1, .slice F1 fn f1, .int .i64 4, .int .i64 0, .int .i64 patience, .int .i64 limit, .int .i64 limit] rfl rfl 44 _ br takersz rfl (by simp [Value.oneCell']) ?_))
      have br9 := br.row #[.int .i64 id, .bool known, .string name, .int .i64 size, .bool true, .int .i64 last, .int .i64 sum, .slice A1 an a1, .slice F1 fn f1, .int .i64 4, .int .i64 0, .int .i64 patience, .int .i64 limit, .int .i64 limit]
      refine bodyPost_ret (v := .tuple #[.agg #[.int .i64 id, .bool known, .string name, .int .i64 size, .bool true, .int .i64 last, .int .i64 sum, .slice A1 an a1, .slice F1 fn f1, .int .i64 4, .int .i64 0, .int .i64 patience, .int .i64 limit, .int .i64 limit], .slice none 0 0, .int .i64 0]) (results_cell_two rfl _ _ (w.heap.size + 1) 44 _ (0, 0) _ rfl rfl rfl br9 Try.underlying44 rfl takersz) rfl ?_
      exact TkRes.of HR.out (HE.out) (tk_out (y := (⟨id, known, name, size, true, last, sum, have_, file, 4, 0, patience, limit, limit⟩ : Tk)) (base := w.heap.size + 2) hB (by omega) (by omega) (GvMem.none HFL.out HHL.out hF hA))
    ·
      have d1 : decide (limit < tries + 1) = false := decide_eq_false (by omega)
      have HE := Lib.hid (waitR_is H1.out (waitT_c ⟨rfl, rfl⟩ hp hl))
      clear hp
      go_upto_region 12 with fail
      clear x12 x13 d1
      trace "E"
      have CMI := Lib.hid (missing_any (⟨id, known, name, size, true, last, sum, have_, file, 0, 0, patience, tries + 1, limit⟩ : Tk) A1 an a1 F1 fn f1 V3 HHL.out hA.rd han HPO.out hl1)
      unfold tkv tkc at CMI
      dsimp only at CMI
      go_wp2_with (refine wpList_load_row rfl 44 (.tmp 5) rfl q rfl 44 #[.int .i64 id, .bool known, .string name, .int .i64 size, .bool true, .int .i64 last, .int .i64 sum, .slice A1 an a1, .slice F1 fn f1, .int .i64 0, .int .i64 0, .int .i64 patience, .int .i64 (tries + 1), .int .i64 limit] (0, 0) _ bq Try.underlying44 rfl takersz ?_)
      refine CMI.out.mono ?_
      rintro e w3 ⟨G, gc, rfl, hG, hb⟩
      have hGA : ∀ q, blk A1 = some q → blk G ≠ some q := fun i h1 h2 => by have := (hA.lt i h1).2; have := (hG.lt i h2).1; omega
      have zV3 := bq.lt
      replace bq := bq.step hb
      replace br := br.step hb
      replace hF := hF.step hb
      replace hA := hA.step hb
      replace hB := hB.trans (hb.mono hB.size)
      replace hG := hG.mono (base' := w.heap.size + 2) (by omega)
      clear hb CMI xF xA
      obtain ⟨mt, hmt⟩ : ∃ mt, missT (⟨id, known, name, size, true, last, sum, have_, file, 0, 0, patience, tries + 1, limit⟩ : Tk) = mt := ⟨_, rfl⟩
      rw [hmt] at hG ⊢
      have HM := Lib.hid (show missT (⟨id, known, name, size, true, last, sum, have_, file, 0, timer, patience, tries, limit⟩ : Tk) = mt from hmt)
      clear hmt
      obtain ⟨mn, hmn⟩ : ∃ mn, mt.length = mn := ⟨_, rfl⟩
      rw [hmn] at hG ⊢
      have HMT := Lib.hid hmn
      clear hmn
      by_cases hz : mn = 0
      ·
        have d1 : ¬ (0 : Int) < (mn : Int) := by omega
        have d2 : decide (0 < mn) = false := decide_eq_false (by omega)
        have HE2 := Lib.hid (HE.out.trans (by rw [askT_no (HM.out.trans (List.eq_nil_of_length_eq_zero (HMT.out.trans hz)))]))
        have x9 := bq.cell' (i := 9) rfl
        trace "F"
        go_wp2_with (first
          | (refine wpList_load_row rfl 44 (.tmp 5) rfl q rfl 44 #[.int .i64 id, .bool known, .string name, .int .i64 size, .bool true, .int .i64 last, .int .i64 sum, .slice A1 an a1, .slice F1 fn f1, .int .i64 0, .int .i64 0, .int .i64 patience, .int .i64 (tries + 1), .int .i64 limit] (0, 0) _ bq Try.underlying44 rfl takersz ?_)
          | (refine wpList_store_row rfl 44 (.tmp 2) (.tmp 82) rfl (w.heap.size + 1) #[.int .i64 id, .bool known, .string name, .int .i64 size, .bool true, .int .i64 last, .int .i64 sum, .slice A1 an a1, .slice F1 fn f1, .int .i64 0, .int .i64 0, .int .i64 patience, .int .i64 (tries + 1), .int .i64 limit] rfl rfl 44 _ br takersz rfl (by simp [Value.oneCell']) ?_))
        have br9 := br.row #[.int .i64 id, .bool known, .string name, .int .i64 size, .bool true, .int .i64 last, .int .i64 sum, .slice A1 an a1, .slice F1 fn f1, .int .i64 0, .int .i64 0, .int .i64 patience, .int .i64 (tries + 1), .int .i64 limit]
        refine bodyPost_ret (v := .tuple #[.agg #[.int .i64 id, .bool known, .string name, .int .i64 size, .bool true, .int .i64 last, .int .i64 sum, .slice A1 an a1, .slice F1 fn f1, .int .i64 0, .int .i64 0, .int .i64 patience, .int .i64 (tries + 1), .int .i64 limit], .slice none 0 0, .int .i64 0]) (results_cell_two rfl _ _ (w.heap.size + 1) 44 _ (0, 0) _ rfl rfl rfl br9 Try.underlying44 rfl takersz) rfl ?_
        exact TkRes.of HR.out (HE2.out) (tk_out (y := (⟨id, known, name, size, true, last, sum, have_, file, 0, 0, patience, tries + 1, limit⟩ : Tk)) (base := w.heap.size + 2) hB (by omega) (by omega) (GvMem.none HFL.out HHL.out hF hA))
      ·
        have d1 : (0 : Int) < (mn : Int) := by omega
        have d2 : decide (0 < mn) = true := decide_eq_true (by omega)
        have HE2 := Lib.hid (HE.out.trans (by rw [askT_yes (fun h => hz (by rw [← HMT.out, ← HM.out, h]; rfl)), HM.out]))
        go_upto_region 14 with fail
        trace "G"
        clear d1 d2
        refine heldRegion (fun v => Blk v q 44 #[.int .i64 id, .bool known, .string name, .int .i64 size, .bool true, .int .i64 last, .int .i64 sum, .slice A1 an a1, .slice F1 fn f1, .int .i64 0, .int .i64 0, .int .i64 patience, .int .i64 (tries + 1), .int .i64 limit]) 7 (by kernel_rfl) (by kernel_rfl) bq.drew (fun hSS => ?_)
        clear hSS
        replace bq := bq.drew
        replace br := br.drew
        replace hF := hF.drew
        replace hA := hA.drew
        replace hB := hB.drew
        replace hG := hG.drew
        generalize w3.drew = V4 at *
        refine walk_take 0 (v := ?va0) rfl (by kernel_rfl) (by kernel_rfl) (by kernel_rfl) (fun _ _ _ h => h) (bq) (Or.inl ⟨by rfl, ?ya0⟩) ?ra0
        case ya0 => intro w hSw; obtain hw := _root_.id hSw; have e0 := hw.cell' (i := 0) rfl; have e1 := hw.cell' (i := 1) rfl; have e2 := hw.cell' (i := 2) rfl; have e3 := hw.cell' (i := 3) rfl; have e4 := hw.cell' (i := 4) rfl; have e5 := hw.cell' (i := 5) rfl; have e6 := hw.cell' (i := 6) rfl; have e7 := hw.cell' (i := 7) rfl; have e8 := hw.cell' (i := 8) rfl; have e9 := hw.cell' (i := 9) rfl; have e10 := hw.cell' (i := 10) rfl; have e11 := hw.cell' (i := 11) rfl; have e12 := hw.cell' (i := 12) rfl; have e13 := hw.cell' (i := 13) rfl; have hSx := hSw; (try dsimp only at hSw); go_simp; try rfl
        case' ra0 => try simp only [List.getElem_toArray, List.getElem_cons_succ, List.getElem_cons_zero, Act.put, List.setIfInBounds_toArray, List.set_cons_zero, List.set_cons_succ]
        refine walk_take 1 (v := ?va1) rfl (by kernel_rfl) (by kernel_rfl) (by kernel_rfl) (fun _ _ _ h => h) (bq) (Or.inl ⟨by rfl, ?ya1⟩) ?ra1
        case ya1 => intro w hSw; obtain hw := _root_.id hSw; have e0 := hw.cell' (i := 0) rfl; have e1 := hw.cell' (i := 1) rfl; have e2 := hw.cell' (i := 2) rfl; have e3 := hw.cell' (i := 3) rfl; have e4 := hw.cell' (i := 4) rfl; have e5 := hw.cell' (i := 5) rfl; have e6 := hw.cell' (i := 6) rfl; have e7 := hw.cell' (i := 7) rfl; have e8 := hw.cell' (i := 8) rfl; have e9 := hw.cell' (i := 9) rfl; have e10 := hw.cell' (i := 10) rfl; have e11 := hw.cell' (i := 11) rfl; have e12 := hw.cell' (i := 12) rfl; have e13 := hw.cell' (i := 13) rfl; have hSx := hSw; (try dsimp only at hSw); go_simp; try rfl
        case' ra1 => try simp only [List.getElem_toArray, List.getElem_cons_succ, List.getElem_cons_zero, Act.put, List.setIfInBounds_toArray, List.set_cons_zero, List.set_cons_succ]
        refine walk_take 2 (v := ?va2) rfl (by kernel_rfl) (by kernel_rfl) (by kernel_rfl) (fun _ _ _ h => h) (bq) (Or.inl ⟨by rfl, ?ya2⟩) ?ra2
        case ya2 => intro w hSw; obtain hw := _root_.id hSw; have e0 := hw.cell' (i := 0) rfl; have e1 := hw.cell' (i := 1) rfl; have e2 := hw.cell' (i := 2) rfl; have e3 := hw.cell' (i := 3) rfl; have e4 := hw.cell' (i := 4) rfl; have e5 := hw.cell' (i := 5) rfl; have e6 := hw.cell' (i := 6) rfl; have e7 := hw.cell' (i := 7) rfl; have e8 := hw.cell' (i := 8) rfl; have e9 := hw.cell' (i := 9) rfl; have e10 := hw.cell' (i := 10) rfl; have e11 := hw.cell' (i := 11) rfl; have e12 := hw.cell' (i := 12) rfl; have e13 := hw.cell' (i := 13) rfl; have hSx := hSw; (try dsimp only at hSw); go_simp; try rfl
        case' ra2 => try simp only [List.getElem_toArray, List.getElem_cons_succ, List.getElem_cons_zero, Act.put, List.setIfInBounds_toArray, List.set_cons_zero, List.set_cons_succ]
        refine walk_take 3 (v := ?va3) rfl (by kernel_rfl) (by kernel_rfl) (by kernel_rfl) (fun _ _ _ h => h) (bq) (Or.inl ⟨by rfl, ?ya3⟩) ?ra3
        case ya3 => intro w hSw; obtain hw := _root_.id hSw; have e0 := hw.cell' (i := 0) rfl; have e1 := hw.cell' (i := 1) rfl; have e2 := hw.cell' (i := 2) rfl; have e3 := hw.cell' (i := 3) rfl; have e4 := hw.cell' (i := 4) rfl; have e5 := hw.cell' (i := 5) rfl; have e6 := hw.cell' (i := 6) rfl; have e7 := hw.cell' (i := 7) rfl; have e8 := hw.cell' (i := 8) rfl; have e9 := hw.cell' (i := 9) rfl; have e10 := hw.cell' (i := 10) rfl; have e11 := hw.cell' (i := 11) rfl; have e12 := hw.cell' (i := 12) rfl; have e13 := hw.cell' (i := 13) rfl; have hSx := hSw; (try dsimp only at hSw); go_simp; try rfl
        case' ra3 => try simp only [List.getElem_toArray, List.getElem_cons_succ, List.getElem_cons_zero, Act.put, List.setIfInBounds_toArray, List.set_cons_zero, List.set_cons_succ]
        refine walk_take 4 (v := ?va4) rfl (by kernel_rfl) (by kernel_rfl) (by kernel_rfl) (fun _ _ _ h => h) (bq) (Or.inl ⟨by rfl, ?ya4⟩) ?ra4
        case ya4 => intro w hSw; obtain hw := _root_.id hSw; have e0 := hw.cell' (i := 0) rfl; have e1 := hw.cell' (i := 1) rfl; have e2 := hw.cell' (i := 2) rfl; have e3 := hw.cell' (i := 3) rfl; have e4 := hw.cell' (i := 4) rfl; have e5 := hw.cell' (i := 5) rfl; have e6 := hw.cell' (i := 6) rfl; have e7 := hw.cell' (i := 7) rfl; have e8 := hw.cell' (i := 8) rfl; have e9 := hw.cell' (i := 9) rfl; have e10 := hw.cell' (i := 10) rfl; have e11 := hw.cell' (i := 11) rfl; have e12 := hw.cell' (i := 12) rfl; have e13 := hw.cell' (i := 13) rfl; have hSx := hSw; (try dsimp only at hSw); go_simp; try rfl
        case' ra4 => try simp only [List.getElem_toArray, List.getElem_cons_succ, List.getElem_cons_zero, Act.put, List.setIfInBounds_toArray, List.set_cons_zero, List.set_cons_succ]
        refine walk_step2 5 6 rfl rfl (by kernel_rfl) (by kernel_rfl) (by kernel_rfl) (fun K hK => ?b0) (fun K hK => ?c0)
        case b0 =>
          go_simp
          have bn := Blk.new V4 27 #[.int .i64 4, .int .i64 id, .string ⟨#[]⟩, .int .i64 0, .int .i64 0, .int .i64 0, .slice none 0 0, .slice G mn gc, .int .i64 0, .int .i64 0]
          have bq2 := bq.alloc (.cells #[.int .i64 4, .int .i64 id, .string ⟨#[]⟩, .int .i64 0, .int .i64 0, .int .i64 0, .slice none 0 0, .slice G mn gc, .int .i64 0, .int .i64 0] 27)
          have br2 := br.alloc (.cells #[.int .i64 4, .int .i64 id, .string ⟨#[]⟩, .int .i64 0, .int .i64 0, .int .i64 0, .slice none 0 0, .slice G mn gc, .int .i64 0, .int .i64 0] 27)
          have hF2 := hF.alloc (.cells #[.int .i64 4, .int .i64 id, .string ⟨#[]⟩, .int .i64 0, .int .i64 0, .int .i64 0, .slice none 0 0, .slice G mn gc, .int .i64 0, .int .i64 0] 27)
          have hA2 := hA.alloc (.cells #[.int .i64 4, .int .i64 id, .string ⟨#[]⟩, .int .i64 0, .int .i64 0, .int .i64 0, .slice none 0 0, .slice G mn gc, .int .i64 0, .int .i64 0] 27)
          have hB2 := hB.alloc hB.size (.cells #[.int .i64 4, .int .i64 id, .string ⟨#[]⟩, .int .i64 0, .int .i64 0, .int .i64 0, .slice none 0 0, .slice G mn gc, .int .i64 0, .int .i64 0] 27)
          have hG2 := hG.alloc (.cells #[.int .i64 4, .int .i64 id, .string ⟨#[]⟩, .int .i64 0, .int .i64 0, .int .i64 0, .slice none 0 0, .slice G mn gc, .int .i64 0, .int .i64 0] 27)
          have zb : w.heap.size + 2 ≤ V4.heap.size := by have := bq.lt; omega
          have hON : Own (V4.alloc (.cells #[.int .i64 4, .int .i64 id, .string ⟨#[]⟩, .int .i64 0, .int .i64 0, .int .i64 0, .slice none 0 0, .slice G mn gc, .int .i64 0, .int .i64 0] 27)) (w.heap.size + 2) 27 10 (some ⟨V4.heap.size, 0, none⟩) 1 1 (nts [⟨gapsN (⟨id, known, name, size, true, last, sum, have_, file, 0, timer, patience, tries, limit⟩ : Tk) mt, none, 0, G, gc⟩]) := Own.of_block bn zb rfl (Nat.le_refl _) (by unfold maxLen; omega) (by simp) (fun i u h => by simpa [nts, ncs, gapsN, doneN, HMT.out] using h)
          refine hK _ _ bq2 ?_
          clear hK K bq br hF hA hB bn
          try simp only [List.getElem_toArray, List.getElem_cons_succ, List.getElem_cons_zero, Act.put, List.setIfInBounds_toArray, List.set_cons_zero, List.set_cons_succ]
          refine walk_step 6 rfl (by kernel_rfl) (by kernel_rfl) (fun K hK => ?d0)
          case d0 =>
            rw [if_pos (by kernel_rfl)]
            refine wp_store_row 44 (.tmp 2) (.tmp 48) rfl (w.heap.size + 1) #[.int .i64 id, .bool known, .string name, .int .i64 size, .bool true, .int .i64 last, .int .i64 sum, .slice A1 an a1, .slice F1 fn f1, .int .i64 0, .int .i64 0, .int .i64 patience, .int .i64 (tries + 1), .int .i64 limit] rfl rfl 44 _ br2 takersz rfl (by simp [Value.oneCell']) ?_
            have bq3 := bq2.farRow (g := w.heap.size + 1) (Ne.symm hrq) #[.int .i64 id, .bool known, .string name, .int .i64 size, .bool true, .int .i64 last, .int .i64 sum, .slice A1 an a1, .slice F1 fn f1, .int .i64 0, .int .i64 0, .int .i64 patience, .int .i64 (tries + 1), .int .i64 limit]
            have br3 := br2.row #[.int .i64 id, .bool known, .string name, .int .i64 size, .bool true, .int .i64 last, .int .i64 sum, .slice A1 an a1, .slice F1 fn f1, .int .i64 0, .int .i64 0, .int .i64 patience, .int .i64 (tries + 1), .int .i64 limit]
            refine hK _ _ bq3 ?_
            clear hK K
            try simp only [List.getElem_toArray, List.getElem_cons_succ, List.getElem_cons_zero, Act.put, List.setIfInBounds_toArray, List.set_cons_zero, List.set_cons_succ]
            refine walk_tail (by kernel_rfl) ?_
            simp only [List.drop_succ_cons, List.drop_zero]
            go_wp2_with fail
            refine bodyPost_ret (v := .tuple #[.agg #[.int .i64 id, .bool known, .string name, .int .i64 size, .bool true, .int .i64 last, .int .i64 sum, .slice A1 an a1, .slice F1 fn f1, .int .i64 0, .int .i64 0, .int .i64 patience, .int .i64 (tries + 1), .int .i64 limit], .slice (some ⟨V4.heap.size, 0, none⟩) 1 1, .int .i64 0]) (results_cell_two rfl _ _ (w.heap.size + 1) 44 _ (0, 0) _ rfl rfl rfl br3 Try.underlying44 rfl takersz) rfl ?_
            exact TkRes.of HR.out (HE2.out) (tk_out (y := (⟨id, known, name, size, true, last, sum, have_, file, 0, 0, patience, tries + 1, limit⟩ : Tk)) (base := w.heap.size + 2) hB2 (by omega) (by omega) (gv_one (GvMem.none HFL.out HHL.out hF2 hA2) hON rfl (by show Own _ _ _ _ G mt.length gc (gps mt); rw [HMT.out]; exact hG2) hGA))
        case c0 =>
          rw [if_pos (by kernel_rfl)]
          refine wp_store_row 44 (.tmp 2) (.tmp 48) rfl (w.heap.size + 1) #[.int .i64 id, .bool known, .string name, .int .i64 size, .bool true, .int .i64 last, .int .i64 sum, .slice A1 an a1, .slice F1 fn f1, .int .i64 0, .int .i64 0, .int .i64 patience, .int .i64 (tries + 1), .int .i64 limit] rfl rfl 44 _ br takersz rfl (by simp [Value.oneCell']) ?_
          replace bq := bq.farRow (g := w.heap.size + 1) (Ne.symm hrq) #[.int .i64 id, .bool known, .string name, .int .i64 size, .bool true, .int .i64 last, .int .i64 sum, .slice A1 an a1, .slice F1 fn f1, .int .i64 0, .int .i64 0, .int .i64 patience, .int .i64 (tries + 1), .int .i64 limit]
          replace br := br.row #[.int .i64 id, .bool known, .string name, .int .i64 size, .bool true, .int .i64 last, .int .i64 sum, .slice A1 an a1, .slice F1 fn f1, .int .i64 0, .int .i64 0, .int .i64 patience, .int .i64 (tries + 1), .int .i64 limit]
          replace hF := hF.rowFar (r := w.heap.size + 1) (by omega) #[.int .i64 id, .bool known, .string name, .int .i64 size, .bool true, .int .i64 last, .int .i64 sum, .slice A1 an a1, .slice F1 fn f1, .int .i64 0, .int .i64 0, .int .i64 patience, .int .i64 (tries + 1), .int .i64 limit]
          replace hA := hA.rowFar (r := w.heap.size + 1) (by omega) #[.int .i64 id, .bool known, .string name, .int .i64 size, .bool true, .int .i64 last, .int .i64 sum, .slice A1 an a1, .slice F1 fn f1, .int .i64 0, .int .i64 0, .int .i64 patience, .int .i64 (tries + 1), .int .i64 limit]
          replace hG := hG.rowFar (r := w.heap.size + 1) (by omega) #[.int .i64 id, .bool known, .string name, .int .i64 size, .bool true, .int .i64 last, .int .i64 sum, .slice A1 an a1, .slice F1 fn f1, .int .i64 0, .int .i64 0, .int .i64 patience, .int .i64 (tries + 1), .int .i64 limit]
          replace hB := below_row hB (g := w.heap.size + 1) (by omega) #[.int .i64 id, .bool known, .string name, .int .i64 size, .bool true, .int .i64 last, .int .i64 sum, .slice A1 an a1, .slice F1 fn f1, .int .i64 0, .int .i64 0, .int .i64 patience, .int .i64 (tries + 1), .int .i64 limit]
          refine hK _ _ bq ?_
          clear hK K
          try simp only [List.getElem_toArray, List.getElem_cons_succ, List.getElem_cons_zero, Act.put, List.setIfInBounds_toArray, List.set_cons_zero, List.set_cons_succ]
          generalize V4.setRow (w.heap.size + 1) #[.int .i64 id, .bool known, .string name, .int .i64 size, .bool true, .int .i64 last, .int .i64 sum, .slice A1 an a1, .slice F1 fn f1, .int .i64 0, .int .i64 0, .int .i64 patience, .int .i64 (tries + 1), .int .i64 limit] = V9 at *
          refine walk_step 5 rfl (by kernel_rfl) (by kernel_rfl) (fun K hK => ?e0)
          case e0 =>
            go_simp
            have bn := Blk.new V9 27 #[.int .i64 4, .int .i64 id, .string ⟨#[]⟩, .int .i64 0, .int .i64 0, .int .i64 0, .slice none 0 0, .slice G mn gc, .int .i64 0, .int .i64 0]
            have bq2 := bq.alloc (.cells #[.int .i64 4, .int .i64 id, .string ⟨#[]⟩, .int .i64 0, .int .i64 0, .int .i64 0, .slice none 0 0, .slice G mn gc, .int .i64 0, .int .i64 0] 27)
            have br2 := br.alloc (.cells #[.int .i64 4, .int .i64 id, .string ⟨#[]⟩, .int .i64 0, .int .i64 0, .int .i64 0, .slice none 0 0, .slice G mn gc, .int .i64 0, .int .i64 0] 27)
            have hF2 := hF.alloc (.cells #[.int .i64 4, .int .i64 id, .string ⟨#[]⟩, .int .i64 0, .int .i64 0, .int .i64 0, .slice none 0 0, .slice G mn gc, .int .i64 0, .int .i64 0] 27)
            have hA2 := hA.alloc (.cells #[.int .i64 4, .int .i64 id, .string ⟨#[]⟩, .int .i64 0, .int .i64 0, .int .i64 0, .slice none 0 0, .slice G mn gc, .int .i64 0, .int .i64 0] 27)
            have hB2 := hB.alloc hB.size (.cells #[.int .i64 4, .int .i64 id, .string ⟨#[]⟩, .int .i64 0, .int .i64 0, .int .i64 0, .slice none 0 0, .slice G mn gc, .int .i64 0, .int .i64 0] 27)
            have hG2 := hG.alloc (.cells #[.int .i64 4, .int .i64 id, .string ⟨#[]⟩, .int .i64 0, .int .i64 0, .int .i64 0, .slice none 0 0, .slice G mn gc, .int .i64 0, .int .i64 0] 27)
            have zb : w.heap.size + 2 ≤ V9.heap.size := by have := bq.lt; omega
            have hON : Own (V9.alloc (.cells #[.int .i64 4, .int .i64 id, .string ⟨#[]⟩, .int .i64 0, .int .i64 0, .int .i64 0, .slice none 0 0, .slice G mn gc, .int .i64 0, .int .i64 0] 27)) (w.heap.size + 2) 27 10 (some ⟨V9.heap.size, 0, none⟩) 1 1 (nts [⟨gapsN (⟨id, known, name, size, true, last, sum, have_, file, 0, timer, patience, tries, limit⟩ : Tk) mt, none, 0, G, gc⟩]) := Own.of_block bn zb rfl (Nat.le_refl _) (by unfold maxLen; omega) (by simp) (fun i u h => by simpa [nts, ncs, gapsN, doneN, HMT.out] using h)
            refine hK _ _ bq2 ?_
            clear hK K bq br hF hA hB bn
            try simp only [List.getElem_toArray, List.getElem_cons_succ, List.getElem_cons_zero, Act.put, List.setIfInBounds_toArray, List.set_cons_zero, List.set_cons_succ]
            refine walk_tail (by kernel_rfl) ?_
            simp only [List.drop_succ_cons, List.drop_zero]
            go_wp2_with fail
            refine bodyPost_ret (v := .tuple #[.agg #[.int .i64 id, .bool known, .string name, .int .i64 size, .bool true, .int .i64 last, .int .i64 sum, .slice A1 an a1, .slice F1 fn f1, .int .i64 0, .int .i64 0, .int .i64 patience, .int .i64 (tries + 1), .int .i64 limit], .slice (some ⟨V9.heap.size, 0, none⟩) 1 1, .int .i64 0]) (results_cell_two rfl _ _ (w.heap.size + 1) 44 _ (0, 0) _ rfl rfl rfl br2 Try.underlying44 rfl takersz) rfl ?_
            exact TkRes.of HR.out (HE2.out) (tk_fin (y := (⟨id, known, name, size, true, last, sum, have_, file, 0, 0, patience, tries + 1, limit⟩ : Tk)) (base := w.heap.size + 2) hB2 (by omega) (gv_one (GvMem.none HFL.out HHL.out hF2 hA2) hON rfl (by show Own _ _ _ _ G mt.length gc (gps mt); rw [HMT.out]; exact hG2) hGA))
  ·
    trace "H"
    by_cases hD0 : stage = 3 ∧ tries < limit
    ·
      obtain ⟨rfl, hlt⟩ := hD0
      have d1 : decide (tries < limit) = true := decide_eq_true hlt
      go_upto_region 17 with fail
      clear x9 x4 x10 x11 x12 x13 kf d1
      replace bq := bq.set_ 10 (.int .i64 (timer + 1))
      replace hF := hF.setFar (p := ⟨q, 10, none⟩) xF (.int .i64 (timer + 1))
      replace hA := hA.setFar (p := ⟨q, 10, none⟩) xA (.int .i64 (timer + 1))
      replace br := br.far (p := ⟨q, 10, none⟩) hrq (.int .i64 (timer + 1))
      replace hB := hB.setCell (p := ⟨q, 10, none⟩) (by show w.heap.size ≤ q; omega) (.int .i64 (timer + 1))
      generalize V0.setCell ⟨q, 10, none⟩ (.int .i64 (timer + 1)) = V1 at *
      replace xF := hF.notBlk bq (by decide)
      replace xA := hA.notBlk bq (by decide)
      have x10 := bq.cell' (i := 10) rfl
      have x11 := bq.cell' (i := 11) rfl
      by_cases hp : timer + 1 = patience
      rotate_left
      ·
        have hpb : (timer + 1 == patience) = false := by rw [beq_eq_false_iff_ne]; exact hp
        have HE := Lib.hid (waitR_is H1.out (waitT_e hA0 ⟨rfl, hlt⟩ hp))
        clear hp hA0
        go_wp2_with (first
          | (refine wpList_load_row rfl 44 (.tmp 5) rfl q rfl 44 #[.int .i64 id, .bool known, .string name, .int .i64 size, .bool ended, .int .i64 last, .int .i64 sum, .slice A1 an a1, .slice F1 fn f1, .int .i64 3, .int .i64 (timer + 1), .int .i64 patience, .int .i64 tries, .int .i64 limit] (0, 0) _ bq Try.underlying44 rfl takersz ?_)
          | (refine wpList_store_row rfl 44 (.tmp 2) (.tmp 82) rfl (w.heap.size + 1) #[.int .i64 id, .bool known, .string name, .int .i64 size, .bool ended, .int .i64 last, .int .i64 sum, .slice A1 an a1, .slice F1 fn f1, .int .i64 3, .int .i64 (timer + 1), .int .i64 patience, .int .i64 tries, .int .i64 limit] rfl rfl 44 _ br takersz rfl (by simp [Value.oneCell']) ?_))
        have br9 := br.row #[.int .i64 id, .bool known, .string name, .int .i64 size, .bool ended, .int .i64 last, .int .i64 sum, .slice A1 an a1, .slice F1 fn f1, .int .i64 3, .int .i64 (timer + 1), .int .i64 patience, .int .i64 tries, .int .i64 limit]
        refine bodyPost_ret (v := .tuple #[.agg #[.int .i64 id, .bool known, .string name, .int .i64 size, .bool ended, .int .i64 last, .int .i64 sum, .slice A1 an a1, .slice F1 fn f1, .int .i64 3, .int .i64 (timer + 1), .int .i64 patience, .int .i64 tries, .int .i64 limit], .slice none 0 0, .int .i64 0]) (results_cell_two rfl _ _ (w.heap.size + 1) 44 _ (0, 0) _ rfl rfl rfl br9 Try.underlying44 rfl takersz) rfl ?_
        exact TkRes.of HR.out (HE.out) (tk_out (y := (⟨id, known, name, size, ended, last, sum, have_, file, 3, timer + 1, patience, tries, limit⟩ : Tk)) (base := w.heap.size + 2) hB (by omega) (by omega) (GvMem.none HFL.out HHL.out hF hA))
      have hpb : (timer + 1 == patience) = true := by rw [beq_iff_eq]; exact hp
      have HE := Lib.hid (waitR_is H1.out (waitT_d hA0 ⟨rfl, hlt⟩ hp))
      clear hp hA0
      have kf := bq.frozen
      go_upto_region 19 with fail
      clear kf x10 x11
      replace bq := bq.set_ 10 (.int .i64 0)
      replace hF := hF.setFar (p := ⟨q, 10, none⟩) xF (.int .i64 0)
      replace hA := hA.setFar (p := ⟨q, 10, none⟩) xA (.int .i64 0)
      replace br := br.far (p := ⟨q, 10, none⟩) hrq (.int .i64 0)
      replace hB := hB.setCell (p := ⟨q, 10, none⟩) (by show w.heap.size ≤ q; omega) (.int .i64 0)
      generalize V1.setCell ⟨q, 10, none⟩ (.int .i64 0) = V2 at *
      replace xF := hF.notBlk bq (by decide)
      replace xA := hA.notBlk bq (by decide)
      have x12 := bq.cell' (i := 12) rfl
      have kf := bq.frozen
      go_upto_region 20 with fail
      clear kf x12
      replace bq := bq.set_ 12 (.int .i64 (tries + 1))
      replace hF := hF.setFar (p := ⟨q, 12, none⟩) xF (.int .i64 (tries + 1))
      replace hA := hA.setFar (p := ⟨q, 12, none⟩) xA (.int .i64 (tries + 1))
      replace br := br.far (p := ⟨q, 12, none⟩) hrq (.int .i64 (tries + 1))
      replace hB := hB.setCell (p := ⟨q, 12, none⟩) (by show w.heap.size ≤ q; omega) (.int .i64 (tries + 1))
      generalize V2.setCell ⟨q, 12, none⟩ (.int .i64 (tries + 1)) = V3 at *
      replace xF := hF.notBlk bq (by decide)
      replace xA := hA.notBlk bq (by decide)
      trace "I"
      refine heldRegion (fun v => Blk v q 44 #[.int .i64 id, .bool known, .string name, .int .i64 size, .bool ended, .int .i64 last, .int .i64 sum, .slice A1 an a1, .slice F1 fn f1, .int .i64 3, .int .i64 0, .int .i64 patience, .int .i64 (tries + 1), .int .i64 limit]) 5 (by kernel_rfl) (by kernel_rfl) bq.drew (fun hSS => ?_)
      clear hSS xF xA
      replace bq := bq.drew
      replace br := br.drew
      replace hF := hF.drew
      replace hA := hA.drew
      replace hB := hB.drew
      generalize V3.drew = V4 at *
      refine walk_take 0 (v := ?vb0) rfl (by kernel_rfl) (by kernel_rfl) (by kernel_rfl) (fun _ _ _ h => h) (bq) (Or.inl ⟨by rfl, ?yb0⟩) ?rb0
      case yb0 => intro w hSw; obtain hw := _root_.id hSw; have e0 := hw.cell' (i := 0) rfl; have e1 := hw.cell' (i := 1) rfl; have e2 := hw.cell' (i := 2) rfl; have e3 := hw.cell' (i := 3) rfl; have e4 := hw.cell' (i := 4) rfl; have e5 := hw.cell' (i := 5) rfl; have e6 := hw.cell' (i := 6) rfl; have e7 := hw.cell' (i := 7) rfl; have e8 := hw.cell' (i := 8) rfl; have e9 := hw.cell' (i := 9) rfl; have e10 := hw.cell' (i := 10) rfl; have e11 := hw.cell' (i := 11) rfl; have e12 := hw.cell' (i := 12) rfl; have e13 := hw.cell' (i := 13) rfl; have hSx := hSw; (try dsimp only at hSw); go_simp; try rfl
      case' rb0 => try simp only [List.getElem_toArray, List.getElem_cons_succ, List.getElem_cons_zero, Act.put, List.setIfInBounds_toArray, List.set_cons_zero, List.set_cons_succ]
      refine walk_take 1 (v := ?vb1) rfl (by kernel_rfl) (by kernel_rfl) (by kernel_rfl) (fun _ _ _ h => h) (bq) (Or.inl ⟨by rfl, ?yb1⟩) ?rb1
      case yb1 => intro w hSw; obtain hw := _root_.id hSw; have e0 := hw.cell' (i := 0) rfl; have e1 := hw.cell' (i := 1) rfl; have e2 := hw.cell' (i := 2) rfl; have e3 := hw.cell' (i := 3) rfl; have e4 := hw.cell' (i := 4) rfl; have e5 := hw.cell' (i := 5) rfl; have e6 := hw.cell' (i := 6) rfl; have e7 := hw.cell' (i := 7) rfl; have e8 := hw.cell' (i := 8) rfl; have e9 := hw.cell' (i := 9) rfl; have e10 := hw.cell' (i := 10) rfl; have e11 := hw.cell' (i := 11) rfl; have e12 := hw.cell' (i := 12) rfl; have e13 := hw.cell' (i := 13) rfl; have hSx := hSw; (try dsimp only at hSw); go_simp; try rfl
      case' rb1 => try simp only [List.getElem_toArray, List.getElem_cons_succ, List.getElem_cons_zero, Act.put, List.setIfInBounds_toArray, List.set_cons_zero, List.set_cons_succ]
      have CDN := Lib.hid (rdone_any (⟨id, known, name, size, ended, last, sum, have_, file, 3, 0, patience, tries + 1, limit⟩ : Tk) F1 fn f1 A1 an a1 0 V4)
      unfold tvv tkv tkc ntv doneN at CDN
      dsimp only at CDN
      refine walk_step 2 rfl (by kernel_rfl) (by kernel_rfl) (fun K hK => ?d2)
      case d2 =>
        go_simp
        refine CDN.out.mono ?_
        rintro e w3 ⟨rfl, hb⟩
        replace bq := bq.step hb
        replace br := br.step hb
        replace hF := hF.step hb
        replace hA := hA.step hb
        replace hB := hB.trans (hb.mono hB.size)
        refine hK _ _ bq ?_
        clear hK K hb CDN
        try simp only [List.getElem_toArray, List.getElem_cons_succ, List.getElem_cons_zero, Act.put, List.setIfInBounds_toArray, List.set_cons_zero, List.set_cons_succ]
        refine walk_step2 3 4 rfl rfl (by kernel_rfl) (by kernel_rfl) (by kernel_rfl) (fun K hK => ?b1) (fun K hK => ?c1)
        case b1 =>
          go_simp
          have bn := Blk.new w3 27 #[.int .i64 5, .int .i64 id, .string ⟨#[]⟩, .int .i64 0, .int .i64 0, .int .i64 0, .slice none 0 0, .slice none 0 0, .int .i64 0, .int .i64 0]
          have bq2 := bq.alloc (.cells #[.int .i64 5, .int .i64 id, .string ⟨#[]⟩, .int .i64 0, .int .i64 0, .int .i64 0, .slice none 0 0, .slice none 0 0, .int .i64 0, .int .i64 0] 27)
          have br2 := br.alloc (.cells #[.int .i64 5, .int .i64 id, .string ⟨#[]⟩, .int .i64 0, .int .i64 0, .int .i64 0, .slice none 0 0, .slice none 0 0, .int .i64 0, .int .i64 0] 27)
          have hF2 := hF.alloc (.cells #[.int .i64 5, .int .i64 id, .string ⟨#[]⟩, .int .i64 0, .int .i64 0, .int .i64 0, .slice none 0 0, .slice none 0 0, .int .i64 0, .int .i64 0] 27)
          have hA2 := hA.alloc (.cells #[.int .i64 5, .int .i64 id, .string ⟨#[]⟩, .int .i64 0, .int .i64 0, .int .i64 0, .slice none 0 0, .slice none 0 0, .int .i64 0, .int .i64 0] 27)
          have hB2 := hB.alloc hB.size (.cells #[.int .i64 5, .int .i64 id, .string ⟨#[]⟩, .int .i64 0, .int .i64 0, .int .i64 0, .slice none 0 0, .slice none 0 0, .int .i64 0, .int .i64 0] 27)
          have hG2 := trivial
          have zb : w.heap.size + 2 ≤ w3.heap.size := by have := bq.lt; omega
          have hON : Own (w3.alloc (.cells #[.int .i64 5, .int .i64 id, .string ⟨#[]⟩, .int .i64 0, .int .i64 0, .int .i64 0, .slice none 0 0, .slice none 0 0, .int .i64 0, .int .i64 0] 27)) (w.heap.size + 2) 27 10 (some ⟨w3.heap.size, 0, none⟩) 1 1 (nts [⟨doneN (⟨id, known, name, size, ended, last, sum, have_, file, 3, timer, patience, tries, limit⟩ : Tk) 0, none, 0, none, 0⟩]) := Own.of_block bn zb rfl (Nat.le_refl _) (by unfold maxLen; omega) (by simp) (fun i u h => by simpa [nts, ncs, gapsN, doneN] using h)
          refine hK _ _ bq2 ?_
          clear hK K bq br hF hA hB bn
          try simp only [List.getElem_toArray, List.getElem_cons_succ, List.getElem_cons_zero, Act.put, List.setIfInBounds_toArray, List.set_cons_zero, List.set_cons_succ]
          refine walk_step 4 rfl (by kernel_rfl) (by kernel_rfl) (fun K hK => ?d1)
          case d1 =>
            rw [if_pos (by kernel_rfl)]
            refine wp_store_row 44 (.tmp 2) (.tmp 78) rfl (w.heap.size + 1) #[.int .i64 id, .bool known, .string name, .int .i64 size, .bool ended, .int .i64 last, .int .i64 sum, .slice A1 an a1, .slice F1 fn f1, .int .i64 3, .int .i64 0, .int .i64 patience, .int .i64 (tries + 1), .int .i64 limit] rfl rfl 44 _ br2 takersz rfl (by simp [Value.oneCell']) ?_
            have bq3 := bq2.farRow (g := w.heap.size + 1) (Ne.symm hrq) #[.int .i64 id, .bool known, .string name, .int .i64 size, .bool ended, .int .i64 last, .int .i64 sum, .slice A1 an a1, .slice F1 fn f1, .int .i64 3, .int .i64 0, .int .i64 patience, .int .i64 (tries + 1), .int .i64 limit]
            have br3 := br2.row #[.int .i64 id, .bool known, .string name, .int .i64 size, .bool ended, .int .i64 last, .int .i64 sum, .slice A1 an a1, .slice F1 fn f1, .int .i64 3, .int .i64 0, .int .i64 patience, .int .i64 (tries + 1), .int .i64 limit]
            refine hK _ _ bq3 ?_
            clear hK K
            try simp only [List.getElem_toArray, List.getElem_cons_succ, List.getElem_cons_zero, Act.put, List.setIfInBounds_toArray, List.set_cons_zero, List.set_cons_succ]
            refine walk_tail (by kernel_rfl) ?_
            simp only [List.drop_succ_cons, List.drop_zero]
            go_wp2_with fail
            refine bodyPost_ret (v := .tuple #[.agg #[.int .i64 id, .bool known, .string name, .int .i64 size, .bool ended, .int .i64 last, .int .i64 sum, .slice A1 an a1, .slice F1 fn f1, .int .i64 3, .int .i64 0, .int .i64 patience, .int .i64 (tries + 1), .int .i64 limit], .slice (some ⟨w3.heap.size, 0, none⟩) 1 1, .int .i64 0]) (results_cell_two rfl _ _ (w.heap.size + 1) 44 _ (0, 0) _ rfl rfl rfl br3 Try.underlying44 rfl takersz) rfl ?_
            exact TkRes.of HR.out (HE.out) (tk_out (y := (⟨id, known, name, size, ended, last, sum, have_, file, 3, 0, patience, tries + 1, limit⟩ : Tk)) (base := w.heap.size + 2) hB2 (by omega) (by omega) (gv_one (GvMem.none HFL.out HHL.out hF2 hA2) hON rfl (Own.none_ _ _ _ _) (fun q _ h => by simp [blk] at h)))
        case c1 =>
          rw [if_pos (by kernel_rfl)]
          refine wp_store_row 44 (.tmp 2) (.tmp 78) rfl (w.heap.size + 1) #[.int .i64 id, .bool known, .string name, .int .i64 size, .bool ended, .int .i64 last, .int .i64 sum, .slice A1 an a1, .slice F1 fn f1, .int .i64 3, .int .i64 0, .int .i64 patience, .int .i64 (tries + 1), .int .i64 limit] rfl rfl 44 _ br takersz rfl (by simp [Value.oneCell']) ?_
          replace bq := bq.farRow (g := w.heap.size + 1) (Ne.symm hrq) #[.int .i64 id, .bool known, .string name, .int .i64 size, .bool ended, .int .i64 last, .int .i64 sum, .slice A1 an a1, .slice F1 fn f1, .int .i64 3, .int .i64 0, .int .i64 patience, .int .i64 (tries + 1), .int .i64 limit]
          replace br := br.row #[.int .i64 id, .bool known, .string name, .int .i64 size, .bool ended, .int .i64 last, .int .i64 sum, .slice A1 an a1, .slice F1 fn f1, .int .i64 3, .int .i64 0, .int .i64 patience, .int .i64 (tries + 1), .int .i64 limit]
          replace hF := hF.rowFar (r := w.heap.size + 1) (by omega) #[.int .i64 id, .bool known, .string name, .int .i64 size, .bool ended, .int .i64 last, .int .i64 sum, .slice A1 an a1, .slice F1 fn f1, .int .i64 3, .int .i64 0, .int .i64 patience, .int .i64 (tries + 1), .int .i64 limit]
          replace hA := hA.rowFar (r := w.heap.size + 1) (by omega) #[.int .i64 id, .bool known, .string name, .int .i64 size, .bool ended, .int .i64 last, .int .i64 sum, .slice A1 an a1, .slice F1 fn f1, .int .i64 3, .int .i64 0, .int .i64 patience, .int .i64 (tries + 1), .int .i64 limit]
          skip
          replace hB := below_row hB (g := w.heap.size + 1) (by omega) #[.int .i64 id, .bool known, .string name, .int .i64 size, .bool ended, .int .i64 last, .int .i64 sum, .slice A1 an a1, .slice F1 fn f1, .int .i64 3, .int .i64 0, .int .i64 patience, .int .i64 (tries + 1), .int .i64 limit]
          refine hK _ _ bq ?_
          clear hK K
          try simp only [List.getElem_toArray, List.getElem_cons_succ, List.getElem_cons_zero, Act.put, List.setIfInBounds_toArray, List.set_cons_zero, List.set_cons_succ]
          generalize w3.setRow (w.heap.size + 1) #[.int .i64 id, .bool known, .string name, .int .i64 size, .bool ended, .int .i64 last, .int .i64 sum, .slice A1 an a1, .slice F1 fn f1, .int .i64 3, .int .i64 0, .int .i64 patience, .int .i64 (tries + 1), .int .i64 limit] = V9 at *
          refine walk_step 3 rfl (by kernel_rfl) (by kernel_rfl) (fun K hK => ?e1)
          case e1 =>
            go_simp
            have bn := Blk.new V9 27 #[.int .i64 5, .int .i64 id, .string ⟨#[]⟩, .int .i64 0, .int .i64 0, .int .i64 0, .slice none 0 0, .slice none 0 0, .int .i64 0, .int .i64 0]
            have bq2 := bq.alloc (.cells #[.int .i64 5, .int .i64 id, .string ⟨#[]⟩, .int .i64 0, .int .i64 0, .int .i64 0, .slice none 0 0, .slice none 0 0, .int .i64 0, .int .i64 0] 27)
            have br2 := br.alloc (.cells #[.int .i64 5, .int .i64 id, .string ⟨#[]⟩, .int .i64 0, .int .i64 0, .int .i64 0, .slice none 0 0, .slice none 0 0, .int .i64 0, .int .i64 0] 27)
            have hF2 := hF.alloc (.cells #[.int .i64 5, .int .i64 id, .string ⟨#[]⟩, .int .i64 0, .int .i64 0, .int .i64 0, .slice none 0 0, .slice none 0 0, .int .i64 0, .int .i64 0] 27)
            have hA2 := hA.alloc (.cells #[.int .i64 5, .int .i64 id, .string ⟨#[]⟩, .int .i64 0, .int .i64 0, .int .i64 0, .slice none 0 0, .slice none 0 0, .int .i64 0, .int .i64 0] 27)
            have hB2 := hB.alloc hB.size (.cells #[.int .i64 5, .int .i64 id, .string ⟨#[]⟩, .int .i64 0, .int .i64 0, .int .i64 0, .slice none 0 0, .slice none 0 0, .int .i64 0, .int .i64 0] 27)
            have hG2 := trivial
            have zb : w.heap.size + 2 ≤ V9.heap.size := by have := bq.lt; omega
            have hON : Own (V9.alloc (.cells #[.int .i64 5, .int .i64 id, .string ⟨#[]⟩, .int .i64 0, .int .i64 0, .int .i64 0, .slice none 0 0, .slice none 0 0, .int .i64 0, .int .i64 0] 27)) (w.heap.size + 2) 27 10 (some ⟨V9.heap.size, 0, none⟩) 1 1 (nts [⟨doneN (⟨id, known, name, size, ended, last, sum, have_, file, 3, timer, patience, tries, limit⟩ : Tk) 0, none, 0, none, 0⟩]) := Own.of_block bn zb rfl (Nat.le_refl _) (by unfold maxLen; omega) (by simp) (fun i u h => by simpa [nts, ncs, gapsN, doneN] using h)
            refine hK _ _ bq2 ?_
            clear hK K bq br hF hA hB bn
            try simp only [List.getElem_toArray, List.getElem_cons_succ, List.getElem_cons_zero, Act.put, List.setIfInBounds_toArray, List.set_cons_zero, List.set_cons_succ]
            refine walk_tail (by kernel_rfl) ?_
            simp only [List.drop_succ_cons, List.drop_zero]
            go_wp2_with fail
            refine bodyPost_ret (v := .tuple #[.agg #[.int .i64 id, .bool known, .string name, .int .i64 size, .bool ended, .int .i64 last, .int .i64 sum, .slice A1 an a1, .slice F1 fn f1, .int .i64 3, .int .i64 0, .int .i64 patience, .int .i64 (tries + 1), .int .i64 limit], .slice (some ⟨V9.heap.size, 0, none⟩) 1 1, .int .i64 0]) (results_cell_two rfl _ _ (w.heap.size + 1) 44 _ (0, 0) _ rfl rfl rfl br2 Try.underlying44 rfl takersz) rfl ?_
            exact TkRes.of HR.out (HE.out) (tk_fin (y := (⟨id, known, name, size, ended, last, sum, have_, file, 3, 0, patience, tries + 1, limit⟩ : Tk)) (base := w.heap.size + 2) hB2 (by omega) (gv_one (GvMem.none HFL.out HHL.out hF2 hA2) hON rfl (Own.none_ _ _ _ _) (fun q _ h => by simp [blk] at h)))
    ·
      trace "J"
      have HE := Lib.hid (waitR_is H1.out (waitT_f hA0 hD0))
      by_cases s0 : stage = 0
      ·
        subst s0
        have he : ended = false := by cases ended; rfl; exact absurd ⟨rfl, rfl⟩ hA0
        subst he
        clear hA0 hD0
        go_wp2_with (first
          | (refine wpList_load_row rfl 44 (.tmp 5) rfl q rfl 44 #[.int .i64 id, .bool known, .string name, .int .i64 size, .bool false, .int .i64 last, .int .i64 sum, .slice A1 an a1, .slice F1 fn f1, .int .i64 0, .int .i64 timer, .int .i64 patience, .int .i64 tries, .int .i64 limit] (0, 0) _ bq Try.underlying44 rfl takersz ?_)
          | (refine wpList_store_row rfl 44 (.tmp 2) (.tmp 82) rfl (w.heap.size + 1) #[.int .i64 id, .bool known, .string name, .int .i64 size, .bool false, .int .i64 last, .int .i64 sum, .slice A1 an a1, .slice F1 fn f1, .int .i64 0, .int .i64 timer, .int .i64 patience, .int .i64 tries, .int .i64 limit] rfl rfl 44 _ br takersz rfl (by simp [Value.oneCell']) ?_))
        have br9 := br.row #[.int .i64 id, .bool known, .string name, .int .i64 size, .bool false, .int .i64 last, .int .i64 sum, .slice A1 an a1, .slice F1 fn f1, .int .i64 0, .int .i64 timer, .int .i64 patience, .int .i64 tries, .int .i64 limit]
        refine bodyPost_ret (v := .tuple #[.agg #[.int .i64 id, .bool known, .string name, .int .i64 size, .bool false, .int .i64 last, .int .i64 sum, .slice A1 an a1, .slice F1 fn f1, .int .i64 0, .int .i64 timer, .int .i64 patience, .int .i64 tries, .int .i64 limit], .slice none 0 0, .int .i64 0]) (results_cell_two rfl _ _ (w.heap.size + 1) 44 _ (0, 0) _ rfl rfl rfl br9 Try.underlying44 rfl takersz) rfl ?_
        exact TkRes.of HR.out (HE.out) (tk_out (y := (⟨id, known, name, size, false, last, sum, have_, file, 0, timer, patience, tries, limit⟩ : Tk)) (base := w.heap.size + 2) hB (by omega) (by omega) (GvMem.none HFL.out HHL.out hF hA))
      have s0a : (stage == 0) = false := by rw [beq_eq_false_iff_ne]; exact s0
      by_cases s3 : stage = 3
      ·
        subst s3
        have d1 : decide (tries < limit) = false := decide_eq_false (fun h => hD0 ⟨rfl, h⟩)
        clear hA0 hD0 s0 s0a
        go_wp2_with (first
          | (refine wpList_load_row rfl 44 (.tmp 5) rfl q rfl 44 #[.int .i64 id, .bool known, .string name, .int .i64 size, .bool ended, .int .i64 last, .int .i64 sum, .slice A1 an a1, .slice F1 fn f1, .int .i64 3, .int .i64 timer, .int .i64 patience, .int .i64 tries, .int .i64 limit] (0, 0) _ bq Try.underlying44 rfl takersz ?_)
          | (refine wpList_store_row rfl 44 (.tmp 2) (.tmp 82) rfl (w.heap.size + 1) #[.int .i64 id, .bool known, .string name, .int .i64 size, .bool ended, .int .i64 last, .int .i64 sum, .slice A1 an a1, .slice F1 fn f1, .int .i64 3, .int .i64 timer, .int .i64 patience, .int .i64 tries, .int .i64 limit] rfl rfl 44 _ br takersz rfl (by simp [Value.oneCell']) ?_))
        have br9 := br.row #[.int .i64 id, .bool known, .string name, .int .i64 size, .bool ended, .int .i64 last, .int .i64 sum, .slice A1 an a1, .slice F1 fn f1, .int .i64 3, .int .i64 timer, .int .i64 patience, .int .i64 tries, .int .i64 limit]
        refine bodyPost_ret (v := .tuple #[.agg #[.int .i64 id, .bool known, .string name, .int .i64 size, .bool ended, .int .i64 last, .int .i64 sum, .slice A1 an a1, .slice F1 fn f1, .int .i64 3, .int .i64 timer, .int .i64 patience, .int .i64 tries, .int .i64 limit], .slice none 0 0, .int .i64 0]) (results_cell_two rfl _ _ (w.heap.size + 1) 44 _ (0, 0) _ rfl rfl rfl br9 Try.underlying44 rfl takersz) rfl ?_
        exact TkRes.of HR.out (HE.out) (tk_out (y := (⟨id, known, name, size, ended, last, sum, have_, file, 3, timer, patience, tries, limit⟩ : Tk)) (base := w.heap.size + 2) hB (by omega) (by omega) (GvMem.none HFL.out HHL.out hF hA))
      ·
        have s3a : (stage == 3) = false := by rw [beq_eq_false_iff_ne]; exact s3
        clear hA0 hD0 s0 s3
        go_wp2_with (first
          | (refine wpList_load_row rfl 44 (.tmp 5) rfl q rfl 44 #[.int .i64 id, .bool known, .string name, .int .i64 size, .bool ended, .int .i64 last, .int .i64 sum, .slice A1 an a1, .slice F1 fn f1, .int .i64 stage, .int .i64 timer, .int .i64 patience, .int .i64 tries, .int .i64 limit] (0, 0) _ bq Try.underlying44 rfl takersz ?_)
          | (refine wpList_store_row rfl 44 (.tmp 2) (.tmp 82) rfl (w.heap.size + 1) #[.int .i64 id, .bool known, .string name, .int .i64 size, .bool ended, .int .i64 last, .int .i64 sum, .slice A1 an a1, .slice F1 fn f1, .int .i64 stage, .int .i64 timer, .int .i64 patience, .int .i64 tries, .int .i64 limit] rfl rfl 44 _ br takersz rfl (by simp [Value.oneCell']) ?_))
        have br9 := br.row #[.int .i64 id, .bool known, .string name, .int .i64 size, .bool ended, .int .i64 last, .int .i64 sum, .slice A1 an a1, .slice F1 fn f1, .int .i64 stage, .int .i64 timer, .int .i64 patience, .int .i64 tries, .int .i64 limit]
        refine bodyPost_ret (v := .tuple #[.agg #[.int .i64 id, .bool known, .string name, .int .i64 size, .bool ended, .int .i64 last, .int .i64 sum, .slice A1 an a1, .slice F1 fn f1, .int .i64 stage, .int .i64 timer, .int .i64 patience, .int .i64 tries, .int .i64 limit], .slice none 0 0, .int .i64 0]) (results_cell_two rfl _ _ (w.heap.size + 1) 44 _ (0, 0) _ rfl rfl rfl br9 Try.underlying44 rfl takersz) rfl ?_
        exact TkRes.of HR.out (HE.out) (tk_out (y := (⟨id, known, name, size, ended, last, sum, have_, file, stage, timer, patience, tries, limit⟩ : Tk)) (base := w.heap.size + 2) hB (by omega) (by omega) (GvMem.none HFL.out HHL.out hF hA))
end Go.Proofs.Ytianombjgdmbeaa
