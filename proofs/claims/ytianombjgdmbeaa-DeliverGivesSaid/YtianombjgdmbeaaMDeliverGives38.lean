/-
  A tick of a giver, by the program (deliver.Give). The document's giver: its meta note.
-/
import Derived.Test.YtianombjgdmbeaaMDeliverGives28
import Derived.Test.YtianombjgdmbeaaMDeliverGives37
import Derived.Test.YtianombjgdmbeaaMDeliverGives29
import Derived.Deep.RegionLaw
import Derived.Deep.RegionHeld3
namespace Go.Proofs.Ytianombjgdmbeaa
set_option linter.unusedSimpArgs false
set_option linter.unusedVariables false
open Go.RowKit

theorem cutL_le (l : List UInt8) (a b : Int) : (cutL l a b).length ≤ l.length := by
  unfold cutL
  rw [List.length_drop, List.length_take]
  omega
theorem givR_fits {x y : Gv} {n : Nt} {b : Bool} (h : GvI x) (hr : givR x = some (y, n, b)) : NoteFits n := by
  have hl := h.long
  have h1 : NoteFits (metaN x) := ⟨by simp [metaN], by simp [metaN]⟩
  have h2 : NoteFits (endN x) := ⟨by simp [endN], by simp [endN]⟩
  have h3 : ∀ a b, NoteFits (pieceN x a b) := fun a b => ⟨by show (cutL x.file a b).length ≤ _; have := cutL_le x.file a b; omega, by simp [pieceN]⟩
  unfold givR at hr
  repeat' split at hr
  all_goals first
    | (injection hr with hr; injection hr with e1 e2; injection e2 with e2 e3; subst e2; first | exact h1 | exact h2 | exact h3 _ _)
    | cases hr
theorem givN_keep : ∀ (k : Nat) (x y : Gv) (out ms : List Nt), GvI x → (∀ n ∈ out, NoteFits n) → givN k x out = (y, ms) → GvI y ∧ y.file = x.file ∧ (∀ n ∈ ms, NoteFits n) ∧ ms.length ≤ out.length + k
  | 0, x, y, out, ms, hI, ho, h => by
    rw [givN_zero] at h
    injection h with e1 e2
    subst e1 e2
    exact ⟨hI, rfl, ho, by omega⟩
  | k + 1, x, y, out, ms, hI, ho, h => by
    cases hr : givR x with
    | none =>
      rw [givN_none hr] at h
      injection h with e1 e2
      subst e1 e2
      exact ⟨hI, rfl, ho, by omega⟩
    | some r =>
      obtain ⟨z, n, b⟩ := r
      obtain ⟨k1, k2, -, -⟩ := givR_keep hI hr
      have kf := givR_fits hI hr
      have ho2 : ∀ m ∈ out ++ [n], NoteFits m := fun m hm => by
        rcases List.mem_append.1 hm with hm | hm
        · exact ho m hm
        · rw [List.mem_singleton.1 hm]; exact kf
      cases b with
      | true =>
        rw [givN_last hr] at h
        injection h with e1 e2
        subst e1 e2
        exact ⟨k1, k2, ho2, by simp⟩
      | false =>
        rw [givN_go hr] at h
        obtain ⟨j1, j2, j3, j4⟩ := givN_keep k z y (out ++ [n]) ms k1 ho2 h
        refine ⟨j1, j2.trans k2, j3, ?_⟩
        rw [List.length_append, List.length_singleton] at j4
        omega
theorem waitR_keep (x : Gv) (out : List Nt) (ho : ∀ n ∈ out, NoteFits n) : (waitR x out).1.file = x.file ∧ (waitR x out).1.again = x.again ∧ (∀ n ∈ (waitR x out).2, NoteFits n) ∧ (waitR x out).2.length ≤ out.length + 1 := by
  have h2 : NoteFits (endN x) := ⟨by simp [endN], by simp [endN]⟩
  unfold waitR
  split
  · split
    · exact ⟨rfl, rfl, ho, by simp⟩
    · refine ⟨rfl, rfl, fun m hm => ?_, by simp⟩
      rcases List.mem_append.1 hm with hm | hm
      · exact ho m hm
      · rw [List.mem_singleton.1 hm]; exact h2
  · exact ⟨rfl, rfl, ho, by simp⟩
/-- What a tick leaves fits the machine. -/
theorem gvs_keep {x y : Gv} {ns : List Nt} {k : Int} (h : gvsR x = (y, ns, k)) (hx : x.again.length ≤ 8796093022200) : y.again.length ≤ 8796093022200 ∧ (y.file = x.file ∨ y.file = []) ∧ (∀ n ∈ ns, NoteFits n) ∧ ns.length ≤ 100 := by
  by_cases hok : gvOk x = true
  · have hI := GvI.of hok
    by_cases hov : x.stage = 3 ∨ x.stage = 4
    · rw [gvs_over hok hov] at h
      injection h with e1 h; injection h with e2 e3
      subst e1 e2
      exact ⟨hx, .inl rfl, (fun n hn => by cases hn), by simp⟩
    · obtain ⟨z, ms, hz⟩ : ∃ z ms, givN x.burst.toNat x [] = (z, ms) := ⟨_, _, rfl⟩
      rw [gvs_go hok hov hz] at h
      injection h with e1 h; injection h with e2 e3
      obtain ⟨k1, k2, k3, k4⟩ := givN_keep _ x z [] ms hI (fun n hn => by cases hn) hz
      have hb := hI.burst
      have hag := k1.again
      have hml : ms.length ≤ 50 := by simp at k4; omega
      by_cases hs : x.stage = 1 ∨ x.stage = 2
      · rw [givW_yes hs] at e1 e2
        obtain ⟨j1, j2, j3, j4⟩ := waitR_keep z ms k3
        subst e1 e2
        exact ⟨by rw [j2]; omega, .inl (j1.trans k2), j3, by omega⟩
      · rw [givW_no hs] at e1 e2
        dsimp only at e1 e2
        subst e1 e2
        exact ⟨by omega, .inl k2, k3, by omega⟩
  · have h0 : gvOk x = false := by simpa using hok
    rw [gvs_0 h0] at h
    injection h with e1 h; injection h with e2 e3
    subst e1 e2
    exact ⟨by simp [gvZero], .inr rfl, (fun n hn => by cases hn), by simp⟩
theorem gvs_zero {x y : Gv} {ns : List Nt} {k : Int} (h : gvsR x = (y, ns, k)) (h0 : gvOk x = false) : y = gvZero ∧ ns = [] ∧ k = 11 := by
  rw [gvs_0 h0] at h
  injection h with e1 h
  injection h with e2 e3
  exact ⟨e1.symm, e2.symm, e3.symm⟩
set_option maxHeartbeats 6400000 in
set_option maxRecDepth 100000 in
theorem give_any (x : Gv) (F : Option Addr) (fn fc : Nat) (A : Option Addr) (an ac : Nat) (y : Gv) (ns : List Nt) (k : Int) (w : World) (hR : gvsR x = (y, ns, k)) (hf : x.file.length = fn) (ha : x.again.length = an) (hF : Rd w F (bvs x.file)) (hA : Rd w A (gps x.again)) (hfn : fn ≤ 140737488351232) (han : an ≤ 8796093022200) :
    Calls Try.prog 34 #[gvv x F fn fc A an ac] w fun e w' => GvRes w w' y ns k e := by
  have hya := (gvs_keep hR (by omega)).1
  have hzr := fun h => gvs_zero hR h
  have CG := Lib.hid (fun (V : World) (hB : Below w.heap.size w V) =>
    giving_Give undef x F fn fc A an ac y ns k V hf ha (hF.below hB) (hA.below hB) hfn han hya hzr
      (fun V' q base F1 A1 f1 a1 hok hBV hq hOF hOA h1 h2 h3 => doGive_any x F1 fn f1 A1 an a1 y ns k q base V' hR hok hq hf ha hOF hOA h2 h3))
  obtain ⟨id, name, file, most, burst, stage, first, at_, again, timer, patience, tries, limit⟩ := x
  unfold gvv gvc at CG
  unfold gvv gvc
  dsimp only at CG ⊢
  have bx := (Blk.new w 55 #[.int .i64 id, .string name, .slice F fn fc, .int .i64 most, .int .i64 burst, .int .i64 stage, .bool first, .int .i64 at_, .slice A an ac, .int .i64 timer, .int .i64 patience, .int .i64 tries, .int .i64 limit]).alloc (.cells #[.int .i64 0, .string ⟨#[]⟩, .slice none 0 0, .int .i64 0, .int .i64 0, .int .i64 0, .bool false, .int .i64 0, .slice none 0 0, .int .i64 0, .int .i64 0, .int .i64 0, .int .i64 0] 55)
  have br := Blk.new (w.alloc (.cells #[.int .i64 id, .string name, .slice F fn fc, .int .i64 most, .int .i64 burst, .int .i64 stage, .bool first, .int .i64 at_, .slice A an ac, .int .i64 timer, .int .i64 patience, .int .i64 tries, .int .i64 limit] 55)) 55 #[.int .i64 0, .string ⟨#[]⟩, .slice none 0 0, .int .i64 0, .int .i64 0, .int .i64 0, .bool false, .int .i64 0, .slice none 0 0, .int .i64 0, .int .i64 0, .int .i64 0, .int .i64 0]
  rw [show (w.alloc (.cells #[.int .i64 id, .string name, .slice F fn fc, .int .i64 most, .int .i64 burst, .int .i64 stage, .bool first, .int .i64 at_, .slice A an ac, .int .i64 timer, .int .i64 patience, .int .i64 tries, .int .i64 limit] 55)).heap.size = w.heap.size + 1 by simp] at br
  have hB : Below w.heap.size w ((w.alloc (.cells #[.int .i64 id, .string name, .slice F fn fc, .int .i64 most, .int .i64 burst, .int .i64 stage, .bool first, .int .i64 at_, .slice A an ac, .int .i64 timer, .int .i64 patience, .int .i64 tries, .int .i64 limit] 55)).alloc (.cells #[.int .i64 0, .string ⟨#[]⟩, .slice none 0 0, .int .i64 0, .int .i64 0, .int .i64 0, .bool false, .int .i64 0, .slice none 0 0, .int .i64 0, .int .i64 0, .int .i64 0, .int .i64 0] 55)) := ((Below.refl _ _).alloc (Nat.le_refl _) _).alloc (by simp) _
  go_enter Try.func34, Try.ntmps34
  go_upto_region 1 with fail
  generalize (w.alloc (.cells #[.int .i64 id, .string name, .slice F fn fc, .int .i64 most, .int .i64 burst, .int .i64 stage, .bool first, .int .i64 at_, .slice A an ac, .int .i64 timer, .int .i64 patience, .int .i64 tries, .int .i64 limit] 55)).alloc (.cells #[.int .i64 0, .string ⟨#[]⟩, .slice none 0 0, .int .i64 0, .int .i64 0, .int .i64 0, .bool false, .int .i64 0, .slice none 0 0, .int .i64 0, .int .i64 0, .int .i64 0, .int .i64 0] 55) = W at *
  have zb := br.lt
  have CG2 := Lib.hid (CG.out W hB)
  clear CG
  go_wp2_with (refine wpList_load_row rfl 55 (.tmp 1) rfl w.heap.size rfl 55 #[.int .i64 id, .string name, .slice F fn fc, .int .i64 most, .int .i64 burst, .int .i64 stage, .bool first, .int .i64 at_, .slice A an ac, .int .i64 timer, .int .i64 patience, .int .i64 tries, .int .i64 limit] (0, 0) _ bx Try.underlying55 rfl giversz ?_)
  refine CG2.out.mono ?_
  intro e w1 h1
  obtain ⟨F1, n1, f1, A1, m1, a1, O, on, oc, l, rfl, hM, hb⟩ := h1
  replace br := br.step hb
  have zt := hb.size
  replace hB := hB.trans (hb.mono hB.size)
  clear hb CG2 hya hzr
  have HR := Lib.hid hR
  clear hR
  obtain ⟨yid, yname, yfile, ymost, yburst, ystage, yfirst, yat_, yagain, ytimer, ypatience, ytries, ylimit⟩ := y
  unfold gvv gvc
  dsimp only
  go_wp2_with (refine wpList_store_row rfl 55 (.tmp 2) (.tmp 7) rfl (w.heap.size + 1) #[.int .i64 yid, .string yname, .slice F1 n1 f1, .int .i64 ymost, .int .i64 yburst, .int .i64 ystage, .bool yfirst, .int .i64 yat_, .slice A1 m1 a1, .int .i64 ytimer, .int .i64 ypatience, .int .i64 ytries, .int .i64 ylimit] rfl rfl 55 _ br giversz rfl (by simp [Value.oneCell']) ?_)
  have br2 := br.row #[.int .i64 yid, .string yname, .slice F1 n1 f1, .int .i64 ymost, .int .i64 yburst, .int .i64 ystage, .bool yfirst, .int .i64 yat_, .slice A1 m1 a1, .int .i64 ytimer, .int .i64 ypatience, .int .i64 ytries, .int .i64 ylimit]
  refine bodyPost_ret (v := .tuple #[.agg #[.int .i64 yid, .string yname, .slice F1 n1 f1, .int .i64 ymost, .int .i64 yburst, .int .i64 ystage, .bool yfirst, .int .i64 yat_, .slice A1 m1 a1, .int .i64 ytimer, .int .i64 ypatience, .int .i64 ytries, .int .i64 ylimit], .slice O on oc, .int .i64 k]) (results_cell_two rfl _ _ (w.heap.size + 1) 55 _ (0, 0) _ rfl rfl rfl br2 Try.underlying55 rfl giversz) rfl ?_
  exact gv_out (y := ⟨yid, yname, yfile, ymost, yburst, ystage, yfirst, yat_, yagain, ytimer, ypatience, ytries, ylimit⟩) (base := W.heap.size) hB (by omega) (by omega) hM
end Go.Proofs.Ytianombjgdmbeaa
namespace Go.Proofs.Ytianombjgdmbeaa
set_option linter.unusedSimpArgs false
set_option linter.unusedVariables false
open Go.RowKit

theorem gnotesz : (Try.prog.info? 27).map (·.size) = some 10 := by kernel_rfl
set_option maxHeartbeats 3200000 in
set_option maxRecDepth 100000 in
theorem gmeta_any (g : Nat) (x : Gv) (F : Option Addr) (fn fc : Nat) (A : Option Addr) (an ac : Nat) (w : World) (hf : x.file.length = fn) (hg : Blk w g 99 (gvc x F fn fc A an ac)) :
    Calls Try.prog 67 #[.pointer (some ⟨g, 0, none⟩)] w fun e w' => e = .returned (ntv (metaN x) none 0 0 none 0 0) ∧ Below w.heap.size w w' := by
  have hl := hg.lt
  have HL := Lib.hid hf
  clear hf
  obtain ⟨id, name, file, most, burst, stage, first, at_, again, timer, patience, tries, limit⟩ := x
  unfold gvc at hg
  unfold metaN ntv
  dsimp only at HL hg ⊢
  have hga := hg.alloc (.cells #[.int .i64 0, .int .i64 0, .string ⟨#[]⟩, .int .i64 0, .int .i64 0, .int .i64 0, .slice none 0 0, .slice none 0 0, .int .i64 0, .int .i64 0] 27)
  have c1 := hga.cell' (i := 1) rfl
  have c0 := hga.cell' (i := 0) rfl
  have c2 := hga.cell' (i := 2) rfl
  have d1 := hg.cell' (i := 1) rfl
  have d0 := hg.cell' (i := 0) rfl
  have d2 := hg.cell' (i := 2) rfl
  go_enter Try.func67, Try.ntmps67
  go_wp2_with fail
  go_region_held3 (fun W => W.cell? ⟨g, 0, none⟩ = some (.int .i64 id) ∧ W.cell? ⟨g, 1, none⟩ = some (.string name) ∧ W.cell? ⟨g, 2, none⟩ = some (.slice F fn fc)) (exact ⟨(hg.alloc _).cell' (i := 0) rfl, (hg.alloc _).cell' (i := 1) rfl, (hg.alloc _).cell' (i := 2) rfl⟩) (fail)
  go_wp2_with fail
  have kk := (Blk.new w 27 #[.int .i64 1, .int .i64 id, .string name, .int .i64 (fn : Int), .int .i64 0, .int .i64 0, .slice none 0 0, .slice none 0 0, .int .i64 0, .int .i64 0]).drew
  refine bodyPost_ret (v := .agg #[.int .i64 1, .int .i64 id, .string name, .int .i64 (fn : Int), .int .i64 0, .int .i64 0, .slice none 0 0, .slice none 0 0, .int .i64 0, .int .i64 0]) (results_cell_row (ty := 27) rfl _ _ w.heap.size 27 _ (0, 0) _ rfl kk Try.underlying27 rfl gnotesz) rfl ?_
  exact ⟨by rw [HL.out], ((Below.refl _ _).alloc (Nat.le_refl _) _).drew⟩
end Go.Proofs.Ytianombjgdmbeaa
