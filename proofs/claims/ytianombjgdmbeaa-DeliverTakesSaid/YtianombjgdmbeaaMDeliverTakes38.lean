/-
  What is missing, by the document (missing). What a tick of a taker leaves, plainly.
-/
import Derived.Test.YtianombjgdmbeaaMDeliverTakes35
import Derived.Test.YtianombjgdmbeaaMDeliverTakes9
import Derived.Test.YtianombjgdmbeaaMDeliverTakes10
import Derived.Test.YtianombjgdmbeaaMDeliverTakes32
import Derived.Test.YtianombjgdmbeaaMDeliverTakes12
namespace Go.Proofs.Ytianombjgdmbeaa
set_option linter.unusedSimpArgs false
set_option linter.unusedVariables false
open Go.RowKit

theorem gps_app (l m : List (Int × Int)) : gps (l ++ m) = gps l ++ gps m := by simp [gps]
theorem gps_take (l : List (Int × Int)) : ∀ n, gps (l.take n) = (gps l).take (n * 2) := by
  intro n
  induction l generalizing n with
  | nil => simp [gps]
  | cons g l ih =>
    cases n with
    | zero => simp [gps]
    | succ n =>
      show gpc g ++ gps (l.take n) = (gpc g ++ gps l).take ((n + 1) * 2)
      rw [ih, show (n + 1) * 2 = (gpc g).length + n * 2 by rw [gpc_len]; omega, List.take_length_add_append]
set_option maxHeartbeats 3200000 in
set_option maxRecDepth 100000 in
theorem missing_any (x : Tk) (H : Option Addr) (hn hc : Nat) (F : Option Addr) (fn fc : Nat) (w : World) (hh : x.have_.length = hn) (hH : Rd w H (gps x.have_)) (hhn : hn ≤ 8796093022200) (hp : ∀ g ∈ x.have_, (0 : Int) ≤ g.1) (hl : 0 ≤ x.last ∧ x.last ≤ 65536) :
    Calls Try.prog 49 #[tkv x H hn hc F fn fc] w fun e w' => ∃ G gc, e = .returned (.slice G (missT x).length gc) ∧ Own w' w.heap.size 66 2 G (missT x).length gc (gps (missT x)) ∧ Below w.heap.size w w' := by
  obtain ⟨j0, hj0, hy0, hy1, hy2⟩ := info_parts pairinfoR
  obtain ⟨lastn, hln⟩ : ∃ n : Nat, x.last = (n : Int) := ⟨x.last.toNat, by omega⟩
  have hl2 : lastn ≤ 65536 := by omega
  have HM : Hid (missT x = capG ((if x.known then [] else [(0, 0)]) ++ rowsF (fun i => !inR x.have_ i) lastn)) := Lib.hid (by unfold missT; rw [hln]; rfl)
  obtain ⟨mt, hmt⟩ : ∃ mt, missT x = mt := ⟨_, rfl⟩
  rw [hmt] at HM ⊢
  clear hmt
  have HH := Lib.hid hH
  have HHL := Lib.hid hh
  have HPO := Lib.hid hp
  clear hh hH hp hl
  obtain ⟨id, known, name, size, ended, last, sum, have_, file, stage, timer, patience, tries, limit⟩ := x
  unfold tkv tkc
  dsimp only at HH HHL HPO HM hln ⊢
  subst hln
  have b1 := Blk.new w 44 #[.int .i64 id, .bool known, .string name, .int .i64 size, .bool ended, .int .i64 (lastn : Int), .int .i64 sum, .slice H hn hc, .slice F fn fc, .int .i64 stage, .int .i64 timer, .int .i64 patience, .int .i64 tries, .int .i64 limit]
  have hB : Below w.heap.size w (w.alloc (.cells #[.int .i64 id, .bool known, .string name, .int .i64 size, .bool ended, .int .i64 (lastn : Int), .int .i64 sum, .slice H hn hc, .slice F fn fc, .int .i64 stage, .int .i64 timer, .int .i64 patience, .int .i64 tries, .int .i64 limit] 44)) := (Below.refl _ _).alloc (Nat.le_refl _) _
  go_enter Try.func49, Try.ntmps49
  go_upto_region 2 with fail
  generalize w.alloc (.cells #[.int .i64 id, .bool known, .string name, .int .i64 size, .bool ended, .int .i64 (lastn : Int), .int .i64 sum, .slice H hn hc, .slice F fn fc, .int .i64 stage, .int .i64 timer, .int .i64 patience, .int .i64 tries, .int .i64 limit] 44) = W at *
  have x1 := b1.cell' (i := 1) rfl
  have zW := hB.size
  trace "A"
  cases known
  ·
    have hOz : Own (W.alloc (.cells #[.int .i64 0, .int .i64 0] 66)) w.heap.size 66 2 none 0 0 [] := Own.none_ _ _ _ _
    have hRn := Rd_lit W [.int .i64 0, .int .i64 0] 66
    have hone : Hid (∀ u ∈ ([.int .i64 0, .int .i64 0] : List Value), u.oneCell' = true) := Lib.hid (gps_one [(0, 0)])
    have b2 := b1.alloc (.cells #[.int .i64 0, .int .i64 0] 66)
    have hB2 := hB.alloc hB.size (.cells #[.int .i64 0, .int .i64 0] 66)
    have q4 : 0 + 1 ≤ maxLen := by unfold maxLen; omega
    have q6 := hB2.size
    go_upto_region 4 with (at_builtin; refine wpList_append_Own (W.alloc (.cells #[.int .i64 0, .int .i64 0] 66)) rfl (.tmp 7) (.tmp 9) 24 rfl w.heap.size 66 j0 _ 2 16 Try.underlying24 hj0 hy0 hy1 hy2 rfl none 0 0 [] rfl hOz (some ⟨W.heap.size, 0, none⟩) 1 1 [.int .i64 0, .int .i64 0] rfl rfl hRn hone.out q4 (by omega) q6 ?_; intro A c w2 hOA hgA horA; simp only [Nat.zero_add, List.nil_append] at hOA; simp only [Nat.zero_add])
    replace b1 := b2.step (below_of_grown hgA)
    replace hB := hB2.trans ((below_of_grown hgA).mono q6)
    have hP : Own w2 w.heap.size 66 2 A 1 c (gps [(0, 0)]) := hOA
    clear hOz hRn hone b2 hB2 q4 q6 hgA horA hOA x1
    trace "B"
    have x7 := b1.cell' (i := 7) rfl
    have x5 := b1.cell' (i := 5) rfl
    go_upto_region 4 with fail
    go_wp2_with fail
    refine (has_any have_ H hn hc lastn w2 HHL.out (HH.out.below hB) hhn (by omega) HPO.out).mono ?_
    rintro e w3 ⟨rfl, hO3, hb3⟩
    have hP3 := hP.step hb3
    have hB3 := hB.trans (hb3.mono hB.size)
    have z3 := hB3.size
    clear x7 x5
    go_wp2_with fail
    refine (rowsIn_any (hasL have_ lastn) false (some ⟨w2.heap.size, 0, none⟩) lastn lastn w3 (hasL_len _ _) hO3.rd (by omega) (fun i => !inR have_ i) (fun j b hj => by
      have hjl : j < lastn := by
        rcases Nat.lt_or_ge j lastn with h | h
        · exact h
        · rw [List.getElem?_eq_none (by rw [hasL_len]; exact h)] at hj; cases hj
      unfold hasL at hj
      rw [range_get _ hjl] at hj
      rw [← Option.some.inj hj]
      cases inR have_ j <;> rfl)).mono ?_
    rintro e w4 ⟨R, rc, rfl, hO4, hb4⟩
    have hP4 := hP3.step hb4
    have hB4 := hB3.trans (hb4.mono hB3.size)
    have z4 := hB4.size
    have hrl := rowsF_len (fun i => !inR have_ i) lastn
    obtain ⟨rs, hrs⟩ : ∃ rs, rowsF (fun i => !inR have_ i) lastn = rs := ⟨_, rfl⟩
    rw [hrs] at hO4 hrl HM
    rw [hrs]
    have hRR := hO4.rd
    obtain ⟨rn, hrn⟩ : ∃ rn, rs.length = rn := ⟨_, rfl⟩
    rw [hrn] at hrl ⊢
    have HRL : Hid ((gps rs).length = rn * 2) := Lib.hid (by rw [gps_len, hrn])
    have HRN := Lib.hid hrn
    clear hO3 hP3 hb3 hb4 hB3 hO4 hrs hrn
    have q4 : 1 + rn ≤ maxLen := by unfold maxLen; omega
    have q5 : (1 + rn) * 16 ≤ 140737488355328 := by omega
    go_upto_region 5 with (at_builtin; refine wpList_append_Own w4 rfl (.tmp 11) (.tmp 17) 24 rfl w.heap.size 66 j0 _ 2 16 Try.underlying24 hj0 hy0 hy1 hy2 rfl A 1 c (gps [(0, 0)]) rfl hP4 R rn rc (gps rs) rfl HRL.out hRR (gps_one rs) q4 q5 z4 ?_; intro B bc w5 hO5 hg5 hor5; (try simp only [Nat.zero_add, List.nil_append] at hO5); (try simp only [Nat.zero_add]))
    have hB5 := Below.grown' (A := A) hB4 hg5 hB4.size (fun q hq => (hP4.lt q hq).1)
    clear hP4 hRR q4 q5 hg5 hor5 hB4 HRL
    trace "C"
    have HFM : Hid (mt = capG ([(0, 0)] ++ rs)) := Lib.hid HM.out
    have hO6 : Own w5 w.heap.size 66 2 B (1 + rn) bc (gps ([(0, 0)] ++ rs)) := by rw [gps_app]; exact hO5
    have HLL : Hid (([(0, 0)] ++ rs : List (Int × Int)).length = 1 + rn) := Lib.hid (by rw [List.length_append, HRN.out]; rfl)
    clear hO5
    by_cases h20 : 20 < 1 + rn
    ·
      have h20i : (20 : Int) < 1 + (rn : Int) := by omega
      have hcap := hO6.le
      have hcapi : (20 : Int) ≤ (bc : Int) := by omega
      have hO7 := hO6.cut (m := 20) (by omega)
      rw [← gps_take] at hO7
      have HML : Hid (mt.length = 20 ∧ Own w5 w.heap.size 66 2 B 20 bc (gps mt)) := Lib.hid (by
        have e : mt = ([(0, 0)] ++ rs : List (Int × Int)).take 20 := HFM.out
        rw [e, List.length_take, HLL.out]
        exact ⟨by omega, hO7⟩)
      go_wp2_with fail
      go_ret
      exact ⟨B, bc, by rw [HML.out.1] <;> rfl, by rw [HML.out.1]; exact HML.out.2, hB5⟩
    ·
      have h20i : ¬ (20 : Int) < 1 + (rn : Int) := by omega
      have HML : Hid (mt.length = 1 + rn ∧ Own w5 w.heap.size 66 2 B (1 + rn) bc (gps mt)) := Lib.hid (by
        have e : mt = ([(0, 0)] ++ rs : List (Int × Int)) := HFM.out.trans (by unfold capG; exact List.take_of_length_le (by rw [HLL.out]; omega))
        rw [e, HLL.out]
        exact ⟨rfl, hO6⟩)
      go_wp2_with fail
      go_ret
      exact ⟨B, bc, by rw [HML.out.1] <;> rfl, by rw [HML.out.1]; exact HML.out.2, hB5⟩
  ·
    have hP : Own W w.heap.size 66 2 none 0 0 (gps []) := Own.none_ _ _ _ _
    go_upto_region 4 with fail
    clear x1
    have x7 := b1.cell' (i := 7) rfl
    have x5 := b1.cell' (i := 5) rfl
    go_upto_region 4 with fail
    go_wp2_with fail
    refine (has_any have_ H hn hc lastn W HHL.out (HH.out.below hB) hhn (by omega) HPO.out).mono ?_
    rintro e w3 ⟨rfl, hO3, hb3⟩
    have hP3 := hP.step hb3
    have hB3 := hB.trans (hb3.mono hB.size)
    have z3 := hB3.size
    clear x7 x5
    go_wp2_with fail
    refine (rowsIn_any (hasL have_ lastn) false (some ⟨W.heap.size, 0, none⟩) lastn lastn w3 (hasL_len _ _) hO3.rd (by omega) (fun i => !inR have_ i) (fun j b hj => by
      have hjl : j < lastn := by
        rcases Nat.lt_or_ge j lastn with h | h
        · exact h
        · rw [List.getElem?_eq_none (by rw [hasL_len]; exact h)] at hj; cases hj
      unfold hasL at hj
      rw [range_get _ hjl] at hj
      rw [← Option.some.inj hj]
      cases inR have_ j <;> rfl)).mono ?_
    rintro e w4 ⟨R, rc, rfl, hO4, hb4⟩
    have hP4 := hP3.step hb4
    have hB4 := hB3.trans (hb4.mono hB3.size)
    have z4 := hB4.size
    have hrl := rowsF_len (fun i => !inR have_ i) lastn
    obtain ⟨rs, hrs⟩ : ∃ rs, rowsF (fun i => !inR have_ i) lastn = rs := ⟨_, rfl⟩
    rw [hrs] at hO4 hrl HM
    rw [hrs]
    have hRR := hO4.rd
    obtain ⟨rn, hrn⟩ : ∃ rn, rs.length = rn := ⟨_, rfl⟩
    rw [hrn] at hrl ⊢
    have HRL : Hid ((gps rs).length = rn * 2) := Lib.hid (by rw [gps_len, hrn])
    have HRN := Lib.hid hrn
    clear hO3 hP3 hb3 hb4 hB3 hO4 hrs hrn
    have q4 : 0 + rn ≤ maxLen := by unfold maxLen; omega
    have q5 : (0 + rn) * 16 ≤ 140737488355328 := by omega
    go_upto_region 5 with (at_builtin; refine wpList_append_Own w4 rfl (.tmp 11) (.tmp 17) 24 rfl w.heap.size 66 j0 _ 2 16 Try.underlying24 hj0 hy0 hy1 hy2 rfl none 0 0 (gps []) rfl hP4 R rn rc (gps rs) rfl HRL.out hRR (gps_one rs) q4 q5 z4 ?_; intro B bc w5 hO5 hg5 hor5; (try simp only [Nat.zero_add, List.nil_append] at hO5); (try simp only [Nat.zero_add]))
    have hB5 := Below.grown' (A := none) hB4 hg5 hB4.size (fun q hq => (hP4.lt q hq).1)
    clear hP4 hRR q4 q5 hg5 hor5 hB4 HRL
    trace "D"
    have HFM : Hid (mt = capG rs) := Lib.hid HM.out
    have hO6 : Own w5 w.heap.size 66 2 B rn bc (gps rs) := hO5
    clear hO5
    by_cases h20 : 20 < rn
    ·
      have h20i : (20 : Int) < (rn : Int) := by omega
      have hcap := hO6.le
      have hcapi : (20 : Int) ≤ (bc : Int) := by omega
      have hO7 := hO6.cut (m := 20) (by omega)
      rw [← gps_take] at hO7
      have HML : Hid (mt.length = 20 ∧ Own w5 w.heap.size 66 2 B 20 bc (gps mt)) := Lib.hid (by
        have e : mt = rs.take 20 := HFM.out
        rw [e, List.length_take, HRN.out]
        exact ⟨by omega, hO7⟩)
      go_wp2_with fail
      go_ret
      exact ⟨B, bc, by rw [HML.out.1] <;> rfl, by rw [HML.out.1]; exact HML.out.2, hB5⟩
    ·
      have h20i : ¬ (20 : Int) < (rn : Int) := by omega
      have HML : Hid (mt.length = rn ∧ Own w5 w.heap.size 66 2 B rn bc (gps mt)) := Lib.hid (by
        have e : mt = rs := HFM.out.trans (by unfold capG; exact List.take_of_length_le (by rw [HRN.out]; omega))
        rw [e, HRN.out]
        exact ⟨rfl, hO6⟩)
      go_wp2_with fail
      go_ret
      exact ⟨B, bc, by rw [HML.out.1] <;> rfl, by rw [HML.out.1]; exact HML.out.2, hB5⟩
end Go.Proofs.Ytianombjgdmbeaa
namespace Go.Proofs.Ytianombjgdmbeaa
set_option linter.unusedSimpArgs false
set_option linter.unusedVariables false
open Go.RowKit

theorem TkRes.of {r : Tk × List Nt × Int} {y y' : Tk} {ns ns' : List Nt} {k k' : Int} {w w' : World} {e : Ending} (h : r = (y, ns, k)) (h' : r = (y', ns', k')) (g : TkRes w w' y' ns' k' e) : TkRes w w' y ns k e := by
  rw [h] at h'
  injection h' with e1 h'
  injection h' with e2 e3
  rw [e1, e2, e3]
  exact g
theorem gv_one {W : World} {base b : Nat} {y : Gv} {F A : Option Addr} {fn fc an ac : Nat} {n : Nt} {G : Option Addr} {gc : Nat} (h : GvMem W base y [] F fn fc A an ac none 0 0 []) (hO : Own W base 27 10 (some ⟨b, 0, none⟩) 1 1 (nts [⟨n, none, 0, G, gc⟩])) (hd : n.data = []) (hG : Own W base 66 2 G n.gaps.length gc (gps n.gaps)) (hGA : ∀ q, blk A = some q → blk G ≠ some q) : GvMem W base y [n] F fn fc A an ac (some ⟨b, 0, none⟩) 1 1 [⟨n, none, 0, G, gc⟩] :=
  ⟨h.fl, h.al, rfl, rfl, h.file, h.again, hO, ⟨fun i x hx => by
    rcases i with _ | i
    · simp at hx
      subst hx
      refine ⟨?_, hG⟩
      show Own W base 5 1 none n.data.length 0 (bvs n.data)
      rw [hd]
      exact Own.none_ _ _ _ _
    · simp at hx, fun i j x y hij hx hy => by
    rcases j with _ | j
    · omega
    · simp at hy⟩, fun i x hx => by
    rcases i with _ | i
    · simp at hx
      subst hx
      exact ⟨fun q _ h => by simp [blk] at h, hGA⟩
    · simp at hx⟩
theorem tk_fin {w W : World} {base : Nat} {y : Tk} {ns : List Nt} {F A O : Option Addr} {fn fc an ac on oc : Nat} {l : List NtR} {k : Int} (hB : Below w.heap.size w W) (hb : w.heap.size ≤ base) (hM : GvMem W base (pg y) ns F fn fc A an ac O on oc l) :
    TkRes w W y ns k (.returned (.tuple #[tvv y F fn fc A an ac, .slice O on oc, .int .i64 k])) :=
  ⟨F, fn, fc, A, an, ac, O, on, oc, l, rfl, hM.map fun e s A n c xs h => h.mono hb, hB⟩
theorem notesz2 : (Try.prog.info? 27).map (·.size) = some 10 := by kernel_rfl
set_option maxHeartbeats 3200000 in
set_option maxRecDepth 100000 in
theorem rdone_any (x : Tk) (F : Option Addr) (fn fc : Nat) (A : Option Addr) (an ac : Nat) (c : Int) (w : World) :
    Calls Try.prog 50 #[tvv x F fn fc A an ac, .int .i64 c] w fun e w' => e = .returned (ntv (doneN x c) none 0 0 none 0 0) ∧ Below w.heap.size w w' := by
  obtain ⟨id, known, name, size, ended, last, sum, have_, file, stage, timer, patience, tries, limit⟩ := x
  unfold tvv tkv tkc ntv doneN
  dsimp only
  have b1 := (Blk.new w 44 #[.int .i64 id, .bool known, .string name, .int .i64 size, .bool ended, .int .i64 last, .int .i64 sum, .slice A an ac, .slice F fn fc, .int .i64 stage, .int .i64 timer, .int .i64 patience, .int .i64 tries, .int .i64 limit]).alloc (.cells #[.int .i64 0, .int .i64 0, .string ⟨#[]⟩, .int .i64 0, .int .i64 0, .int .i64 0, .slice none 0 0, .slice none 0 0, .int .i64 0, .int .i64 0] 27)
  have br := Blk.new (w.alloc (.cells #[.int .i64 id, .bool known, .string name, .int .i64 size, .bool ended, .int .i64 last, .int .i64 sum, .slice A an ac, .slice F fn fc, .int .i64 stage, .int .i64 timer, .int .i64 patience, .int .i64 tries, .int .i64 limit] 44)) 27 #[.int .i64 0, .int .i64 0, .string ⟨#[]⟩, .int .i64 0, .int .i64 0, .int .i64 0, .slice none 0 0, .slice none 0 0, .int .i64 0, .int .i64 0]
  rw [show (w.alloc (.cells #[.int .i64 id, .bool known, .string name, .int .i64 size, .bool ended, .int .i64 last, .int .i64 sum, .slice A an ac, .slice F fn fc, .int .i64 stage, .int .i64 timer, .int .i64 patience, .int .i64 tries, .int .i64 limit] 44)).heap.size = w.heap.size + 1 by simp] at br
  have hB : Below w.heap.size w ((w.alloc (.cells #[.int .i64 id, .bool known, .string name, .int .i64 size, .bool ended, .int .i64 last, .int .i64 sum, .slice A an ac, .slice F fn fc, .int .i64 stage, .int .i64 timer, .int .i64 patience, .int .i64 tries, .int .i64 limit] 44)).alloc (.cells #[.int .i64 0, .int .i64 0, .string ⟨#[]⟩, .int .i64 0, .int .i64 0, .int .i64 0, .slice none 0 0, .slice none 0 0, .int .i64 0, .int .i64 0] 27)) := ((Below.refl _ _).alloc (Nat.le_refl _) _).alloc (by simp) _
  go_enter Try.func50, Try.ntmps50
  go_upto_region 1 with fail
  generalize (w.alloc (.cells #[.int .i64 id, .bool known, .string name, .int .i64 size, .bool ended, .int .i64 last, .int .i64 sum, .slice A an ac, .slice F fn fc, .int .i64 stage, .int .i64 timer, .int .i64 patience, .int .i64 tries, .int .i64 limit] 44)).alloc (.cells #[.int .i64 0, .int .i64 0, .string ⟨#[]⟩, .int .i64 0, .int .i64 0, .int .i64 0, .slice none 0 0, .slice none 0 0, .int .i64 0, .int .i64 0] 27) = W at *
  have x0 := b1.cell' (i := 0) rfl
  go_wp2_with (refine wpList_store_row rfl 27 (.tmp 4) (.tmp 8) rfl (w.heap.size + 1) #[.int .i64 5, .int .i64 id, .string ⟨#[]⟩, .int .i64 0, .int .i64 0, .int .i64 0, .slice none 0 0, .slice none 0 0, .int .i64 0, .int .i64 c] rfl rfl 27 _ br notesz2 rfl (by simp [Value.oneCell']) ?_)
  have br9 := br.row #[.int .i64 5, .int .i64 id, .string ⟨#[]⟩, .int .i64 0, .int .i64 0, .int .i64 0, .slice none 0 0, .slice none 0 0, .int .i64 0, .int .i64 c]
  refine bodyPost_ret (v := .agg #[.int .i64 5, .int .i64 id, .string ⟨#[]⟩, .int .i64 0, .int .i64 0, .int .i64 0, .slice none 0 0, .slice none 0 0, .int .i64 0, .int .i64 c]) (results_cell_row (ty := 27) rfl _ _ (w.heap.size + 1) 27 _ (0, 0) _ rfl br9 Try.underlying27 rfl notesz2) rfl ?_
  exact ⟨rfl, below_row hB (by omega) _⟩
theorem waitR_no {x : Tk} (h : tkOk x = false) : waitR x = (tkZero, [], 11) := by unfold waitR; rw [if_pos h]
theorem waitR_is {x : Tk} {y : Tk} {ns : List Nt} (h : tkOk x = true) (h2 : waitT x = (y, ns)) : waitR x = (y, ns, 0) := by unfold waitR; rw [if_neg (by rw [h]; decide), h2]
theorem waitT_a {x : Tk} (h : x.stage = 0 ∧ x.ended = true) (h1 : ¬ x.timer + 1 = x.patience) : waitT x = ({ x with timer := x.timer + 1 }, []) := by unfold waitT; rw [if_pos h, if_neg h1]
theorem waitT_b {x : Tk} (h : x.stage = 0 ∧ x.ended = true) (h1 : x.timer + 1 = x.patience) (h2 : x.tries = x.limit) : waitT x = ({ x with timer := 0, stage := 4 }, []) := by unfold waitT; rw [if_pos h, if_pos h1, if_pos h2]
theorem waitT_c {x : Tk} (h : x.stage = 0 ∧ x.ended = true) (h1 : x.timer + 1 = x.patience) (h2 : ¬ x.tries = x.limit) : waitT x = ({ x with timer := 0, tries := x.tries + 1 }, askT x) := by unfold waitT; rw [if_pos h, if_pos h1, if_neg h2]
theorem waitT_d {x : Tk} (h : ¬ (x.stage = 0 ∧ x.ended = true)) (h1 : x.stage = 3 ∧ x.tries < x.limit) (h2 : x.timer + 1 = x.patience) : waitT x = ({ x with timer := 0, tries := x.tries + 1 }, [doneN x 0]) := by unfold waitT; rw [if_neg h, if_pos h1, if_pos h2]
theorem waitT_e {x : Tk} (h : ¬ (x.stage = 0 ∧ x.ended = true)) (h1 : x.stage = 3 ∧ x.tries < x.limit) (h2 : ¬ x.timer + 1 = x.patience) : waitT x = ({ x with timer := x.timer + 1 }, []) := by unfold waitT; rw [if_neg h, if_pos h1, if_neg h2]
theorem waitT_f {x : Tk} (h : ¬ (x.stage = 0 ∧ x.ended = true)) (h1 : ¬ (x.stage = 3 ∧ x.tries < x.limit)) : waitT x = (x, []) := by unfold waitT; rw [if_neg h, if_neg h1]
theorem askT_no {x : Tk} (h : missT x = []) : askT x = [] := by unfold askT; rw [if_pos h]
theorem askT_yes {x : Tk} (h : missT x ≠ []) : askT x = [gapsN x (missT x)] := by unfold askT; rw [if_neg h]
/-- What a taker that may be keeps. -/
structure TkI (x : Tk) : Prop where
  timer : 0 ≤ x.timer ∧ x.timer < x.patience ∧ x.patience ≤ 1000
  tries : 0 ≤ x.tries ∧ x.tries ≤ x.limit ∧ x.limit ≤ 100
  last : 0 ≤ x.last ∧ x.last ≤ 65536
  size : 0 ≤ x.size ∧ x.size ≤ 65536
  rows : Srt (-1) x.have_
  long : (x.file.length : Int) = max (endR (-1) x.have_) 0 ∧ x.file.length ≤ 65536
theorem TkI.of {x : Tk} (h : tkOk x = true) : TkI x := by
  obtain ⟨h1, h2, h3, h4, h5, h6, h7, h8⟩ := tk_parts h
  unfold expB at h1
  unfold tickB at h2
  unfold sizesB at h4
  unfold rowsB endF at h6
  simp only [Bool.and_eq_true, rngB_iff, decide_eq_true_eq] at h1 h2 h4 h6
  exact ⟨by omega, by omega, by omega, by omega, (srtB_iff _ _).1 h6.1, by omega, by omega⟩
end Go.Proofs.Ytianombjgdmbeaa
