/-
  A giver at work: the first of what has to go once more ((*giver).again). A giver at work: the next note, if there is one ((*giver).next).
-/
import Derived.Test.YtianombjgdmbeaaMDeliverGives35
import Derived.Test.YtianombjgdmbeaaMDeliverGives9
namespace Go.Proofs.Ytianombjgdmbeaa
set_option linter.unusedSimpArgs false
set_option linter.unusedVariables false
open Go.RowKit

/-- A cut 's[1:]' of a slice of elements of so many cells. -/
theorem Own.drop1 {w : World} {base : Nat} {e : TypeId} {s n c g off : Nat} {xs : List Value} (h : Own w base e s (some ⟨g, off, none⟩) n c xs) (hn : 1 ≤ n) (hc : c ≠ 1) : Own w base e s (some ⟨g, off + s, none⟩) (n - 1) (c - 1) (xs.drop s) := by
  have hl := h.len
  have hle := h.le
  obtain ⟨cur, h1, h2, h3, h4, h5⟩ := h.at_ _ rfl
  dsimp only at h1 h2 h3 h4 h5
  have e1 : n * s = (n - 1) * s + s := by rw [← Nat.succ_mul]; congr 1; omega
  have e2 : c * s = (c - 1) * s + s := by rw [← Nat.succ_mul]; congr 1; omega
  refine ⟨by rw [List.length_drop]; omega, by omega, by have := h.cap; omega, (fun e => by cases e), fun a ha => ?_⟩
  injection ha with ha
  subst ha
  refine ⟨cur, rfl, h2, h3, by show off + s + (c - 1) * s ≤ _; omega, fun i u hu => ?_⟩
  rw [List.getElem?_drop] at hu
  have := h5 _ u hu
  dsimp only
  rw [Nat.add_assoc]
  exact this
theorem Own.drop_all {w : World} {base : Nat} {e : TypeId} {s n c : Nat} {A : Option Addr} {xs : List Value} (h : Own w base e s A n c xs) (hn : 1 ≤ n) (hc : c = 1) : Own w base e s A (n - 1) 0 (xs.drop s) := by
  have hl := h.len
  have hle := h.le
  obtain rfl : n = 1 := by omega
  refine ⟨by rw [List.length_drop]; omega, by omega, by omega, fun _ => rfl, fun a ha => ?_⟩
  obtain ⟨cur, h1, h2, h3, h4, h5⟩ := h.at_ a ha
  exact ⟨cur, h1, h2, h3, by omega, fun i u hu => by rw [List.getElem?_drop, List.getElem?_eq_none (by omega)] at hu; cases hu⟩
theorem gps_drop (g : Int × Int) (l : List (Int × Int)) : (gps (g :: l)).drop 2 = gps l := by simp [gps, gpc]
theorem gps_set (p t r : Int) (l : List (Int × Int)) : (gps ((p, t) :: l)).set 0 (.int .i64 r) = gps ((r, t) :: l) := by simp [gps, gpc]
/-- What again leaves. -/
def AgainPost (w w' : World) (base q : Nat) (F : Option Addr) (fn fc : Nat) (y : Gv) (ms : List Nt) (e : Ending) : Prop := e = .returned (.tuple #[]) ∧ ∃ A an ac, GwAt w' base q F fn fc A an ac y ms ∧ Below base w w'
theorem givR_0 {x : Gv} {g : Int × Int} {l : List (Int × Int)} (hf : x.first = false) (hg : x.again = g :: l) (h : g.2 = 0) : givR x = some ({ x with again := l }, metaN x, false) := by unfold givR; rw [if_neg (by rw [hf]; simp), hg]; dsimp only; rw [if_pos h]
theorem givR_a {x : Gv} {g : Int × Int} {l : List (Int × Int)} (hf : x.first = false) (hg : x.again = g :: l) (h : g.2 ≠ 0) (h2 : g.2 ≤ g.1 + x.most) : givR x = some ({ x with again := l }, pieceN x g.1 g.2, false) := by unfold givR; rw [if_neg (by rw [hf]; simp), hg]; dsimp only; rw [if_neg h, if_pos h2]
theorem givR_b {x : Gv} {g : Int × Int} {l : List (Int × Int)} (hf : x.first = false) (hg : x.again = g :: l) (h : g.2 ≠ 0) (h2 : ¬ g.2 ≤ g.1 + x.most) : givR x = some ({ x with again := (g.1 + x.most, g.2) :: l }, pieceN x g.1 (g.1 + x.most), false) := by unfold givR; rw [if_neg (by rw [hf]; simp), hg]; dsimp only; rw [if_neg h, if_neg h2]
/-- The walk's end: the first gap is struck. -/
theorem gv_drop {W : World} {base q : Nat} {x y : Gv} {ns : List Nt} {F O : Option Addr} {fn fc an ac on oc g o : Nat} {l : List NtR} {r : Int × Int} (hq : Blk W q 94 (gw x F fn fc (some ⟨g, o, none⟩) an ac O on oc)) (hM : GvMem W base x ns F fn fc (some ⟨g, o, none⟩) an ac O on oc l) {rest : List (Int × Int)} (hx : x.again = r :: rest) (hy : y = { x with again := rest }) {A' : Option Addr} (h1 : ac = 1 → A' = some ⟨g, o, none⟩) (h2 : ac ≠ 1 → A' = some ⟨g, o + 2, none⟩) : GwAt (W.setCell ⟨q, 8, none⟩ (.slice A' (an - 1) (ac - 1))) base q F fn fc A' (an - 1) (ac - 1) y ns := by
  have hb := hq.set_ 8 (.slice A' (an - 1) (ac - 1))
  have hN := hM.far_ (i := 8) hq (by decide) (by decide) (by decide) (.slice A' (an - 1) (ac - 1))
  have hal := hN.al
  have hg := gps_drop r rest
  subst hy
  rw [hx] at hal
  simp only [List.length_cons] at hal
  have hag := hN.again
  rw [hx] at hag
  have hB : blk A' = some g := by
    by_cases c : ac = 1
    · rw [h1 c]; rfl
    · rw [h2 c]; rfl
  refine ⟨O, on, oc, l, hb, hN.fl, by show rest.length = an - 1; omega, hN.nl, hN.ln, hN.file, ?_, hN.out, hN.parts, fun i z hz => ⟨(hN.far i z hz).1, fun k hk => (hN.far i z hz).2 k (by rw [← hk, hB]; rfl)⟩⟩
  show Own _ base 66 2 A' (an - 1) (ac - 1) (gps rest)
  rw [← hg]
  by_cases c : ac = 1
  · have e := h1 c
    subst e
    rw [show ac - 1 = 0 by omega] at hag ⊢
    exact hag.drop_all (by omega) c
  · have e := h2 c
    subst e
    exact hag.drop1 (by omega) c
set_option maxHeartbeats 6400000 in
set_option maxRecDepth 100000 in
theorem again_0 (x : Gv) (F : Option Addr) (fn fc : Nat) (A : Option Addr) (an ac base q : Nat) (ns : List Nt) (rest : List (Int × Int)) (w : World) (h : GwAt w base q F fn fc A an ac x ns) (hg : x.again = (0, 0) :: rest) (hon : ns.length ≤ 100000) (hbase : base ≤ w.heap.size) (hbq : base ≤ q) :
    Calls Try.prog 102 #[.pointer (some ⟨q, 0, none⟩)] w fun e w' => AgainPost w w' base q F fn fc { x with again := rest } (ns ++ [metaN x]) e := by
  have CM := Lib.hid (meta_at x F fn fc A an ac base q ns w h hon hbase hbq)
  obtain ⟨O, on, oc, l, hq, hM⟩ := h
  have hal := hM.al
  rw [hg] at hal
  simp only [List.length_cons] at hal
  have hle := hM.again.le
  have han : 0 < an := by omega
  have hani : (0 : Int) < (an : Int) := by omega
  obtain ⟨g, o, rfl, hb1, hb2⟩ := hM.again.form (by omega)
  have c0 : w.cell? ⟨g, o, none⟩ = some (.int .i64 0) := hM.again.cell (i := 0) (by rw [hg]; rfl)
  have c1 : w.cell? ⟨g, o + 1, none⟩ = some (.int .i64 0) := hM.again.cell (i := 1) (by rw [hg]; rfl)
  have d8 : w.cell? ⟨q, 8, none⟩ = some (.slice (some ⟨g, o, none⟩) an ac) := hq.cell' (i := 8) rfl
  have hE : ∀ w, (Op.equalIn 10000 66 (.agg #[.int .i64 0, .int .i64 0]) (.agg #[.int .i64 0, .int .i64 0])).run Try.prog w = .ok true w := fun w => by rw [eq_pair]; rfl
  have HG := Lib.hid hg
  clear hM hq hg hb1 hb2
  go_enter Try.func102, Try.ntmps102
  go_upto_region 2 with fail
  clear c0 c1 d8 hE
  go_wp2_with fail
  refine CM.out.mono ?_
  rintro e w1 ⟨rfl, hG, hB⟩
  obtain ⟨O1, on1, oc1, l1, hq, hM⟩ := hG
  have c0 : w1.cell? ⟨g, o, none⟩ = some (.int .i64 0) := hM.again.cell (i := 0) (by rw [HG.out]; rfl)
  have c1 : w1.cell? ⟨g, o + 1, none⟩ = some (.int .i64 0) := hM.again.cell (i := 1) (by rw [HG.out]; rfl)
  go_upto_region 4 with fail
  go_still_tail 8, (by kernel_rfl)
  go_upto_region 5 with fail
  replace hq := hq.drew
  replace hM := hM.drew
  replace hB := hB.drew
  clear c0 c1 CM
  generalize w1.drew = W at *
  have d8 : W.cell? ⟨q, 8, none⟩ = some (.slice (some ⟨g, o, none⟩) an ac) := hq.cell' (i := 8) rfl
  have kf := hq.frozen
  have z1 : (1 : Int) ≤ (an : Int) := by omega
  have z2 : (an : Int) ≤ (ac : Int) := by omega
  by_cases c : ac = 1
  ·
    have HZ := Lib.hid (show ac - 1 = 0 by omega)
    have HC := Lib.hid c
    go_wp2_with fail
    go_end0
    skip
    have hD := gv_drop (x := x) hq hM HG.out rfl (A' := some ⟨g, o, none⟩) (fun _ => rfl) (fun h => absurd HC.out h)
    rw [HZ.out] at hD
    exact ⟨rfl, _, _, _, hD, hB.setCell (p := ⟨q, 8, none⟩) hbq _⟩
  ·
    have HC := Lib.hid c
    go_wp2_with fail
    go_end0
    skip
    have hD := gv_drop (x := x) hq hM HG.out rfl (A' := some ⟨g, o + 2, none⟩) (fun h => absurd h HC.out) (fun _ => rfl)
    exact ⟨rfl, _, _, _, hD, hB.setCell (p := ⟨q, 8, none⟩) hbq _⟩
/-- A piece's beginning is set in the first gap. -/
theorem gv_set0 {W : World} {base : Nat} {x : Gv} {ns : List Nt} {F O : Option Addr} {fn fc an ac on oc g o : Nat} {l : List NtR} {p t : Int} {rest : List (Int × Int)} (hM : GvMem W base x ns F fn fc (some ⟨g, o, none⟩) an ac O on oc l) (hx : x.again = (p, t) :: rest) (r : Int) :
    GvMem (W.setCell ⟨g, o, none⟩ (.int .i64 r)) base { x with again := (r, t) :: rest } ns F fn fc (some ⟨g, o, none⟩) an ac O on oc l := by
  have hT : Turned W (W.setCell ⟨g, o, none⟩ (.int .i64 r)) (fun i => i = g) := (Turned.refl W (fun i => i = g)).set (p := ⟨g, o, none⟩) (fun _ => rfl) _
  have hal := hM.al
  rw [hx] at hal
  simp only [List.length_cons] at hal
  have hbg : blk (some ⟨g, o, none⟩ : Option Addr) = some g := rfl
  have hs := hM.again.set 0 (by omega) (.int .i64 r)
  rw [hx, gps_set] at hs
  refine ⟨hM.fl, by show (_ :: rest).length = an; rw [List.length_cons]; exact hal, hM.nl, hM.ln, hM.file.turned hT (fun i hi e => (hM.file.apart hM.again (by decide)) i hi (by rw [hbg, e])), hs, hM.out.turned hT (fun i hi e => (hM.out.apart hM.again (by decide)) i hi (by rw [hbg, e])), hM.parts.turned hT (fun i z hz => ⟨fun k hk e => ?_, fun k hk e => ?_⟩), hM.far⟩
  · exact ((hM.parts.1 i z hz).1.apart hM.again (by decide)) k hk (by rw [hbg, e])
  · exact (hM.far i z hz).2 g hbg (by rw [hk, e])
set_option maxHeartbeats 6400000 in
set_option maxRecDepth 100000 in
theorem again_p (x : Gv) (F : Option Addr) (fn fc : Nat) (A : Option Addr) (an ac base q : Nat) (ns : List Nt) (p t r : Nat) (rest : List (Int × Int)) (y : Gv) (w : World) (hy : (r = t ∧ y = { x with again := rest }) ∨ (r ≠ t ∧ y = { x with again := ((r : Int), (t : Int)) :: rest })) (h : GwAt w base q F fn fc A an ac x ns) (hg : x.again = ((p : Int), (t : Int)) :: rest) (hm : 1 ≤ x.most ∧ x.most ≤ 1024) (hr : min (t : Int) ((p : Int) + x.most) = (r : Int)) (hpt : p < t) (ht : t ≤ fn) (hfn : fn ≤ 65536) (hon : ns.length ≤ 100000) (hbase : base ≤ w.heap.size) (hbq : base ≤ q) :
    Calls Try.prog 102 #[.pointer (some ⟨q, 0, none⟩)] w fun e w' => AgainPost w w' base q F fn fc y (ns ++ [pieceN x p r]) e := by
  have HY := Lib.hid hy
  clear hy
  have CP := Lib.hid (piece_at x F fn fc A an ac base q ns p t r w.drew h.drew hm hr hpt ht hfn hon hbase hbq)
  have HRT := Lib.hid (show r ≤ t by omega)
  obtain ⟨O, on, oc, l, hq, hM⟩ := h
  have hal := hM.al
  rw [hg] at hal
  simp only [List.length_cons] at hal
  have hle := hM.again.le
  have han : 0 < an := by omega
  have hani : (0 : Int) < (an : Int) := by omega
  obtain ⟨g, o, rfl, hb1, hb2⟩ := hM.again.form (by omega)
  have c0 : w.cell? ⟨g, o, none⟩ = some (.int .i64 p) := hM.again.cell (i := 0) (by rw [hg]; rfl)
  have c1 : w.cell? ⟨g, o + 1, none⟩ = some (.int .i64 t) := hM.again.cell (i := 1) (by rw [hg]; rfl)
  have d8 : w.cell? ⟨q, 8, none⟩ = some (.slice (some ⟨g, o, none⟩) an ac) := hq.cell' (i := 8) rfl
  have ht0 : decide ((t : Int) = 0) = false := decide_eq_false (by omega)
  have hE : ∀ w, (Op.equalIn 10000 66 (.agg #[.int .i64 p, .int .i64 t]) (.agg #[.int .i64 0, .int .i64 0])).run Try.prog w = .ok false w := fun w => by rw [eq_pair, ht0, Bool.and_false]
  have HG := Lib.hid hg
  clear hM hq hg hb1 hb2 ht0 hr hm
  go_enter Try.func102, Try.ntmps102
  go_upto_region 3 with fail
  clear hE d8
  refine heldRegion (fun v => v.cell? ⟨g, o, none⟩ = some (.int .i64 p) ∧ v.cell? ⟨g, o + 1, none⟩ = some (.int .i64 t)) 13 (by kernel_rfl) (by kernel_rfl) ⟨c0, c1⟩ (fun hSS => ?_)
  obtain ⟨c0, c1⟩ := hSS
  refine walk_take 0 (v := ?va0) rfl (by kernel_rfl) (by kernel_rfl) (by kernel_rfl) (fun _ _ _ h => h) (⟨c0, c1⟩) (Or.inl ⟨by rfl, ?ya0⟩) ?ra0
  case ya0 => intro w hSw; obtain ⟨hw1, hw2⟩ := hSw; (try dsimp only at hSw); go_simp; try rfl
  case' ra0 => try simp only [List.getElem_toArray, List.getElem_cons_succ, List.getElem_cons_zero, Act.put, List.setIfInBounds_toArray, List.set_cons_zero, List.set_cons_succ]
  refine walk_take 1 (v := ?va1) rfl (by kernel_rfl) (by kernel_rfl) (by kernel_rfl) (fun _ _ _ h => h) (⟨c0, c1⟩) (Or.inl ⟨by rfl, ?ya1⟩) ?ra1
  case ya1 => intro w hSw; obtain ⟨hw1, hw2⟩ := hSw; (try dsimp only at hSw); go_simp; try rfl
  case' ra1 => try simp only [List.getElem_toArray, List.getElem_cons_succ, List.getElem_cons_zero, Act.put, List.setIfInBounds_toArray, List.set_cons_zero, List.set_cons_succ]
  refine walk_take 2 (v := ?va2) rfl (by kernel_rfl) (by kernel_rfl) (by kernel_rfl) (fun _ _ _ h => h) (⟨c0, c1⟩) (Or.inl ⟨by rfl, ?ya2⟩) ?ra2
  case ya2 => intro w hSw; obtain ⟨hw1, hw2⟩ := hSw; (try dsimp only at hSw); go_simp; try rfl
  case' ra2 => try simp only [List.getElem_toArray, List.getElem_cons_succ, List.getElem_cons_zero, Act.put, List.setIfInBounds_toArray, List.set_cons_zero, List.set_cons_succ]
  refine walk_take 3 (v := ?va3) rfl (by kernel_rfl) (by kernel_rfl) (by kernel_rfl) (fun _ _ _ h => h) (⟨c0, c1⟩) (Or.inl ⟨by rfl, ?ya3⟩) ?ra3
  case ya3 => intro w hSw; obtain ⟨hw1, hw2⟩ := hSw; (try dsimp only at hSw); go_simp; try rfl
  case' ra3 => try simp only [List.getElem_toArray, List.getElem_cons_succ, List.getElem_cons_zero, Act.put, List.setIfInBounds_toArray, List.set_cons_zero, List.set_cons_succ]
  refine walk_take 4 (v := ?va4) rfl (by kernel_rfl) (by kernel_rfl) (by kernel_rfl) (fun _ _ _ h => h) (⟨c0, c1⟩) (Or.inl ⟨by rfl, ?ya4⟩) ?ra4
  case ya4 => intro w hSw; obtain ⟨hw1, hw2⟩ := hSw; (try dsimp only at hSw); go_simp; try rfl
  case' ra4 => try simp only [List.getElem_toArray, List.getElem_cons_succ, List.getElem_cons_zero, Act.put, List.setIfInBounds_toArray, List.set_cons_zero, List.set_cons_succ]
  refine walk_take 5 (v := ?va5) rfl (by kernel_rfl) (by kernel_rfl) (by kernel_rfl) (fun _ _ _ h => h) (⟨c0, c1⟩) (Or.inl ⟨by rfl, ?ya5⟩) ?ra5
  case ya5 => intro w hSw; obtain ⟨hw1, hw2⟩ := hSw; (try dsimp only at hSw); go_simp; try rfl
  case' ra5 => try simp only [List.getElem_toArray, List.getElem_cons_succ, List.getElem_cons_zero, Act.put, List.setIfInBounds_toArray, List.set_cons_zero, List.set_cons_succ]
  refine walk_take 6 (v := ?va6) rfl (by kernel_rfl) (by kernel_rfl) (by kernel_rfl) (fun _ _ _ h => h) (⟨c0, c1⟩) (Or.inl ⟨by rfl, ?ya6⟩) ?ra6
  case ya6 => intro w hSw; obtain ⟨hw1, hw2⟩ := hSw; (try dsimp only at hSw); go_simp; try rfl
  case' ra6 => try simp only [List.getElem_toArray, List.getElem_cons_succ, List.getElem_cons_zero, Act.put, List.setIfInBounds_toArray, List.set_cons_zero, List.set_cons_succ]
  refine walk_take 7 (v := ?va7) rfl (by kernel_rfl) (by kernel_rfl) (by kernel_rfl) (fun _ _ _ h => h) (⟨c0, c1⟩) (Or.inl ⟨by rfl, ?ya7⟩) ?ra7
  case ya7 => intro w hSw; obtain ⟨hw1, hw2⟩ := hSw; (try dsimp only at hSw); go_simp; try rfl
  case' ra7 => try simp only [List.getElem_toArray, List.getElem_cons_succ, List.getElem_cons_zero, Act.put, List.setIfInBounds_toArray, List.set_cons_zero, List.set_cons_succ]
  refine walk_take 8 (v := ?va8) rfl (by kernel_rfl) (by kernel_rfl) (by kernel_rfl) (fun _ _ _ h => h) (⟨c0, c1⟩) (Or.inl ⟨by rfl, ?ya8⟩) ?ra8
  case ya8 => intro w hSw; obtain ⟨hw1, hw2⟩ := hSw; (try dsimp only at hSw); go_simp; try rfl
  case' ra8 => try simp only [List.getElem_toArray, List.getElem_cons_succ, List.getElem_cons_zero, Act.put, List.setIfInBounds_toArray, List.set_cons_zero, List.set_cons_succ]
  refine walk_take 9 (v := ?va9) rfl (by kernel_rfl) (by kernel_rfl) (by kernel_rfl) (fun _ _ _ h => h) (⟨c0, c1⟩) (Or.inl ⟨by rfl, ?ya9⟩) ?ra9
  case ya9 => intro w hSw; obtain ⟨hw1, hw2⟩ := hSw; (try dsimp only at hSw); go_simp; try rfl
  case' ra9 => try simp only [List.getElem_toArray, List.getElem_cons_succ, List.getElem_cons_zero, Act.put, List.setIfInBounds_toArray, List.set_cons_zero, List.set_cons_succ]
  refine walk_take 11 (v := ?va11) rfl (by kernel_rfl) (by kernel_rfl) (by kernel_rfl) (fun _ _ _ h => h) (⟨c0, c1⟩) (Or.inl ⟨by rfl, ?ya11⟩) ?ra11
  case ya11 => intro w hSw; obtain ⟨hw1, hw2⟩ := hSw; (try dsimp only at hSw); go_simp; try rfl
  case' ra11 => try simp only [List.getElem_toArray, List.getElem_cons_succ, List.getElem_cons_zero, Act.put, List.setIfInBounds_toArray, List.set_cons_zero, List.set_cons_succ]
  refine walk_step 10 rfl (by kernel_rfl) (by kernel_rfl) (fun K hK => ?c10)
  case c10 =>
    go_simp
    refine CP.out.mono ?_
    rintro e w1 ⟨rfl, hG, hB⟩
    replace hB : Below base w w1 := ((Below.refl _ _).drew).trans hB
    obtain ⟨O1, on1, oc1, l1, hq, hM⟩ := hG
    have c0 : w1.cell? ⟨g, o, none⟩ = some (.int .i64 p) := hM.again.cell (i := 0) (by rw [HG.out]; rfl)
    have c1 : w1.cell? ⟨g, o + 1, none⟩ = some (.int .i64 t) := hM.again.cell (i := 1) (by rw [HG.out]; rfl)
    have kf := hM.again.frozen
    refine hK _ _ ⟨c0, c1⟩ ?_
    clear hK K
    try simp only [List.getElem_toArray, List.getElem_cons_succ, List.getElem_cons_zero, Act.put, List.setIfInBounds_toArray, List.set_cons_zero, List.set_cons_succ]
    refine walk_take 12 (v := ?vb12) rfl (by kernel_rfl) (by kernel_rfl) (by kernel_rfl) (fun _ _ _ h => h) (⟨c0, c1⟩) (Or.inl ⟨by rfl, ?yb12⟩) ?rb12
    case yb12 => intro w hSw; obtain ⟨hw1, hw2⟩ := hSw; (try dsimp only at hSw); go_simp; try rfl
    case' rb12 => try simp only [List.getElem_toArray, List.getElem_cons_succ, List.getElem_cons_zero, Act.put, List.setIfInBounds_toArray, List.set_cons_zero, List.set_cons_succ]
    refine walk_tail (by kernel_rfl) ?_
    simp only [List.drop_succ_cons, List.drop_zero]
    go_upto_region 4 with fail
    have hq2 := hq.far (p := ⟨g, o, none⟩) (fun e => (hM.again.notBlk hq (by decide)) (by rw [e]; rfl)) (.int .i64 (r : Int))
    have hM2 := gv_set0 hM HG.out (r : Int)
    have hB2 := hB.setCell (p := ⟨g, o, none⟩) (hM.again.lt g rfl).1 (.int .i64 (r : Int))
    clear c0 c1 CP kf hM hq hB
    generalize w1.setCell ⟨g, o, none⟩ (.int .i64 (r : Int)) = w2 at *
    have HG2 : Hid (({ x with again := ((r : Int), (t : Int)) :: rest } : Gv).again = ((r : Int), (t : Int)) :: rest) := Lib.hid rfl
    have HX : Hid (({ x with again := rest } : Gv) = { ({ x with again := ((r : Int), (t : Int)) :: rest } : Gv) with again := rest }) := Lib.hid rfl
    have c0 : w2.cell? ⟨g, o, none⟩ = some (.int .i64 r) := hM2.again.cell (i := 0) rfl
    have c1 : w2.cell? ⟨g, o + 1, none⟩ = some (.int .i64 t) := hM2.again.cell (i := 1) rfl
    by_cases hrt : r = t
    ·
      have hE : ((r : Int) == (t : Int)) = true := beq_t (by omega)
      have HRE := Lib.hid (show y = { x with again := rest } by
        rcases HY.out with ⟨_, e⟩ | ⟨h, _⟩
        · exact e
        · exact absurd hrt h)
      clear hrt
      go_still_tail 8, (by kernel_rfl)
      go_upto_region 5 with fail
      have hq := hq2.drew
      have hM := hM2.drew
      have hB := hB2.drew
      clear c0 c1 hq2 hM2 hB2
      generalize w2.drew = W at *
      have d8 : W.cell? ⟨q, 8, none⟩ = some (.slice (some ⟨g, o, none⟩) an ac) := hq.cell' (i := 8) rfl
      have kf := hq.frozen
      have z1 : (1 : Int) ≤ (an : Int) := by omega
      have z2 : (an : Int) ≤ (ac : Int) := by omega
      by_cases c : ac = 1
      ·
        have HZ := Lib.hid (show ac - 1 = 0 by omega)
        have HC := Lib.hid c
        go_wp2_with fail
        go_end0
        rw [HRE.out]
        have hD := gv_drop (x := { x with again := ((r : Int), (t : Int)) :: rest }) hq hM rfl rfl (A' := some ⟨g, o, none⟩) (fun _ => rfl) (fun h => absurd HC.out h)
        rw [HZ.out] at hD
        exact ⟨rfl, _, _, _, hD, hB.setCell (p := ⟨q, 8, none⟩) hbq _⟩
      ·
        have HC := Lib.hid c
        go_wp2_with fail
        go_end0
        rw [HRE.out]
        have hD := gv_drop (x := { x with again := ((r : Int), (t : Int)) :: rest }) hq hM rfl rfl (A' := some ⟨g, o + 2, none⟩) (fun h => absurd h HC.out) (fun _ => rfl)
        exact ⟨rfl, _, _, _, hD, hB.setCell (p := ⟨q, 8, none⟩) hbq _⟩
    ·
      have hE : ((r : Int) == (t : Int)) = false := beq_f (by omega)
      have HRE := Lib.hid (show y = { x with again := ((r : Int), (t : Int)) :: rest } by
        rcases HY.out with ⟨h, _⟩ | ⟨_, e⟩
        · exact absurd h hrt
        · exact e)
      clear hrt
      go_still_tail 8, (by kernel_rfl)
      go_wp2_with fail
      go_end0
      rw [HRE.out]
      exact ⟨rfl, _, _, _, ⟨O1, on1, oc1, l1, hq2.drew, hM2.drew⟩, hB2.drew⟩
end Go.Proofs.Ytianombjgdmbeaa
namespace Go.Proofs.Ytianombjgdmbeaa
set_option linter.unusedSimpArgs false
set_option linter.unusedVariables false
open Go.RowKit

def nextR (x : Gv) (ns : List Nt) : Bool × Gv × List Nt :=
  match givR x with
  | none => (false, x, ns)
  | some (y, n, b) => (!b, y, ns ++ [n])
theorem nextR_some {x y : Gv} {ns : List Nt} {n : Nt} {b : Bool} (h : givR x = some (y, n, b)) : nextR x ns = (!b, y, ns ++ [n]) := by unfold nextR; rw [h]
theorem nextR_none {x : Gv} {ns : List Nt} (h : givR x = none) : nextR x ns = (false, x, ns) := by unfold nextR; rw [h]
theorem givR_n {x : Gv} (hf : x.first = false) (hg : x.again = []) (h : x.stage ≠ 0) : givR x = none := by unfold givR; rw [if_neg (by rw [hf]; simp), hg]; dsimp only; rw [if_neg h]
theorem givR_c {x : Gv} (hf : x.first = false) (hg : x.again = []) (h : x.stage = 0) (h2 : x.at_ < x.file.length) (h3 : (x.file.length : Int) ≤ x.at_ + x.most) : givR x = some ({ x with at_ := (x.file.length : Int) }, pieceN x x.at_ (x.file.length : Int), false) := by unfold givR; rw [if_neg (by rw [hf]; simp), hg]; dsimp only; rw [if_pos h, if_pos h2, if_pos h3]
theorem givR_d {x : Gv} (hf : x.first = false) (hg : x.again = []) (h : x.stage = 0) (h2 : x.at_ < x.file.length) (h3 : ¬ (x.file.length : Int) ≤ x.at_ + x.most) : givR x = some ({ x with at_ := x.at_ + x.most }, pieceN x x.at_ (x.at_ + x.most), false) := by unfold givR; rw [if_neg (by rw [hf]; simp), hg]; dsimp only; rw [if_pos h, if_pos h2, if_neg h3]
theorem givR_e {x : Gv} (hf : x.first = false) (hg : x.again = []) (h : x.stage = 0) (h2 : ¬ x.at_ < x.file.length) : givR x = some ({ x with stage := 1, timer := 0, tries := 0 }, endN x, true) := by unfold givR; rw [if_neg (by rw [hf]; simp), hg]; dsimp only; rw [if_pos h, if_neg h2]
/-- A piece of the file's rest. -/
theorem givR_r {x : Gv} (hf : x.first = false) (hg : x.again = []) (h : x.stage = 0) {p t r : Nat} (hp : x.at_ = (p : Int)) (ht : x.file.length = t) (hpt : p < t) (hr : min (t : Int) ((p : Int) + x.most) = (r : Int)) : givR x = some ({ x with at_ := (r : Int) }, pieceN x p r, false) := by
  by_cases c : (x.file.length : Int) ≤ x.at_ + x.most
  · rw [givR_c hf hg h (by rw [hp, ht]; omega) c, ← hp]
    have e : (x.file.length : Int) = (r : Int) := by rw [hp, ht] at c; rw [ht]; omega
    rw [e]
  · rw [givR_d hf hg h (by rw [hp, ht]; omega) c, ← hp]
    have e : x.at_ + x.most = (r : Int) := by rw [hp, ht] at c; rw [hp]; omega
    rw [e]
/-- A piece of what has to go once more. -/
theorem givR_g {x : Gv} (hf : x.first = false) {p t r : Nat} {rest : List (Int × Int)} (hg : x.again = ((p : Int), (t : Int)) :: rest) (hpt : p < t) (hm : 1 ≤ x.most) (hr : min (t : Int) ((p : Int) + x.most) = (r : Int)) : ∃ y, givR x = some (y, pieceN x p r, false) ∧ ((r = t ∧ y = { x with again := rest }) ∨ (r ≠ t ∧ y = { x with again := ((r : Int), (t : Int)) :: rest })) := by
  by_cases c : (t : Int) ≤ (p : Int) + x.most
  · obtain rfl : r = t := by omega
    exact ⟨_, givR_a hf hg (by show (r : Int) ≠ 0; omega) c, .inl ⟨rfl, rfl⟩⟩
  · have e : (p : Int) + x.most = (r : Int) := by omega
    have h := givR_b hf hg (by show (t : Int) ≠ 0; omega) c
    dsimp only at h
    rw [e] at h
    exact ⟨_, h, .inr ⟨by omega, rfl⟩⟩
/-- What next leaves. -/
def NextPost (w w' : World) (base q : Nat) (F : Option Addr) (fn fc : Nat) (b : Bool) (y : Gv) (ms : List Nt) (e : Ending) : Prop := e = .returned (.bool b) ∧ ∃ A an ac, GwAt w' base q F fn fc A an ac y ms ∧ Below base w w'
theorem NextPost.of {w w' : World} {base q : Nat} {F : Option Addr} {fn fc : Nat} {x : Gv} {ns : List Nt} {b b' : Bool} {y y' : Gv} {ms ms' : List Nt} {e : Ending} (h : nextR x ns = (b, y, ms)) (h' : nextR x ns = (b', y', ms')) (k : NextPost w w' base q F fn fc b' y' ms' e) : NextPost w w' base q F fn fc b y ms e := by
  rw [h] at h'
  injection h' with e1 h'
  injection h' with e2 e3
  rw [e1, e2, e3]
  exact k
set_option maxHeartbeats 6400000 in
set_option maxRecDepth 100000 in
theorem next_at (x : Gv) (F : Option Addr) (fn fc : Nat) (A : Option Addr) (an ac base q : Nat) (ns : List Nt) (b : Bool) (y : Gv) (ms : List Nt) (w : World) (hR : nextR x ns = (b, y, ms)) (h : GwAt w base q F fn fc A an ac x ns) (hI : GvI x) (hon : ns.length ≤ 100000) (hbase : base ≤ w.heap.size) (hbq : base ≤ q) :
    Calls Try.prog 71 #[.pointer (some ⟨q, 0, none⟩)] w fun e w' => NextPost w w' base q F fn fc b y ms e := by
  have HR := Lib.hid hR
  clear hR
  have HI := Lib.hid hI
  have HG := Lib.hid h
  obtain ⟨O, on, oc, l, hq, hM⟩ := h
  have hz := hq.lt
  have hfl : fn ≤ 65536 := by have := hI.long; rw [hM.fl] at this; exact this
  clear hI
  have d6 : w.cell? ⟨q, 6, none⟩ = some (.bool x.first) := hq.cell' (i := 6) rfl
  by_cases hf : x.first = true
  ·
    rw [hf] at d6
    have HE := Lib.hid (nextR_some (ns := ns) (givR_first hf))
    clear hf
    have kf := hq.frozen
    have hq1 := hq.set_ 6 (.bool false)
    have hM1 := hM.far_ (i := 6) hq (by decide) (by decide) (by decide) (.bool false)
    have hB : Below base w (w.setCell ⟨q, 6, none⟩ (.bool false)) := (Below.refl _ _).setCell (p := ⟨q, 6, none⟩) hbq _
    have CM := Lib.hid (meta_at { x with first := false } F fn fc A an ac base q ns (w.setCell ⟨q, 6, none⟩ (.bool false)) ⟨O, on, oc, l, hq1, hM1.as rfl rfl⟩ hon (by simpa using hbase) hbq)
    clear hq hM hq1 hM1
    go_enter Try.func71, Try.ntmps71
    go_upto_region 6 with fail
    clear d6 kf
    go_wp2_with fail
    refine CM.out.mono ?_
    rintro e w1 ⟨rfl, hG1, hB1⟩
    go_wp2_with fail
    go_ret
    exact NextPost.of HR.out HE.out ⟨rfl, A, an, ac, hG1, hB.trans hB1⟩
  have hf' : x.first = false := by simpa using hf
  rw [hf'] at d6
  clear hf
  have HF := Lib.hid hf'
  clear hf'
  have d8 : w.cell? ⟨q, 8, none⟩ = some (.slice A an ac) := hq.cell' (i := 8) rfl
  have hal := Lib.hid hM.al
  cases hag : x.again with
  | cons g rest =>
    have hani : (0 : Int) < (an : Int) := by have := hal.out; rw [hag] at this; simp only [List.length_cons] at this; omega
    have hgp := HI.out.gaps g (by rw [hag]; exact List.mem_cons_self)
    rw [hM.fl] at hgp
    obtain ⟨ga, gb⟩ := g
    dsimp only at hgp
    have HA := Lib.hid hag
    have ways : ∃ (y' : Gv) (n : Nt), givR x = some (y', n, false) ∧ Calls Try.prog 102 #[.pointer (some ⟨q, 0, none⟩)] w fun e w' => AgainPost w w' base q F fn fc y' (ns ++ [n]) e := by
      rcases hgp with ⟨rfl, rfl⟩ | ⟨h1, h2, h3⟩
      · exact ⟨_, _, givR_0 HF.out HA.out rfl, again_0 x F fn fc A an ac base q ns rest w HG.out HA.out hon hbase hbq⟩
      · obtain ⟨p, rfl⟩ : ∃ p : Nat, ga = (p : Int) := ⟨ga.toNat, by omega⟩
        obtain ⟨t, rfl⟩ : ∃ t : Nat, gb = (t : Int) := ⟨gb.toNat, by omega⟩
        have hm := HI.out.most
        obtain ⟨r, hr⟩ : ∃ r : Nat, min (t : Int) ((p : Int) + x.most) = (r : Int) := ⟨(min (t : Int) ((p : Int) + x.most)).toNat, by omega⟩
        obtain ⟨y', e1, e2⟩ := givR_g HF.out HA.out (by omega) hm.1 hr
        exact ⟨y', _, e1, again_p x F fn fc A an ac base q ns p t r rest y' w e2 HG.out HA.out hm hr (by omega) (by omega) hfl hon hbase hbq⟩
    clear hag hgp
    obtain ⟨y', n, he, hC⟩ := ways
    have HE := Lib.hid (nextR_some (ns := ns) he)
    have CA := Lib.hid hC
    clear he hC hq hM
    go_enter Try.func71, Try.ntmps71
    go_upto_region 8 with fail
    clear d6 d8
    go_wp2_with fail
    refine CA.out.mono ?_
    rintro e w1 ⟨rfl, A', an', ac', hG1, hB1⟩
    go_wp2_with fail
    go_ret
    exact NextPost.of HR.out HE.out ⟨rfl, A', an', ac', hG1, hB1⟩
  | nil =>
    obtain rfl : an = 0 := by have := hal.out; rw [hag] at this; simpa using this.symm
    have HA := Lib.hid hag
    clear hag
    have d5 : w.cell? ⟨q, 5, none⟩ = some (.int .i64 x.stage) := hq.cell' (i := 5) rfl
    by_cases hs : x.stage = 0
    rotate_left
    ·
      have hb5 : (x.stage != 0) = true := bne_t hs
      have HE := Lib.hid (nextR_none (ns := ns) (givR_n HF.out HA.out hs))
      clear hs hq hM
      go_enter Try.func71, Try.ntmps71
      go_wp2_with fail
      go_ret
      exact NextPost.of HR.out HE.out ⟨rfl, A, 0, ac, HG.out, Below.refl _ _⟩
    have hb5 : (x.stage != 0) = false := bne_f hs
    have HS := Lib.hid hs
    clear hs
    have HFL := Lib.hid hM.fl
    have hat := HI.out.at_
    rw [HFL.out] at hat
    obtain ⟨p, hp⟩ : ∃ p : Nat, x.at_ = (p : Int) := ⟨x.at_.toNat, by omega⟩
    have HP := Lib.hid hp
    rw [hp] at hat
    have d7 : w.cell? ⟨q, 7, none⟩ = some (.int .i64 (p : Int)) := by rw [← hp]; exact hq.cell' (i := 7) rfl
    clear hp
    have d2 : w.cell? ⟨q, 2, none⟩ = some (.slice F fn fc) := hq.cell' (i := 2) rfl
    by_cases hlt : p < fn
    ·
      have hm := HI.out.most
      obtain ⟨r, hr⟩ : ∃ r : Nat, min (fn : Int) ((p : Int) + x.most) = (r : Int) := ⟨(min (fn : Int) ((p : Int) + x.most)).toNat, by omega⟩
      have HE := Lib.hid (nextR_some (ns := ns) (givR_r HF.out HA.out HS.out HP.out HFL.out hlt hr))
      have CP := Lib.hid (fun (V : World) (hb : Below w.heap.size w V) => piece_at x F fn fc A 0 ac base q ns p fn r V (HG.out.step hb) hm hr hlt (Nat.le_refl _) hfl hon (by have := hb.size; omega) hbq)
      have hdl : decide ((p : Int) < (fn : Int)) = true := decide_eq_true (by omega)
      clear hm hr hat
      go_enter Try.func71, Try.ntmps71
      go_upto_region 11 with fail
      clear d5 d6 d8
      go_still_tail 12, (by kernel_rfl)
      go_upto_region 12 with fail
      clear d7 d2 hdl hb5
      have e7 : w.drew.drew.cell? ⟨q, 7, none⟩ = some (.int .i64 (p : Int)) := by rw [← HP.out]; exact hq.drew.drew.cell' (i := 7) rfl
      have e2 : w.drew.drew.cell? ⟨q, 2, none⟩ = some (.slice F fn fc) := hq.drew.drew.cell' (i := 2) rfl
      refine heldRegion (fun v => v.cell? ⟨q, 7, none⟩ = some (.int .i64 (p : Int)) ∧ v.cell? ⟨q, 2, none⟩ = some (.slice F fn fc)) 17 (by kernel_rfl) (by kernel_rfl) ⟨e7, e2⟩ (fun hSS => ?_)
      clear hSS
      have hbd : Below w.heap.size w w.drew.drew := ((Below.refl _ _).drew).drew
      clear hq hM
      refine walk_take 0 (v := ?va0) rfl (by kernel_rfl) (by kernel_rfl) (by kernel_rfl) (fun _ _ _ h => h) (⟨e7, e2⟩) (Or.inl ⟨by rfl, ?ya0⟩) ?ra0
      case ya0 => intro w hSw; obtain ⟨hw1, hw2⟩ := hSw; (try dsimp only at hSw); go_simp; try rfl
      case' ra0 => try simp only [List.getElem_toArray, List.getElem_cons_succ, List.getElem_cons_zero, Act.put, List.setIfInBounds_toArray, List.set_cons_zero, List.set_cons_succ]
      refine walk_take 1 (v := ?va1) rfl (by kernel_rfl) (by kernel_rfl) (by kernel_rfl) (fun _ _ _ h => h) (⟨e7, e2⟩) (Or.inl ⟨by rfl, ?ya1⟩) ?ra1
      case ya1 => intro w hSw; obtain ⟨hw1, hw2⟩ := hSw; (try dsimp only at hSw); go_simp; try rfl
      case' ra1 => try simp only [List.getElem_toArray, List.getElem_cons_succ, List.getElem_cons_zero, Act.put, List.setIfInBounds_toArray, List.set_cons_zero, List.set_cons_succ]
      refine walk_take 2 (v := ?va2) rfl (by kernel_rfl) (by kernel_rfl) (by kernel_rfl) (fun _ _ _ h => h) (⟨e7, e2⟩) (Or.inl ⟨by rfl, ?ya2⟩) ?ra2
      case ya2 => intro w hSw; obtain ⟨hw1, hw2⟩ := hSw; (try dsimp only at hSw); go_simp; try rfl
      case' ra2 => try simp only [List.getElem_toArray, List.getElem_cons_succ, List.getElem_cons_zero, Act.put, List.setIfInBounds_toArray, List.set_cons_zero, List.set_cons_succ]
      refine walk_take 3 (v := ?va3) rfl (by kernel_rfl) (by kernel_rfl) (by kernel_rfl) (fun _ _ _ h => h) (⟨e7, e2⟩) (Or.inl ⟨by rfl, ?ya3⟩) ?ra3
      case ya3 => intro w hSw; obtain ⟨hw1, hw2⟩ := hSw; (try dsimp only at hSw); go_simp; try rfl
      case' ra3 => try simp only [List.getElem_toArray, List.getElem_cons_succ, List.getElem_cons_zero, Act.put, List.setIfInBounds_toArray, List.set_cons_zero, List.set_cons_succ]
      refine walk_take 4 (v := ?va4) rfl (by kernel_rfl) (by kernel_rfl) (by kernel_rfl) (fun _ _ _ h => h) (⟨e7, e2⟩) (Or.inl ⟨by rfl, ?ya4⟩) ?ra4
      case ya4 => intro w hSw; obtain ⟨hw1, hw2⟩ := hSw; (try dsimp only at hSw); go_simp; try rfl
      case' ra4 => try simp only [List.getElem_toArray, List.getElem_cons_succ, List.getElem_cons_zero, Act.put, List.setIfInBounds_toArray, List.set_cons_zero, List.set_cons_succ]
      refine walk_take 5 (v := ?va5) rfl (by kernel_rfl) (by kernel_rfl) (by kernel_rfl) (fun _ _ _ h => h) (⟨e7, e2⟩) (Or.inl ⟨by rfl, ?ya5⟩) ?ra5
      case ya5 => intro w hSw; obtain ⟨hw1, hw2⟩ := hSw; (try dsimp only at hSw); go_simp; try rfl
      case' ra5 => try simp only [List.getElem_toArray, List.getElem_cons_succ, List.getElem_cons_zero, Act.put, List.setIfInBounds_toArray, List.set_cons_zero, List.set_cons_succ]
      refine walk_take 6 (v := ?va6) rfl (by kernel_rfl) (by kernel_rfl) (by kernel_rfl) (fun _ _ _ h => h) (⟨e7, e2⟩) (Or.inl ⟨by rfl, ?ya6⟩) ?ra6
      case ya6 => intro w hSw; obtain ⟨hw1, hw2⟩ := hSw; (try dsimp only at hSw); go_simp; try rfl
      case' ra6 => try simp only [List.getElem_toArray, List.getElem_cons_succ, List.getElem_cons_zero, Act.put, List.setIfInBounds_toArray, List.set_cons_zero, List.set_cons_succ]
      refine walk_take 7 (v := ?va7) rfl (by kernel_rfl) (by kernel_rfl) (by kernel_rfl) (fun _ _ _ h => h) (⟨e7, e2⟩) (Or.inl ⟨by rfl, ?ya7⟩) ?ra7
      case ya7 => intro w hSw; obtain ⟨hw1, hw2⟩ := hSw; (try dsimp only at hSw); go_simp; try rfl
      case' ra7 => try simp only [List.getElem_toArray, List.getElem_cons_succ, List.getElem_cons_zero, Act.put, List.setIfInBounds_toArray, List.set_cons_zero, List.set_cons_succ]
      refine walk_take 8 (v := ?va8) rfl (by kernel_rfl) (by kernel_rfl) (by kernel_rfl) (fun _ _ _ h => h) (⟨e7, e2⟩) (Or.inl ⟨by rfl, ?ya8⟩) ?ra8
      case ya8 => intro w hSw; obtain ⟨hw1, hw2⟩ := hSw; (try dsimp only at hSw); go_simp; try rfl
      case' ra8 => try simp only [List.getElem_toArray, List.getElem_cons_succ, List.getElem_cons_zero, Act.put, List.setIfInBounds_toArray, List.set_cons_zero, List.set_cons_succ]
      refine walk_take 9 (v := ?va9) rfl (by kernel_rfl) (by kernel_rfl) (by kernel_rfl) (fun _ _ _ h => h) (⟨e7, e2⟩) (Or.inl ⟨by rfl, ?ya9⟩) ?ra9
      case ya9 => intro w hSw; obtain ⟨hw1, hw2⟩ := hSw; (try dsimp only at hSw); go_simp; try rfl
      case' ra9 => try simp only [List.getElem_toArray, List.getElem_cons_succ, List.getElem_cons_zero, Act.put, List.setIfInBounds_toArray, List.set_cons_zero, List.set_cons_succ]
      refine walk_take 10 (v := ?va10) rfl (by kernel_rfl) (by kernel_rfl) (by kernel_rfl) (fun _ _ _ h => h) (⟨e7, e2⟩) (Or.inl ⟨by rfl, ?ya10⟩) ?ra10
      case ya10 => intro w hSw; obtain ⟨hw1, hw2⟩ := hSw; (try dsimp only at hSw); go_simp; try rfl
      case' ra10 => try simp only [List.getElem_toArray, List.getElem_cons_succ, List.getElem_cons_zero, Act.put, List.setIfInBounds_toArray, List.set_cons_zero, List.set_cons_succ]
      refine walk_take 11 (v := ?va11) rfl (by kernel_rfl) (by kernel_rfl) (by kernel_rfl) (fun _ _ _ h => h) (⟨e7, e2⟩) (Or.inl ⟨by rfl, ?ya11⟩) ?ra11
      case ya11 => intro w hSw; obtain ⟨hw1, hw2⟩ := hSw; (try dsimp only at hSw); go_simp; try rfl
      case' ra11 => try simp only [List.getElem_toArray, List.getElem_cons_succ, List.getElem_cons_zero, Act.put, List.setIfInBounds_toArray, List.set_cons_zero, List.set_cons_succ]
      refine walk_take 12 (v := ?va12) rfl (by kernel_rfl) (by kernel_rfl) (by kernel_rfl) (fun _ _ _ h => h) (⟨e7, e2⟩) (Or.inl ⟨by rfl, ?ya12⟩) ?ra12
      case ya12 => intro w hSw; obtain ⟨hw1, hw2⟩ := hSw; (try dsimp only at hSw); go_simp; try rfl
      case' ra12 => try simp only [List.getElem_toArray, List.getElem_cons_succ, List.getElem_cons_zero, Act.put, List.setIfInBounds_toArray, List.set_cons_zero, List.set_cons_succ]
      refine walk_step 13 rfl (by kernel_rfl) (by kernel_rfl) (fun K hK => ?c13)
      case c13 =>
        go_simp
        refine (CP.out _ hbd).mono ?_
        rintro e w1 ⟨rfl, hG1, hB1⟩
        clear e7 e2
        replace hB1 : Below base w w1 := (hbd.mono hbase).trans hB1
        obtain ⟨O1, on1, oc1, l1, hq, hM⟩ := hG1
        have e7 : w1.cell? ⟨q, 7, none⟩ = some (.int .i64 (p : Int)) := by rw [← HP.out]; exact hq.cell' (i := 7) rfl
        have e2 : w1.cell? ⟨q, 2, none⟩ = some (.slice F fn fc) := hq.cell' (i := 2) rfl
        refine hK _ _ ⟨e7, e2⟩ ?_
        clear hK K hbd
        try simp only [List.getElem_toArray, List.getElem_cons_succ, List.getElem_cons_zero, Act.put, List.setIfInBounds_toArray, List.set_cons_zero, List.set_cons_succ]
        refine walk_take 14 (v := ?vb14) rfl (by kernel_rfl) (by kernel_rfl) (by kernel_rfl) (fun _ _ _ h => h) (⟨e7, e2⟩) (Or.inl ⟨by rfl, ?yb14⟩) ?rb14
        case yb14 => intro w hSw; obtain ⟨hw1, hw2⟩ := hSw; (try dsimp only at hSw); go_simp; try rfl
        case' rb14 => try simp only [List.getElem_toArray, List.getElem_cons_succ, List.getElem_cons_zero, Act.put, List.setIfInBounds_toArray, List.set_cons_zero, List.set_cons_succ]
        refine walk_take 15 (v := ?vb15) rfl (by kernel_rfl) (by kernel_rfl) (by kernel_rfl) (fun _ _ _ h => h) (⟨e7, e2⟩) (Or.inl ⟨by rfl, ?yb15⟩) ?rb15
        case yb15 => intro w hSw; obtain ⟨hw1, hw2⟩ := hSw; (try dsimp only at hSw); go_simp; try rfl
        case' rb15 => try simp only [List.getElem_toArray, List.getElem_cons_succ, List.getElem_cons_zero, Act.put, List.setIfInBounds_toArray, List.set_cons_zero, List.set_cons_succ]
        refine walk_take 16 (v := ?vb16) rfl (by kernel_rfl) (by kernel_rfl) (by kernel_rfl) (fun _ _ _ h => h) (⟨e7, e2⟩) (Or.inl ⟨by rfl, ?yb16⟩) ?rb16
        case yb16 => intro w hSw; obtain ⟨hw1, hw2⟩ := hSw; (try dsimp only at hSw); go_simp; try rfl
        case' rb16 => try simp only [List.getElem_toArray, List.getElem_cons_succ, List.getElem_cons_zero, Act.put, List.setIfInBounds_toArray, List.set_cons_zero, List.set_cons_succ]
        have kf := hq.frozen
        refine walk_tail (by kernel_rfl) ?_
        simp only [List.drop_succ_cons, List.drop_zero]
        go_wp2_with fail
        go_ret
        exact NextPost.of HR.out HE.out ⟨rfl, A, 0, ac, ⟨O1, on1, oc1, l1, hq.set_ 7 (.int .i64 (r : Int)), (hM.far_ (i := 7) hq (by decide) (by decide) (by decide) (.int .i64 (r : Int))).as rfl rfl⟩, hB1.setCell (p := ⟨q, 7, none⟩) hbq _⟩
    ·
      have HE := Lib.hid (nextR_some (ns := ns) (givR_e HF.out HA.out HS.out (by rw [HP.out, HFL.out]; omega)))
      have CE := Lib.hid (fun (V : World) (hb : Below w.heap.size w V) => end_at x F fn fc A 0 ac base q ns V (HG.out.step hb) (by omega) hon (by have := hb.size; omega) hbq)
      have hdl : decide ((p : Int) < (fn : Int)) = false := decide_eq_false (by omega)
      clear hat
      go_enter Try.func71, Try.ntmps71
      go_upto_region 11 with fail
      clear d5 d6 d8
      go_still_tail 12, (by kernel_rfl)
      go_upto_region 1 with fail
      clear d7 d2 hdl hb5
      have hbd : Below w.heap.size w w.drew := (Below.refl _ _).drew
      clear hq hM
      go_wp2_with fail
      refine (CE.out _ hbd).mono ?_
      rintro e w1 ⟨rfl, hG1, hB1⟩
      replace hB1 : Below base w w1 := (hbd.mono hbase).trans hB1
      obtain ⟨O1, on1, oc1, l1, bq, hM⟩ := hG1
      have kf := bq.frozen
      have y5 : w1.cell? ⟨q, 5, none⟩ = some (.int .i64 x.stage) := bq.cell' (i := 5) rfl
      have b5 := bq.set_ 5 (.int .i64 1)
      have z9 : (w1.setCell ⟨q, 5, none⟩ (.int .i64 1)).cell? ⟨q, 9, none⟩ = some (.int .i64 x.timer) := b5.cell' (i := 9) rfl
      have kf5 := b5.frozen
      have b9 := b5.set_ 9 (.int .i64 0)
      have z11 : ((w1.setCell ⟨q, 5, none⟩ (.int .i64 1)).setCell ⟨q, 9, none⟩ (.int .i64 0)).cell? ⟨q, 11, none⟩ = some (.int .i64 x.tries) := b9.cell' (i := 11) rfl
      have kf9 := b9.frozen
      go_wp2_with fail
      go_ret
      exact NextPost.of HR.out HE.out ⟨rfl, A, 0, ac, ⟨O1, on1, oc1, l1, b9.set_ 11 (.int .i64 0), (((hM.far_ (i := 5) bq (by decide) (by decide) (by decide) (.int .i64 1)).far_ (i := 9) b5 (by decide) (by decide) (by decide) (.int .i64 0)).far_ (i := 11) b9 (by decide) (by decide) (by decide) (.int .i64 0)).as rfl rfl⟩, ((hB1.setCell (p := ⟨q, 5, none⟩) hbq _).setCell (p := ⟨q, 9, none⟩) hbq _).setCell (p := ⟨q, 11, none⟩) hbq _⟩
end Go.Proofs.Ytianombjgdmbeaa
