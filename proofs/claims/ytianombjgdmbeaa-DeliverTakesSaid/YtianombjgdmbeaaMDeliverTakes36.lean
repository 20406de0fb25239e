/-
  Is there a byte that is not 0 (slices.ContainsFunc over takes$1); where rows end (reach); do they tell all (all). Which taker may be, by the program (takes).
-/
import Derived.Test.YtianombjgdmbeaaMDeliverTakes9
import Derived.Test.YtianombjgdmbeaaMDeliverTakes2
import Derived.Test.YtianombjgdmbeaaMDeliverTakes10
import Derived.Test.YtianombjgdmbeaaMDeliverTakes35
import Derived.Test.YtianombjgdmbeaaMDeliverTakes19
namespace Go.Proofs.Ytianombjgdmbeaa
set_option linter.unusedSimpArgs false
set_option linter.unusedVariables false
open Go.RowKit

def zerB (x : UInt8) : Bool := decide (x = 0)
theorem zerB_true {x : UInt8} : zerB x = true ↔ x.toNat = 0 := by
  unfold zerB
  rw [decide_eq_true_eq]
  constructor
  · intro h; rw [h]; rfl
  · intro h; exact UInt8.toNat_inj.1 (by rw [h]; rfl)
theorem nonz_any (x : UInt8) (w : World) : Calls Try.prog 94 #[.int .u8 (x.toNat : Int)] w fun e w' => e = .returned (.bool (!zerB x)) ∧ Below w.heap.size w w' := by
  cases h : zerB x
  · have h0 : ¬ x.toNat = 0 := fun e => by rw [zerB_true.2 e] at h; cases h
    have h1 : ((x.toNat : Int) == 0) = false := by rw [beq_eq_false_iff_ne]; omega
    have h2 : ((x.toNat : Int) != 0) = true := by rw [bne, h1]; rfl
    have h3 : ¬ (x.toNat : Int) = 0 := by omega
    generalize x.toNat = m at *
    clear h
    go_enter Try.func94, Try.ntmps94
    go_wp2_with fail
    go_ret
    exact ⟨by first | rfl | simp [h0], Below.refl _ _⟩
  · have h0 := zerB_true.1 h
    rw [h0]
    clear h h0
    go_enter Try.func94, Try.ntmps94
    go_wp2_with fail
    go_ret
    exact ⟨rfl, Below.refl _ _⟩
set_option maxHeartbeats 3200000 in
set_option maxRecDepth 100000 in
theorem indexZ_any (l : List UInt8) (B : Option Addr) (n d : Nat) (w : World) (hn : l.length = n) (h : Rd w B (bvs l)) (hnn : n ≤ 140737488351300) :
    Calls Try.prog 109 #[.slice B n d, .func (.func 94) #[] #[]] w fun e w' => ∃ k : Int, e = .returned (.int .i64 k) ∧ decide (0 ≤ k) = !(l.all zerB) ∧ Below w.heap.size w w' := by
  have HN := Lib.hid hn
  have HRd := Lib.hid h
  clear hn h
  go_enter Try.func109, Try.ntmps109
  go_wp2_with fail
  go_loopw [8] (fun iv wr => ∃ i : Nat, i ≤ n ∧ iv = .int .i64 (i : Int) ∧ Below w.heap.size w wr ∧ Hid (∀ (a : Nat) (y : UInt8), a < i → l[a]? = some y → zerB y = true)) (fun iv _ => n - (intOf iv).toNat)
  case atStart => exact ⟨0, Nat.zero_le _, rfl, Below.refl _ _, Lib.hid (fun a y h => by omega)⟩
  case round =>
    obtain ⟨i, hi, rfl, hB, HF⟩ := hrel
    by_cases h5 : i < n
    · have h5i : (i : Int) < (n : Int) := by omega
      have hip : (0 : Int) ≤ (i : Int) := by omega
      have hiL : i < l.length := by rw [HN.out]; exact h5
      have hx := List.getElem?_eq_getElem hiL
      obtain ⟨x, hxx⟩ : ∃ x, l[i] = x := ⟨_, rfl⟩
      rw [hxx] at hx
      clear hxx hiL
      obtain ⟨g, o, rfl, y0⟩ := (HRd.out.below hB) i (bv x) (by unfold bvs; rw [List.getElem?_map, hx]; rfl)
      have y0' : wr.cell? ⟨g, o + i, none⟩ = some (.int .u8 (x.toNat : Int)) := y0
      clear y0
      have HX := Lib.hid hx
      clear hx
      have CF := Lib.hid (fun V => nonz_any x V)
      cases hk : zerB x
      · have hall : l.all zerB = false := by
          rw [List.all_eq_false]
          exact ⟨x, List.mem_of_getElem? HX.out, by rw [hk]; simp⟩
        have HA := Lib.hid hall
        simp only [hk, Bool.not_false] at CF
        clear hk hall HF
        go_wp2_with (go_at_call 94; refine (CF.out _).mono ?_; rintro e w1 ⟨rfl, hb1⟩)
        go_ret
        exact ⟨(i : Int), rfl, by rw [HA.out, decide_eq_true hip]; rfl, hB.trans (hb1.mono hB.size)⟩
      · have HF2 : Hid (∀ (a : Nat) (y : UInt8), a < i + 1 → l[a]? = some y → zerB y = true) := Lib.hid (fun a y ha hay => by
          rcases Nat.lt_or_ge a i with h | h
          · exact HF.out a y h hay
          · obtain rfl : a = i := by omega
            rw [HX.out] at hay
            injection hay with hay
            rw [← hay]
            exact hk)
        simp only [hk, Bool.not_true] at CF
        clear hk HF
        go_wp2_with (go_at_call 94; refine (CF.out _).mono ?_; rintro e w1 ⟨rfl, hb1⟩)
        go_roundw
        case rel => exact ⟨i + 1, by omega, by go_num, hB.trans (hb1.mono hB.size), HF2⟩
        case measure => simp [intOf]; omega
    · obtain rfl : i = n := by omega
      have h5i : ¬ (i : Int) < (i : Int) := by omega
      have hall : l.all zerB = true := by
        rw [List.all_eq_true]
        intro y hy
        obtain ⟨j, hj, rfl⟩ := List.getElem_of_mem hy
        exact HF.out j _ (by rw [← HN.out]; exact hj) (List.getElem?_eq_getElem hj)
      have HA := Lib.hid hall
      clear hall HF
      go_wp2_with fail
      go_ret
      exact ⟨-1, rfl, by rw [HA.out]; rfl, hB⟩
theorem containsZ_any (l : List UInt8) (B : Option Addr) (n d : Nat) (w : World) (hn : l.length = n) (h : Rd w B (bvs l)) (hnn : n ≤ 140737488351300) :
    Calls Try.prog 93 #[.slice B n d, .func (.func 94) #[] #[]] w fun e w' => e = .returned (.bool (!(l.all zerB))) ∧ Below w.heap.size w w' := by
  have CI := Lib.hid (indexZ_any l B n d w hn h hnn)
  go_enter Try.func93, Try.ntmps93
  go_wp2_with fail
  refine CI.out.mono ?_
  rintro e w1 ⟨k, rfl, hk, hb⟩
  have HK := Lib.hid hk
  clear hk
  by_cases h0 : 0 ≤ k
  · go_wp2_with fail
    go_ret
    exact ⟨by rw [← HK.out]; first | rfl | (rw [decide_eq_true h0]; rfl), hb⟩
  · go_wp2_with fail
    go_ret
    exact ⟨by rw [← HK.out]; first | rfl | exact ret_bool (by simp; omega), hb⟩
def reachV (l : List (Int × Int)) : Value := if srtB (-1) l then .tuple #[.int .i64 (max (endR (-1) l) 0), .bool true] else .tuple #[.int .i64 0, .bool false]
theorem reachV_no {l : List (Int × Int)} (h : srtB (-1) l = false) : reachV l = .tuple #[.int .i64 0, .bool false] := by unfold reachV; rw [h]; rfl
theorem reachV_yes {l : List (Int × Int)} (h : srtB (-1) l = true) : reachV l = .tuple #[.int .i64 (max (endR (-1) l) 0), .bool true] := by unfold reachV; rw [h]; rfl
set_option maxHeartbeats 3200000 in
set_option maxRecDepth 100000 in
theorem reach_any (l : List (Int × Int)) (B : Option Addr) (n d : Nat) (w : World) (hn : l.length = n) (h : Rd w B (gps l)) (hnn : n ≤ 8796093022200) :
    Calls Try.prog 92 #[.slice B n d] w fun e w' => e = .returned (reachV l) ∧ Below w.heap.size w w' := by
  have HN := Lib.hid hn
  have HRd := Lib.hid h
  clear hn h
  go_enter Try.func92, Try.ntmps92
  go_wp2_with fail
  go_loopw [4, 9] (fun ev iv wr => ∃ (i : Nat) (x : Int), i ≤ n ∧ iv = .int .i64 (i : Int) ∧ ev = .int .i64 x ∧ Below w.heap.size w wr ∧ Hid (srtB (-1) l = srtB x (l.drop i) ∧ endR (-1) l = endR x (l.drop i))) (fun ev iv _ => n - (intOf iv).toNat)
  case atStart => exact ⟨0, -1, Nat.zero_le _, rfl, rfl, Below.refl _ _, Lib.hid ⟨by simp, by simp⟩⟩
  case round =>
    obtain ⟨i, x, hi, rfl, rfl, hB, HF⟩ := hrel
    have hbz := hB.size
    by_cases h5 : i < n
    · have h5i : (i : Int) < (n : Int) := by omega
      have hip : (0 : Int) ≤ (i : Int) := by omega
      have hiL : i < l.length := by rw [HN.out]; exact h5
      obtain ⟨g, hg⟩ : ∃ g, l[i]? = some g := ⟨_, List.getElem?_eq_getElem hiL⟩
      have hd : l.drop i = g :: l.drop (i + 1) := by
        rw [List.drop_eq_getElem_cons hiL]
        congr 1
        rw [List.getElem?_eq_getElem hiL] at hg
        exact Option.some.inj hg
      obtain ⟨gb, o, rfl, y0, y1⟩ := rdgap_cells (HRd.out.below hB) hg
      obtain ⟨ga, gz⟩ := g
      have HS : Hid (srtB (-1) l = (decide (x < ga ∧ ga < gz) && srtB gz (l.drop (i + 1)))) := Lib.hid (by rw [HF.out.1, hd]; rfl)
      have HE : Hid (endR (-1) l = endR gz (l.drop (i + 1))) := Lib.hid (by rw [HF.out.2, hd]; rfl)
      clear hiL hg hd HF
      dsimp only at y0 y1
      by_cases c1 : x < ga
      · have d1 : decide (ga ≤ x) = false := decide_eq_false (by omega)
        by_cases c2 : ga < gz
        · have HS2 : Hid (srtB (-1) l = srtB gz (l.drop (i + 1)) ∧ endR (-1) l = endR gz (l.drop (i + 1))) := Lib.hid ⟨by rw [HS.out, decide_eq_true ⟨c1, c2⟩, Bool.true_and], HE.out⟩
          have d2 : decide (gz ≤ ga) = false := decide_eq_false (by omega)
          clear HS HE
          go_wp2_with fail
          go_roundw
          case rel => exact ⟨i + 1, gz, by omega, by go_num, rfl, (by repeat (first | with_reducible exact Below.refl _ _ | with_reducible assumption | with_reducible refine below_drewN ?_ _ | with_reducible refine Below.drew ?_ | with_reducible refine Below.alloc ?_ ?_ _ | with_reducible refine Below.setCell ?_ ?_ _ | with_reducible exact Nat.le_refl _ | (simp; omega) | (simp; done))), HS2⟩
          case measure => simp [intOf]; omega
        · have d2 : decide (gz ≤ ga) = true := decide_eq_true (by omega)
          have HS2 : Hid (srtB (-1) l = false) := Lib.hid (by rw [HS.out, decide_eq_false (by omega), Bool.false_and])
          clear HS HE
          go_wp2_with fail
          go_ret2
          exact ⟨by rw [reachV_no HS2.out] <;> rfl, (by repeat (first | with_reducible exact Below.refl _ _ | with_reducible assumption | with_reducible refine below_drewN ?_ _ | with_reducible refine Below.drew ?_ | with_reducible refine Below.alloc ?_ ?_ _ | with_reducible refine Below.setCell ?_ ?_ _ | with_reducible exact Nat.le_refl _ | (simp; omega) | (simp; done)))⟩
      · have d1 : decide (ga ≤ x) = true := decide_eq_true (by omega)
        have HS2 : Hid (srtB (-1) l = false) := Lib.hid (by rw [HS.out, decide_eq_false (by omega), Bool.false_and])
        clear HS HE
        go_wp2_with fail
        go_ret2
        exact ⟨by rw [reachV_no HS2.out] <;> rfl, (by repeat (first | with_reducible exact Below.refl _ _ | with_reducible assumption | with_reducible refine below_drewN ?_ _ | with_reducible refine Below.drew ?_ | with_reducible refine Below.alloc ?_ ?_ _ | with_reducible refine Below.setCell ?_ ?_ _ | with_reducible exact Nat.le_refl _ | (simp; omega) | (simp; done)))⟩
    · obtain rfl : i = n := by omega
      have h5i : ¬ (i : Int) < (i : Int) := by omega
      have e : l.drop i = [] := List.drop_eq_nil_of_le (by rw [HN.out]; omega)
      have HS : Hid (srtB (-1) l = true ∧ endR (-1) l = x) := Lib.hid (by rw [HF.out.1, HF.out.2, e]; exact ⟨rfl, rfl⟩)
      clear e HF
      obtain ⟨r, hr⟩ : ∃ r, reachV l = r := ⟨_, rfl⟩
      have HR := Lib.hid hr
      by_cases h0 : x < 0
      · have HV : Hid (reachV l = .tuple #[.int .i64 0, .bool true]) := Lib.hid (by rw [reachV_yes HS.out.1, HS.out.2, show max x 0 = 0 by omega])
        have h0b : x ≤ 0 := by omega
        clear hr
        go_wp2_with fail
        go_ret2
        exact ⟨by rw [HV.out] <;> rfl, hB⟩
      · have HV : Hid (reachV l = .tuple #[.int .i64 x, .bool true]) := Lib.hid (by rw [reachV_yes HS.out.1, HS.out.2, show max x 0 = x by omega])
        have h0b : 0 ≤ x := by omega
        clear hr
        go_wp2_with fail
        go_ret2
        exact ⟨by rw [HV.out] <;> rfl, hB⟩
set_option maxHeartbeats 3200000 in
set_option maxRecDepth 100000 in
theorem all_any (l : List (Int × Int)) (B : Option Addr) (n d : Nat) (long : Int) (w : World) (hn : l.length = n) (h : Rd w B (gps l)) (hnn : n ≤ 8796093022200) :
    Calls Try.prog 95 #[.slice B n d, .int .i64 long] w fun e w' => e = .returned (.bool (allR l long)) ∧ Below w.heap.size w w' := by
  have HA : ∀ b, allR l long = b → Hid (allR l long = b) := fun b h => Lib.hid h
  by_cases c : long = 0
  · have H := HA true (by unfold allR; rw [decide_eq_true c]; rfl)
    have cb : (long == 0) = true := by rw [beq_iff_eq]; exact c
    clear HA hn h c
    go_enter Try.func95, Try.ntmps95
    go_wp2_with fail
    go_ret
    exact ⟨ret_bool H.out.symm, Below.refl _ _⟩
  have cb : (long == 0) = false := by rw [beq_eq_false_iff_ne]; exact c
  cases l with
  | nil =>
    obtain rfl : n = 0 := by simpa using hn.symm
    have H := HA false (by unfold allR; rw [decide_eq_false c]; rfl)
    clear HA hn h c
    go_enter Try.func95, Try.ntmps95
    go_wp2_with fail
    go_ret
    exact ⟨ret_bool H.out.symm, Below.refl _ _⟩
  | cons g l =>
    obtain ⟨gb, o, rfl, y0, y1⟩ := rdgap_cells h (i := 0) rfl
    have hn0 : (0 : Int) < (n : Int) := by simp at hn; omega
    have hn0n : 0 < n := by omega
    have hn0d : decide (0 < n) = true := decide_eq_true hn0n
    obtain ⟨ga, gz⟩ := g
    dsimp only at y0 y1
    simp only [Nat.zero_mul, Nat.add_zero] at y0 y1
    by_cases c1 : ga = 0
    · have c1b : (ga == 0) = true := by rw [beq_iff_eq]; exact c1
      by_cases c2 : long ≤ gz
      · have H := HA true (by unfold allR; rw [decide_eq_false c]; simp [c1, c2])
        clear HA hn h c c1
        go_enter Try.func95, Try.ntmps95
        go_wp2_with fail
        go_ret
        exact ⟨ret_bool H.out.symm, Below.refl _ _⟩
      · have H := HA false (by unfold allR; rw [decide_eq_false c]; simp [c1, c2])
        clear HA hn h c c1
        go_enter Try.func95, Try.ntmps95
        go_wp2_with fail
        go_ret
        exact ⟨ret_bool H.out.symm, Below.refl _ _⟩
    · have c1b : (ga == 0) = false := by rw [beq_eq_false_iff_ne]; exact c1
      have H := HA false (by unfold allR; rw [decide_eq_false c]; simp [c1])
      clear HA hn h c c1
      go_enter Try.func95, Try.ntmps95
      go_wp2_with fail
      go_ret
      exact ⟨ret_bool H.out.symm, Below.refl _ _⟩
end Go.Proofs.Ytianombjgdmbeaa
namespace Go.Proofs.Ytianombjgdmbeaa
set_option linter.unusedSimpArgs false
set_option linter.unusedVariables false
open Go.RowKit

theorem srt_append : ∀ (l m : List (Int × Int)) (e : Int), Srt e (l ++ m) → Srt e l ∧ Srt (endR e l) m
  | [], m, e, h => ⟨trivial, h⟩
  | g :: l, m, e, h => by
    obtain ⟨h1, h2⟩ := srt_append l m g.2 h.2.2
    exact ⟨⟨h.1, h.2.1, h1⟩, h2⟩
theorem endR_append : ∀ (l m : List (Int × Int)) (e : Int), endR e (l ++ m) = endR (endR e l) m
  | [], _, _ => rfl
  | g :: l, m, e => endR_append l m g.2
theorem inR_append (l m : List (Int × Int)) (i : Nat) : inR (l ++ m) i = (inR l i || inR m i) := by unfold inR; rw [List.any_append]
/-- Between the rows ahead and the next one there is none. -/
theorem inR_between {l r : List (Int × Int)} {g : Int × Int} {a : Nat} (h : Srt (-1) (l ++ g :: r)) (h1 : endR (-1) l ≤ (a : Int)) (h2 : (a : Int) < g.1) : inR (l ++ g :: r) a = false := by
  obtain ⟨s1, s2⟩ := srt_append _ _ _ h
  have g2 := s2.2.1
  rw [inR_append, inR_cons, s1.high a h1 (by omega), inG_false.2 (by omega), s2.2.2.low a (by omega)]
  rfl
theorem inR_at {l r : List (Int × Int)} {g : Int × Int} {a : Nat} (h1 : g.1 ≤ (a : Int)) (h2 : (a : Int) < g.2) : inR (l ++ g :: r) a = true := by
  rw [inR_append, inR_cons, inG_true.2 ⟨h1, h2⟩]
  simp
def cutB (l : List UInt8) (a b : Nat) : List UInt8 := (l.take b).drop a
theorem cutB_get {l : List UInt8} {a b k : Nat} (h : a + k < b) (hb : b ≤ l.length) : (cutB l a b)[k]? = l[a + k]? := by
  unfold cutB
  rw [List.getElem?_drop, List.getElem?_take, if_pos h]
theorem cutB_len {l : List UInt8} {a b : Nat} (hb : b ≤ l.length) : (cutB l a b).length = b - a := by
  unfold cutB
  rw [List.length_drop, List.length_take]
  omega
theorem cutB_bvs (l : List UInt8) (a b : Nat) : bvs (cutB l a b) = ((bvs l).take b).drop a := by unfold cutB; simp [bvs, List.map_drop, List.map_take]
/-- Are the bytes of a part all 0? -/
theorem cutB_zero {l : List UInt8} {a b : Nat} (hb : b ≤ l.length) : (cutB l a b).all zerB = true ↔ ∀ i, a ≤ i → i < b → bAt l i = 0 := by
  rw [List.all_eq_true]
  constructor
  · intro h i h1 h2
    have hg : (cutB l a b)[i - a]? = l[i]? := by rw [cutB_get (by omega) hb]; congr 1; omega
    have hi : i < l.length := by omega
    rw [List.getElem?_eq_getElem hi] at hg
    have := h _ (List.mem_of_getElem? hg)
    have h3 := zerB_true.1 this
    have h4 := bAt_in hi
    omega
  · intro h x hx
    obtain ⟨k, hk, rfl⟩ := List.getElem_of_mem hx
    have hk2 : k < b - a := by rw [cutB_len hb] at hk; exact hk
    have hi : a + k < l.length := by omega
    have hg := cutB_get (l := l) (a := a) (b := b) (k := k) (by omega) hb
    rw [List.getElem?_eq_getElem hk, List.getElem?_eq_getElem hi] at hg
    have e := Option.some.inj hg
    rw [e]
    have h3 := h (a + k) (by omega) (by omega)
    have h4 := bAt_in hi
    exact zerB_true.2 (by omega)
set_option maxHeartbeats 12800000 in
set_option maxRecDepth 100000 in
theorem takes_any (x : Tk) (H : Option Addr) (hn hc : Nat) (F : Option Addr) (fn fc : Nat) (w : World) (hh : x.have_.length = hn) (hf : x.file.length = fn) (hH : Rd w H (gps x.have_)) (hF : Rd w F (bvs x.file)) (hhn : hn ≤ 8796093022200) (hfn : fn ≤ 140737488351232) (hfc : fn ≤ fc) :
    Calls Try.prog 51 #[tkv x H hn hc F fn fc] w fun e w' => e = .returned (.bool (tkOk x)) ∧ Below w.heap.size w w' := by
  obtain ⟨r, hr⟩ : ∃ r, tkOk x = r := ⟨_, rfl⟩
  rw [hr]
  have HR := Lib.hid hr
  have EE := Lib.hid (fun (h : expB x = false) => (HR.out.symm.trans (tk_exp h) : r = false))
  have ET := Lib.hid (fun (h : tickB x = false) => (HR.out.symm.trans (tk_tick h) : r = false))
  have ES := Lib.hid (fun (h : stageB x = false) => (HR.out.symm.trans (tk_stage h) : r = false))
  have EZ := Lib.hid (fun (h : sizesB x = false) => (HR.out.symm.trans (tk_sizes h) : r = false))
  have EK := Lib.hid (fun (h : knowB x = false) => (HR.out.symm.trans (tk_know h) : r = false))
  have ER := Lib.hid (fun (h : rowsB x = false) => (HR.out.symm.trans (tk_rows h) : r = false))
  have E0 := Lib.hid (fun (h : zeroB x = false) => (HR.out.symm.trans (tk_zero h) : r = false))
  have EO := Lib.hid (fun (h : overB x = false) => (HR.out.symm.trans (tk_over h) : r = false))
  have EA := Lib.hid (fun h1 h2 h3 h4 h5 h6 h7 h8 => (HR.out.symm.trans (tk_all (x := x) h1 h2 h3 h4 h5 h6 h7 h8) : r = true))
  have HF := Lib.hid hF
  have HH := Lib.hid hH
  have HFL := Lib.hid hf
  have HHL := Lib.hid hh
  clear hr HR hf hh hF hH
  obtain ⟨id, known, name, size, ended, last, sum, have_, file, stage, timer, patience, tries, limit⟩ := x
  unfold tkv tkc
  dsimp only at HF HH HFL HHL ⊢
  have CE := Lib.hid (fun (V : World) => expect_is id patience limit V)
  have b1 := Blk.new w 44 #[.int .i64 id, .bool known, .string name, .int .i64 size, .bool ended, .int .i64 last, .int .i64 sum, .slice H hn hc, .slice F fn fc, .int .i64 stage, .int .i64 timer, .int .i64 patience, .int .i64 tries, .int .i64 limit]
  have hB : Below w.heap.size w (w.alloc (.cells #[.int .i64 id, .bool known, .string name, .int .i64 size, .bool ended, .int .i64 last, .int .i64 sum, .slice H hn hc, .slice F fn fc, .int .i64 stage, .int .i64 timer, .int .i64 patience, .int .i64 tries, .int .i64 limit] 44)) := (Below.refl _ _).alloc (Nat.le_refl _) _
  go_enter Try.func51, Try.ntmps51
  go_upto_region 1 with fail
  generalize w.alloc (.cells #[.int .i64 id, .bool known, .string name, .int .i64 size, .bool ended, .int .i64 last, .int .i64 sum, .slice H hn hc, .slice F fn fc, .int .i64 stage, .int .i64 timer, .int .i64 patience, .int .i64 tries, .int .i64 limit] 44) = W0 at *
  have x0 := b1.cell' (i := 0) rfl
  have x11 := b1.cell' (i := 11) rfl
  have x13 := b1.cell' (i := 13) rfl
  go_wp2_with fail
  refine (CE.out _).mono ?_
  intro e w1 hq
  obtain ⟨⟨y0, y1, y2, y3, y4, y5, y6, y7, y8, y9, y10, y11, y12, y13⟩, k, rfl, hk, hb⟩ := hq
  unfold tkv tkc
  dsimp only
  replace b1 := b1.step hb
  replace hB := hB.trans (hb.mono hB.size)
  clear hb CE x0 x11 x13
  go_upto_region 2 with fail
  replace b1 := b1.alloc (.cells #[.int .i64 y0, .bool y1, .string y2, .int .i64 y3, .bool y4, .int .i64 y5, .int .i64 y6, .slice none 0 0, .slice none 0 0, .int .i64 y9, .int .i64 y10, .int .i64 y11, .int .i64 y12, .int .i64 y13] 44)
  replace hB := hB.alloc hB.size (.cells #[.int .i64 y0, .bool y1, .string y2, .int .i64 y3, .bool y4, .int .i64 y5, .int .i64 y6, .slice none 0 0, .slice none 0 0, .int .i64 y9, .int .i64 y10, .int .i64 y11, .int .i64 y12, .int .i64 y13] 44)
  generalize w1.alloc (.cells #[.int .i64 y0, .bool y1, .string y2, .int .i64 y3, .bool y4, .int .i64 y5, .int .i64 y6, .slice none 0 0, .slice none 0 0, .int .i64 y9, .int .i64 y10, .int .i64 y11, .int .i64 y12, .int .i64 y13] 44) = W at *
  have x1 := b1.cell' (i := 1) rfl
  have x2 := b1.cell' (i := 2) rfl
  have x3 := b1.cell' (i := 3) rfl
  have x4 := b1.cell' (i := 4) rfl
  have x5 := b1.cell' (i := 5) rfl
  have x6 := b1.cell' (i := 6) rfl
  have x10 := b1.cell' (i := 10) rfl
  have x11 := b1.cell' (i := 11) rfl
  have x12 := b1.cell' (i := 12) rfl
  have x13 := b1.cell' (i := 13) rfl
  cases hO : (rngOk id 0 65535 && rngOk patience 1 1000 && rngOk limit 1 100)
  · rw [hO] at hk
    have hk0 : ¬ k = 0 := of_decide_eq_false hk
    have ik : (k == 0) = false := by rw [beq_eq_false_iff_ne]; exact hk0
    have ik2 : (k != 0) = true := by rw [bne, ik]; rfl
    have HE := Lib.hid (EE.out hO)
    clear hk hk0 hO
    go_wp2_with fail
    refine bodyPost_ret (v := .bool false) (by simp [results, Try.results51, go_sem]) rfl ?_
    exact ⟨by first | rfl | exact ret_bool HE.out.symm, hB⟩
  rw [hO] at hk
  obtain rfl : k = 0 := of_decide_eq_true hk
  have HX : Hid (expB (⟨id, known, name, size, ended, last, sum, have_, file, stage, timer, patience, tries, limit⟩ : Tk) = true) := Lib.hid hO
  have hpl : 1 ≤ patience ∧ patience ≤ 1000 ∧ 1 ≤ limit ∧ limit ≤ 100 := by
    simp only [Bool.and_eq_true, rngB_iff] at hO
    omega
  obtain ⟨hp1, hp2, hl1, hl2⟩ := hpl
  clear hk hO EE
  trace "A"
  go_wp2_with fail
  cases h0 : rngOk timer 0 (patience - 1)
  · have h1 := Lib.hid h0
    have HE := Lib.hid (ET.out (by unfold tickB; dsimp only; rw [h1.out]; rfl) : r = false)
    clear h0
    refine (din_is timer 0 (patience - 1) false _ h1).mono ?_
    rintro e _ ⟨rfl, rfl⟩
    go_wp2_with fail
    refine bodyPost_ret (v := .bool false) (by simp [results, Try.results51, go_sem]) rfl ?_
    exact ⟨by first | rfl | exact ret_bool HE.out.symm, hB⟩
  have Htimer := Lib.hid h0
  clear h0
  refine (din_is timer 0 (patience - 1) true _ Htimer).mono ?_
  rintro e _ ⟨rfl, rfl⟩
  go_wp2_with fail
  trace "B"
  cases h0 : rngOk tries 0 limit
  · have h1 := Lib.hid h0
    have HE := Lib.hid (ET.out (by unfold tickB; dsimp only; rw [h1.out]; simp) : r = false)
    clear h0
    refine (din_is tries 0 limit false _ h1).mono ?_
    rintro e _ ⟨rfl, rfl⟩
    go_wp2_with fail
    refine bodyPost_ret (v := .bool false) (by simp [results, Try.results51, go_sem]) rfl ?_
    exact ⟨by first | rfl | exact ret_bool HE.out.symm, hB⟩
  have Htries := Lib.hid h0
  clear h0
  refine (din_is tries 0 limit true _ Htries).mono ?_
  rintro e _ ⟨rfl, rfl⟩
  go_wp2_with fail
  trace "C"
  have HTI : Hid (tickB (⟨id, known, name, size, ended, last, sum, have_, file, stage, timer, patience, tries, limit⟩ : Tk) = true) := Lib.hid (by unfold tickB; dsimp only; rw [Htimer.out, Htries.out]; rfl)
  clear ET Htimer Htries
  cases h0 : rngOk size 0 65536
  · have h1 := Lib.hid h0
    have HE := Lib.hid (EZ.out (sizes_size h1.out) : r = false)
    clear h0
    refine (din_is size 0 65536 false _ h1).mono ?_
    rintro e _ ⟨rfl, rfl⟩
    go_wp2_with fail
    refine bodyPost_ret (v := .bool false) (by simp [results, Try.results51, go_sem]) rfl ?_
    exact ⟨by first | rfl | exact ret_bool HE.out.symm, hB⟩
  have Hsize := Lib.hid h0
  clear h0
  refine (din_is size 0 65536 true _ Hsize).mono ?_
  rintro e _ ⟨rfl, rfl⟩
  go_wp2_with fail
  cases h0 : rngOk last 0 65536
  · have h1 := Lib.hid h0
    have HE := Lib.hid (EZ.out (sizes_last h1.out) : r = false)
    clear h0
    refine (din_is last 0 65536 false _ h1).mono ?_
    rintro e _ ⟨rfl, rfl⟩
    go_wp2_with fail
    refine bodyPost_ret (v := .bool false) (by simp [results, Try.results51, go_sem]) rfl ?_
    exact ⟨by first | rfl | exact ret_bool HE.out.symm, hB⟩
  have Hlast := Lib.hid h0
  clear h0
  refine (din_is last 0 65536 true _ Hlast).mono ?_
  rintro e _ ⟨rfl, rfl⟩
  go_wp2_with fail
  cases h0 : rngOk sum 0 4294967295
  · have h1 := Lib.hid h0
    have HE := Lib.hid (EZ.out (sizes_sum h1.out) : r = false)
    clear h0
    refine (din_is sum 0 4294967295 false _ h1).mono ?_
    rintro e _ ⟨rfl, rfl⟩
    go_wp2_with fail
    refine bodyPost_ret (v := .bool false) (by simp [results, Try.results51, go_sem]) rfl ?_
    exact ⟨by first | rfl | exact ret_bool HE.out.symm, hB⟩
  have Hsum := Lib.hid h0
  clear h0
  refine (din_is sum 0 4294967295 true _ Hsum).mono ?_
  rintro e _ ⟨rfl, rfl⟩
  have HZ := Lib.hid (fun (h : name.size ≤ 32) => sizes_all (x := (⟨id, known, name, size, ended, last, sum, have_, file, stage, timer, patience, tries, limit⟩ : Tk)) h Hsize.out Hlast.out Hsum.out)
  obtain ⟨hs1, hs2⟩ := rngB_iff.1 Hsize.out
  obtain ⟨ha1, ha2⟩ := rngB_iff.1 Hlast.out
  obtain ⟨hu1, hu2⟩ := rngB_iff.1 Hsum.out
  clear Hsize Hlast Hsum
  obtain ⟨ln, hln⟩ : ∃ ln : Int, (name.size : Int) = ln := ⟨_, rfl⟩
  have hln0 : 0 ≤ ln := by omega
  by_cases hn2 : ln ≤ 32
  rotate_left
  · have d1 : decide (32 < ln) = true := decide_eq_true (by omega)
    have HE := Lib.hid (EZ.out (sizes_name (by show ¬ name.size ≤ 32; omega)))
    go_wp2_with fail
    refine bodyPost_ret (v := .bool false) (by simp [results, Try.results51, go_sem]) rfl ?_
    exact ⟨by first | rfl | exact ret_bool HE.out.symm, hB⟩
  have d1 : decide (32 < ln) = false := decide_eq_false (by omega)
  have HZ2 := Lib.hid (HZ.out (by omega))
  clear HZ EZ
  trace "D"
  go_upto_region 6 with fail
  trace "E"
  obtain ⟨bd, hbd⟩ : ∃ bd, decide (¬ (known = decide (0 < ln) ∧ (known = true ∨ size = 0) ∧ (ended = true ∨ (last = 0 ∧ sum = 0)))) = bd := ⟨_, rfl⟩
  have HBD := Lib.hid hbd
  clear hbd
  go_cut [89] (fun s wx => s = .bool bd ∧ W = wx)
  case first =>
    as_aux_lemma =>
      clear EA EO E0 ER EK HX HTI HZ2
      by_cases hn3 : 0 < ln
      ·
        obtain ⟨t1, t2, t3⟩ := txt_some (s := name) (by omega)
        cases known
        ·
          have q1 : Hid (bd = true) := Lib.hid (by rw [← HBD.out]; exact decide_eq_true (fun h => by have := h.1; rw [decide_eq_true hn3] at this; cases this))
          go_wp2_with fail
          go_meet
          exact ⟨by rw [q1.out] <;> rfl, rfl⟩
        ·
          have HKB : Hid (decide (0 < ln) = true) := Lib.hid (decide_eq_true hn3)
          have HKS : Hid (true = true ∨ size = 0) := Lib.hid (.inl rfl)
          cases ended
          ·
            by_cases hls : 0 < last + sum
            ·
              have d3 : decide (0 < last + sum) = true := decide_eq_true hls
              have d4 : decide (0 < IntKind.i64.wrap (last + sum)) = true := by rw [IntKind.wrap_i64]; exact decide_eq_true (by omega)
              have q1 : Hid (bd = true) := Lib.hid (by rw [← HBD.out]; exact decide_eq_true (fun h => by rcases h.2.2 with h | h; cases h; omega))
              go_wp2_with fail
              go_meet
              exact ⟨by rw [q1.out] <;> rfl, rfl⟩
            ·
              have d3 : decide (0 < last + sum) = false := decide_eq_false hls
              have d4 : decide (0 < IntKind.i64.wrap (last + sum)) = false := by rw [IntKind.wrap_i64]; exact decide_eq_false (by omega)
              have q1 : Hid (bd = false) := Lib.hid (by rw [← HBD.out]; exact decide_eq_false (fun h => h ⟨by rw [HKB.out] <;> rfl, HKS.out, .inr ⟨by omega, by omega⟩⟩))
              go_wp2_with fail
              go_meet
              exact ⟨by rw [q1.out] <;> rfl, rfl⟩
          ·
            have q1 : Hid (bd = false) := Lib.hid (by rw [← HBD.out]; exact decide_eq_false (fun h => h ⟨by rw [HKB.out] <;> rfl, HKS.out, .inl rfl⟩))
            go_wp2_with fail
            go_meet
            exact ⟨by rw [q1.out] <;> rfl, rfl⟩
      ·
        obtain ⟨t1, t2, t3⟩ := txt_none (s := name) (by omega)
        cases known
        ·
          have HKB : Hid (decide (0 < ln) = false) := Lib.hid (decide_eq_false hn3)
          by_cases hsz : 0 < size
          ·
            have d2 : decide (0 < size) = true := decide_eq_true hsz
            have q1 : Hid (bd = true) := Lib.hid (by rw [← HBD.out]; exact decide_eq_true (fun h => by rcases h.2.1 with h | h; cases h; omega))
            go_wp2_with fail
            go_meet
            exact ⟨by rw [q1.out] <;> rfl, rfl⟩
          ·
            have d2 : decide (0 < size) = false := decide_eq_false hsz
            have HKS : Hid (false = true ∨ size = 0) := Lib.hid (.inr (by omega))
            cases ended
            ·
              by_cases hls : 0 < last + sum
              ·
                have d3 : decide (0 < last + sum) = true := decide_eq_true hls
                have d4 : decide (0 < IntKind.i64.wrap (last + sum)) = true := by rw [IntKind.wrap_i64]; exact decide_eq_true (by omega)
                have q1 : Hid (bd = true) := Lib.hid (by rw [← HBD.out]; exact decide_eq_true (fun h => by rcases h.2.2 with h | h; cases h; omega))
                go_wp2_with fail
                go_meet
                exact ⟨by rw [q1.out] <;> rfl, rfl⟩
              ·
                have d3 : decide (0 < last + sum) = false := decide_eq_false hls
                have d4 : decide (0 < IntKind.i64.wrap (last + sum)) = false := by rw [IntKind.wrap_i64]; exact decide_eq_false (by omega)
                have q1 : Hid (bd = false) := Lib.hid (by rw [← HBD.out]; exact decide_eq_false (fun h => h ⟨by rw [HKB.out] <;> rfl, HKS.out, .inr ⟨by omega, by omega⟩⟩))
                go_wp2_with fail
                go_meet
                exact ⟨by rw [q1.out] <;> rfl, rfl⟩
            ·
              have q1 : Hid (bd = false) := Lib.hid (by rw [← HBD.out]; exact decide_eq_false (fun h => h ⟨by rw [HKB.out] <;> rfl, HKS.out, .inl rfl⟩))
              go_wp2_with fail
              go_meet
              exact ⟨by rw [q1.out] <;> rfl, rfl⟩
        ·
          have q1 : Hid (bd = true) := Lib.hid (by rw [← HBD.out]; exact decide_eq_true (fun h => by have := h.1; rw [decide_eq_false hn3] at this; cases this))
          go_wp2_with fail
          go_meet
          exact ⟨by rw [q1.out] <;> rfl, rfl⟩
  case rest =>
    obtain ⟨rfl, hW⟩ := hcut
    subst hW
    cases bd
    rotate_left
    · have hno : r = false := EK.out (by
        have hb := of_decide_eq_true HBD.out
        by_cases h3 : known = decide (0 < ln)
        · by_cases h4 : known = true ∨ size = 0
          · by_cases h5 : ended = true ∨ (last = 0 ∧ sum = 0)
            · exact absurd ⟨h3, h4, h5⟩ hb
            · exact know_end (by show ended = false; simp only [Bool.not_eq_true, not_or] at h5; exact h5.1) (fun h => h5 (.inr h))
          · exact know_size (by show known = false; simp only [Bool.not_eq_true, not_or] at h4; exact h4.1) (fun h => h4 (.inr h))
        · exact know_name (by
            show known ≠ decide (0 < name.size)
            intro e
            exact h3 (e.trans (decide_eq_decide.2 (by omega)))))
      have HE := Lib.hid hno
      clear EA EO E0 ER EK hno
      go_wp2_with fail
      refine bodyPost_ret (v := .bool false) (by simp [results, Try.results51, go_sem]) rfl ?_
      exact ⟨by first | rfl | exact ret_bool HE.out.symm, hB⟩
    obtain ⟨h3, h4, h5⟩ := Classical.not_not.1 (of_decide_eq_false HBD.out)
    have HK := Lib.hid (know_all (x := (⟨id, known, name, size, ended, last, sum, have_, file, stage, timer, patience, tries, limit⟩ : Tk)) (h3.trans (decide_eq_decide.2 (by show 0 < ln ↔ 0 < name.size; omega))) h4 h5)
    clear h3 h4 h5 HBD EK
    clear x1 x2 x3 x4 x5 x6 x10 x11 x12 x13
    have x7 := b1.cell' (i := 7) rfl
    trace "F"
    go_wp2_with fail
    refine (reach_any have_ H hn hc W HHL.out (HH.out.below hB) hhn).mono ?_
    rintro e w2 ⟨rfl, hb2⟩
    replace b1 := b1.step hb2
    replace hB := hB.trans (hb2.mono hB.size)
    clear hb2 x7
    cases hs0 : srtB (-1) have_
    · have HE := Lib.hid (ER.out (by unfold rowsB; dsimp only; rw [hs0]; rfl))
      rw [reachV_no hs0]
      clear EA EO E0 ER hs0
      go_wp2_with fail
      refine bodyPost_ret (v := .bool false) (by simp [results, Try.results51, go_sem]) rfl ?_
      exact ⟨by first | rfl | exact ret_bool HE.out.symm, hB⟩
    rw [reachV_yes hs0]
    have HS := Lib.hid hs0
    have HSR := Lib.hid ((srtB_iff _ _).1 hs0)
    obtain ⟨m, hm⟩ : ∃ m : Nat, max (endR (-1) have_) 0 = (m : Int) := ⟨(max (endR (-1) have_) 0).toNat, by omega⟩
    have HEF : Hid (endF (⟨id, known, name, size, ended, last, sum, have_, file, stage, timer, patience, tries, limit⟩ : Tk) = (m : Int)) := Lib.hid hm
    rw [hm]
    have HM := Lib.hid hm
    clear hm hs0
    have x8 := b1.cell' (i := 8) rfl
    by_cases c2 : m ≤ 65536
    rotate_left
    · have d1 : decide ((65536 : Int) < (m : Int)) = true := decide_eq_true (by omega)
      have hno : r = false := ER.out (by
        unfold rowsB
        rw [HEF.out]
        dsimp only
        rw [decide_eq_false (by omega), Bool.and_false])
      have HE := Lib.hid hno
      clear EA EO E0 ER HX HTI HZ2 HK c2 hno
      go_wp2_with fail
      refine bodyPost_ret (v := .bool false) (by simp [results, Try.results51, go_sem]) rfl ?_
      exact ⟨by first | rfl | exact ret_bool HE.out.symm, hB⟩
    have d1 : decide ((65536 : Int) < (m : Int)) = false := decide_eq_false (by omega)
    by_cases c1 : fn = m
    rotate_left
    · have d2 : ((fn : Int) == (m : Int)) = false := by rw [beq_eq_false_iff_ne]; omega
      have d3 : ((fn : Int) != (m : Int)) = true := by rw [bne, d2]; rfl
      have hno : r = false := ER.out (by
        unfold rowsB
        rw [HEF.out]
        dsimp only
        rw [HFL.out, decide_eq_false (by omega), Bool.and_false])
      have HE := Lib.hid hno
      clear EA EO E0 ER HX HTI HZ2 HK c1 hno
      go_wp2_with fail
      refine bodyPost_ret (v := .bool false) (by simp [results, Try.results51, go_sem]) rfl ?_
      exact ⟨by first | rfl | exact ret_bool HE.out.symm, hB⟩
    obtain rfl : fn = m := c1
    have HRW : Hid (rowsB (⟨id, known, name, size, ended, last, sum, have_, file, stage, timer, patience, tries, limit⟩ : Tk) = true) := Lib.hid (by
      unfold rowsB
      rw [HEF.out]
      dsimp only
      rw [HS.out, HFL.out, decide_eq_true (by omega)]
      rfl)
    have x7 := b1.cell' (i := 7) rfl
    clear ER HEF HS
    go_upto_region 13 with fail
    trace "G"
    clear x7 x8 d1
    go_loopw [7, 112] (fun av iv wr => ∃ (i a : Nat), i ≤ hn ∧ av = .int .i64 (a : Int) ∧ iv = .int .i64 (i : Int) ∧ Hid ((a : Int) = max (endR (-1) (have_.take i)) 0) ∧ Blk wr w.heap.size 44 #[.int .i64 id, .bool known, .string name, .int .i64 size, .bool ended, .int .i64 last, .int .i64 sum, .slice H hn hc, .slice F fn fc, .int .i64 stage, .int .i64 timer, .int .i64 patience, .int .i64 tries, .int .i64 limit] ∧ Below w.heap.size w wr ∧ Hid (∀ b, b < a → inR have_ b = true ∨ bAt file b = 0)) (fun av iv _ => hn - (intOf iv).toNat)
    case atStart => exact ⟨0, 0, Nat.zero_le _, rfl, rfl, Lib.hid (by rw [List.take_zero]; decide), b1, hB, Lib.hid (fun b h => by omega)⟩
    case round =>
      clear b1 hB
      obtain ⟨i, a, hi, rfl, rfl, HAT, b1, hB, HZR⟩ := hrel
      trace "H"
      by_cases h5 : i < hn
      ·
        have h5i : (i : Int) < (hn : Int) := by omega
        have hip : (0 : Int) ≤ (i : Int) := by omega
        have hiL : i < have_.length := by rw [HHL.out]; exact h5
        obtain ⟨g, hg⟩ : ∃ g, have_[i]? = some g := ⟨_, List.getElem?_eq_getElem hiL⟩
        have hd : have_ = have_.take i ++ g :: have_.drop (i + 1) := by
          have h1 := (List.take_append_drop i have_).symm
          rw [List.drop_eq_getElem_cons hiL] at h1
          rw [List.getElem?_eq_getElem hiL] at hg
          rw [← Option.some.inj hg]
          exact h1
        obtain ⟨gb, o, rfl, y0, y1⟩ := rdgap_cells (HH.out.below hB) hg
        have HTK : Hid (have_.take (i + 1) = have_.take i ++ [g]) := Lib.hid (by rw [List.take_add_one, hg]; rfl)
        obtain ⟨ga, gz⟩ := g
        have hsr := HSR.out
        rw [hd] at hsr
        obtain ⟨s1, s2⟩ := srt_append _ _ _ hsr
        have e1 := s1.end_
        obtain ⟨e2, e3, e4⟩ := s2
        have e5 := e4.end_
        dsimp only at e2 e3 e5 y0 y1
        have e6 : endR gz (have_.drop (i + 1)) = endR (-1) have_ := by
          have := endR_append (have_.take i) ((ga, gz) :: have_.drop (i + 1)) (-1)
          rw [← hd] at this
          exact this.symm
        have hmx := HM.out
        have hat := HAT.out
        rw [e6] at e5
        have ha1 : (a : Int) ≤ ga := by omega
        have hgz : gz ≤ (fn : Int) := by omega
        have HBT : Hid (∀ b : Nat, a ≤ b → (b : Int) < ga → inR have_ b = false) := Lib.hid (fun b h1 h2 => by rw [hd]; exact inR_between (by rw [← hd]; exact HSR.out) (by omega) h2)
        have HIN : Hid (∀ b : Nat, ga ≤ (b : Int) → (b : Int) < gz → inR have_ b = true) := Lib.hid (fun b h1 h2 => by rw [hd]; exact inR_at h1 h2)
        have HAT2 : Hid (gz = max (endR (-1) (have_.take (i + 1))) 0) := Lib.hid (by rw [HTK.out, endR_snoc]; show gz = max gz 0; omega)
        clear hiL hg hd hsr s1 e1 e2 e4 e5 e6 hmx hat HAT HTK
        obtain ⟨an, rfl⟩ : ∃ an : Nat, ga = (an : Int) := ⟨ga.toNat, by omega⟩
        obtain ⟨zn, rfl⟩ : ∃ zn : Nat, gz = (zn : Int) := ⟨gz.toNat, by omega⟩
        have k1 : a ≤ an := by omega
        have k2 : an < zn := by omega
        have k3 : zn ≤ fn := by omega
        have k4 : (0 : Int) ≤ (a : Int) := by omega
        have k5 : (an : Int) ≤ (fc : Int) := by omega
        have k6 : ¬ fc = a := by omega
        obtain ⟨fb, fo, rfl, -⟩ := (HF.out.below hB).byte (k := 0) (by rw [HFL.out]; omega)
        have b2 := b1.alloc (.cells #[.int .i64 (an : Int), .int .i64 (zn : Int)] 66)
        have hB2 := hB.alloc hB.size (.cells #[.int .i64 (an : Int), .int .i64 (zn : Int)] 66)
        have hRc : Rd (wr.alloc (.cells #[.int .i64 (an : Int), .int .i64 (zn : Int)] 66)) (some ⟨fb, fo + a, none⟩) (bvs (cutB file a an)) := by
          rw [cutB_bvs]
          exact ((HF.out.below hB2).take an).drop_lit a
        have CZ := Lib.hid (containsZ_any (cutB file a an) (some ⟨fb, fo + a, none⟩) (an - a) (fc - a) _ (cutB_len (by rw [HFL.out]; omega)) hRc (by omega))
        clear hRc
        have x8 := b2.cell' (i := 8) rfl
        have HBX : Hid ((wr.alloc (.cells #[.int .i64 (an : Int), .int .i64 (zn : Int)] 66)).cell? ⟨wr.heap.size, 1, none⟩ = some (.int .i64 (zn : Int))) := Lib.hid ((Blk.new wr 66 #[.int .i64 (an : Int), .int .i64 (zn : Int)]).cell' (i := 1) rfl)
        have bx0 := (Blk.new wr 66 #[.int .i64 (an : Int), .int .i64 (zn : Int)]).cell' (i := 0) rfl
        go_upto_region 15 with fail
        trace "I"
        generalize wr.alloc (.cells #[.int .i64 (an : Int), .int .i64 (zn : Int)] 66) = V at *
        clear b1 hB
        have b1 := b2
        have hB := hB2
        clear b2 hB2
        go_wp2_with fail
        cases hc0 : (cutB file a an).all zerB
        · simp only [hc0, Bool.not_false] at CZ
          have hno : r = false := E0.out (by
            obtain ⟨z, hz1, hz2, hz3⟩ : ∃ z, a ≤ z ∧ z < an ∧ bAt file z ≠ 0 := by
              refine Classical.byContradiction fun hh => ?_
              have := (cutB_zero (l := file) (a := a) (b := an) (by rw [HFL.out]; omega)).2 (fun z h1 h2 => Classical.byContradiction fun h3 => hh ⟨z, h1, h2, h3⟩)
              rw [hc0] at this
              cases this
            exact zero_no (i := z) (by show z < file.length; rw [HFL.out]; omega) (HBT.out z hz1 (by omega)) hz3)
          have HE := Lib.hid hno
          clear EA EO E0 HX HTI HZ2 HK hno hc0
          refine CZ.out.mono ?_
          rintro e w3 ⟨rfl, hb3⟩
          replace hB := hB.trans (hb3.mono hB.size)
          go_wp2_with fail
          refine bodyPost_ret (v := .bool false) (by simp [results, Try.results51, go_sem]) rfl ?_
          exact ⟨by first | rfl | exact ret_bool HE.out.symm, hB⟩
        · simp only [hc0, Bool.not_true] at CZ
          have HZR2 : Hid (∀ b, b < zn → inR have_ b = true ∨ bAt file b = 0) := Lib.hid (fun b hb => by
            rcases Nat.lt_or_ge b a with h | h
            · exact HZR.out b h
            · rcases Nat.lt_or_ge b an with h2 | h2
              · exact .inr ((cutB_zero (l := file) (a := a) (b := an) (by rw [HFL.out]; omega)).1 hc0 b h h2)
              · exact .inl (HIN.out b (by omega) (by omega)))
          clear hc0 HZR
          refine CZ.out.mono ?_
          rintro e w3 ⟨rfl, hb3⟩
          have bx : V.cell? ⟨wr.heap.size, 1, none⟩ = some (.int .i64 (zn : Int)) := HBX.out
          have bx3 : w3.cell? ⟨wr.heap.size, 1, none⟩ = some (.int .i64 (zn : Int)) := (World.cell?_of_block (w := V) (a := ⟨wr.heap.size, 1, none⟩) (hb3.block _ (World.block_lt_of_cell? _ _ bx))).trans bx
          replace b1 := b1.step hb3
          replace hB := hB.trans (hb3.mono hB.size)
          clear hb3 bx CZ x8
          trace "J"
          go_wp2_with fail
          go_roundw
          case rel => exact ⟨i + 1, zn, by omega, rfl, by go_num, HAT2, b1, hB, HZR2⟩
          case measure => simp [intOf]; omega
      ·
        obtain rfl : i = hn := by omega
        have h5i : ¬ (i : Int) < (i : Int) := by omega
        have HZE : Hid (zeroB (⟨id, known, name, size, ended, last, sum, have_, file, stage, timer, patience, tries, limit⟩ : Tk) = true) := Lib.hid (zero_yes (fun b hb => HZR.out b (by
          have h1 := HAT.out
          rw [List.take_of_length_le (by rw [HHL.out]; omega), HM.out] at h1
          have h2 : b < file.length := hb
          rw [HFL.out] at h2
          omega)))
        clear HZR HAT HM
        have x9 := b1.cell' (i := 9) rfl
        trace "K"
        by_cases s0 : stage = 0
        · have HE := Lib.hid (EA.out HX.out HTI.out (decide_eq_true (.inl s0)) HZ2.out HK.out HRW.out HZE.out (over_yes (.inl (by show stage ≠ 3; omega))))
          subst s0
          go_wp2_with fail
          refine bodyPost_ret (v := .bool true) (by simp [results, Try.results51, go_sem]) rfl ?_
          exact ⟨by first | rfl | exact ret_bool HE.out.symm, hB⟩
        have s0a : (stage == 0) = false := by rw [beq_eq_false_iff_ne]; exact s0
        by_cases s4 : stage = 4
        · have HE := Lib.hid (EA.out HX.out HTI.out (decide_eq_true (.inr (.inr s4))) HZ2.out HK.out HRW.out HZE.out (over_yes (.inl (by show stage ≠ 3; omega))))
          subst s4
          clear s0
          go_wp2_with fail
          refine bodyPost_ret (v := .bool true) (by simp [results, Try.results51, go_sem]) rfl ?_
          exact ⟨by first | rfl | exact ret_bool HE.out.symm, hB⟩
        have s4a : (stage == 4) = false := by rw [beq_eq_false_iff_ne]; exact s4
        by_cases s3 : stage = 3
        rotate_left
        · have s3a : (stage == 3) = false := by rw [beq_eq_false_iff_ne]; exact s3
          have HE := Lib.hid (ES.out (decide_eq_false (by show ¬ (stage = 0 ∨ stage = 3 ∨ stage = 4); omega)))
          clear s0 s3 s4
          go_wp2_with fail
          refine bodyPost_ret (v := .bool false) (by simp [results, Try.results51, go_sem]) rfl ?_
          exact ⟨by first | rfl | exact ret_bool HE.out.symm, hB⟩
        have HS3 := Lib.hid s3
        subst s3
        clear s0 s0a s4 s4a
        have x1 := b1.cell' (i := 1) rfl
        cases known
        · have HE := Lib.hid (EO.out (over_no rfl (.inl rfl)))
          go_wp2_with fail
          refine bodyPost_ret (v := .bool false) (by simp [results, Try.results51, go_sem]) rfl ?_
          exact ⟨by first | rfl | exact ret_bool HE.out.symm, hB⟩
        have x7 := b1.cell' (i := 7) rfl
        have x3 := b1.cell' (i := 3) rfl
        trace "L"
        go_wp2_with fail
        refine (all_any have_ H i hc size wr HHL.out (HH.out.below hB) hhn).mono ?_
        rintro e w3 ⟨rfl, hb3⟩
        replace hB := hB.trans (hb3.mono hB.size)
        cases ha : allR have_ size
        · have HE := Lib.hid (EO.out (over_no rfl (.inr ha)))
          clear ha
          go_wp2_with fail
          refine bodyPost_ret (v := .bool false) (by simp [results, Try.results51, go_sem]) rfl ?_
          exact ⟨by first | rfl | exact ret_bool HE.out.symm, hB⟩
        · have HE := Lib.hid (EA.out HX.out HTI.out (decide_eq_true (.inr (.inl rfl))) HZ2.out HK.out HRW.out HZE.out (over_yes (.inr ⟨rfl, ha⟩)))
          clear ha
          go_wp2_with fail
          refine bodyPost_ret (v := .bool true) (by simp [results, Try.results51, go_sem]) rfl ?_
          exact ⟨by first | rfl | exact ret_bool HE.out.symm, hB⟩
end Go.Proofs.Ytianombjgdmbeaa
