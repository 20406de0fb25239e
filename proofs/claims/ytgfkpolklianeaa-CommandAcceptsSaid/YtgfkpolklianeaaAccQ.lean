/-
  An order comes to a gate: the program does what the document says.
-/
import Derived.Test.YtgfkpolklianeaaAccP
import Derived.Test.YtgfkpolklianeaaOrdEnc2
namespace Go.Proofs.Ytgfkpolklianeaa
set_option linter.unusedSimpArgs false
set_option linter.unusedVariables false
open Go.RowKit

def gv8 (cr nx ha : Int) (sh wa ag : Bool) (co : Int) : Value := .agg #[.int .i64 cr, .int .i64 nx, .int .i64 ha, .bool sh, .bool wa, .bool ag, .int .i64 co]
def ansv (a b c : Int) (s x g : Bool) (n : Int) (t : Bool) (k : Int) : Value := .tuple #[.agg #[.int .i64 a, .int .i64 b, .int .i64 c, .bool s, .bool x, .bool g, .int .i64 n], .bool t, .int .i64 k]
def argv (cr nx ha : Int) (sh wa ag : Bool) (co ocr : Int) (byp ctl : Bool) (sq : Int) (A : Option Addr) (n d : Nat) (room : Bool) : Array Value := #[.agg #[.int .i64 cr, .int .i64 nx, .int .i64 ha, .bool sh, .bool wa, .bool ag, .int .i64 co], .agg #[.int .i64 ocr, .bool byp, .bool ctl, .int .i64 sq, .slice A n d], .bool room]
/-- Both answer alike. -/
def Both (cr nx ha : Int) (sh wa ag : Bool) (co ocr : Int) (byp ctl : Bool) (sq : Int) (l : List UInt8) (room : Bool) : Prop :=
  ∃ (a b c : Int) (s x g : Bool) (n : Int) (t : Bool) (k : Int),
    (∀ A d w, Rd w A (bvs l) → Calls Try.prog 80 (argv cr nx ha sh wa ag co ocr byp ctl sq A l.length d room) w fun e w' => e = .returned (ansv a b c s x g n t k) ∧ Below w.heap.size w w') ∧
    (∀ A d w, Rd w A (bvs l) → Calls Try.prog 81 (argv cr nx ha sh wa ag co ocr byp ctl sq A l.length d room) w fun e w' => e = .returned (ansv a b c s x g n t k) ∧ Below w.heap.size w w')

theorem rd_at {w : World} {A : Option Addr} {x : UInt8} {l : List UInt8} (h : Rd w A (bvs (x :: l))) : ∃ b off, A = some ⟨b, off, none⟩ := by
  obtain ⟨b, off, e, _⟩ := h.byte (k := 0) (by simp)
  exact ⟨b, off, e⟩

theorem both_num (cr nx ha : Int) (sh wa ag : Bool) (co ocr sq : Int) (l : List UInt8) (room : Bool) (hg : guardOk cr ha) (hr : (0 ≤ nx ∧ nx ≤ 255) ∧ (0 ≤ co ∧ co ≤ 3)) (HK : ordMay ⟨ocr, false, false, sq, l⟩ = 0) (hc : ocr = cr) (hsq : 0 ≤ sq ∧ sq ≤ 255) :
    Both cr nx ha sh wa ag co ocr false false sq l room := by
  have hf : 1 ≤ ha ∧ ha ≤ 128 := ⟨hg.2.1, by have := hg.2.2; omega⟩
  by_cases hs : sh = true
  · subst hs
    exact ⟨_, _, _, _, _, _, _, _, _, fun A d w _ => racc_shut (wa := wa) (ag := ag) (A := A) (d := d) (w := w) (room := room) (hg := hg) (hr := hr) (HK := HK) (hc := hc) (hsq := hsq), fun A d w _ => acc_num (A := A) (d := d) (w := w) (hg := hg) (hr := hr) (HK := HK) (hc := hc) (hM := fun g w h => number_shut (room := room) (hs := hsq) (hn := hr.1) (hf := hf) (hG := h))⟩
  · obtain rfl : sh = false := by simpa using hs
    by_cases hx : (sq - nx) % 256 = 0
    · have he : sq = nx := by omega
      cases room
      · exact ⟨_, _, _, _, _, _, _, _, _, fun A d w _ => racc_full (wa := wa) (ag := ag) (A := A) (d := d) (w := w) (hg := hg) (hr := hr) (HK := HK) (hc := hc) (hsq := hsq) (hd := he), fun A d w _ => acc_num (A := A) (d := d) (w := w) (hg := hg) (hr := hr) (HK := HK) (hc := hc) (hM := fun g w h => number_full (hs := hsq) (hn := hr.1) (hf := hf) (he := he) (hG := h))⟩
      · exact ⟨_, _, _, _, _, _, _, _, _, fun A d w _ => racc_next (wa := wa) (ag := ag) (A := A) (d := d) (w := w) (hg := hg) (hr := hr) (HK := HK) (hc := hc) (hsq := hsq) (hd := he), fun A d w _ => acc_num (A := A) (d := d) (w := w) (hg := hg) (hr := hr) (HK := HK) (hc := hc) (hM := fun g w h => number_next (hs := hsq) (hn := hr.1) (hf := hf) (he := he) (hG := h))⟩
    · by_cases hh : (sq - nx) % 256 < ha
      · exact ⟨_, _, _, _, _, _, _, _, _, fun A d w _ => racc_more (wa := wa) (ag := ag) (A := A) (d := d) (w := w) (room := room) (hg := hg) (hr := hr) (HK := HK) (hc := hc) (hsq := hsq) (hd := hx) (hh := hh), fun A d w _ => acc_num (A := A) (d := d) (w := w) (hg := hg) (hr := hr) (HK := HK) (hc := hc) (hM := fun g w h => number_more (room := room) (hs := hsq) (hn := hr.1) (hf := hf) (hx := hx) (hh := hh) (hG := h))⟩
      · have hh : ha ≤ (sq - nx) % 256 := by omega
        by_cases hy : 256 - ha ≤ (sq - nx) % 256
        · exact ⟨_, _, _, _, _, _, _, _, _, fun A d w _ => racc_old (wa := wa) (ag := ag) (A := A) (d := d) (w := w) (room := room) (hg := hg) (hr := hr) (HK := HK) (hc := hc) (hsq := hsq) (hd := hx) (hh := hh) (hx := hy), fun A d w _ => acc_num (A := A) (d := d) (w := w) (hg := hg) (hr := hr) (HK := HK) (hc := hc) (hM := fun g w h => number_old (room := room) (hs := hsq) (hn := hr.1) (hf := hf) (hx := hx) (hh := hh) (hy := hy) (hG := h))⟩
        · have hy : (sq - nx) % 256 < 256 - ha := by omega
          exact ⟨_, _, _, _, _, _, _, _, _, fun A d w _ => racc_lock (wa := wa) (ag := ag) (A := A) (d := d) (w := w) (room := room) (hg := hg) (hr := hr) (HK := HK) (hc := hc) (hsq := hsq) (hd := hx) (hh := hh) (hx := hy), fun A d w _ => acc_num (A := A) (d := d) (w := w) (hg := hg) (hr := hr) (HK := HK) (hc := hc) (hM := fun g w h => number_lock (room := room) (hs := hsq) (hn := hr.1) (hf := hf) (hx := hx) (hh := hh) (hy := hy) (hG := h))⟩

theorem both_ctl (cr nx ha : Int) (sh wa ag : Bool) (co ocr sq : Int) (l : List UInt8) (room : Bool) (hg : guardOk cr ha) (hr : (0 ≤ nx ∧ nx ≤ 255) ∧ (0 ≤ co ∧ co ≤ 3)) (HK : ordMay ⟨ocr, true, true, sq, l⟩ = 0) (hc : ocr = cr) (hl : 1 ≤ l.length) :
    Both cr nx ha sh wa ag co ocr true true sq l room := by
  rcases l with _ | ⟨x, l⟩
  · simp at hl
  by_cases h0 : x :: l = [0]
  · injection h0 with h1 h2
    subst h1
    subst h2
    refine ⟨cr, nx, ha, false, false, false, (co + 1) % 4, false, 0, fun A d w ha0 => ?_, fun A d w ha0 => ?_⟩
    · obtain ⟨b, off, rfl⟩ := rd_at ha0
      exact racc_free (sh := sh) (wa := wa) (ag := ag) (d := d) (room := room) (hg := hg) (hr := hr) (HK := HK) (hc := hc) (ha := ha0)
    · obtain ⟨b, off, rfl⟩ := rd_at ha0
      exact acc_ctl (room := room) (hg := hg) (hr := hr) (HK := HK) (hc := hc) (ha0 := ha0) (hM := fun g w h hA => order_free (d := d) (hG := h) (hc := hr.2) (hA := hA))
  by_cases h3 : (x :: l).length = 3
  · rcases l with _ | ⟨y, l⟩
    · simp at h3
    rcases l with _ | ⟨z, l⟩
    · simp at h3
    rcases l with _ | ⟨u, l⟩
    rotate_left
    · simp at h3
    by_cases h : x = 130 ∧ y = 0
    · obtain ⟨rfl, rfl⟩ := h
      cases sh
      · refine ⟨cr, (z.toNat : Int), ha, false, false, false, (co + 1) % 4, false, 0, fun A d w ha0 => ?_, fun A d w ha0 => ?_⟩
        · obtain ⟨b, off, rfl⟩ := rd_at ha0
          exact racc_open (wa := wa) (ag := ag) (d := d) (room := room) (hg := hg) (hr := hr) (HK := HK) (hc := hc) (ha := ha0)
        · obtain ⟨b, off, rfl⟩ := rd_at ha0
          exact acc_ctl (room := room) (hg := hg) (hr := hr) (HK := HK) (hc := hc) (ha0 := ha0) (hM := fun g w h hA => order_open (d := d) (hG := h) (hc := hr.2) (hA := hA))
      · refine ⟨cr, nx, ha, true, wa, ag, (co + 1) % 4, false, 0, fun A d w ha0 => ?_, fun A d w ha0 => ?_⟩
        · obtain ⟨b, off, rfl⟩ := rd_at ha0
          exact racc_stay (wa := wa) (ag := ag) (d := d) (room := room) (hg := hg) (hr := hr) (HK := HK) (hc := hc) (ha := ha0)
        · obtain ⟨b, off, rfl⟩ := rd_at ha0
          exact acc_ctl (room := room) (hg := hg) (hr := hr) (HK := HK) (hc := hc) (ha0 := ha0) (hM := fun g w h hA => order_stay (d := d) (hG := h) (hc := hr.2) (hA := hA))
    · refine ⟨cr, nx, ha, sh, wa, ag, co, false, 8, fun A d w ha0 => ?_, fun A d w ha0 => ?_⟩
      · obtain ⟨b, off, rfl⟩ := rd_at ha0
        by_cases hx : x = 130
        · subst hx
          exact racc_ctl_y (sh := sh) (wa := wa) (ag := ag) (d := d) (room := room) (hy := fun e => h ⟨rfl, e⟩) (hg := hg) (hr := hr) (HK := HK) (hc := hc) (ha := ha0)
        · exact racc_ctl_x (sh := sh) (wa := wa) (ag := ag) (d := d) (room := room) (hx := hx) (hg := hg) (hr := hr) (HK := HK) (hc := hc) (ha := ha0)
      · obtain ⟨b, off, rfl⟩ := rd_at ha0
        exact acc_ctl (room := room) (hg := hg) (hr := hr) (HK := HK) (hc := hc) (ha0 := ha0) (hM := fun g w h' hA => order_xy (d := d) (h := h) (hG := h') (hc := hr.2) (hA := hA))
  · refine ⟨cr, nx, ha, sh, wa, ag, co, false, 8, fun A d w ha0 => ?_, fun A d w ha0 => ?_⟩
    · obtain ⟨b, off, rfl⟩ := rd_at ha0
      exact racc_ctl_n (sh := sh) (wa := wa) (ag := ag) (d := d) (room := room) (l := x :: l) (n := (x :: l).length) (hl := rfl) (h3 := h3) (h1 := h0) (hg := hg) (hr := hr) (HK := HK) (hc := hc) (ha := ha0)
    · obtain ⟨b, off, rfl⟩ := rd_at ha0
      by_cases h1 : (x :: l).length = 1
      · rcases l with _ | ⟨y, l⟩
        · exact acc_ctl (room := room) (hg := hg) (hr := hr) (HK := HK) (hc := hc) (ha0 := ha0) (hM := fun g w h' hA => order_one (d := d) (hx := fun e => h0 (by rw [e])) (hG := h') (hc := hr.2) (hA := hA))
        · simp at h1
      · exact acc_ctl (room := room) (hg := hg) (hr := hr) (HK := HK) (hc := hc) (ha0 := ha0) (hM := fun g w h' hA => order_len (d := d) (l := x :: l) (n := (x :: l).length) (h1 := h1) (h3 := h3) (hG := h') (hc := hr.2) (hA := hA))

theorem acc_both (cr nx ha : Int) (sh wa ag : Bool) (co ocr : Int) (byp ctl : Bool) (sq : Int) (l : List UInt8) (room : Bool) : Both cr nx ha sh wa ag co ocr byp ctl sq l room := by
  by_cases h : guardOk cr ha ∧ (0 ≤ nx ∧ nx ≤ 255) ∧ (0 ≤ co ∧ co ≤ 3)
  rotate_left
  · exact ⟨0, 0, 0, false, false, false, 0, false, 11, fun A d w _ => racc_gate (sh := sh) (wa := wa) (ag := ag) (A := A) (d := d) (w := w) (room := room) (byp := byp) (ctl := ctl) (n := l.length) (ocr := ocr) (sq := sq) (h := h), fun A d w _ => acc_gate (sh := sh) (wa := wa) (ag := ag) (A := A) (d := d) (w := w) (room := room) (byp := byp) (ctl := ctl) (n := l.length) (ocr := ocr) (sq := sq) (h := h)⟩
  obtain ⟨hg, hr⟩ := h
  by_cases HK : ordMay ⟨ocr, byp, ctl, sq, l⟩ = 0
  rotate_left
  · exact ⟨cr, nx, ha, sh, wa, ag, co, false, _, fun A d w _ => racc_may (sh := sh) (wa := wa) (ag := ag) (A := A) (d := d) (w := w) (room := room) (hg := hg) (hr := hr) (HK := rfl) (hk := HK), fun A d w _ => acc_may (sh := sh) (wa := wa) (ag := ag) (A := A) (d := d) (w := w) (room := room) (hg := hg) (hr := hr) (HK := rfl) (hk := HK)⟩
  by_cases hc : ocr = cr
  rotate_left
  · exact ⟨cr, nx, ha, sh, wa, ag, co, false, 10, fun A d w _ => racc_name (sh := sh) (wa := wa) (ag := ag) (A := A) (d := d) (w := w) (room := room) (hg := hg) (hr := hr) (HK := HK) (hc := hc), fun A d w _ => acc_name (sh := sh) (wa := wa) (ag := ag) (A := A) (d := d) (w := w) (room := room) (hg := hg) (hr := hr) (HK := HK) (hc := hc)⟩
  obtain ⟨h1, h2, h3⟩ := ordMay_zero HK
  cases ctl
  · cases byp
    · exact both_num cr nx ha sh wa ag co ocr sq l room hg hr HK hc h1.2
    · exact ⟨_, _, _, _, _, _, _, _, _, fun A d w _ => racc_bypass (sh := sh) (wa := wa) (ag := ag) (A := A) (d := d) (w := w) (room := room) (hg := hg) (hr := hr) (HK := HK) (hc := hc), fun A d w _ => acc_byp (A := A) (d := d) (w := w) (room := room) (hg := hg) (hr := hr) (HK := HK) (hc := hc) (hM := fun g w h => counted_b (hG := h) (hc := hr.2))⟩
  · obtain rfl : byp = true := h2 rfl
    exact both_ctl cr nx ha sh wa ag co ocr sq l room hg hr HK hc h3.1
end Go.Proofs.Ytgfkpolklianeaa
