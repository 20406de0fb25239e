/-
  Notes: what they are; which may be. Plainly. Rows of bytes that have come: their one form, sorted and apart; what is missing, what a piece adds. Plainly.
-/
import Derived.Test.YtianombjgdmbeaaMDeliverTakes1
import Derived.Test.YtianombjgdmbeaaMDeliverTakes2
import Derived.Test.YtianombjgdmbeaaMDeliverTakes7
namespace Go.Proofs.Ytianombjgdmbeaa
set_option linter.unusedSimpArgs false
set_option linter.unusedVariables false
open Go.RowKit

structure Nt where
  kind : Int
  id : Int
  name : ByteArray
  size : Int
  sum : Int
  at_ : Int
  data : List UInt8
  gaps : List (Int × Int)
  of_ : Int
  code : Int
def ntv (n : Nt) (D : Option Addr) (dn dc : Nat) (G : Option Addr) (gn gc : Nat) : Value := .agg #[.int .i64 n.kind, .int .i64 n.id, .string n.name, .int .i64 n.size, .int .i64 n.sum, .int .i64 n.at_, .slice D dn dc, .slice G gn gc, .int .i64 n.of_, .int .i64 n.code]
def gpc (g : Int × Int) : List Value := [.int .i64 g.1, .int .i64 g.2]
theorem gpc_len (g : Int × Int) : (gpc g).length = 2 := rfl
def gps (l : List (Int × Int)) : List Value := l.flatMap gpc
theorem gps_len (l : List (Int × Int)) : (gps l).length = l.length * 2 := fm_len gpc_len l
theorem gps_get {l : List (Int × Int)} {i : Nat} {x : Int × Int} (h : l[i]? = some x) {j : Nat} (hj : j < 2) : (gps l)[i * 2 + j]? = (gpc x)[j]? := fm_get gpc_len l i x j h hj
theorem gps_one (l : List (Int × Int)) : ∀ u ∈ gps l, u.oneCell' = true := by
  intro u hu
  obtain ⟨x, _, hx⟩ := List.mem_flatMap.1 hu
  simp [gpc] at hx
  rcases hx with rfl | rfl <;> rfl
/-- The two cells of a gap. -/
theorem rdgap_cells {w : World} {B : Option Addr} {l : List (Int × Int)} (h : Rd w B (gps l)) {i : Nat} {x : Int × Int} (hx : l[i]? = some x) : ∃ g o, B = some ⟨g, o, none⟩ ∧ w.cell? ⟨g, o + i * 2, none⟩ = some (.int .i64 x.1) ∧ w.cell? ⟨g, o + i * 2 + 1, none⟩ = some (.int .i64 x.2) := by
  obtain ⟨g, o, rfl, h0⟩ := h (i * 2 + 0) _ ((gps_get hx (j := 0) (by omega)).trans rfl)
  exact ⟨g, o, rfl, h0, h.cell ((gps_get hx (j := 1) (by omega)).trans rfl)⟩
def rngOk (n a b : Int) : Bool := decide (a ≤ n ∧ n ≤ b)
/-- Both 0, or a row of bytes within a file. -/
def gapOk (g : Int × Int) : Bool := decide (g.1 = 0 ∧ g.2 = 0) || decide (0 ≤ g.1 ∧ g.1 < g.2 ∧ g.2 ≤ 65536)
/-- Nothing but what the kind uses. -/
def bareOk (n : Nt) : Bool := (decide (n.kind = 1) || decide (n.name.size = 0)) && (decide (n.kind = 1) || decide (n.kind = 3) || decide (n.size = 0)) && (decide (n.kind = 3) || decide (n.sum = 0)) && (decide (n.kind = 2) || decide (n.at_ = 0)) && (decide (n.kind = 2) || decide (n.data.length = 0)) && (decide (n.kind = 4) || decide (n.gaps.length = 0)) && (decide (n.kind = 6) || decide (n.of_ = 0)) && (decide (n.kind = 5) || decide (n.code = 0))
def kindOk (n : Nt) : Bool :=
  if n.kind = 1 then decide (1 ≤ n.name.size ∧ n.name.size ≤ 32) && rngOk n.size 0 65536
  else if n.kind = 2 then decide (1 ≤ n.data.length ∧ n.data.length ≤ 1024) && rngOk n.at_ 0 (65536 - n.data.length)
  else if n.kind = 3 then rngOk n.size 0 65536 && rngOk n.sum 0 4294967295
  else if n.kind = 4 then decide (1 ≤ n.gaps.length ∧ n.gaps.length ≤ 20) && n.gaps.all gapOk
  else if n.kind = 5 then decide (n.code = 0) || decide (n.code = 9)
  else decide (n.of_ = 3) || decide (n.of_ = 5)
def noteOk (n : Nt) : Bool := rngOk n.kind 1 6 && rngOk n.id 0 65535 && bareOk n && kindOk n
theorem note_bare {n : Nt} (h : bareOk n = false) : noteOk n = false := by unfold noteOk; rw [h]; simp
theorem note_kind {n : Nt} (h : kindOk n = false) : noteOk n = false := by unfold noteOk; rw [h]; simp
theorem note_all {n : Nt} (h1 : rngOk n.kind 1 6 = true) (h2 : rngOk n.id 0 65535 = true) (h3 : bareOk n = true) (h4 : kindOk n = true) : noteOk n = true := by unfold noteOk; rw [h1, h2, h3, h4]; rfl
end Go.Proofs.Ytianombjgdmbeaa
namespace Go.Proofs.Ytianombjgdmbeaa
set_option linter.unusedSimpArgs false
set_option linter.unusedVariables false
open Go.RowKit

def inG (g : Int × Int) (i : Nat) : Bool := decide (g.1 ≤ (i : Int) ∧ (i : Int) < g.2)
def inR (l : List (Int × Int)) (i : Nat) : Bool := l.any (fun g => inG g i)
theorem inG_true {g : Int × Int} {i : Nat} : inG g i = true ↔ g.1 ≤ (i : Int) ∧ (i : Int) < g.2 := by unfold inG; rw [decide_eq_true_eq]
theorem inG_false {g : Int × Int} {i : Nat} : inG g i = false ↔ ¬ (g.1 ≤ (i : Int) ∧ (i : Int) < g.2) := by unfold inG; rw [decide_eq_false_iff_not]
theorem inR_cons (g : Int × Int) (l : List (Int × Int)) (i : Nat) : inR (g :: l) i = (inG g i || inR l i) := by unfold inR; rw [List.any_cons]
theorem inR_nil (i : Nat) : inR [] i = false := rfl
theorem inR_snoc (l : List (Int × Int)) (g : Int × Int) (i : Nat) : inR (l ++ [g]) i = (inR l i || inG g i) := by unfold inR; rw [List.any_append, List.any_cons, List.any_nil, Bool.or_false]
/-- Sorted, each behind e, apart from each other. -/
def Srt : Int → List (Int × Int) → Prop
  | _, [] => True
  | e, g :: l => e < g.1 ∧ g.1 < g.2 ∧ Srt g.2 l
def srtB : Int → List (Int × Int) → Bool
  | _, [] => true
  | e, g :: l => decide (e < g.1 ∧ g.1 < g.2) && srtB g.2 l
theorem srtB_iff : ∀ (l : List (Int × Int)) (e : Int), srtB e l = true ↔ Srt e l
  | [], _ => by simp [srtB, Srt]
  | g :: l, e => by
    unfold srtB Srt
    rw [Bool.and_eq_true, decide_eq_true_eq, srtB_iff l, and_assoc]
/-- Where they end. -/
def endR : Int → List (Int × Int) → Int
  | e, [] => e
  | _, g :: l => endR g.2 l
theorem endR_snoc : ∀ (l : List (Int × Int)) (e : Int) (g : Int × Int), endR e (l ++ [g]) = g.2
  | [], _, _ => rfl
  | h :: l, e, g => endR_snoc l h.2 g
theorem Srt.weak : ∀ {l : List (Int × Int)} {e d : Int}, Srt e l → d ≤ e → Srt d l
  | [], _, _, _, _ => trivial
  | g :: l, e, d, h, hd => ⟨by have := h.1; omega, h.2.1, h.2.2⟩
theorem srt_snoc : ∀ (l : List (Int × Int)) (e : Int) (g : Int × Int), Srt e (l ++ [g]) ↔ Srt e l ∧ endR e l < g.1 ∧ g.1 < g.2
  | [], e, g => by simp [Srt, endR]
  | h :: l, e, g => by
    show (e < h.1 ∧ h.1 < h.2 ∧ Srt h.2 (l ++ [g])) ↔ (e < h.1 ∧ h.1 < h.2 ∧ Srt h.2 l) ∧ endR h.2 l < g.1 ∧ g.1 < g.2
    rw [srt_snoc l h.2 g]
    simp only [and_assoc]
theorem Srt.end_ : ∀ {l : List (Int × Int)} {e : Int}, Srt e l → e ≤ endR e l
  | [], _, _ => Int.le_refl _
  | g :: l, e, h => by have := h.2.2.end_; have := h.1; have := h.2.1; show e ≤ endR g.2 l; omega
theorem Srt.low : ∀ {l : List (Int × Int)} {e : Int}, Srt e l → ∀ i : Nat, (i : Int) ≤ e → inR l i = false
  | [], _, _, _, _ => rfl
  | g :: l, e, h, i, hi => by
    have h1 := h.1
    have h2 := h.2.1
    rw [inR_cons, h.2.2.low i (by omega), Bool.or_false]
    exact inG_false.2 (by omega)
theorem Srt.high : ∀ {l : List (Int × Int)} {e : Int}, Srt e l → ∀ i : Nat, endR e l ≤ (i : Int) → e ≤ (i : Int) → inR l i = false
  | [], _, _, _, _, _ => rfl
  | g :: l, e, h, i, hi, he => by
    have h2 := h.2.2.end_
    have hi' : endR g.2 l ≤ (i : Int) := hi
    rw [inR_cons, h.2.2.high i hi' (by omega), Bool.or_false]
    exact inG_false.2 (by omega)
/-- There is but one such list for a set of bytes. -/
theorem srt_one : ∀ (l m : List (Int × Int)) (e : Int), -1 ≤ e → Srt e l → Srt e m → (∀ i : Nat, e ≤ (i : Int) → inR l i = inR m i) → l = m
  | [], [], _, _, _, _, _ => rfl
  | [], g :: m, e, he, _, hm, h => by
    have h1 := hm.1
    have h2 := hm.2.1
    have := h g.1.toNat (by omega)
    rw [inR_cons, inG_true.2 (by omega)] at this
    simp [inR_nil] at this
  | g :: l, [], e, he, hl, _, h => by
    have h1 := hl.1
    have h2 := hl.2.1
    have := h g.1.toNat (by omega)
    rw [inR_cons, inG_true.2 (by omega)] at this
    simp [inR_nil] at this
  | g :: l, k :: m, e, he, hl, hm, h => by
    have g1 := hl.1
    have g2 := hl.2.1
    have k1 := hm.1
    have k2 := hm.2.1
    have ea : g.1 = k.1 := by
      rcases Int.lt_trichotomy g.1 k.1 with c | c | c
      · have := h g.1.toNat (by omega)
        rw [inR_cons, inR_cons, inG_true.2 (by omega), inG_false.2 (by omega), hm.2.2.low _ (by omega)] at this
        simp at this
      · exact c
      · have := h k.1.toNat (by omega)
        rw [inR_cons, inR_cons, inG_false.2 (by omega), inG_true.2 (by omega), hl.2.2.low _ (by omega)] at this
        simp at this
    have eb : g.2 = k.2 := by
      rcases Int.lt_trichotomy g.2 k.2 with c | c | c
      · have := h g.2.toNat (by omega)
        rw [inR_cons, inR_cons, inG_true (g := k).2 (by omega), inG_false.2 (by omega), hl.2.2.low _ (by omega)] at this
        simp at this
      · exact c
      · have := h k.2.toNat (by omega)
        rw [inR_cons, inR_cons, inG_true (g := g).2 (by omega), inG_false.2 (by omega), hm.2.2.low _ (by omega)] at this
        simp at this
    have egk : g = k := Prod.ext ea eb
    subst egk
    congr 1
    refine srt_one l m g.2 (by omega) hl.2.2 hm.2.2 (fun i hi => ?_)
    have := h i (by omega)
    rw [inR_cons, inR_cons, inG_false.2 (by omega)] at this
    simpa using this
/-! ### the rows of a set, found byte by byte -/
def rowStep (acc : List (Int × Int)) (i : Nat) : List (Int × Int) :=
  match acc.getLast? with
  | some g => if g.2 = (i : Int) then acc.dropLast ++ [(g.1, (i : Int) + 1)] else acc ++ [((i : Int), (i : Int) + 1)]
  | none => acc ++ [((i : Int), (i : Int) + 1)]
def rowsF (f : Nat → Bool) : Nat → List (Int × Int)
  | 0 => []
  | n + 1 => if f n then rowStep (rowsF f n) n else rowsF f n
theorem rowStep_nil (i : Nat) : rowStep [] i = [((i : Int), (i : Int) + 1)] := rfl
theorem rowStep_snoc (l : List (Int × Int)) (g : Int × Int) (i : Nat) : rowStep (l ++ [g]) i = if g.2 = (i : Int) then l ++ [(g.1, (i : Int) + 1)] else (l ++ [g]) ++ [((i : Int), (i : Int) + 1)] := by
  unfold rowStep
  rw [List.getLast?_concat]
  dsimp only
  rw [List.dropLast_concat]
theorem nil_or_snoc {α : Type} (l : List α) : l = [] ∨ ∃ m a, l = m ++ [a] := by
  rcases List.eq_nil_or_concat l with h | ⟨m, a, h⟩
  · exact .inl h
  · exact .inr ⟨m, a, by rw [h, List.concat_eq_append]⟩
theorem rowsF_spec (f : Nat → Bool) : ∀ n : Nat, Srt (-1) (rowsF f n) ∧ endR (-1) (rowsF f n) ≤ (n : Int) ∧ ∀ i : Nat, inR (rowsF f n) i = (decide (i < n) && f i)
  | 0 => ⟨trivial, by show (-1 : Int) ≤ _; omega, fun i => by simp [rowsF, inR_nil]⟩
  | n + 1 => by
    obtain ⟨h1, h2, h3⟩ := rowsF_spec f n
    unfold rowsF
    by_cases hf : f n = true
    · rw [if_pos hf]
      have key : ∀ i : Nat, (decide (i < n + 1) && f i) = ((decide (i < n) && f i) || decide (i = n)) := by
        intro i
        rcases Nat.lt_trichotomy i n with c | c | c
        · rw [decide_eq_true (show i < n + 1 by omega), decide_eq_true c, decide_eq_false (show ¬ i = n by omega), Bool.or_false]
        · subst c
          rw [decide_eq_true (show i < i + 1 by omega), hf, decide_eq_true rfl]; simp
        · rw [decide_eq_false (show ¬ i < n + 1 by omega), decide_eq_false (show ¬ i < n by omega), decide_eq_false (show ¬ i = n by omega)]; rfl
      rcases nil_or_snoc (rowsF f n) with e | ⟨l, g, e⟩
      · rw [e] at h1 h2 h3 ⊢
        rw [rowStep_nil]
        refine ⟨⟨by show (-1 : Int) < (n : Int); omega, by show (n : Int) < (n : Int) + 1; omega, trivial⟩, by show (n : Int) + 1 ≤ _; omega, fun i => ?_⟩
        rw [key, ← h3, inR_cons, inR_nil, Bool.or_false, Bool.false_or]
        unfold inG
        dsimp only
        exact decide_eq_decide.2 (by omega)
      · rw [e] at h1 h2 h3 ⊢
        rw [endR_snoc] at h2
        rw [srt_snoc] at h1
        obtain ⟨s1, s2, s3⟩ := h1
        rw [rowStep_snoc]
        by_cases hg : g.2 = (n : Int)
        · rw [if_pos hg]
          refine ⟨(srt_snoc _ _ _).2 ⟨s1, s2, by show g.1 < (n : Int) + 1; omega⟩, by rw [endR_snoc]; show (n : Int) + 1 ≤ _; omega, fun i => ?_⟩
          rw [key, ← h3, inR_snoc, inR_snoc, Bool.or_assoc]
          congr 1
          unfold inG
          dsimp only
          rw [← Bool.decide_or]
          exact decide_eq_decide.2 (by omega)
        · rw [if_neg hg]
          refine ⟨(srt_snoc _ _ _).2 ⟨(srt_snoc _ _ _).2 ⟨s1, s2, s3⟩, by rw [endR_snoc]; show g.2 < (n : Int); omega, by show (n : Int) < (n : Int) + 1; omega⟩, by rw [endR_snoc]; show (n : Int) + 1 ≤ _; omega, fun i => ?_⟩
          rw [key, ← h3, inR_snoc (l ++ [g])]
          congr 1
          unfold inG
          dsimp only
          exact decide_eq_decide.2 (by omega)
    · rw [if_neg hf]
      refine ⟨h1, by omega, fun i => ?_⟩
      rw [h3]
      rcases Nat.lt_trichotomy i n with c | c | c
      · rw [decide_eq_true (show i < n + 1 by omega), decide_eq_true c]
      · subst c
        simp only [Bool.not_eq_true] at hf
        rw [hf]; simp
      · rw [decide_eq_false (show ¬ i < n + 1 by omega), decide_eq_false (show ¬ i < n by omega)]
theorem rowsF_nil (f : Nat → Bool) (n : Nat) : rowsF f n = [] ↔ ∀ i, i < n → f i = false := by
  obtain ⟨h1, h2, h3⟩ := rowsF_spec f n
  constructor
  · intro e i hi
    have := h3 i
    rw [e, inR_nil, decide_eq_true hi, Bool.true_and] at this
    exact this.symm
  · intro h
    cases e : rowsF f n with
    | nil => rfl
    | cons g l =>
      rw [e] at h1 h3
      have g1 := h1.1
      have g2 := h1.2.1
      have := h3 g.1.toNat
      rw [inR_cons, inG_true.2 (by omega), Bool.true_or] at this
      by_cases hc : g.1.toNat < n
      · rw [h _ hc] at this; simp at this
      · rw [decide_eq_false hc] at this; simp at this
/-- Any list in that form is it. -/
theorem rowsF_eq {f : Nat → Bool} {n : Nat} {l : List (Int × Int)} (h : Srt (-1) l) (hi : ∀ i : Nat, inR l i = (decide (i < n) && f i)) : l = rowsF f n := by
  obtain ⟨h1, h2, h3⟩ := rowsF_spec f n
  exact srt_one _ _ (-1) (by omega) h h1 (fun i _ => by rw [hi, h3])
/-! ### do rows tell all bytes up to here? -/
def allR (l : List (Int × Int)) (long : Int) : Bool := decide (long = 0) || (match l with | [] => false | g :: _ => decide (g.1 = 0 ∧ long ≤ g.2))
theorem allR_iff {l : List (Int × Int)} {n : Nat} (h : Srt (-1) l) : allR l (n : Int) = true ↔ ∀ i, i < n → inR l i = true := by
  unfold allR
  by_cases hn : n = 0
  · subst hn
    simp
  · rw [decide_eq_false (show ¬ (n : Int) = 0 by omega), Bool.false_or]
    cases l with
    | nil => simp only [Bool.false_eq_true, false_iff]; intro hh; have := hh 0 (by omega); rw [inR_nil] at this; cases this
    | cons g l =>
      have g1 := h.1
      have g2 := h.2.1
      dsimp only
      rw [decide_eq_true_eq]
      constructor
      · intro hg i hi
        rw [inR_cons, inG_true.2 (by omega), Bool.true_or]
      · intro hh
        have h0 := hh 0 (by omega)
        rw [inR_cons, Bool.or_eq_true] at h0
        have e0 : g.1 = 0 := by
          rcases h0 with h0 | h0
          · have := (inG_true.1 h0).1; omega
          · by_cases c : (0 : Int) ≤ g.2
            · rw [h.2.2.low 0 (by omega)] at h0; cases h0
            · omega
        refine ⟨e0, ?_⟩
        by_cases c : (n : Int) ≤ g.2
        · exact c
        · have := hh g.2.toNat (by omega)
          rw [inR_cons, inG_false.2 (by omega), h.2.2.low _ (by omega)] at this
          cases this
theorem allR_rows {l : List (Int × Int)} {n : Nat} (h : Srt (-1) l) : allR l (n : Int) = decide (rowsF (fun i => !inR l i) n = []) := by
  rw [Bool.eq_iff_iff, allR_iff h, decide_eq_true_eq, rowsF_nil]
  constructor
  · intro hh i hi; rw [hh i hi]; rfl
  · intro hh i hi; have := hh i hi; simpa using this
/-! ### what is missing -/
def missG : List (Int × Int) → Int → Int → List (Int × Int)
  | [], last, a => if a < last then [(a, last)] else []
  | g :: l, last, a => (if a < min g.1 last then [(a, min g.1 last)] else []) ++ missG l last g.2
theorem missG_spec : ∀ (l : List (Int × Int)) (last a : Int), 0 ≤ a → Srt (a - 1) l → Srt (a - 1) (missG l last a) ∧ ∀ i : Nat, inR (missG l last a) i = decide (a ≤ (i : Int) ∧ (i : Int) < last ∧ inR l i = false)
  | [], last, a, ha, _ => by
    unfold missG
    by_cases h : a < last
    · rw [if_pos h]
      refine ⟨⟨by show a - 1 < a; omega, h, trivial⟩, fun i => ?_⟩
      rw [inR_cons, inR_nil, Bool.or_false]
      unfold inG
      simp [inR_nil]
    · rw [if_neg h]
      refine ⟨trivial, fun i => ?_⟩
      rw [inR_nil]
      symm
      rw [decide_eq_false_iff_not]
      omega
  | g :: l, last, a, ha, hl => by
    have g1 := hl.1
    have g2 := hl.2.1
    obtain ⟨h1, h2⟩ := missG_spec l last g.2 (by omega) (hl.2.2.weak (by omega))
    unfold missG
    by_cases h : a < min g.1 last
    · rw [if_pos h]
      refine ⟨⟨by show a - 1 < a; omega, h, h1.weak (by show min g.1 last ≤ g.2 - 1; omega)⟩, fun i => ?_⟩
      show inR ((a, min g.1 last) :: missG l last g.2) i = _
      rw [inR_cons, inR_cons, h2]
      unfold inG
      dsimp only
      have low : (i : Int) < g.2 → inR l i = false := fun hi => hl.2.2.low i (by omega)
      rw [← Bool.decide_or, decide_eq_decide, Bool.or_eq_false_iff, decide_eq_false_iff_not]
      constructor
      · rintro (c | ⟨c1, c2, c3⟩)
        · exact ⟨by omega, by omega, by omega, low (by omega)⟩
        · exact ⟨by omega, c2, by omega, c3⟩
      · rintro ⟨c1, c2, c3, c4⟩
        by_cases c : (i : Int) < g.1
        · left; omega
        · right; exact ⟨by omega, c2, c4⟩
    · rw [if_neg h]
      refine ⟨h1.weak (by omega), fun i => ?_⟩
      rw [List.nil_append, inR_cons, h2, decide_eq_decide, Bool.or_eq_false_iff, inG_false]
      constructor
      · rintro ⟨c1, c2, c3⟩
        exact ⟨by omega, c2, by omega, c3⟩
      · rintro ⟨c1, c2, c3, c4⟩
        exact ⟨by omega, c2, c4⟩
theorem missG_rows {l : List (Int × Int)} {n : Nat} (h : Srt (-1) l) : missG l (n : Int) 0 = rowsF (fun i => !inR l i) n := by
  obtain ⟨h1, h2⟩ := missG_spec l (n : Int) 0 (by omega) h
  refine rowsF_eq h1 (fun i => ?_)
  rw [h2]
  cases inR l i
  · simp
  · simp
/-! ### what a piece adds -/
def layG : List (Int × Int) → Int × Int → List (Int × Int)
  | [], m => [m]
  | s :: l, m => if s.2 < m.1 then s :: layG l m else if m.2 < s.1 then m :: layG l s else layG l (min m.1 s.1, max m.2 s.2)
theorem layG_spec : ∀ (l : List (Int × Int)) (m : Int × Int) (e : Int), Srt e l → e < m.1 → m.1 < m.2 → Srt e (layG l m) ∧ ∀ i : Nat, inR (layG l m) i = (inR l i || inG m i)
  | [], m, e, _, h1, h2 => ⟨⟨h1, h2, trivial⟩, fun i => by unfold layG; rw [inR_cons, inR_nil, Bool.or_false, Bool.false_or]⟩
  | s :: l, m, e, hl, h1, h2 => by
    have s1 := hl.1
    have s2 := hl.2.1
    unfold layG
    by_cases c1 : s.2 < m.1
    · rw [if_pos c1]
      obtain ⟨q1, q2⟩ := layG_spec l m s.2 hl.2.2 c1 h2
      exact ⟨⟨s1, s2, q1⟩, fun i => by rw [inR_cons, inR_cons, q2, Bool.or_assoc]⟩
    rw [if_neg c1]
    by_cases c2 : m.2 < s.1
    · rw [if_pos c2]
      obtain ⟨q1, q2⟩ := layG_spec l s m.2 (hl.2.2.weak (by omega)) c2 s2
      refine ⟨⟨h1, h2, q1⟩, fun i => ?_⟩
      rw [inR_cons, inR_cons, q2]
      cases inG m i <;> cases inG s i <;> cases inR l i <;> rfl
    · rw [if_neg c2]
      obtain ⟨q1, q2⟩ := layG_spec l (min m.1 s.1, max m.2 s.2) e (hl.2.2.weak (by omega)) (by show e < min m.1 s.1; omega) (by show min m.1 s.1 < max m.2 s.2; omega)
      refine ⟨q1, fun i => ?_⟩
      rw [q2, inR_cons]
      have : inG (min m.1 s.1, max m.2 s.2) i = (inG s i || inG m i) := by
        unfold inG
        dsimp only
        rw [← Bool.decide_or, decide_eq_decide]
        omega
      rw [this]
      cases inG m i <;> cases inG s i <;> cases inR l i <;> rfl
end Go.Proofs.Ytianombjgdmbeaa
