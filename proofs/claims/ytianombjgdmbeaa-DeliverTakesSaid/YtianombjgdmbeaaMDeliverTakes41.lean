/-
  What a piece makes of a file and its rows, step by step. Plainly. A note comes to a taker while bytes come: what it leaves. Plainly.
-/
import Derived.Test.YtianombjgdmbeaaMDeliverTakes9
import Derived.Test.YtianombjgdmbeaaMDeliverTakes34
import Derived.Test.YtianombjgdmbeaaMDeliverTakes38
import Derived.Test.YtianombjgdmbeaaMDeliverTakes40
namespace Go.Proofs.Ytianombjgdmbeaa
set_option linter.unusedSimpArgs false
set_option linter.unusedVariables false
open Go.RowKit

/-- By the document: so many bytes of the piece have been laid. -/
def layM (file : List UInt8) (l : List (Int × Int)) (a : Nat) (data : List UInt8) (i long : Nat) : List UInt8 := (List.range long).map fun j => if inR l j then file.getD j 0 else if a ≤ j ∧ j < a + i then data.getD (j - a) 0 else file.getD j 0
def comeM (l : List (Int × Int)) (a i long : Nat) : List Bool := (List.range long).map fun j => inR l j || decide (a ≤ j ∧ j < a + i)
theorem layM_len (file : List UInt8) (l : List (Int × Int)) (a : Nat) (data : List UInt8) (i long : Nat) : (layM file l a data i long).length = long := by simp [layM]
theorem comeM_len (l : List (Int × Int)) (a i long : Nat) : (comeM l a i long).length = long := by simp [comeM]
theorem comeM_0 (l : List (Int × Int)) (a long : Nat) : comeM l a 0 long = (List.range long).map (inR l) := by
  unfold comeM
  congr 1
  funext j
  rw [decide_eq_false (by omega), Bool.or_false]
theorem comeM_get {l : List (Int × Int)} {a i long j : Nat} (h : j < long) : (comeM l a i long)[j]? = some (inR l j || decide (a ≤ j ∧ j < a + i)) := range_get _ h
theorem layM_0 (file : List UInt8) (l : List (Int × Int)) (a : Nat) (data : List UInt8) {long : Nat} (h : file.length ≤ long) : layM file l a data 0 long = file ++ List.replicate (long - file.length) 0 := by
  apply List.ext_getElem?
  intro j
  unfold layM
  by_cases hj : j < long
  · rw [range_get _ hj]
    have e : (if inR l j = true then file.getD j 0 else if a ≤ j ∧ j < a + 0 then data.getD (j - a) 0 else file.getD j 0) = file.getD j 0 := by
      split
      · rfl
      · rw [if_neg (by omega)]
    rw [e]
    by_cases hf : j < file.length
    · rw [List.getElem?_append_left hf, List.getD_eq_getElem?_getD, List.getElem?_eq_getElem hf]
      rfl
    · rw [List.getElem?_append_right (by omega), List.getElem?_replicate, if_pos (by omega), List.getD_eq_getElem?_getD, List.getElem?_eq_none (by omega)]
      rfl
  · rw [List.getElem?_eq_none (by simpa using hj), List.getElem?_eq_none (by rw [List.length_append, List.length_replicate]; omega)]
theorem layM_skip {file : List UInt8} {l : List (Int × Int)} {a : Nat} {data : List UInt8} {i long : Nat} (h : inR l (a + i) = true) : layM file l a data (i + 1) long = layM file l a data i long := by
  unfold layM
  congr 1
  funext j
  by_cases e : j = a + i
  · rw [e, if_pos h, if_pos h]
  · by_cases h2 : inR l j = true
    · rw [if_pos h2, if_pos h2]
    · rw [if_neg h2, if_neg h2]
      by_cases h3 : a ≤ j ∧ j < a + i
      · rw [if_pos h3, if_pos (by omega)]
      · rw [if_neg h3, if_neg (by omega)]
theorem comeM_skip {l : List (Int × Int)} {a i long : Nat} (h : inR l (a + i) = true) : comeM l a (i + 1) long = comeM l a i long := by
  unfold comeM
  congr 1
  funext j
  by_cases e : j = a + i
  · rw [e, h]; rfl
  · congr 1
    exact decide_eq_decide.2 (by omega)
theorem layM_set {file : List UInt8} {l : List (Int × Int)} {a : Nat} {data : List UInt8} {i long : Nat} (h : inR l (a + i) = false) : (layM file l a data i long).set (a + i) (data.getD i 0) = layM file l a data (i + 1) long := by
  unfold layM
  rw [range_set]
  congr 1
  funext j
  by_cases e : j = a + i
  · rw [if_pos e, e, if_neg (by rw [h]; simp), if_pos (by omega), show a + i - a = i by omega]
  · rw [if_neg e]
    by_cases h2 : inR l j = true
    · rw [if_pos h2, if_pos h2]
    · rw [if_neg h2, if_neg h2]
      by_cases h3 : a ≤ j ∧ j < a + i
      · rw [if_pos h3, if_pos (by omega)]
      · rw [if_neg h3, if_neg (by omega)]
theorem comeM_set {l : List (Int × Int)} {a i long : Nat} : (comeM l a i long).set (a + i) true = comeM l a (i + 1) long := by
  unfold comeM
  rw [range_set]
  congr 1
  funext j
  by_cases e : j = a + i
  · rw [if_pos e, decide_eq_true (by omega), Bool.or_true]
  · rw [if_neg e]
    congr 1
    exact decide_eq_decide.2 (by omega)
/-- All bytes of the piece have been laid. -/
theorem layM_end {file : List UInt8} {l : List (Int × Int)} {a : Nat} {data : List UInt8} (hz : ∀ j, j < file.length → inR l j = true ∨ bAt file j = 0) : layM file l a data data.length (max file.length (a + data.length)) = layF file l a data := by
  unfold layM layF
  apply List.map_congr_left
  intro j hj
  by_cases h2 : inR l j = true
  · rw [if_pos h2, if_pos h2]
  · rw [if_neg h2, if_neg h2]
    by_cases h3 : a ≤ j ∧ j < a + data.length
    · rw [if_pos h3, if_pos h3]
    · rw [if_neg h3, if_neg h3]
      by_cases hf : j < file.length
      · have h4 := (hz j hf).resolve_left h2
        rw [List.getD_eq_getElem?_getD, List.getElem?_eq_getElem hf, Option.getD_some]
        rw [bAt_in hf] at h4
        exact UInt8.toNat_inj.1 (by rw [h4]; rfl)
      · rw [List.getD_eq_getElem?_getD, List.getElem?_eq_none (by omega)]; rfl
/-- The rows then. -/
theorem layRows {file : List UInt8} {l : List (Int × Int)} {a : Nat} {data : List UInt8} (hs : Srt (-1) l) (hd : 1 ≤ data.length) (he : max (endR (-1) l) 0 = (file.length : Int)) : rowsF (fun j => inR l j || decide (a ≤ j ∧ j < a + data.length)) (max file.length (a + data.length)) = layG l ((a : Int), (a : Int) + data.length) := by
  obtain ⟨h1, h2⟩ := layG_spec l ((a : Int), (a : Int) + data.length) (-1) hs (by show (-1 : Int) < (a : Int); omega) (by show (a : Int) < (a : Int) + data.length; omega)
  refine (rowsF_eq h1 (fun j => ?_)).symm
  rw [h2]
  have e : inG ((a : Int), (a : Int) + data.length) j = decide (a ≤ j ∧ j < a + data.length) := by
    unfold inG
    exact decide_eq_decide.2 (by dsimp only; omega)
  rw [e]
  by_cases hj : j < max file.length (a + data.length)
  · rw [decide_eq_true hj, Bool.true_and]
  · rw [decide_eq_false hj, Bool.false_and, hs.high j (by omega) (by omega), decide_eq_false (by omega)]
    rfl
/-- By the program: the piece, then so many rows of what was there. -/
def layQ (file : List UInt8) (l : List (Int × Int)) (a : Nat) (data : List UInt8) : List UInt8 :=
  (List.range (max file.length (a + data.length))).map fun i => if inR l i then file.getD i 0 else if a ≤ i ∧ i < a + data.length then data.getD (i - a) 0 else 0
theorem layQ_end (file : List UInt8) (l : List (Int × Int)) (a : Nat) (data : List UInt8) : layQ file l a data = layF file l a data := rfl
theorem layQ_len (file : List UInt8) (l : List (Int × Int)) (a : Nat) (data : List UInt8) : (layQ file l a data).length = max file.length (a + data.length) := by simp [layQ]
/-- Nothing but the piece. -/
theorem layQ_0 (file : List UInt8) (a : Nat) (data : List UInt8) : layQ file [] a data = List.replicate a 0 ++ data ++ List.replicate (max file.length (a + data.length) - (a + data.length)) 0 := by
  apply List.ext_getElem?
  intro j
  unfold layQ
  by_cases hj : j < max file.length (a + data.length)
  · rw [range_get _ hj, if_neg (by rw [inR_nil]; simp)]
    by_cases h1 : j < a
    · rw [if_neg (by omega), List.append_assoc, List.getElem?_append_left (by simpa using h1), List.getElem?_replicate, if_pos h1]
    · by_cases h2 : j < a + data.length
      · rw [if_pos (by omega), List.getElem?_append_left (by simp; omega), List.getElem?_append_right (by simp; omega), List.length_replicate, List.getD_eq_getElem?_getD, List.getElem?_eq_getElem (by omega)]
        rfl
      · rw [if_neg (by omega), List.getElem?_append_right (by simp; omega), List.getElem?_replicate, if_pos (by simp; omega)]
  · rw [List.getElem?_eq_none (by simpa using hj), List.getElem?_eq_none (by simp; omega)]
/-- One row more. -/
theorem layQ_snoc {file : List UInt8} {l : List (Int × Int)} {a : Nat} {data : List UInt8} {p q : Nat} (hpq : p ≤ q) (hq : q ≤ file.length) : layQ file (l ++ [((p : Int), (q : Int))]) a data = (layQ file l a data).take p ++ (file.take q).drop p ++ (layQ file l a data).drop q := by
  have hl := layQ_len file l a data
  apply List.ext_getElem?
  intro j
  by_cases hj : j < max file.length (a + data.length)
  · have e1 : (layQ file (l ++ [((p : Int), (q : Int))]) a data)[j]? = some (if (inR l j || decide (p ≤ j ∧ j < q)) = true then file.getD j 0 else if a ≤ j ∧ j < a + data.length then data.getD (j - a) 0 else 0) := by
      unfold layQ
      rw [range_get _ hj, inR_snoc]
      have : inG ((p : Int), (q : Int)) j = decide (p ≤ j ∧ j < q) := by
        unfold inG
        exact decide_eq_decide.2 (by dsimp only; omega)
      rw [this]
    have e2 : (layQ file l a data)[j]? = some (if inR l j = true then file.getD j 0 else if a ≤ j ∧ j < a + data.length then data.getD (j - a) 0 else 0) := by
      unfold layQ
      rw [range_get _ hj]
    rw [e1]
    have l1 : ((layQ file l a data).take p).length = p := by rw [List.length_take, hl]; omega
    have l2 : ((file.take q).drop p).length = q - p := by rw [List.length_drop, List.length_take]; omega
    by_cases h1 : j < p
    · rw [List.append_assoc, List.getElem?_append_left (by omega), List.getElem?_take, if_pos h1, e2, decide_eq_false (by omega), Bool.or_false]
    · by_cases h2 : j < q
      · rw [List.getElem?_append_left (by rw [List.length_append]; omega), List.getElem?_append_right (by omega), l1, List.getElem?_drop, List.getElem?_take, if_pos (show p + (j - p) < q by omega), show p + (j - p) = j by omega, decide_eq_true (show p ≤ j ∧ j < q by omega), Bool.or_true, if_pos rfl, List.getD_eq_getElem?_getD, List.getElem?_eq_getElem (show j < file.length by omega)]
        rfl
      · rw [List.getElem?_append_right (by rw [List.length_append]; omega), List.length_append, l1, l2, List.getElem?_drop, show q + (j - (p + (q - p))) = j by omega, e2, decide_eq_false (by omega), Bool.or_false]
  · rw [List.getElem?_eq_none (by rw [layQ_len]; omega), List.getElem?_eq_none (by simp [hl]; omega)]
end Go.Proofs.Ytianombjgdmbeaa
namespace Go.Proofs.Ytianombjgdmbeaa
set_option linter.unusedSimpArgs false
set_option linter.unusedVariables false
open Go.RowKit

theorem endR_cons (g : Int × Int) (l : List (Int × Int)) (d e : Int) : endR d (g :: l) = endR e (g :: l) := rfl
theorem endR_layG : ∀ (l : List (Int × Int)) (m : Int × Int) (e : Int), Srt e l → e < m.1 → m.1 < m.2 → endR e (layG l m) = max (endR e l) m.2
  | [], m, e, _, h1, h2 => by
    show m.2 = max e m.2
    omega
  | s :: l, m, e, hl, h1, h2 => by
    have s1 := hl.1
    have s2 := hl.2.1
    have s3 := hl.2.2.end_
    have es : endR e (s :: l) = endR s.2 l := rfl
    unfold layG
    by_cases c1 : s.2 < m.1
    · rw [if_pos c1, es]
      exact endR_layG l m s.2 hl.2.2 c1 h2
    rw [if_neg c1]
    by_cases c2 : m.2 < s.1
    · rw [if_pos c2, es]
      have h := endR_layG l s m.2 (hl.2.2.weak (by omega)) c2 s2
      show endR m.2 (layG l s) = _
      rw [h]
      cases l with
      | nil => show max m.2 s.2 = max s.2 m.2; omega
      | cons g l =>
        have e1 : endR m.2 (g :: l) = endR s.2 (g :: l) := rfl
        rw [e1]
        omega
    · rw [if_neg c2, es]
      have h := endR_layG l (min m.1 s.1, max m.2 s.2) e (hl.2.2.weak (by omega)) (by show e < min m.1 s.1; omega) (by show min m.1 s.1 < max m.2 s.2; omega)
      rw [h]
      cases l with
      | nil => show max e (max m.2 s.2) = max s.2 m.2; omega
      | cons g l =>
        have e1 : endR e (g :: l) = endR s.2 (g :: l) := rfl
        rw [e1]
        show max _ (max m.2 s.2) = _
        omega
/-- What a taker keeps while bytes come. -/
structure TkJ (x : Tk) : Prop where
  size : 0 ≤ x.size ∧ x.size ≤ 65536
  last : 0 ≤ x.last ∧ x.last ≤ 65536
  rows : Srt (-1) x.have_
  long : (x.file.length : Int) = max (endR (-1) x.have_) 0
  small : x.file.length ≤ 65536
theorem TkI.j {x : Tk} (h : TkI x) : TkJ x := ⟨h.size, h.last, h.rows, h.long.1, h.long.2⟩
theorem TkJ.few {x : Tk} (h : TkJ x) : x.have_.length ≤ 100000 := by
  have h1 := srt_len h.rows
  have h2 := h.long
  have h3 := h.small
  omega
theorem comes_1a {x : Tk} {n : Nt} (h : n.kind = 1) (h2 : x.known = true) : comesT x n = x := by unfold comesT; rw [if_pos h, if_pos h2]
theorem comes_1b {x : Tk} {n : Nt} (h : n.kind = 1) (h2 : x.known = false) : comesT x n = { x with known := true, name := n.name, size := n.size } := by unfold comesT; rw [if_pos h, if_neg (by rw [h2]; decide)]
theorem comes_2 {x : Tk} {n : Nt} (h : n.kind = 2) : comesT x n = layT x n := by unfold comesT; rw [if_neg (by omega), if_pos h]
theorem comes_3a {x : Tk} {n : Nt} (h : n.kind = 3) (h2 : x.ended = true) : comesT x n = x := by unfold comesT; rw [if_neg (by omega), if_neg (by omega), if_pos h, if_pos h2]
theorem comes_3b {x : Tk} {n : Nt} (h : n.kind = 3) (h2 : x.ended = false) : comesT x n = { x with ended := true, last := n.size, sum := n.sum } := by unfold comesT; rw [if_neg (by omega), if_neg (by omega), if_pos h, if_neg (by rw [h2]; decide)]
theorem comes_6 {x : Tk} {n : Nt} (h : n.kind = 6) : comesT x n = x := by unfold comesT; rw [if_neg (by omega), if_neg (by omega), if_neg (by omega)]
theorem note_1 {n : Nt} (h : noteOk n = true) (hk : n.kind = 1) : 0 ≤ n.size ∧ n.size ≤ 65536 := by
  have h1 := note_kind' h
  unfold kindOk at h1
  rw [if_pos hk, Bool.and_eq_true, rngB_iff] at h1
  exact h1.2
theorem note_2 {n : Nt} (h : noteOk n = true) (hk : n.kind = 2) : 1 ≤ n.data.length ∧ n.data.length ≤ 1024 ∧ 0 ≤ n.at_ ∧ n.at_ ≤ 65536 - (n.data.length : Int) := by
  have h1 := note_kind' h
  unfold kindOk at h1
  rw [if_neg (by omega), if_pos hk, Bool.and_eq_true, rngB_iff, decide_eq_true_eq] at h1
  exact ⟨h1.1.1, h1.1.2, h1.2.1, h1.2.2⟩
theorem note_3 {n : Nt} (h : noteOk n = true) (hk : n.kind = 3) : 0 ≤ n.size ∧ n.size ≤ 65536 := by
  have h1 := note_kind' h
  unfold kindOk at h1
  rw [if_neg (by omega), if_neg (by omega), if_pos hk, Bool.and_eq_true, rngB_iff] at h1
  exact h1.1
theorem lay_J {x : Tk} {n : Nt} (h : TkJ x) (h1 : 1 ≤ n.data.length) (h2 : 0 ≤ n.at_) (h3 : n.at_ + (n.data.length : Int) ≤ 65536) : TkJ (layT x n) := by
  have e := endR_layG x.have_ (n.at_, n.at_ + n.data.length) (-1) h.rows (by show (-1 : Int) < n.at_; omega) (by show n.at_ < n.at_ + n.data.length; omega)
  have hl : (layF x.file x.have_ n.at_.toNat n.data).length = max x.file.length (n.at_.toNat + n.data.length) := by rw [← layQ_end, layQ_len]
  have h4 := h.long
  have h5 := h.small
  refine ⟨h.size, h.last, (layG_spec _ _ (-1) h.rows (by show (-1 : Int) < n.at_; omega) (by show n.at_ < n.at_ + n.data.length; omega)).1, ?_, ?_⟩
  · show ((layF x.file x.have_ n.at_.toNat n.data).length : Int) = max (endR (-1) (layG x.have_ (n.at_, n.at_ + n.data.length))) 0
    rw [e, hl]
    dsimp only
    omega
  · show (layF x.file x.have_ n.at_.toNat n.data).length ≤ 65536
    rw [hl]
    omega
theorem comes_J {x : Tk} {n : Nt} (h : TkJ x) (hn : noteOk n = true) : TkJ (comesT x n) := by
  unfold comesT
  by_cases h1 : n.kind = 1
  · rw [if_pos h1]
    split
    · exact h
    · exact ⟨note_1 hn h1, h.last, h.rows, h.long, h.small⟩
  rw [if_neg h1]
  by_cases h2 : n.kind = 2
  · rw [if_pos h2]
    obtain ⟨k1, k2, k3, k4⟩ := note_2 hn h2
    exact lay_J h k1 k3 (by omega)
  rw [if_neg h2]
  by_cases h3 : n.kind = 3
  · rw [if_pos h3]
    split
    · exact h
    · exact ⟨h.size, note_3 hn h3, h.rows, h.long, h.small⟩
  · rw [if_neg h3]
    exact h
theorem comes_stage {x : Tk} {n : Nt} : (comesT x n).stage = x.stage := by
  unfold comesT layT
  split
  · split <;> rfl
  · split
    · rfl
    · split
      · split <;> rfl
      · rfl
theorem comes_id {x : Tk} {n : Nt} : (comesT x n).id = x.id := by
  unfold comesT layT
  split
  · split <;> rfl
  · split
    · rfl
    · split
      · split <;> rfl
      · rfl
/-- What the judgement leaves. -/
theorem judge_is {y z : Tk} {ms : List Nt} (h : judgeT y = (z, ms)) (h0 : y.stage = 0) : (ms = [] ∧ z = y) ∨ (¬ ms = [] ∧ (z.stage = 3 ∨ z.stage = 4) ∧ ∃ s, z = { y with stage := s }) := by
  unfold judgeT at h
  split at h
  · injection h with h1 h2
    subst h1 h2
    exact .inr ⟨by simp, .inr rfl, 4, rfl⟩
  · split at h
    · split at h
      · injection h with h1 h2
        subst h1 h2
        exact .inr ⟨by simp, .inl rfl, 3, rfl⟩
      · injection h with h1 h2
        subst h1 h2
        exact .inr ⟨by simp, .inr rfl, 4, rfl⟩
    · injection h with h1 h2
      subst h1 h2
      exact .inl ⟨rfl, rfl⟩
theorem goT_eq {x y z : Tk} {n : Nt} {ms : List Nt} (h : comesT { x with timer := 0, tries := 0 } n = y) (h2 : judgeT y = (z, ms)) : goT x n = (z, (if n.kind = 3 then [seenN x] else []) ++ ms ++ (if ms = [] ∧ n.kind = 3 then askT z else [])) := by
  unfold goT
  dsimp only
  rw [h, h2]
theorem goT_no {x y z : Tk} {n : Nt} {ms : List Nt} (h : comesT { x with timer := 0, tries := 0 } n = y) (h2 : judgeT y = (z, ms)) (h3 : ¬ n.kind = 3) : goT x n = (z, [] ++ ms) := by
  rw [goT_eq h h2, if_neg h3, if_neg (fun k => h3 k.2), List.append_nil]
theorem goT_say {x y z : Tk} {n : Nt} {ms : List Nt} (h : comesT { x with timer := 0, tries := 0 } n = y) (h2 : judgeT y = (z, ms)) (h3 : n.kind = 3) (h4 : ¬ ms = []) : goT x n = (z, [seenN x] ++ ms) := by
  rw [goT_eq h h2, if_pos h3, if_neg (fun k => h4 k.1), List.append_nil]
theorem goT_ask {x y : Tk} {n : Nt} (h : comesT { x with timer := 0, tries := 0 } n = y) (h2 : judgeT y = (y, [])) (h3 : n.kind = 3) : goT x n = (y, [seenN x] ++ askT y) := by
  rw [goT_eq h h2, if_pos h3, if_pos ⟨rfl, h3⟩, List.append_nil]
end Go.Proofs.Ytianombjgdmbeaa
