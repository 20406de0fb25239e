/-
  append of a string's bytes onto a slice of bytes of the call's own. What a note that may be tells of its kind's parts; the bytes of a note, plainly.
-/
import Derived.Test.YtianombjgdmbeaaMDeliverTakes1
import Derived.Test.YtianombjgdmbeaaMDeliverTakes2
import Derived.Lib.AppendStr
import Derived.Test.YtianombjgdmbeaaMDeliverTakes27
namespace Go.Proofs.Ytianombjgdmbeaa
set_option linter.unusedSimpArgs false
set_option linter.unusedVariables false
open Go.RowKit

/-- A string's bytes. -/
def sbs (s : ByteArray) : List UInt8 := s.data.toList
theorem sbs_len (s : ByteArray) : (sbs s).length = s.size := by unfold sbs; rw [Array.length_toList]; rfl
theorem sbs_cells (s : ByteArray) : Lib.strCells s = bvs (sbs s) := rfl
section
variable {P : Program} (w : World)
theorem run_append_OwnS (base : Nat) (t u ty e : TypeId) (i : TypeInfo) (ht : P.underlying t = some (.slice e)) (hu : P.underlying u = some .string) (hi : P.info? e = some i) (hz : i.zero = some (.int .u8 0))
    (hsize : i.size = 1) (hby : i.bytes = 1)
    (A : Option Addr) (n c : Nat) (xs : List Value) (hown : Own w base e 1 A n c xs) (s : ByteArray)
    (h63 : n + s.size ≤ maxLen) (hbytes : n + s.size ≤ 140737488355328) (hbase : base ≤ w.heap.size) :
    ∃ A' c' w', (Builtin.append_ #[t, u] ty #[.slice A n c, .string s]).run P w = .ok (.slice A' (n + s.size) c') w' ∧ Own w' base e 1 A' (n + s.size) c' (xs ++ bvs (sbs s)) ∧ w.grownBy w' (blk A) ∧
      (A' = A ∨ blk A' = some w.heap.size) := by
  have hf := fun W => Lib.run_firstCells_string (P := P) W 1 s
  have hl : (bvs (sbs s)).length = s.size := by rw [bvs_length, sbs_len]
  have h1 := bvs_one (sbs s)
  rw [sbs_cells] at hf
  have hlen : (xs ++ bvs (sbs s)).length = (n + s.size) * 1 := by rw [List.length_append, hown.len, hl, Nat.add_mul, Nat.mul_one s.size]
  by_cases hroom : n + s.size ≤ c
  · rcases A with _ | ⟨g, off, spot⟩
    · have hc0 := hown.nil rfl
      subst hc0
      obtain rfl : n = 0 := by omega
      have hm : s.size = 0 := by omega
      have hx : xs = [] := List.eq_nil_of_length_eq_zero (by simpa using hown.len)
      have hn : bvs (sbs s) = [] := List.eq_nil_of_length_eq_zero (by rw [hl]; exact hm)
      subst hx
      refine ⟨none, 0, w, ?_, by rw [hn, hm]; simpa using Own.none_ w base e 1, World.grownBy.refl w _, .inl rfl⟩
      have := hf w
      rw [hm, hn] at this
      simp [Builtin.append_, run_underlying ht, run_underlying hu, sizeOf, typeInfo, hi, hsize, Builtin.lenOf, hm, this]
    · obtain ⟨cur, hs, hbg, hg, hsz, hx⟩ := hown.at_ _ rfl
      simp only at hs hbg hg hsz hx
      subst hs
      have hfit : off + n * 1 + 0 + (bvs (sbs s)).length ≤ cur.size := by rw [hl]; omega
      have hst := run_storeCells_at P g (off + n * 1) e (bvs (sbs s)) 0 cur w hg hfit h1
      simp only [Nat.add_zero, Nat.mul_one] at hst hfit
      refine ⟨some ⟨g, off, none⟩, c, w.setRow g (cur.toList.take (off + n) ++ bvs (sbs s) ++ cur.toList.drop (off + n + (bvs (sbs s)).length)).toArray, ?_, ?_, ?_, .inl rfl⟩
      · have := hf w
        simp [Builtin.append_, run_underlying ht, run_underlying hu, sizeOf, typeInfo, hi, hsize, Builtin.lenOf, hroom, this, Addr.add_lit, hst]
      · refine ⟨hlen, hroom, hown.cap, (fun e => by cases e), fun a ha => ?_⟩
        injection ha with ha
        subst ha
        refine ⟨_, rfl, hbg, setRow_heap w g cur _ e _ hg, ?_, fun j u hj => ?_⟩
        · simp only [List.size_toArray, List.length_append, List.length_take, List.length_drop, Array.length_toList]
          omega
        · simp only [List.getElem?_toArray]
          have hxl := hown.len
          have htl : (cur.toList.take (off + n)).length = off + n := by simp; omega
          by_cases hjn : j < n
          · rw [List.getElem?_append_left (by omega)] at hj
            have := hx j u hj
            rw [List.append_assoc, List.getElem?_append_left (by omega), List.getElem?_take, if_pos (by omega)]
            simpa using this
          · rw [List.getElem?_append_right (by omega), hxl, Nat.mul_one] at hj
            rw [List.append_assoc, List.getElem?_append_right (by omega), htl]
            have hjl : j - n < (bvs (sbs s)).length := by
              rcases Nat.lt_or_ge (j - n) (bvs (sbs s)).length with h | h
              · exact h
              · rw [List.getElem?_eq_none h] at hj; cases hj
            rw [show off + j - (off + n) = j - n from by omega, List.getElem?_append_left hjl]
            exact hj
      · exact ⟨rfl, rfl, rfl, by simp, fun k _ hk => setRow_other w g k _ (fun e => hk (by simp [blk, e]))⟩
  · have hgt : ¬ (n + s.size ≤ c) := hroom
    have h63' : ¬ (9223372036854775807 < ((n : Int) + (s.size : Int))) := by
      have hmm := h63
      unfold maxLen at hmm
      omega
    have h48' : ¬ (281474976710656 < Builtin.nextslicecap (n + s.size) c * i.bytes) := by
      rw [hby]
      have := growslice_fits (need := n + s.size) (old := c) (bytes := 1) (by omega) (by omega)
      omega
    have hfo := run_first (P := P) w.drew 1 n A n c xs hown.len hown.rd.drew
    have hf2 := hf w.drew
    have hge := grownCap_ge w (n + s.size) c e
    have hcm : grownCap w (n + s.size) c e ≤ maxLen := grownCap_le_maxLen w (n + s.size) c e h63
    refine ⟨some ⟨w.heap.size, 0, none⟩, grownCap w (n + s.size) c e, w.drew.alloc (.cells (xs.toArray ++ (bvs (sbs s)).toArray ++ Builtin.zeroCells (Value.int .u8 0).cells (grownCap w (n + s.size) c e - (n + s.size))) e), ?_, ?_, ?_, .inr (by simp [blk])⟩
    · rw [← hsize] at hf2 hfo
      simp [Builtin.append_, run_underlying ht, run_underlying hu, sizeOf, typeInfo, zeroValue, hi, hz, Builtin.lenOf, hgt, h63', h48', Question.forced, hf2, hfo, newRow, grownCap]
      congr 2
      apply Array.ext'
      simp [List.append_assoc]
    · refine Own.of_block (g := w.heap.size) (heap_alloc_new w.drew _) hbase hlen hge hcm ?_ fun j u hj => ?_
      · have hz1 : (Value.int IntKind.u8 0).cells.size = 1 := rfl
        simp only [Array.size_append, List.size_toArray, size_zeroCells, hz1, hown.len, hl]
        omega
      · have hjl : j < (xs ++ bvs (sbs s)).length := by
          rcases Nat.lt_or_ge j (xs ++ bvs (sbs s)).length with h | h
          · exact h
          · rw [List.getElem?_eq_none h] at hj; cases hj
        have hsz2 : (xs.toArray ++ (bvs (sbs s)).toArray).size = (xs ++ bvs (sbs s)).length := by simp
        rw [Array.getElem?_append_left (by omega)]
        simpa using hj
    · exact ⟨rfl, rfl, rfl, by simp, fun k hk _ => Below.heap_alloc w.drew _ k hk⟩

theorem wp_append_OwnS {o : Oper} {a : Act} {K : Act → World → Prop} {Q : Exit → Act → World → Prop} (sl x : Operand) (t u : TypeId)
    (ho : o.op = .call { callee := .builtin .append, args := #[sl, x], argTypes := #[t, u] })
    (base : Nat) (e : TypeId) (i : TypeInfo) (ht : P.underlying t = some (.slice e)) (hu : P.underlying u = some .string) (hi : P.info? e = some i) (hz : i.zero = some (.int .u8 0))
    (hsize : i.size = 1) (hby : i.bytes = 1)
    (A : Option Addr) (n c : Nat) (xs : List Value) (hs : a.eval sl = .slice A n c) (hown : Own w base e 1 A n c xs) (s : ByteArray) (hx : a.eval x = .string s)
    (h63 : n + s.size ≤ maxLen) (hbytes : n + s.size ≤ 140737488355328) (hbase : base ≤ w.heap.size)
    (h : ∀ A' c' w', Own w' base e 1 A' (n + s.size) c' (xs ++ bvs (sbs s)) → w.grownBy w' (blk A) → (A' = A ∨ blk A' = some w.heap.size) → K (a.put o.dst (.slice A' (n + s.size) c')) w') : o.wp P a w K Q := by
  obtain ⟨A', c', w', hrun, h2, h3, h4⟩ := run_append_OwnS (P := P) w base t u o.type e i ht hu hi hz hsize hby A n c xs hown s h63 hbytes hbase
  unfold Oper.wp execOp
  simp only [ho, resolve, invoke, builtin, Sem.run_bind, Sem.run_pure, Result.andThen_ok, List.map_toArray, List.map_cons, List.map_nil, hs, hx, hrun]
  exact h A' c' w' h2 h3 h4
theorem wpList_append_OwnS {ops : Array Oper} {rest : List Oper} {o : Oper} {a : Act} {Q : Exit → Act → World → Prop} (hgd : o.guard = none) (sl x : Operand) (t u : TypeId)
    (ho : o.op = .call { callee := .builtin .append, args := #[sl, x], argTypes := #[t, u] })
    (base : Nat) (e : TypeId) (i : TypeInfo) (ht : P.underlying t = some (.slice e)) (hu : P.underlying u = some .string) (hi : P.info? e = some i) (hz : i.zero = some (.int .u8 0))
    (hsize : i.size = 1) (hby : i.bytes = 1)
    (A : Option Addr) (n c : Nat) (xs : List Value) (hs : a.eval sl = .slice A n c) (hown : Own w base e 1 A n c xs) (s : ByteArray) (hx : a.eval x = .string s)
    (h63 : n + s.size ≤ maxLen) (hbytes : n + s.size ≤ 140737488355328) (hbase : base ≤ w.heap.size)
    (h : ∀ A' c' w', Own w' base e 1 A' (n + s.size) c' (xs ++ bvs (sbs s)) → w.grownBy w' (blk A) → (A' = A ∨ blk A' = some w.heap.size) → wpList P ops Q rest (a.put o.dst (.slice A' (n + s.size) c')) w') : wpList P ops Q (o :: rest) a w :=
  wpList_plain hgd fun _ hK => wp_append_OwnS w sl x t u ho base e i ht hu hi hz hsize hby A n c xs hs hown s hx h63 hbytes hbase fun A' c' w' h2 h3 h4 => hK _ _ (h A' c' w' h2 h3 h4)
end
end Go.Proofs.Ytianombjgdmbeaa
namespace Go.Proofs.Ytianombjgdmbeaa
set_option linter.unusedSimpArgs false
set_option linter.unusedVariables false
open Go.RowKit

theorem note_kind' {n : Nt} (h : noteOk n = true) : kindOk n = true := by
  cases e : kindOk n
  · rw [note_kind e] at h
    cases h
  · rfl
theorem note_rng {n : Nt} (h : noteOk n = true) : n.kind = 1 ∨ n.kind = 2 ∨ n.kind = 3 ∨ n.kind = 4 ∨ n.kind = 5 ∨ n.kind = 6 := by
  unfold noteOk rngOk at h
  simp only [Bool.and_eq_true, decide_eq_true_eq] at h
  omega
def gapB (g : Int × Int) : List UInt8 := be4 g.1 ++ be4 g.2
/-- The bytes of a note. -/
def noteB (n : Nt) : List UInt8 :=
  hdB n.kind n.id ++ (if n.kind = 1 then be4 n.size ++ sbs n.name else if n.kind = 2 then be4 n.at_ ++ n.data else if n.kind = 3 then be4 n.size ++ be4 n.sum else if n.kind = 4 then n.gaps.flatMap gapB else if n.kind = 5 then [bOf n.code] else [bOf n.of_])
theorem gapB_len (l : List (Int × Int)) : (l.flatMap gapB).length = 8 * l.length := by
  induction l with
  | nil => rfl
  | cons x t ih =>
    rw [List.flatMap_cons, List.length_append, ih, List.length_cons]
    show 8 + _ = _
    omega
end Go.Proofs.Ytianombjgdmbeaa
