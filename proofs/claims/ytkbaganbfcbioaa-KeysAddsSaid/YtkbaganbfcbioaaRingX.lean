/-
  slices.Delete of one key, in its own row.
-/
import Derived.Test.YtkbaganbfcbioaaRingF
import Derived.StillTail
import Derived.Maps.AppendAt
import Derived.StillTactics
import Derived.StillTailTactics
namespace Go.Proofs.Ytkbaganbfcbioaa
set_option linter.unusedSimpArgs false
set_option linter.unusedVariables false
open Go.RowKit

section
variable {P : Program} (w : World)
/-- append where there is room: in place. -/
theorem run_append_fits (base : Nat) (t ty e : TypeId) (i : TypeInfo) (size : Nat) (ht : P.underlying t = some (.slice e)) (hi : P.info? e = some i) (hsize : i.size = size)
    (g off n c : Nat) (xs : List Value) (hown : Own w base e size (some ⟨g, off, none⟩) n c xs)
    (A2 : Option Addr) (m c2 : Nat) (news : List Value) (hl : news.length = m * size) (hR : Rd w A2 news) (h1 : ∀ u ∈ news, u.oneCell' = true) (hroom : n + m ≤ c) :
    ∃ w', (Builtin.append_ #[t, t] ty #[.slice (some ⟨g, off, none⟩) n c, .slice A2 m c2]).run P w = .ok (.slice (some ⟨g, off, none⟩) (n + m) c) w' ∧ Own w' base e size (some ⟨g, off, none⟩) (n + m) c (xs ++ news) ∧ w.grownBy w' (some g) := by
  subst hsize
  have hf := fun W (hW : Rd W A2 news) => run_first (P := P) W i.size m A2 m c2 news hl hW
  have hlen : (xs ++ news).length = (n + m) * i.size := by rw [List.length_append, hown.len, hl, Nat.add_mul]
  obtain ⟨cur, hs, hbg, hg, hsz, hx⟩ := hown.at_ _ rfl
  simp only at hs hbg hg hsz hx
  have hfit : off + n * i.size + 0 + news.length ≤ cur.size := by
    have h2 := Nat.mul_le_mul_right i.size hroom
    rw [Nat.add_mul] at h2
    omega
  have hst := run_storeCells_at P g (off + n * i.size) e news 0 cur w hg hfit h1
  simp only [Nat.add_zero] at hst hfit
  refine ⟨w.setRow g (cur.toList.take (off + n * i.size) ++ news ++ cur.toList.drop (off + n * i.size + news.length)).toArray, ?_, ?_, ?_⟩
  · have := hf w hR
    simp [Builtin.append_, run_underlying ht, sizeOf, typeInfo, hi, Builtin.lenOf, hroom, this, Addr.add_lit, hst]
  · refine ⟨hlen, hroom, hown.cap, (fun e => by cases e), fun a ha => ?_⟩
    injection ha with ha
    subst ha
    refine ⟨_, rfl, hbg, setRow_heap w g cur _ e _ hg, ?_, fun j u hj => ?_⟩
    · simp only [List.size_toArray, List.length_append, List.length_take, List.length_drop, Array.length_toList]
      have h2 := Nat.mul_le_mul_right i.size hroom
      rw [Nat.add_mul] at h2
      omega
    · simp only [List.getElem?_toArray]
      have hxl := hown.len
      have htl : (cur.toList.take (off + n * i.size)).length = off + n * i.size := by simp; omega
      by_cases hjn : j < n * i.size
      · rw [List.getElem?_append_left (by omega)] at hj
        have := hx j u hj
        rw [List.append_assoc, List.getElem?_append_left (by omega), List.getElem?_take, if_pos (by omega)]
        simpa using this
      · rw [List.getElem?_append_right (by omega), hxl] at hj
        rw [List.append_assoc, List.getElem?_append_right (by omega), htl]
        have hjl : j - n * i.size < news.length := by
          rcases Nat.lt_or_ge (j - n * i.size) news.length with h | h
          · exact h
          · rw [List.getElem?_eq_none h] at hj; cases hj
        rw [show off + j - (off + n * i.size) = j - n * i.size from by omega, List.getElem?_append_left hjl]
        exact hj
  · exact ⟨rfl, rfl, rfl, by simp, fun k _ hk => setRow_other w g k _ (fun e => hk (by simp [e]))⟩
theorem wpList_append_fits {ops : Array Oper} {rest : List Oper} {o : Oper} {a : Act} {Q : Exit → Act → World → Prop} (hgd : o.guard = none) (s x : Operand) (t : TypeId)
    (ho : o.op = .call { callee := .builtin .append, args := #[s, x], argTypes := #[t, t] })
    (base : Nat) (e : TypeId) (i : TypeInfo) (size : Nat) (ht : P.underlying t = some (.slice e)) (hi : P.info? e = some i) (hsize : i.size = size)
    (g off n c : Nat) (xs : List Value) (hs : a.eval s = .slice (some ⟨g, off, none⟩) n c) (hown : Own w base e size (some ⟨g, off, none⟩) n c xs)
    (A2 : Option Addr) (m c2 : Nat) (news : List Value) (hx : a.eval x = .slice A2 m c2) (hl : news.length = m * size) (hR : Rd w A2 news) (h1 : ∀ u ∈ news, u.oneCell' = true) (hroom : n + m ≤ c)
    (h : ∀ w', Own w' base e size (some ⟨g, off, none⟩) (n + m) c (xs ++ news) → w.grownBy w' (some g) → wpList P ops Q rest (a.put o.dst (.slice (some ⟨g, off, none⟩) (n + m) c)) w') : wpList P ops Q (o :: rest) a w := by
  refine wpList_plain hgd fun K' hK => ?_
  obtain ⟨w', hrun, h2, h3⟩ := run_append_fits (P := P) w base t o.type e i size ht hi hsize g off n c xs hown A2 m c2 news hl hR h1 hroom
  unfold Oper.wp execOp
  simp only [ho, resolve, invoke, builtin, Sem.run_bind, Sem.run_pure, Result.andThen_ok, List.map_toArray, List.map_cons, List.map_nil, hs, hx, hrun]
  exact hK _ _ (h w' h2 h3)
/-- clear of the one element behind the row. -/
theorem run_clear_own (t ty e : TypeId) (i : TypeInfo) (z : Value) (size : Nat) (ht : P.underlying t = some (.slice e)) (hi : P.info? e = some i) (hz : i.zero = some z) (hzl : (Builtin.zeroCells z.cells 1).toList.length = size) (hz1 : ∀ u ∈ (Builtin.zeroCells z.cells 1).toList, u.oneCell' = true)
    (base g off n c cap : Nat) (xs : List Value) (hown : Own w base e size (some ⟨g, off, none⟩) n c xs) (hroom : n + 1 ≤ c) :
    ∃ w', (Builtin.clear_ #[t] ty #[.slice (some ⟨g, off + n * size, none⟩) 1 cap]).run P w = .ok (.tuple #[]) w' ∧ Own w' base e size (some ⟨g, off, none⟩) n c xs ∧ w.grownBy w' (some g) := by
  obtain ⟨cur, hs, hbg, hg, hsz, hx⟩ := hown.at_ _ rfl
  simp only at hs hbg hg hsz hx
  have hfit : off + n * size + 0 + (Builtin.zeroCells z.cells 1).toList.length ≤ cur.size := by
    have h2 := Nat.mul_le_mul_right size hroom
    rw [Nat.add_mul] at h2
    omega
  have hst := run_storeCells_at P g (off + n * size) e (Builtin.zeroCells z.cells 1).toList 0 cur w hg hfit hz1
  simp only [Nat.add_zero] at hst hfit
  refine ⟨w.setRow g (cur.toList.take (off + n * size) ++ (Builtin.zeroCells z.cells 1).toList ++ cur.toList.drop (off + n * size + (Builtin.zeroCells z.cells 1).toList.length)).toArray, ?_, ?_, ?_⟩
  · simp [Builtin.clear_, run_underlying ht, zeroValue, typeInfo, hi, hz, hst]
  · refine ⟨hown.len, hown.le, hown.cap, (fun e => by cases e), fun a ha => ?_⟩
    injection ha with ha
    subst ha
    refine ⟨_, rfl, hbg, setRow_heap w g cur _ e _ hg, ?_, fun j u hj => ?_⟩
    · simp only [List.size_toArray, List.length_append, List.length_take, List.length_drop, Array.length_toList]
      simp only [Array.length_toList] at hfit
      omega
    · simp only [List.getElem?_toArray]
      have hxl := hown.len
      have hjl : j < xs.length := by
        rcases Nat.lt_or_ge j xs.length with h | h
        · exact h
        · rw [List.getElem?_eq_none h] at hj; cases hj
      have htl : (cur.toList.take (off + n * size)).length = off + n * size := by
        simp only [List.length_take, Array.length_toList]
        omega
      have := hx j u hj
      rw [List.append_assoc, List.getElem?_append_left (by omega), List.getElem?_take, if_pos (by omega)]
      simpa using this
  · exact ⟨rfl, rfl, rfl, by simp, fun k _ hk => setRow_other w g k _ (fun e => hk (by simp [e]))⟩
end
/-- A cell behind the elements is written: they stay. -/
theorem Own.setOver {w : World} {base g off : Nat} {e : TypeId} {size n c : Nat} {xs : List Value} (h : Own w base e size (some ⟨g, off, none⟩) n c xs) (i : Nat) (hi : n * size ≤ i) (u : Value) : Own (w.setCell ⟨g, off + i, none⟩ u) base e size (some ⟨g, off, none⟩) n c xs := by
  refine ⟨h.len, h.le, h.cap, h.nil, fun a ha => ?_⟩
  obtain ⟨cur, hs, hb, hh, hsz, hx⟩ := h.at_ a ha
  injection ha with ha
  subst ha
  refine ⟨cur.setIfInBounds (off + i) u, hs, hb, by simp [World.setCell, Array.getElem?_modify, hh], by simpa using hsz, fun j v hj => ?_⟩
  have hjl : j < xs.length := by
    rcases Nat.lt_or_ge j xs.length with h' | h'
    · exact h'
    · rw [List.getElem?_eq_none h'] at hj; cases hj
  have := h.len
  simp only
  rw [Array.getElem?_setIfInBounds_ne (by omega)]
  exact hx j v hj
theorem Own.cellOver {w : World} {base g off : Nat} {e : TypeId} {size n c : Nat} {xs : List Value} (h : Own w base e size (some ⟨g, off, none⟩) n c xs) {i : Nat} (hi : i < c * size) : ∃ u, w.cell? ⟨g, off + i, none⟩ = some u := by
  obtain ⟨cur, _, _, hh, hsz, _⟩ := h.at_ _ rfl
  simp only at hh hsz
  exact ⟨cur[off + i]'(by omega), by rw [cell_of_row w g (off + i) cur _ (0, 0) hh]; exact Array.getElem?_eq_getElem (by omega)⟩

theorem key_zero_one : ∀ u ∈ (Builtin.zeroCells (Value.agg #[.int .i64 0, .slice none 0 0, .int .i64 0, .int .i64 0]).cells 1).toList, u.oneCell' = true := by
  have e : (Builtin.zeroCells (Value.agg #[.int .i64 0, .slice none 0 0, .int .i64 0, .int .i64 0]).cells 1).toList = [.int .i64 0, .slice none 0 0, .int .i64 0, .int .i64 0] := by first | kernel_rfl | simp [Builtin.zeroCells, Value.cells]
  rw [e]
  intro u hu
  simp at hu
  rcases hu with rfl | rfl | rfl | rfl <;> rfl
theorem key_zero_len : (Builtin.zeroCells (Value.agg #[.int .i64 0, .slice none 0 0, .int .i64 0, .int .i64 0]).cells 1).toList.length = 4 := by first | kernel_rfl | simp [Builtin.zeroCells, Value.cells]
set_option maxHeartbeats 6400000 in
set_option maxRecDepth 100000 in
theorem delete_any (base : Nat) (l : List KyR) (g o i j d : Nat) (w : World) (hO : Own w base 46 4 (some ⟨g, o, none⟩) (i + j + 1) d (kvs l)) (hl : l.length = i + j + 1) (hn : i + j + 1 ≤ 8) :
    Calls Try.prog 51 #[.slice (some ⟨g, o, none⟩) (i + j + 1) d, .int .i64 (i : Int), .int .i64 ((i : Int) + 1)] w fun e w' => e = .returned (.slice (some ⟨g, o, none⟩) (i + j) d) ∧ Own w' base 46 4 (some ⟨g, o, none⟩) (i + j) d (kvs (l.eraseIdx i)) ∧ w.grownBy w' (some g) := by
  obtain ⟨j0, hj0, hy0, hy1, hy2⟩ := info_parts keyinfo
  have hd := hO.le
  have hcut := (hO.cut (m := i) (by omega)).drew
  rw [kvs_take] at hcut
  have hRn := (hO.rd.drop_lit ((i + 1) * 4)).drew
  rw [kvs_drop] at hRn
  have q1 : Hid ((kvs (l.drop (i + 1))).length = j * 4) := by show _ = _; rw [kvs_len, List.length_drop, hl]; omega
  have HRn1 : Hid (Rd w.drew (if d = i + 1 then some ⟨g, o, none⟩ else some ⟨g, o + (i + 1) * 4, none⟩) (kvs (l.drop (i + 1)))) := by
    show Rd _ _ _
    split
    · rw [List.drop_of_length_le (by omega)]
      exact Rd.nil _ _
    · exact hRn
  have HL := Lib.hid hl
  clear hl
  have hip : (0 : Int) ≤ (i : Int) := by omega
  have hdI : (i : Int) + (j : Int) + 1 ≤ (d : Int) := by omega
  have hi1 : (i : Int) + 1 ≤ (i : Int) + (j : Int) + 1 := by omega
  have hid1 : (i : Int) + 1 ≤ (d : Int) := by omega
  have hip1 : (0 : Int) ≤ (i : Int) + 1 := by omega
  have hid0 : (i : Int) ≤ (d : Int) := by omega
  have hwr : IntKind.i64.wrap ((i : Int) + 1) = (i : Int) + 1 := IntWalk.i64_in _ (by omega)
  go_enter Try.func51, Try.ntmps51
  go_wp2_with fail
  go_still_tail 6, (by kernel_rfl)
  go_wp2_with (at_builtin; (refine wpList_append_fits w.drew rfl (.tmp 22) (.tmp 25) 42 rfl base 46 j0 4 Try.underlying42 hj0 hy1 g o i d (kvs (l.take i)) rfl hcut (if d = i + 1 then some ⟨g, o, none⟩ else some ⟨g, o + (i + 1) * 4, none⟩) j (d - (i + 1)) (kvs (l.drop (i + 1))) rfl q1.out HRn1.out (kvs_one _) (by omega) ?_; intro w7 hO7 hg7; obtain ⟨w8, hclr, hO8, hg8⟩ := run_clear_own w7 42 0 46 j0 _ 4 Try.underlying42 hj0 hy0 key_zero_len key_zero_one base g o (i + j) d (d - (i + j)) _ hO7 (by omega)))
  all_goals go_ret
  all_goals rw [kvs_erase] at hO8
  all_goals refine ⟨rfl, ?_, World.grownBy.trans (show w.grownBy w7 (some g) from ⟨hg7.os, hg7.tape, hg7.output, hg7.size, hg7.block⟩) hg8⟩
  all_goals first | exact hO8 | exact (show d = i + 1 by assumption) ▸ hO8
end Go.Proofs.Ytkbaganbfcbioaa
