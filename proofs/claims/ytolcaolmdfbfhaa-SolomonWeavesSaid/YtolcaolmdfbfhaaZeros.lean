/-
  append(l, make([]byte, m)...), onto a slice of the call's own. No program is named here.
-/
import Derived.Test.YtolcaolmdfbfhaaBase
import Derived.Lib.AppendZeros
namespace Go.Proofs.Ytolcaolmdfbfhaa
set_option linter.unusedSimpArgs false
set_option linter.unusedVariables false
open Go.RowKit

theorem zeroCells_one (z : Value) (m : Nat) : Builtin.zeroCells #[z] m = (List.replicate m z).toArray := by
  unfold Builtin.zeroCells
  apply Array.ext
  · simp
  · intro j h1 h2
    simp at h1 ⊢
    rw [show j % 1 = 0 from Nat.mod_one j]
    rfl
theorem run_append_zeros {P : Program} (w : World) (base : Nat) (t tn ty e : TypeId) (i : TypeInfo) (z : Value) (bytes : Nat) (ht : P.underlying t = some (.slice e)) (htn : P.underlying tn = some (.int .i64)) (hi : P.info? e = some i) (hz : i.zero = some z)
    (hsize : i.size = 1) (hby : i.bytes = bytes) (hzc : z.cells = #[z]) (hz1 : z.oneCell' = true)
    (A : Option Addr) (n c : Nat) (xs : List Value) (hown : Own w base e 1 A n c xs) (m : Nat) (hm : 0 < m)
    (h63 : n + m ≤ maxLen) (hbytes : (n + m) * bytes ≤ 140737488355328) (hbase : base ≤ w.heap.size) :
    ∃ A' c' w', (Builtin.append_ #[t, tn] ty #[.slice A n c, .int .i64 (m : Int)]).run P w = .ok (.slice A' (n + m) c') w' ∧ Own w' base e 1 A' (n + m) c' (xs ++ List.replicate m z) ∧ w.grownBy w' (blk A) ∧
      (A' = A ∨ blk A' = some w.heap.size) := by
  subst hby
  have h63m := h63
  unfold maxLen at h63m
  have hw : IntKind.i64.wrap (m : Int) = m := by rw [IntKind.wrap_i64]; omega
  have hmb : m * i.bytes ≤ 140737488355328 := Nat.le_trans (Nat.mul_le_mul_right _ (Nat.le_add_left m n)) hbytes
  have h48i : ¬ (281474976710656 < (m : Int) * (i.bytes : Int)) := by
    rw [← Int.natCast_mul]
    omega
  have hneg : ¬ ((m : Int) < 0) := by omega
  have hns : ¬ (m = 0) := by omega
  have hxl : xs.length = n := by have := hown.len; omega
  have hlen : (xs ++ List.replicate m z).length = (n + m) * 1 := by rw [List.length_append, List.length_replicate, hxl]; omega
  have hZ := zeroCells_one z m
  by_cases hroom : n + m ≤ c
  · rcases A with _ | ⟨g, off, spot⟩
    · have hc0 := hown.nil rfl
      omega
    · obtain ⟨cur, hs, hbg, hg, hsz, hx⟩ := hown.at_ _ rfl
      simp only at hs hbg hg hsz hx
      subst hs
      have hfit : off + n + 0 + (List.replicate m z).length ≤ cur.size := by rw [List.length_replicate]; omega
      have hst := run_storeCells_at P g (off + n) e (List.replicate m z) 0 cur w hg hfit (fun u hu => by
        have := List.eq_of_mem_replicate hu
        rw [this]
        exact hz1)
      simp only [Nat.add_zero] at hst hfit
      refine ⟨some ⟨g, off, none⟩, c, w.setRow g (cur.toList.take (off + n) ++ List.replicate m z ++ cur.toList.drop (off + n + (List.replicate m z).length)).toArray, ?_, ?_, ?_, .inl rfl⟩
      · simp [Builtin.append_, run_underlying ht, run_underlying htn, sizeOf, typeInfo, zeroValue, hi, hz, hsize, asInt, asIntOf, hw, hneg, hns, h48i, hroom, hZ, hzc, Addr.add_lit, hst]
      · refine ⟨hlen, hroom, hown.cap, (fun e => by cases e), fun a ha => ?_⟩
        injection ha with ha
        subst ha
        refine ⟨_, rfl, hbg, setRow_heap w g cur _ e _ hg, ?_, fun j u hj => ?_⟩
        · simp only [List.size_toArray, List.length_append, List.length_take, List.length_drop, Array.length_toList, List.length_replicate]
          rw [List.length_replicate] at hfit
          omega
        · simp only [List.getElem?_toArray]
          rw [List.length_replicate] at hfit
          have htl : (cur.toList.take (off + n)).length = off + n := by simp; omega
          by_cases hjn : j < n
          · rw [List.getElem?_append_left (by omega)] at hj
            have := hx j u hj
            rw [List.append_assoc, List.getElem?_append_left (by omega), List.getElem?_take, if_pos (by omega)]
            simpa using this
          · rw [List.getElem?_append_right (by omega), hxl] at hj
            rw [List.append_assoc, List.getElem?_append_right (by omega), htl]
            have hjl : j - n < (List.replicate m z).length := by
              rcases Nat.lt_or_ge (j - n) (List.replicate m z).length with h | h
              · exact h
              · rw [List.getElem?_eq_none h] at hj; cases hj
            rw [show off + j - (off + n) = j - n from by omega, List.getElem?_append_left hjl]
            exact hj
      · exact ⟨rfl, rfl, rfl, by simp, fun k _ hk => setRow_other w g k _ (fun e => hk (by simp [blk, e]))⟩
  · have hgt : ¬ (n + m ≤ c) := hroom
    have h63' : ¬ (9223372036854775807 < ((n : Int) + (m : Int))) := by omega
    have h48' : ¬ (281474976710656 < Builtin.nextslicecap (n + m) c * i.bytes) := by have := growslice_fits (need := n + m) (old := c) (bytes := i.bytes) (by omega) hbytes; omega
    have hfo := run_first (P := P) w.drew 1 n A n c xs hown.len hown.rd.drew
    have hge := grownCap_ge w (n + m) c e
    have hcm : grownCap w (n + m) c e ≤ maxLen := grownCap_le_maxLen w (n + m) c e h63
    refine ⟨some ⟨w.heap.size, 0, none⟩, grownCap w (n + m) c e, w.drew.alloc (.cells (xs.toArray ++ (List.replicate m z).toArray ++ Builtin.zeroCells z.cells (grownCap w (n + m) c e - (n + m))) e), ?_, ?_, ?_, .inr (by simp [blk])⟩
    · simp [Builtin.append_, run_underlying ht, run_underlying htn, sizeOf, typeInfo, zeroValue, hi, hz, hsize, asInt, asIntOf, hw, hneg, hns, h48i, Builtin.lenOf, hgt, h63', h48', Question.forced, hfo, newRow, grownCap, hZ, hzc]
    · refine Own.of_block (g := w.heap.size) (heap_alloc_new w.drew _) hbase hlen hge hcm ?_ fun j u hj => ?_
      · simp only [Array.size_append, List.size_toArray, size_zeroCells, hzc, hxl, List.length_replicate, List.length_singleton]
        simp
        omega
      · have hjl : j < (xs ++ List.replicate m z).length := by
          rcases Nat.lt_or_ge j (xs ++ List.replicate m z).length with h | h
          · exact h
          · rw [List.getElem?_eq_none h] at hj; cases hj
        have hsz2 : (xs.toArray ++ (List.replicate m z).toArray).size = (xs ++ List.replicate m z).length := by simp
        rw [Array.getElem?_append_left (by omega), ← Array.getElem?_toList]
        simpa using hj
    · exact ⟨rfl, rfl, rfl, by simp, fun k hk _ => Below.heap_alloc w.drew _ k hk⟩

theorem wpList_append_zeros {P : Program} (w : World) {ops : Array Oper} {rest : List Oper} {o : Oper} {a : Act} {Q : Exit → Act → World → Prop} (hgd : o.guard = none) (s x : Operand) (t tn : TypeId)
    (ho : o.op = .call { callee := .builtin .append, args := #[s, x], argTypes := #[t, tn] })
    (base : Nat) (e : TypeId) (i : TypeInfo) (z : Value) (bytes : Nat) (ht : P.underlying t = some (.slice e)) (htn : P.underlying tn = some (.int .i64)) (hi : P.info? e = some i) (hz : i.zero = some z)
    (hsize : i.size = 1) (hby : i.bytes = bytes) (hzc : z.cells = #[z]) (hz1 : z.oneCell' = true)
    (A : Option Addr) (n c : Nat) (xs : List Value) (hs : a.eval s = .slice A n c) (hown : Own w base e 1 A n c xs) (m : Nat) (vm : Int) (hx : a.eval x = .int .i64 vm) (hvm : vm = (m : Int)) (hm : 0 < m)
    (h63 : n + m ≤ maxLen) (hbytes : (n + m) * bytes ≤ 140737488355328) (hbase : base ≤ w.heap.size)
    (h : ∀ A' c' w', Own w' base e 1 A' (n + m) c' (xs ++ List.replicate m z) → w.grownBy w' (blk A) → (A' = A ∨ blk A' = some w.heap.size) → wpList P ops Q rest (a.put o.dst (.slice A' (n + m) c')) w') : wpList P ops Q (o :: rest) a w := by
  subst hvm
  obtain ⟨A', c', w', hrun, h2, h3, h4⟩ := run_append_zeros (P := P) w base t tn o.type e i z bytes ht htn hi hz hsize hby hzc hz1 A n c xs hown m hm h63 hbytes hbase
  exact Lib.wpList_append_run w hgd s x t tn ho _ _ hs hx _ _ hrun (h A' c' w' h2 h3 h4)
end Go.Proofs.Ytolcaolmdfbfhaa
