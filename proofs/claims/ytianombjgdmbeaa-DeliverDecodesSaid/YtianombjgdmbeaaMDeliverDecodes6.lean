/-
  append of a string's bytes onto a slice of bytes of the call's own. The note of bytes. Plainly.
-/
import Derived.Test.YtianombjgdmbeaaMDeliverDecodes1
import Derived.Test.YtianombjgdmbeaaMDeliverDecodes2
import Derived.Lib.AppendStr
import Derived.Test.YtianombjgdmbeaaMDeliverDecodes4
import Derived.Test.YtianombjgdmbeaaMDeliverDecodes5
namespace Go.Proofs.Ytianombjgdmbeaa
set_option linter.unusedSimpArgs false
set_option linter.unusedVariables false
open Go.RowKit

/-- A string's bytes. -/
def sbs (s : ByteArray) : List UInt8 := s.data.toList
theorem sbs_len (s : ByteArray) : (sbs s).length = s.size := by unfold sbs; rw [Array.length_toList]; rfl
theorem sbs_cells (s : ByteArray) : Lib.strCells s = bvs (sbs s) := rfl
section
variable {P : Program} (w : World)
theorem run_append_OwnS (base : Nat) (t u ty e : TypeId) (i : TypeInfo) (ht : P.underlying t = some (.slice e)) (hu : P.underlying u = some .string) (hi : P.info? e = some i) (hz : i.zero = some (.int .u8 0))
    (hsize : i.size = 1) (hby : i.bytes = 1)
    (A : Option Addr) (n c : Nat) (xs : List Value) (hown : Own w base e 1 A n c xs) (s : ByteArray)
    (h63 : n + s.size ≤ maxLen) (hbytes : n + s.size ≤ 140737488355328) (hbase : base ≤ w.heap.size) :
    ∃ A' c' w', (Builtin.append_ #[t, u] ty #[.slice A n c, .string s]).run P w = .ok (.slice A' (n + s.size) c') w' ∧ Own w' base e 1 A' (n + s.size) c' (xs ++ bvs (sbs s)) ∧ w.grownBy w' (blk A) ∧
      (A' = A ∨ blk A' = some w.heap.size) := by
  have hf := fun W => Lib.run_firstCells_string (P := P) W 1 s
  have hl : (bvs (sbs s)).length = s.size := by rw [bvs_length, sbs_len]
  have h1 := bvs_one (sbs s)
  rw [sbs_cells] at hf
  have hlen : (xs ++ bvs (sbs s)).length = (n + s.size) * 1 := by rw [List.length_append, hown.len, hl, Nat.add_mul, Nat.mul_one s.size]
  by_cases hroom : n + s.size ≤ c
  · rcases A with _ | ⟨g, off, spot⟩
    · have hc0 := hown.nil rfl
      subst hc0
      obtain rfl : n = 0 := by omega
      have hm : s.size = 0 := by omega
      have hx : xs = [] := List.eq_nil_of_length_eq_zero (by simpa using hown.len)
      have hn : bvs (sbs s) = [] := List.eq_nil_of_length_eq_zero (by rw [hl]; exact hm)
      subst hx
      refine ⟨none, 0, w, ?_, by rw [hn, hm]; simpa using Own.none_ w base e 1, World.grownBy.refl w _, .inl rfl⟩
      have := hf w
      rw [hm, hn] at this
      simp [Builtin.append_, run_underlying ht, run_underlying hu, sizeOf, typeInfo, hi, hsize, Builtin.lenOf, hm, this]
    · obtain ⟨cur, hs, hbg, hg, hsz, hx⟩ := hown.at_ _ rfl
      simp only at hs hbg hg hsz hx
      subst hs
      have hfit : off + n * 1 + 0 + (bvs (sbs s)).length ≤ cur.size := by rw [hl]; omega
      have hst := run_storeCells_at P g (off + n * 1) e (bvs (sbs s)) 0 cur w hg hfit h1
      simp only [Nat.add_zero, Nat.mul_one] at hst hfit
      refine ⟨some ⟨g, off, none⟩, c, w.setRow g (cur.toList.take (off + n) ++ bvs (sbs s) ++ cur.toList.drop (off + n + (bvs (sbs s)).length)).toArray, ?_, ?_, ?_, .inl rfl⟩
      · have := hf w
        simp [Builtin.append_, run_underlying ht, run_underlying hu, sizeOf, typeInfo, hi, hsize, Builtin.lenOf, hroom, this, Addr.add_lit, hst]
      · refine ⟨hlen, hroom, hown.cap, (fun e => by cases e), fun a ha => ?_⟩
        injection ha with ha
        subst ha
        refine ⟨_, rfl, hbg, setRow_heap w g cur _ e _ hg, ?_, fun j u hj => ?_⟩
        · simp only [List.size_toArray, List.length_append, List.length_take, List.length_drop, Array.length_toList]
          omega
        · simp only [List.getElem?_toArray]
          have hxl := hown.len
          have htl : (cur.toList.take (off + n)).length = off + n := by simp; omega
          by_cases hjn : j < n
          · rw [List.getElem?_append_left (by omega)] at hj
            have := hx j u hj
            rw [List.append_assoc, List.getElem?_append_left (by omega), List.getElem?_take, if_pos (by omega)]
            simpa using this
          · rw [List.getElem?_append_right (by omega), hxl, Nat.mul_one] at hj
            rw [List.append_assoc, List.getElem?_append_right (by omega), htl]
            have hjl : j - n < (bvs (sbs s)).length := by
              rcases Nat.lt_or_ge (j - n) (bvs (sbs s)).length with h | h
              · exact h
              · rw [List.getElem?_eq_none h] at hj; cases hj
            rw [show off + j - (off + n) = j - n from by omega, List.getElem?_append_left hjl]
            exact hj
      · exact ⟨rfl, rfl, rfl, by simp, fun k _ hk => setRow_other w g k _ (fun e => hk (by simp [blk, e]))⟩
  · have hgt : ¬ (n + s.size ≤ c) := hroom
    have h63' : ¬ (9223372036854775807 < ((n : Int) + (s.size : Int))) := by
      have hmm := h63
      unfold maxLen at hmm
      omega
    have h48' : ¬ (281474976710656 < Builtin.nextslicecap (n + s.size) c * i.bytes) := by
      rw [hby]
      have := growslice_fits (need := n + s.size) (old := c) (bytes := 1) (by omega) (by omega)
      omega
    have hfo := run_first (P := P) w.drew 1 n A n c xs hown.len hown.rd.drew
    have hf2 := hf w.drew
    have hge := grownCap_ge w (n + s.size) c e
    have hcm : grownCap w (n + s.size) c e ≤ maxLen := grownCap_le_maxLen w (n + s.size) c e h63
    refine ⟨some ⟨w.heap.size, 0, none⟩, grownCap w (n + s.size) c e, w.drew.alloc (.cells (xs.toArray ++ (bvs (sbs s)).toArray ++ Builtin.zeroCells (Value.int .u8 0).cells (grownCap w (n + s.size) c e - (n + s.size))) e), ?_, ?_, ?_, .inr (by simp [blk])⟩
    · rw [← hsize] at hf2 hfo
      simp [Builtin.append_, run_underlying ht, run_underlying hu, sizeOf, typeInfo, zeroValue, hi, hz, Builtin.lenOf, hgt, h63', h48', Question.forced, hf2, hfo, newRow, grownCap]
      congr 2
      apply Array.ext'
      simp [List.append_assoc]
    · refine Own.of_block (g := w.heap.size) (heap_alloc_new w.drew _) hbase hlen hge hcm ?_ fun j u hj => ?_
      · have hz1 : (Value.int IntKind.u8 0).cells.size = 1 := rfl
        simp only [Array.size_append, List.size_toArray, size_zeroCells, hz1, hown.len, hl]
        omega
      · have hjl : j < (xs ++ bvs (sbs s)).length := by
          rcases Nat.lt_or_ge j (xs ++ bvs (sbs s)).length with h | h
          · exact h
          · rw [List.getElem?_eq_none h] at hj; cases hj
        have hsz2 : (xs.toArray ++ (bvs (sbs s)).toArray).size = (xs ++ bvs (sbs s)).length := by simp
        rw [Array.getElem?_append_left (by omega)]
        simpa using hj
    · exact ⟨rfl, rfl, rfl, by simp, fun k hk _ => Below.heap_alloc w.drew _ k hk⟩

theorem wp_append_OwnS {o : Oper} {a : Act} {K : Act → World → Prop} {Q : Exit → Act → World → Prop} (sl x : Operand) (t u : TypeId)
    (ho : o.op = .call { callee := .builtin .append, args := #[sl, x], argTypes := #[t, u] })
    (base : Nat) (e : TypeId) (i : TypeInfo) (ht : P.underlying t = some (.slice e)) (hu : P.underlying u = some .string) (hi : P.info? e = some i) (hz : i.zero = some (.int .u8 0))
    (hsize : i.size = 1) (hby : i.bytes = 1)
    (A : Option Addr) (n c : Nat) (xs : List Value) (hs : a.eval sl = .slice A n c) (hown : Own w base e 1 A n c xs) (s : ByteArray) (hx : a.eval x = .string s)
    (h63 : n + s.size ≤ maxLen) (hbytes : n + s.size ≤ 140737488355328) (hbase : base ≤ w.heap.size)
    (h : ∀ A' c' w', Own w' base e 1 A' (n + s.size) c' (xs ++ bvs (sbs s)) → w.grownBy w' (blk A) → (A' = A ∨ blk A' = some w.heap.size) → K (a.put o.dst (.slice A' (n + s.size) c')) w') : o.wp P a w K Q := by
  obtain ⟨A', c', w', hrun, h2, h3, h4⟩ := run_append_OwnS (P := P) w base t u o.type e i ht hu hi hz hsize hby A n c xs hown s h63 hbytes hbase
  unfold Oper.wp execOp
  simp only [ho, resolve, invoke, builtin, Sem.run_bind, Sem.run_pure, Result.andThen_ok, List.map_toArray, List.map_cons, List.map_nil, hs, hx, hrun]
  exact h A' c' w' h2 h3 h4
theorem wpList_append_OwnS {ops : Array Oper} {rest : List Oper} {o : Oper} {a : Act} {Q : Exit → Act → World → Prop} (hgd : o.guard = none) (sl x : Operand) (t u : TypeId)
    (ho : o.op = .call { callee := .builtin .append, args := #[sl, x], argTypes := #[t, u] })
    (base : Nat) (e : TypeId) (i : TypeInfo) (ht : P.underlying t = some (.slice e)) (hu : P.underlying u = some .string) (hi : P.info? e = some i) (hz : i.zero = some (.int .u8 0))
    (hsize : i.size = 1) (hby : i.bytes = 1)
    (A : Option Addr) (n c : Nat) (xs : List Value) (hs : a.eval sl = .slice A n c) (hown : Own w base e 1 A n c xs) (s : ByteArray) (hx : a.eval x = .string s)
    (h63 : n + s.size ≤ maxLen) (hbytes : n + s.size ≤ 140737488355328) (hbase : base ≤ w.heap.size)
    (h : ∀ A' c' w', Own w' base e 1 A' (n + s.size) c' (xs ++ bvs (sbs s)) → w.grownBy w' (blk A) → (A' = A ∨ blk A' = some w.heap.size) → wpList P ops Q rest (a.put o.dst (.slice A' (n + s.size) c')) w') : wpList P ops Q (o :: rest) a w :=
  wpList_plain hgd fun _ hK => wp_append_OwnS w sl x t u ho base e i ht hu hi hz hsize hby A n c xs hs hown s hx h63 hbytes hbase fun A' c' w' h2 h3 h4 => hK _ _ (h A' c' w' h2 h3 h4)
end
end Go.Proofs.Ytianombjgdmbeaa
namespace Go.Proofs.Ytianombjgdmbeaa
set_option linter.unusedSimpArgs false
set_option linter.unusedVariables false
open Go.RowKit

theorem or_i64 {x y m : Nat} (hx : x % 2 ^ m = 0) (hy : y < 2 ^ m) (h : x + y < 9223372036854775808) : bits .or .i64 (x : Int) (y : Int) = ((x + y : Nat) : Int) := by
  have e : x ||| y = x + y := by
    have hd := Nat.div_add_mod x (2 ^ m)
    rw [hx, Nat.add_zero] at hd
    rw [← hd, Nat.mul_comm, ← Nat.shiftLeft_eq, ← Nat.shiftLeft_add_eq_or_of_lt hy]
  show IntKind.i64.wrap ((BitVec.ofInt 64 (x : Int) ||| BitVec.ofInt 64 (y : Int)).toNat : Nat) = _
  rw [BitVec.toNat_or, BitVec.toNat_ofInt, BitVec.toNat_ofInt]
  have h1 : ((x : Int) % ((2 ^ 64 : Nat) : Int)).toNat = x := by omega
  have h2 : ((y : Int) % ((2 ^ 64 : Nat) : Int)).toNat = y := by omega
  rw [h1, h2, e, IntKind.wrap_i64]
  omega
/-- The number of four bytes from a place on. -/
def fAt (l : List UInt8) (i : Nat) : Int := (bAt l i : Int) * 16777216 + (bAt l (i + 1) : Int) * 65536 + (bAt l (i + 2) : Int) * 256 + (bAt l (i + 3) : Int)
theorem fAt_lt (l : List UInt8) (i : Nat) : 0 ≤ fAt l i ∧ fAt l i ≤ 4294967295 := by
  have h0 := bAt_lt l i
  have h1 := bAt_lt l (i + 1)
  have h2 := bAt_lt l (i + 2)
  have h3 := bAt_lt l (i + 3)
  unfold fAt
  omega
def strOf (l : List UInt8) : ByteArray := ⟨l.toArray⟩
theorem bAt_drop (l : List UInt8) (k i : Nat) : bAt (l.drop k) i = bAt l (k + i) := by
  unfold bAt
  rw [List.getD_eq_getElem?_getD, List.getD_eq_getElem?_getD, List.getElem?_drop]
theorem fAt_drop (l : List UInt8) (k i : Nat) : fAt (l.drop k) i = fAt l (k + i) := by
  unfold fAt
  simp only [bAt_drop, Nat.add_assoc]
/-- The gaps of bytes, eight each. -/
def gapsOf (l : List UInt8) (k : Nat) : List (Int × Int) := (List.range k).map fun i => (fAt l (8 * i), fAt l (8 * i + 4))
theorem gapsOf_succ (l : List UInt8) (k : Nat) : gapsOf l (k + 1) = gapsOf l k ++ [(fAt l (8 * k), fAt l (8 * k + 4))] := by unfold gapsOf; rw [List.range_succ, List.map_append]; rfl
theorem gapsOf_len (l : List UInt8) (k : Nat) : (gapsOf l k).length = k := by simp [gapsOf]
/-- What the bytes behind the head tell, ahead of the question whether it may be. -/
def decC (kind id : Int) (c : List UInt8) : Option Nt :=
  if kind = 1 then some ⟨1, id, if 4 ≤ c.length then strOf (c.drop 4) else ⟨#[]⟩, if 4 ≤ c.length then fAt c 0 else 0, 0, 0, [], [], 0, 0⟩
  else if kind = 2 then some ⟨2, id, ⟨#[]⟩, 0, 0, if 4 ≤ c.length then fAt c 0 else 0, if 4 ≤ c.length then c.drop 4 else [], [], 0, 0⟩
  else if kind = 3 then (if c.length = 8 then some ⟨3, id, ⟨#[]⟩, fAt c 0, fAt c 4, 0, [], [], 0, 0⟩ else none)
  else if kind = 4 then (if c.length % 8 = 0 ∧ c.length ≤ 160 then some ⟨4, id, ⟨#[]⟩, 0, 0, 0, [], gapsOf c (c.length / 8), 0, 0⟩ else none)
  else if kind = 5 then (if c.length = 1 then some ⟨5, id, ⟨#[]⟩, 0, 0, 0, [], [], 0, bAt c 0⟩ else none)
  else if kind = 6 then (if c.length = 1 then some ⟨6, id, ⟨#[]⟩, 0, 0, 0, [], [], bAt c 0, 0⟩ else none)
  else some ⟨kind, id, ⟨#[]⟩, 0, 0, 0, [], [], 0, 0⟩
def ntZero : Nt := ⟨0, 0, ⟨#[]⟩, 0, 0, 0, [], [], 0, 0⟩
/-- The note of bytes, and the error. -/
def decR (b : List UInt8) : Nt × Int :=
  if b.length < 4 then (ntZero, 8)
  else match decC (bAt b 0) ((bAt b 1 : Int) * 256 + (bAt b 2 : Int)) (b.drop 3) with
    | none => (ntZero, 8)
    | some n => if noteOk n then (n, 0) else (ntZero, 8)
end Go.Proofs.Ytianombjgdmbeaa
