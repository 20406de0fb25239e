/-
  slices.Delete of one key, in its own row. keys.Drop. Numbers of 128 bits modulo P, plainly: two steps of the school's division.
-/
import Derived.Test.YtkbaganbfcbioaaMKeysOpens18
import Derived.StillTail
import Derived.Maps.AppendAt
import Derived.StillTactics
import Derived.StillTailTactics
import Derived.Test.YtkbaganbfcbioaaMKeysOpens2
namespace Go.Proofs.Ytkbaganbfcbioaa
set_option linter.unusedSimpArgs false
set_option linter.unusedVariables false
open Go.RowKit

section
variable {P : Program} (w : World)
/-- append where there is room: in place. -/
theorem run_append_fits (base : Nat) (t ty e : TypeId) (i : TypeInfo) (size : Nat) (ht : P.underlying t = some (.slice e)) (hi : P.info? e = some i) (hsize : i.size = size)
    (g off n c : Nat) (xs : List Value) (hown : Own w base e size (some ⟨g, off, none⟩) n c xs)
    (A2 : Option Addr) (m c2 : Nat) (news : List Value) (hl : news.length = m * size) (hR : Rd w A2 news) (h1 : ∀ u ∈ news, u.oneCell' = true) (hroom : n + m ≤ c) :
    ∃ w', (Builtin.append_ #[t, t] ty #[.slice (some ⟨g, off, none⟩) n c, .slice A2 m c2]).run P w = .ok (.slice (some ⟨g, off, none⟩) (n + m) c) w' ∧ Own w' base e size (some ⟨g, off, none⟩) (n + m) c (xs ++ news) ∧ w.grownBy w' (some g) := by
  subst hsize
  have hf := fun W (hW : Rd W A2 news) => run_first (P := P) W i.size m A2 m c2 news hl hW
  have hlen : (xs ++ news).length = (n + m) * i.size := by rw [List.length_append, hown.len, hl, Nat.add_mul]
  obtain ⟨cur, hs, hbg, hg, hsz, hx⟩ := hown.at_ _ rfl
  simp only at hs hbg hg hsz hx
  have hfit : off + n * i.size + 0 + news.length ≤ cur.size := by
    have h2 := Nat.mul_le_mul_right i.size hroom
    rw [Nat.add_mul] at h2
    omega
  have hst := run_storeCells_at P g (off + n * i.size) e news 0 cur w hg hfit h1
  simp only [Nat.add_zero] at hst hfit
  refine ⟨w.setRow g (cur.toList.take (off + n * i.size) ++ news ++ cur.toList.drop (off + n * i.size + news.length)).toArray, ?_, ?_, ?_⟩
  · have := hf w hR
    simp [Builtin.append_, run_underlying ht, sizeOf, typeInfo, hi, Builtin.lenOf, hroom, this, Addr.add_lit, hst]
  · refine ⟨hlen, hroom, hown.cap, (fun e => by cases e), fun a ha => ?_⟩
    injection ha with ha
    subst ha
    refine ⟨_, rfl, hbg, setRow_heap w g cur _ e _ hg, ?_, fun j u hj => ?_⟩
    · simp only [List.size_toArray, List.length_append, List.length_take, List.length_drop, Array.length_toList]
      have h2 := Nat.mul_le_mul_right i.size hroom
      rw [Nat.add_mul] at h2
      omega
    · simp only [List.getElem?_toArray]
      have hxl := hown.len
      have htl : (cur.toList.take (off + n * i.size)).length = off + n * i.size := by simp; omega
      by_cases hjn : j < n * i.size
      · rw [List.getElem?_append_left (by omega)] at hj
        have := hx j u hj
        rw [List.append_assoc, List.getElem?_append_left (by omega), List.getElem?_take, if_pos (by omega)]
        simpa using this
      · rw [List.getElem?_append_right (by omega), hxl] at hj
        rw [List.append_assoc, List.getElem?_append_right (by omega), htl]
        have hjl : j - n * i.size < news.length := by
          rcases Nat.lt_or_ge (j - n * i.size) news.length with h | h
          · exact h
          · rw [List.getElem?_eq_none h] at hj; cases hj
        rw [show off + j - (off + n * i.size) = j - n * i.size from by omega, List.getElem?_append_left hjl]
        exact hj
  · exact ⟨rfl, rfl, rfl, by simp, fun k _ hk => setRow_other w g k _ (fun e => hk (by simp [e]))⟩
theorem wpList_append_fits {ops : Array Oper} {rest : List Oper} {o : Oper} {a : Act} {Q : Exit → Act → World → Prop} (hgd : o.guard = none) (s x : Operand) (t : TypeId)
    (ho : o.op = .call { callee := .builtin .append, args := #[s, x], argTypes := #[t, t] })
    (base : Nat) (e : TypeId) (i : TypeInfo) (size : Nat) (ht : P.underlying t = some (.slice e)) (hi : P.info? e = some i) (hsize : i.size = size)
    (g off n c : Nat) (xs : List Value) (hs : a.eval s = .slice (some ⟨g, off, none⟩) n c) (hown : Own w base e size (some ⟨g, off, none⟩) n c xs)
    (A2 : Option Addr) (m c2 : Nat) (news : List Value) (hx : a.eval x = .slice A2 m c2) (hl : news.length = m * size) (hR : Rd w A2 news) (h1 : ∀ u ∈ news, u.oneCell' = true) (hroom : n + m ≤ c)
    (h : ∀ w', Own w' base e size (some ⟨g, off, none⟩) (n + m) c (xs ++ news) → w.grownBy w' (some g) → wpList P ops Q rest (a.put o.dst (.slice (some ⟨g, off, none⟩) (n + m) c)) w') : wpList P ops Q (o :: rest) a w := by
  refine wpList_plain hgd fun K' hK => ?_
  obtain ⟨w', hrun, h2, h3⟩ := run_append_fits (P := P) w base t o.type e i size ht hi hsize g off n c xs hown A2 m c2 news hl hR h1 hroom
  unfold Oper.wp execOp
  simp only [ho, resolve, invoke, builtin, Sem.run_bind, Sem.run_pure, Result.andThen_ok, List.map_toArray, List.map_cons, List.map_nil, hs, hx, hrun]
  exact hK _ _ (h w' h2 h3)
/-- clear of the one element behind the row. -/
theorem run_clear_own (t ty e : TypeId) (i : TypeInfo) (z : Value) (size : Nat) (ht : P.underlying t = some (.slice e)) (hi : P.info? e = some i) (hz : i.zero = some z) (hzl : (Builtin.zeroCells z.cells 1).toList.length = size) (hz1 : ∀ u ∈ (Builtin.zeroCells z.cells 1).toList, u.oneCell' = true)
    (base g off n c cap : Nat) (xs : List Value) (hown : Own w base e size (some ⟨g, off, none⟩) n c xs) (hroom : n + 1 ≤ c) :
    ∃ w', (Builtin.clear_ #[t] ty #[.slice (some ⟨g, off + n * size, none⟩) 1 cap]).run P w = .ok (.tuple #[]) w' ∧ Own w' base e size (some ⟨g, off, none⟩) n c xs ∧ w.grownBy w' (some g) := by
  obtain ⟨cur, hs, hbg, hg, hsz, hx⟩ := hown.at_ _ rfl
  simp only at hs hbg hg hsz hx
  have hfit : off + n * size + 0 + (Builtin.zeroCells z.cells 1).toList.length ≤ cur.size := by
    have h2 := Nat.mul_le_mul_right size hroom
    rw [Nat.add_mul] at h2
    omega
  have hst := run_storeCells_at P g (off + n * size) e (Builtin.zeroCells z.cells 1).toList 0 cur w hg hfit hz1
  simp only [Nat.add_zero] at hst hfit
  refine ⟨w.setRow g (cur.toList.take (off + n * size) ++ (Builtin.zeroCells z.cells 1).toList ++ cur.toList.drop (off + n * size + (Builtin.zeroCells z.cells 1).toList.length)).toArray, ?_, ?_, ?_⟩
  · simp [Builtin.clear_, run_underlying ht, zeroValue, typeInfo, hi, hz, hst]
  · refine ⟨hown.len, hown.le, hown.cap, (fun e => by cases e), fun a ha => ?_⟩
    injection ha with ha
    subst ha
    refine ⟨_, rfl, hbg, setRow_heap w g cur _ e _ hg, ?_, fun j u hj => ?_⟩
    · simp only [List.size_toArray, List.length_append, List.length_take, List.length_drop, Array.length_toList]
      simp only [Array.length_toList] at hfit
      omega
    · simp only [List.getElem?_toArray]
      have hxl := hown.len
      have hjl : j < xs.length := by
        rcases Nat.lt_or_ge j xs.length with h | h
        · exact h
        · rw [List.getElem?_eq_none h] at hj; cases hj
      have htl : (cur.toList.take (off + n * size)).length = off + n * size := by
        simp only [List.length_take, Array.length_toList]
        omega
      have := hx j u hj
      rw [List.append_assoc, List.getElem?_append_left (by omega), List.getElem?_take, if_pos (by omega)]
      simpa using this
  · exact ⟨rfl, rfl, rfl, by simp, fun k _ hk => setRow_other w g k _ (fun e => hk (by simp [e]))⟩
end
/-- A cell behind the elements is written: they stay. -/
theorem Own.setOver {w : World} {base g off : Nat} {e : TypeId} {size n c : Nat} {xs : List Value} (h : Own w base e size (some ⟨g, off, none⟩) n c xs) (i : Nat) (hi : n * size ≤ i) (u : Value) : Own (w.setCell ⟨g, off + i, none⟩ u) base e size (some ⟨g, off, none⟩) n c xs := by
  refine ⟨h.len, h.le, h.cap, h.nil, fun a ha => ?_⟩
  obtain ⟨cur, hs, hb, hh, hsz, hx⟩ := h.at_ a ha
  injection ha with ha
  subst ha
  refine ⟨cur.setIfInBounds (off + i) u, hs, hb, by simp [World.setCell, Array.getElem?_modify, hh], by simpa using hsz, fun j v hj => ?_⟩
  have hjl : j < xs.length := by
    rcases Nat.lt_or_ge j xs.length with h' | h'
    · exact h'
    · rw [List.getElem?_eq_none h'] at hj; cases hj
  have := h.len
  simp only
  rw [Array.getElem?_setIfInBounds_ne (by omega)]
  exact hx j v hj
theorem Own.cellOver {w : World} {base g off : Nat} {e : TypeId} {size n c : Nat} {xs : List Value} (h : Own w base e size (some ⟨g, off, none⟩) n c xs) {i : Nat} (hi : i < c * size) : ∃ u, w.cell? ⟨g, off + i, none⟩ = some u := by
  obtain ⟨cur, _, _, hh, hsz, _⟩ := h.at_ _ rfl
  simp only at hh hsz
  exact ⟨cur[off + i]'(by omega), by rw [cell_of_row w g (off + i) cur _ (0, 0) hh]; exact Array.getElem?_eq_getElem (by omega)⟩

theorem key_zero_one : ∀ u ∈ (Builtin.zeroCells (Value.agg #[.int .i64 0, .slice none 0 0, .int .i64 0, .int .i64 0]).cells 1).toList, u.oneCell' = true := by
  have e : (Builtin.zeroCells (Value.agg #[.int .i64 0, .slice none 0 0, .int .i64 0, .int .i64 0]).cells 1).toList = [.int .i64 0, .slice none 0 0, .int .i64 0, .int .i64 0] := by first | kernel_rfl | simp [Builtin.zeroCells, Value.cells]
  rw [e]
  intro u hu
  simp at hu
  rcases hu with rfl | rfl | rfl | rfl <;> rfl
theorem key_zero_len : (Builtin.zeroCells (Value.agg #[.int .i64 0, .slice none 0 0, .int .i64 0, .int .i64 0]).cells 1).toList.length = 4 := by first | kernel_rfl | simp [Builtin.zeroCells, Value.cells]
set_option maxHeartbeats 6400000 in
set_option maxRecDepth 100000 in
theorem delete_any (base : Nat) (l : List KyR) (g o i j d : Nat) (w : World) (hO : Own w base 46 4 (some ⟨g, o, none⟩) (i + j + 1) d (kvs l)) (hl : l.length = i + j + 1) (hn : i + j + 1 ≤ 8) :
    Calls Try.prog 51 #[.slice (some ⟨g, o, none⟩) (i + j + 1) d, .int .i64 (i : Int), .int .i64 ((i : Int) + 1)] w fun e w' => e = .returned (.slice (some ⟨g, o, none⟩) (i + j) d) ∧ Own w' base 46 4 (some ⟨g, o, none⟩) (i + j) d (kvs (l.eraseIdx i)) ∧ w.grownBy w' (some g) := by
  obtain ⟨j0, hj0, hy0, hy1, hy2⟩ := info_parts keyinfo
  have hd := hO.le
  have hcut := (hO.cut (m := i) (by omega)).drew
  rw [kvs_take] at hcut
  have hRn := (hO.rd.drop_lit ((i + 1) * 4)).drew
  rw [kvs_drop] at hRn
  have q1 : Hid ((kvs (l.drop (i + 1))).length = j * 4) := by show _ = _; rw [kvs_len, List.length_drop, hl]; omega
  have HRn1 : Hid (Rd w.drew (if d = i + 1 then some ⟨g, o, none⟩ else some ⟨g, o + (i + 1) * 4, none⟩) (kvs (l.drop (i + 1)))) := by
    show Rd _ _ _
    split
    · rw [List.drop_of_length_le (by omega)]
      exact Rd.nil _ _
    · exact hRn
  have HL := Lib.hid hl
  clear hl
  have hip : (0 : Int) ≤ (i : Int) := by omega
  have hdI : (i : Int) + (j : Int) + 1 ≤ (d : Int) := by omega
  have hi1 : (i : Int) + 1 ≤ (i : Int) + (j : Int) + 1 := by omega
  have hid1 : (i : Int) + 1 ≤ (d : Int) := by omega
  have hip1 : (0 : Int) ≤ (i : Int) + 1 := by omega
  have hid0 : (i : Int) ≤ (d : Int) := by omega
  have hwr : IntKind.i64.wrap ((i : Int) + 1) = (i : Int) + 1 := IntWalk.i64_in _ (by omega)
  go_enter Try.func51, Try.ntmps51
  go_wp2_with fail
  go_still_tail 6, (by kernel_rfl)
  go_wp2_with (at_builtin; (refine wpList_append_fits w.drew rfl (.tmp 22) (.tmp 25) 42 rfl base 46 j0 4 Try.underlying42 hj0 hy1 g o i d (kvs (l.take i)) rfl hcut (if d = i + 1 then some ⟨g, o, none⟩ else some ⟨g, o + (i + 1) * 4, none⟩) j (d - (i + 1)) (kvs (l.drop (i + 1))) rfl q1.out HRn1.out (kvs_one _) (by omega) ?_; intro w7 hO7 hg7; obtain ⟨w8, hclr, hO8, hg8⟩ := run_clear_own w7 42 0 46 j0 _ 4 Try.underlying42 hj0 hy0 key_zero_len key_zero_one base g o (i + j) d (d - (i + j)) _ hO7 (by omega)))
  all_goals go_ret
  all_goals rw [kvs_erase] at hO8
  all_goals refine ⟨rfl, ?_, World.grownBy.trans (show w.grownBy w7 (some g) from ⟨hg7.os, hg7.tape, hg7.output, hg7.size, hg7.block⟩) hg8⟩
  all_goals first | exact hO8 | exact (show d = i + 1 by assumption) ▸ hO8
end Go.Proofs.Ytkbaganbfcbioaa
namespace Go.Proofs.Ytkbaganbfcbioaa
set_option linter.unusedSimpArgs false
set_option linter.unusedVariables false
open Go.RowKit

theorem OwnRes.open_ {w w' : World} {r : List Ky × Bool} {e : Ending} {L : List Ky} {b : Bool} (hr : r = (L, b)) (h : OwnRes w w' r e) :
    ∃ B c l, e = .returned (.tuple #[.agg #[.slice B L.length c], .bool b]) ∧ l.map KyR.k = L ∧ Own w' w.heap.size 46 4 B L.length c (kvs l) ∧ OwnWords w' w.heap.size l ∧ Below w.heap.size w w' := by
  subst hr
  obtain ⟨B, c, rfl, ⟨l, h1, h2, h3⟩, hb⟩ := h
  exact ⟨B, c, l, rfl, h1, h2, h3, hb⟩
set_option maxHeartbeats 6400000 in
set_option maxRecDepth 100000 in
theorem pdrop_any (l : List KyR) (L : List Ky) (B : Option Addr) (n d : Nat) (id : Int) (w : World) (hl : l.map KyR.k = L) (hn : L.length = n) (h : RdRing w B l) (hf : RingFits L) :
    Calls Try.prog 30 #[.agg #[.slice B n d], .int .i64 id] w fun e w' => RingRes w w' (dropR L id) e := by
  have HW := Lib.hid (fun (w : World) (h : RdRing w B l) => own_any l L B n d w hl hn h hf)
  obtain ⟨R, hR⟩ : ∃ R, R = dropR L id := ⟨_, rfl⟩
  rw [← hR]
  have HRd := Lib.hid h
  have HN := Lib.hid hn
  obtain ⟨b0, b1, hB0, hz0⟩ := box2 w #[.slice B n d] #[.slice none 0 0] 44 44
  clear hl hn h
  by_cases hok : ringOk L
  · have hR2 : R = (match kfind L id with | none => (L, 10) | some i => (L.eraseIdx i, 0)) := by rw [hR]; exact if_pos hok
    have HR := Lib.hid hR2
    have HO : Hid (ownR L = (L, true)) := Lib.hid (if_pos hok)
    have hn8 : n ≤ 8 := by rw [← HN.out]; exact hok.1
    clear hR hR2 hok
    go_enter Try.func30, Try.ntmps30
    go_wp2_with fail
    generalize (w.alloc (.cells #[.slice B n d] 44)).alloc (.cells #[.slice none 0 0] 44) = W at *
    refine (HW.out W (HRd.out.step hB0)).mono ?_
    intro e w1 h1
    obtain ⟨B1, c1, m, rfl, hm, hO, hD, hb⟩ := h1.open_ HO.out
    clear h1
    rw [HN.out] at hO ⊢
    replace b0 := b0.step hb
    replace b1 := b1.step hb
    have z1 := hb.size
    replace hB0 := hB0.trans (hb.mono hB0.size)
    have k0 := b0.cell' (i := 0) rfl
    have f0 := b0.frozen
    have b0' := blk1_set b0 (.slice B1 n c1)
    have b1' := b1.far (p := ⟨w.heap.size, 0, none⟩) (by simp) (.slice B1 n c1)
    have hne : ∀ q, blk B1 = some q → w.heap.size + 2 ≤ q := fun q hq => by have := (hO.lt q hq).1; omega
    have hO' := hO.setFar (p := ⟨w.heap.size, 0, none⟩) (fun e => by have : w.heap.size + 2 ≤ w.heap.size := hne _ e; omega) (.slice B1 n c1)
    have hD' := hD.map (fun _ _ _ _ h => h.setFar (p := ⟨w.heap.size, 0, none⟩) (fun e => by have : W.heap.size ≤ w.heap.size := (h.lt _ e).1; omega) (.slice B1 n c1))
    have hB' := hB0.setCell (p := ⟨w.heap.size, 0, none⟩) (Nat.le_refl _) (.slice B1 n c1)
    have z1' : (w1.setCell ⟨w.heap.size, 0, none⟩ (.slice B1 n c1)).heap.size = w1.heap.size := by simp
    have k0' := b0'.cell' (i := 0) rfl
    clear hO hD hB0 b1 HW HO
    go_wp2_with fail
    generalize w1.setCell ⟨w.heap.size, 0, none⟩ (.slice B1 n c1) = W1 at *
    clear k0 f0 b0 k0'
    refine (find_any m L B1 n c1 id W1 hm HN.out (OwnWords.rd hO' hD') hn8).mono ?_
    rintro e w2 ⟨rfl, hb2⟩
    replace b0 := b0'.step hb2
    replace b1 := b1'.step hb2
    have hO := hO'.step hb2
    have hD := hD'.step hb2
    have hB := hB'.trans (hb2.mono hB'.size)
    have k0 := b0.cell' (i := 0) rfl
    have f0 := b0.frozen
    clear b0' b1' hO' hD' hB' hb2
    rcases hk : kfind L id with _ | i
    · have hki : kidx L id = -1 := by unfold kidx; rw [hk]
      obtain rfl : R = (L, 10) := by rw [HR.out, hk]
      rw [hki]
      have e1 := b1.cell' (i := 0) rfl
      have ef := b1.frozen
      have b2 := blk1_set b1 (.slice B1 n c1)
      have e2 := b2.cell' (i := 0) rfl
      go_wp2_with fail
      refine bodyPost_ret (v := .tuple #[.agg #[.slice B1 n c1], .int .i64 10]) (by simp [results, Try.results30, go_sem, e2]) rfl ?_
      refine ⟨B1, c1, by rw [HN.out], ?_, hB.setCell (p := ⟨w.heap.size + 1, 0, none⟩) (by simp) _⟩
      rw [HN.out]
      exact ⟨m, hm, (hO.setFar (p := ⟨w.heap.size + 1, 0, none⟩) (fun e => by have : w.heap.size + 2 ≤ w.heap.size + 1 := hne _ e; omega) _).mono (by omega), hD.map (fun _ _ _ _ h => (h.setFar (p := ⟨w.heap.size + 1, 0, none⟩) (fun e => by have : W.heap.size ≤ w.heap.size + 1 := (h.lt _ e).1; omega) _).mono (by omega))⟩
    · have hki : kidx L id = (i : Int) := by unfold kidx; rw [hk]
      obtain rfl : R = (L.eraseIdx i, 0) := by rw [HR.out, hk]
      have hiL : i < n := by
        rw [← HN.out]
        unfold kfind at hk
        exact (List.findIdx?_eq_some_iff_getElem.1 hk).1
      rw [hki]
      clear hki hk
      obtain ⟨j, rfl⟩ : ∃ j, n = i + j + 1 := ⟨n - i - 1, by omega⟩
      obtain ⟨g, o, rfl, hg1, hg2⟩ := hO.form (by have := hO.le; omega)
      have hml : m.length = i + j + 1 := by have := congrArg List.length hm; rw [← HN.out]; simpa using this
      have CD := Lib.hid (delete_any W.heap.size m g o i j c1 w2 hO hml hn8)
      have hip : (0 : Int) ≤ (i : Int) := by omega
      have hwr : IntKind.i64.wrap ((i : Int) + 1) = (i : Int) + 1 := IntWalk.i64_in _ (by omega)
      clear hne hml
      go_wp2_with fail
      refine (CD.out).mono ?_
      rintro e w3 ⟨rfl, hO3, hg3⟩
      have z3 := hg3.size
      replace b0 := b0.over hg3 (fun q hq e => by injection hq with hq; injection e with e; omega)
      replace b1 := b1.over hg3 (fun q hq e => by injection hq with hq; injection e with e; omega)
      have hD3 : OwnWords w3 W.heap.size (m.eraseIdx i) := (hD.erase i).map (fun A n' c xs h => h.over hg3 (fun q hq e => (h.apart hO (by decide)) q e hq))
      have hB3 : Below w.heap.size w w3 := hB.grown hg3 hB.size (fun q hq => by injection hq with hq; omega)
      clear hO hD hB k0 f0
      have s0 := b0.cell' (i := 0) rfl
      have f0 := b0.frozen
      have b0' := blk1_set b0 (.slice (some ⟨g, o, none⟩) (i + j) c1)
      have b1' := b1.far (p := ⟨w.heap.size, 0, none⟩) (by simp) (.slice (some ⟨g, o, none⟩) (i + j) c1)
      have s1 := b0'.cell' (i := 0) rfl
      have e1 := b1'.cell' (i := 0) rfl
      have ef := b1'.frozen
      have b2 := blk1_set b1' (.slice (some ⟨g, o, none⟩) (i + j) c1)
      have e2 := b2.cell' (i := 0) rfl
      go_wp2_with fail
      refine bodyPost_ret (v := .tuple #[.agg #[.slice (some ⟨g, o, none⟩) (i + j) c1], .int .i64 0]) (by simp [results, Try.results30, go_sem, e2]) rfl ?_
      have hle : (L.eraseIdx i).length = i + j := by rw [List.length_eraseIdx_of_lt (by rw [HN.out]; omega), HN.out]; omega
      refine ⟨some ⟨g, o, none⟩, c1, by rw [hle], ?_, (hB3.setCell (p := ⟨w.heap.size, 0, none⟩) (Nat.le_refl _) _).setCell (p := ⟨w.heap.size + 1, 0, none⟩) (by simp) _⟩
      rw [hle]
      refine ⟨m.eraseIdx i, by rw [map_erase, hm], ?_, ?_⟩
      · exact ((hO3.setFar (p := ⟨w.heap.size, 0, none⟩) (fun e => by have : W.heap.size ≤ w.heap.size := (hO3.lt _ e).1; omega) _).setFar (p := ⟨w.heap.size + 1, 0, none⟩) (fun e => by have : W.heap.size ≤ w.heap.size + 1 := (hO3.lt _ e).1; omega) _).mono (by omega)
      · exact hD3.map (fun _ _ _ _ h => ((h.setFar (p := ⟨w.heap.size, 0, none⟩) (fun e => by have : W.heap.size ≤ w.heap.size := (h.lt _ e).1; omega) _).setFar (p := ⟨w.heap.size + 1, 0, none⟩) (fun e => by have : W.heap.size ≤ w.heap.size + 1 := (h.lt _ e).1; omega) _).mono (by omega))
  · obtain rfl : R = ([], 11) := by rw [hR]; exact if_neg hok
    have HO : Hid (ownR L = ([], false)) := Lib.hid (if_neg hok)
    clear hR hok
    go_enter Try.func30, Try.ntmps30
    go_wp2_with fail
    generalize (w.alloc (.cells #[.slice B n d] 44)).alloc (.cells #[.slice none 0 0] 44) = W at *
    refine (HW.out W (HRd.out.step hB0)).mono ?_
    intro e w1 h1
    rw [HO.out] at h1
    obtain ⟨B1, c1, rfl, ⟨m, hm, hO, hD⟩, hb⟩ := h1
    dsimp only [List.length_nil] at hO ⊢
    have hmn : m = [] := by simpa using hm
    subst hmn
    replace b0 := b0.step hb
    replace b1 := b1.step hb
    have z1 := hb.size
    replace hB0 := hB0.trans (hb.mono hB0.size)
    have k0 := b0.cell' (i := 0) rfl
    have f0 := b0.frozen
    have b0' := blk1_set b0 (.slice B1 0 c1)
    have b1' := b1.far (p := ⟨w.heap.size, 0, none⟩) (by simp) (.slice B1 0 c1)
    have k0' := b0'.cell' (i := 0) rfl
    have e1 := b1'.cell' (i := 0) rfl
    have ef := b1'.frozen
    have b2 := blk1_set b1' (.slice B1 0 c1)
    have e2 := b2.cell' (i := 0) rfl
    go_wp2_with fail
    refine bodyPost_ret (v := .tuple #[.agg #[.slice B1 0 c1], .int .i64 11]) (by simp [results, Try.results30, go_sem, e2]) rfl ?_
    refine ⟨B1, c1, rfl, ⟨[], rfl, ?_, OwnWords.nil _ _⟩, (hB0.setCell (p := ⟨w.heap.size, 0, none⟩) (Nat.le_refl _) _).setCell (p := ⟨w.heap.size + 1, 0, none⟩) (by simp) _⟩
    exact ((hO.setFar (p := ⟨w.heap.size, 0, none⟩) (fun e => by have : W.heap.size ≤ w.heap.size := (hO.lt _ e).1; omega) _).setFar (p := ⟨w.heap.size + 1, 0, none⟩) (fun e => by have : W.heap.size ≤ w.heap.size + 1 := (hO.lt _ e).1; omega) _).mono (by omega)
end Go.Proofs.Ytkbaganbfcbioaa
namespace Go.Proofs.Ytkbaganbfcbioaa
set_option linter.unusedSimpArgs false
set_option linter.unusedVariables false
open Go.RowKit

/-- P, moved to the left end: y; a number of 96 bits over it: T = N * 2^32 + u. -/
def dY : Nat := 18446744073709551608
theorem dY_eq : dY = 18446744073709551608 := rfl
def dN1 (hi lo : Nat) : Nat := (hi * 8 + lo / 2305843009213693952) * 4294967296 + lo * 8 % 18446744073709551616 / 4294967296
def dN2 (hi lo : Nat) : Nat := dN1 hi lo % dY * 4294967296 + lo * 8 % 18446744073709551616 % 4294967296
theorem div_rem {hi lo : Nat} (hh : hi < bP) (hl : lo < 18446744073709551616) : dN2 hi lo % dY / 8 = (hi * 18446744073709551616 + lo) % bP := by
  have e1 : (hi * 18446744073709551616 + lo) * 8 = dN1 hi lo * 4294967296 + lo * 8 % 18446744073709551616 % 4294967296 := by unfold dN1; omega
  have e2 : dN2 hi lo % dY = (hi * 18446744073709551616 + lo) * 8 % dY := by
    rw [e1]
    unfold dN2
    generalize dN1 hi lo = a
    generalize lo * 8 % 18446744073709551616 % 4294967296 = b
    rw [Nat.add_mod, Nat.mul_mod, Nat.mod_mod, ← Nat.mul_mod, ← Nat.add_mod]
  have e3 : (hi * 18446744073709551616 + lo) * 8 % dY = (hi * 18446744073709551616 + lo) % bP * 8 := by
    rw [Nat.mul_comm _ 8, show dY = 8 * bP from rfl, Nat.mul_mod_mul_left, Nat.mul_comm]
  rw [e2, e3]
  omega
/-- One step: q, r are what is guessed; Q is the quotient. -/
structure Guess (u v q r : Nat) : Prop where
  sum : q * 4294967295 + r = u
  le : (u * 4294967296 + v) / dY ≤ q
  bound : u ≤ 18446744073709551607
  low : v < 4294967296
theorem Guess.start {u v : Nat} (hu : u ≤ 18446744073709551607) (hv : v < 4294967296) : Guess u v (u / 4294967295) (u - u / 4294967295 * 4294967295) ∧ u - u / 4294967295 * 4294967295 < 4294967296 := by
  refine ⟨⟨by omega, ?_, hu, hv⟩, by omega⟩
  simp only [dY_eq]
  omega
set_option maxRecDepth 100000 in
theorem Guess.more {u v q r : Nat} (h : Guess u v q r) (ht : 4294967296 ≤ q ∨ r * 4294967296 + v < q * 4294967288) : 1 ≤ q ∧ Guess u v (q - 1) (r + 4294967295) := by
  obtain ⟨hs, hl, hb, hv⟩ := h
  simp only [dY_eq] at hl
  have h2 : (u * 4294967296 + v) / dY + 1 ≤ q := by
    simp only [dY_eq]
    omega
  simp only [dY_eq] at h2
  have h1 : 1 ≤ q := by omega
  obtain ⟨p, rfl⟩ : ∃ p, q = p + 1 := ⟨q - 1, by omega⟩
  have hs2 : p * 4294967295 + (r + 4294967295) = u := by rw [← hs, Nat.add_mul, Nat.one_mul, Nat.add_assoc, Nat.add_comm r]
  have hl2 : (u * 4294967296 + v) / dY ≤ p := by simp only [dY_eq]; omega
  rw [Nat.add_sub_cancel]
  exact ⟨h1, { sum := hs2, le := hl2, bound := hb, low := hv }⟩
theorem Guess.less {u v q r : Nat} (h : Guess u v q r) (h1 : q < 4294967296) (h2 : q * 4294967288 ≤ r * 4294967296 + v) : q = (u * 4294967296 + v) / dY := by
  obtain ⟨hs, hl, hb, hv⟩ := h
  simp only [dY_eq] at hl ⊢
  omega
theorem Guess.over {u v q r : Nat} (h : Guess u v q r) (h2 : 4294967296 ≤ r) : q = (u * 4294967296 + v) / dY := by
  obtain ⟨hs, hl, hb, hv⟩ := h
  simp only [dY_eq] at hl ⊢
  omega
/-- What is left of a step, by numbers of 64 bits. -/
theorem step_wrap {U V Q : Nat} (h1 : Q * 18446744073709551608 ≤ U * 4294967296 + V) (h2 : U * 4294967296 + V - Q * 18446744073709551608 < 18446744073709551608) :
    IntKind.u64.wrap (IntKind.u64.wrap (IntKind.u64.wrap ((U : Int) * 4294967296) + (V : Int)) - IntKind.u64.wrap ((Q : Int) * 18446744073709551608)) = ((U * 4294967296 + V - Q * 18446744073709551608 : Nat) : Int) := by
  simp only [IntKind.wrap_u64]
  rw [Int.emod_add_emod, ← Int.sub_emod]
  have e : (U : Int) * 4294967296 + (V : Int) - (Q : Int) * 18446744073709551608 = ((U * 4294967296 + V - Q * 18446744073709551608 : Nat) : Int) := by omega
  rw [e]
  generalize U * 4294967296 + V - Q * 18446744073709551608 = X at *
  omega
/-- The quotient of a step. -/
theorem step_quo {U V Q : Nat} (hq : Q = (U * 4294967296 + V) / dY) (hu : U ≤ 18446744073709551607) (hv : V < 4294967296) :
    Q < 4294967296 ∧ Q * 18446744073709551608 ≤ U * 4294967296 + V ∧ (U * 4294967296 + V) % dY = U * 4294967296 + V - Q * 18446744073709551608 ∧ U * 4294967296 + V - Q * 18446744073709551608 < 18446744073709551608 := by
  rw [hq]
  simp only [dY_eq]
  generalize hN : U * 4294967296 + V = N at *
  have hb : N < 18446744073709551608 * 4294967296 := by omega
  refine ⟨?_, ?_, ?_, ?_⟩ <;> omega
end Go.Proofs.Ytkbaganbfcbioaa
