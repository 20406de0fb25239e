/-
  A key: what it reads as; whether it may be. Plainly. Rows of structs: the cells of a list of them. Plainly. The document's block of a key.
-/
import Derived.Test.YtkbaganbfcbioaaMKeysOpens2
import Derived.Test.YtkbaganbfcbioaaMKeysOpens4
import Derived.Test.YtkbaganbfcbioaaMKeysOpens1
import Derived.Deep.LoopGhost
namespace Go.Proofs.Ytkbaganbfcbioaa
set_option linter.unusedSimpArgs false
set_option linter.unusedVariables false
open Go.RowKit

structure Ky where
  id : Int
  words : List Int
  top : Int
  seen : Int
def kyv (x : Ky) (A : Option Addr) (c : Nat) : Value := .agg #[.int .i64 x.id, .slice A x.words.length c, .int .i64 x.top, .int .i64 x.seen]
def keyPre (x : Ky) : Prop := ((0 ≤ x.id ∧ x.id ≤ 255) ∧ padErr x.words 0 0 = 0) ∧ (-1 ≤ x.top ∧ x.top ≤ 281474976710655) ∧ 0 ≤ x.seen
instance (x : Ky) : Decidable (keyPre x) := by unfold keyPre; infer_instance
def keyOk (x : Ky) : Prop := keyPre x ∧ x.seen.toNat < 2 ^ (min 62 x.top.toNat)
instance (x : Ky) : Decidable (keyOk x) := by unfold keyOk; infer_instance
theorem keyOk_seen {x : Ky} (h : keyPre x) : keyOk x ↔ seenOk x.seen.toNat x.top := by
  unfold keyOk
  rw [seen_iff]
  exact ⟨fun h => h.2, fun k => ⟨h, k⟩⟩
theorem keyOk_len {x : Ky} (h : keyPre x) : keyOk x ↔ lenB x.seen.toNat ≤ min 62 x.top.toNat := by
  unfold keyOk
  rw [lenB_le]
  exact ⟨fun h => h.2, fun k => ⟨h, k⟩⟩
theorem keyOk_not {x : Ky} (h : ¬ keyPre x) : decide (keyOk x) = false := decide_eq_false (fun k => h k.1)
/-- Six bytes of a counter, the highest first. -/
def be6To (s i : Nat) : List UInt8 := (List.range i).map fun j => UInt8.ofNat (s / 2 ^ (40 - 8 * j))
theorem be6To_zero (s : Nat) : be6To s 0 = [] := rfl
theorem be6To_succ (s i : Nat) : be6To s (i + 1) = be6To s i ++ [UInt8.ofNat (s / 2 ^ (40 - 8 * i))] := by simp [be6To, List.range_succ]
theorem be6To_len (s i : Nat) : (be6To s i).length = i := by simp [be6To]
/-- What is sealed, but for the tag; the whole. -/
def sealHead (x : Ky) (C : Nat) : List UInt8 := [UInt8.ofNat x.id.toNat] ++ be6To C 6
def coverL (W : List Nat) (C : Nat) (b : List UInt8) : List UInt8 := coverTo W C b b.length
theorem coverL_len (W : List Nat) (C : Nat) (b : List UInt8) : (coverL W C b).length = b.length := coverTo_len _ _ _ _
def sealBody (x : Ky) (C : Nat) (b : List UInt8) : List UInt8 := sealHead x C ++ coverL (x.words.map Int.toNat) C b
def sealL (x : Ky) (C : Nat) (b : List UInt8) : List UInt8 := sealBody x C b ++ tagL (x.words.map Int.toNat) C (sealBody x C b)
def sealErr (x : Ky) (C : Int) (n : Nat) : Int := if ¬ keyOk x then 11 else if C < 0 ∨ 281474976710655 < C then 2 else if 1000 < n then 1 else 0
def sealR (x : Ky) (C : Int) (b : List UInt8) : List UInt8 × Int := if sealErr x C b.length = 0 then (sealL x C.toNat b, 0) else ([], sealErr x C b.length)
theorem sealHead_len (x : Ky) (C : Nat) : (sealHead x C).length = 7 := by simp [sealHead, be6To_len]
theorem sealBody_len (x : Ky) (C : Nat) (b : List UInt8) : (sealBody x C b).length = 7 + b.length := by simp [sealBody, sealHead_len, coverL_len]
theorem sealL_len (x : Ky) (C : Nat) (b : List UInt8) : (sealL x C b).length = 15 + b.length := by simp [sealL, sealBody_len, tagL_len]; omega
end Go.Proofs.Ytkbaganbfcbioaa
namespace Go.Proofs.Ytkbaganbfcbioaa
set_option linter.unusedSimpArgs false
set_option linter.unusedVariables false
section
variable {α : Type} {f : α → List Value} {s : Nat}
theorem fm_len (hf : ∀ x, (f x).length = s) : ∀ l : List α, (l.flatMap f).length = l.length * s
  | [] => by simp
  | x :: l => by rw [List.flatMap_cons, List.length_append, hf, fm_len hf l, List.length_cons, Nat.succ_mul]; omega
theorem fm_get (hf : ∀ x, (f x).length = s) : ∀ (l : List α) (i : Nat) (x : α) (j : Nat), l[i]? = some x → j < s → (l.flatMap f)[i * s + j]? = (f x)[j]?
  | [], i, x, j, h, _ => by simp at h
  | y :: l, 0, x, j, h, hj => by
    simp at h
    subst h
    rw [List.flatMap_cons, Nat.zero_mul, Nat.zero_add, List.getElem?_append_left (by rw [hf]; exact hj)]
  | y :: l, i + 1, x, j, h, hj => by
    rw [List.flatMap_cons, List.getElem?_append_right (by rw [hf, Nat.succ_mul]; omega), hf, show (i + 1) * s + j - s = i * s + j by rw [Nat.succ_mul]; omega]
    exact fm_get hf l i x j (by simpa using h) hj
theorem fm_set (hf : ∀ x, (f x).length = s) : ∀ (l : List α) (i : Nat) (x y : α) (j : Nat) (v : Value), l[i]? = some x → j < s → f y = (f x).set j v → (l.flatMap f).set (i * s + j) v = (l.set i y).flatMap f
  | [], i, x, y, j, v, h, _, _ => by simp at h
  | z :: l, 0, x, y, j, v, h, hj, hy => by
    simp at h
    subst h
    rw [List.flatMap_cons, Nat.zero_mul, Nat.zero_add, List.set_append_left _ _ (by rw [hf]; exact hj), List.set_cons_zero, List.flatMap_cons, hy]
  | z :: l, i + 1, x, y, j, v, h, hj, hy => by
    rw [List.flatMap_cons, List.set_append_right _ _ (by rw [hf, Nat.succ_mul]; omega), hf, show (i + 1) * s + j - s = i * s + j by rw [Nat.succ_mul]; omega, List.set_cons_succ, List.flatMap_cons,
      fm_set hf l i x y j v (by simpa using h) hj hy]
theorem fm_snoc (l : List α) (x : α) : (l ++ [x]).flatMap f = l.flatMap f ++ f x := by simp
end
end Go.Proofs.Ytkbaganbfcbioaa
namespace Go.Proofs.Ytkbaganbfcbioaa
set_option linter.unusedSimpArgs false
set_option linter.unusedVariables false
open Go.RowKit

theorem ivs_one4 (a b c d : Int) : ∀ u ∈ [Value.int .i64 a, .int .i64 b, .int .i64 c, .int .i64 d], u.oneCell' = true := by
  intro u hu
  simp at hu
  rcases hu with rfl | rfl | rfl | rfl <;> rfl
theorem byte_one4 (a b c d : Int) : ∀ u ∈ [Value.int .u8 a, .int .u8 b, .int .u8 c, .int .u8 d], u.oneCell' = true := by
  intro u hu
  simp at hu
  rcases hu with rfl | rfl | rfl | rfl <;> rfl
theorem le4_vals (x y : Nat) : bvs (le4 (add32 x y)) = [.int .u8 (((x : Int) + (y : Int)) % 256), .int .u8 (((x : Int) + (y : Int)) / 256 % 256), .int .u8 (((x : Int) + (y : Int)) / 65536 % 256), .int .u8 (((x : Int) + (y : Int)) / 16777216 % 256)] := by
  have h1 : ((UInt8.ofNat (add32 x y)).toNat : Int) = ((x : Int) + (y : Int)) % 256 := by rw [UInt8.toNat_ofNat']; unfold add32; omega
  have h2 : ((UInt8.ofNat (add32 x y / 256)).toNat : Int) = ((x : Int) + (y : Int)) / 256 % 256 := by rw [UInt8.toNat_ofNat']; unfold add32; omega
  have h3 : ((UInt8.ofNat (add32 x y / 65536)).toNat : Int) = ((x : Int) + (y : Int)) / 65536 % 256 := by rw [UInt8.toNat_ofNat']; unfold add32; omega
  have h4 : ((UInt8.ofNat (add32 x y / 16777216)).toNat : Int) = ((x : Int) + (y : Int)) / 16777216 % 256 := by rw [UInt8.toNat_ofNat']; unfold add32; omega
  simp only [bvs, le4, List.map_cons, List.map_nil, bv, h1, h2, h3, h4]

theorem Own.apart {w : World} {b b' : Nat} {e e' : TypeId} {s s' n n' c c' : Nat} {A A' : Option Addr} {xs ys : List Value} (h : Own w b e s A n c xs) (h' : Own w b' e' s' A' n' c' ys) (hne : e ≠ e') : ∀ q, blk A = some q → blk A' ≠ some q := by
  intro q hq hq'
  rcases A with _ | a
  · simp [blk] at hq
  rcases A' with _ | a'
  · simp [blk] at hq'
  obtain ⟨cur, _, _, hh, _⟩ := h.at_ _ rfl
  obtain ⟨cur', _, _, hh', _⟩ := h'.at_ _ rfl
  have e1 : a.block = q := by simpa [blk] using hq
  have e2 : a'.block = q := by simpa [blk] using hq'
  rw [e1] at hh
  rw [e2, hh] at hh'
  injection hh' with hh'
  injection hh' with _ ht
  exact hne ht

set_option maxHeartbeats 3200000 in
set_option maxRecDepth 100000 in
theorem pad_good (A : Option Addr) (W : List Nat) (cp : Nat) (C I : Nat) (w : World) (hl : W.length = 8) (hW : ∀ i, W.getD i 0 < 4294967296) (ha : Rd w A (ivs (nls W))) (hC : C ≤ 281474976710655) (hI : I ≤ 1000)
    (he : padErr (nls W) (C : Int) (I : Int) = 0) (hF : Sq (firstL W C I)) :
    Calls Try.prog 39 #[.slice A 8 cp, .int .i64 (C : Int), .int .i64 (I : Int)] w fun e w' => BytesRes w w' (padL W C I, 0) e := by
  obtain ⟨i0, hi0, hz0, hz1, hz2⟩ := info_parts u8info
  obtain ⟨j0, hj0, hy0, hy1, hy2⟩ := info_parts i64info
  have HE := Lib.hid he
  have HL := Lib.hid hl
  have hP := fun w => Lib.hid (rpadded_any A (nls W) 8 cp (C : Int) (I : Int) w (by rw [nls_length]; exact hl))
  have a1 := and32 (x := C) (by omega)
  clear hl he
  go_enter Try.func39, Try.ntmps39
  go_wp2_with fail
  refine ((hP w).out ha (by omega)).mono ?_
  rintro e w' ⟨rfl, rfl⟩
  rw [HE.out]
  clear hP HE
  -- the sixteen numbers
  have q1 : (ivs (nls W)).length = 8 * 1 := by rw [ivs_length, nls_length, HL.out]
  have Q1 := Lib.hid q1
  clear q1
  have hO0 : Own (w.alloc (.cells #[.int .i64 1752326502, .int .i64 745302369, .int .i64 2036689696, .int .i64 1684107296] 3)) w.heap.size 3 1 (some ⟨w.heap.size, 0, none⟩) 4 4 (ivs (nls [1752326502, 745302369, 2036689696, 1684107296])) :=
    Own.of_block (heap_alloc_new w _) (Nat.le_refl _) (by simp [ivs, nls]) (Nat.le_refl _) (by unfold maxLen; omega) (by simp) (fun i u h => by simpa [ivs, nls, iv] using h)
  have m1 : 4 + 8 ≤ maxLen := by unfold maxLen; omega
  have m2 : (4 + 8) * 8 ≤ 140737488355328 := by omega
  have m3 : 12 + 4 ≤ maxLen := by unfold maxLen; omega
  have m4 : (12 + 4) * 8 ≤ 140737488355328 := by omega
  have m5 : 0 + 16 ≤ maxLen := by unfold maxLen; omega
  have m6 : (0 + 16) * 8 ≤ 140737488355328 := by omega
  have haw := ha.alloc (.cells #[.int .i64 1752326502, .int .i64 745302369, .int .i64 2036689696, .int .i64 1684107296] 3)
  have hB0 : Below w.heap.size w (w.alloc (.cells #[.int .i64 1752326502, .int .i64 745302369, .int .i64 2036689696, .int .i64 1684107296] 3)) := (Below.refl _ _).alloc (Nat.le_refl _) _
  have one4 := ivs_one4 (I : Int) ((C : Int) % 4294967296) ((C : Int) / 4294967296) 0
  have HV : Hid (ivs (nls [1752326502, 745302369, 2036689696, 1684107296]) ++ ivs (nls W) ++ [Value.int .i64 (I : Int), .int .i64 ((C : Int) % 4294967296), .int .i64 ((C : Int) / 4294967296), .int .i64 0] = ivs (nls (firstL W C I))) := by
    show _ = _
    unfold firstL nls
    simp [ivs, iv]
  go_wp2_with (first
    | (at_builtin; refine wpList_append_Own _ rfl (.tmp 25) (.tmp 26) 35 rfl w.heap.size 3 j0 _ 1 8 Try.underlying35 hj0 hy0 hy1 hy2 rfl _ 4 4 _ rfl hO0 A 8 cp (ivs (nls W)) rfl Q1.out haw (ivs_one _) m1 m2 hB0.size ?_; intro A1 c1 w1 hO1 hg1 hor1; have hB1 := hB0.grown hg1 hB0.size (fun q hq => (hO0.lt q hq).1); clear hO0 hB0 haw hg1 hor1; have hB1' : Below w.heap.size w (w1.alloc (.cells #[.int .i64 (I : Int), .int .i64 ((C : Int) % 4294967296), .int .i64 ((C : Int) / 4294967296), .int .i64 0] 3)) := hB1.alloc hB1.size _)
    | (at_builtin; refine wpList_append_Own _ rfl (.tmp 28) (.tmp 34) 35 rfl w.heap.size 3 j0 _ 1 8 Try.underlying35 hj0 hy0 hy1 hy2 rfl A1 12 c1 _ rfl (hO1.alloc _) _ 4 4 _ rfl rfl (Rd_lit w1 [.int .i64 (I : Int), .int .i64 ((C : Int) % 4294967296), .int .i64 ((C : Int) / 4294967296), .int .i64 0] 3) one4 m3 m4 hB1'.size ?_; intro A2 c2 w2 hO2 hg2 hor2; have hB2 := hB1'.grown hg2 hB1'.size (fun q hq => (hO1.lt q hq).1); rw [HV.out] at hO2; clear hg2 hor2 hO1 hB1 hB1' one4; have Q2 : Hid ((ivs (nls (firstL W C I))).length = 16 * 1) := hO2.len)
    | (at_builtin; refine wpList_append_Own _ rfl (.const (.slice none 0 0)) (.tmp 36) 35 rfl w2.heap.size 3 j0 _ 1 8 Try.underlying35 hj0 hy0 hy1 hy2 rfl none 0 0 [] rfl (Own.none_ _ _ _ _) A2 16 c2 (ivs (nls (firstL W C I))) rfl Q2.out hO2.rd (ivs_one _) m5 m6 (Nat.le_refl _) ?_; intro A3 c3 w3 hO3 hg3 hor3; have hb3 := below_of_grown hg3; clear hg3 hor3))
  obtain ⟨g, o, rfl, hg0, _⟩ := hO3.form (by have := hO3.le; omega)
  have hne : blk A2 ≠ some g := fun e => by have := (hO2.lt g e).2; omega
  have hg : w.heap.size ≤ g := Nat.le_trans hB2.size hg0
  have hB := hB2.trans (hb3.mono hB2.size)
  have hA := hO2.below hb3
  have hQ : Own w3 w.heap.size 3 1 (some ⟨g, o, none⟩) 16 c3 (ivs (nls (roundsL (firstL W C I) 0))) := by rw [roundsL_zero]; simpa using hO3.mono hB2.size
  have HP := Lib.hid (padL_eq W C I)
  generalize firstL W C I = F at *
  clear hO2 hO3 hb3 hB2 Q2 HV Q1 m1 m2 m3 m4 m5 m6 a1 ha HL hg0
  go_loopw [11] (fun i wr => ∃ k : Nat, k ≤ 6 ∧ i = .int .i64 k ∧ Own wr w.heap.size 3 1 (some ⟨g, o, none⟩) 16 c3 (ivs (nls (roundsL F k))) ∧ Own wr w.heap.size 3 1 A2 16 c2 (ivs (nls F)) ∧ Below w.heap.size w wr) (fun i _ => 6 - (intOf i).toNat)
  case atStart => exact ⟨0, by omega, by simp, hQ, hA, hB⟩
  case round =>
    obtain ⟨n, hn, rfl, hQ, hA, hB⟩ := hrel
    by_cases h6 : n < 6
    · have sq0 := hF.rounds n
      have h6i : (n : Int) < 6 := by omega
      have HR := Lib.hid (roundsL_succ F n)
      go_wp2_with fail
      have hQ : Own wr w.heap.size 3 1 (some ⟨g, o, none⟩) 16 c3 (ivs (nls (colsL (roundsL F n) 0))) := by rw [colsL_zero]; exact hQ
      generalize roundsL F n = q at *
      obtain ⟨wo, rfl⟩ : ∃ wo : World, wo = wr := ⟨_, rfl⟩
      go_loopw [12] (fun i wr => ∃ k : Nat, k ≤ 4 ∧ i = .int .i64 k ∧ Own wr w.heap.size 3 1 (some ⟨g, o, none⟩) 16 c3 (ivs (nls (colsL q k))) ∧ Own wr w.heap.size 3 1 A2 16 c2 (ivs (nls F)) ∧ Below w.heap.size w wr) (fun i _ => 4 - (intOf i).toNat)
      case atStart => exact ⟨0, by omega, by simp, hQ, hA, hB⟩
      case round =>
        obtain ⟨k, hk, rfl, hQ, hA, hB⟩ := hrel
        by_cases h4 : k < 4
        · have sq := Sq.cols sq0 k
          have h4i : (k : Int) < 4 := by omega
          go_wp2_with fail
          refine (stir_any w.heap.size g o c3 (colsL q k) _ _ _ _ k (k + 4) (k + 8) (k + 12) wr (by omega) (by omega) (by omega) (by omega) (by omega) (by omega) (by omega) (by omega) sq hQ).mono ?_
          rintro e w' ⟨rfl, hQ', hG'⟩
          have hA' := hA.grown hG' (fun q hq e => hne (by injection hq with hq; rw [hq]; exact e))
          have hB' : Below w.heap.size w w' := hB.grown hG' hB.size (fun q hq => by injection hq with hq; rw [← hq]; exact hg)
          clear hQ hA hB
          go_wp2_with fail
          go_roundw
          case rel =>
            have hQ2 := hQ'
            first
              | rw [← colsL_succ] at hQ2
              | rw [← slantsL_succ] at hQ2
            first
              | exact ⟨k + 1, by omega, by go_num, hQ2, hA', hB'⟩
              | ((repeat apply Exists.intro); exact ⟨⟨k + 1, by omega, by go_num, hQ2, hA', hB'⟩, rfl⟩)
          case measure => simp [intOf]; omega
        · have hk4 : (k : Int) = 4 := by omega
          rw [hk4]
          obtain rfl : k = 4 := by omega
          clear hk4
          go_wp2_with fail
          have sq1 := sq0.cols 4
          have hQ : Own wr w.heap.size 3 1 (some ⟨g, o, none⟩) 16 c3 (ivs (nls (slantsL (colsL q 4) 0))) := by rw [slantsL_zero]; exact hQ
          generalize colsL q 4 = q2 at *
          obtain ⟨wp, rfl⟩ : ∃ wo : World, wo = wr := ⟨_, rfl⟩
          go_loopw [13] (fun i wr => ∃ k : Nat, k ≤ 4 ∧ i = .int .i64 k ∧ Own wr w.heap.size 3 1 (some ⟨g, o, none⟩) 16 c3 (ivs (nls (slantsL q2 k))) ∧ Own wr w.heap.size 3 1 A2 16 c2 (ivs (nls F)) ∧ Below w.heap.size w wr) (fun i _ => 4 - (intOf i).toNat)
          case atStart => exact ⟨0, by omega, by simp, hQ, hA, hB⟩
          case round =>
            obtain ⟨k, hk, rfl, hQ, hA, hB⟩ := hrel
            by_cases h4 : k < 4
            · have sq := Sq.slants sq1 k
              have h4i : (k : Int) < 4 := by omega
              go_wp2_with fail
              refine (stir_any w.heap.size g o c3 (slantsL q2 k) _ _ _ _ k (4 + (k + 1) % 4) (8 + (k + 2) % 4) (12 + (k + 3) % 4) wr (by omega) (by omega) (by omega) (by omega) (by omega) (by omega) (by omega) (by omega) sq hQ).mono ?_
              rintro e w' ⟨rfl, hQ', hG'⟩
              have hA' := hA.grown hG' (fun q hq e => hne (by injection hq with hq; rw [hq]; exact e))
              have hB' : Below w.heap.size w w' := hB.grown hG' hB.size (fun q hq => by injection hq with hq; rw [← hq]; exact hg)
              clear hQ hA hB
              go_wp2_with fail
              go_roundw
              case rel =>
                have hQ2 := hQ'
                first
                  | rw [← colsL_succ] at hQ2
                  | rw [← slantsL_succ] at hQ2
                first
                  | exact ⟨k + 1, by omega, by go_num, hQ2, hA', hB'⟩
                  | ((repeat apply Exists.intro); exact ⟨⟨k + 1, by omega, by go_num, hQ2, hA', hB'⟩, rfl⟩)
              case measure => simp [intOf]; omega
            · obtain rfl : k = 4 := by omega
              go_wp2_with fail
              go_roundw
              case rel => exact ⟨n + 1, by omega, by go_num, by rw [HR.out]; exact hQ, hA, hB⟩
              case measure => simp [intOf]; omega
    · obtain rfl : n = 6 := by omega
      have hk6 : Hid (((6 : Nat) : Int) = 6) := Lib.hid rfl
      rw [hk6.out]
      go_wp2_with fail
      have sq := hF.rounds 6
      have HO := fun i => Lib.hid (outTo_succ (roundsL F 6) F i)
      generalize roundsL F 6 = q at *
      go_loopw [14, 15] (fun b i wr => ∃ (k : Nat) (A4 : Option Addr) (c4 : Nat), k ≤ 16 ∧ b = .slice A4 (4 * k) c4 ∧ i = .int .i64 k ∧ Own wr w.heap.size 5 1 A4 (4 * k) c4 (bvs (outTo q F k)) ∧ Own wr w.heap.size 3 1 (some ⟨g, o, none⟩) 16 c3 (ivs (nls q)) ∧ Own wr w.heap.size 3 1 A2 16 c2 (ivs (nls F)) ∧ Below w.heap.size w wr) (fun _ i _ => 16 - (intOf i).toNat)
      case atStart => exact ⟨0, none, 0, by omega, by simp, by simp, by rw [outTo_zero]; exact Own.none_ _ _ _ _, hQ, hA, hB⟩
      case round =>
        obtain ⟨k, A4, c4, hk, rfl, rfl, hO, hQ, hA, hB⟩ := hrel
        by_cases h16 : k < 16
        · have h16i : (k : Int) < 16 := by omega
          have in0 : (0 : Int) ≤ (k : Int) := by omega
          obtain ⟨ga, oa, rfl, _, _⟩ := hA.form (by have := hA.le; omega)
          have e1 := hQ.nat h16
          have e2 := hA.nat h16
          have l1 := sq.lt k
          have l2 := hF.lt k
          have HV := Lib.hid (le4_vals (q.getD k 0) (F.getD k 0))
          have HN := HO k
          clear HO
          generalize q.getD k 0 = x at *
          generalize F.getD k 0 = y at *
          have one4 := byte_one4 (((x : Int) + (y : Int)) % 256) (((x : Int) + (y : Int)) / 256 % 256) (((x : Int) + (y : Int)) / 65536 % 256) (((x : Int) + (y : Int)) / 16777216 % 256)
          have m1 : 4 * k + 4 ≤ maxLen := by unfold maxLen; omega
          have m2 : (4 * k + 4) * 1 ≤ 140737488355328 := by omega
          have ap1 := hO.apart hQ (by decide)
          have ap2 := hO.apart hA (by decide)
          go_wp2_with fail
          go_quiet (fail)
          obtain ⟨wq, hwq⟩ : ∃ wq : World, wq = wr.drewN nq := ⟨_, rfl⟩
          rw [← hwq]
          have hO1 : Own wq w.heap.size 5 1 A4 (4 * k) c4 (bvs (outTo q F k)) := by rw [hwq]; exact hO.drewN _
          have hQ1 : Own wq w.heap.size 3 1 (some ⟨g, o, none⟩) 16 c3 (ivs (nls q)) := by rw [hwq]; exact hQ.drewN _
          have hA1 : Own wq w.heap.size 3 1 (some ⟨ga, oa, none⟩) 16 c2 (ivs (nls F)) := by rw [hwq]; exact hA.drewN _
          have hB1 : Below w.heap.size w wq := by rw [hwq]; exact below_drewN hB _
          clear hwq hO hQ hA hB e1 e2
          have hB1' : Below w.heap.size w (wq.alloc (.cells #[.int .u8 (((x : Int) + (y : Int)) % 256), .int .u8 (((x : Int) + (y : Int)) / 256 % 256), .int .u8 (((x : Int) + (y : Int)) / 65536 % 256), .int .u8 (((x : Int) + (y : Int)) / 16777216 % 256)] 5)) := hB1.alloc hB1.size _
          go_wp2_with (at_builtin; refine wpList_append_Own _ rfl (.tmp 87) (.tmp 99) 22 rfl w.heap.size 5 i0 _ 1 1 Try.underlying22 hi0 hz0 hz1 hz2 rfl A4 (4 * k) c4 _ rfl (hO1.alloc _) _ 4 4 _ rfl rfl (Rd_lit wq [.int .u8 (((x : Int) + (y : Int)) % 256), .int .u8 (((x : Int) + (y : Int)) / 256 % 256), .int .u8 (((x : Int) + (y : Int)) / 65536 % 256), .int .u8 (((x : Int) + (y : Int)) / 16777216 % 256)] 5) one4 m1 m2 hB1'.size ?_; intro A5 c5 w5 hO5 hg5 hor5)
          have hQ5 := (hQ1.alloc (.cells #[.int .u8 (((x : Int) + (y : Int)) % 256), .int .u8 (((x : Int) + (y : Int)) / 256 % 256), .int .u8 (((x : Int) + (y : Int)) / 65536 % 256), .int .u8 (((x : Int) + (y : Int)) / 16777216 % 256)] 5)).grown hg5 (fun q hq => ap1 q hq)
          have hA5 := (hA1.alloc (.cells #[.int .u8 (((x : Int) + (y : Int)) % 256), .int .u8 (((x : Int) + (y : Int)) / 256 % 256), .int .u8 (((x : Int) + (y : Int)) / 65536 % 256), .int .u8 (((x : Int) + (y : Int)) / 16777216 % 256)] 5)).grown hg5 (fun q hq => ap2 q hq)
          have hB5 := hB1'.grown hg5 hB1'.size (fun q hq => (hO1.lt q hq).1)
          have hO6 : Own w5 w.heap.size 5 1 A5 (4 * k + 4) c5 (bvs (outTo q F (k + 1))) := by
            rw [HN.out, bvs_append, HV.out]
            exact hO5
          clear hO1 hQ1 hA1 hB1 hB1' hO5 hg5 hor5 HV HN one4 ap1 ap2
          go_roundw
          case rel => exact ⟨k + 1, A5, c5, by omega, by simp [Nat.mul_add], by go_num, hO6, hQ5, hA5, hB5⟩
          case measure => simp [intOf]; omega
        · obtain rfl : k = 16 := by omega
          go_wp2
          go_ret2
          refine ⟨A4, c4, by simp [padL_length], ?_, hB⟩
          show Own _ _ _ _ _ (padL W C I).length _ (bvs (padL W C I))
          rw [padL_length, HP.out]
          exact hO

theorem toNats {l : List Int} (h : ∀ x ∈ l, 0 ≤ x ∧ x ≤ 4294967295) : nls (l.map Int.toNat) = l ∧ ∀ i, (l.map Int.toNat).getD i 0 < 4294967296 := by
  constructor
  · unfold nls
    rw [List.map_map]
    conv => rhs; rw [← List.map_id l]
    apply List.map_congr_left
    intro x hx
    have := h x hx
    simp
    omega
  · intro i
    simp only [List.getD_eq_getElem?_getD, List.getElem?_map]
    rcases hi : l[i]? with _ | x
    · simp
    · have := h x (List.mem_of_getElem? hi)
      simp
      omega
theorem first_sq {W : List Nat} {C I : Nat} (hl : W.length = 8) (hW : ∀ i, W.getD i 0 < 4294967296) (hC : C ≤ 281474976710655) (hI : I ≤ 1000) : Sq (firstL W C I) := by
  refine ⟨by simp [firstL, hl], ?_⟩
  match W, hl with
  | [a, b, c, d, e, f, g, h], _ =>
    have h0 := hW 0
    have h1 := hW 1
    have h2 := hW 2
    have h3 := hW 3
    have h4 := hW 4
    have h5 := hW 5
    have h6 := hW 6
    have h7 := hW 7
    simp at h0 h1 h2 h3 h4 h5 h6 h7
    intro i
    rcases i with _|_|_|_|_|_|_|_|_|_|_|_|_|_|_|_|i <;> simp [firstL] <;> omega
theorem padErr_zero {l : List Int} {C I : Int} (h : padErr l C I = 0) : l.length = 8 ∧ (∀ x ∈ l, 0 ≤ x ∧ x ≤ 4294967295) ∧ 0 ≤ C ∧ C ≤ 281474976710655 ∧ 0 ≤ I ∧ I ≤ 1000 := by
  unfold padErr at h
  by_cases h8 : l.length ≠ 8
  · rw [if_pos h8] at h; omega
  · rw [if_neg h8] at h
    by_cases hh : (∀ x ∈ l, 0 ≤ x ∧ x ≤ 4294967295) ∧ 0 ≤ C ∧ C ≤ 281474976710655 ∧ 0 ≤ I ∧ I ≤ 1000
    · exact ⟨by omega, hh⟩
    · rw [if_neg hh] at h; omega

set_option maxHeartbeats 1600000 in
set_option maxRecDepth 100000 in
theorem pad_bad (A : Option Addr) (l : List Int) (n cp : Nat) (C I : Int) (w : World) (hl : l.length = n) (ha : Rd w A (ivs l)) (hn : n ≤ 140737488351300) (h : padErr l C I ≠ 0) :
    Calls Try.prog 39 #[.slice A n cp, .int .i64 C, .int .i64 I] w fun e w' => BytesRes w w' ([], padErr l C I) e := by
  have hP := fun w => Lib.hid (rpadded_any A l n cp C I w hl)
  have d : (padErr l C I != 0) = true := by simpa using h
  generalize padErr l C I = r at *
  go_enter Try.func39, Try.ntmps39
  go_wp2_with fail
  refine ((hP w).out ha hn).mono ?_
  rintro e w' ⟨rfl, rfl⟩
  go_wp2
  go_ret2
  exact BytesRes.none_ (Below.refl _ _)
theorem pad_any (A : Option Addr) (l : List Int) (cp : Nat) (C I : Int) (w : World) (ha : Rd w A (ivs l)) (hn : l.length ≤ 140737488351300) :
    Calls Try.prog 39 #[.slice A l.length cp, .int .i64 C, .int .i64 I] w fun e w' => BytesRes w w' (padR l C I) e := by
  unfold padR
  by_cases h : padErr l C I = 0
  · rw [if_pos h]
    obtain ⟨h8, hl, c0, c1, i0, i1⟩ := padErr_zero h
    obtain ⟨e1, e2⟩ := toNats hl
    obtain ⟨C, rfl⟩ := Int.eq_ofNat_of_zero_le c0
    obtain ⟨I, rfl⟩ := Int.eq_ofNat_of_zero_le i0
    rw [h8]
    have hw8 : (l.map Int.toNat).length = 8 := by simpa using h8
    have := pad_good A (l.map Int.toNat) cp C I w hw8 e2 (by rw [e1]; exact ha) (by omega) (by omega) (by rw [e1]; exact h) (first_sq hw8 e2 (by omega) (by omega))
    simpa using this
  · rw [if_neg h]
    exact pad_bad A l _ cp C I w rfl ha hn h
end Go.Proofs.Ytkbaganbfcbioaa
