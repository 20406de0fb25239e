/-
  Two operations that may come up (XHeld's walk). Bytes as strings: alike where the bytes are alike. A key of a ring, stored whole over the one that stood there.
-/
import Derived.Test.YtkbaganbfcbioaaMKeysOpens15
import Derived.Test.YtkbaganbfcbioaaMKeysOpens3
import Derived.Laws.BytesArg
import Derived.Test.YtkbaganbfcbioaaMKeysOpens9
import Derived.Test.YtkbaganbfcbioaaMKeysOpens6
namespace Go.Proofs.Ytkbaganbfcbioaa
set_option linter.unusedSimpArgs false
set_option linter.unusedVariables false
open Go.RowKit
section
variable {P : Program} {md : Region.Mode} {Q : Exit → Act → World → Prop} {S : World → Prop} {l : List Oper} {n f : Nat} {listed : Array Bool} {a : Act} {w : World}
theorem walk_step2 (i j : Nat) {oi oj : Oper} (hi : l.toArray[i]? = some oi) (hj : l.toArray[j]? = some oj) (hin : decide (i < n) = true) (hjn : decide (j < n) = true) (hr : Region.ready md l.toArray listed = [i, j])
    (h1 : ∀ K' : Act → World → Prop, (∀ a w, S w → Walk P md l Q S n f (listed.setIfInBounds i true) a w → K' a w) → if Region.wanted oi (yielded l.toArray a.tmps) = true then Oper.wp P oi a w K' Q else K' (a.put oi.dst undef) w)
    (h2 : ∀ K' : Act → World → Prop, (∀ a w, S w → Walk P md l Q S n f (listed.setIfInBounds j true) a w → K' a w) → if Region.wanted oj (yielded l.toArray a.tmps) = true then Oper.wp P oj a w K' Q else K' (a.put oj.dst undef) w) : Walk P md l Q S n (f + 1) listed a w := fun hB inv => by
  refine ⟨fun e => (by rw [hr] at e; cases e), fun k hk => ?_⟩
  have hk' := hk
  rw [hr] at hk'
  have hkij : k = i ∨ k = j := by simpa using hk'
  rcases hkij with e | e
  · subst e
    exact wpOp_step hi (fun K' hK => h1 K' fun a w hS hW => hK a w ⟨hS, hW hB (inv.set hk (by simpa using hin))⟩)
  · subst e
    exact wpOp_step hj (fun K' hK => h2 K' fun a w hS hW => hK a w ⟨hS, hW hB (inv.set hk (by simpa using hjn))⟩)
end
end Go.Proofs.Ytkbaganbfcbioaa
namespace Go.Proofs.Ytkbaganbfcbioaa
set_option linter.unusedSimpArgs false
set_option linter.unusedVariables false
open Go.RowKit

theorem str_eq {x y : List UInt8} : (strOfNums (x.map fun x => (x.toNat : Int)) != strOfNums (y.map fun x => (x.toNat : Int))) = !decide (x = y) := by
  have key : ∀ l : List UInt8, (strOfNums (l.map fun x => (x.toNat : Int))).data = l.toArray := fun l => by
    unfold strOfNums
    simp only [List.map_map]
    congr 1
    refine (List.map_congr_left (g := id) (fun x _ => ?_)).trans (List.map_id _)
    show UInt8.ofNat (x.toNat : Int).toNat = x
    rw [Int.toNat_natCast, UInt8.ofNat_toNat]
  by_cases h : x = y
  · subst h
    rw [decide_eq_true rfl]
    have : (strOfNums (x.map fun x => (x.toNat : Int)) == strOfNums (x.map fun x => (x.toNat : Int))) = true := by
      show ((strOfNums (x.map fun x => (x.toNat : Int))).data == (strOfNums (x.map fun x => (x.toNat : Int))).data) = true
      exact beq_self_eq_true _
    rw [bne, this]
  · rw [decide_eq_false h]
    have : (strOfNums (x.map fun x => (x.toNat : Int)) == strOfNums (y.map fun x => (x.toNat : Int))) = false := by
      show ((strOfNums (x.map fun x => (x.toNat : Int))).data == (strOfNums (y.map fun x => (x.toNat : Int))).data) = false
      rw [key, key, beq_eq_false_iff_ne]
      intro e
      injection e with e
      exact h e
    rw [bne, this]
theorem str_list (x : List UInt8) : (strOfNums (x.map fun x => (x.toNat : Int))).toList = x := by
  rw [ByteArray.toList_eq, strOfNums_data, List.map_map]
  refine (List.map_congr_left (g := id) (fun x _ => ?_)).trans (List.map_id _)
  show UInt8.ofNat (x.toNat : Int).toNat = x
  rw [Int.toNat_natCast, UInt8.ofNat_toNat]
end Go.Proofs.Ytkbaganbfcbioaa
namespace Go.Proofs.Ytkbaganbfcbioaa
set_option linter.unusedSimpArgs false
set_option linter.unusedVariables false
open Go.RowKit

def key4 (w : World) (g o : Nat) (a b c d : Value) : World := (((w.setCell ⟨g, o, none⟩ a).setCell ⟨g, o + 1, none⟩ b).setCell ⟨g, o + 2, none⟩ c).setCell ⟨g, o + 3, none⟩ d
theorem kvs_set4 {m : List KyR} {i : Nat} {x y : KyR} (hx : m[i]? = some x) {a b c d : Value} (hy : kcs y = [a, b, c, d]) : (((((kvs m).set (i * 4) a).set (i * 4 + 1) b).set (i * 4 + 2) c).set (i * 4 + 3) d) = kvs (m.set i y) := by
  have hi : i < m.length := (List.getElem?_eq_some_iff.1 hx).1
  apply List.ext_getElem?
  intro j
  have hl : (kvs m).length = m.length * 4 := kvs_len m
  by_cases hj : j < m.length * 4
  · obtain ⟨q, r, hr, rfl⟩ : ∃ q r, r < 4 ∧ j = q * 4 + r := ⟨j / 4, j % 4, Nat.mod_lt _ (by decide), by omega⟩
    by_cases hq : q = i
    · subst hq
      have hg : (m.set q y)[q]? = some y := by rw [List.getElem?_set_self hi]
      rw [kvs_get hg hr, hy]
      have h4 : r = 0 ∨ r = 1 ∨ r = 2 ∨ r = 3 := by omega
      rcases h4 with rfl | rfl | rfl | rfl
      · rw [List.getElem?_set_ne (by omega), List.getElem?_set_ne (by omega), List.getElem?_set_ne (by omega), Nat.add_zero, List.getElem?_set_self (by omega)]; rfl
      · rw [List.getElem?_set_ne (by omega), List.getElem?_set_ne (by omega), List.getElem?_set_self (by simp; omega)]; rfl
      · rw [List.getElem?_set_ne (by omega), List.getElem?_set_self (by simp; omega)]; rfl
      · rw [List.getElem?_set_self (by simp; omega)]; rfl
    · have hqm : q < m.length := by omega
      have hz := List.getElem?_eq_getElem hqm
      have hg : (m.set i y)[q]? = some m[q] := by rw [List.getElem?_set_ne (Ne.symm hq)]; exact hz
      rw [kvs_get hg hr, List.getElem?_set_ne (by omega), List.getElem?_set_ne (by omega), List.getElem?_set_ne (by omega), List.getElem?_set_ne (by omega), kvs_get hz hr]
  · rw [List.getElem?_eq_none (by simp; omega), List.getElem?_eq_none (by rw [kvs_len, List.length_set]; omega)]
theorem stored_at {w : World} {base g o n d i : Nat} {m : List KyR} {x : KyR} {t s : Int} (hO : Own w base 46 4 (some ⟨g, o, none⟩) n d (kvs m)) (hD : OwnWords w base m) (hx : m[i]? = some x) (hin : i < n) :
    ∃ m', m'.map KyR.k = (m.map KyR.k).set i ⟨x.k.id, x.k.words, t, s⟩ ∧ Own (key4 w g (o + i * 4) (.int .i64 x.k.id) (.slice x.A x.k.words.length x.c) (.int .i64 t) (.int .i64 s)) base 46 4 (some ⟨g, o, none⟩) n d (kvs m') ∧
      OwnWords (key4 w g (o + i * 4) (.int .i64 x.k.id) (.slice x.A x.k.words.length x.c) (.int .i64 t) (.int .i64 s)) base m' ∧ Rd (key4 w g (o + i * 4) (.int .i64 x.k.id) (.slice x.A x.k.words.length x.c) (.int .i64 t) (.int .i64 s)) x.A (ivs x.k.words) := by
  have hi : i < m.length := (List.getElem?_eq_some_iff.1 hx).1
  have hsf : ∀ {A : Option Addr} {q c : Nat} {ys : List Value}, Own w base 3 1 A q c ys → blk A ≠ some g := fun h e => (h.apart hO (by decide)) g e rfl
  refine ⟨m.set i ⟨⟨x.k.id, x.k.words, t, s⟩, x.A, x.c⟩, by rw [List.map_set], ?_, ⟨?_, ?_⟩, ?_⟩
  · rw [← kvs_set4 hx (a := .int .i64 x.k.id) (b := .slice x.A x.k.words.length x.c) (c := .int .i64 t) (d := .int .i64 s) rfl]
    exact (((hO.set (i * 4) (by omega) _).set (i * 4 + 1) (by omega) _).set (i * 4 + 2) (by omega) _).set (i * 4 + 3) (by omega) _
  · intro j y hy
    have key : ∃ y', m[j]? = some y' ∧ y.A = y'.A ∧ y.c = y'.c ∧ y.k.words = y'.k.words := by
      by_cases hj : j = i
      · subst hj
        rw [List.getElem?_set_self hi] at hy
        injection hy with hy
        subst hy
        exact ⟨x, hx, rfl, rfl, rfl⟩
      · rw [List.getElem?_set_ne (Ne.symm hj)] at hy
        exact ⟨y, hy, rfl, rfl, rfl⟩
    obtain ⟨y', hy', e1, e2, e3⟩ := key
    rw [e1, e2, e3]
    have hw := hD.1 j y' hy'
    exact (((hw.setFar (p := ⟨g, o + i * 4, none⟩) (hsf hw) _).setFar (p := ⟨g, o + i * 4 + 1, none⟩) (hsf hw) _).setFar (p := ⟨g, o + i * 4 + 2, none⟩) (hsf hw) _).setFar (p := ⟨g, o + i * 4 + 3, none⟩) (hsf hw) _
  · have key : ∀ (j : Nat) (y : KyR), (m.set i ⟨⟨x.k.id, x.k.words, t, s⟩, x.A, x.c⟩)[j]? = some y → ∃ y' : KyR, m[j]? = some y' ∧ y.A = y'.A := by
      intro j y hy
      by_cases hj : j = i
      · subst hj
        rw [List.getElem?_set_self hi] at hy
        injection hy with hy
        subst hy
        exact ⟨x, hx, rfl⟩
      · rw [List.getElem?_set_ne (Ne.symm hj)] at hy
        exact ⟨y, hy, rfl⟩
    intro a b y z hab hy hz
    obtain ⟨y', hy', e1⟩ := key a y hy
    obtain ⟨z', hz', e2⟩ := key b z hz
    rw [e1, e2]
    exact hD.2 a b y' z' hab hy' hz'
  · have hw := hD.1 i x hx
    exact ((((hw.setFar (p := ⟨g, o + i * 4, none⟩) (hsf hw) _).setFar (p := ⟨g, o + i * 4 + 1, none⟩) (hsf hw) _).setFar (p := ⟨g, o + i * 4 + 2, none⟩) (hsf hw) _).setFar (p := ⟨g, o + i * 4 + 3, none⟩) (hsf hw) _).rd
theorem Own.notBlk {w : World} {b : Nat} {e t : TypeId} {s n c g : Nat} {A : Option Addr} {xs : List Value} {cs : Array Value} (h : Own w b e s A n c xs) (hb : Blk w g t cs) (hne : e ≠ t) : blk A ≠ some g := by
  intro hq
  rcases A with _ | a
  · simp [blk] at hq
  · obtain ⟨cur, _, _, hh, _⟩ := h.at_ a rfl
    have ha : a.block = g := by simpa [blk] using hq
    rw [ha] at hh
    have := hh.symm.trans hb
    injection this with this
    injection this with _ this
    exact hne this
end Go.Proofs.Ytkbaganbfcbioaa
