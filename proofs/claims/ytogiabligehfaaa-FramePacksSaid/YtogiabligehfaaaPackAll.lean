import Derived.Test.YtogiabligehfaaaPack
namespace Go.Proofs.Ytogiabligehfaaa
set_option linter.unusedSimpArgs false
set_option linter.unusedVariables false
open Go.RowKit

theorem in_st (st m : Int) (hm : m = 4294967295) (h : 0 ≤ st ∧ st ≤ 4294967295) (w : World) :
    Calls Try.prog 57 #[.int .i64 st, .int .i64 m] w fun e w' => e = .returned (.bool true) ∧ w = w' := in_yes st m w h.1 (by omega)
theorem out_st (st m : Int) (hm : m = 4294967295) (h : ¬ (0 ≤ st ∧ st ≤ 4294967295)) (w : World) :
    Calls Try.prog 57 #[.int .i64 st, .int .i64 m] w fun e w' => e = .returned (.bool false) ∧ w = w' := in_no st m w (by omega)

set_option maxHeartbeats 3200000 in
set_option maxRecDepth 100000 in
theorem pack_range (h : Hd) (st : Int) (A : Option Addr) (n c : Nat) (w : World) (hb : ¬ hdOk h st) :
    Calls Try.prog 24 #[hv h, .slice A n c, .int .i64 st] w fun e w' => BytesRes w w' ([], 2) e := by
  obtain ⟨cr, ch, ma, ow, fi⟩ := h
  unfold hv
  have Hb := Lib.hid hb
  clear hb
  go_enter Try.func24, Try.ntmps24
  go_wp2_with fail
  by_cases gcr : 0 ≤ cr ∧ cr ≤ 1023
  rotate_left
  · refine (in_no cr 1023 _ gcr).mono ?_
    rintro e w' ⟨rfl, rfl⟩
    go_wp2_with fail
    go_ret2
    exact BytesRes.none_ ((Below.refl _ _).alloc (Nat.le_refl _) _)
  refine (in_yes cr 1023 _ gcr.1 gcr.2).mono ?_
  rintro e w' ⟨rfl, rfl⟩
  go_wp2_with fail
  by_cases gch : 0 ≤ ch ∧ ch ≤ 7
  rotate_left
  · refine (in_no ch 7 _ gch).mono ?_
    rintro e w' ⟨rfl, rfl⟩
    go_wp2_with fail
    go_ret2
    exact BytesRes.none_ ((Below.refl _ _).alloc (Nat.le_refl _) _)
  refine (in_yes ch 7 _ gch.1 gch.2).mono ?_
  rintro e w' ⟨rfl, rfl⟩
  go_wp2_with fail
  by_cases gma : 0 ≤ ma ∧ ma ≤ 255
  rotate_left
  · refine (in_no ma 255 _ gma).mono ?_
    rintro e w' ⟨rfl, rfl⟩
    go_wp2_with fail
    go_ret2
    exact BytesRes.none_ ((Below.refl _ _).alloc (Nat.le_refl _) _)
  refine (in_yes ma 255 _ gma.1 gma.2).mono ?_
  rintro e w' ⟨rfl, rfl⟩
  go_wp2_with fail
  by_cases gow : 0 ≤ ow ∧ ow ≤ 255
  rotate_left
  · refine (in_no ow 255 _ gow).mono ?_
    rintro e w' ⟨rfl, rfl⟩
    go_wp2_with fail
    go_ret2
    exact BytesRes.none_ ((Below.refl _ _).alloc (Nat.le_refl _) _)
  refine (in_yes ow 255 _ gow.1 gow.2).mono ?_
  rintro e w' ⟨rfl, rfl⟩
  go_wp2_with fail
  by_cases gfi : 0 ≤ fi ∧ fi ≤ 2047
  rotate_left
  · refine (in_no fi 2047 _ gfi).mono ?_
    rintro e w' ⟨rfl, rfl⟩
    go_wp2_with fail
    go_ret2
    exact BytesRes.none_ ((Below.refl _ _).alloc (Nat.le_refl _) _)
  refine (in_yes fi 2047 _ gfi.1 gfi.2).mono ?_
  rintro e w' ⟨rfl, rfl⟩
  go_wp2_with fail
  have gst : ¬ (0 ≤ st ∧ st ≤ 4294967295) := fun h => Hb.out ⟨gcr, gch, gma, gow, gfi, h⟩
  refine (out_st st _ rfl gst _).mono ?_
  rintro e w' ⟨rfl, rfl⟩
  clear gst
  go_wp2_with fail
  go_ret2
  exact BytesRes.none_ ((Below.refl _ _).alloc (Nat.le_refl _) _)

set_option maxHeartbeats 3200000 in
set_option maxRecDepth 100000 in
theorem pack_sized (h : Hd) (st : Int) (A : Option Addr) (n c : Nat) (w : World) (ho : hdOk h st) (hs : n + 12 < 13 ∨ 2048 < n + 12) (hn : n ≤ 140737488351300) :
    Calls Try.prog 24 #[hv h, .slice A n c, .int .i64 st] w fun e w' => BytesRes w w' ([], 1) e := by
  obtain ⟨cr, ch, ma, ow, fi⟩ := h
  obtain ⟨ocr, och, oma, oow, ofi, ost⟩ := ho
  simp only at ocr och oma oow ofi
  unfold hv
  go_enter Try.func24, Try.ntmps24
  go_wp2_with fail
  refine (in_yes cr 1023 _ ocr.1 ocr.2).mono ?_
  rintro e w' ⟨rfl, rfl⟩
  go_wp2_with fail
  refine (in_yes ch 7 _ och.1 och.2).mono ?_
  rintro e w' ⟨rfl, rfl⟩
  go_wp2_with fail
  refine (in_yes ma 255 _ oma.1 oma.2).mono ?_
  rintro e w' ⟨rfl, rfl⟩
  go_wp2_with fail
  refine (in_yes ow 255 _ oow.1 oow.2).mono ?_
  rintro e w' ⟨rfl, rfl⟩
  go_wp2_with fail
  refine (in_yes fi 2047 _ ofi.1 ofi.2).mono ?_
  rintro e w' ⟨rfl, rfl⟩
  go_wp2_with fail
  refine (in_st st _ rfl ost _).mono ?_
  rintro e w' ⟨rfl, rfl⟩
  clear ost
  rcases hs with hs | hs
  · have n1 : decide (6 + (n : Int) + 6 < 13) = true := by simp; omega
    clear hs
    go_wp2_with fail
    go_ret2
    exact BytesRes.none_ ((Below.refl _ _).alloc (Nat.le_refl _) _)
  · have n1 : decide (6 + (n : Int) + 6 < 13) = false := by simp; omega
    have n2 : decide (2048 < 6 + (n : Int) + 6) = true := by simp; omega
    clear hs
    go_wp2_with fail
    go_ret2
    exact BytesRes.none_ ((Below.refl _ _).alloc (Nat.le_refl _) _)

theorem pack_any (h : Hd) (st : Int) (A : Option Addr) (l : List UInt8) (n c : Nat) (w : World) (hl : l.length = n) (ha : Rd w A (bvs l)) (hn : n ≤ 140737488351300) :
    Calls Try.prog 24 #[hv h, .slice A n c, .int .i64 st] w fun e w' => BytesRes w w' (packed h l st) e := by
  subst hl
  by_cases ho : hdOk h st
  · by_cases hs : l.length + 12 < 13 ∨ 2048 < l.length + 12
    · rw [packed_size ho hs]
      exact pack_sized h st A _ c w ho hs hn
    · rw [packed_ok ho hs]
      exact pack_good h st A l c w ho hs ha
  · rw [packed_rng l ho]
    exact pack_range h st A _ c w ho
end Go.Proofs.Ytogiabligehfaaa
