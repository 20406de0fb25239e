/-
  The program's Encode of code words.
-/
import Derived.Test.YtolcaolmdfbfhaaSolS
namespace Go.Proofs.Ytolcaolmdfbfhaa
set_option linter.unusedSimpArgs false
set_option linter.unusedVariables false
open Go.RowKit

set_option maxHeartbeats 1600000 in
set_option maxRecDepth 100000 in
theorem encode_any (A : Option Addr) (l : List UInt8) (n c ck : Nat) (w : World) (hl : l.length = n) (ha : Rd w A (bvs l)) (h1 : 1 ≤ ck) (h64 : ck ≤ 64) (hn : n ≤ 1048576) :
    Calls Try.prog 75 #[.slice A n c, .int .i64 (ck : Int)] w fun e w' => ∃ A' c', e = .returned (.slice A' (n + ck) c') ∧ Own w' w.heap.size 5 1 A' (n + ck) c' (bvs (encL l ck)) ∧ Below w.heap.size w w' := by
  have HL := Lib.hid hl
  clear hl
  go_enter Try.func75, Try.ntmps75
  go_wp2_with fail
  refine (product_any ck w h1 h64).mono ?_
  rintro e w1 ⟨b, o, d, rfl, hR, hb, hbl, hd, hB⟩
  go_wp2_with fail
  refine (shifted_any A l n c b o d ck (prodP ck).tail w1 HL.out (ha.below hB) (tail_len ck) hR h1 h64 hn hbl).mono ?_
  rintro e w2 ⟨A2, c2, rfl, hO2, hb2⟩
  go_wp2
  go_ret
  exact ⟨A2, c2, rfl, hO2.mono hB.size, nextB hB hB.size hb2⟩

set_option maxHeartbeats 3200000 in
set_option maxRecDepth 100000 in
theorem penc_any (A : Option Addr) (l : List UInt8) (n c : Nat) (ck : Int) (w : World) (hl : l.length = n) (ha : Rd w A (bvs l)) (hn : n ≤ 140737488351300) :
    Calls Try.prog 25 #[.slice A n c, .int .i64 ck] w fun e w' => BytesRes w w' (encF l ck) e := by
  by_cases h0 : n = 0
  · subst h0
    have e : encF l ck = ([], 1) := by unfold encF; rw [if_pos (.inl (List.eq_nil_of_length_eq_zero hl))]
    rw [e]
    go_enter Try.func25, Try.ntmps25
    go_wp2
    go_ret2
    exact BytesRes.none_ (Below.refl _ _)
  have d0 : ((n : Int) == 0) = false := by simp; omega
  by_cases hs : 1 ≤ ck ∧ ck ≤ 64
  · obtain ⟨k, rfl⟩ := Int.eq_ofNat_of_zero_le (show 0 ≤ ck by omega)
    by_cases h255 : n + k ≤ 255
    · have e : encF l (k : Int) = (encL l k, 0) := by
        unfold encF
        rw [if_neg, Int.toNat_natCast]
        rintro (h | h)
        · rw [h] at hl; simp at hl; omega
        · rw [sizedB_yes ⟨by omega, by omega, by omega, by omega⟩] at h; cases h
      rw [e]
      have hz := fun w => psized_any ((n : Int) + (k : Int)) (k : Int) w
      rw [sizedB_yes ⟨by omega, by omega, by omega, by omega⟩] at hz
      have HZ := Lib.hid hz
      have hel : (encL l k).length = n + k := by rw [encL_len l (by omega), hl]
      have HEL := Lib.hid hel
      have HL := Lib.hid hl
      clear hz e hl hel
      go_enter Try.func25, Try.ntmps25
      go_wp2_with fail
      refine (HZ.out _).mono ?_
      rintro e _ ⟨rfl, rfl⟩
      go_wp2_with fail
      refine (encode_any A l n c k w HL.out ha (by omega) (by omega) (by omega)).mono ?_
      rintro e w2 ⟨A2, c2, rfl, hO2, hb2⟩
      go_wp2
      go_ret2
      refine ⟨A2, c2, ?_, ?_, hb2⟩
      · show _ = Ending.returned (.tuple #[.slice A2 (encL l k).length c2, _])
        rw [HEL.out]
        rfl
      · show Own _ _ _ _ _ (encL l k).length _ _
        rw [HEL.out]
        exact hO2
    · have e : encF l (k : Int) = ([], 1) := by
        unfold encF
        rw [if_pos (.inr (sizedB_no (by omega)))]
      rw [e]
      have hz := fun w => psized_any ((n : Int) + (k : Int)) (k : Int) w
      rw [sizedB_no (by omega)] at hz
      have HZ := Lib.hid hz
      clear hz e hl
      go_enter Try.func25, Try.ntmps25
      go_wp2_with fail
      refine (HZ.out _).mono ?_
      rintro e _ ⟨rfl, rfl⟩
      go_wp2
      go_ret2
      exact BytesRes.none_ (Below.refl _ _)
  · have e : encF l ck = ([], 1) := by
      unfold encF
      rw [if_pos (.inr (sizedB_no (fun h => hs ⟨h.1, h.2.1⟩)))]
    rw [e]
    have HZ := Lib.hid (fun (m : Int) w => (sizedB_no (n := m) (c := ck) (fun h => hs ⟨h.1, h.2.1⟩)) ▸ psized_any m ck w)
    clear e hl hs
    go_enter Try.func25, Try.ntmps25
    go_wp2_with fail
    refine (HZ.out _ _).mono ?_
    rintro e _ ⟨rfl, rfl⟩
    go_wp2
    go_ret2
    exact BytesRes.none_ (Below.refl _ _)
theorem encF_len (l : List UInt8) (ck : Int) : (encF l ck).1.length ≤ 255 := by
  unfold encF
  split
  · simp
  · rename_i h
    have hs : sizedB ((l.length : Int) + ck) ck = true := by
      cases hb : sizedB ((l.length : Int) + ck) ck with
      | true => rfl
      | false => exact absurd (.inr hb) h
    unfold sizedB at hs
    simp only [decide_eq_true_eq] at hs
    show (encL l ck.toNat).length ≤ 255
    rw [encL_len l (by omega)]
    omega
end Go.Proofs.Ytolcaolmdfbfhaa
