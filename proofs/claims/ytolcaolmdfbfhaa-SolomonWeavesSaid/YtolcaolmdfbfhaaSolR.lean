/-
  The document's Encode of code words.
-/
import Derived.Test.YtolcaolmdfbfhaaSolM
import Derived.Test.YtolcaolmdfbfhaaTimesR
import Derived.Deep.DeepCutAuto
namespace Go.Proofs.Ytolcaolmdfbfhaa
set_option linter.unusedSimpArgs false
set_option linter.unusedVariables false
open Go.RowKit

theorem BytesRes.use {w w' : World} {r : List UInt8 × Int} {e : Ending} (h : BytesRes w w' r e) : ∃ A c, e = .returned (.tuple #[.slice A r.1.length c, .int .i64 r.2]) ∧ Own w' w.heap.size 5 1 A r.1.length c (bvs r.1) ∧ Below w.heap.size w w' := h
theorem two_lit (W : World) (a : UInt8) : Rd (W.alloc (.cells #[.int .u8 (a.toNat : Int), .int .u8 1] 5)) (some ⟨W.heap.size, 0, none⟩) (bvs [a, 1]) := Rd_lit W [.int .u8 (a.toNat : Int), .int .u8 1] 5

set_option maxHeartbeats 6400000 in
set_option maxRecDepth 100000 in
theorem renc_good (A : Option Addr) (l : List UInt8) (n c : Nat) (ck : Nat) (w : World) (hl : l.length = n) (ha : Rd w A (bvs l)) (h0 : 0 < n) (hc1 : 1 ≤ ck) (hc2 : ck ≤ 64) (h255 : n + ck ≤ 255) :
    Calls Try.prog 24 #[.slice A n c, .int .i64 (ck : Int)] w fun e w' => BytesRes w w' (encL l ck, 0) e := by
  obtain ⟨i0, hi0, hz0, hz1, hz2⟩ := info_parts u8info
  have HL := Lib.hid hl
  have hsz0 := fun w => rsized_any ((n : Int) + (ck : Int)) (ck : Int) w
  rw [sizedB_yes ⟨by omega, by omega, by omega, by omega⟩] at hsz0
  have hsz := Lib.hid hsz0
  clear hsz0
  have d0 : ((n : Int) == 0) = false := by simp; omega
  have hmk := run_make_rowN (P := Try.prog) 22 5 i0 (.int .u8 0) Try.underlying22 hi0 hz0 .i64 .i64 ck ck (Nat.le_refl _) (by rw [hz2]; omega) (by omega)
  clear hl
  go_enter Try.func24, Try.ntmps24
  go_wp2_with fail
  refine (hsz.out _).mono ?_
  rintro e _ ⟨rfl, rfl⟩
  go_wp2_with fail
  have hO1 : Own (w.alloc (.cells #[.int .u8 1] 5)) w.heap.size 5 1 (some ⟨w.heap.size, 0, none⟩) 1 1 (bvs (genR 0)) := Own.of_block (heap_alloc_new w _) (Nat.le_refl _) rfl (Nat.le_refl _) (by unfold maxLen; omega) (by simp) (fun i u h => by simpa [genR, bvs, bv] using h)
  go_loopw [6, 7] (fun gv jv wr => ∃ (j : Nat) (A1 : Option Addr) (c1 : Nat), j ≤ ck ∧ jv = .int .i64 ((j : Int) + 1) ∧ gv = .slice A1 (j + 1) c1 ∧ Own wr w.heap.size 5 1 A1 (j + 1) c1 (bvs (genR j)) ∧ Below w.heap.size w wr) (fun _ jv _ => (ck + 1 - intOf jv).toNat)
  case atStart => exact ⟨0, _, _, by omega, rfl, rfl, hO1, (Below.refl _ _).alloc (Nat.le_refl _) _⟩
  case round =>
    obtain ⟨j, A1, c1, hj, rfl, rfl, hO, hB⟩ := hrel
    clear hO1
    by_cases hlt : j < ck
    · have d1 : decide ((j : Int) + 1 ≤ (ck : Int)) = true := by simp; omega
      have hl1 : (bvs (genR j)).length = j + 1 := by rw [bvs_length, genR_len]
      have HG : Hid (trimL (timesTo (genR j) [pwB (j + 1), 1] (j + 1)) = genR (j + 1)) := by show _ = trimL _; rw [genR_len]
      have HGL := Lib.hid (genR_len (j + 1))
      have hp := Lib.hid (fun w => rpower_o ((j : Int) + 1) (j + 1) w (by omega))
      clear hl1
      go_wp2_with fail
      refine (hp.out _).mono ?_
      rintro e _ ⟨rfl, rfl⟩
      have hR2 := two_lit wr (pwB (j + 1))
      have hO2 := hO.alloc (.cells #[.int .u8 ((pwB (j + 1)).toNat : Int), .int .u8 1] 5)
      generalize pwB (j + 1) = a at *
      go_wp2_with fail
      refine (times_ref_good A1 (some ⟨wr.heap.size, 0, none⟩) (genR j) [a, 1] (j + 1) 2 c1 2 _ (genR_len j) rfl hO2.rd hR2 (by omega) (by omega) (by omega) (by omega)).mono ?_
      intro e w2 h2
      obtain ⟨A2, c2, rfl, hO3, hb3⟩ := h2.use
      rw [HG.out, HGL.out] at hO3
      simp only [HG.out, HGL.out]
      go_wp2_with fail
      go_roundw
      case rel => exact ⟨j + 1, A2, c2, by omega, by go_num, rfl, hO3.mono (by have := hB.size; simp; omega), (hB.alloc hB.size _).trans (hb3.mono (by have := hB.size; simp; omega))⟩
      case measure => simp [intOf]; omega
    · obtain rfl : j = ck := by omega
      have d1 : decide ((j : Int) + 1 ≤ (j : Int)) = false := by simp; omega
      go_upto_region 8 with fail
      have hra := ha.below hB
      have q2 : j + n ≤ maxLen := by unfold maxLen; omega
      have q3 : (j + n) * 1 ≤ 140737488355328 := by omega
      have qlen : Hid ((bvs l.reverse).length = n * 1) := by show _ = _; rw [bvs_length, List.length_reverse, HL.out]; omega
      have hbs := hB.size
      go_cut [8] (fun s8 wx => ∃ (A8 : Option Addr) (c8 : Nat) (W : World), W = wx ∧ s8 = .slice A8 (j + n) c8 ∧ Own W w.heap.size 5 1 A8 (j + n) c8 (bvs (upOf l j)) ∧ Below wr.heap.size wr W)
      · go_region_law (first
          | (go_simp; go_at_call 73; (with_reducible refine (backward_any A l n c _ HL.out (by first | exact hra | exact hra.drew | exact hra.alloc _ | exact (hra.alloc _).drew) (by omega)).mono ?_); rintro e wb ⟨Ab, cb, rfl, hOb, hbb⟩; have zb := hbb.size; simp at zb)
          | (have hq : Below (wr.alloc (.cells (madeCells #[.int .u8 0] j) 5)).drew.heap.size (wr.alloc (.cells (madeCells #[.int .u8 0] j) 5)).drew wb := hbb; refine step_append_Own _ rfl (.tmp 40) (.tmp 42) 22 rfl w.heap.size 5 i0 _ 1 1 Try.underlying22 hi0 hz0 hz1 hz2 rfl (some ⟨wr.heap.size, 0, none⟩) j j (bvs (List.replicate j 0)) (by simp [Act.eval, Act.put]) (by first | exact ((Own.made8 wr j j (Nat.le_refl _) (by unfold maxLen; omega)).below hbb).mono hB.size | exact ((Own.made8 wr j j (Nat.le_refl _) (by unfold maxLen; omega)).drew.below hbb).mono hB.size) Ab n cb (bvs l.reverse) (by simp [Act.eval, Act.put]) qlen.out (by first | exact hOb.rd | exact hOb.rd.alloc _ | exact (hOb.rd.alloc _).drew) (bvs_one _) q2 q3 (by first | omega | (simp; omega)) ?_; intro A8 c8 w8 hO8 hg8 hor8; have hBW : Below wr.heap.size wr w8 := ((by first | exact ((Below.refl _ _).alloc (Nat.le_refl _) _).trans (hbb.mono (by simp)) | exact (((Below.refl _ _).alloc (Nat.le_refl _) _).drew).trans (hbb.mono (by simp)) : Below wr.heap.size wr wb)).grown hg8 (by omega) (fun q hq => by have := blk_lit hq; omega))
          | (have hbb2 : Below wr.heap.size wr.drew wb := hbb; have hbX : Below wr.heap.size wr wb := ((Below.refl _ _).drew).trans hbb2; refine step_append_Own _ rfl (.tmp 40) (.tmp 42) 22 rfl w.heap.size 5 i0 _ 1 1 Try.underlying22 hi0 hz0 hz1 hz2 rfl (some ⟨wb.heap.size, 0, none⟩) j j (bvs (List.replicate j 0)) (by simp [Act.eval, Act.put]) (by first | exact (Own.made8 wb j j (Nat.le_refl _) (by unfold maxLen; omega)).mono (by omega) | exact (Own.made8 wb j j (Nat.le_refl _) (by unfold maxLen; omega)).drew.mono (by omega)) Ab n cb (bvs l.reverse) (by simp [Act.eval, Act.put]) qlen.out (by first | exact hOb.rd | exact hOb.rd.alloc _ | exact (hOb.rd.alloc _).drew) (bvs_one _) q2 q3 (by first | omega | (simp; omega)) ?_; intro A8 c8 w8 hO8 hg8 hor8; have hBW : Below wr.heap.size wr w8 := ((by first | exact hbX.alloc (by omega) _ | exact (hbX.alloc (by omega) _).drew : Below wr.heap.size wr _)).grown hg8 (by simp; omega) (fun q hq => by have := blk_lit hq; omega))
          )
        all_goals go_wp2_with fail
        all_goals go_meet
        all_goals exact ⟨A8, c8, w8, rfl, rfl, by (rw [← bvs_append] at hO8; exact hO8), hBW⟩
      obtain ⟨A8, c8, W, rfl, rfl, hU, hbW⟩ := hcut
      have hul : (upOf l j).length = j + n := by rw [upOf_len, HL.out]; omega
      obtain ⟨hEn, hT⟩ := enc_both l j (by omega)
      have hF : overF (upOf l j) (genR j) = (trimL (overE (genR j) (upOf l j)).1, trimL (overE (genR j) (upOf l j)).2, 0) := by
        have h1 : ¬ ((upOf l j).length > 512 ∨ (genR j).length > 512) := by rw [hul, genR_len]; omega
        have h2 : trimL (genR j) ≠ [] := by
          rw [genR_trim]
          intro e
          have := genR_len j
          rw [e] at this
          simp at this
        unfold overF
        rw [if_neg h1, if_neg h2, genR_trim]
      have HF := Lib.hid hF
      have hRL := trimL_len (overE (genR j) (upOf l j)).2
      clear hF
      generalize tlen (overE (genR j) (upOf l j)).2 = T at *
      generalize trimL (overE (genR j) (upOf l j)).1 = Q at *
      generalize trimL (overE (genR j) (upOf l j)).2 = R at *
      have HEn := Lib.hid hEn
      have HRL := Lib.hid hRL
      replace hO := hO.step hbW
      replace hB := nextB hB hB.size hbW
      have hle := hU.le
      obtain ⟨b8, o8, rfl, hb8, hb8l⟩ := hU.form (by omega)
      clear hEn hRL
      go_wp2_with fail
      refine (rover_any _ A1 (upOf l j) (genR j) (j + n) (j + 1) c8 c1 _ hul (genR_len j) hU.rd hO.rd hO.le (by omega) (by omega)).mono ?_
      rw [HF.out]
      intro e w9 h9
      obtain ⟨A9, c9, B9, d9, rfl, hO9, hV9, _, hb9⟩ := h9
      have hlt9 := hV9.lt
      dsimp only at hV9
      simp only [HRL.out] at hV9 ⊢
      replace hU := hU.step hb9
      replace hB := nextB hB hB.size hb9
      clear hO9
      go_wp2_with fail
      go_loopw [12] (fun iv wr => ∃ k : Nat, k ≤ T ∧ iv = .int .i64 k ∧ Own wr w.heap.size 5 1 (some ⟨b8, o8, none⟩) (j + n) c8 (bvs (copyTo (upOf l j) R k)) ∧ Rd wr B9 (bvs R) ∧ Below w.heap.size w wr) (fun iv _ => T - (intOf iv).toNat)
      case atStart => exact ⟨0, Nat.zero_le _, rfl, hU, hV9.rd, hB⟩
      case round =>
        obtain ⟨k, hk, rfl, hU', hR', hB'⟩ := hrel
        clear hU hV9 hB
        by_cases hlt2 : k < T
        · obtain ⟨b9, o9, rfl, hc9⟩ := hR'.byteD (k := k) (by rw [HRL.out]; exact hlt2)
          have hne9 : ¬ b8 = b9 := fun e => by have := hlt9 b9 rfl; omega
          have HS : Hid (copyTo (upOf l j) R (k + 1) = (copyTo (upOf l j) R k).set k (R.getD k 0)) := Lib.hid rfl
          generalize R.getD k 0 = z at *
          obtain ⟨y, hy, hc8⟩ := hU'.byteAt (k := k) (by omega)
          have hf8 := hU'.frozen (o8 + k)
          have gz := byte_lt z
          have i1 : (k : Int) < (T : Int) := by omega
          have i2 : (k : Int) < (j : Int) + (n : Int) := by omega
          clear hy
          go_wp2
          go_roundw
          case rel => exact ⟨k + 1, by omega, by go_num, by rw [HS.out]; exact hU'.setB (by omega) z, hR'.setCell (fun e => hne9 (blk_lit e)) _, hB'.setCell hb8 _⟩
          case measure => simp [intOf]; omega
        · obtain rfl : k = T := by omega
          go_wp2_with fail
          refine (backward_any _ (copyTo (upOf l j) R k) (j + n) c8 _ (by rw [copyTo_len, hul]) hU'.rd (by omega)).mono ?_
          rintro e w10 ⟨A10, c10, rfl, hO10, hb10⟩
          rw [HEn.out] at hO10
          go_wp2
          go_ret2
          have hel : (encL l j).length = j + n := by rw [encL_len l (by omega), HL.out]; omega
          refine ⟨A10, c10, ?_, ?_, nextB hB' hB'.size hb10⟩
          · show _ = Ending.returned (.tuple #[.slice A10 (encL l j).length c10, _])
            rw [hel]
            rfl
          · show Own _ _ _ _ _ (encL l j).length _ _
            rw [hel]
            exact hO10.mono hB'.size

def encF (l : List UInt8) (ck : Int) : List UInt8 × Int := if l = [] ∨ sizedB ((l.length : Int) + ck) ck = false then ([], 1) else (encL l ck.toNat, 0)
set_option maxHeartbeats 3200000 in
set_option maxRecDepth 100000 in
theorem renc_any (A : Option Addr) (l : List UInt8) (n c : Nat) (ck : Int) (w : World) (hl : l.length = n) (ha : Rd w A (bvs l)) (hn : n ≤ 140737488351300) :
    Calls Try.prog 24 #[.slice A n c, .int .i64 ck] w fun e w' => BytesRes w w' (encF l ck) e := by
  by_cases h0 : n = 0
  · subst h0
    have e : encF l ck = ([], 1) := by unfold encF; rw [if_pos (.inl (List.eq_nil_of_length_eq_zero hl))]
    rw [e]
    go_enter Try.func24, Try.ntmps24
    go_wp2
    go_ret2
    exact BytesRes.none_ (Below.refl _ _)
  have d0 : ((n : Int) == 0) = false := by simp; omega
  by_cases hs : 1 ≤ ck ∧ ck ≤ 64
  · obtain ⟨k, rfl⟩ := Int.eq_ofNat_of_zero_le (show 0 ≤ ck by omega)
    by_cases h255 : n + k ≤ 255
    · have e : encF l (k : Int) = (encL l k, 0) := by
        unfold encF
        rw [if_neg, Int.toNat_natCast]
        rintro (h | h)
        · rw [h] at hl; simp at hl; omega
        · rw [sizedB_yes ⟨by omega, by omega, by omega, by omega⟩] at h; cases h
      rw [e]
      exact renc_good A l n c k w hl ha (by omega) (by omega) (by omega) h255
    · have e : encF l (k : Int) = ([], 1) := by
        unfold encF
        rw [if_pos (.inr (sizedB_no (by omega)))]
      rw [e]
      have hz := fun w => rsized_any ((n : Int) + (k : Int)) (k : Int) w
      rw [sizedB_no (by omega)] at hz
      have HZ := Lib.hid hz
      clear hz e hl
      go_enter Try.func24, Try.ntmps24
      go_wp2_with fail
      refine (HZ.out _).mono ?_
      rintro e _ ⟨rfl, rfl⟩
      go_wp2
      go_ret2
      exact BytesRes.none_ (Below.refl _ _)
  · have e : encF l ck = ([], 1) := by
      unfold encF
      rw [if_pos (.inr (sizedB_no (fun h => hs ⟨h.1, h.2.1⟩)))]
    rw [e]
    have HZ := Lib.hid (fun (m : Int) w => (sizedB_no (n := m) (c := ck) (fun h => hs ⟨h.1, h.2.1⟩)) ▸ rsized_any m ck w)
    clear e hl hs
    go_enter Try.func24, Try.ntmps24
    go_wp2_with fail
    refine (HZ.out _ _).mono ?_
    rintro e _ ⟨rfl, rfl⟩
    go_wp2
    go_ret2
    exact BytesRes.none_ (Below.refl _ _)
end Go.Proofs.Ytolcaolmdfbfhaa
