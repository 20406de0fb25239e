/-
  The program's Seal.
-/
import Derived.Test.YtkbaganbfcbioaaKeyMay
import Derived.Test.YtkbaganbfcbioaaCoverG
import Derived.Test.YtkbaganbfcbioaaTagA
namespace Go.Proofs.Ytkbaganbfcbioaa
set_option linter.unusedSimpArgs false
set_option linter.unusedVariables false
open Go.RowKit

set_option maxHeartbeats 3200000 in
set_option maxRecDepth 100000 in
theorem kseal_state (x : Ky) (A : Option Addr) (cp : Nat) (C : Int) (g off : Nat) (m c : Nat) (w : World) (ha : Rd w A (ivs x.words)) (hn : x.words.length ≤ 17592186044400) (hs : x.seen < 9223372036854775808) (hk : ¬ keyOk x) :
    Calls Try.prog 32 #[kyv x A cp, .int .i64 C, .slice (some ⟨g, off, none⟩) m c] w fun e w' => BytesRes w w' ([], 11) e := by
  have HK := Lib.hid (fun (w : World) (ha : Rd w A (ivs x.words)) => kmay_any x A cp w ha hn hs)
  have hd : decide (keyOk x) = false := decide_eq_false hk
  rw [hd] at HK
  have hkv : kyv x A cp = .agg #[.int .i64 x.id, .slice A x.words.length cp, .int .i64 x.top, .int .i64 x.seen] := rfl
  rw [hkv] at HK ⊢
  have haB : ∀ t cs, Rd (w.alloc (.cells cs t)) A (ivs x.words) := fun t cs => ha.alloc _
  have HB : ∀ t cs, Below w.heap.size w (w.alloc (.cells cs t)) := fun t cs => (by repeat (first | with_reducible exact Below.refl _ _ | with_reducible assumption | with_reducible refine below_drewN ?_ _ | with_reducible refine Below.drew ?_ | with_reducible refine Below.alloc ?_ ?_ _ | with_reducible refine Below.setCell ?_ ?_ _ | with_reducible exact Nat.le_refl _ | (simp; omega) | (simp; done)))
  generalize x.words.length = n at *
  generalize x.id = id at *
  generalize x.top = top at *
  generalize x.seen = seen at *
  clear hd hkv hk ha hn hs
  go_enter Try.func32, Try.ntmps32
  go_wp2_with (first | (go_at_call 47; (with_reducible refine (HK.out _ (haB _ _)).mono ?_); rintro e w1 ⟨rfl, hb1⟩))
  go_ret2
  exact BytesRes.none_ ((HB _ _).trans (hb1.mono (by simp)))
set_option maxHeartbeats 3200000 in
set_option maxRecDepth 100000 in
theorem kseal_range (x : Ky) (A : Option Addr) (cp : Nat) (C : Int) (g off : Nat) (m c : Nat) (w : World) (ha : Rd w A (ivs x.words)) (hn : x.words.length ≤ 17592186044400) (hs : x.seen < 9223372036854775808) (hk : keyOk x) (hC : C < 0 ∨ 281474976710655 < C) :
    Calls Try.prog 32 #[kyv x A cp, .int .i64 C, .slice (some ⟨g, off, none⟩) m c] w fun e w' => BytesRes w w' ([], 2) e := by
  have HK := Lib.hid (fun (w : World) (ha : Rd w A (ivs x.words)) => kmay_any x A cp w ha hn hs)
  have hd : decide (keyOk x) = true := decide_eq_true hk
  rw [hd] at HK
  have hkv : kyv x A cp = .agg #[.int .i64 x.id, .slice A x.words.length cp, .int .i64 x.top, .int .i64 x.seen] := rfl
  rw [hkv] at HK ⊢
  have haB : ∀ t cs, Rd (w.alloc (.cells cs t)) A (ivs x.words) := fun t cs => ha.alloc _
  have HB : ∀ t cs, Below w.heap.size w (w.alloc (.cells cs t)) := fun t cs => (by repeat (first | with_reducible exact Below.refl _ _ | with_reducible assumption | with_reducible refine below_drewN ?_ _ | with_reducible refine Below.drew ?_ | with_reducible refine Below.alloc ?_ ?_ _ | with_reducible refine Below.setCell ?_ ?_ _ | with_reducible exact Nat.le_refl _ | (simp; omega) | (simp; done)))
  generalize x.words.length = n at *
  generalize x.id = id at *
  generalize x.top = top at *
  generalize x.seen = seen at *
  clear hd hkv hk ha hn hs
  have HI := Lib.hid (fun (w : World) => kin_no C 281474976710655 w hC)
  clear hC
  go_enter Try.func32, Try.ntmps32
  go_wp2_with (first | (go_at_call 47; (with_reducible refine (HK.out _ (haB _ _)).mono ?_); rintro e w1 ⟨rfl, hb1⟩) | (go_at_call 53; (with_reducible refine (HI.out _).mono ?_); rintro e w1 ⟨rfl, rfl⟩))
  go_ret2
  exact BytesRes.none_ ((HB _ _).trans (hb1.mono (by simp)))
set_option maxHeartbeats 3200000 in
set_option maxRecDepth 100000 in
theorem kseal_size (x : Ky) (A : Option Addr) (cp : Nat) (C : Int) (g off : Nat) (m c : Nat) (w : World) (ha : Rd w A (ivs x.words)) (hn : x.words.length ≤ 17592186044400) (hs : x.seen < 9223372036854775808) (hk : keyOk x) (hC0 : 0 ≤ C) (hC1 : C ≤ 281474976710655) (hm : 1000 < m) :
    Calls Try.prog 32 #[kyv x A cp, .int .i64 C, .slice (some ⟨g, off, none⟩) m c] w fun e w' => BytesRes w w' ([], 1) e := by
  have HK := Lib.hid (fun (w : World) (ha : Rd w A (ivs x.words)) => kmay_any x A cp w ha hn hs)
  have hd : decide (keyOk x) = true := decide_eq_true hk
  rw [hd] at HK
  have hkv : kyv x A cp = .agg #[.int .i64 x.id, .slice A x.words.length cp, .int .i64 x.top, .int .i64 x.seen] := rfl
  rw [hkv] at HK ⊢
  have haB : ∀ t cs, Rd (w.alloc (.cells cs t)) A (ivs x.words) := fun t cs => ha.alloc _
  have HB : ∀ t cs, Below w.heap.size w (w.alloc (.cells cs t)) := fun t cs => (by repeat (first | with_reducible exact Below.refl _ _ | with_reducible assumption | with_reducible refine below_drewN ?_ _ | with_reducible refine Below.drew ?_ | with_reducible refine Below.alloc ?_ ?_ _ | with_reducible refine Below.setCell ?_ ?_ _ | with_reducible exact Nat.le_refl _ | (simp; omega) | (simp; done)))
  generalize x.words.length = n at *
  generalize x.id = id at *
  generalize x.top = top at *
  generalize x.seen = seen at *
  clear hd hkv hk ha hn hs
  have HI := Lib.hid (fun (w : World) => kin_yes C 281474976710655 w hC0 hC1)
  have hmi : (1000 : Int) < (m : Int) := by omega
  go_enter Try.func32, Try.ntmps32
  go_wp2_with (first | (go_at_call 47; (with_reducible refine (HK.out _ (haB _ _)).mono ?_); rintro e w1 ⟨rfl, hb1⟩) | (go_at_call 53; (with_reducible refine (HI.out _).mono ?_); rintro e w1 ⟨rfl, rfl⟩))
  go_ret2
  exact BytesRes.none_ ((HB _ _).trans (hb1.mono (by simp)))
set_option maxHeartbeats 6400000 in
set_option maxRecDepth 100000 in
theorem kseal_good (x : Ky) (A : Option Addr) (cp C : Nat) (g off : Nat) (b : List UInt8) (m c : Nat) (w : World) (ha : Rd w A (ivs x.words)) (hs : x.seen < 9223372036854775808) (hk : keyOk x) (hC1 : C ≤ 281474976710655) (hb : Rd w (some ⟨g, off, none⟩) (bvs b)) (hbl : b.length = m) (hm : m ≤ 1000) (hmc : m ≤ c) (hgw : g < w.heap.size) :
    Calls Try.prog 32 #[kyv x A cp, .int .i64 (C : Int), .slice (some ⟨g, off, none⟩) m c] w fun e w' => BytesRes w w' (sealL x C b, 0) e := by
  obtain ⟨i0, hi0, hz0, hz1, hz2⟩ := info_parts u8info
  obtain ⟨h8, hl, _, _, _, _⟩ := padErr_zero hk.1.1.2
  obtain ⟨e1, e2⟩ := toNats hl
  have hid0 := hk.1.1.1.1
  have hid1 := hk.1.1.1.2
  have HK := Lib.hid (fun (w : World) (ha : Rd w A (ivs x.words)) => kmay_any x A cp w ha (by omega) hs)
  rw [decide_eq_true hk] at HK
  have hW8 : (x.words.map Int.toNat).length = 8 := by simpa using h8
  have hF : ∀ I, I ≤ 1000 → Sq (firstL (x.words.map Int.toNat) C I) := fun I hI => first_sq hW8 e2 hC1 hI
  have hlen := sealBody_len x C b
  have HS : Hid (sealL x C b = sealBody x C b ++ tagL (x.words.map Int.toNat) C (sealBody x C b)) := Lib.hid rfl
  have HBd : Hid (sealBody x C b = ([UInt8.ofNat x.id.toNat] ++ be6To C 6) ++ coverL (x.words.map Int.toNat) C b) := Lib.hid rfl
  have hTl := tagL_len (x.words.map Int.toNat) C (sealBody x C b)
  have hSl := sealL_len x C b
  have hcl := coverL_len (x.words.map Int.toNat) C b
  have HCV := Lib.hid (fun (w : World) (ha : Rd w A (ivs x.words)) (hb : Rd w (some ⟨g, off, none⟩) (bvs b)) (hg : g < w.heap.size) => cover_good A (x.words.map Int.toNat) cp C g off m c b w hW8 e2 (by rw [e1]; exact ha) hC1 hF hbl hb hmc (by omega) hg)
  have HT := Lib.hid (fun (w : World) (ha : Rd w A (ivs x.words)) (g' o' : Nat) (l : List UInt8) (n c' : Nat) (hl : l.length = n) (hn : n ≤ 2000) (hc : n ≤ c') (hb : Rd w (some ⟨g', o', none⟩) (bvs l)) (hg : g' < w.heap.size) => ktag_good A (x.words.map Int.toNat) cp C g' o' n c' l w hW8 e2 (by rw [e1]; exact ha) hC1 (hF 0 (by omega)) hl hb hc (by omega) hg)
  have HI := Lib.hid (fun (w : World) => kin_yes (C : Int) 281474976710655 w (by omega) (by omega))
  rw [hbl] at hlen hSl hcl
  have hkv : kyv x A cp = .agg #[.int .i64 x.id, .slice A 8 cp, .int .i64 x.top, .int .i64 x.seen] := by unfold kyv; rw [h8]
  rw [hkv] at HK ⊢
  have hidb : x.id = ((UInt8.ofNat x.id.toNat).toNat : Int) := by rw [UInt8.toNat_ofNat']; omega
  generalize UInt8.ofNat x.id.toNat = ib at *
  have HA := Lib.hid ha
  have HBb := Lib.hid hb
  have HBL := Lib.hid hbl
  generalize x.id = id at *
  generalize x.top = top at *
  generalize x.seen = seen at *
  generalize hTG : tagL (x.words.map Int.toNat) C (sealBody x C b) = TG at *
  have HTG := Lib.hid hTG
  clear hTG
  generalize sealBody x C b = SB at *
  generalize sealL x C b = SL at *
  generalize coverL (x.words.map Int.toNat) C b = CV at *
  generalize x.words = words at *
  clear hkv hW8 hF e1 e2 hl h8 hk ha hb hbl hs
  subst hidb
  have gib := byte_lt ib
  go_enter Try.func32, Try.ntmps32
  go_wp2_with fail
  refine (HK.out _ (HA.out.alloc _)).mono ?_
  rintro e w1 ⟨rfl, hb1⟩
  have hK : Blk w1 w.heap.size 46 #[.int .i64 (ib.toNat : Int), .slice A 8 cp, .int .i64 top, .int .i64 seen] := (hb1.block w.heap.size (by simp)).trans (Blk.new w _ _)
  have hB1 : Below w.heap.size w w1 := (show Below w.heap.size w (w.alloc (.cells #[.int .i64 (ib.toNat : Int), .slice A 8 cp, .int .i64 top, .int .i64 seen] 46)) from (by repeat (first | with_reducible exact Below.refl _ _ | with_reducible assumption | with_reducible refine below_drewN ?_ _ | with_reducible refine Below.drew ?_ | with_reducible refine Below.alloc ?_ ?_ _ | with_reducible refine Below.setCell ?_ ?_ _ | with_reducible exact Nat.le_refl _ | (simp; omega) | (simp; done)))).trans (hb1.mono (by simp))
  have z1 : w.heap.size < w1.heap.size := hK.lt
  have k0 := hK.cell' (i := 0) rfl
  have hmi : decide ((1000 : Int) < (m : Int)) = false := decide_eq_false (by omega)
  have hCd : decide ((C : Int) < 0) = false := decide_eq_false (by omega)
  have hCe : decide ((281474976710655 : Int) < (C : Int)) = false := decide_eq_false (by omega)
  have hC0 : (0 : Int) ≤ (C : Int) := by omega
  have hC2 : (C : Int) ≤ 281474976710655 := by omega
  clear HK hb1
  go_wp2_with (go_at_call 53; (with_reducible refine (HI.out _).mono ?_); rintro e w2 ⟨rfl, rfl⟩)
  obtain ⟨W, hW⟩ : ∃ W : World, W = w1.alloc (.cells #[.int .u8 (ib.toNat : Int)] 5) := ⟨_, rfl⟩
  have hO0 : Own W w1.heap.size 5 1 (some ⟨w1.heap.size, 0, none⟩) 1 1 (bvs [ib]) := by rw [hW]; exact Own.of_block (heap_alloc_new w1 _) (Nat.le_refl _) rfl (Nat.le_refl _) (by unfold maxLen; omega) (by simp) (fun i u h => by simpa [bvs, bv] using h)
  have hKW : Blk W w.heap.size 46 #[.int .i64 (ib.toNat : Int), .slice A 8 cp, .int .i64 top, .int .i64 seen] := by rw [hW]; exact hK.alloc _
  have hBW : Below w1.heap.size w1 W := by rw [hW]; exact (Below.refl _ _).alloc (Nat.le_refl _) _
  rw [← hW]
  clear hW hK k0
  go_loopw [8, 26] (fun v i wr => ∃ (j : Nat) (A2 : Option Addr) (c2 : Nat), j ≤ 6 ∧ i = .int .i64 (j : Int) ∧ v = .slice A2 (1 + j) c2 ∧ Own wr w1.heap.size 5 1 A2 (1 + j) c2 (bvs ([ib] ++ be6To C j)) ∧ Below w1.heap.size w1 wr) (fun _ i _ => 6 - (intOf i).toNat)
  case atStart => exact ⟨0, _, 1, by omega, rfl, rfl, hO0, hBW⟩
  case round =>
    obtain ⟨j, A2, c2, hj, rfl, rfl, hO, hb⟩ := hrel
    by_cases h6 : j < 6
    · have h6i : (j : Int) < 6 := by omega
      have hbe := Lib.hid (be6To_succ C j)
      have hby := byte_shr' C (40 - 8 * j)
      have hs4 : (40 : Int) - 8 * (j : Int) = ((40 - 8 * j : Nat) : Int) := by omega
      have hs5 : (0 : Int) ≤ 40 - 8 * (j : Int) := by omega
      have hs6 : ((40 : Int) - 8 * (j : Int)).toNat = 40 - 8 * j := by omega
      generalize UInt8.ofNat (C / 2 ^ (40 - 8 * j)) = z at *
      have HBE := hbe
      generalize be6To C j = X at *
      obtain ⟨XV, hXV⟩ : ∃ V, V = bvs ([ib] ++ X) := ⟨_, rfl⟩
      rw [← hXV] at hO
      have HXV := Lib.hid hXV
      clear hXV
      obtain ⟨j1, hj1⟩ : ∃ j1, j1 = 1 + j := ⟨_, rfl⟩
      rw [← hj1] at hO ⊢
      have HJ1 := Lib.hid hj1
      have hOn := hO.alloc (.cells #[.int .u8 (z.toNat : Int)] 5)
      have hR1 := Rd_one wr (.int .u8 (z.toNat : Int)) 5
      have zb := hb.size
      have hbsa : w1.heap.size ≤ (wr.alloc (.cells #[.int .u8 (z.toNat : Int)] 5)).heap.size := by simp; omega
      have q2a : j1 + 1 ≤ maxLen := by unfold maxLen; omega
      have q3a : (j1 + 1) * 1 ≤ 140737488355328 := by omega
      have HB5 := Lib.hid hb
      clear hb hj1
      go_wp2_with (at_builtin; refine wpList_append_Own (wr.alloc (.cells #[.int .u8 (z.toNat : Int)] 5)) rfl (.tmp 29) (.tmp 36) 22 rfl w1.heap.size 5 i0 _ 1 1 Try.underlying22 hi0 hz0 hz1 hz2 rfl A2 j1 c2 XV ?hsa ?hoa (some ⟨wr.heap.size, 0, none⟩) 1 1 [.int .u8 (z.toNat : Int)] ?hxa ?hla ?hRa ?h1a ?h6a ?hba ?hBa ?hha; (case hsa => (first | rfl | (simp [Act.eval, Act.put]; done))); (case hoa => exact hOn); (case hxa => (first | rfl | (simp [Act.eval, Act.put]; done))); (case hla => first | rfl | exact QLa.out); (case hRa => exact hR1); (case h1a => exact fun u hu => (by simp at hu; subst hu; rfl)); (case h6a => exact q2a); (case hba => exact q3a); (case hBa => exact hbsa); intro A3 c3 w9 hO9 hg9 hor9)
      go_roundw
      case rel =>
        refine ⟨j + 1, A3, c3, by omega, by go_num, by rw [show 1 + (j + 1) = j1 + 1 from by have := HJ1.out; omega], ?_, ?_⟩
        · rw [hbe.out, ← List.append_assoc, bvs_append, ← HXV.out, show 1 + (j + 1) = j1 + 1 from by have := HJ1.out; omega]
          exact hO9
        · exact (HB5.out.alloc (by omega) _).grown hg9 (by simp; omega) (fun q hq => by have := hOn.lt q hq; omega)
      case measure => simp [intOf] <;> omega
    · obtain rfl : j = 6 := by omega
      have hBr : Below w.heap.size w wr := hB1.trans (hb.mono (by omega))
      have hKr : Blk wr w.heap.size 46 #[.int .i64 (ib.toNat : Int), .slice A 8 cp, .int .i64 top, .int .i64 seen] := by
        have h1 : Blk w1 w.heap.size 46 #[.int .i64 (ib.toNat : Int), .slice A 8 cp, .int .i64 top, .int .i64 seen] := (hBW.block w.heap.size z1).symm.trans hKW
        exact (hb.block w.heap.size z1).trans h1
      have k1 := hKr.cell' (i := 1) rfl
      have zr := hb.size
      have CCV := Lib.hid (HCV.out wr (HA.out.below hBr) (HBb.out.below hBr) (by omega))
      clear hKW
      go_wp2_with fail
      refine CCV.out.mono ?_
      rintro e w2 ⟨A3, c3, rfl, hO3, hb2⟩
      rw [hcl] at hO3 ⊢
      have hO2 := hO.step hb2
      have hB2 := hBr.trans (hb2.mono hBr.size)
      have k1' := (hb2.cell (p := ⟨w.heap.size, 1, none⟩) (show w.heap.size < wr.heap.size by omega)).trans k1
      have z2 := hb2.size
      generalize hXV : bvs ([ib] ++ be6To C 6) = XV at *
      have HXV := Lib.hid hXV
      clear hXV
      have QLb : Hid ((bvs CV).length = m * 1) := by show _ = _; simp [bvs, hcl]
      have q2b : 7 + m ≤ maxLen := by unfold maxLen; omega
      have q3b : (7 + m) * 1 ≤ 140737488355328 := by omega
      have hbsb : w1.heap.size ≤ w2.heap.size := by omega
      have HKr := Lib.hid hKr
      clear hO hKr k1
      go_wp2_with (at_builtin; refine wpList_append_Own w2 rfl (.tmp 39) (.tmp 44) 22 rfl w1.heap.size 5 i0 _ 1 1 Try.underlying22 hi0 hz0 hz1 hz2 rfl A2 7 c2 XV ?hsb ?hob A3 m c3 (bvs CV) ?hxb ?hlb ?hRb ?h1b ?h6b ?hbb ?hBb ?hhb; (case hsb => (first | rfl | (simp [Act.eval, Act.put]; done))); (case hob => exact hO2); (case hxb => (first | rfl | (simp [Act.eval, Act.put]; done))); (case hlb => first | rfl | exact QLb.out); (case hRb => exact hO3.rd); (case h1b => exact bvs_one _); (case h6b => exact q2b); (case hbb => exact q3b); (case hBb => exact hbsb); intro A4 c4 w3 hO4 hg4 hor4; have k3c : w3.cell? ⟨w.heap.size, 1, none⟩ = some (.slice A 8 cp) := (World.cell?_of_block (w := w2) (a := ⟨w.heap.size, 1, none⟩) (hg4.block w.heap.size (by omega) (fun e => by have := hO2.lt _ e.symm; omega))).trans k1')
      have hb4 : Below w1.heap.size w2 w3 := (Below.refl _ _).grown hg4 (by omega) (fun q hq => (hO2.lt q hq).1)
      have hB3 := hB2.trans (hb4.mono (by omega))
      have hSB : bvs SB = XV ++ bvs CV := by rw [HBd.out, bvs_append, ← HXV.out]
      rw [← hSB] at hO4
      have z3 := hb4.size
      obtain ⟨g4, o4, rfl, hg41, hg42⟩ := hO4.form (by have := hO4.le; omega)
      have CT := Lib.hid (HT.out w3 (HA.out.below hB3) g4 o4 SB (7 + m) c4 hlen (by omega) hO4.le hO4.rd hg42)
      rw [HTG.out] at CT
      clear hSB k1' hO2 hO3
      refine CT.out.mono ?_
      rintro e w4 ⟨A5, c5, rfl, hO5, hb5⟩
      rw [hTl] at hO5 ⊢
      have hO6 := hO4.step hb5
      have hB4 := hB3.trans (hb5.mono hB3.size)
      have z4 := hb5.size
      have QLc : Hid ((bvs TG).length = 8 * 1) := by show _ = _; simp [bvs, hTl]
      have q2c : 7 + m + 8 ≤ maxLen := by unfold maxLen; omega
      have q3c : (7 + m + 8) * 1 ≤ 140737488355328 := by omega
      have hbsc : w1.heap.size ≤ w4.heap.size := by omega
      go_wp2_with (at_builtin; refine wpList_append_Own w4 rfl (.tmp 46) (.tmp 51) 22 rfl w1.heap.size 5 i0 _ 1 1 Try.underlying22 hi0 hz0 hz1 hz2 rfl (some ⟨g4, o4, none⟩) (7 + m) c4 (bvs SB) ?hsc ?hoc A5 8 c5 (bvs TG) ?hxc ?hlc ?hRc ?h1c ?h6c ?hbc ?hBc ?hhc; (case hsc => (first | rfl | (simp [Act.eval, Act.put]; done))); (case hoc => exact hO6); (case hxc => (first | rfl | (simp [Act.eval, Act.put]; done))); (case hlc => first | rfl | exact QLc.out); (case hRc => exact hO5.rd); (case h1c => exact bvs_one _); (case h6c => exact q2c); (case hbc => exact q3c); (case hBc => exact hbsc); intro A6 c6 w5 hO7 hg7 hor7)
      have hb7 : Below w1.heap.size w4 w5 := (Below.refl _ _).grown hg7 (by omega) (fun q hq => (hO6.lt q hq).1)
      go_ret2
      refine ⟨A6, c6, ?_, ?_, hB4.trans (hb7.mono (by omega))⟩
      · rw [hSl, show 15 + m = 7 + m + 8 from by omega]
        first | rfl | (simp; omega)
      · show Own w5 w.heap.size _ 1 A6 SL.length c6 (bvs SL)
        rw [hSl, show 15 + m = 7 + m + 8 from by omega, HS.out, bvs_append]
        exact hO7.mono (by omega)
theorem kseal_any (x : Ky) (A : Option Addr) (cp : Nat) (C : Int) (g off : Nat) (b : List UInt8) (c : Nat) (w : World) (ha : Rd w A (ivs x.words)) (hn : x.words.length ≤ 17592186044400) (hs : x.seen < 9223372036854775808) (hb : Rd w (some ⟨g, off, none⟩) (bvs b)) (hmc : b.length ≤ c) (hgw : g < w.heap.size) :
    Calls Try.prog 32 #[kyv x A cp, .int .i64 C, .slice (some ⟨g, off, none⟩) b.length c] w fun e w' => BytesRes w w' (sealR x C b) e := by
  unfold sealR
  by_cases hk : keyOk x
  · by_cases hC : C < 0 ∨ 281474976710655 < C
    · have e : sealErr x C b.length = 2 := by unfold sealErr; rw [if_neg (by simpa using hk), if_pos hC]
      rw [e, if_neg (by decide)]
      exact kseal_range x A cp C g off _ c w ha hn hs hk hC
    · by_cases hm : 1000 < b.length
      · have e : sealErr x C b.length = 1 := by unfold sealErr; rw [if_neg (by simpa using hk), if_neg hC, if_pos hm]
        rw [e, if_neg (by decide)]
        exact kseal_size x A cp C g off _ c w ha hn hs hk (by omega) (by omega) hm
      · have e : sealErr x C b.length = 0 := by unfold sealErr; rw [if_neg (by simpa using hk), if_neg hC, if_neg hm]
        rw [if_pos e]
        obtain ⟨D, rfl⟩ := Int.eq_ofNat_of_zero_le (show 0 ≤ C by omega)
        exact kseal_good x A cp D g off b _ c w ha hs hk (by omega) hb rfl (by omega) hmc hgw
  · have e : sealErr x C b.length = 11 := by unfold sealErr; rw [if_pos hk]
    rw [e, if_neg (by decide)]
    exact kseal_state x A cp C g off _ c w ha hn hs hk
end Go.Proofs.Ytkbaganbfcbioaa
