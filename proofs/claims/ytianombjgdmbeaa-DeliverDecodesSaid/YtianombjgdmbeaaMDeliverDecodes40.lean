/-
  The law DeliverDecodes, walked.
-/
import Derived.Test.YtianombjgdmbeaaMDeliverDecodes2
import Derived.Test.YtianombjgdmbeaaMDeliverDecodes35
import Derived.Test.YtianombjgdmbeaaMDeliverDecodes37
import Derived.Test.YtianombjgdmbeaaMDeliverDecodes38
import Derived.Test.YtianombjgdmbeaaMDeliverDecodes39
import Derived.Test.YtianombjgdmbeaaMDeliverDecodes16
import Derived.Test.YtianombjgdmbeaaMDeliverDecodes15
import Derived.Test.YtianombjgdmbeaaMDeliverDecodes4
namespace Go.Proofs.Ytianombjgdmbeaa
set_option linter.unusedSimpArgs false
set_option linter.unusedVariables false
open Go.RowKit

set_option maxHeartbeats 800000 in
set_option maxRecDepth 100000 in
theorem left_yes (g : Nat) (B : Option Addr) (l : List UInt8) (d : Nat) (w : World) (hR : Room w g l) (hb : Rd w B (bvs l)) (hn : l.length ≤ 140737488351232) :
    Calls Try.prog 19 #[.slice (some ⟨g, 0, none⟩) l.length (l.length + 5), .slice B l.length d] w fun e w' => e = .returned (.bool true) ∧ ∃ n, w' = w.drewN n := by
  go_enter Try.func19, Try.ntmps19
  go_wp2_with fail
  go_loopw [6] (fun i wr => ∃ k m : Nat, k ≤ l.length + 5 ∧ i = .int .i64 k ∧ wr = w.drewN m) (fun i _ => l.length + 5 - (intOf i).toNat)
  case atStart => exact ⟨0, 0, by omega, by simp, rfl⟩
  case round =>
    obtain ⟨k, m, hk, rfl, rfl⟩ := hrel
    by_cases h5 : k < l.length
    · obtain ⟨b, off, rfl, hc⟩ := hb.byte h5
      have hc2 : w.cell? ⟨g, k, none⟩ = some (.int .u8 (l[k].toNat : Int)) := by simpa using hR.rd.cell (bvs_get h5)
      have hge : decide (l.length ≤ k) = false := by simp; omega
      go_wp2
      go_quiet (fail)
      go_wp2
      go_roundw
      case rel => exact ⟨k + 1, _, by omega, by go_num, rfl⟩
      case measure => simp [intOf]; omega
    · by_cases h6 : k < l.length + 5
      · have hc2 := hR.mark (j := k) (by omega) h6
        have hge : decide (l.length ≤ k) = true := by simp; omega
        have hlt : decide (k < l.length) = false := by simp; omega
        go_wp2
        go_quiet (fail)
        go_wp2
        go_roundw
        case rel => exact ⟨k + 1, _, by omega, by go_num, rfl⟩
        case measure => simp [intOf]; omega
      · go_wp2
        go_ret
        exact ⟨rfl, _, rfl⟩
end Go.Proofs.Ytianombjgdmbeaa
namespace Go.Proofs.Ytianombjgdmbeaa
set_option linter.unusedSimpArgs false
set_option linter.unusedVariables false
open Go.RowKit

theorem note_small {n : Nt} (h : noteOk n = true) : n.data.length ≤ 1024 ∧ n.gaps.length ≤ 20 := by
  unfold noteOk bareOk kindOk at h
  simp only [Bool.and_eq_true, Bool.or_eq_true, decide_eq_true_eq] at h
  obtain ⟨⟨-, -, -⟩, h3⟩ := h.1, h.2
  have h2 := h.1.2
  split at h3
  · omega
  · split at h3
    · simp only [Bool.and_eq_true, decide_eq_true_eq] at h3; omega
    · split at h3
      · omega
      · split at h3
        · simp only [Bool.and_eq_true, decide_eq_true_eq] at h3; omega
        · omega
theorem dec_small (l : List UInt8) : (decR l).1.data.length ≤ 1024 ∧ (decR l).1.gaps.length ≤ 20 := by
  unfold decR
  split
  · exact ⟨Nat.zero_le _, Nat.zero_le _⟩
  · split
    · exact ⟨Nat.zero_le _, Nat.zero_le _⟩
    · split
      · rename_i h; exact note_small h
      · exact ⟨Nat.zero_le _, Nat.zero_le _⟩
theorem DecRes.open_ {w w' : World} {r : Nt × Int} {e : Ending} {n : Nt} {k : Int} {dn gn : Nat} (h : DecRes w w' r e) (hr : r = (n, k)) (hd : n.data.length = dn) (hg : n.gaps.length = gn) : ∃ D dc G gc, e = .returned (.tuple #[ntv n D dn dc G gn gc, .int .i64 k]) ∧ Own w' w.heap.size 5 1 D dn dc (bvs n.data) ∧ Own w' w.heap.size 66 2 G gn gc (gps n.gaps) ∧ Below w.heap.size w w' := by
  subst hr
  subst hd
  subst hg
  exact h
set_option maxHeartbeats 6400000 in
set_option maxRecDepth 100000 in
theorem deliverDecodes_walk (A : Option Addr) (l : List UInt8) (c : Nat) (w : World) (hA : Rd w A (bvs l)) (hC : l.length ≤ c) (hN : l.length ≤ 140737488351232) :
    Calls Try.prog 4 #[.slice A l.length c] w fun e w' => e = .returned (.bool true) ∧ Below w.heap.size w w' := by
  obtain ⟨n, k, hnk⟩ : ∃ n k, decR l = (n, k) := ⟨_, _, rfl⟩
  have hsm := dec_small l
  rw [hnk] at hsm
  obtain ⟨ln, hln⟩ : ∃ ln, l.length = ln := ⟨_, rfl⟩
  obtain ⟨dn, hdn⟩ : ∃ dn, n.data.length = dn := ⟨_, rfl⟩
  obtain ⟨gn, hgn⟩ : ∃ gn, n.gaps.length = gn := ⟨_, rfl⟩
  dsimp only at hsm
  rw [hdn, hgn] at hsm
  obtain ⟨hs1, hs2⟩ := hsm
  have CR := Lib.hid (fun (V : World) (hB : Below w.heap.size w V) => roomy_any A l c V (hA.below hB) hN)
  have C1 := Lib.hid (fun (V : World) (hB : Below w.heap.size w V) => (noteOf_any A l ln c V hln (hA.below hB) (by omega) (by omega)).mono fun e w' h => h.open_ hnk hdn hgn)
  have C2 := Lib.hid (fun (V : World) (g : Nat) (hR : Room V g l) => (decode_any (some ⟨g, 0, none⟩) l ln (ln + 5) V hln hR.rd (fun q hq => by have h := RoomK.lt hR; have e : g = q := Option.some.inj hq; omega) (by omega) (by omega) (by omega)).mono fun e w' h => h.open_ hnk hdn hgn)
  have C3 := Lib.hid (fun (V : World) (hB : Below w.heap.size w V) => fileSum_any A l ln c V hln (hA.below hB) (by omega))
  have C4 := Lib.hid (fun (V : World) (g : Nat) (hR : Room V g l) => sum_some g 0 ln (ln + 5) l V hln hR.rd (by omega) (by omega) (RoomK.lt hR))
  have C5 := Lib.hid (fun (V : World) (g : Nat) (hR : Room V g l) (hB : Below w.heap.size w V) => left_yes g A l c V hR (hA.below hB) hN)
  have CS := Lib.hid (fun (V : World) (D E : Option Addr) (dc ec : Nat) (G H : Option Addr) (gc hc : Nat) (hD : Rd V D (bvs n.data)) (hE : Rd V E (bvs n.data)) (hG : Rd V G (gps n.gaps)) (hH : Rd V H (gps n.gaps)) => sameNote_yes n D E dn dc ec G H gn gc hc V hdn hgn (by omega) (by omega) hD hE hG hH)
  have CP := Lib.hid (fun (base : Nat) (V : World) (g : Nat) (hR : Room V g l) (hb : base ≤ g) (hbV : base ≤ V.heap.size) => spoil_any base (some ⟨g, 0, none⟩) ln (ln + 5) l V (by have := hR.own (by unfold maxLen; omega) hb; rwa [hln] at this) (by omega) hbV)
  have CD := Lib.hid (fun (base : Nat) (V : World) (D : Option Addr) (dc : Nat) (hO : Own V base 5 1 D dn dc (bvs n.data)) (hbV : base ≤ V.heap.size) => spoil_any base D dn dc n.data V hO (by omega) hbV)
  have CO := Lib.hid (fun (base : Nat) (V : World) (G : Option Addr) (gc : Nat) (hO : Own V base 66 2 G gn gc (gps n.gaps)) (hbV : base ≤ V.heap.size) => overGaps_any base G gn gc n.gaps V hO (by omega) hbV)
  rw [hln] at CR C5 ⊢
  have HLN := Lib.hid hln
  clear hA hC hln hnk hdn hgn
  obtain ⟨kind, id, name, size, sum, at_, data, gaps, of_, code⟩ := n
  unfold ntv at C1 C2 CS
  dsimp only at C1 C2 CS CD CO
  have hB0 := Below.refl w.heap.size w
  go_enter Try.func4, Try.ntmps4
  go_wp2_with fail
  refine (CR.out w hB0).mono ?_
  rintro e w1 ⟨g, rfl, hg, hR, hB1⟩
  clear CR hB0
  go_wp2_with fail
  refine (C1.out w1 hB1).mono ?_
  rintro e w2 ⟨D1, d1, G1, g1, rfl, hD1, hG1, hb⟩
  have hR1 := hR.step hb
  have hB2 := hB1.trans (hb.mono hB1.size)
  have zw1 := hB1.size
  have zgR := RoomK.lt hR
  clear hR hB1 C1
  have zD1 := hD1.lt
  have zG1 := hG1.lt
  have q12 := hb.size
  clear hb
  go_upto_region 3 with fail
  have b1 := Blk.new w2 27 #[.int .i64 kind, .int .i64 id, .string name, .int .i64 size, .int .i64 sum, .int .i64 at_, .slice D1 dn d1, .slice G1 gn g1, .int .i64 of_, .int .i64 code]
  replace hD1 := hD1.alloc (.cells #[.int .i64 kind, .int .i64 id, .string name, .int .i64 size, .int .i64 sum, .int .i64 at_, .slice D1 dn d1, .slice G1 gn g1, .int .i64 of_, .int .i64 code] 27)
  replace hG1 := hG1.alloc (.cells #[.int .i64 kind, .int .i64 id, .string name, .int .i64 size, .int .i64 sum, .int .i64 at_, .slice D1 dn d1, .slice G1 gn g1, .int .i64 of_, .int .i64 code] 27)
  replace hR1 := hR1.step ((Below.refl w2.heap.size w2).alloc (Nat.le_refl _) (.cells #[.int .i64 kind, .int .i64 id, .string name, .int .i64 size, .int .i64 sum, .int .i64 at_, .slice D1 dn d1, .slice G1 gn g1, .int .i64 of_, .int .i64 code] 27))
  replace hB2 := hB2.alloc hB2.size (.cells #[.int .i64 kind, .int .i64 id, .string name, .int .i64 size, .int .i64 sum, .int .i64 at_, .slice D1 dn d1, .slice G1 gn g1, .int .i64 of_, .int .i64 code] 27)
  obtain ⟨p1, hp1⟩ : ∃ p, w2.heap.size = p := ⟨_, rfl⟩
  rw [hp1] at b1 zD1 zG1 q12 ⊢
  clear hp1
  generalize w2.alloc (.cells #[.int .i64 kind, .int .i64 id, .string name, .int .i64 size, .int .i64 sum, .int .i64 at_, .slice D1 dn d1, .slice G1 gn g1, .int .i64 of_, .int .i64 code] 27) = W2 at *
  trace "D1"
  have zq2 := b1.lt
  go_wp2_with fail
  refine (C2.out W2 g hR1).mono ?_
  rintro e w3 ⟨D2, d2, G2, g2, rfl, hD2, hG2, hb⟩
  have zb2 := hb.size
  replace hR1 := hR1.step hb
  replace b1 := b1.step hb
  replace hD1 := hD1.step hb
  replace hG1 := hG1.step hb
  have zp2 := b1.lt
  replace hB2 := hB2.trans (hb.mono hB2.size)
  have zD2 := hD2.lt
  have zG2 := hG2.lt
  clear hb
  obtain ⟨s2, hs2_⟩ : ∃ s, W2.heap.size = s := ⟨_, rfl⟩
  rw [hs2_] at hD2 hG2 zD2 zG2 zb2 zq2
  clear hs2_
  go_upto_region 4 with fail
  have b2 := Blk.new w3 27 #[.int .i64 kind, .int .i64 id, .string name, .int .i64 size, .int .i64 sum, .int .i64 at_, .slice D2 dn d2, .slice G2 gn g2, .int .i64 of_, .int .i64 code]
  replace b1 := b1.alloc (.cells #[.int .i64 kind, .int .i64 id, .string name, .int .i64 size, .int .i64 sum, .int .i64 at_, .slice D2 dn d2, .slice G2 gn g2, .int .i64 of_, .int .i64 code] 27)
  replace hD1 := hD1.alloc (.cells #[.int .i64 kind, .int .i64 id, .string name, .int .i64 size, .int .i64 sum, .int .i64 at_, .slice D2 dn d2, .slice G2 gn g2, .int .i64 of_, .int .i64 code] 27)
  replace hG1 := hG1.alloc (.cells #[.int .i64 kind, .int .i64 id, .string name, .int .i64 size, .int .i64 sum, .int .i64 at_, .slice D2 dn d2, .slice G2 gn g2, .int .i64 of_, .int .i64 code] 27)
  replace hD2 := hD2.alloc (.cells #[.int .i64 kind, .int .i64 id, .string name, .int .i64 size, .int .i64 sum, .int .i64 at_, .slice D2 dn d2, .slice G2 gn g2, .int .i64 of_, .int .i64 code] 27)
  replace hG2 := hG2.alloc (.cells #[.int .i64 kind, .int .i64 id, .string name, .int .i64 size, .int .i64 sum, .int .i64 at_, .slice D2 dn d2, .slice G2 gn g2, .int .i64 of_, .int .i64 code] 27)
  replace hR1 := hR1.step ((Below.refl w3.heap.size w3).alloc (Nat.le_refl _) (.cells #[.int .i64 kind, .int .i64 id, .string name, .int .i64 size, .int .i64 sum, .int .i64 at_, .slice D2 dn d2, .slice G2 gn g2, .int .i64 of_, .int .i64 code] 27))
  replace hB2 := hB2.alloc hB2.size (.cells #[.int .i64 kind, .int .i64 id, .string name, .int .i64 size, .int .i64 sum, .int .i64 at_, .slice D2 dn d2, .slice G2 gn g2, .int .i64 of_, .int .i64 code] 27)
  obtain ⟨p2, hp2⟩ : ∃ p, w3.heap.size = p := ⟨_, rfl⟩
  rw [hp2] at b2 zD2 zG2 zb2 ⊢
  clear hp2
  generalize w3.alloc (.cells #[.int .i64 kind, .int .i64 id, .string name, .int .i64 size, .int .i64 sum, .int .i64 at_, .slice D2 dn d2, .slice G2 gn g2, .int .i64 of_, .int .i64 code] 27) = W3 at *
  trace "D2"
  have zq3 := b2.lt
  go_wp2_with fail
  refine (C2.out W3 g hR1).mono ?_
  rintro e w4 ⟨D3, d3, G3, g3, rfl, hD3, hG3, hb⟩
  have zb3 := hb.size
  replace hR1 := hR1.step hb
  replace b1 := b1.step hb
  replace hD1 := hD1.step hb
  replace hG1 := hG1.step hb
  replace b2 := b2.step hb
  replace hD2 := hD2.step hb
  replace hG2 := hG2.step hb
  have zp3 := b2.lt
  replace hB2 := hB2.trans (hb.mono hB2.size)
  have zD3 := hD3.lt
  have zG3 := hG3.lt
  clear hb
  obtain ⟨s3, hs3_⟩ : ∃ s, W3.heap.size = s := ⟨_, rfl⟩
  rw [hs3_] at hD3 hG3 zD3 zG3 zb3 zq3
  clear hs3_
  go_upto_region 5 with fail
  have b3 := Blk.new w4 27 #[.int .i64 kind, .int .i64 id, .string name, .int .i64 size, .int .i64 sum, .int .i64 at_, .slice D3 dn d3, .slice G3 gn g3, .int .i64 of_, .int .i64 code]
  replace b1 := b1.alloc (.cells #[.int .i64 kind, .int .i64 id, .string name, .int .i64 size, .int .i64 sum, .int .i64 at_, .slice D3 dn d3, .slice G3 gn g3, .int .i64 of_, .int .i64 code] 27)
  replace b2 := b2.alloc (.cells #[.int .i64 kind, .int .i64 id, .string name, .int .i64 size, .int .i64 sum, .int .i64 at_, .slice D3 dn d3, .slice G3 gn g3, .int .i64 of_, .int .i64 code] 27)
  replace hD1 := hD1.alloc (.cells #[.int .i64 kind, .int .i64 id, .string name, .int .i64 size, .int .i64 sum, .int .i64 at_, .slice D3 dn d3, .slice G3 gn g3, .int .i64 of_, .int .i64 code] 27)
  replace hG1 := hG1.alloc (.cells #[.int .i64 kind, .int .i64 id, .string name, .int .i64 size, .int .i64 sum, .int .i64 at_, .slice D3 dn d3, .slice G3 gn g3, .int .i64 of_, .int .i64 code] 27)
  replace hD2 := hD2.alloc (.cells #[.int .i64 kind, .int .i64 id, .string name, .int .i64 size, .int .i64 sum, .int .i64 at_, .slice D3 dn d3, .slice G3 gn g3, .int .i64 of_, .int .i64 code] 27)
  replace hG2 := hG2.alloc (.cells #[.int .i64 kind, .int .i64 id, .string name, .int .i64 size, .int .i64 sum, .int .i64 at_, .slice D3 dn d3, .slice G3 gn g3, .int .i64 of_, .int .i64 code] 27)
  replace hD3 := hD3.alloc (.cells #[.int .i64 kind, .int .i64 id, .string name, .int .i64 size, .int .i64 sum, .int .i64 at_, .slice D3 dn d3, .slice G3 gn g3, .int .i64 of_, .int .i64 code] 27)
  replace hG3 := hG3.alloc (.cells #[.int .i64 kind, .int .i64 id, .string name, .int .i64 size, .int .i64 sum, .int .i64 at_, .slice D3 dn d3, .slice G3 gn g3, .int .i64 of_, .int .i64 code] 27)
  replace hR1 := hR1.step ((Below.refl w4.heap.size w4).alloc (Nat.le_refl _) (.cells #[.int .i64 kind, .int .i64 id, .string name, .int .i64 size, .int .i64 sum, .int .i64 at_, .slice D3 dn d3, .slice G3 gn g3, .int .i64 of_, .int .i64 code] 27))
  replace hB2 := hB2.alloc hB2.size (.cells #[.int .i64 kind, .int .i64 id, .string name, .int .i64 size, .int .i64 sum, .int .i64 at_, .slice D3 dn d3, .slice G3 gn g3, .int .i64 of_, .int .i64 code] 27)
  obtain ⟨p3, hp3⟩ : ∃ p, w4.heap.size = p := ⟨_, rfl⟩
  rw [hp3] at b3 zD3 zG3 zb3 ⊢
  clear hp3
  generalize w4.alloc (.cells #[.int .i64 kind, .int .i64 id, .string name, .int .i64 size, .int .i64 sum, .int .i64 at_, .slice D3 dn d3, .slice G3 gn g3, .int .i64 of_, .int .i64 code] 27) = W4 at *
  trace "D3"
  trace "E0"
  have x0 := b1.cell' (i := 0) rfl
  have y0 := b2.cell' (i := 0) rfl
  have x1 := b1.cell' (i := 1) rfl
  have y1 := b2.cell' (i := 1) rfl
  have x2 := b1.cell' (i := 2) rfl
  have y2 := b2.cell' (i := 2) rfl
  have x3 := b1.cell' (i := 3) rfl
  have y3 := b2.cell' (i := 3) rfl
  have x4 := b1.cell' (i := 4) rfl
  have y4 := b2.cell' (i := 4) rfl
  have x5 := b1.cell' (i := 5) rfl
  have y5 := b2.cell' (i := 5) rfl
  have x6 := b1.cell' (i := 6) rfl
  have y6 := b2.cell' (i := 6) rfl
  have x7 := b1.cell' (i := 7) rfl
  have y7 := b2.cell' (i := 7) rfl
  have x8 := b1.cell' (i := 8) rfl
  have y8 := b2.cell' (i := 8) rfl
  have x9 := b1.cell' (i := 9) rfl
  have y9 := b2.cell' (i := 9) rfl
  go_wp2_with fail
  refine (CS.out W4 D2 D1 d2 d1 G2 G1 g2 g1 hD2.rd hD1.rd hG2.rd hG1.rd).mono ?_
  rintro e w5 ⟨rfl, hb⟩
  clear x0 y0 x1 y1 x2 y2 x3 y3 x4 y4 x5 y5 x6 y6 x7 y7 x8 y8 x9 y9
  replace b1 := b1.step hb
  replace b2 := b2.step hb
  replace b3 := b3.step hb
  replace hD1 := hD1.step hb
  replace hG1 := hG1.step hb
  replace hD2 := hD2.step hb
  replace hG2 := hG2.step hb
  replace hD3 := hD3.step hb
  replace hG3 := hG3.step hb
  replace hR1 := hR1.step hb
  replace hB2 := hB2.trans (hb.mono hB2.size)
  clear hb
  trace "E1"
  have x0 := b1.cell' (i := 0) rfl
  have y0 := b3.cell' (i := 0) rfl
  have x1 := b1.cell' (i := 1) rfl
  have y1 := b3.cell' (i := 1) rfl
  have x2 := b1.cell' (i := 2) rfl
  have y2 := b3.cell' (i := 2) rfl
  have x3 := b1.cell' (i := 3) rfl
  have y3 := b3.cell' (i := 3) rfl
  have x4 := b1.cell' (i := 4) rfl
  have y4 := b3.cell' (i := 4) rfl
  have x5 := b1.cell' (i := 5) rfl
  have y5 := b3.cell' (i := 5) rfl
  have x6 := b1.cell' (i := 6) rfl
  have y6 := b3.cell' (i := 6) rfl
  have x7 := b1.cell' (i := 7) rfl
  have y7 := b3.cell' (i := 7) rfl
  have x8 := b1.cell' (i := 8) rfl
  have y8 := b3.cell' (i := 8) rfl
  have x9 := b1.cell' (i := 9) rfl
  have y9 := b3.cell' (i := 9) rfl
  go_wp2_with fail
  refine (CS.out w5 D3 D1 d3 d1 G3 G1 g3 g1 hD3.rd hD1.rd hG3.rd hG1.rd).mono ?_
  rintro e w6 ⟨rfl, hb⟩
  clear x0 y0 x1 y1 x2 y2 x3 y3 x4 y4 x5 y5 x6 y6 x7 y7 x8 y8 x9 y9
  replace b1 := b1.step hb
  replace b2 := b2.step hb
  replace b3 := b3.step hb
  replace hD1 := hD1.step hb
  replace hG1 := hG1.step hb
  replace hD2 := hD2.step hb
  replace hG2 := hG2.step hb
  replace hD3 := hD3.step hb
  replace hG3 := hG3.step hb
  replace hR1 := hR1.step hb
  replace hB2 := hB2.trans (hb.mono hB2.size)
  clear hb
  trace "E2"
  go_wp2_with fail
  refine (C4.out w6 g hR1).mono ?_
  rintro e w7 ⟨rfl, hb⟩
  replace b1 := b1.step hb
  replace b2 := b2.step hb
  replace b3 := b3.step hb
  replace hD1 := hD1.step hb
  replace hG1 := hG1.step hb
  replace hD2 := hD2.step hb
  replace hG2 := hG2.step hb
  replace hD3 := hD3.step hb
  replace hG3 := hG3.step hb
  replace hR1 := hR1.step hb
  replace hB2 := hB2.trans (hb.mono hB2.size)
  clear hb
  go_wp2_with fail
  refine (C3.out w7 hB2).mono ?_
  rintro e w7b ⟨rfl, e7⟩
  rw [e7]
  clear e7 w7b
  go_wp2_with fail
  refine (C5.out w7 g hR1 hB2).mono ?_
  rintro e w8 ⟨rfl, k8, e8⟩
  have hb : Below w7.heap.size w7 w8 := by rw [e8]; exact below_drewN (Below.refl _ _) k8
  clear e8
  replace b1 := b1.step hb
  replace b2 := b2.step hb
  replace b3 := b3.step hb
  replace hD1 := hD1.step hb
  replace hG1 := hG1.step hb
  replace hD2 := hD2.step hb
  replace hG2 := hG2.step hb
  replace hD3 := hD3.step hb
  replace hG3 := hG3.step hb
  replace hR1 := hR1.step hb
  replace hB2 := hB2.trans (hb.mono hB2.size)
  clear hb
  trace "E3"
  clear C2 C3 C4 C5
  have x6 := b2.cell' (i := 6) rfl
  have ww := hB2.size
  go_wp2_with fail
  refine (CD.out s2 w8 D2 d2 hD2 (by have := b2.lt; omega)).mono ?_
  rintro e w9 ⟨rfl, hg9⟩
  have nD2 : ∀ q, blk D2 = some q → s2 ≤ q ∧ q < p2 := zD2
  replace b1 := b1.grown hg9 (fun e => by have := zD2 _ e.symm; omega)
  replace b2 := b2.grown hg9 (fun e => by have := zD2 _ e.symm; omega)
  replace b3 := b3.grown hg9 (fun e => by have := zD2 _ e.symm; omega)
  replace hR1 := hR1.over hg9 (fun q hq e => by have := zD2 _ hq; have e : g = q := Option.some.inj e; omega)
  replace hD1 := hD1.grown hg9 (fun q hq e => by have := zD2 q hq; have := zD1 q e; omega)
  replace hG1 := hG1.grown hg9 (fun q hq e => by have := zD2 q hq; have := zG1 q e; omega)
  have hG2' := hG2.over hg9 (fun q hq e => (hG2.apart hD2 (by decide)) q e hq)
  replace hD3 := hD3.grown hg9 (fun q hq e => by have := zD2 q hq; have := zD3 q e; omega)
  replace hG3 := hG3.grown hg9 (fun q hq e => by have := zD2 q hq; have := zG3 q e; omega)
  have hB3 := hB2.grown hg9 hB2.size (fun q hq => by have := zD2 q hq; omega)
  clear x6 hg9 hD2 hG2 CD hB2
  have x7 := b2.cell' (i := 7) rfl
  trace "E4"
  go_wp2_with fail
  refine (CO.out s2 w9 G2 g2 hG2' (by have := b2.lt; omega)).mono ?_
  rintro e w10 ⟨rfl, hg10⟩
  replace b1 := b1.grown hg10 (fun e => by have := zG2 _ e.symm; omega)
  replace b3 := b3.grown hg10 (fun e => by have := zG2 _ e.symm; omega)
  replace hR1 := hR1.over hg10 (fun q hq e => by have := zG2 _ hq; have e : g = q := Option.some.inj e; omega)
  replace hD1 := hD1.grown hg10 (fun q hq e => by have := zG2 q hq; have := zD1 q e; omega)
  replace hG1 := hG1.grown hg10 (fun q hq e => by have := zG2 q hq; have := zG1 q e; omega)
  replace hD3 := hD3.grown hg10 (fun q hq e => by have := zG2 q hq; have := zD3 q e; omega)
  replace hG3 := hG3.grown hg10 (fun q hq e => by have := zG2 q hq; have := zG3 q e; omega)
  replace hB3 := hB3.grown hg10 hB3.size (fun q hq => by have := zG2 q hq; omega)
  clear x7 hg10 hG2' CO b2
  trace "E5"
  go_wp2_with fail
  refine (CP.out w.heap.size w10 g hR1 hg hB3.size).mono ?_
  rintro e w11 ⟨rfl, hg11⟩
  have eg : blk (some (⟨g, 0, none⟩ : Addr)) = some g := rfl
  rw [eg] at hg11
  replace b1 := b1.grown hg11 (fun e => by have := Option.some.inj e; omega)
  replace b3 := b3.grown hg11 (fun e => by have := Option.some.inj e; omega)
  replace hD1 := hD1.grown hg11 (fun q hq e => by have := Option.some.inj hq; have := zD1 q e; omega)
  replace hG1 := hG1.grown hg11 (fun q hq e => by have := Option.some.inj hq; have := zG1 q e; omega)
  replace hD3 := hD3.grown hg11 (fun q hq e => by have := Option.some.inj hq; have := zD3 q e; omega)
  replace hG3 := hG3.grown hg11 (fun q hq e => by have := Option.some.inj hq; have := zG3 q e; omega)
  replace hB3 := hB3.grown hg11 hB3.size (fun q hq => by have := Option.some.inj hq; omega)
  clear hg11 CP hR1 eg
  trace "E6"
  go_wp2_with (first | (refine wpList_load_row rfl 27 (.tmp 4) rfl p1 rfl 27 #[.int .i64 kind, .int .i64 id, .string name, .int .i64 size, .int .i64 sum, .int .i64 at_, .slice D1 dn d1, .slice G1 gn g1, .int .i64 of_, .int .i64 code] (0, 0) _ b1 Try.underlying27 rfl notesz ?_) | (refine wpList_load_row rfl 27 (.tmp 8) rfl p3 rfl 27 #[.int .i64 kind, .int .i64 id, .string name, .int .i64 size, .int .i64 sum, .int .i64 at_, .slice D3 dn d3, .slice G3 gn g3, .int .i64 of_, .int .i64 code] (0, 0) _ b3 Try.underlying27 rfl notesz ?_))
  refine (CS.out w11 D3 D1 d3 d1 G3 G1 g3 g1 hD3.rd hD1.rd hG3.rd hG1.rd).mono ?_
  rintro e w12 ⟨rfl, hb⟩
  go_wp2_with fail
  go_ret
  exact ⟨rfl, hB3.trans (hb.mono hB3.size)⟩
end Go.Proofs.Ytianombjgdmbeaa
