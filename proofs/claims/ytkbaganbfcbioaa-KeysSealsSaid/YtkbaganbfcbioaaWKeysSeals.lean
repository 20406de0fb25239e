import Derived.Test.YtkbaganbfcbioaaRoomy
import Derived.Test.YtkbaganbfcbioaaLeft
import Derived.Test.YtkbaganbfcbioaaTwice
import Derived.Test.YtkbaganbfcbioaaSealR
import Derived.Test.YtkbaganbfcbioaaSealG
import Derived.Test.YtkbaganbfcbioaaSameKey
namespace Go.Proofs.Ytkbaganbfcbioaa
set_option linter.unusedSimpArgs false
set_option linter.unusedVariables false
open Go.RowKit

theorem sealR_len {x : Ky} {C : Int} {b r : List UInt8} {k : Int} (h : sealR x C b = (r, k)) : r.length ≤ 1015 := by
  unfold sealR at h
  split at h
  · rename_i h0
    injection h with h1 h2
    rw [← h1, sealL_len]
    unfold sealErr at h0
    split at h0
    · cases h0
    · split at h0
      · cases h0
      · split at h0
        · cases h0
        · omega
  · injection h with h1 h2
    rw [← h1]
    simp
/-- A block of four cells that are all written. -/
theorem blk_set4 {w : World} {g : Nat} {t : TypeId} {a0 a1 a2 a3 : Value} (h : Blk w g t #[a0, a1, a2, a3]) (v0 v1 v2 v3 : Value) :
    Blk ((((w.setCell ⟨g, 0, none⟩ v0).setCell ⟨g, 1, none⟩ v1).setCell ⟨g, 2, none⟩ v2).setCell ⟨g, 3, none⟩ v3) g t #[v0, v1, v2, v3] ∧
    w.grownBy ((((w.setCell ⟨g, 0, none⟩ v0).setCell ⟨g, 1, none⟩ v1).setCell ⟨g, 2, none⟩ v2).setCell ⟨g, 3, none⟩ v3) (some g) :=
  ⟨by have := (((h.set_ 0 v0).set_ 1 v1).set_ 2 v2).set_ 3 v3; simpa using this,
   grown_setCell (p := ⟨g, 3, none⟩) (grown_setCell (p := ⟨g, 2, none⟩) (grown_setCell (p := ⟨g, 1, none⟩) (grown_setCell (p := ⟨g, 0, none⟩) (World.grownBy.refl w _) (.inl rfl) _) (.inl rfl) _) (.inl rfl) _) (.inl rfl) _⟩
set_option maxHeartbeats 6400000 in
set_option maxRecDepth 100000 in
theorem keysSeals_walk (x : Ky) (A : Option Addr) (c : Nat) (C : Int) (B : Option Addr) (b : List UInt8) (d : Nat) (w : World) (ha : Rd w A (ivs x.words)) (hc : x.words.length ≤ c) (hx : x.words.length ≤ 17592186044400 ∧ x.seen < 9223372036854775808) (_ : (Lit.int IntKind.i64 C).wf = true) (hb0 : Rd w B (bvs b)) (hd : b.length ≤ d) (hm : b.length ≤ 140737488351232) :
    Calls Try.prog 7 #[kyv x A c, .int .i64 C, .slice B b.length d] w fun e w' => e = .returned (.bool true) ∧ Below w.heap.size w w' := by
  obtain ⟨hn, hs⟩ := hx
  obtain ⟨r, k, hrk⟩ : ∃ r k, sealR x C b = (r, k) := ⟨_, _, rfl⟩
  have hrl := sealR_len hrk
  have HR := Lib.hid hrk
  clear hrk
  have CS := Lib.hid (fun (w : World) (A : Option Addr) (c : Nat) (ha : Rd w A (ivs x.words)) (hb : Rd w B (bvs b)) => rsealed_any x A c C B b d w ha hn hs hb)
  have CK := Lib.hid (fun (w : World) (A : Option Addr) (c g : Nat) (ha : Rd w A (ivs x.words)) (hb : Rd w (some ⟨g, 0, none⟩) (bvs b)) (hg : g < w.heap.size) => kseal_any x A c C g 0 b (b.length + 5) w ha hn hs hb (by omega) hg)
  have CE := Lib.hid (fun (w : World) (A2 A : Option Addr) (c2 c : Nat) (h2 : Rd w A2 (ivs x.words)) (h1 : Rd w A (ivs x.words)) => sameKey_yes x A2 A c2 c w hn h2 h1)
  have CC := Lib.hid (fun (w : World) (ha : Rd w A (ivs x.words)) => copied_any A x.words c w ha hn)
  obtain ⟨id, words, top, seen⟩ := x
  unfold kyv at *
  dsimp only at *
  have HA := Lib.hid ha
  have HBb := Lib.hid hb0
  clear ha hb0
  generalize hnn : words.length = n at *
  generalize hll : b.length = m at *
  have CR := Lib.hid (fun (w : World) (hb : Rd w B (bvs b)) => (by have := roomy_any B b d w hb (by omega); rw [hll] at this; exact this : Calls Try.prog 9 #[.slice B m d] w fun e w' => ∃ g, e = .returned (.slice (some ⟨g, 0, none⟩) m (m + 5)) ∧ w.heap.size ≤ g ∧ Room w' g b ∧ Below w.heap.size w w'))
  have CL := Lib.hid (fun (g : Nat) (w : World) (hR : Room w g b) (hb : Rd w B (bvs b)) => (by have := left_yes g B b d w hR hb (by omega); rw [hll] at this; exact this : Calls Try.prog 12 #[.slice (some ⟨g, 0, none⟩) m (m + 5), .slice B m d] w fun e w' => e = .returned (.bool true) ∧ ∃ n, w' = w.drewN n))
  go_enter Try.func7, Try.ntmps7
  go_upto_region 1 with fail
  obtain ⟨W1, hW1⟩ : ∃ W : World, W = w.alloc (.cells #[.int .i64 id, .slice A n c, .int .i64 top, .int .i64 seen] 46) := ⟨_, rfl⟩
  have hJ : Blk W1 w.heap.size 46 #[.int .i64 id, .slice A n c, .int .i64 top, .int .i64 seen] := by rw [hW1]; exact Blk.new w _ _
  have hB1 : Below w.heap.size w W1 := by rw [hW1]; exact (Below.refl _ _).alloc (Nat.le_refl _) _
  have z1 := hJ.lt
  rw [← hW1]
  clear hW1
  have hbW := HBb.out.below hB1
  obtain ⟨x0, x1, x2, x3, xf⟩ := hJ.four
  go_cut [7, 8] (fun s7 s8 wx => ∃ (g r : Nat) (W : World), W = wx ∧ s7 = .pointer (some ⟨g, 0, none⟩) ∧ s8 = .slice (some ⟨r, 0, none⟩) m (m + 5) ∧ g ≠ r ∧ W1.heap.size ≤ g ∧ W1.heap.size ≤ r ∧ Blk W g 46 #[.int .i64 id, .slice A n c, .int .i64 top, .int .i64 seen] ∧ Room W r b ∧ Below W1.heap.size W1 W)
  · have e1 : ¬ w.heap.size = W1.heap.size := by omega
    have e2 : ¬ W1.heap.size = w.heap.size := by omega
    go_region_held3 (fun w' => w'.cell? ⟨w.heap.size, 0, none⟩ = some (.int .i64 id) ∧ w'.cell? ⟨w.heap.size, 1, none⟩ = some (.slice A n c) ∧ w'.cell? ⟨w.heap.size, 2, none⟩ = some (.int .i64 top) ∧ w'.cell? ⟨w.heap.size, 3, none⟩ = some (.int .i64 seen)) (go_keep) ((go_at_call 9; (with_reducible refine (CR.out _ (by first | exact hbW.drew | exact (hbW.alloc _).drew)).mono ?_); rintro e wa ⟨r, rfl, hr, hR, hbA⟩; have hJ' := (by first | exact hJ.drew.step hbA | exact (hJ.alloc _).drew.step hbA : Blk wa w.heap.size _ _); obtain ⟨y0, y1, y2, y3, yf⟩ := hJ'.four; first | (have hN := (Blk.new W1 46 _).drew.step hbA; obtain ⟨n0, n1, n2, n3, nf⟩ := hN.four) | skip))
    all_goals go_wp2_with fail
    all_goals go_meet
    all_goals have zr := RoomK.lt hR
    · have h0 : Below W1.heap.size W1 wa := ((Below.refl _ W1).drew).trans hbA
      have hr' : W1.heap.size ≤ r := hr
      have z9 := h0.size
      have h1 : Below wa.heap.size wa (wa.alloc (.cells #[.int .i64 id, .slice A n c, .int .i64 top, .int .i64 seen] 46)) := (Below.refl _ _).alloc (Nat.le_refl _) _
      exact ⟨wa.heap.size, r, _, rfl, rfl, rfl, by omega, z9, hr', Blk.new wa _ _, hR.step h1, h0.trans (h1.mono z9)⟩
    · have h0 : Below W1.heap.size W1 wa := (((Below.refl _ W1).alloc (Nat.le_refl _) _).drew).trans (hbA.mono (by simp))
      have hr' : W1.heap.size < r := by simp at hr; omega
      obtain ⟨h2, h3⟩ := blk_set4 hN (.int .i64 id) (.slice A n c) (.int .i64 top) (.int .i64 seen)
      exact ⟨W1.heap.size, r, _, rfl, rfl, rfl, by omega, by omega, by omega, h2, hR.over h3 (fun q hq e => by injection hq with hq; injection e with e; omega), h0.grown h3 h0.size (fun q hq => by injection hq with hq; omega)⟩
  obtain ⟨g, rr, W2, rfl, rfl, rfl, hne, hg1, hg2, hH, hRo, hb2⟩ := hcut
  clear x0 x1 x2 x3 xf
  replace hJ := hJ.step hb2
  have hB2 := hB1.trans (hb2.mono (by omega))
  have z2 := hb2.size
  obtain ⟨x0, x1, x2, x3, xf⟩ := hJ.four
  obtain ⟨y0, y1, y2, y3, yf⟩ := hH.four
  have lg := hH.lt
  have lr := RoomK.lt hRo
  have HC := Lib.hid (CC.out W2 (HA.out.below hB2))
  clear hb2 hB1 hbW
  go_wp2_with fail
  refine HC.out.mono ?_
  rintro e w3 ⟨A2, c2, rfl, hO2, hb3⟩
  clear HC x0 x1 x2 x3 xf y0 y1 y2 y3 yf
  have hB3 := hB2.trans (hb3.mono hB2.size)
  have hJ3 := hJ.step hb3
  have hH3 := hH.step hb3
  have hR3 := hRo.step hb3
  have z3 := hb3.size
  have m2 := hO2.lt
  obtain ⟨y0, y1, y2, y3, yf⟩ := hH3.four
  obtain ⟨x0, x1, x2, x3, xf⟩ := hJ3.four
  obtain ⟨W4, hW4⟩ : ∃ W : World, W = w3.setCell ⟨g, 1, none⟩ (.slice A2 n c2) := ⟨_, rfl⟩
  have hgr : w3.grownBy W4 (some g) := by rw [hW4]; exact grown_setCell (p := ⟨g, 1, none⟩) (World.grownBy.refl w3 _) (.inl rfl) _
  have hH4 : Blk W4 g 46 #[.int .i64 id, .slice A2 n c2, .int .i64 top, .int .i64 seen] := by rw [hW4]; have := hH3.set_ 1 (.slice A2 n c2); simpa using this
  have hJ4 := hJ3.over hgr (fun q hq e => by injection hq with hq; injection e with e; omega)
  have hR4 := hR3.over hgr (fun q hq e => by injection hq with hq; injection e with e; omega)
  have hO4 := hO2.over hgr (fun q hq e => by injection hq with hq; have := m2 _ e; omega)
  have hB4 := hB3.grown hgr hB3.size (fun q hq => by injection hq with hq; omega)
  have z4 := hgr.size
  go_upto_region 3 with fail
  rw [← hW4]
  clear hW4 hJ3 hH3 hR3 hO2 hgr hb3 hB3 hB2 hJ hH hRo x0 x1 x2 x3 xf y0 y1 y2 y3 yf
  obtain ⟨x0, x1, x2, x3, xf⟩ := hJ4.four
  obtain ⟨y0, y1, y2, y3, yf⟩ := hH4.four
  have C1 := Lib.hid (CS.out W4 A c (HA.out.below hB4) (HBb.out.below hB4))
  go_wp2_with fail
  refine C1.out.mono ?_
  intro e w5 h5
  obtain ⟨A5, c5, rfl, hO5, hb⟩ := h5.open_ HR.out
  clear h5 C1 x0 x1 x2 x3 xf y0 y1 y2 y3 yf
  have t5 := hb.size
  have m5 := hO5.lt
  replace hJ4 := hJ4.step hb
  replace hH4 := hH4.step hb
  replace hR4 := hR4.step hb
  replace hO4 := hO4.step hb
  replace hB4 := nextB hB4 hB4.size hb
  obtain ⟨y0, y1, y2, y3, yf⟩ := hH4.four
  have C2 := Lib.hid (CK.out w5 A2 c2 rr hO4.rd hR4.rd (by omega))
  go_wp2_with fail
  refine C2.out.mono ?_
  intro e w6 h6
  obtain ⟨A6, c6, rfl, hO6, hb⟩ := h6.open_ HR.out
  clear h6 C2 y0 y1 y2 y3 yf
  have t6 := hb.size
  have m6 := hO6.lt
  replace hJ4 := hJ4.step hb
  replace hH4 := hH4.step hb
  replace hR4 := hR4.step hb
  replace hO4 := hO4.step hb
  replace hO5 := hO5.step hb
  replace hB4 := nextB hB4 hB4.size hb
  obtain ⟨y0, y1, y2, y3, yf⟩ := hH4.four
  have C3 := Lib.hid (CK.out w6 A2 c2 rr hO4.rd hR4.rd (by omega))
  go_wp2_with fail
  refine C3.out.mono ?_
  intro e w7 h7
  obtain ⟨A7, c7, rfl, hO7, hb⟩ := h7.open_ HR.out
  clear h7 C3 y0 y1 y2 y3 yf
  have t7 := hb.size
  have m7 := hO7.lt
  replace hJ4 := hJ4.step hb
  replace hH4 := hH4.step hb
  replace hR4 := hR4.step hb
  replace hO4 := hO4.step hb
  replace hO5 := hO5.step hb
  replace hO6 := hO6.step hb
  replace hB4 := nextB hB4 hB4.size hb
  go_wp2_with fail
  refine (twice_yes w5.heap.size A6 A7 A5 _ c6 c7 c5 w7 hO6 hO7.rd hO5.rd (fun q hq e => by have := m6 q hq; have := m7 q e; omega) (fun q hq e => by have := m6 q hq; have := m5 q e; omega) (by omega) (by omega)).mono ?_
  rintro e w8 ⟨rfl, hg8⟩
  have hJ8 := hJ4.over hg8 (fun q hq e => by have := m6 q hq; injection e with e; omega)
  have hH8 := hH4.over hg8 (fun q hq e => by have := m6 q hq; injection e with e; omega)
  have hO8 := hO4.over hg8 (fun q hq e => by have := m6 q hq; have := m2 q e; omega)
  have hR8 := hR4.over hg8 (fun q hq e => by have := m6 q hq; injection e with e; omega)
  have hB8 : Below w.heap.size w w8 := hB4.grown hg8 hB4.size (fun q hq => by have := (m6 q hq).1; omega)
  obtain ⟨x0, x1, x2, x3, xf⟩ := hJ8.four
  obtain ⟨y0, y1, y2, y3, yf⟩ := hH8.four
  have C4 := Lib.hid (CE.out w8 A2 A c2 c hO8.rd (HA.out.below hB8))
  go_wp2_with fail
  refine C4.out.mono ?_
  rintro e w9 ⟨rfl, hb⟩
  replace hB8 := nextB hB8 hB8.size hb
  go_wp2_with fail
  refine (CL.out rr w9 (hR8.step hb) (HBb.out.below hB8)).mono ?_
  rintro e w10 ⟨rfl, j2, rfl⟩
  go_wp2
  go_ret
  exact ⟨rfl, below_drewN hB8 _⟩
end Go.Proofs.Ytkbaganbfcbioaa
