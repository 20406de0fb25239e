import Derived.Test.YtolcaolmdfbfhaaRoomy
import Derived.Test.YtolcaolmdfbfhaaLeft
import Derived.Test.YtolcaolmdfbfhaaTwice
import Derived.Test.YtolcaolmdfbfhaaStep
import Derived.Test.YtolcaolmdfbfhaaAt
namespace Go.Proofs.Ytolcaolmdfbfhaa
set_option linter.unusedSimpArgs false
set_option linter.unusedVariables false
open Go.RowKit

theorem overF_len (p q : List UInt8) : (overF p q).1.length ≤ 512 ∧ (overF p q).2.1.length ≤ 512 := by
  unfold overF
  split
  · simp
  · split
    · simp
    · rename_i h _
      have hl := overR_len (b := trimL q) (inv := invB (lastB (trimL q))) (p.length + 1 - (trimL q).length) (List.replicate p.length 0, p)
      have h1 := tlen_le (overE (trimL q) p).1
      have h2 := tlen_le (overE (trimL q) p).2
      simp only [trimL_len]
      unfold overE at h1 h2 ⊢
      rw [hl.1] at h1
      rw [hl.2] at h2
      simp only [List.length_replicate] at h1 h2
      omega
theorem OverRes.open_ {w w' : World} {r : List UInt8 × List UInt8 × Int} {e : Ending} {a b : List UInt8} {k : Int} (hr : r = (a, b, k)) (h : OverRes w w' r e) :
    ∃ A c B d, e = .returned (.tuple #[.slice A a.length c, .slice B b.length d, .int .i64 k]) ∧ Own w' w.heap.size 5 1 A a.length c (bvs a) ∧ Own w' w.heap.size 5 1 B b.length d (bvs b) ∧ (∀ q, blk A = some q → blk B ≠ some q) ∧ Below w.heap.size w w' := by
  subst hr
  exact h

set_option maxHeartbeats 6400000 in
set_option maxRecDepth 100000 in
theorem fieldOver_walk0 (A : Option Addr) (p : List UInt8) (c : Nat) (B : Option Addr) (q : List UInt8) (d : Nat) (x : UInt8) (w : World) (ha : Rd w A (bvs p)) (hc : p.length ≤ c) (hn : p.length ≤ 140737488351232) (hb : Rd w B (bvs q)) (hd : q.length ≤ d) (hm : q.length ≤ 140737488351232) :
    Calls Try.prog 8 #[.slice A p.length c, .slice B q.length d, .int .u8 (x.toNat : Int)] w fun e w' => e = .returned (.bool true) ∧ Below w.heap.size w w' := by
  obtain ⟨U, V, k, hr⟩ : ∃ U V k, overF p q = (U, V, k) := ⟨_, _, _, rfl⟩
  obtain ⟨hU, hV⟩ : U.length ≤ 512 ∧ V.length ≤ 512 := by have := overF_len p q; rw [hr] at this; exact this
  have HR := Lib.hid hr
  have CR := Lib.hid (fun w ha hb => rover_any A B p q p.length q.length c d w rfl rfl ha hb hd (by omega) (by omega))
  have CP := Lib.hid (fun w g h ha hb => pover_any (some ⟨g, 0, none⟩) (some ⟨h, 0, none⟩) p q p.length q.length (p.length + 5) (q.length + 5) w rfl rfl ha hb (by omega) (by omega) (by omega) (by omega))
  clear hr
  generalize hX : (x.toNat : Int) = xi
  have HX := Lib.hid hX
  clear hX
  go_enter Try.func8, Try.ntmps8
  go_wp2_with fail
  refine (roomy_any A p c w ha hn).mono ?_
  rintro e w1 ⟨g1, rfl, hg1, hR1, hb1⟩
  have l1 := RoomK.lt hR1
  have hB := hb1
  go_wp2_with fail
  refine (roomy_any B q d w1 (hb.below hB) hm).mono ?_
  rintro e w2 ⟨g2, rfl, hg2, hR2, hb2⟩
  have l2 := RoomK.lt hR2
  replace hR1 := hR1.step hb2
  replace hB := nextB hB hB.size hb2
  have s2 := hb2.size
  clear hb1 hb2
  go_wp2_with fail
  refine (CR.out _ (ha.below hB) (hb.below hB)).mono ?_
  intro e w3 h3
  obtain ⟨A3, c3, B3, d3, rfl, hO3, hV3, _, hb2⟩ := h3.open_ HR.out
  clear h3
  have m3 := hO3.lt
  have n3 := hV3.lt
  replace hR1 := hR1.step hb2
  replace hR2 := hR2.step hb2
  replace hB := nextB hB hB.size hb2
  have s3 := hb2.size
  clear hb2
  go_wp2_with fail
  refine (CP.out _ _ _ hR1.rd hR2.rd).mono ?_
  intro e w4 h3
  obtain ⟨A4, c4, B4, d4, rfl, hO4, hV4, dis4, hb2⟩ := h3.open_ HR.out
  clear h3
  have m4 := hO4.lt
  have n4 := hV4.lt
  replace hR1 := hR1.step hb2
  replace hR2 := hR2.step hb2
  replace hO3 := hO3.step hb2
  replace hV3 := hV3.step hb2
  replace hB := nextB hB hB.size hb2
  have s4 := hb2.size
  clear hb2
  go_wp2_with fail
  refine (CP.out _ _ _ hR1.rd hR2.rd).mono ?_
  intro e w5 h3
  obtain ⟨A5, c5, B5, d5, rfl, hO5, hV5, _, hb2⟩ := h3.open_ HR.out
  clear h3
  have m5 := hO5.lt
  have n5 := hV5.lt
  replace hR1 := hR1.step hb2
  replace hR2 := hR2.step hb2
  replace hO3 := hO3.step hb2
  replace hV3 := hV3.step hb2
  replace hO4 := hO4.step hb2
  replace hV4 := hV4.step hb2
  replace hB := nextB hB hB.size hb2
  have s5 := hb2.size
  clear hb2
  go_wp2_with fail
  refine (twice_yes w3.heap.size A4 A5 A3 U c4 c5 c3 w5 hO4 hO5.rd hO3.rd (fun k hk e => by have := m4 k hk; have := m5 k e; omega) (fun k hk e => by have := m4 k hk; have := m3 k e; omega) (by omega) (by omega)).mono ?_
  rintro e w6 ⟨rfl, hg⟩
  replace hV4 := hV4.over hg dis4
  replace hV5 := hV5.over hg (fun k hk e => by have := m4 k hk; have := n5 k e; omega)
  replace hV3 := hV3.over hg (fun k hk e => by have := m4 k hk; have := n3 k e; omega)
  replace hR1 := hR1.over hg (fun k hk e => by have := m4 k hk; injection e with e; omega)
  replace hR2 := hR2.over hg (fun k hk e => by have := m4 k hk; injection e with e; omega)
  replace hB := hB.grown hg hB.size (fun k hk => by have := m4 k hk; omega)
  have s6 := hg.size
  clear hg
  go_wp2_with fail
  refine (twice_yes w3.heap.size B4 B5 B3 V d4 d5 d3 w6 hV4 hV5.rd hV3.rd (fun k hk e => by have := n4 k hk; have := n5 k e; omega) (fun k hk e => by have := n4 k hk; have := n3 k e; omega) (by omega) (by omega)).mono ?_
  rintro e w7 ⟨rfl, hg⟩
  replace hR1 := hR1.over hg (fun k hk e => by have := n4 k hk; injection e with e; omega)
  replace hR2 := hR2.over hg (fun k hk e => by have := n4 k hk; injection e with e; omega)
  replace hB := hB.grown hg hB.size (fun k hk => by have := n4 k hk; omega)
  have s7 := hg.size
  clear hg
  go_wp2_with fail
  refine (left_yes g1 A p c _ hR1 (ha.below hB) hn).mono ?_
  rintro e w8 ⟨rfl, m', rfl⟩
  have hb2 : Below w7.heap.size w7 (w7.drewN m') := below_drewN (Below.refl _ _) m'
  have s8 := hb2.size
  generalize w7.drewN m' = w8 at *
  replace hR1 := hR1.step hb2
  replace hR2 := hR2.step hb2
  replace hB := nextB hB hB.size hb2
  clear hb2
  go_wp2_with fail
  refine (left_yes g2 B q d _ hR2 (hb.below hB) hm).mono ?_
  rintro e w9 ⟨rfl, m', rfl⟩
  have hb2 : Below w8.heap.size w8 (w8.drewN m') := below_drewN (Below.refl _ _) m'
  have s9 := hb2.size
  generalize w8.drewN m' = w9 at *
  replace hR1 := hR1.step hb2
  replace hR2 := hR2.step hb2
  replace hB := nextB hB hB.size hb2
  clear hb2
  go_wp2_with fail
  rw [← HX.out]
  refine (pat_any (some ⟨g1, 0, none⟩) p p.length (p.length + 5) x _ rfl hR1.rd (by omega) (fun a e => by injection e with e; subst e; exact RoomK.lt hR1)).mono ?_
  rintro e w10 ⟨rfl, hb2⟩
  have s10 := hb2.size
  replace hR1 := hR1.step hb2
  replace hR2 := hR2.step hb2
  replace hB := nextB hB hB.size hb2
  clear hb2
  go_wp2_with fail
  refine (rat_any A p p.length c x _ rfl (ha.below hB) (by omega)).mono ?_
  rintro e w11 ⟨rfl, m', rfl⟩
  have hb2 : Below w10.heap.size w10 (w10.drewN m') := below_drewN (Below.refl _ _) m'
  generalize w10.drewN m' = w11 at *
  replace hR1 := hR1.step hb2
  replace hR2 := hR2.step hb2
  replace hB := nextB hB hB.size hb2
  clear hb2
  go_wp2_with fail
  refine (left_yes g1 A p c _ hR1 (ha.below hB) hn).mono ?_
  rintro e w12 ⟨rfl, m', rfl⟩
  go_wp2
  go_ret
  exact ⟨rfl, below_drewN hB _⟩
theorem fieldOver_walk (A : Option Addr) (p : List UInt8) (c : Nat) (B : Option Addr) (q : List UInt8) (d : Nat) (x : Nat) (w : World) (ha : Rd w A (bvs p)) (hc : p.length ≤ c) (hn : p.length ≤ 140737488351232) (hb : Rd w B (bvs q)) (hd : q.length ≤ d) (hm : q.length ≤ 140737488351232) (hx : x < 256) :
    Calls Try.prog 8 #[.slice A p.length c, .slice B q.length d, .int .u8 (x : Int)] w fun e w' => e = .returned (.bool true) ∧ Below w.heap.size w w' := by
  have h := fieldOver_walk0 A p c B q d (UInt8.ofNat x) w ha hc hn hb hd hm
  rwa [UInt8.toNat_ofNat', show x % 2 ^ 8 = x from by omega] at h
end Go.Proofs.Ytolcaolmdfbfhaa
