import Derived.Test.YtclcgfngolfmlaaRoomy
import Derived.Test.YtclcgfngolfmlaaLeft
import Derived.Test.YtclcgfngolfmlaaTwice
import Derived.Test.YtclcgfngolfmlaaThruH
import Derived.Test.YtclcgfngolfmlaaThruG
namespace Go.Proofs.Ytclcgfngolfmlaa
set_option linter.unusedSimpArgs false
set_option linter.unusedVariables false
open Go.RowKit

theorem lagr_len (all : List UInt8) (n : Nat) : ∀ (xs ys s : List UInt8), (lagr all n xs ys s).length = s.length
  | [], ys, s => by cases ys <;> rfl
  | x :: xs, [], s => rfl
  | x :: xs, y :: ys, s => by
    show (lagr all n xs ys _).length = _
    rw [lagr_len all n xs ys, addTo_length]
theorem trimL_le (l : List UInt8) : (trimL l).length ≤ l.length := by rw [trimL_length]; exact trimN_le _ _
theorem thruF_len {p q r : List UInt8} {k : Int} (h : thruF p q = (r, k)) : r.length ≤ 1024 := by
  unfold thruF at h
  split at h
  · injection h with h1 h2
    rw [← h1]
    simp
  · rename_i hn
    split at h
    · rename_i hd
      injection h with h1 h2
      rw [← h1, ← thru_prog p q (by omega) hd]
      refine Nat.le_trans (trimL_le _) ?_
      rw [lagr_len]
      simp
      omega
    · injection h with h1 h2
      rw [← h1]
      simp
theorem pthru_any (A B : Option Addr) (p q : List UInt8) (n m c d : Nat) (w : World) (hp : p.length = n) (hq : q.length = m) (ra : Rd w A (bvs p)) (rb : Rd w B (bvs q)) :
    Calls Try.prog 43 #[.slice A n c, .slice B m d] w fun e w' => BytesRes w w' (thruF p q) e := by
  by_cases h : n ≠ m ∨ 255 < n
  · rw [thruF_size (by rw [hp, hq]; exact h)]
    exact pthru_size A B n m c d w h
  · obtain rfl : n = m := by omega
    exact pthru_good A B p q n c d w hp hq ra rb (by omega)

set_option maxHeartbeats 6400000 in
set_option maxRecDepth 100000 in
theorem fieldThrough_walk (A : Option Addr) (p : List UInt8) (c : Nat) (B : Option Addr) (q : List UInt8) (d : Nat) (w : World) (hA : Rd w A (bvs p)) (_ : p.length ≤ c) (np : p.length ≤ 140737488351232) (hB : Rd w B (bvs q)) (_ : q.length ≤ d) (nq : q.length ≤ 140737488351232) :
    Calls Try.prog 7 #[.slice A p.length c, .slice B q.length d] w fun e w' => e = .returned (.bool true) ∧ Below w.heap.size w w' := by
  obtain ⟨r, k, hrk⟩ : ∃ r k, thruF p q = (r, k) := ⟨_, _, rfl⟩
  have hrl := thruF_len hrk
  have HR := Lib.hid hrk
  clear hrk
  have hA0 := hA
  have hB0 := hB
  have hW : Below w.heap.size w w := Below.refl _ _
  go_enter Try.func7, Try.ntmps7
  go_wp2_with fail
  refine (roomy_any A p c w hA np).mono ?_
  rintro e w1 ⟨g1, rfl, hg1, hR1, hb⟩
  have r1 := RoomK.lt hR1
  replace hA := hA.step hb
  replace hB := hB.step hb
  have s1 := hb.size
  replace hW := nextB hW (Nat.le_refl _) hb
  go_wp2_with fail
  refine (roomy_any B q d w1 hB nq).mono ?_
  rintro e w2 ⟨g2, rfl, hg2, hR2, hb⟩
  have r2 := RoomK.lt hR2
  replace hA := hA.step hb
  replace hB := hB.step hb
  replace hR1 := hR1.step hb
  have s2 := hb.size
  replace hW := nextB hW hW.size hb
  go_wp2_with fail
  refine (rthru_any A B p q _ _ c d w2 rfl rfl hA hB).mono ?_
  intro e w3 h3
  obtain ⟨X1, x1, rfl, hX1, hb⟩ := h3.open_ HR.out
  clear h3
  have l1 := hX1.lt
  replace hA := hA.step hb
  replace hB := hB.step hb
  replace hR1 := hR1.step hb
  replace hR2 := hR2.step hb
  have s3 := hb.size
  replace hW := nextB hW hW.size hb
  go_wp2_with fail
  refine (pthru_any _ _ p q _ _ _ _ w3 rfl rfl hR1.rd hR2.rd).mono ?_
  intro e w4 h4
  obtain ⟨X2, x2, rfl, hX2, hb⟩ := h4.open_ HR.out
  clear h4
  have l2 := hX2.lt
  replace hA := hA.step hb
  replace hB := hB.step hb
  replace hR1 := hR1.step hb
  replace hR2 := hR2.step hb
  replace hX1 := hX1.step hb
  have s4 := hb.size
  replace hW := nextB hW hW.size hb
  go_wp2_with fail
  refine (pthru_any _ _ p q _ _ _ _ w4 rfl rfl hR1.rd hR2.rd).mono ?_
  intro e w5 h5
  obtain ⟨X3, x3, rfl, hX3, hb⟩ := h5.open_ HR.out
  clear h5
  have l3 := hX3.lt
  replace hA := hA.step hb
  replace hB := hB.step hb
  replace hR1 := hR1.step hb
  replace hR2 := hR2.step hb
  replace hX1 := hX1.step hb
  replace hX2 := hX2.step hb
  have s5 := hb.size
  replace hW := nextB hW hW.size hb
  go_wp2_with fail
  refine (twice_yes w3.heap.size X2 X3 X1 r _ _ _ w5 hX2 hX3.rd hX1.rd (fun q hq e => by have := l2 q hq; have := l3 q e; omega) (fun q hq e => by have := l2 q hq; have := l1 q e; omega) (by omega) (by omega)).mono ?_
  rintro e w10 ⟨rfl, hg2'⟩
  replace hR1 := hR1.over hg2' (fun q hq e => by have := l2 q hq; have e : g1 = q := (by simpa using e); omega)
  replace hR2 := hR2.over hg2' (fun q hq e => by have := l2 q hq; have e : g2 = q := (by simpa using e); omega)
  have hW10 : Below w.heap.size w w10 := hW.grown hg2' hW.size (fun q hq => by have := (l2 q hq).1; omega)
  go_wp2_with fail
  refine (left_yes g1 A p c w10 hR1 (hA0.below hW10) np).mono ?_
  rintro e w11 ⟨rfl, j1, rfl⟩
  go_wp2_with fail
  refine (left_yes g2 B q d (w10.drewN j1) (hR2.step (below_drewN (Below.refl _ _) _)) ((hB0.below hW10).drewN _) nq).mono ?_
  rintro e w11 ⟨rfl, j2, rfl⟩
  go_wp2_with fail
  go_ret
  exact ⟨rfl, below_drewN hW10 _⟩
end Go.Proofs.Ytclcgfngolfmlaa
