import Derived.Test.YtkbaganbfcbioaaRingAsKeysAdds
import Derived.Test.YtkbaganbfcbioaaRingB
import Derived.Test.YtkbaganbfcbioaaRingC
import Derived.Test.YtkbaganbfcbioaaOpenRing
import Derived.Test.YtkbaganbfcbioaaCopied
import Derived.Test.YtkbaganbfcbioaaHeld2
namespace Go.Proofs.Ytkbaganbfcbioaa
set_option linter.unusedSimpArgs false
set_option linter.unusedVariables false
open Go.RowKit

theorem addR_sub {L : List Ky} {k : Ky} : ∀ x ∈ (addR L k).1, x ∈ L ∨ x = k := by
  intro x hx
  unfold addR at hx
  split at hx
  · split at hx
    · split at hx
      · exact .inl hx
      · split at hx
        · exact .inl hx
        · rcases List.mem_append.1 hx with h | h
          · exact .inl h
          · exact .inr (by simpa using h)
    · exact .inl hx
  · simp at hx
theorem addR_len (L : List Ky) (k : Ky) : (addR L k).1.length ≤ max 8 L.length := by
  unfold addR
  split
  · split
    · split
      · exact Nat.le_max_right 8 L.length
      · split
        · exact Nat.le_max_right 8 L.length
        · show (L ++ [k]).length ≤ _
          rw [List.length_append, List.length_singleton]; omega
    · exact Nat.le_max_right 8 L.length
  · simp
theorem RingRes.openA {w w' : World} {r : List Ky × Int} {e : Ending} {L : List Ky} {k : Int} (hr : r = (L, k)) (h : RingRes w w' r e) :
    ∃ B c, e = .returned (.tuple #[.agg #[.slice B L.length c], .int .i64 k]) ∧ OwnRing w' w.heap.size B L.length c L ∧ Below w.heap.size w w' := by
  subst hr
  exact h
set_option maxHeartbeats 6400000 in
set_option maxRecDepth 100000 in
theorem adds1_any (l : List KyR) (L M : List Ky) (B : Option Addr) (n d k p : Nat) (kx : Ky) (A : Option Addr) (cA : Nat) (err : Int) (w : World) (hl : l.map KyR.k = L) (hn : L.length = n) (h : RdRing w B l) (hf : RingFits L) (hR : addR L kx = (M, err)) (hk : M.length = k) (hp : Blk w p 46 #[.int .i64 kx.id, .slice A kx.words.length cA, .int .i64 kx.top, .int .i64 kx.seen]) (ha : Rd w A (ivs kx.words)) (hkf : kx.words.length ≤ 17592186044400 ∧ kx.seen < 9223372036854775808) :
    Calls Try.prog 21 #[.agg #[.slice B n d], .pointer (some ⟨p, 0, none⟩)] w fun e w' => AsRes w w' M k [] 0 0 err e := by
  have HD := Lib.hid (fun (w : World) (h : RdRing w B l) (ha : Rd w A (ivs kx.words)) => padd_any l L B n d kx A cA w hl hn h hf ha hkf)
  have HRd := Lib.hid h
  have HA := Lib.hid ha
  have HR := Lib.hid hR
  have HK := Lib.hid hk
  unfold kyv at HD
  obtain ⟨id, words, top, seen⟩ := kx
  dsimp only at HD HA hp
  generalize words.length = q at *
  obtain ⟨b0, b1, hB0, hz0⟩ := box2 w #[.slice B n d] #[.slice none 0 0] 44 44
  have hp2 := hp.step hB0
  obtain ⟨y0, y1, y2, y3, yf⟩ := hp2.four
  clear hl hn h hR hk ha hkf hp hp2
  go_enter Try.func21, Try.ntmps21
  go_wp2_with fail
  clear y0 y1 y2 y3 yf
  generalize (w.alloc (.cells #[.slice B n d] 44)).alloc (.cells #[.slice none 0 0] 44) = W at *
  refine (HD.out W (HRd.out.step hB0) (HA.out.step hB0)).mono ?_
  intro e w1 h1
  obtain ⟨B1, c1, rfl, ⟨m, hm, hO, hD⟩, hb⟩ := h1.openA HR.out
  clear h1
  rw [HK.out] at hO ⊢
  replace b1 := b1.step hb
  replace hB0 := hB0.trans (hb.mono hB0.size)
  have z1 := hb.size
  have b7 := Blk.new w1 44 #[.slice B1 k c1]
  replace b1 := b1.alloc (.cells #[.slice B1 k c1] 44)
  replace hO := hO.alloc (.cells #[.slice B1 k c1] 44)
  replace hD := hD.map (fun _ _ _ _ h => h.alloc (.cells #[.slice B1 k c1] 44))
  replace hB0 := hB0.alloc hB0.size (.cells #[.slice B1 k c1] 44)
  have e7 := b7.cell' (i := 0) rfl
  have e1 := b1.cell' (i := 0) rfl
  have ef := b1.frozen
  have b2 := blk1_set b1 (.slice B1 k c1)
  have e2 := b2.cell' (i := 0) rfl
  go_wp2_with fail
  refine bodyPost_ret (v := .tuple #[.agg #[.slice B1 k c1], .slice none 0 0, .int .i64 0, .int .i64 err]) (by simp [results, Try.results21, go_sem, e2]) rfl ?_
  refine ⟨B1, c1, none, 0, rfl, ⟨m, hm, ?_, ?_⟩, Own.none_ _ _ _ _, hB0.setCell (p := ⟨w.heap.size + 1, 0, none⟩) (by simp) _⟩
  · exact (hO.setFar (p := ⟨w.heap.size + 1, 0, none⟩) (fun e => by have : W.heap.size ≤ w.heap.size + 1 := (hO.lt _ e).1; omega) _).mono (by omega)
  · exact hD.map (fun _ _ _ _ h => (h.setFar (p := ⟨w.heap.size + 1, 0, none⟩) (fun e => by have : W.heap.size ≤ w.heap.size + 1 := (h.lt _ e).1; omega) _).mono (by omega))
theorem sameK {id top seen : Int} {words : List Int} {A B : Option Addr} {q c d : Nat} (w : World) (hq : words.length = q) (hn : q ≤ 17592186044400) (ha : Rd w A (ivs words)) (hb : Rd w B (ivs words)) :
    Calls Try.prog 24 #[.agg #[.int .i64 id, .slice A q c, .int .i64 top, .int .i64 seen], .agg #[.int .i64 id, .slice B q d, .int .i64 top, .int .i64 seen]] w fun e w' => e = .returned (.bool true) ∧ Below w.heap.size w w' := by
  subst hq
  exact sameKey_yes ⟨id, words, top, seen⟩ A B c d w hn ha hb
theorem copiedN (A : Option Addr) (l : List Int) (n c : Nat) (w : World) (hl : l.length = n) (ha : Rd w A (ivs l)) (hn : n ≤ 17592186044400) :
    Calls Try.prog 15 #[.slice A n c] w fun e w' => ∃ A' c', e = .returned (.slice A' n c') ∧ Own w' w.heap.size 3 1 A' n c' (ivs l) ∧ Below w.heap.size w w' := by
  subst hl
  exact copied_any A l c w ha hn

set_option maxHeartbeats 12800000 in
set_option maxRecDepth 100000 in
theorem keysAdds_go (l : List KyR) (L : List Ky) (B : Option Addr) (n d : Nat) (kx : Ky) (A : Option Addr) (cA : Nat) (w : World) (hl : l.map KyR.k = L) (hn : L.length = n) (h : RdRing w B l) (hf : RingFits L) (hnn : n ≤ 2932031007317) (hL2 : ∀ x ∈ L, x.words.length ≤ 17592186044000) (ha : Rd w A (ivs kx.words)) (hkf : kx.words.length ≤ 17592186044000 ∧ kx.seen < 9223372036854775808 ∧ (Lit.int .i64 kx.id).wf = true) :
    Calls Try.prog 5 #[.agg #[.slice B n d], kyv kx A cA] w fun e w' => e = .returned (.bool true) ∧ Below w.heap.size w w' := by
  obtain ⟨M, err, hR⟩ : ∃ M err, addR L kx = (M, err) := ⟨_, _, rfl⟩
  have hsub : ∀ x ∈ M, x ∈ L ∨ x = kx := by have := @addR_sub L kx; rw [hR] at this; exact this
  have hlen : M.length ≤ max 8 n := by have := addR_len L kx; rw [hR, hn] at this; exact this
  have hfM : RingFits M := fun x hx => by
    rcases hsub x hx with h | rfl
    · exact hf x h
    · exact ⟨⟨by omega, hkf.2.1⟩, hkf.2.2⟩
  have hM2 : ∀ x ∈ M, x.words.length ≤ 17592186044000 := fun x hx => by
    rcases hsub x hx with h | rfl
    · exact hL2 x h
    · exact hkf.1
  obtain ⟨k, hk⟩ : ∃ k, M.length = k := ⟨_, rfl⟩
  have HRr := Lib.hid hR
  have HK := Lib.hid hk
  have HRd := Lib.hid h
  have HA := Lib.hid ha
  have HN := Lib.hid hn
  have HL := Lib.hid hl
  rw [hk] at hlen
  have HD := Lib.hid (fun (w : World) (h : RdRing w B l) (ha : Rd w A (ivs kx.words)) => radded_any l L B n d kx A cA w hl hn h hf hnn ha ⟨by omega, hkf.2.1⟩)
  have H1 := Lib.hid (fun (l : List KyR) (B : Option Addr) (d p : Nat) (A : Option Addr) (cA : Nat) (w : World) (hl : l.map KyR.k = L) (h : RdRing w B l) (hp : Blk w p 46 #[.int .i64 kx.id, .slice A kx.words.length cA, .int .i64 kx.top, .int .i64 kx.seen]) (ha : Rd w A (ivs kx.words)) => adds1_any l L M B n d k p kx A cA err w hl hn h hf hR hk hp ha ⟨by omega, hkf.2.1⟩)
  have HP := Lib.hid (fun (l : List KyR) (B : Option Addr) (d : Nat) (A : Option Addr) (cA : Nat) (w : World) (hl : l.map KyR.k = L) (h : RdRing w B l) (ha : Rd w A (ivs kx.words)) => padd_any l L B n d kx A cA w hl hn h hf ha ⟨by omega, hkf.2.1⟩)
  have hq1 := hkf.1
  unfold kyv at HD HP ⊢
  obtain ⟨id, words, top, seen⟩ := kx
  dsimp only at HD H1 HP HA hq1 ⊢
  generalize hwl : words.length = q at *
  have HWl := Lib.hid hwl
  obtain ⟨b2, b3, hB, hz0⟩ := box2 w #[.slice B n d] #[.int .i64 id, .slice A q cA, .int .i64 top, .int .i64 seen] 44 46
  have e2 := b2.cell' (i := 0) rfl
  obtain ⟨y0, y1, y2, y3, yf⟩ := b3.four
  clear hR hk h hn hl hsub ha hkf hwl
  go_enter Try.func5, Try.ntmps5
  go_wp2_with fail
  clear e2 y0 y1 y2 y3 yf
  generalize (w.alloc (.cells #[.slice B n d] 44)).alloc (.cells #[.int .i64 id, .slice A q cA, .int .i64 top, .int .i64 seen] 46) = W at *
  refine (HD.out W (HRd.out.step hB) (HA.out.step hB)).mono ?_
  intro e w1 h1
  obtain ⟨B1, c1, rfl, ⟨m, hm, hO, hD⟩, hb⟩ := h1.openA HRr.out
  clear h1
  rw [HK.out] at hO ⊢
  replace b2 := b2.step hb
  replace b3 := b3.step hb
  replace hB := hB.trans (hb.mono hB.size)
  have z1 := hb.size
  have ltw : ∀ q, blk B1 = some q → q < w1.heap.size := fun q hq => (hO.lt q hq).2
  have ltDw := Lib.hid (fun (i : Nat) (y : KyR) (hy : m[i]? = some y) (q : Nat) (hq : blk y.A = some q) => (hD.lt hy hq).2)
  have b5 := Blk.new w1 44 #[.slice B1 k c1]
  replace b2 := b2.alloc (.cells #[.slice B1 k c1] 44)
  replace b3 := b3.alloc (.cells #[.slice B1 k c1] 44)
  replace hO := hO.alloc (.cells #[.slice B1 k c1] 44)
  replace hD := hD.map (fun _ _ _ _ h => h.alloc (.cells #[.slice B1 k c1] 44))
  replace hB := hB.alloc hB.size (.cells #[.slice B1 k c1] 44)
  have hz1 : (w1.alloc (.cells #[.slice B1 k c1] 44)).heap.size = w1.heap.size + 1 := by simp
  obtain ⟨y0, y1, y2, y3, yf⟩ := b3.four
  go_upto_region 3 with fail
  have b7 := Blk.new (w1.alloc (.cells #[.slice B1 k c1] 44)) 46 #[.int .i64 id, .slice A q cA, .int .i64 top, .int .i64 seen]
  rw [hz1] at b7
  replace b2 := b2.alloc (.cells #[.int .i64 id, .slice A q cA, .int .i64 top, .int .i64 seen] 46)
  replace b3 := b3.alloc (.cells #[.int .i64 id, .slice A q cA, .int .i64 top, .int .i64 seen] 46)
  replace b5 := b5.alloc (.cells #[.int .i64 id, .slice A q cA, .int .i64 top, .int .i64 seen] 46)
  replace hO := hO.alloc (.cells #[.int .i64 id, .slice A q cA, .int .i64 top, .int .i64 seen] 46)
  replace hD := hD.map (fun _ _ _ _ h => h.alloc (.cells #[.int .i64 id, .slice A q cA, .int .i64 top, .int .i64 seen] 46))
  replace hB := hB.alloc hB.size (.cells #[.int .i64 id, .slice A q cA, .int .i64 top, .int .i64 seen] 46)
  have hz2 : ((w1.alloc (.cells #[.slice B1 k c1] 44)).alloc (.cells #[.int .i64 id, .slice A q cA, .int .i64 top, .int .i64 seen] 46)).heap.size = w1.heap.size + 2 := by simp
  generalize (w1.alloc (.cells #[.slice B1 k c1] 44)).alloc (.cells #[.int .i64 id, .slice A q cA, .int .i64 top, .int .i64 seen] 46) = W2 at *
  clear y0 y1 y2 y3 yf
  obtain ⟨y0, y1, y2, y3, yf⟩ := b3.four
  go_wp2_with fail
  refine (copiedN A words q cA W2 HWl.out (HA.out.below hB) (by omega)).mono ?_
  rintro e w3 ⟨A3, c3, rfl, hO3, hb⟩
  clear y0 y1 y2 y3 yf
  replace b2 := b2.step hb
  replace b3 := b3.step hb
  replace b5 := b5.step hb
  replace b7 := b7.step hb
  replace hO := hO.step hb
  replace hD := hD.step hb
  replace hB := hB.trans (hb.mono hB.size)
  have z3 := hb.size
  have lt3 : ∀ k, blk A3 = some k → w1.heap.size + 2 ≤ k ∧ k < w3.heap.size := fun k hk => by have := hO3.lt k hk; omega
  have y4 := b7.cell' (i := 1) rfl
  have f4 := b7.frozen
  have b7' := blk4_words b7 (.slice A3 q c3)
  have b2' := b2.far (p := ⟨w1.heap.size + 1, 1, none⟩) (by show ¬ (w.heap.size = w1.heap.size + 1); omega) (.slice A3 q c3)
  have b3' := b3.far (p := ⟨w1.heap.size + 1, 1, none⟩) (by show ¬ (w.heap.size + 1 = w1.heap.size + 1); omega) (.slice A3 q c3)
  have b5' := b5.far (p := ⟨w1.heap.size + 1, 1, none⟩) (by show ¬ (w1.heap.size = w1.heap.size + 1); omega) (.slice A3 q c3)
  have hO' := hO.setFar (p := ⟨w1.heap.size + 1, 1, none⟩) (fun e => by have : w1.heap.size + 1 < w1.heap.size := ltw _ e; omega) (.slice A3 q c3)
  have hD' : OwnWords (w3.setCell ⟨w1.heap.size + 1, 1, none⟩ (.slice A3 q c3)) W.heap.size m := ⟨fun i x hx => (hD.1 i x hx).setFar (p := ⟨w1.heap.size + 1, 1, none⟩) (fun e => by have : w1.heap.size + 1 < w1.heap.size := ltDw.out i x hx _ e; omega) (.slice A3 q c3), hD.2⟩
  have hO3' := hO3.setFar (p := ⟨w1.heap.size + 1, 1, none⟩) (fun e => by have : w1.heap.size + 2 ≤ w1.heap.size + 1 := (lt3 _ e).1; omega) (.slice A3 q c3)
  have hB' := hB.setCell (p := ⟨w1.heap.size + 1, 1, none⟩) (by simp; omega) (.slice A3 q c3)
  have z3' : (w3.setCell ⟨w1.heap.size + 1, 1, none⟩ (.slice A3 q c3)).heap.size = w3.heap.size := by simp
  have e2 := b2'.cell' (i := 0) rfl
  have e5 := b5'.cell' (i := 0) rfl
  clear b2 b3 b5 hO hD hO3 hB hb
  go_wp2_with fail
  clear e2 e5 y4 f4 b7
  generalize w3.setCell ⟨w1.heap.size + 1, 1, none⟩ (.slice A3 q c3) = W3 at *
  refine (ringAs_KeysAdds (.pointer (some ⟨w1.heap.size + 1, 0, none⟩)) l m L M B B1 none n d k c1 0 0 [] 0 err W3 HL.out HN.out (HRd.out.below hB') hf hnn hm HK.out (OwnWords.rd hO' hD') hfM (by omega) hL2 hM2 (Rd.nil _ _) rfl (by omega) (fun q hq => by simp [blk] at hq) (fun W4 B' d' l' hb' hl' hr' => H1.out l' B' d' (w1.heap.size + 1) A3 c3 W4 hl' hr' (b7'.step hb') (hO3'.rd.step hb'))).mono ?_
  rintro e w4 ⟨rfl, hb⟩
  have b2 := b2'.step hb
  have b3 := b3'.step hb
  have b5 := b5'.step hb
  have b7 := b7'.step hb
  have hO := hO'.step hb
  have hD := hD'.step hb
  have hO3 := hO3'.step hb
  have hB := hB'.trans (hb.mono hB'.size)
  have z4 := hb.size
  clear b2' b3' b5' b7' hO' hD' hO3' hB' hb
  obtain ⟨y0, y1, y2, y3, yf⟩ := b3.four
  obtain ⟨x0, x1, x2, x3, xf⟩ := b7.four
  go_wp2_with fail
  clear y0 y1 y2 y3 yf x0 x1 x2 x3 xf
  refine (sameK w4 HWl.out (by omega) hO3.rd (HA.out.below hB)).mono ?_
  rintro e w5 ⟨rfl, hb⟩
  replace b2 := b2.step hb
  replace b3 := b3.step hb
  replace b5 := b5.step hb
  replace b7 := b7.step hb
  replace hO := hO.step hb
  replace hD := hD.step hb
  replace hO3 := hO3.step hb
  replace hB := hB.trans (hb.mono hB.size)
  have z5 := hb.size
  clear hb
  have e2 := b2.cell' (i := 0) rfl
  obtain ⟨x0, x1, x2, x3, xf⟩ := b7.four
  go_wp2_with fail
  have hSof : ∀ v, Below w5.heap.size w5 v → (v.cell? ⟨w.heap.size, 0, none⟩ = some (.slice B n d) ∧ v.cell? ⟨w1.heap.size + 1, 0, none⟩ = some (.int .i64 id) ∧ v.cell? ⟨w1.heap.size + 1, 1, none⟩ = some (.slice A3 q c3) ∧ v.cell? ⟨w1.heap.size + 1, 2, none⟩ = some (.int .i64 top) ∧ v.cell? ⟨w1.heap.size + 1, 3, none⟩ = some (.int .i64 seen)) := fun v hv => ⟨(b2.step hv).cell' (i := 0) rfl, (b7.step hv).cell' (i := 0) rfl, (b7.step hv).cell' (i := 1) rfl, (b7.step hv).cell' (i := 2) rfl, (b7.step hv).cell' (i := 3) rfl⟩
  have hv0 : Below w5.heap.size w5 w5.drew := (Below.refl _ _).drew
  clear e2 x0 x1 x2 x3 xf
  refine heldRegion (fun v => v.cell? ⟨w.heap.size, 0, none⟩ = some (.slice B n d) ∧ v.cell? ⟨w1.heap.size + 1, 0, none⟩ = some (.int .i64 id) ∧ v.cell? ⟨w1.heap.size + 1, 1, none⟩ = some (.slice A3 q c3) ∧ v.cell? ⟨w1.heap.size + 1, 2, none⟩ = some (.int .i64 top) ∧ v.cell? ⟨w1.heap.size + 1, 3, none⟩ = some (.int .i64 seen)) 9 (by kernel_rfl) (by kernel_rfl) (hSof _ hv0) (fun hS => ?_)
  refine walk_take 0 (v := ?v15) rfl (by kernel_rfl) (by kernel_rfl) (by kernel_rfl) (fun _ _ _ h => h) (hS) (Or.inl ⟨by rfl, ?y15⟩) ?r15
  case y15 => intro w hSw; (try dsimp only at hSw); go_simp; try rfl
  case' r15 => try simp only [Act.put, List.setIfInBounds_toArray, List.set_cons_zero, List.set_cons_succ]
  refine walk_take 2 (v := ?v16) rfl (by kernel_rfl) (by kernel_rfl) (by kernel_rfl) (fun _ _ _ h => h) (hS) (Or.inl ⟨by rfl, ?y16⟩) ?r16
  case y16 => intro w hSw; (try dsimp only at hSw); go_simp; try rfl
  case' r16 => try simp only [Act.put, List.setIfInBounds_toArray, List.set_cons_zero, List.set_cons_succ]
  refine walk_step2 1 7 rfl rfl (by kernel_rfl) (by kernel_rfl) (by kernel_rfl) (fun K hK => ?s17) (fun K hK => ?t17)
  case s17 =>
    go_simp
    refine (ringOf_any l L B n d w5.drew HL.out HN.out (HRd.out.below (hB.trans ((hv0).mono hB.size))) hf hnn).mono ?_
    rintro e w6 ⟨B6, d6, rfl, ⟨l6, hl6, hO6, hD6⟩, hb6⟩
    have hv6 : Below w5.heap.size w5 w6 := (hv0).trans (hb6.mono (hv0).size)
    refine hK _ _ (hSof _ hv6) ?_
    clear hK K
    try simp only [Act.put, List.setIfInBounds_toArray, List.set_cons_zero, List.set_cons_succ]
    have z6 : w5.heap.size ≤ w6.heap.size := hv6.size
    refine walk_step2 3 7 rfl rfl (by kernel_rfl) (by kernel_rfl) (by kernel_rfl) (fun K hK => ?s14) (fun K hK => ?t14)
    case s14 =>
      go_simp
      refine (HP.out l6 B6 d6 A3 c3 w6 hl6 (OwnWords.rd hO6 hD6) (hO3.rd.step (hv6))).mono ?_
      intro e w7 h7
      obtain ⟨B7, c7, rfl, ⟨m7, hm7, hO7, hD7⟩, hb7⟩ := h7.openA HRr.out
      clear h7
      rw [HK.out] at hO7 ⊢
      have hv7 : Below w5.heap.size w5 w7 := (hv6).trans (hb7.mono (hv6).size)
      refine hK _ _ (hSof _ hv7) ?_
      clear hK K
      try simp only [Act.put, List.setIfInBounds_toArray, List.set_cons_zero, List.set_cons_succ]
      have z7 := hb7.size
      refine walk_take 4 (v := ?v6) rfl (by kernel_rfl) (by kernel_rfl) (by kernel_rfl) (fun _ _ _ h => h) (hSof _ hv7) (Or.inl ⟨by rfl, ?y6⟩) ?r6
      case y6 => intro w hSw; (try dsimp only at hSw); go_simp; try rfl
      case' r6 => try simp only [Act.put, List.setIfInBounds_toArray, List.set_cons_zero, List.set_cons_succ]
      refine walk_take 5 (v := ?v7) rfl (by kernel_rfl) (by kernel_rfl) (by kernel_rfl) (fun _ _ _ h => h) (hSof _ hv7) (Or.inl ⟨by rfl, ?y7⟩) ?r7
      case y7 => intro w hSw; (try dsimp only at hSw); go_simp; try rfl
      case' r7 => try simp only [Act.put, List.setIfInBounds_toArray, List.set_cons_zero, List.set_cons_succ]
      refine walk_take 6 (v := ?v8) rfl (by kernel_rfl) (by kernel_rfl) (by kernel_rfl) (fun _ _ _ h => h) (hSof _ hv7) (Or.inl ⟨by rfl, ?y8⟩) ?r8
      case y8 => intro w hSw; (try dsimp only at hSw); go_simp; try rfl
      case' r8 => try simp only [Act.put, List.setIfInBounds_toArray, List.set_cons_zero, List.set_cons_succ]
      refine walk_step 7 rfl (by kernel_rfl) (by kernel_rfl) (fun K hK => ?s9)
      case s9 =>
        go_simp
        have hva : Below w5.heap.size w5 (w7.alloc (.cells #[.slice none 0 0] 44)) := (hv7).alloc (hv7).size _
        refine hK _ _ (hSof _ hva) ?_
        clear hK K
        try simp only [Act.put, List.setIfInBounds_toArray, List.set_cons_zero, List.set_cons_succ]
        have b9 := Blk.new w7 44 #[.slice none 0 0]
        have hOx := (hO7.mono (base' := w5.heap.size) (by omega)).alloc (.cells #[.slice none 0 0] 44)
        have hDx : OwnWords (w7.alloc (.cells #[.slice none 0 0] 44)) w5.heap.size m7 := hD7.map (fun _ _ _ _ h => (h.mono (by omega)).alloc (.cells #[.slice none 0 0] 44))
        have hfarB : ∀ q, blk B7 = some q → q ≠ w7.heap.size := fun q hq e => by have := (hO7.lt q hq).2; omega
        have hfarD : ∀ (i : Nat) (x : KyR), m7[i]? = some x → ∀ q, blk x.A = some q → q ≠ w7.heap.size := fun i x hx q hq e => by have := (hD7.lt hx hq).2; omega
        have hvx := hva
        have hzv : (w7.alloc (.cells #[.slice none 0 0] 44)).heap.size = w7.heap.size + 1 := by simp
        generalize w7.alloc (.cells #[.slice none 0 0] 44) = V at *
        refine walk_step 8 rfl (by kernel_rfl) (by kernel_rfl) (fun K hK => ?store)
        case store =>
          have s9 := b9.cell' (i := 0) rfl
          have sf9 := b9.frozen
          have b9' := blk1_set b9 (.slice B7 k c7)
          have hpw : w5.heap.size ≤ w7.heap.size := by omega
          have hvs := hvx.setCell (p := ⟨w7.heap.size, 0, none⟩) hpw (.slice B7 k c7)
          have hOs := hOx.setFar (p := ⟨w7.heap.size, 0, none⟩) (fun e => hfarB _ e rfl) (.slice B7 k c7)
          have hDs : OwnWords (V.setCell ⟨w7.heap.size, 0, none⟩ (.slice B7 k c7)) w5.heap.size m7 := ⟨fun i x hx => (hDx.1 i x hx).setFar (p := ⟨w7.heap.size, 0, none⟩) (fun e => hfarD i x hx _ e rfl) (.slice B7 k c7), hDx.2⟩
          go_simp
          refine hK _ _ (hSof _ hvs) ?_
          clear hK K
          try simp only [Act.put, List.setIfInBounds_toArray, List.set_cons_zero, List.set_cons_succ]
          refine walk_tail (by kernel_rfl) ?_
          simp only [List.drop_succ_cons, List.drop_zero]
          generalize V.setCell ⟨w7.heap.size, 0, none⟩ (.slice B7 k c7) = W9 at *
          replace b2 := b2.step hvs
          replace b5 := b5.step hvs
          replace b7 := b7.step hvs
          replace hO := hO.step hvs
          replace hD := hD.step hvs
          replace hO3 := hO3.step hvs
          replace hB := hB.trans (hvs.mono hB.size)
          have z9 := hvs.size
          clear hS hSof hvs hvx s9 sf9 b9 hOx hDx hfarB hfarD
          obtain ⟨x0, x1, x2, x3, xf⟩ := b7.four
          go_wp2_with fail
          clear x0 x1 x2 x3 xf
          refine (over_ints w1.heap.size A3 q c3 words (-7) W9 (hO3.mono (by omega)) hq1 (by omega)).mono ?_
          rintro e w10 ⟨rfl, hg⟩
          have b5' := b5.over hg (fun q hq e => by have := (lt3 q hq).1; injection e with e; omega)
          have b9x := b9'.over hg (fun q hq e => by have := (lt3 q hq).2; injection e with e; omega)
          have hO' := hO.over hg (fun q hq e => by have := (lt3 q hq).1; have := ltw q e; omega)
          have hD' : OwnWords w10 W.heap.size m := ⟨fun i x hx => (hD.1 i x hx).over hg (fun q hq e => by have := (lt3 q hq).1; have := ltDw.out i x hx q e; omega), hD.2⟩
          have hOs' := hOs.over hg (fun q hq e => by have := (lt3 q hq).2; have := (hOs.lt q e).1; omega)
          have hDs' := hDs.map (fun _ _ _ _ h => h.over hg (fun q hq e => by have := (lt3 q hq).2; have := (h.lt q e).1; omega))
          have hB10 : Below w.heap.size w w10 := hB.grown hg hB.size (fun q hq => by have := (lt3 q hq).1; omega)
          have e9 := b9x.cell' (i := 0) rfl
          have e5 := b5'.cell' (i := 0) rfl
          go_wp2_with fail
          refine (sameRing_yes m7 m M B7 B1 k c7 c1 w10 hm7 hm HK.out (OwnWords.rd hOs' hDs') (OwnWords.rd hO' hD') hfM (by omega)).mono ?_
          rintro e w11 ⟨rfl, hb⟩
          go_wp2_with fail
          go_ret
          exact ⟨rfl, hB10.trans (hb.mono hB10.size)⟩
    case t14 =>
      go_simp
      have hva : Below w5.heap.size w5 (w6.alloc (.cells #[.slice none 0 0] 44)) := (hv6).alloc (hv6).size _
      refine hK _ _ (hSof _ hva) ?_
      clear hK K
      try simp only [Act.put, List.setIfInBounds_toArray, List.set_cons_zero, List.set_cons_succ]
      have b9 := Blk.new w6 44 #[.slice none 0 0]
      have hO6a := hO6.alloc (.cells #[.slice none 0 0] 44)
      have hD6a := hD6.map (fun _ _ _ _ h => h.alloc (.cells #[.slice none 0 0] 44))
      have hzv : (w6.alloc (.cells #[.slice none 0 0] 44)).heap.size = w6.heap.size + 1 := by simp
      generalize w6.alloc (.cells #[.slice none 0 0] 44) = V at *
      refine walk_step 3 rfl (by kernel_rfl) (by kernel_rfl) (fun K hK => ?s13)
      case s13 =>
        go_simp
        refine (HP.out l6 B6 d6 A3 c3 V hl6 (OwnWords.rd hO6a hD6a) (hO3.rd.step (hva))).mono ?_
        intro e w7 h7
        obtain ⟨B7, c7, rfl, ⟨m7, hm7, hO7, hD7⟩, hb7⟩ := h7.openA HRr.out
        clear h7
        rw [HK.out] at hO7 ⊢
        have hv7 : Below w5.heap.size w5 w7 := (hva).trans (hb7.mono (hva).size)
        refine hK _ _ (hSof _ hv7) ?_
        clear hK K
        try simp only [Act.put, List.setIfInBounds_toArray, List.set_cons_zero, List.set_cons_succ]
        replace b9 := b9.step hb7
        refine walk_take 4 (v := ?v10) rfl (by kernel_rfl) (by kernel_rfl) (by kernel_rfl) (fun _ _ _ h => h) (hSof _ hv7) (Or.inl ⟨by rfl, ?y10⟩) ?r10
        case y10 => intro w hSw; (try dsimp only at hSw); go_simp; try rfl
        case' r10 => try simp only [Act.put, List.setIfInBounds_toArray, List.set_cons_zero, List.set_cons_succ]
        refine walk_take 5 (v := ?v11) rfl (by kernel_rfl) (by kernel_rfl) (by kernel_rfl) (fun _ _ _ h => h) (hSof _ hv7) (Or.inl ⟨by rfl, ?y11⟩) ?r11
        case y11 => intro w hSw; (try dsimp only at hSw); go_simp; try rfl
        case' r11 => try simp only [Act.put, List.setIfInBounds_toArray, List.set_cons_zero, List.set_cons_succ]
        refine walk_take 6 (v := ?v12) rfl (by kernel_rfl) (by kernel_rfl) (by kernel_rfl) (fun _ _ _ h => h) (hSof _ hv7) (Or.inl ⟨by rfl, ?y12⟩) ?r12
        case y12 => intro w hSw; (try dsimp only at hSw); go_simp; try rfl
        case' r12 => try simp only [Act.put, List.setIfInBounds_toArray, List.set_cons_zero, List.set_cons_succ]
        have hvx := hv7
        have hfarB : ∀ q, blk B7 = some q → q ≠ w6.heap.size := fun q hq e => by have := (hO7.lt q hq).1; omega
        have hfarD : ∀ (i : Nat) (x : KyR), m7[i]? = some x → ∀ q, blk x.A = some q → q ≠ w6.heap.size := fun i x hx q hq e => by have := (hD7.lt hx hq).1; omega
        have hOx := hO7.mono (base' := w5.heap.size) (by omega)
        have hDx : OwnWords w7 w5.heap.size m7 := hD7.map (fun _ _ _ _ h => h.mono (by omega))
        refine walk_step 8 rfl (by kernel_rfl) (by kernel_rfl) (fun K hK => ?store)
        case store =>
          have s9 := b9.cell' (i := 0) rfl
          have sf9 := b9.frozen
          have b9' := blk1_set b9 (.slice B7 k c7)
          have hpw : w5.heap.size ≤ w6.heap.size := by omega
          have hvs := hvx.setCell (p := ⟨w6.heap.size, 0, none⟩) hpw (.slice B7 k c7)
          have hOs := hOx.setFar (p := ⟨w6.heap.size, 0, none⟩) (fun e => hfarB _ e rfl) (.slice B7 k c7)
          have hDs : OwnWords (w7.setCell ⟨w6.heap.size, 0, none⟩ (.slice B7 k c7)) w5.heap.size m7 := ⟨fun i x hx => (hDx.1 i x hx).setFar (p := ⟨w6.heap.size, 0, none⟩) (fun e => hfarD i x hx _ e rfl) (.slice B7 k c7), hDx.2⟩
          go_simp
          refine hK _ _ (hSof _ hvs) ?_
          clear hK K
          try simp only [Act.put, List.setIfInBounds_toArray, List.set_cons_zero, List.set_cons_succ]
          refine walk_tail (by kernel_rfl) ?_
          simp only [List.drop_succ_cons, List.drop_zero]
          generalize w7.setCell ⟨w6.heap.size, 0, none⟩ (.slice B7 k c7) = W9 at *
          replace b2 := b2.step hvs
          replace b5 := b5.step hvs
          replace b7 := b7.step hvs
          replace hO := hO.step hvs
          replace hD := hD.step hvs
          replace hO3 := hO3.step hvs
          replace hB := hB.trans (hvs.mono hB.size)
          have z9 := hvs.size
          clear hS hSof hvs hvx s9 sf9 b9 hOx hDx hfarB hfarD
          obtain ⟨x0, x1, x2, x3, xf⟩ := b7.four
          go_wp2_with fail
          clear x0 x1 x2 x3 xf
          refine (over_ints w1.heap.size A3 q c3 words (-7) W9 (hO3.mono (by omega)) hq1 (by omega)).mono ?_
          rintro e w10 ⟨rfl, hg⟩
          have b5' := b5.over hg (fun q hq e => by have := (lt3 q hq).1; injection e with e; omega)
          have b9x := b9'.over hg (fun q hq e => by have := (lt3 q hq).2; injection e with e; omega)
          have hO' := hO.over hg (fun q hq e => by have := (lt3 q hq).1; have := ltw q e; omega)
          have hD' : OwnWords w10 W.heap.size m := ⟨fun i x hx => (hD.1 i x hx).over hg (fun q hq e => by have := (lt3 q hq).1; have := ltDw.out i x hx q e; omega), hD.2⟩
          have hOs' := hOs.over hg (fun q hq e => by have := (lt3 q hq).2; have := (hOs.lt q e).1; omega)
          have hDs' := hDs.map (fun _ _ _ _ h => h.over hg (fun q hq e => by have := (lt3 q hq).2; have := (h.lt q e).1; omega))
          have hB10 : Below w.heap.size w w10 := hB.grown hg hB.size (fun q hq => by have := (lt3 q hq).1; omega)
          have e9 := b9x.cell' (i := 0) rfl
          have e5 := b5'.cell' (i := 0) rfl
          go_wp2_with fail
          refine (sameRing_yes m7 m M B7 B1 k c7 c1 w10 hm7 hm HK.out (OwnWords.rd hOs' hDs') (OwnWords.rd hO' hD') hfM (by omega)).mono ?_
          rintro e w11 ⟨rfl, hb⟩
          go_wp2_with fail
          go_ret
          exact ⟨rfl, hB10.trans (hb.mono hB10.size)⟩
  case t17 =>
    go_simp
    have hva : Below w5.heap.size w5 (w5.alloc (.cells #[.slice none 0 0] 44)).drew := ((Below.refl _ _).alloc (Nat.le_refl _) _).drew
    refine hK _ _ (hSof _ hva) ?_
    clear hK K
    try simp only [Act.put, List.setIfInBounds_toArray, List.set_cons_zero, List.set_cons_succ]
    have b9 := (Blk.new w5 44 #[.slice none 0 0]).drew
    have hzv : (w5.alloc (.cells #[.slice none 0 0] 44)).drew.heap.size = w5.heap.size + 1 := by simp
    generalize (w5.alloc (.cells #[.slice none 0 0] 44)).drew = V at *
    refine walk_step 1 rfl (by kernel_rfl) (by kernel_rfl) (fun K hK => ?s5)
    case s5 =>
      go_simp
      refine (ringOf_any l L B n d V HL.out HN.out (HRd.out.below (hB.trans ((hva).mono hB.size))) hf hnn).mono ?_
      rintro e w6 ⟨B6, d6, rfl, ⟨l6, hl6, hO6, hD6⟩, hb6⟩
      have hv6 : Below w5.heap.size w5 w6 := (hva).trans (hb6.mono (hva).size)
      refine hK _ _ (hSof _ hv6) ?_
      clear hK K
      try simp only [Act.put, List.setIfInBounds_toArray, List.set_cons_zero, List.set_cons_succ]
      replace b9 := b9.step hb6
      have z6 := hb6.size
      refine walk_step 3 rfl (by kernel_rfl) (by kernel_rfl) (fun K hK => ?s4)
      case s4 =>
        go_simp
        refine (HP.out l6 B6 d6 A3 c3 w6 hl6 (OwnWords.rd hO6 hD6) (hO3.rd.step (hv6))).mono ?_
        intro e w7 h7
        obtain ⟨B7, c7, rfl, ⟨m7, hm7, hO7, hD7⟩, hb7⟩ := h7.openA HRr.out
        clear h7
        rw [HK.out] at hO7 ⊢
        have hv7 : Below w5.heap.size w5 w7 := (hv6).trans (hb7.mono (hv6).size)
        refine hK _ _ (hSof _ hv7) ?_
        clear hK K
        try simp only [Act.put, List.setIfInBounds_toArray, List.set_cons_zero, List.set_cons_succ]
        replace b9 := b9.step hb7
        refine walk_take 4 (v := ?v1) rfl (by kernel_rfl) (by kernel_rfl) (by kernel_rfl) (fun _ _ _ h => h) (hSof _ hv7) (Or.inl ⟨by rfl, ?y1⟩) ?r1
        case y1 => intro w hSw; (try dsimp only at hSw); go_simp; try rfl
        case' r1 => try simp only [Act.put, List.setIfInBounds_toArray, List.set_cons_zero, List.set_cons_succ]
        refine walk_take 5 (v := ?v2) rfl (by kernel_rfl) (by kernel_rfl) (by kernel_rfl) (fun _ _ _ h => h) (hSof _ hv7) (Or.inl ⟨by rfl, ?y2⟩) ?r2
        case y2 => intro w hSw; (try dsimp only at hSw); go_simp; try rfl
        case' r2 => try simp only [Act.put, List.setIfInBounds_toArray, List.set_cons_zero, List.set_cons_succ]
        refine walk_take 6 (v := ?v3) rfl (by kernel_rfl) (by kernel_rfl) (by kernel_rfl) (fun _ _ _ h => h) (hSof _ hv7) (Or.inl ⟨by rfl, ?y3⟩) ?r3
        case y3 => intro w hSw; (try dsimp only at hSw); go_simp; try rfl
        case' r3 => try simp only [Act.put, List.setIfInBounds_toArray, List.set_cons_zero, List.set_cons_succ]
        have hvx := hv7
        have hfarB : ∀ q, blk B7 = some q → q ≠ w5.heap.size := fun q hq e => by have := (hO7.lt q hq).1; omega
        have hfarD : ∀ (i : Nat) (x : KyR), m7[i]? = some x → ∀ q, blk x.A = some q → q ≠ w5.heap.size := fun i x hx q hq e => by have := (hD7.lt hx hq).1; omega
        have hOx := hO7.mono (base' := w5.heap.size) (by omega)
        have hDx : OwnWords w7 w5.heap.size m7 := hD7.map (fun _ _ _ _ h => h.mono (by omega))
        refine walk_step 8 rfl (by kernel_rfl) (by kernel_rfl) (fun K hK => ?store)
        case store =>
          have s9 := b9.cell' (i := 0) rfl
          have sf9 := b9.frozen
          have b9' := blk1_set b9 (.slice B7 k c7)
          have hpw : w5.heap.size ≤ w5.heap.size := by omega
          have hvs := hvx.setCell (p := ⟨w5.heap.size, 0, none⟩) hpw (.slice B7 k c7)
          have hOs := hOx.setFar (p := ⟨w5.heap.size, 0, none⟩) (fun e => hfarB _ e rfl) (.slice B7 k c7)
          have hDs : OwnWords (w7.setCell ⟨w5.heap.size, 0, none⟩ (.slice B7 k c7)) w5.heap.size m7 := ⟨fun i x hx => (hDx.1 i x hx).setFar (p := ⟨w5.heap.size, 0, none⟩) (fun e => hfarD i x hx _ e rfl) (.slice B7 k c7), hDx.2⟩
          go_simp
          refine hK _ _ (hSof _ hvs) ?_
          clear hK K
          try simp only [Act.put, List.setIfInBounds_toArray, List.set_cons_zero, List.set_cons_succ]
          refine walk_tail (by kernel_rfl) ?_
          simp only [List.drop_succ_cons, List.drop_zero]
          generalize w7.setCell ⟨w5.heap.size, 0, none⟩ (.slice B7 k c7) = W9 at *
          replace b2 := b2.step hvs
          replace b5 := b5.step hvs
          replace b7 := b7.step hvs
          replace hO := hO.step hvs
          replace hD := hD.step hvs
          replace hO3 := hO3.step hvs
          replace hB := hB.trans (hvs.mono hB.size)
          have z9 := hvs.size
          clear hS hSof hvs hvx s9 sf9 b9 hOx hDx hfarB hfarD
          obtain ⟨x0, x1, x2, x3, xf⟩ := b7.four
          go_wp2_with fail
          clear x0 x1 x2 x3 xf
          refine (over_ints w1.heap.size A3 q c3 words (-7) W9 (hO3.mono (by omega)) hq1 (by omega)).mono ?_
          rintro e w10 ⟨rfl, hg⟩
          have b5' := b5.over hg (fun q hq e => by have := (lt3 q hq).1; injection e with e; omega)
          have b9x := b9'.over hg (fun q hq e => by have := (lt3 q hq).2; injection e with e; omega)
          have hO' := hO.over hg (fun q hq e => by have := (lt3 q hq).1; have := ltw q e; omega)
          have hD' : OwnWords w10 W.heap.size m := ⟨fun i x hx => (hD.1 i x hx).over hg (fun q hq e => by have := (lt3 q hq).1; have := ltDw.out i x hx q e; omega), hD.2⟩
          have hOs' := hOs.over hg (fun q hq e => by have := (lt3 q hq).2; have := (hOs.lt q e).1; omega)
          have hDs' := hDs.map (fun _ _ _ _ h => h.over hg (fun q hq e => by have := (lt3 q hq).2; have := (h.lt q e).1; omega))
          have hB10 : Below w.heap.size w w10 := hB.grown hg hB.size (fun q hq => by have := (lt3 q hq).1; omega)
          have e9 := b9x.cell' (i := 0) rfl
          have e5 := b5'.cell' (i := 0) rfl
          go_wp2_with fail
          refine (sameRing_yes m7 m M B7 B1 k c7 c1 w10 hm7 hm HK.out (OwnWords.rd hOs' hDs') (OwnWords.rd hO' hD') hfM (by omega)).mono ?_
          rintro e w11 ⟨rfl, hb⟩
          go_wp2_with fail
          go_ret
          exact ⟨rfl, hB10.trans (hb.mono hB10.size)⟩
theorem keysAdds_walk (L : List Ky) (A : Option Addr) (c : Nat) (kx : Ky) (A1 : Option Addr) (c1 : Nat) (w : World) (h : RingArg w A L L.length c) (_ : L.length ≤ c) (_ : L.length ≤ 2932031007317) (ha : Rd w A1 (ivs kx.words)) (_ : kx.words.length ≤ c1) (hk : kx.words.length ≤ 17592186044000 ∧ kx.seen < 9223372036854775808 ∧ (Lit.int .i64 kx.id).wf = true) :
    Calls Try.prog 5 #[.agg #[.slice A L.length c], kyv kx A1 c1] w fun e w' => e = .returned (.bool true) ∧ Below w.heap.size w w' := by
  obtain ⟨l, hl, hn, hr, hf, hnn, hL2⟩ := h
  exact keysAdds_go l L A L.length c kx A1 c1 w hl hn hr hf hnn hL2 ha hk
end Go.Proofs.Ytkbaganbfcbioaa
