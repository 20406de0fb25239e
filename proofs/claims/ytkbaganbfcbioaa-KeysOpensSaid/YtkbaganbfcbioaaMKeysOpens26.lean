/-
  
-/
import Derived.Test.YtkbaganbfcbioaaMKeysOpens12
import Derived.Test.YtkbaganbfcbioaaMKeysOpens17
import Derived.Test.YtkbaganbfcbioaaMKeysOpens24
import Derived.Test.YtkbaganbfcbioaaMKeysOpens25
namespace Go.Proofs.Ytkbaganbfcbioaa
set_option linter.unusedSimpArgs false
set_option linter.unusedVariables false
open Go.RowKit

theorem runseal_any (l : List KyR) (L : List Ky) (B : Option Addr) (n d : Nat) (X : Option Addr) (b : List UInt8) (nb xc : Nat) (w : World) (hl : l.map KyR.k = L) (hn : L.length = n) (h : RdRing w B l) (hf : RingFits L) (hX : Rd w X (bvs b)) (hnb : b.length = nb) (hxc : nb ≤ xc)
    (M : List Ky) (k : Nat) (body : List UInt8) (kb : Nat) (id err : Int) (hR : unsealR L b = (M, body, id, err)) (hk : M.length = k) (hkb : body.length = kb) :
    Calls Try.prog 33 #[.agg #[.slice B n d], .slice X nb xc] w fun e w' => AsRes w w' M k body kb id err e := by
  by_cases hok : ringOk L
  · exact runseal_ok l L B n d X b nb xc w hl hn h hf hok hX hnb hxc M k body kb id err hR hk hkb
  · obtain ⟨rfl, rfl, rfl, rfl⟩ : M = [] ∧ body = [] ∧ id = 0 ∧ err = 11 := by
      have : unsealR L b = ([], [], 0, 11) := if_neg hok
      rw [hR] at this
      simpa using this
    obtain rfl : k = 0 := by rw [← hk]; rfl
    obtain rfl : kb = 0 := by rw [← hkb]; rfl
    exact runseal_state l L B n d X nb xc w hl hn h hf hok
theorem unsealR_sub {L : List Ky} {b : List UInt8} : ∀ x ∈ (unsealR L b).1, x ∈ L ∨ ∃ y ∈ L, keyOk y ∧ ∃ C, ¬ oldC y.seen.toNat y.top C ∧ x = nextK y C := by
  intro x hx
  unfold unsealR at hx
  split at hx
  · rename_i hok
    split at hx
    · exact .inl hx
    · split at hx
      · exact .inl hx
      · split at hx
        · exact .inl hx
        · rename_i i hi y hy
          unfold unsK at hx
          split at hx
          · split at hx
            · exact .inl hx
            · rename_i hno
              rcases List.mem_or_eq_of_mem_set hx with h | h
              · exact .inl h
              · exact .inr ⟨y, List.mem_of_getElem? hy, hok.2.1 y (List.mem_of_getElem? hy), _, hno, h⟩
          · exact .inl hx
  · simp at hx
theorem unsealR_len (L : List Ky) (b : List UInt8) : (unsealR L b).1.length ≤ L.length := by
  unfold unsealR
  split
  · split
    · exact Nat.le_refl _
    · split
      · exact Nat.le_refl _
      · split
        · exact Nat.le_refl _
        · unfold unsK
          split
          · split
            · exact Nat.le_refl _
            · simp
          · exact Nat.le_refl _
  · simp
theorem unsealR_body (L : List Ky) (b : List UInt8) : (unsealR L b).2.1.length ≤ b.length := by
  unfold unsealR
  split
  · split
    · simp
    · split
      · simp
      · split
        · simp
        · unfold unsK
          split
          · split
            · simp
            · show (coverL _ _ _).length ≤ _
              rw [coverL_len, List.length_take]
              omega
          · simp
  · simp
theorem nextK_seen {y : Ky} {C : Nat} (h : keyOk y) (hno : ¬ oldC y.seen.toNat y.top C) : (nextK y C).seen < 9223372036854775808 := by
  have hs : nextSeen y.seen.toNat y.top C < 4611686018427387904 := by
    have hsb : y.seen.toNat < 2 ^ 62 := Nat.lt_of_lt_of_le h.2 (Nat.pow_le_pow_right (by decide) (Nat.min_le_left _ _))
    by_cases hneg : y.top - (C : Int) < 0
    · exact nextSeen_lt hneg
    · unfold nextSeen
      split
      · have h62 : ¬ 62 < y.top - (C : Int) := fun h => hno ⟨by omega, .inr (.inl h)⟩
        exact Nat.or_lt_two_pow (n := 62) hsb (Nat.pow_lt_pow_right (by decide) (by omega))
      · split
        · decide
        · exact upSeen_lt _ _
  unfold nextK
  dsimp only
  omega
theorem unsealR_fits {L : List Ky} {b : List UInt8} (hf : RingFits L) (hL2 : ∀ x ∈ L, x.words.length ≤ 17592186044000) : RingFits (unsealR L b).1 ∧ ∀ x ∈ (unsealR L b).1, x.words.length ≤ 17592186044000 := by
  constructor
  · intro x hx
    rcases unsealR_sub x hx with h | ⟨y, hy, hok, C, hno, rfl⟩
    · exact hf x h
    · obtain ⟨⟨h1, h2⟩, h3⟩ := hf y hy
      exact ⟨⟨h1, nextK_seen hok hno⟩, h3⟩
  · intro x hx
    rcases unsealR_sub x hx with h | ⟨y, hy, hok, C, hno, rfl⟩
    · exact hL2 x h
    · exact hL2 y hy
set_option maxHeartbeats 6400000 in
set_option maxRecDepth 100000 in
theorem opens1_any (l : List KyR) (L M : List Ky) (B : Option Addr) (n d k p g nb kb : Nat) (b body : List UInt8) (id err : Int) (w : World) (hl : l.map KyR.k = L) (hn : L.length = n) (h : RdRing w B l) (hf : RingFits L) (hR : unsealR L b = (M, body, id, err)) (hk : M.length = k) (hkb : body.length = kb) (hp : w.cell? ⟨p, 0, none⟩ = some (.slice (some ⟨g, 0, none⟩) nb (nb + 5))) (hX : Rd w (some ⟨g, 0, none⟩) (bvs b)) (hnb : b.length = nb) :
    Calls Try.prog 34 #[.agg #[.slice B n d], .pointer (some ⟨p, 0, none⟩)] w fun e w' => AsRes w w' M k body kb id err e := by
  have HD := Lib.hid (fun (w : World) (h : RdRing w B l) (hX : Rd w (some ⟨g, 0, none⟩) (bvs b)) => popen_any l L B n d (some ⟨g, 0, none⟩) b nb (nb + 5) w hl hn h hf hX hnb (by omega) M k body kb id err hR hk hkb)
  have HRd := Lib.hid h
  have HXr := Lib.hid hX
  have hlt := World.block_lt_of_cell? _ _ hp
  obtain ⟨b0, b1, hB0, hz0⟩ := box2 w #[.slice B n d] #[.slice none 0 0] 44 44
  have hp2 := (hB0.cell (p := ⟨p, 0, none⟩) hlt).trans hp
  clear hl hn h hR hk hkb hX hnb
  go_enter Try.func34, Try.ntmps34
  go_wp2_with fail
  generalize (w.alloc (.cells #[.slice B n d] 44)).alloc (.cells #[.slice none 0 0] 44) = W at *
  refine (HD.out W (HRd.out.step hB0) (HXr.out.step hB0)).mono ?_
  rintro e w1 ⟨B1, c1, X2, c2, rfl, ⟨m, hm, hO, hD⟩, hX2, hb⟩
  replace b1 := b1.step hb
  replace hB0 := hB0.trans (hb.mono hB0.size)
  have z1 := hb.size
  have e1 := b1.cell' (i := 0) rfl
  have ef := b1.frozen
  have b2 := blk1_set b1 (.slice B1 k c1)
  have e2 := b2.cell' (i := 0) rfl
  go_wp2_with fail
  refine bodyPost_ret (v := .tuple #[.agg #[.slice B1 k c1], .slice X2 kb c2, .int .i64 id, .int .i64 err]) (by simp [results, Try.results34, go_sem, e2]) rfl ?_
  refine ⟨B1, c1, X2, c2, rfl, ⟨m, hm, ?_, ?_⟩, ?_, hB0.setCell (p := ⟨w.heap.size + 1, 0, none⟩) (by simp) _⟩
  · exact (hO.setFar (p := ⟨w.heap.size + 1, 0, none⟩) (fun e => by have : W.heap.size ≤ w.heap.size + 1 := (hO.lt _ e).1; omega) _).mono (by omega)
  · exact hD.map (fun _ _ _ _ h => (h.setFar (p := ⟨w.heap.size + 1, 0, none⟩) (fun e => by have : W.heap.size ≤ w.heap.size + 1 := (h.lt _ e).1; omega) _).mono (by omega))
  · exact (hX2.setFar (p := ⟨w.heap.size + 1, 0, none⟩) (fun e => by have : W.heap.size ≤ w.heap.size + 1 := (hX2.lt _ e).1; omega) _).mono (by omega)

set_option maxHeartbeats 6400000 in
set_option maxRecDepth 100000 in
theorem keysOpens_go (l : List KyR) (L : List Ky) (B : Option Addr) (n d : Nat) (X : Option Addr) (b : List UInt8) (nb xc : Nat) (w : World) (hl : l.map KyR.k = L) (hn : L.length = n) (h : RdRing w B l) (hf : RingFits L) (hnn : n ≤ 2932031007317) (hL2 : ∀ x ∈ L, x.words.length ≤ 17592186044000)
    (hX : Rd w X (bvs b)) (hnb : b.length = nb) (hxc : nb ≤ xc) (hnm : nb ≤ 140737488351232) :
    Calls Try.prog 8 #[.agg #[.slice B n d], .slice X nb xc] w fun e w' => e = .returned (.bool true) ∧ Below w.heap.size w w' := by
  obtain ⟨M, body, id, err, hR⟩ : ∃ M body id err, unsealR L b = (M, body, id, err) := ⟨_, _, _, _, rfl⟩
  have hfits := unsealR_fits (b := b) hf hL2
  rw [hR] at hfits
  dsimp only at hfits
  obtain ⟨hfM, hM2⟩ := hfits
  have hlen : M.length ≤ n := by have := unsealR_len L b; rw [hR, hn] at this; exact this
  have hbody : body.length ≤ nb := by have := unsealR_body L b; rw [hR, hnb] at this; exact this
  obtain ⟨k, hk⟩ : ∃ k, M.length = k := ⟨_, rfl⟩
  obtain ⟨kb, hkb⟩ : ∃ kb, body.length = kb := ⟨_, rfl⟩
  rw [hk] at hlen
  rw [hkb] at hbody
  have CU := Lib.hid (fun (w : World) (h : RdRing w B l) (hX : Rd w X (bvs b)) => runseal_any l L B n d X b nb xc w hl hn h hf hX hnb hxc M k body kb id err hR hk hkb)
  have HRr := Lib.hid hR
  have HK := Lib.hid hk
  have HKB := Lib.hid hkb
  have HRd := Lib.hid h
  have HXr := Lib.hid hX
  have HN := Lib.hid hn
  have HNB := Lib.hid hnb
  have HL := Lib.hid hl
  have b0 := Blk.new w 44 #[.slice B n d]
  have hB0 : Below w.heap.size w (w.alloc (.cells #[.slice B n d] 44)) := (Below.refl _ _).alloc (Nat.le_refl _) _
  have hz0 : (w.alloc (.cells #[.slice B n d] 44)).heap.size = w.heap.size + 1 := by simp
  have e0 := b0.cell' (i := 0) rfl
  clear hR hk h hn hl hX hnb hkb
  go_enter Try.func8, Try.ntmps8
  go_wp2_with fail
  clear e0
  generalize w.alloc (.cells #[.slice B n d] 44) = W at *
  refine (CU.out W (HRd.out.step hB0) (HXr.out.step hB0)).mono ?_
  rintro e w1 ⟨B1, c1, X1, cx1, rfl, ⟨m, hm, hO, hD⟩, hX1, hb⟩
  clear CU
  replace b0 := b0.step hb
  replace hB0 := hB0.trans (hb.mono hB0.size)
  have z1 := hb.size
  have b5 := Blk.new w1 44 #[.slice B1 k c1]
  replace b0 := b0.alloc (.cells #[.slice B1 k c1] 44)
  replace hO := hO.alloc (.cells #[.slice B1 k c1] 44)
  replace hX1 := hX1.alloc (.cells #[.slice B1 k c1] 44)
  replace hD := hD.map (fun _ _ _ _ h => h.alloc (.cells #[.slice B1 k c1] 44))
  replace hB0 := hB0.alloc hB0.size (.cells #[.slice B1 k c1] 44)
  have hz2 : (w1.alloc (.cells #[.slice B1 k c1] 44)).heap.size = w1.heap.size + 1 := by simp
  go_wp2_with fail
  generalize w1.alloc (.cells #[.slice B1 k c1] 44) = W1 at *
  have CR := roomy_any X b xc W1 (HXr.out.below hB0) (by rw [HNB.out]; exact hnm)
  rw [HNB.out] at CR
  refine CR.mono ?_
  rintro e w2 ⟨g, rfl, hg, hRo, hb2⟩
  clear CR
  have z2 := hb2.size
  replace b0 := b0.step hb2
  replace b5 := b5.step hb2
  replace hO := hO.step hb2
  replace hD := hD.step hb2
  replace hX1 := hX1.step hb2
  replace hB0 := hB0.trans (hb2.mono hB0.size)
  have b9 := Blk.new w2 22 #[.slice (some ⟨g, 0, none⟩) nb (nb + 5)]
  replace b0 := b0.alloc (.cells #[.slice (some ⟨g, 0, none⟩) nb (nb + 5)] 22)
  replace b5 := b5.alloc (.cells #[.slice (some ⟨g, 0, none⟩) nb (nb + 5)] 22)
  replace hO := hO.alloc (.cells #[.slice (some ⟨g, 0, none⟩) nb (nb + 5)] 22)
  replace hX1 := hX1.alloc (.cells #[.slice (some ⟨g, 0, none⟩) nb (nb + 5)] 22)
  replace hD := hD.map (fun _ _ _ _ h => h.alloc (.cells #[.slice (some ⟨g, 0, none⟩) nb (nb + 5)] 22))
  replace hB0 := hB0.alloc hB0.size (.cells #[.slice (some ⟨g, 0, none⟩) nb (nb + 5)] 22)
  replace hRo := hRo.step ((Below.refl w2.heap.size w2).alloc (Nat.le_refl _) (.cells #[.slice (some ⟨g, 0, none⟩) nb (nb + 5)] 22))
  have hz3 : (w2.alloc (.cells #[.slice (some ⟨g, 0, none⟩) nb (nb + 5)] 22)).heap.size = w2.heap.size + 1 := by simp
  obtain ⟨q, hq⟩ : ∃ q, q = w2.heap.size := ⟨_, rfl⟩
  have k9 := b9.cell' (i := 0) rfl
  have k0 := b0.cell' (i := 0) rfl
  have k5 := b5.cell' (i := 0) rfl
  go_wp2_with fail
  rw [← hq] at b9 hz3 ⊢
  have HQ := Lib.hid hq
  clear k9 k0 k5 hq
  generalize w2.alloc (.cells #[.slice (some ⟨g, 0, none⟩) nb (nb + 5)] 22) = W2 at *
  have hcell := b9.cell' (i := 0) rfl
  have hX1lt : ∀ q, blk X1 = some q → q < W2.heap.size := fun q hq => (hX1.lt q hq).2
  refine (ringAs_KeysOpens (.pointer (some ⟨q, 0, none⟩)) l m L M B B1 X1 n d k c1 kb cx1 body id err W2 HL.out HN.out (HRd.out.below hB0) hf hnn hm HK.out (OwnWords.rd hO hD) hfM (by omega) hL2 hM2 hX1.rd HKB.out (by omega) hX1lt
    (fun W3 B' d' l' hb' hl' hr' => opens1_any l' L M B' n d' k q g nb kb b body id err W3 hl' HN.out hr' hf HRr.out HK.out HKB.out ((hb'.cell (p := ⟨q, 0, none⟩) (by show q < W2.heap.size; omega)).trans hcell) (hRo.rd.below hb') HNB.out)).mono ?_
  rintro e w3 ⟨rfl, hb3⟩
  replace b9 := b9.step hb3
  replace hRo := hRo.step hb3
  replace hB0 := hB0.trans (hb3.mono hB0.size)
  have k9 := b9.cell' (i := 0) rfl
  have CL := left_yes g X b xc w3 hRo (HXr.out.below hB0) (by rw [HNB.out]; exact hnm)
  rw [HNB.out] at CL
  have CLh := Lib.hid CL
  clear CL
  go_wp2_with fail
  refine CLh.out.mono ?_
  rintro e w' ⟨rfl, nq, rfl⟩
  go_wp2_with fail
  go_ret
  exact ⟨rfl, below_drewN hB0 nq⟩
theorem keysOpens_walk (L : List Ky) (A : Option Addr) (c : Nat) (X : Option Addr) (b : List UInt8) (xc : Nat) (w : World) (h : RingArg w A L L.length c) (_ : L.length ≤ c) (_ : L.length ≤ 2932031007317) (hX : Rd w X (bvs b)) (hxc : b.length ≤ xc) (hnm : b.length ≤ 140737488351232) :
    Calls Try.prog 8 #[.agg #[.slice A L.length c], .slice X b.length xc] w fun e w' => e = .returned (.bool true) ∧ Below w.heap.size w w' := by
  obtain ⟨l, hl, hn, hr, hf, hnn, hL2⟩ := h
  exact keysOpens_go l L A L.length c X b b.length xc w hl hn hr hf hnn hL2 hX rfl hxc hnm
end Go.Proofs.Ytkbaganbfcbioaa
