import Derived.Test.YtkbaganbfcbioaaRingAsKeysDrops
import Derived.Test.YtkbaganbfcbioaaRingD
import Derived.Test.YtkbaganbfcbioaaRingY
import Derived.Test.YtkbaganbfcbioaaOpenRing
namespace Go.Proofs.Ytkbaganbfcbioaa
set_option linter.unusedSimpArgs false
set_option linter.unusedVariables false
open Go.RowKit

theorem dropR_sub {L : List Ky} {id : Int} : ∀ x ∈ (dropR L id).1, x ∈ L := by
  intro x hx
  unfold dropR at hx
  split at hx
  · split at hx
    · exact hx
    · exact List.mem_of_mem_eraseIdx hx
  · simp at hx
theorem dropR_len (L : List Ky) (id : Int) : (dropR L id).1.length ≤ L.length := by
  unfold dropR
  split
  · split
    · exact Nat.le_refl _
    · exact List.length_eraseIdx_le ..
  · simp
theorem RingRes.open_ {w w' : World} {r : List Ky × Int} {e : Ending} {L : List Ky} {k : Int} (hr : r = (L, k)) (h : RingRes w w' r e) :
    ∃ B c, e = .returned (.tuple #[.agg #[.slice B L.length c], .int .i64 k]) ∧ OwnRing w' w.heap.size B L.length c L ∧ Below w.heap.size w w' := by
  subst hr
  exact h
set_option maxHeartbeats 6400000 in
set_option maxRecDepth 100000 in
theorem drops1_any (l : List KyR) (L M : List Ky) (B : Option Addr) (n d k p : Nat) (id err : Int) (w : World) (hl : l.map KyR.k = L) (hn : L.length = n) (h : RdRing w B l) (hf : RingFits L) (hR : dropR L id = (M, err)) (hk : M.length = k) (hp : w.cell? ⟨p, 0, none⟩ = some (.int .i64 id)) :
    Calls Try.prog 29 #[.agg #[.slice B n d], .pointer (some ⟨p, 0, none⟩)] w fun e w' => AsRes w w' M k [] 0 0 err e := by
  have HD := Lib.hid (fun (w : World) (h : RdRing w B l) => pdrop_any l L B n d id w hl hn h hf)
  have HRd := Lib.hid h
  have HR := Lib.hid hR
  have HK := Lib.hid hk
  have hlt := World.block_lt_of_cell? _ _ hp
  obtain ⟨b0, b1, hB0, hz0⟩ := box2 w #[.slice B n d] #[.slice none 0 0] 44 44
  have hp2 := (hB0.cell (p := ⟨p, 0, none⟩) hlt).trans hp
  clear hl hn h hR hk
  go_enter Try.func29, Try.ntmps29
  go_wp2_with fail
  generalize (w.alloc (.cells #[.slice B n d] 44)).alloc (.cells #[.slice none 0 0] 44) = W at *
  refine (HD.out W (HRd.out.step hB0)).mono ?_
  intro e w1 h1
  obtain ⟨B1, c1, rfl, ⟨m, hm, hO, hD⟩, hb⟩ := h1.open_ HR.out
  clear h1
  rw [HK.out] at hO ⊢
  replace b1 := b1.step hb
  replace hB0 := hB0.trans (hb.mono hB0.size)
  have z1 := hb.size
  have b7 := Blk.new w1 44 #[.slice B1 k c1]
  replace b1 := b1.alloc (.cells #[.slice B1 k c1] 44)
  replace hO := hO.alloc (.cells #[.slice B1 k c1] 44)
  replace hD := hD.map (fun _ _ _ _ h => h.alloc (.cells #[.slice B1 k c1] 44))
  replace hB0 := hB0.alloc hB0.size (.cells #[.slice B1 k c1] 44)
  have e7 := b7.cell' (i := 0) rfl
  have e1 := b1.cell' (i := 0) rfl
  have ef := b1.frozen
  have b2 := blk1_set b1 (.slice B1 k c1)
  have e2 := b2.cell' (i := 0) rfl
  go_wp2_with fail
  refine bodyPost_ret (v := .tuple #[.agg #[.slice B1 k c1], .slice none 0 0, .int .i64 0, .int .i64 err]) (by simp [results, Try.results29, go_sem, e2]) rfl ?_
  refine ⟨B1, c1, none, 0, rfl, ⟨m, hm, ?_, ?_⟩, Own.none_ _ _ _ _, hB0.setCell (p := ⟨w.heap.size + 1, 0, none⟩) (by simp) _⟩
  · exact (hO.setFar (p := ⟨w.heap.size + 1, 0, none⟩) (fun e => by have : W.heap.size ≤ w.heap.size + 1 := (hO.lt _ e).1; omega) _).mono (by omega)
  · exact hD.map (fun _ _ _ _ h => (h.setFar (p := ⟨w.heap.size + 1, 0, none⟩) (fun e => by have : W.heap.size ≤ w.heap.size + 1 := (h.lt _ e).1; omega) _).mono (by omega))

set_option maxHeartbeats 6400000 in
set_option maxRecDepth 100000 in
theorem keysDrops_go (l : List KyR) (L : List Ky) (B : Option Addr) (n d : Nat) (id : Int) (w : World) (hl : l.map KyR.k = L) (hn : L.length = n) (h : RdRing w B l) (hf : RingFits L) (hnn : n ≤ 2932031007317) (hL2 : ∀ x ∈ L, x.words.length ≤ 17592186044000) :
    Calls Try.prog 6 #[.agg #[.slice B n d], .int .i64 id] w fun e w' => e = .returned (.bool true) ∧ Below w.heap.size w w' := by
  obtain ⟨M, err, hR⟩ : ∃ M err, dropR L id = (M, err) := ⟨_, _, rfl⟩
  have hsub : ∀ x ∈ M, x ∈ L := by have := @dropR_sub L id; rw [hR] at this; exact this
  have hlen : M.length ≤ n := by have := dropR_len L id; rw [hR, hn] at this; exact this
  obtain ⟨k, hk⟩ : ∃ k, M.length = k := ⟨_, rfl⟩
  have HRr := Lib.hid hR
  have HK := Lib.hid hk
  have HRd := Lib.hid h
  have HN := Lib.hid hn
  have HL := Lib.hid hl
  have HS := Lib.hid hsub
  rw [hk] at hlen
  obtain ⟨b0, b1, hB0, hz0⟩ := box2 w #[.slice B n d] #[.int .i64 id] 44 3
  have e0 := b0.cell' (i := 0) rfl
  have e1 := b1.cell' (i := 0) rfl
  clear hR hk h hn hl hsub
  go_enter Try.func6, Try.ntmps6
  go_wp2_with fail
  clear e0 e1
  generalize (w.alloc (.cells #[.slice B n d] 44)).alloc (.cells #[.int .i64 id] 3) = W at *
  refine (rdropped_any l L B n d id W HL.out HN.out (HRd.out.step hB0) hf hnn).mono ?_
  intro e w1 h1
  obtain ⟨B1, c1, rfl, ⟨m, hm, hO, hD⟩, hb⟩ := h1.open_ HRr.out
  clear h1
  rw [HK.out] at hO ⊢
  replace b0 := b0.step hb
  replace b1 := b1.step hb
  replace hB0 := hB0.trans (hb.mono hB0.size)
  have z1 := hb.size
  have b5 := Blk.new w1 44 #[.slice B1 k c1]
  replace b0 := b0.alloc (.cells #[.slice B1 k c1] 44)
  replace b1 := b1.alloc (.cells #[.slice B1 k c1] 44)
  replace hO := hO.alloc (.cells #[.slice B1 k c1] 44)
  replace hD := hD.map (fun _ _ _ _ h => h.alloc (.cells #[.slice B1 k c1] 44))
  replace hB0 := hB0.alloc hB0.size (.cells #[.slice B1 k c1] 44)
  have e5 := b5.cell' (i := 0) rfl
  have e0 := b0.cell' (i := 0) rfl
  have hz2 : (w1.alloc (.cells #[.slice B1 k c1] 44)).heap.size = w1.heap.size + 1 := by simp
  go_wp2_with fail
  clear e5 e0
  generalize w1.alloc (.cells #[.slice B1 k c1] 44) = W1 at *
  have hcell := b1.cell' (i := 0) rfl
  refine (ringAs_KeysDrops (.pointer (some ⟨w.heap.size + 1, 0, none⟩)) l m L M B B1 none n d k c1 0 0 [] 0 err W1 HL.out HN.out (HRd.out.below hB0) hf hnn hm HK.out (OwnWords.rd hO hD) (fun x hx => hf x (HS.out x hx)) (by omega) hL2 (fun x hx => hL2 x (HS.out x hx)) (Rd.nil _ _) rfl (by omega) (fun q hq => by simp [blk] at hq) (fun W2 B' d' l' hb' hl' hr' => drops1_any l' L M B' n d' k (w.heap.size + 1) id err W2 hl' HN.out hr' hf HRr.out HK.out ((hb'.cell (p := ⟨w.heap.size + 1, 0, none⟩) (by show w.heap.size + 1 < W1.heap.size; omega)).trans hcell))).mono ?_
  rintro e w3 ⟨rfl, hb3⟩
  go_wp2_with fail
  go_ret
  exact ⟨rfl, hB0.trans (hb3.mono hB0.size)⟩
theorem keysDrops_walk (L : List Ky) (A : Option Addr) (c : Nat) (id : Int) (w : World) (h : RingArg w A L L.length c) (_ : L.length ≤ c) (_ : L.length ≤ 2932031007317) (_ : (Lit.int .i64 id).wf = true) :
    Calls Try.prog 6 #[.agg #[.slice A L.length c], .int .i64 id] w fun e w' => e = .returned (.bool true) ∧ Below w.heap.size w w' := by
  obtain ⟨l, hl, hn, hr, hf, hnn, hL2⟩ := h
  exact keysDrops_go l L A L.length c id w hl hn hr hf hnn hL2
end Go.Proofs.Ytkbaganbfcbioaa
