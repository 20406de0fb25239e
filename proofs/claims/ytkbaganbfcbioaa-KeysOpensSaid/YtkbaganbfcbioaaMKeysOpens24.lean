/-
  keys.Open. An argument that is a list of ints. An argument that is a key.
-/
import Derived.Test.YtkbaganbfcbioaaMKeysOpens17
import Derived.Test.YtkbaganbfcbioaaMKeysOpens19
import Derived.Test.YtkbaganbfcbioaaMKeysOpens22
import Derived.Test.YtkbaganbfcbioaaMKeysOpens23
import Derived.Test.YtkbaganbfcbioaaMKeysOpens16
import Derived.StillTail
import Derived.StillTactics
import Derived.StillTailTactics
import Derived.Test.YtkbaganbfcbioaaMKeysOpens1
import Derived.Test.YtkbaganbfcbioaaMKeysOpens5
namespace Go.Proofs.Ytkbaganbfcbioaa
set_option linter.unusedSimpArgs false
set_option linter.unusedVariables false
open Go.RowKit

set_option maxHeartbeats 6400000 in
set_option maxRecDepth 100000 in
theorem popen_any (l : List KyR) (L : List Ky) (B : Option Addr) (n d : Nat) (X : Option Addr) (b : List UInt8) (nb xc : Nat) (w : World) (hl : l.map KyR.k = L) (hn : L.length = n) (h : RdRing w B l) (hf : RingFits L) (hX : Rd w X (bvs b)) (hnb : b.length = nb) (hxc : nb ≤ xc)
    (M : List Ky) (k : Nat) (body : List UInt8) (kb : Nat) (id err : Int) (hR : unsealR L b = (M, body, id, err)) (hk : M.length = k) (hkb : body.length = kb) :
    Calls Try.prog 35 #[.agg #[.slice B n d], .slice X nb xc] w fun e w' => AsRes w w' M k body kb id err e := by
  have HW := Lib.hid (fun (w : World) (h : RdRing w B l) => own_any l L B n d w hl hn h hf)
  have HRd := Lib.hid h
  have HXr := Lib.hid hX
  have HN := Lib.hid hn
  have HNB := Lib.hid hnb
  have HK := Lib.hid hk
  have HKB := Lib.hid hkb
  obtain ⟨b0, b1, hB0, hz0⟩ := box2 w #[.slice B n d] #[.slice none 0 0] 44 44
  clear hl hn h hX hk hkb
  by_cases hok : ringOk L
  · have hR2 : unsealR L b = (if b.length < 15 ∨ 1015 < b.length then (L, [], 0, 1) else match kfind L ((b.getD 0 0).toNat : Int) with | none => (L, [], 0, 14) | some i => (match L[i]? with | none => (L, [], 0, 14) | some k => unsK L b i k) : List Ky × List UInt8 × Int × Int) := if_pos hok
    rw [hR] at hR2
    have HO : Hid (ownR L = (L, true)) := Lib.hid (if_pos hok)
    have hn8 : n ≤ 8 := by rw [← HN.out]; exact hok.1
    have HKO := Lib.hid hok.2.1
    clear hR hok hnb
    go_enter Try.func35, Try.ntmps35
    go_wp2_with fail
    generalize (w.alloc (.cells #[.slice B n d] 44)).alloc (.cells #[.slice none 0 0] 44) = W at *
    refine (HW.out W (HRd.out.step hB0)).mono ?_
    intro e w1 h1
    obtain ⟨B1, c1, m, rfl, hm, hO, hD, hb⟩ := h1.open_ HO.out
    clear h1
    rw [HN.out] at hO ⊢
    replace b0 := b0.step hb
    replace b1 := b1.step hb
    have z1 := hb.size
    replace hB0 := hB0.trans (hb.mono hB0.size)
    have k0 := b0.cell' (i := 0) rfl
    have f0 := b0.frozen
    have b0' := blk1_set b0 (.slice B1 n c1)
    have b1' := b1.far (p := ⟨w.heap.size, 0, none⟩) (by simp) (.slice B1 n c1)
    have hne : ∀ q, blk B1 = some q → w.heap.size + 2 ≤ q := fun q hq => by have := (hO.lt q hq).1; omega
    have hO' := hO.setFar (p := ⟨w.heap.size, 0, none⟩) (fun e => by have : w.heap.size + 2 ≤ w.heap.size := hne _ e; omega) (.slice B1 n c1)
    have hD' := hD.map (fun _ _ _ _ h => h.setFar (p := ⟨w.heap.size, 0, none⟩) (fun e => by have : W.heap.size ≤ w.heap.size := (h.lt _ e).1; omega) (.slice B1 n c1))
    have hB' := hB0.setCell (p := ⟨w.heap.size, 0, none⟩) (Nat.le_refl _) (.slice B1 n c1)
    have z1' : (w1.setCell ⟨w.heap.size, 0, none⟩ (.slice B1 n c1)).heap.size = w1.heap.size := by simp
    have k0' := b0'.cell' (i := 0) rfl
    clear hO hD hB0 b1 HW HO hb
    by_cases h15 : nb < 15 ∨ 1015 < nb
    · rw [if_pos (by rw [HNB.out]; exact h15)] at hR2
      obtain ⟨rfl, rfl, rfl, rfl⟩ : M = L ∧ body = [] ∧ id = 0 ∧ err = 1 := by simpa using hR2
      obtain rfl : kb = 0 := by rw [← HKB.out]; rfl
      obtain rfl : k = n := by rw [← HK.out, HN.out]
      clear hR2 b0
      have b1 := b1'
      have hO := hO'
      have hD := hD'
      have hB := hB'
      clear b1' hO' hD' hB'
      rcases h15 with h15 | h15
      · have h15i : (nb : Int) < 15 := by omega
        have e1 := b1.cell' (i := 0) rfl
        have ef := b1.frozen
        have b2 := blk1_set b1 (.slice B1 k c1)
        have e2 := b2.cell' (i := 0) rfl
        go_wp2_with fail
        refine bodyPost_ret (v := .tuple #[.agg #[.slice B1 k c1], .slice none 0 0, .int .i64 0, .int .i64 1]) (by simp [results, Try.results35, go_sem, e2]) rfl ?_
        exact AsRes.same hm (hO.setFar (p := ⟨w.heap.size + 1, 0, none⟩) (fun e => by have : W.heap.size ≤ w.heap.size + 1 := (hO.lt _ e).1; omega) _) (hD.map (fun _ _ _ _ h => h.setFar (p := ⟨w.heap.size + 1, 0, none⟩) (fun e => by have : W.heap.size ≤ w.heap.size + 1 := (h.lt _ e).1; omega) _)) (by omega) (hB.setCell (p := ⟨w.heap.size + 1, 0, none⟩) (by simp) _)
      · have h15i : (1015 : Int) < (nb : Int) := by omega
        have e1 := b1.cell' (i := 0) rfl
        have ef := b1.frozen
        have b2 := blk1_set b1 (.slice B1 k c1)
        have e2 := b2.cell' (i := 0) rfl
        go_wp2_with fail
        refine bodyPost_ret (v := .tuple #[.agg #[.slice B1 k c1], .slice none 0 0, .int .i64 0, .int .i64 1]) (by simp [results, Try.results35, go_sem, e2]) rfl ?_
        exact AsRes.same hm (hO.setFar (p := ⟨w.heap.size + 1, 0, none⟩) (fun e => by have : W.heap.size ≤ w.heap.size + 1 := (hO.lt _ e).1; omega) _) (hD.map (fun _ _ _ _ h => h.setFar (p := ⟨w.heap.size + 1, 0, none⟩) (fun e => by have : W.heap.size ≤ w.heap.size + 1 := (h.lt _ e).1; omega) _)) (by omega) (hB.setCell (p := ⟨w.heap.size + 1, 0, none⟩) (by simp) _)
    · rw [if_neg (by rw [HNB.out]; exact h15)] at hR2
      have HR := Lib.hid hR2
      simp only [not_or] at h15
      have h15a : ¬ (nb : Int) < 15 := by omega
      have h15b : ¬ (1015 : Int) < (nb : Int) := by omega
      clear hR2
      obtain ⟨bX, oX, rfl, hcx⟩ := (HXr.out.below hB').byteD (k := 0) (by rw [HNB.out]; omega)
      rw [Nat.add_zero] at hcx
      have hbX := World.block_lt_of_cell? _ _ hcx
      obtain ⟨x, HX⟩ : ∃ x, Hid (b.getD 0 0 = x) := ⟨_, Lib.hid rfl⟩
      rw [HX.out] at hcx
      have hnb0 : 0 < nb := by omega
      have hwx : wrap64 (x.toNat : Int) = (x.toNat : Int) := IntWalk.wrap64_in _ (by have := byte_lt x; omega)
      have hwx' : IntKind.i64.wrap (x.toNat : Int) = (x.toNat : Int) := IntWalk.i64_in _ (by have := byte_lt x; omega)
      go_wp2_with fail
      generalize w1.setCell ⟨w.heap.size, 0, none⟩ (.slice B1 n c1) = W1 at *
      clear k0 f0 b0
      go_still_tail 5, (by kernel_rfl)
      go_wp2_with fail
      refine (find_any m L B1 n c1 (x.toNat : Int) _ hm HN.out (OwnWords.rd hO'.drew (hD'.map (fun _ _ _ _ h => h.drew))) hn8).mono ?_
      rintro e w2 ⟨rfl, hb2⟩
      replace hb2 : Below W1.heap.size W1 w2 := ((Below.refl W1.heap.size W1).drew).trans hb2
      replace b0 := b0'.step hb2
      replace b1 := b1'.step hb2
      have hO := hO'.step hb2
      have hD := hD'.step hb2
      have hB := hB'.trans (hb2.mono hB'.size)
      have z2 := hb2.size
      clear b0' b1' hO' hD' hB' hb2 k0' hcx hwx hwx' hnb0
      rw [HX.out] at HR
      have k0 := b0.cell' (i := 0) rfl
      rcases hk : kfind L (x.toNat : Int) with _ | i
      · have hki : kidx L (x.toNat : Int) = -1 := by unfold kidx; rw [hk]
        have hU := HR.out
        rw [hk] at hU
        obtain ⟨rfl, rfl, rfl, rfl⟩ : M = L ∧ body = [] ∧ id = 0 ∧ err = 14 := by simpa using hU
        obtain rfl : kb = 0 := by rw [← HKB.out]; rfl
        obtain rfl : k = n := by rw [← HK.out, HN.out]
        clear hU HR hk
        rw [hki]
        clear hki
        have e1 := b1.cell' (i := 0) rfl
        have ef := b1.frozen
        have b2 := blk1_set b1 (.slice B1 k c1)
        have e2 := b2.cell' (i := 0) rfl
        go_wp2_with fail
        refine bodyPost_ret (v := .tuple #[.agg #[.slice B1 k c1], .slice none 0 0, .int .i64 0, .int .i64 14]) (by simp [results, Try.results35, go_sem, e2]) rfl ?_
        exact AsRes.same hm (hO.setFar (p := ⟨w.heap.size + 1, 0, none⟩) (fun e => by have : W.heap.size ≤ w.heap.size + 1 := (hO.lt _ e).1; omega) _) (hD.map (fun _ _ _ _ h => h.setFar (p := ⟨w.heap.size + 1, 0, none⟩) (fun e => by have : W.heap.size ≤ w.heap.size + 1 := (h.lt _ e).1; omega) _)) (by omega) (hB.setCell (p := ⟨w.heap.size + 1, 0, none⟩) (by simp) _)
      · have hki : kidx L (x.toNat : Int) = (i : Int) := by unfold kidx; rw [hk]
        have hiL : i < L.length := by
          unfold kfind at hk
          exact (List.findIdx?_eq_some_iff_getElem.1 hk).1
        have h5 : i < n := by rw [← HN.out]; exact hiL
        have hU := HR.out
        rw [hk] at hU
        dsimp only at hU
        obtain ⟨xA, xd, hx⟩ := ky_at hm hiL
        have hLi := List.getElem?_eq_getElem hiL
        rw [hLi] at hU
        dsimp only at hU
        have hko := HKO.out _ (List.getElem_mem hiL)
        generalize L[i] = kx at *
        rw [hki]
        clear hki hk HR hLi
        have HU := Lib.hid hU
        obtain ⟨id2, words, top, seen⟩ := kx
        have hxy : m[i]? = some ⟨⟨id2, words, top, seen⟩, xA, xd⟩ := hx
        clear hU hx
        obtain ⟨g, o, rfl, x0, x1, x2, x3⟩ := (OwnWords.rd hO hD).cells hxy
        dsimp only at x0 x1 x2 x3
        have hgk := hO.lt g rfl
        have hl8 : words.length = 8 := (padErr_zero hko.1.1.2).1
        rw [hl8] at x1
        have HKo := Lib.hid hko
        obtain ⟨q8, rfl⟩ : ∃ q8, nb = q8 + 8 := ⟨nb - 8, by omega⟩
        have hq8 : 7 ≤ q8 := by omega
        have hq8b : q8 ≤ 1007 := by omega
        have hXv := HXr.out.below hB
        have hx1 : ¬ xc = 1 := by omega
        have hip : (0 : Int) ≤ (i : Int) := by omega
        have h7 : (7 : Int) ≤ (xc : Int) := by omega
        have h7n : 7 ≤ xc := by omega
        clear hko
        go_upto_region 12 with fail
        have hrd6 : Rd w2 (some ⟨bX, oX + 1, none⟩) (bvs ((b.drop 1).take 6)) := by have := (hXv.drop_lit 1).take 6; simpa [bvs, List.map_drop, List.map_take] using this
        refine (knumber_any (some ⟨bX, oX + 1, none⟩) ((b.drop 1).take 6) 6 (xc - 1) w2 (by rw [List.length_take, List.length_drop, HNB.out]; omega) (by omega) hrd6).mono ?_
        rintro e w' ⟨rfl, rfl⟩
        obtain ⟨cN, hCn⟩ : ∃ cN, cN = numC b := ⟨_, rfl⟩
        have hcc : numB ((b.drop 1).take 6) = cN := hCn.symm
        rw [hcc]
        have hC2 : cN ≤ 281474976710655 := by rw [hCn]; exact numC_lt (by rw [HNB.out]; omega)
        have HCn := Lib.hid hCn
        clear hCn hcc hrd6
        go_upto_region 12 with fail
        obtain ⟨_, hl9, _, _, _, _⟩ := padErr_zero HKo.out.1.1.2
        obtain ⟨te1, te2⟩ := toNats hl9
        have hW8 : (words.map Int.toNat).length = 8 := by simpa using hl8
        have hFq : ∀ I, I ≤ 1000 → Sq (firstL (words.map Int.toNat) cN I) := fun I hI => first_sq hW8 te2 hC2 hI
        have HT := Lib.hid (fun (w : World) (ha : Rd w xA (ivs words)) (B o : Nat) (l : List UInt8) (n c' : Nat) (hl : l.length = n) (hc : n ≤ c') (hn : n ≤ 1048576) (hb : Rd w (some ⟨B, o, none⟩) (bvs l)) (hB : B < w.heap.size) => ktag_good xA (words.map Int.toNat) xd cN B o n c' l w hW8 te2 (by rw [te1]; exact ha) hC2 (hFq 0 (by omega)) hl hb hc hn hB)
        have HV := Lib.hid (fun (w : World) (ha : Rd w xA (ivs words)) (B o : Nat) (l : List UInt8) (n c' : Nat) (hl : l.length = n) (hc : n ≤ c') (hn : n ≤ 60000) (hb : Rd w (some ⟨B, o, none⟩) (bvs l)) (hB : B < w.heap.size) => cover_good xA (words.map Int.toNat) xd cN B o n c' l w hW8 te2 (by rw [te1]; exact ha) hC2 hFq hl hb hc hn hB)
        have htg := tagL_len (words.map Int.toNat) cN (b.take q8)
        have hxw : Rd w2 xA (ivs words) := (hD.1 i _ hxy).rd
        have hbt : Rd w2 (some ⟨bX, oX, none⟩) (bvs (b.take q8)) := by have := hXv.take q8; simpa [bvs, List.map_take] using this
        have hbtl : (b.take q8).length = q8 := by rw [List.length_take, HNB.out]; omega
        have hs1 : (q8 : Int) ≤ (q8 : Int) + 8 := by omega
        have hs3 : (q8 : Int) ≤ (xc : Int) := by omega
        have hs4 : (q8 : Int) + 8 ≤ (xc : Int) := by omega
        have hs5 : (0 : Int) ≤ (q8 : Int) := by omega
        have hxq : ¬ xc = q8 := by omega
        have hbX2 : bX < w2.heap.size := by omega
        have hqc : q8 ≤ xc := by omega
        have hqm : q8 ≤ 1048576 := by omega
        clear hl9 hFq
        obtain ⟨hwr8, hwr8'⟩ : IntKind.i64.wrap (q8 : Int) = (q8 : Int) ∧ wrap64 (q8 : Int) = (q8 : Int) := ⟨IntWalk.i64_in _ (by omega), IntWalk.wrap64_in _ (by omega)⟩
        refine heldRegion (fun v => v.cell? ⟨g, o + i * 4 + 1, none⟩ = some (.slice xA 8 xd)) 14 (by kernel_rfl) (by kernel_rfl) x1 (fun hS => ?_)
        refine walk_take 0 (v := ?v10) rfl (by kernel_rfl) (by kernel_rfl) (by kernel_rfl) (fun _ _ _ h => h) (hS) (Or.inl ⟨by rfl, ?y10⟩) ?r10
        case y10 => intro w hSw; (try dsimp only at hSw); go_simp; try rfl
        case' r10 => try simp only [Act.put, List.setIfInBounds_toArray, List.set_cons_zero, List.set_cons_succ]
        refine walk_take 1 (v := ?v11) rfl (by kernel_rfl) (by kernel_rfl) (by kernel_rfl) (fun _ _ _ h => h) (hS) (Or.inl ⟨by rfl, ?y11⟩) ?r11
        case y11 => intro w hSw; (try dsimp only at hSw); go_simp; try rfl
        case' r11 => try simp only [Act.put, List.setIfInBounds_toArray, List.set_cons_zero, List.set_cons_succ]
        refine walk_take 2 (v := ?v12) rfl (by kernel_rfl) (by kernel_rfl) (by kernel_rfl) (fun _ _ _ h => h) (hS) (Or.inl ⟨by rfl, ?y12⟩) ?r12
        case y12 => intro w hSw; (try dsimp only at hSw); go_simp; try rfl
        case' r12 => try simp only [Act.put, List.setIfInBounds_toArray, List.set_cons_zero, List.set_cons_succ]
        refine walk_take 3 (v := ?v13) rfl (by kernel_rfl) (by kernel_rfl) (by kernel_rfl) (fun _ _ _ h => h) (hS) (Or.inl ⟨by rfl, ?y13⟩) ?r13
        case y13 => intro w hSw; (try dsimp only at hSw); go_simp; try rfl
        case' r13 => try simp only [Act.put, List.setIfInBounds_toArray, List.set_cons_zero, List.set_cons_succ]
        refine walk_take 4 (v := ?v14) rfl (by kernel_rfl) (by kernel_rfl) (by kernel_rfl) (fun _ _ _ h => h) (hS) (Or.inl ⟨by rfl, ?y14⟩) ?r14
        case y14 => intro w hSw; (try dsimp only at hSw); go_simp; try rfl
        case' r14 => try simp only [Act.put, List.setIfInBounds_toArray, List.set_cons_zero, List.set_cons_succ]
        refine walk_take 5 (v := ?v15) rfl (by kernel_rfl) (by kernel_rfl) (by kernel_rfl) (fun _ _ _ h => h) (hS) (Or.inl ⟨by rfl, ?y15⟩) ?r15
        case y15 => intro w hSw; (try dsimp only at hSw); go_simp; try rfl
        case' r15 => try simp only [Act.put, List.setIfInBounds_toArray, List.set_cons_zero, List.set_cons_succ]
        refine walk_take 6 (v := ?v16) rfl (by kernel_rfl) (by kernel_rfl) (by kernel_rfl) (fun _ _ _ h => h) (hS) (Or.inl ⟨by rfl, ?y16⟩) ?r16
        case y16 => intro w hSw; (try dsimp only at hSw); go_simp; try rfl
        case' r16 => try simp only [Act.put, List.setIfInBounds_toArray, List.set_cons_zero, List.set_cons_succ]
        refine walk_take 7 (v := ?v17) rfl (by kernel_rfl) (by kernel_rfl) (by kernel_rfl) (fun _ _ _ h => h) (hS) (Or.inl ⟨by rfl, ?y17⟩) ?r17
        case y17 => intro w hSw; (try dsimp only at hSw); go_simp; try rfl
        case' r17 => try simp only [Act.put, List.setIfInBounds_toArray, List.set_cons_zero, List.set_cons_succ]
        refine walk_take 8 (v := ?v18) rfl (by kernel_rfl) (by kernel_rfl) (by kernel_rfl) (fun _ _ _ h => h) (hS) (Or.inl ⟨by rfl, ?y18⟩) ?r18
        case y18 => intro w hSw; (try dsimp only at hSw); go_simp; try rfl
        case' r18 => try simp only [Act.put, List.setIfInBounds_toArray, List.set_cons_zero, List.set_cons_succ]
        refine walk_take 10 (v := ?v110) rfl (by kernel_rfl) (by kernel_rfl) (by kernel_rfl) (fun _ _ _ h => h) (hS) (Or.inl ⟨by rfl, ?y110⟩) ?r110
        case y110 => intro w hSw; (try dsimp only at hSw); go_simp; try rfl
        case' r110 => try simp only [Act.put, List.setIfInBounds_toArray, List.set_cons_zero, List.set_cons_succ]
        refine walk_take 11 (v := ?v111) rfl (by kernel_rfl) (by kernel_rfl) (by kernel_rfl) (fun _ _ _ h => h) (hS) (Or.inl ⟨by rfl, ?y111⟩) ?r111
        case y111 => intro w hSw; (try dsimp only at hSw); go_simp; try rfl
        case' r111 => try simp only [Act.put, List.setIfInBounds_toArray, List.set_cons_zero, List.set_cons_succ]
        refine walk_take 12 (v := ?v112) rfl (by kernel_rfl) (by kernel_rfl) (by kernel_rfl) (fun _ _ _ h => h) (hS) (Or.inl ⟨by rfl, ?y112⟩) ?r112
        case y112 => intro w hSw; (try dsimp only at hSw); go_simp; try rfl
        case' r112 => try simp only [Act.put, List.setIfInBounds_toArray, List.set_cons_zero, List.set_cons_succ]
        refine walk_take 13 (v := ?v113) rfl (by kernel_rfl) (by kernel_rfl) (by kernel_rfl) (fun _ _ _ h => h) (hS) (Or.inl ⟨by rfl, ?y113⟩) ?r113
        case y113 => intro w hSw; (try dsimp only at hSw); go_simp; try rfl
        case' r113 => try simp only [Act.put, List.setIfInBounds_toArray, List.set_cons_zero, List.set_cons_succ]
        refine walk_step 9 rfl (by kernel_rfl) (by kernel_rfl) (fun K hK => ?tag)
        case tag =>
          go_simp
          refine (HT.out w2.drew hxw.drew bX oX (b.take q8) q8 xc hbtl hqc hqm hbt.drew hbX2).mono ?_
          rintro e w5 ⟨TA, tc, rfl, hTO, hb5⟩
          rw [htg] at hTO ⊢
          have hb5' : Below w2.heap.size w2 w5 := ((Below.refl w2.heap.size w2).drew).trans hb5
          have hO5 := hO.step hb5'
          have hxy2 : (kvs m)[i * 4 + 1]? = some (.slice xA 8 xd) := by
            have := (kvs_get hxy (j := 1) (by omega)).trans rfl
            rw [this]
            show some (Value.slice xA words.length xd) = _
            rw [hl8]
          refine hK _ _ (hO5.cell (i := i * 4 + 1) hxy2) ?_
          clear hK K hwr8 hwr8' hs5 hs1 hxq hbtl hqc hqm hbt hxw
          try simp only [Act.put, List.setIfInBounds_toArray, List.set_cons_zero, List.set_cons_succ]
          refine walk_tail (by kernel_rfl) ?_
          simp only [List.drop_succ_cons, List.drop_zero]
          replace b0 := b0.step hb5'
          replace b1 := b1.step hb5'
          have hD5 := hD.step hb5'
          replace hB := hB.trans (hb5'.mono hB.size)
          have z5 := hb5'.size
          clear hO hD x0 x1 x2 x3 hb5 hb5' hXv k0
          have hX5 := HXr.out.below hB
          have hbd : Rd w5 (some ⟨bX, oX + q8, none⟩) (bvs (b.drop q8)) := by have := hX5.drop_lit q8; simpa [bvs, List.map_drop] using this
          have hbdl : (b.drop q8).length = 8 := by rw [List.length_drop, HNB.out]; omega
          have hrt := hTO.rd
          obtain ⟨TL, hTL⟩ : ∃ TL, TL = tagL (words.map Int.toNat) cN (b.take q8) := ⟨_, rfl⟩
          have HTL := Lib.hid hTL
          have hU := HU.out
          unfold unsK at hU
          dsimp only at hU
          rw [HNB.out, show q8 + 8 - 8 = q8 by omega, show q8 + 8 - 15 = q8 - 7 by omega, ← HCn.out, ← hTL] at hU
          rw [← hTL] at htg hrt
          clear hTL HU hTO
          have HU := Lib.hid hU
          clear hU
          by_cases hTB : TL = b.drop q8
          · rw [if_pos hTB] at HU
            have HE := Lib.hid (equalB TA (some ⟨bX, oX + q8, none⟩) TL (b.drop q8) 8 tc (xc - q8) w5 htg hbdl hrt hbd (by decide))
            rw [decide_eq_true hTB] at HE
            clear hTB hrt hbd
            go_wp2_with fail
            refine HE.out.mono ?_
            rintro e w' ⟨rfl, nq, rfl⟩
            replace b0 := b0.drewN nq
            replace b1 := b1.drewN nq
            have hO := hO5.drewN nq
            have hD := hD5.map (fun _ _ _ _ h => h.drewN nq)
            replace hB := below_drewN hB nq
            have z6 : (w5.drewN nq).heap.size = w5.heap.size := rfl
            clear HE hO5 hD5 hX5
            generalize w5.drewN nq = W6 at *
            have hMk := HKo.out.1.2
            dsimp only at hMk
            have hsb : seen.toNat < 4611686018427387904 := Nat.lt_of_lt_of_le HKo.out.2 (Nat.le_trans (Nat.pow_le_pow_right (by decide) (Nat.min_le_left _ _)) (by decide))
            by_cases hold : oldC seen.toNat top cN
            · rw [if_pos hold] at HU
              obtain ⟨rfl, rfl, rfl, rfl⟩ : M = L ∧ body = [] ∧ id = 0 ∧ err = 13 := by simpa using HU.out
              obtain rfl : kb = 0 := by rw [← HKB.out]; rfl
              obtain rfl : k = n := by rw [← HK.out, HN.out]
              have hkp := kp_of hO hxy h5
              dsimp only at hkp
              obtain ⟨⟨hm1, hm2⟩, hm3⟩ := hMk
              obtain ⟨tn, rfl⟩ : ∃ tn : Nat, top = (tn : Int) := ⟨top.toNat, by have := hold.1; omega⟩
              obtain ⟨sn, rfl⟩ : ∃ sn : Nat, seen = (sn : Int) := ⟨seen.toNat, by omega⟩
              have HE := Lib.hid (once_old g (o + i * 4) cN sn tn W6 hkp (by simpa using hold) hC2 (by omega) (by simpa using hsb))
              clear HU hkp hold hm1 hm2 hm3
              go_wp2_with fail
              refine HE.out.mono ?_
              rintro e w' ⟨rfl, hww⟩
              obtain rfl : W6 = w' := hww.symm
              have k0 := b0.cell' (i := 0) rfl
              clear HE
              have e1 := b1.cell' (i := 0) rfl
              have ef := b1.frozen
              have b2 := blk1_set b1 (.slice (some ⟨g, o, none⟩) k c1)
              have e2 := b2.cell' (i := 0) rfl
              go_wp2_with fail
              refine bodyPost_ret (v := .tuple #[.agg #[.slice (some ⟨g, o, none⟩) k c1], .slice none 0 0, .int .i64 0, .int .i64 13]) (by simp [results, Try.results35, go_sem, e2]) rfl ?_
              exact AsRes.same hm (hO.setFar (p := ⟨w.heap.size + 1, 0, none⟩) (fun e => by have : W.heap.size ≤ w.heap.size + 1 := (hO.lt _ e).1; omega) _) (hD.map (fun _ _ _ _ h => h.setFar (p := ⟨w.heap.size + 1, 0, none⟩) (fun e => by have : W.heap.size ≤ w.heap.size + 1 := (h.lt _ e).1; omega) _)) (by omega) (hB.setCell (p := ⟨w.heap.size + 1, 0, none⟩) (by simp) _)
            · rw [if_neg hold] at HU
              have HE := Lib.hid (once_good W.heap.size g o n c1 i cN m _ W6 hO hD hxy h5 HKo.out hC2 hold)
              obtain ⟨rfl, rfl, hid2, rfl⟩ : M = L.set i (nextK ⟨id2, words, top, seen⟩ cN) ∧ body = coverL (words.map Int.toNat) cN ((b.drop 7).take (q8 - 7)) ∧ id = id2 ∧ err = 0 := by simpa using HU.out
              obtain rfl : k = n := by rw [← HK.out, List.length_set, HN.out]
              clear HU hold hMk
              go_wp2_with fail
              refine HE.out.mono ?_
              rintro e w7 ⟨rfl, hg7, hO7, hD7, z7⟩
              clear HE
              have hwg : w.heap.size + 2 ≤ g := by omega
              replace b0 := b0.over hg7 (fun q hq e => by injection hq with hq; injection e with e; omega)
              replace b1 := b1.over hg7 (fun q hq e => by injection hq with hq; injection e with e; omega)
              replace hB := hB.grown hg7 hB.size (fun q hq => by injection hq with hq; omega)
              clear hO hD hg7
              have him : i < m.length := (List.getElem?_eq_some_iff.1 hxy).1
              have hm7 : (m.set i (keyTurn ⟨⟨id2, words, top, seen⟩, xA, xd⟩ (nextTop top cN) ((nextSeen seen.toNat top cN : Nat) : Int))).map KyR.k = L.set i (nextK ⟨id2, words, top, seen⟩ cN) := by rw [List.map_set, hm]; rfl
              have hx7 : (m.set i (keyTurn ⟨⟨id2, words, top, seen⟩, xA, xd⟩ (nextTop top cN) ((nextSeen seen.toNat top cN : Nat) : Int)))[i]? = some ⟨⟨id2, words, nextTop top cN, ((nextSeen seen.toNat top cN : Nat) : Int)⟩, xA, xd⟩ := by rw [List.getElem?_set_self him]; rfl
              try dsimp only at hO7 hD7
              generalize m.set i (keyTurn ⟨⟨id2, words, top, seen⟩, xA, xd⟩ (nextTop top cN) ((nextSeen seen.toNat top cN : Nat) : Int)) = m7 at *
              have hxw : Rd w7 xA (ivs words) := (hD7.1 i _ hx7).rd
              have y0 : (kvs m7)[i * 4]? = some (.int .i64 id2) := (kvs_get hx7 (j := 0) (by omega)).trans rfl
              have y1 : (kvs m7)[i * 4 + 1]? = some (.slice xA 8 xd) := by
                have := (kvs_get hx7 (j := 1) (by omega)).trans rfl
                rw [this]
                show some (Value.slice xA words.length xd) = _
                rw [hl8]
              have k0 := b0.cell' (i := 0) rfl
              have z0 := hO7.cell (i := i * 4) y0
              have z1 := hO7.cell (i := i * 4 + 1) y1
              have hXv9 := HXr.out.below hB
              have hbm2 : Rd w7 (some ⟨bX, oX + 7, none⟩) (bvs ((b.drop 7).take (q8 - 7))) := by have := (hXv9.drop_lit 7).take (q8 - 7); simpa [bvs, List.map_drop, List.map_take] using this
              have hbl : ((b.drop 7).take (q8 - 7)).length = q8 - 7 := by rw [List.length_take, List.length_drop, HNB.out]; omega
              have hq7 : (7 : Int) ≤ (q8 : Int) := by omega
              have hq60 : q8 - 7 ≤ 60000 := by omega
              have hqc7 : q8 - 7 ≤ xc - 7 := by omega
              have hs5 : (0 : Int) ≤ (q8 : Int) := by omega
              have hx7' : ¬ xc = 7 := by omega
              have hbX7 : bX < w7.heap.size := by omega
              have hz9 : w.heap.size + 2 ≤ w7.heap.size := by omega
              obtain ⟨hwr8, hwr8'⟩ : IntKind.i64.wrap (q8 : Int) = (q8 : Int) ∧ wrap64 (q8 : Int) = (q8 : Int) := ⟨IntWalk.i64_in _ (by omega), IntWalk.wrap64_in _ (by omega)⟩
              go_wp2_with fail
              refine heldRegion (fun v => v.cell? ⟨w.heap.size, 0, none⟩ = some (.slice (some ⟨g, o, none⟩) k c1) ∧ v.cell? ⟨g, o + i * 4 + 1, none⟩ = some (.slice xA 8 xd) ∧ v.cell? ⟨g, o + i * 4, none⟩ = some (.int .i64 id2)) 17 (by kernel_rfl) (by kernel_rfl) ⟨k0, z1, z0⟩ (fun hS9 => ?_)
              refine walk_take 0 (v := ?v20) rfl (by kernel_rfl) (by kernel_rfl) (by kernel_rfl) (fun _ _ _ h => h) (hS9) (Or.inl ⟨by rfl, ?y20⟩) ?r20
              case y20 => intro w hSw; obtain ⟨hw1, hw2, hw3⟩ := hSw; (try dsimp only at hSw); go_simp; try rfl
              case' r20 => try simp only [Act.put, List.setIfInBounds_toArray, List.set_cons_zero, List.set_cons_succ]
              refine walk_take 1 (v := ?v21) rfl (by kernel_rfl) (by kernel_rfl) (by kernel_rfl) (fun _ _ _ h => h) (hS9) (Or.inl ⟨by rfl, ?y21⟩) ?r21
              case y21 => intro w hSw; obtain ⟨hw1, hw2, hw3⟩ := hSw; (try dsimp only at hSw); go_simp; try rfl
              case' r21 => try simp only [Act.put, List.setIfInBounds_toArray, List.set_cons_zero, List.set_cons_succ]
              refine walk_take 2 (v := ?v22) rfl (by kernel_rfl) (by kernel_rfl) (by kernel_rfl) (fun _ _ _ h => h) (hS9) (Or.inl ⟨by rfl, ?y22⟩) ?r22
              case y22 => intro w hSw; obtain ⟨hw1, hw2, hw3⟩ := hSw; (try dsimp only at hSw); go_simp; try rfl
              case' r22 => try simp only [Act.put, List.setIfInBounds_toArray, List.set_cons_zero, List.set_cons_succ]
              refine walk_take 3 (v := ?v23) rfl (by kernel_rfl) (by kernel_rfl) (by kernel_rfl) (fun _ _ _ h => h) (hS9) (Or.inl ⟨by rfl, ?y23⟩) ?r23
              case y23 => intro w hSw; obtain ⟨hw1, hw2, hw3⟩ := hSw; (try dsimp only at hSw); go_simp; try rfl
              case' r23 => try simp only [Act.put, List.setIfInBounds_toArray, List.set_cons_zero, List.set_cons_succ]
              refine walk_take 4 (v := ?v24) rfl (by kernel_rfl) (by kernel_rfl) (by kernel_rfl) (fun _ _ _ h => h) (hS9) (Or.inl ⟨by rfl, ?y24⟩) ?r24
              case y24 => intro w hSw; obtain ⟨hw1, hw2, hw3⟩ := hSw; (try dsimp only at hSw); go_simp; try rfl
              case' r24 => try simp only [Act.put, List.setIfInBounds_toArray, List.set_cons_zero, List.set_cons_succ]
              refine walk_take 5 (v := ?v25) rfl (by kernel_rfl) (by kernel_rfl) (by kernel_rfl) (fun _ _ _ h => h) (hS9) (Or.inl ⟨by rfl, ?y25⟩) ?r25
              case y25 => intro w hSw; obtain ⟨hw1, hw2, hw3⟩ := hSw; (try dsimp only at hSw); go_simp; try rfl
              case' r25 => try simp only [Act.put, List.setIfInBounds_toArray, List.set_cons_zero, List.set_cons_succ]
              refine walk_take 6 (v := ?v26) rfl (by kernel_rfl) (by kernel_rfl) (by kernel_rfl) (fun _ _ _ h => h) (hS9) (Or.inl ⟨by rfl, ?y26⟩) ?r26
              case y26 => intro w hSw; obtain ⟨hw1, hw2, hw3⟩ := hSw; (try dsimp only at hSw); go_simp; try rfl
              case' r26 => try simp only [Act.put, List.setIfInBounds_toArray, List.set_cons_zero, List.set_cons_succ]
              refine walk_take 7 (v := ?v27) rfl (by kernel_rfl) (by kernel_rfl) (by kernel_rfl) (fun _ _ _ h => h) (hS9) (Or.inl ⟨by rfl, ?y27⟩) ?r27
              case y27 => intro w hSw; obtain ⟨hw1, hw2, hw3⟩ := hSw; (try dsimp only at hSw); go_simp; try rfl
              case' r27 => try simp only [Act.put, List.setIfInBounds_toArray, List.set_cons_zero, List.set_cons_succ]
              refine walk_take 8 (v := ?v28) rfl (by kernel_rfl) (by kernel_rfl) (by kernel_rfl) (fun _ _ _ h => h) (hS9) (Or.inl ⟨by rfl, ?y28⟩) ?r28
              case y28 => intro w hSw; obtain ⟨hw1, hw2, hw3⟩ := hSw; (try dsimp only at hSw); go_simp; try rfl
              case' r28 => try simp only [Act.put, List.setIfInBounds_toArray, List.set_cons_zero, List.set_cons_succ]
              refine walk_take 9 (v := ?v29) rfl (by kernel_rfl) (by kernel_rfl) (by kernel_rfl) (fun _ _ _ h => h) (hS9) (Or.inl ⟨by rfl, ?y29⟩) ?r29
              case y29 => intro w hSw; obtain ⟨hw1, hw2, hw3⟩ := hSw; (try dsimp only at hSw); go_simp; try rfl
              case' r29 => try simp only [Act.put, List.setIfInBounds_toArray, List.set_cons_zero, List.set_cons_succ]
              refine walk_take 11 (v := ?v211) rfl (by kernel_rfl) (by kernel_rfl) (by kernel_rfl) (fun _ _ _ h => h) (hS9) (Or.inl ⟨by rfl, ?y211⟩) ?r211
              case y211 => intro w hSw; obtain ⟨hw1, hw2, hw3⟩ := hSw; (try dsimp only at hSw); go_simp; try rfl
              case' r211 => try simp only [Act.put, List.setIfInBounds_toArray, List.set_cons_zero, List.set_cons_succ]
              refine walk_take 12 (v := ?v212) rfl (by kernel_rfl) (by kernel_rfl) (by kernel_rfl) (fun _ _ _ h => h) (hS9) (Or.inl ⟨by rfl, ?y212⟩) ?r212
              case y212 => intro w hSw; obtain ⟨hw1, hw2, hw3⟩ := hSw; (try dsimp only at hSw); go_simp; try rfl
              case' r212 => try simp only [Act.put, List.setIfInBounds_toArray, List.set_cons_zero, List.set_cons_succ]
              refine walk_take 13 (v := ?v213) rfl (by kernel_rfl) (by kernel_rfl) (by kernel_rfl) (fun _ _ _ h => h) (hS9) (Or.inl ⟨by rfl, ?y213⟩) ?r213
              case y213 => intro w hSw; obtain ⟨hw1, hw2, hw3⟩ := hSw; (try dsimp only at hSw); go_simp; try rfl
              case' r213 => try simp only [Act.put, List.setIfInBounds_toArray, List.set_cons_zero, List.set_cons_succ]
              refine walk_take 14 (v := ?v214) rfl (by kernel_rfl) (by kernel_rfl) (by kernel_rfl) (fun _ _ _ h => h) (hS9) (Or.inl ⟨by rfl, ?y214⟩) ?r214
              case y214 => intro w hSw; obtain ⟨hw1, hw2, hw3⟩ := hSw; (try dsimp only at hSw); go_simp; try rfl
              case' r214 => try simp only [Act.put, List.setIfInBounds_toArray, List.set_cons_zero, List.set_cons_succ]
              refine walk_step 10 rfl (by kernel_rfl) (by kernel_rfl) (fun K hK => ?cov)
              case cov =>
                go_simp
                refine (HV.out w7.drew hxw.drew bX (oX + 7) ((b.drop 7).take (q8 - 7)) (q8 - 7) (xc - 7) hbl hqc7 hq60 hbm2.drew hbX7).mono ?_
                rintro e w10 ⟨A5, c5, rfl, hR5, hb10⟩
                rw [HKB.out] at hR5 ⊢
                have hb10' : Below w7.heap.size w7 w10 := ((Below.refl w7.heap.size w7).drew).trans hb10
                have z10 := hb10'.size
                replace b0 := b0.step hb10'
                replace b1 := b1.step hb10'
                have hO := hO7.step hb10'
                have hD := hD7.step hb10'
                replace hB := hB.trans (hb10'.mono hB.size)
                refine hK _ _ ⟨b0.cell' (i := 0) rfl, hO.cell (i := i * 4 + 1) y1, hO.cell (i := i * 4) y0⟩ ?_
                clear hK K hb10 hb10' hS9
                try simp only [Act.put, List.setIfInBounds_toArray, List.set_cons_zero, List.set_cons_succ]
                have e1 := b1.cell' (i := 0) rfl
                have ef := b1.frozen
                have b2 := blk1_set b1 (.slice (some ⟨g, o, none⟩) k c1)
                have e2 := b2.cell' (i := 0) rfl
                have b0s := b0.far (p := ⟨w.heap.size + 1, 0, none⟩) (Nat.ne_of_lt (Nat.lt_succ_self _)) (.slice (some ⟨g, o, none⟩) k c1)
                have hOs := hO.setFar (p := ⟨w.heap.size + 1, 0, none⟩) (fun e => by have : W.heap.size ≤ w.heap.size + 1 := (hO.lt _ e).1; clear hwr8 hwr8'; omega) (.slice (some ⟨g, o, none⟩) k c1)
                refine walk_step 15 rfl (by kernel_rfl) (by kernel_rfl) (fun K hK => ?sto)
                case sto =>
                  go_simp
                  refine hK _ _ ⟨b0s.cell' (i := 0) rfl, hOs.cell (i := i * 4 + 1) y1, hOs.cell (i := i * 4) y0⟩ ?_
                  clear hK K
                  try simp only [Act.put, List.setIfInBounds_toArray, List.set_cons_zero, List.set_cons_succ]
                  refine walk_take 16 (v := ?v316) rfl (by kernel_rfl) (by kernel_rfl) (by kernel_rfl) (fun _ _ _ h => h) (⟨b0s.cell' (i := 0) rfl, hOs.cell (i := i * 4 + 1) y1, hOs.cell (i := i * 4) y0⟩) (Or.inl ⟨by rfl, ?y316⟩) ?r316
                  case y316 => intro w hSw; (try dsimp only at hSw); go_simp; try rfl
                  case' r316 => try simp only [Act.put, List.setIfInBounds_toArray, List.set_cons_zero, List.set_cons_succ]
                  refine walk_tail (by kernel_rfl) ?_
                  simp only [List.drop_succ_cons, List.drop_zero]
                  go_wp2_with fail
                  refine bodyPost_ret (v := .tuple #[.agg #[.slice (some ⟨g, o, none⟩) k c1], .slice A5 kb c5, .int .i64 id2, .int .i64 0]) (by simp [results, Try.results35, go_sem, e2]) rfl ?_
                  rw [hid2]
                  clear hwr8 hwr8'
                  refine ⟨some ⟨g, o, none⟩, c1, A5, c5, rfl, ⟨m7, hm7, hOs.mono (by omega), ?_⟩, ?_, hB.setCell (p := ⟨w.heap.size + 1, 0, none⟩) (by simp) _⟩
                  · exact hD.map (fun _ _ _ _ h => (h.setFar (p := ⟨w.heap.size + 1, 0, none⟩) (fun e => by have : W.heap.size ≤ w.heap.size + 1 := (h.lt _ e).1; omega) _).mono (by omega))
                  · exact (hR5.setFar (p := ⟨w.heap.size + 1, 0, none⟩) (fun e => by have : w7.heap.size ≤ w.heap.size + 1 := (hR5.lt _ e).1; omega) _).mono (by show w.heap.size ≤ w7.heap.size; omega)
          · rw [if_neg hTB] at HU
            obtain ⟨rfl, rfl, rfl, rfl⟩ : M = L ∧ body = [] ∧ id = 0 ∧ err = 14 := by simpa using HU.out
            obtain rfl : kb = 0 := by rw [← HKB.out]; rfl
            obtain rfl : k = n := by rw [← HK.out, HN.out]
            have HE := Lib.hid (equalB TA (some ⟨bX, oX + q8, none⟩) TL (b.drop q8) 8 tc (xc - q8) w5 htg hbdl hrt hbd (by decide))
            rw [decide_eq_false hTB] at HE
            clear hTB hrt hbd HU
            go_wp2_with fail
            refine HE.out.mono ?_
            rintro e w' ⟨rfl, nq, rfl⟩
            replace b0 := b0.drewN nq
            replace b1 := b1.drewN nq
            have hO := hO5.drewN nq
            have hD := hD5.map (fun _ _ _ _ h => h.drewN nq)
            replace hB := below_drewN hB nq
            have k0 := b0.cell' (i := 0) rfl
            clear HE hO5 hD5
            have e1 := b1.cell' (i := 0) rfl
            have ef := b1.frozen
            have b2 := blk1_set b1 (.slice (some ⟨g, o, none⟩) k c1)
            have e2 := b2.cell' (i := 0) rfl
            go_wp2_with fail
            refine bodyPost_ret (v := .tuple #[.agg #[.slice (some ⟨g, o, none⟩) k c1], .slice none 0 0, .int .i64 0, .int .i64 14]) (by simp [results, Try.results35, go_sem, e2]) rfl ?_
            exact AsRes.same hm (hO.setFar (p := ⟨w.heap.size + 1, 0, none⟩) (fun e => by have : W.heap.size ≤ w.heap.size + 1 := (hO.lt _ e).1; omega) _) (hD.map (fun _ _ _ _ h => h.setFar (p := ⟨w.heap.size + 1, 0, none⟩) (fun e => by have : W.heap.size ≤ w.heap.size + 1 := (h.lt _ e).1; omega) _)) (by omega) (hB.setCell (p := ⟨w.heap.size + 1, 0, none⟩) (by simp) _)
  · obtain ⟨rfl, rfl, rfl, rfl⟩ : M = [] ∧ body = [] ∧ id = 0 ∧ err = 11 := by
      have : unsealR L b = ([], [], 0, 11) := if_neg hok
      rw [hR] at this
      simpa using this
    obtain rfl : k = 0 := by rw [← HK.out]; rfl
    obtain rfl : kb = 0 := by rw [← HKB.out]; rfl
    have HO : Hid (ownR L = ([], false)) := Lib.hid (if_neg hok)
    clear hR hok hnb
    go_enter Try.func35, Try.ntmps35
    go_wp2_with fail
    generalize (w.alloc (.cells #[.slice B n d] 44)).alloc (.cells #[.slice none 0 0] 44) = W at *
    refine (HW.out W (HRd.out.step hB0)).mono ?_
    intro e w1 h1
    obtain ⟨B1, c1, m, rfl, hm, hO, hD, hb⟩ := h1.open_ HO.out
    clear h1
    rw [List.length_nil] at hO ⊢
    replace b0 := b0.step hb
    replace b1 := b1.step hb
    have z1 := hb.size
    replace hB0 := hB0.trans (hb.mono hB0.size)
    have k0 := b0.cell' (i := 0) rfl
    have f0 := b0.frozen
    have b0' := blk1_set b0 (.slice B1 0 c1)
    have b1' := b1.far (p := ⟨w.heap.size, 0, none⟩) (by simp) (.slice B1 0 c1)
    have hne : ∀ q, blk B1 = some q → w.heap.size + 2 ≤ q := fun q hq => by have := (hO.lt q hq).1; omega
    have k0' := b0'.cell' (i := 0) rfl
    have e1 := b1'.cell' (i := 0) rfl
    have ef := b1'.frozen
    have b2 := blk1_set b1' (.slice B1 0 c1)
    have e2 := b2.cell' (i := 0) rfl
    go_wp2_with fail
    refine bodyPost_ret (v := .tuple #[.agg #[.slice B1 0 c1], .slice none 0 0, .int .i64 0, .int .i64 11]) (by simp [results, Try.results35, go_sem, e2]) rfl ?_
    refine ⟨B1, c1, none, 0, rfl, ⟨m, hm, ?_, ?_⟩, Own.none_ _ _ _ _, (hB0.setCell (p := ⟨w.heap.size, 0, none⟩) (Nat.le_refl _) _).setCell (p := ⟨w.heap.size + 1, 0, none⟩) (by simp) _⟩
    · exact ((hO.setFar (p := ⟨w.heap.size, 0, none⟩) (fun e => by have : W.heap.size ≤ w.heap.size := (hO.lt _ e).1; omega) _).setFar (p := ⟨w.heap.size + 1, 0, none⟩) (fun e => by have : W.heap.size ≤ w.heap.size + 1 := (hO.lt _ e).1; omega) _).mono (by omega)
    · exact hD.map (fun _ _ _ _ h => ((h.setFar (p := ⟨w.heap.size, 0, none⟩) (fun e => by have : W.heap.size ≤ w.heap.size := (h.lt _ e).1; omega) _).setFar (p := ⟨w.heap.size + 1, 0, none⟩) (fun e => by have : W.heap.size ≤ w.heap.size + 1 := (h.lt _ e).1; omega) _).mono (by omega))
end Go.Proofs.Ytkbaganbfcbioaa
namespace Go.Proofs.Ytkbaganbfcbioaa
set_option linter.unusedSimpArgs false
set_option linter.unusedVariables false
open Go.ChangeShapes Go.WideShapes Go.ChangeAt Go.RowKit Go.Joins Go.Deep
section
variable {H : Type} {enc : TypeId × Value → H} {P : Program} {w : World} {base : Nat} {spare : Nat → Bool} {held : Bool}
/-- A cell that holds a list of ints. -/
theorem cell_ints {t e : TypeId} (ht : P.underlying t = some (.slice e)) (he : P.underlying e = some (.int .i64)) (hc : P.cellsOf e = 1) (hb : P.bytesOf e = 8) {A : Option Addr} {len cap fuel : Nat} {x : DataW H × List MemPlace}
    (h : DataW.trod enc P w base spare held fuel t [.slice A len cap] = some x) (hs : Sized P t x.1) :
    ∃ l : List Int, len = l.length ∧ Rd w A (ivs l) ∧ l.length ≤ cap ∧ l.length ≤ 17592186044400 ∧ ∀ n ∈ l, (Lit.int .i64 n).wf = true := by
  rcases open_ints ht he hc h with ⟨hcs, hx⟩ | ⟨a, len', cap', zs, hcs, _, hl, hm, hz, hx, hcell, hwz⟩
  · simp only [List.cons.injEq, Value.slice.injEq, and_true] at hcs
    obtain ⟨rfl, rfl, rfl⟩ := hcs
    exact ⟨[], rfl, Rd.nil _ _, Nat.le_refl _, by simp, fun n hn => by cases hn⟩
  · simp only [List.cons.injEq, Value.slice.injEq, and_true] at hcs
    obtain ⟨rfl, rfl, rfl⟩ := hcs
    have hll : len ≤ zs.length := by
      rw [hz]
      split <;> omega
    subst hx
    have hsz := hs.slice ht
    rw [hb] at hsz
    simp only [lits, List.length_map, List.length_take, List.length_drop, reachBytes] at hsz
    refine ⟨zs.take len, by simp; omega, ?_, by simp; omega, by simp; omega, fun n hn => hwz n (List.mem_of_mem_take hn)⟩
    intro i u hu
    have hi : i < (zs.take len).length := by
      rcases Nat.lt_or_ge i (zs.take len).length with h | h
      · exact h
      · rw [List.getElem?_eq_none (by simpa [ivs] using h)] at hu; cases hu
    rw [ivs_get hi] at hu
    have hi2 : i < zs.length := by simp at hi; omega
    have hc := hcell i (by omega)
    obtain ⟨b, off, spot⟩ := a
    have hspot : spot = none := by
      have := World.cell?_spot hc
      unfold Addr.add at this
      split at this
      · exact this
      · have h0 := hcell 0 (by omega)
        simpa [Addr.add] using World.cell?_spot h0
    subst hspot
    refine ⟨b, off, rfl, ?_⟩
    rw [Addr.add_lit] at hc
    rw [hc, ← hu]
    simp [List.getD, hi2]
theorem open_ints_arg {r : Reach} {b0 : Nat} {t e : TypeId} (ht : P.underlying t = some (.slice e)) (he : P.underlying e = some (.int .i64)) (hc : P.cellsOf e = 1) (hb : P.bytesOf e = 8) {v : Value} {d : DataW H} {p : List MemPlace}
    (hv : Value.okWide P w r b0 t v) (h : DataW.Trod enc P w base spare held t v d p) (hs : Sized P t d) :
    ∃ (A : Option Addr) (l : List Int) (c : Nat), v = .slice A l.length c ∧ Rd w A (ivs l) ∧ l.length ≤ c ∧ l.length ≤ 17592186044400 ∧ ∀ n ∈ l, (Lit.int .i64 n).wf = true := by
  obtain ⟨A, len, cap, rfl⟩ := okWide_slice ht hv
  obtain ⟨fuel, hf⟩ := h
  obtain ⟨l, rfl, hr, hc2, hn, hw⟩ := cell_ints ht he hc hb (by simpa [Value.cells] using hf) hs
  exact ⟨A, l, cap, rfl, hr, hc2, hn, hw⟩
end
theorem Try.bytes3 : Try.prog.bytesOf 3 = 8 := by kernel_rfl
theorem Try.cells3 : Try.prog.cellsOf 3 = 1 := by kernel_rfl
end Go.Proofs.Ytkbaganbfcbioaa
namespace Go.Proofs.Ytkbaganbfcbioaa
set_option linter.unusedSimpArgs false
set_option linter.unusedVariables false
open Go.ChangeShapes Go.WideShapes Go.ChangeAt Go.RowKit

theorem list4Key {α : Type} {l : List α} (h : l.length = 4) : ∃ c0 c1 c2 c3, l = [c0, c1, c2, c3] := by
  match l, h with
  | [c0, c1, c2, c3], _ => exact ⟨_, _, _, _, rfl⟩
/-- A cell that holds a list of ints. -/
theorem cell_slice_ints {H : Type} {enc : TypeId × Value → H} {P : Program} {w : World} {base : Nat} {spare : Nat → Bool} {held : Bool} {t e : TypeId} (ht : P.underlying t = some (.slice e)) (he : P.underlying e = some (.int .i64)) (hc : P.cellsOf e = 1) (hb : P.bytesOf e = 8) {u : Value} {fuel : Nat} {x : DataW H × List MemPlace}
    (h : DataW.trod enc P w base spare held fuel t [u] = some x) (hs : Sized P t x.1) :
    ∃ (A : Option Addr) (l : List Int) (c : Nat), u = .slice A l.length c ∧ Rd w A (ivs l) ∧ l.length ≤ c ∧ l.length ≤ 17592186044400 := by
  have hu : ∃ A len cap, u = .slice A len cap := by
    rcases open_ints ht he hc h with ⟨hcs, _⟩ | ⟨a, len', cap', zs, hcs, _⟩
    · simp only [List.cons.injEq, and_true] at hcs
      exact ⟨_, _, _, hcs⟩
    · simp only [List.cons.injEq, and_true] at hcs
      exact ⟨_, _, _, hcs⟩
  obtain ⟨A, len, cap, rfl⟩ := hu
  obtain ⟨l, rfl, hr, hc2, hn, _⟩ := cell_ints ht he hc hb h hs
  exact ⟨A, l, cap, rfl, hr, hc2, hn⟩
theorem wf_i64 {z : Int} (h : (Lit.int .i64 z).wf = true) : -9223372036854775808 ≤ z ∧ z < 9223372036854775808 := by
  have := bounds_i64 h
  omega

set_option maxRecDepth 100000 in
theorem open_key {H : Type} {enc : TypeId × Value → H} {w : World} {base : Nat} {spare : Nat → Bool} {held : Bool} {r : Reach} {b0 : Nat} {v : Value} {d : DataW H} {p : List MemPlace}
    (hw : Value.okWide Try.prog w r b0 46 v) (h : DataW.Trod enc Try.prog w base spare held 46 v d p) (hz : Sized Try.prog 46 d) :
    ∃ (x : Ky) (A1 : Option Addr) (d1 : Nat), v = kyv x A1 d1 ∧ Rd w A1 (ivs x.words) ∧ x.words.length ≤ d1 ∧ (x.words.length ≤ 17592186044400 ∧ x.seen < 9223372036854775808) := by
  obtain ⟨cs, rfl, hl, n, hf⟩ := open_agg Try.underlying46 (by kernel_rfl) (by kernel_rfl) hw h hz
  obtain ⟨c0, c1, c2, c3, rfl⟩ := list4Key (hl.trans rfl)
  obtain ⟨u0, y0, e0, t0, s0⟩ := hf 0 _ rfl
  obtain ⟨z0, rfl, _⟩ := cell_int (k := .i64) (by kernel_rfl) t0
  obtain rfl : c0 = .int .i64 z0 := by simpa using e0
  obtain ⟨u1, y1, e1, t1, s1⟩ := hf 1 _ rfl
  obtain ⟨A1, l1, d1, rfl, hR1, hC1, hN1⟩ := cell_slice_ints Try.underlying35 Try.underlying3 Try.cells3 Try.bytes3 t1 s1
  obtain rfl : c1 = .slice A1 l1.length d1 := by simpa using e1
  obtain ⟨u2, y2, e2, t2, s2⟩ := hf 2 _ rfl
  obtain ⟨z2, rfl, _⟩ := cell_int (k := .i64) (by kernel_rfl) t2
  obtain rfl : c2 = .int .i64 z2 := by simpa using e2
  obtain ⟨u3, y3, e3, t3, s3⟩ := hf 3 _ rfl
  obtain ⟨z3, rfl, w3⟩ := cell_int (k := .i64) (by kernel_rfl) t3
  obtain rfl : c3 = .int .i64 z3 := by simpa using e3
  exact ⟨⟨z0, l1, z2, z3⟩, A1, d1, rfl, hR1, hC1, hN1, (wf_i64 w3).2⟩
end Go.Proofs.Ytkbaganbfcbioaa
