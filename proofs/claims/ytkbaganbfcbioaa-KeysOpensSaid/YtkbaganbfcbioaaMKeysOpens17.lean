/-
  The document's UnsealOf: the ways that end before a key is found. keys.once over a ring of the call's own.
-/
import Derived.Test.YtkbaganbfcbioaaMKeysOpens13
import Derived.Test.YtkbaganbfcbioaaMKeysOpens14
import Derived.Test.YtkbaganbfcbioaaMKeysOpens9
import Derived.Test.YtkbaganbfcbioaaMKeysOpens15
import Derived.Test.YtkbaganbfcbioaaMKeysOpens16
import Derived.Laws.BytesArg
namespace Go.Proofs.Ytkbaganbfcbioaa
set_option linter.unusedSimpArgs false
set_option linter.unusedVariables false
open Go.RowKit

set_option maxHeartbeats 6400000 in
set_option maxRecDepth 100000 in
theorem runseal_state (l : List KyR) (L : List Ky) (B : Option Addr) (n d : Nat) (X : Option Addr) (nb xc : Nat) (w : World) (hl : l.map KyR.k = L) (hn : L.length = n) (h : RdRing w B l) (hf : RingFits L) (hok : ¬ ringOk L) :
    Calls Try.prog 33 #[.agg #[.slice B n d], .slice X nb xc] w fun e w' => AsRes w w' [] 0 [] 0 0 11 e := by
  have HM := Lib.hid (fun (w : World) (h : RdRing w B l) => rringMay_any l L B n d w hl hn h hf)
  rw [decide_eq_false hok] at HM
  have HRd := Lib.hid h
  obtain ⟨b0, b1, hB0, hz0⟩ := box2 w #[.slice B n d] #[.slice none 0 0] 44 44
  clear h hok hl hn
  go_enter Try.func33, Try.ntmps33
  go_wp2_with fail
  generalize (w.alloc (.cells #[.slice B n d] 44)).alloc (.cells #[.slice none 0 0] 44) = W at *
  refine (HM.out W (HRd.out.step hB0)).mono ?_
  rintro e w1 ⟨rfl, hb1⟩
  have b1' := b1.step hb1
  have c1 := b1'.cell' (i := 0) rfl
  have f1 := b1'.frozen
  have b2 := blk1_set b1' (.slice none 0 0)
  have c2 := b2.cell' (i := 0) rfl
  go_wp2_with fail
  refine bodyPost_ret (v := .tuple #[.agg #[.slice none 0 0], .slice none 0 0, .int .i64 0, .int .i64 11]) (by simp [results, Try.results33, go_sem, c2]) rfl ?_
  exact AsRes.none_ ((hB0.trans (hb1.mono hB0.size)).setCell (p := ⟨w.heap.size + 1, 0, none⟩) (by simp) _)
set_option maxHeartbeats 12800000 in
set_option maxRecDepth 100000 in
theorem runseal_ok (l : List KyR) (L : List Ky) (B : Option Addr) (n d : Nat) (X : Option Addr) (b : List UInt8) (nb xc : Nat) (w : World) (hl : l.map KyR.k = L) (hn : L.length = n) (h : RdRing w B l) (hf : RingFits L) (hok : ringOk L) (hX : Rd w X (bvs b)) (hnb : b.length = nb) (hxc : nb ≤ xc)
    (M : List Ky) (k : Nat) (body : List UInt8) (kb : Nat) (id err : Int) (hR : unsealR L b = (M, body, id, err)) (hk : M.length = k) (hkb : body.length = kb) :
    Calls Try.prog 33 #[.agg #[.slice B n d], .slice X nb xc] w fun e w' => AsRes w w' M k body kb id err e := by
  have HM := Lib.hid (fun (w : World) (h : RdRing w B l) => rringMay_any l L B n d w hl hn h hf)
  rw [decide_eq_true hok] at HM
  have hn8 : n ≤ 8 := by rw [← hn]; exact hok.1
  have HO := Lib.hid (fun (w : World) (h : RdRing w B l) => ringOf_any l L B n d w hl hn h hf (by omega))
  have hR2 : unsealR L b = (if b.length < 15 ∨ 1015 < b.length then (L, [], 0, 1) else match kfind L ((b.getD 0 0).toNat : Int) with | none => (L, [], 0, 14) | some i => (match L[i]? with | none => (L, [], 0, 14) | some k => unsK L b i k) : List Ky × List UInt8 × Int × Int) := if_pos hok
  rw [hR] at hR2
  have HKO := Lib.hid hok.2.1
  have HRd := Lib.hid h
  have HXr := Lib.hid hX
  have HN := Lib.hid hn
  have HNB := Lib.hid hnb
  have HK := Lib.hid hk
  have HKB := Lib.hid hkb
  obtain ⟨b0, b1, hB0, hz0⟩ := box2 w #[.slice B n d] #[.slice none 0 0] 44 44
  clear h hok hl hn hX hR hk hkb
  go_enter Try.func33, Try.ntmps33
  go_wp2_with fail
  generalize (w.alloc (.cells #[.slice B n d] 44)).alloc (.cells #[.slice none 0 0] 44) = W at *
  refine (HM.out W (HRd.out.step hB0)).mono ?_
  rintro e w1 ⟨rfl, hb⟩
  replace b0 := b0.step hb
  replace b1 := b1.step hb
  replace hB0 := hB0.trans (hb.mono hB0.size)
  have hz1 := hb.size
  have k0 := b0.cell' (i := 0) rfl
  clear hb
  go_wp2_with fail
  refine (HO.out w1 (HRd.out.step hB0)).mono ?_
  rintro e w2 ⟨B2, d2, rfl, ⟨m, hm, hO, hD⟩, hb⟩
  clear k0
  replace b0 := b0.step hb
  replace b1 := b1.step hb
  have hlt0 : w.heap.size + 2 ≤ w1.heap.size := by omega
  replace hB0 := hB0.trans (hb.mono hB0.size)
  have z2 := hb.size
  have k0 := b0.cell' (i := 0) rfl
  have f0 := b0.frozen
  have b0' := blk1_set b0 (.slice B2 n d2)
  have b1' := b1.far (p := ⟨w.heap.size, 0, none⟩) (by simp) (.slice B2 n d2)
  have hO' := hO.setFar (p := ⟨w.heap.size, 0, none⟩) (fun e => by have : w1.heap.size ≤ w.heap.size := (hO.lt _ e).1; omega) (.slice B2 n d2)
  have hD' := hD.map (fun _ _ _ _ h => h.setFar (p := ⟨w.heap.size, 0, none⟩) (fun e => by have : w1.heap.size ≤ w.heap.size := (h.lt _ e).1; omega) (.slice B2 n d2))
  have hB' := hB0.setCell (p := ⟨w.heap.size, 0, none⟩) (Nat.le_refl _) (.slice B2 n d2)
  have z3 : (w2.setCell ⟨w.heap.size, 0, none⟩ (.slice B2 n d2)).heap.size = w2.heap.size := by simp
  have k0' := b0'.cell' (i := 0) rfl
  clear hO hD hB0 b1 hb HM HO hz0
  by_cases h15 : nb < 15 ∨ 1015 < nb
  · rw [if_pos (by rw [HNB.out]; exact h15)] at hR2
    obtain ⟨rfl, rfl, rfl, rfl⟩ : M = L ∧ body = [] ∧ id = 0 ∧ err = 1 := by simpa using hR2
    obtain rfl : kb = 0 := by rw [← HKB.out]; rfl
    obtain rfl : k = n := by rw [← HK.out, HN.out]
    clear hR2
    have e1 := b1'.cell' (i := 0) rfl
    have ef := b1'.frozen
    have b2 := blk1_set b1' (.slice B2 k d2)
    have e2 := b2.cell' (i := 0) rfl
    rcases h15 with h15 | h15
    · have h15i : (nb : Int) < 15 := by omega
      go_wp2_with fail
      refine bodyPost_ret (v := .tuple #[.agg #[.slice B2 k d2], .slice none 0 0, .int .i64 0, .int .i64 1]) (by simp [results, Try.results33, go_sem, e2]) rfl ?_
      exact AsRes.same hm (hO'.setFar (p := ⟨w.heap.size + 1, 0, none⟩) (fun e => by have : w1.heap.size ≤ w.heap.size + 1 := (hO'.lt _ e).1; omega) _) (hD'.map (fun _ _ _ _ h => h.setFar (p := ⟨w.heap.size + 1, 0, none⟩) (fun e => by have : w1.heap.size ≤ w.heap.size + 1 := (h.lt _ e).1; omega) _)) (by omega) (hB'.setCell (p := ⟨w.heap.size + 1, 0, none⟩) (by simp) _)
    · have h15i : (1015 : Int) < (nb : Int) := by omega
      go_wp2_with fail
      refine bodyPost_ret (v := .tuple #[.agg #[.slice B2 k d2], .slice none 0 0, .int .i64 0, .int .i64 1]) (by simp [results, Try.results33, go_sem, e2]) rfl ?_
      exact AsRes.same hm (hO'.setFar (p := ⟨w.heap.size + 1, 0, none⟩) (fun e => by have : w1.heap.size ≤ w.heap.size + 1 := (hO'.lt _ e).1; omega) _) (hD'.map (fun _ _ _ _ h => h.setFar (p := ⟨w.heap.size + 1, 0, none⟩) (fun e => by have : w1.heap.size ≤ w.heap.size + 1 := (h.lt _ e).1; omega) _)) (by omega) (hB'.setCell (p := ⟨w.heap.size + 1, 0, none⟩) (by simp) _)
  · rw [if_neg (by rw [HNB.out]; exact h15)] at hR2
    have HR := Lib.hid hR2
    simp only [not_or] at h15
    have h15a : ¬ (nb : Int) < 15 := by omega
    have h15b : ¬ (1015 : Int) < (nb : Int) := by omega
    clear hR2
    go_wp2_with fail
    generalize w2.setCell ⟨w.heap.size, 0, none⟩ (.slice B2 n d2) = W3 at *
    clear k0 f0 b0 k0'
    go_loopw [9] (fun iv wr => ∃ i : Nat, i ≤ n ∧ iv = .int .i64 (i : Int) ∧ Below w.heap.size w wr ∧ W3.heap.size ≤ wr.heap.size ∧ (Blk wr w.heap.size 44 #[.slice B2 n d2] ∧ Blk wr (w.heap.size + 1) 44 #[.slice none 0 0]) ∧ Own wr w1.heap.size 46 4 B2 n d2 (kvs m) ∧ OwnWords wr w1.heap.size m ∧ Hid (∀ a y, a < i → L[a]? = some y → y.id ≠ ((b.getD 0 0).toNat : Int))) (fun iv _ => n - (intOf iv).toNat)
    case atStart => exact ⟨0, Nat.zero_le _, rfl, hB', Nat.le_refl _, ⟨b0', b1'⟩, hO', hD', Lib.hid (fun a y h => by omega)⟩
    case round =>
      clear hB' b0' b1' hO' hD'
      obtain ⟨i, hi, rfl, hB, zr, ⟨b0, b1⟩, hO, hD, HF⟩ := hrel
      have k0 := b0.cell' (i := 0) rfl
      have hne : ∀ q, blk B2 = some q → w.heap.size + 2 ≤ q := fun q hq => by have := (hO.lt q hq).1; omega
      by_cases h5 : i < n
      · have h5i : (i : Int) < (n : Int) := by omega
        have hip : (0 : Int) ≤ (i : Int) := by omega
        have hiL : i < L.length := by rw [HN.out]; exact h5
        obtain ⟨xA, xd, hx⟩ := ky_at hm hiL
        have HLi := Lib.hid (List.getElem?_eq_getElem hiL)
        have hko := HKO.out _ (List.getElem_mem hiL)
        have hff := hf _ (List.getElem_mem hiL)
        have hRw := OwnWords.rd hO hD
        generalize L[i] = kx at *
        obtain ⟨id2, words, top, seen⟩ := kx
        obtain ⟨g, o, rfl, x0, x1, x2, x3⟩ := hRw.cells hx
        have hgk := hO.lt g rfl
        dsimp only at x0 x1 x2 x3
        have hHK := Lib.hid hko
        have hl8 : words.length = 8 := (padErr_zero hko.1.1.2).1
        rw [hl8] at x1
        have hnb0 : (0 : Int) < (nb : Int) := by omega
        obtain ⟨bX, oX, rfl, hcx⟩ := (HXr.out.below hB).byteD (k := 0) (by rw [HNB.out]; omega)
        rw [Nat.add_zero] at hcx
        have bk := Blk.new wr 46 #[.int .i64 id2, .slice xA 8 xd, .int .i64 top, .int .i64 seen]
        have q0 := bk.cell' (i := 0) rfl
        obtain ⟨x, HX⟩ : ∃ x, Hid (b.getD 0 0 = x) := ⟨_, Lib.hid rfl⟩
        rw [HX.out] at hcx
        clear hko hRw hcx q0
        go_upto_region 11 with fail
        replace b0 := b0.alloc (.cells #[.int .i64 id2, .slice xA 8 xd, .int .i64 top, .int .i64 seen] 46)
        replace b1 := b1.alloc (.cells #[.int .i64 id2, .slice xA 8 xd, .int .i64 top, .int .i64 seen] 46)
        replace hO := hO.alloc (.cells #[.int .i64 id2, .slice xA 8 xd, .int .i64 top, .int .i64 seen] 46)
        replace hD := hD.map (fun _ _ _ _ h => h.alloc (.cells #[.int .i64 id2, .slice xA 8 xd, .int .i64 top, .int .i64 seen] 46))
        replace hB := hB.alloc hB.size (.cells #[.int .i64 id2, .slice xA 8 xd, .int .i64 top, .int .i64 seen] 46)
        have zra : (wr.alloc (.cells #[.int .i64 id2, .slice xA 8 xd, .int .i64 top, .int .i64 seen] 46)).heap.size = wr.heap.size + 1 := by simp
        generalize wr.alloc (.cells #[.int .i64 id2, .slice xA 8 xd, .int .i64 top, .int .i64 seen] 46) = V at *
        clear x0 x1 x2 x3 k0
        obtain ⟨kp, hkp⟩ : ∃ kp, kp = wr.heap.size := ⟨_, rfl⟩
        rw [← hkp] at bk zra ⊢
        have hkp2 : w.heap.size + 2 ≤ kp := by omega
        have HKP := Lib.hid hkp
        clear hkp
        have q0 := bk.cell' (i := 0) rfl
        have hXv := HXr.out.below hB
        have hcx := hXv.cell (bvs_get (k := 0) (show 0 < b.length by rw [HNB.out]; omega))
        rw [at_get, HX.out, Nat.add_zero] at hcx
        have hwx : wrap64 (x.toNat : Int) = (x.toNat : Int) := IntWalk.wrap64_in _ (by have := byte_lt x; omega)
        by_cases he : id2 = (x.toNat : Int)
        · have heb : (id2 == (x.toNat : Int)) = true := by simpa using he
          have hen : (id2 != (x.toNat : Int)) = false := by rw [bne, heb]; rfl
          have hen2 : (id2 != wrap64 (x.toNat : Int)) = false := by rw [hwx]; exact hen
          have HE := Lib.hid he
          clear he
          go_quiet (fail)
          go_wp2_with fail
          have hU := HR.out
          rw [kfind_some HLi.out (HE.out.trans (by rw [HX.out])) HF.out] at hU
          dsimp only at hU
          rw [HLi.out] at hU
          have HU := Lib.hid hU
          clear hU HR
          replace b0 := b0.drewN nq
          replace b1 := b1.drewN nq
          replace bk := bk.drewN nq
          replace hO := hO.drewN nq
          replace hD := hD.map (fun _ _ _ _ h => h.drewN nq)
          replace hB := below_drewN hB nq
          replace zra : (V.drewN nq).heap.size = kp + 1 := zra
          generalize V.drewN nq = V1 at *
          clear q0 hcx hXv heb hen hen2 hwx
          have hXv := HXr.out.below hB
          obtain ⟨q8, rfl⟩ : ∃ q8, nb = q8 + 8 := ⟨nb - 8, by omega⟩
          have hq8 : 7 ≤ q8 := by omega
          have hq8b : q8 ≤ 1007 := by omega
          go_loopw [11, 12] (fun cv jv wx => ∃ (t cN : Nat), t ≤ 6 ∧ jv = .int .i64 ((1 + t : Nat) : Int) ∧ cv = .int .i64 (cN : Int) ∧ Hid (cN = numB ((b.drop 1).take t)) ∧ wx = V1) (fun _ jv _ => 7 - (intOf jv).toNat)
          case atStart => exact ⟨0, 0, by omega, rfl, rfl, Lib.hid rfl, rfl⟩
          case round =>
            obtain ⟨t, cN, ht, rfl, rfl, HC, rfl⟩ := hrel
            by_cases h6 : t < 6
            · have h6i : ((1 + t : Nat) : Int) < 7 := by omega
              have hj0 : (0 : Int) ≤ ((1 + t : Nat) : Int) := by omega
              have hjn : ((1 + t : Nat) : Int) < (q8 : Int) + 8 := by omega
              have hcx := hXv.cell (bvs_get (k := 1 + t) (show 1 + t < b.length by rw [HNB.out]; omega))
              rw [at_get] at hcx
              have hcl : cN < 1099511627776 := by rw [HC.out]; exact numD_lt (by omega)
              have hob := or_byteI (b.getD (1 + t) 0) hcl
              have HC2 : Hid (cN * 256 + (b.getD (1 + t) 0).toNat = numB ((b.drop 1).take (t + 1))) := Lib.hid (by rw [numD_succ h6 (by rw [HNB.out]; omega), HC.out])
              have hx256 := byte_lt (b.getD (1 + t) 0)
              generalize b.getD (1 + t) 0 = z at *
              obtain ⟨j, hj⟩ : ∃ j, j = 1 + t := ⟨_, rfl⟩
              rw [← hj] at h6i hj0 hjn hcx ⊢
              have HJ := Lib.hid hj
              clear hj
              go_wp2_with fail
              go_roundw
              case rel => exact ⟨t + 1, cN * 256 + z.toNat, by omega, by rw [show 1 + (t + 1) = j + 1 by have := HJ.out; omega]; go_num, by first | rw [hob] | simp | go_num, HC2, by first | rfl | trivial⟩
              case measure => have := HJ.out; simp [intOf] <;> omega
            · obtain rfl : t = 6 := by omega
              have hCn : cN = numC b := HC.out
              have hC2 : cN ≤ 281474976710655 := by rw [hCn]; exact numC_lt (by rw [HNB.out]; omega)
              have HCn := Lib.hid hCn
              clear hCn
              have q1 := bk.cell' (i := 1) rfl
              go_wp2_with fail
              obtain ⟨_, hl9, _, _, _, _⟩ := padErr_zero hHK.out.1.1.2
              obtain ⟨te1, te2⟩ := toNats hl9
              have hW8 : (words.map Int.toNat).length = 8 := by simpa using hl8
              have hFq : ∀ I, I ≤ 1000 → Sq (firstL (words.map Int.toNat) cN I) := fun I hI => first_sq hW8 te2 hC2 hI
              have HT := Lib.hid (fun (w : World) (ha : Rd w xA (ivs words)) (B' : Option Addr) (l : List UInt8) (n c' : Nat) (hl : l.length = n) (hn : n ≤ 2000) (hb : Rd w B' (bvs l)) => rtag_good xA (words.map Int.toNat) xd cN B' n c' l w (by rw [te1]; exact ha) hC2 (by
                have := pad_good xA (words.map Int.toNat) xd cN 0 w hW8 te2 (by rw [te1]; exact ha) hC2 (by omega) (padErr_good hW8 te2 hC2 (by omega)) (hFq 0 (by omega))
                exact this) hl hb hn)
              have HV := Lib.hid (fun (w : World) (ha : Rd w xA (ivs words)) (B' : Option Addr) (l : List UInt8) (n c' : Nat) (hl : l.length = n) (hn : n ≤ 60000) (hb : Rd w B' (bvs l)) => rcovered_any xA (words.map Int.toNat) xd cN B' l n c' w hW8 te2 (by rw [te1]; exact ha) hC2 hFq hl hb hn)
              have htg := tagL_len (words.map Int.toNat) cN (b.take q8)
              have hxw : Rd wr xA (ivs words) := (hD.1 i _ hx).rd
              have hbt : Rd wr (some ⟨bX, oX, none⟩) (bvs (b.take q8)) := by have := hXv.take q8; simpa [bvs, List.map_take] using this
              have hbtl : (b.take q8).length = q8 := by rw [List.length_take, HNB.out]; omega
              have hs1 : (q8 : Int) ≤ (q8 : Int) + 8 := by omega
              have hs3 : (q8 : Int) ≤ (xc : Int) := by omega
              have hs4 : (q8 : Int) + 8 ≤ (xc : Int) := by omega
              have hs5 : (0 : Int) ≤ (q8 : Int) := by omega
              have hwr8 : IntKind.i64.wrap (q8 : Int) = (q8 : Int) := IntWalk.i64_in _ (by omega)
              have hwr8' : wrap64 (q8 : Int) = (q8 : Int) := IntWalk.wrap64_in _ (by omega)
              clear hl9 hFq
              refine heldRegion (fun v => v.cell? ⟨kp, 1, none⟩ = some (.slice xA 8 xd)) 12 (by kernel_rfl) (by kernel_rfl) q1 (fun hS => ?_)
              refine walk_take 0 (v := ?v101) rfl (by kernel_rfl) (by kernel_rfl) (by kernel_rfl) (fun _ _ _ h => h) (hS) (Or.inl ⟨by rfl, ?y101⟩) ?r101
              case y101 => intro w hSw; (try dsimp only at hSw); go_simp; try rfl
              case' r101 => try simp only [Act.put, List.setIfInBounds_toArray, List.set_cons_zero, List.set_cons_succ]
              refine walk_take 1 (v := ?v102) rfl (by kernel_rfl) (by kernel_rfl) (by kernel_rfl) (fun _ _ _ h => h) (hS) (Or.inl ⟨by rfl, ?y102⟩) ?r102
              case y102 => intro w hSw; (try dsimp only at hSw); go_simp; try rfl
              case' r102 => try simp only [Act.put, List.setIfInBounds_toArray, List.set_cons_zero, List.set_cons_succ]
              refine walk_take 2 (v := ?v103) rfl (by kernel_rfl) (by kernel_rfl) (by kernel_rfl) (fun _ _ _ h => h) (hS) (Or.inl ⟨by rfl, ?y103⟩) ?r103
              case y103 => intro w hSw; (try dsimp only at hSw); go_simp; try rfl
              case' r103 => try simp only [Act.put, List.setIfInBounds_toArray, List.set_cons_zero, List.set_cons_succ]
              refine walk_take 3 (v := ?v104) rfl (by kernel_rfl) (by kernel_rfl) (by kernel_rfl) (fun _ _ _ h => h) (hS) (Or.inl ⟨by rfl, ?y104⟩) ?r104
              case y104 => intro w hSw; (try dsimp only at hSw); go_simp; try rfl
              case' r104 => try simp only [Act.put, List.setIfInBounds_toArray, List.set_cons_zero, List.set_cons_succ]
              refine walk_take 4 (v := ?v105) rfl (by kernel_rfl) (by kernel_rfl) (by kernel_rfl) (fun _ _ _ h => h) (hS) (Or.inl ⟨by rfl, ?y105⟩) ?r105
              case y105 => intro w hSw; (try dsimp only at hSw); go_simp; try rfl
              case' r105 => try simp only [Act.put, List.setIfInBounds_toArray, List.set_cons_zero, List.set_cons_succ]
              refine walk_take 5 (v := ?v106) rfl (by kernel_rfl) (by kernel_rfl) (by kernel_rfl) (fun _ _ _ h => h) (hS) (Or.inl ⟨by rfl, ?y106⟩) ?r106
              case y106 => intro w hSw; (try dsimp only at hSw); go_simp; try rfl
              case' r106 => try simp only [Act.put, List.setIfInBounds_toArray, List.set_cons_zero, List.set_cons_succ]
              refine walk_take 6 (v := ?v107) rfl (by kernel_rfl) (by kernel_rfl) (by kernel_rfl) (fun _ _ _ h => h) (hS) (Or.inl ⟨by rfl, ?y107⟩) ?r107
              case y107 => intro w hSw; (try dsimp only at hSw); go_simp; try rfl
              case' r107 => try simp only [Act.put, List.setIfInBounds_toArray, List.set_cons_zero, List.set_cons_succ]
              refine walk_step 7 rfl (by kernel_rfl) (by kernel_rfl) (fun K hK => ?tag)
              case tag =>
                go_simp
                refine (HT.out wr.drew hxw.drew (some ⟨bX, oX, none⟩) (b.take q8) q8 xc hbtl (Nat.le_trans hq8b (by decide)) hbt.drew).mono ?_
                rintro e w5 ⟨TA, tc, rfl, hTO, hb5⟩
                rw [htg] at hTO ⊢
                have hb5' : Below wr.heap.size wr w5 := ((Below.refl wr.heap.size wr).drew).trans hb5
                have bk5 := bk.step hb5'
                refine hK _ _ (bk5.cell' (i := 1) rfl) ?_
                clear hK K
                try simp only [Act.put, List.setIfInBounds_toArray, List.set_cons_zero, List.set_cons_succ]
                refine walk_take 8 (v := ?v201) rfl (by kernel_rfl) (by kernel_rfl) (by kernel_rfl) (fun _ _ _ h => h) (bk5.cell' (i := 1) rfl) (Or.inl ⟨by rfl, ?y201⟩) ?r201
                case y201 => intro w hSw; (try dsimp only at hSw); go_simp; try rfl
                case' r201 => try simp only [Act.put, List.setIfInBounds_toArray, List.set_cons_zero, List.set_cons_succ]
                refine walk_take 9 (v := ?v202) rfl (by kernel_rfl) (by kernel_rfl) (by kernel_rfl) (fun _ _ _ h => h) (bk5.cell' (i := 1) rfl) (Or.inl ⟨by rfl, ?y202⟩) ?r202
                case y202 => intro w hSw; (try dsimp only at hSw); go_simp; try rfl
                case' r202 => try simp only [Act.put, List.setIfInBounds_toArray, List.set_cons_zero, List.set_cons_succ]
                refine walk_take 10 (v := ?v203) rfl (by kernel_rfl) (by kernel_rfl) (by kernel_rfl) (fun _ _ _ h => h) (bk5.cell' (i := 1) rfl) (Or.inl ⟨by rfl, ?y203⟩) ?r203
                case y203 => intro w hSw; (try dsimp only at hSw); go_simp; try rfl
                case' r203 => try simp only [Act.put, List.setIfInBounds_toArray, List.set_cons_zero, List.set_cons_succ]
                refine walk_take 11 (v := ?v204) rfl (by kernel_rfl) (by kernel_rfl) (by kernel_rfl) (fun _ _ _ h => h) (bk5.cell' (i := 1) rfl) (Or.inl ⟨by rfl, ?y204⟩) ?r204
                case y204 => intro w hSw; (try dsimp only at hSw); go_simp; try rfl
                case' r204 => try simp only [Act.put, List.setIfInBounds_toArray, List.set_cons_zero, List.set_cons_succ]
                refine walk_tail (by kernel_rfl) ?_
                simp only [List.drop_succ_cons, List.drop_zero]
                replace b0 := b0.step hb5'
                replace b1 := b1.step hb5'
                replace hO := hO.step hb5'
                replace hD := hD.step hb5'
                have hXv5 := hXv.step hb5'
                replace hB := hB.trans (hb5'.mono hB.size)
                have z5 := hb5'.size
                clear hb5 hb5' hS hXv bk q1 hbt hxw
                go_wp2_with fail
                have hTr : Rd w5 TA (bvs (tagL (words.map Int.toNat) cN (b.take q8))) := hTO.rd
                obtain ⟨TL, hTL⟩ : ∃ TL, TL = tagL (words.map Int.toNat) cN (b.take q8) := ⟨_, rfl⟩
                rw [← hTL] at hTr htg
                have HTL := Lib.hid hTL
                clear hTL hTO
                obtain ⟨gt, ot, rfl, _⟩ := hTr.byte (k := 0) (by omega)
                have hDr : Rd w5 (some ⟨bX, oX + q8, none⟩) (bvs (b.drop q8)) := by have := hXv5.drop_lit q8; simpa [bvs, List.map_drop] using this
                have hDl : (b.drop q8).length = 8 := by rw [List.length_drop, HNB.out]; omega
                have hnum : ∀ (l : List UInt8) (v : World) (g o : Nat), l.length = 8 → Rd v (some ⟨g, o, none⟩) (bvs l) → ∀ cap dst, Try.prog.underlying dst = some .string → (convert 22 dst (.slice (some ⟨g, o, none⟩) 8 cap)).run Try.prog v = .ok (.string (strOfNums (l.map fun x => (x.toNat : Int)))) v := fun l v g o hl hr cap dst hd =>
                  run_convert_bytes_arg v 22 5 Try.underlying22 Try.underlying5 g o 8 cap (l.map fun x => (x.toNat : Int)) (by simpa using hl) (fun i hi => by
                    have := hr.cell (bvs_get (k := i) (show i < l.length by omega))
                    rw [this]
                    simp [List.getD, show i < l.length by omega]) dst hd
                obtain ⟨sT, hsT⟩ : ∃ sT, sT = strOfNums (TL.map fun x => (x.toNat : Int)) := ⟨_, rfl⟩
                obtain ⟨sB, hsB⟩ : ∃ sB, sB = strOfNums ((b.drop q8).map fun x => (x.toNat : Int)) := ⟨_, rfl⟩
                have hcT := fun (v : World) (hv : Below w5.heap.size w5 v) => hnum TL v gt ot htg (hTr.step hv)
                have hcB := fun (v : World) (hv : Below w5.heap.size w5 v) => hnum (b.drop q8) v bX (oX + q8) hDl (hDr.step hv)
                rw [← hsT] at hcT
                rw [← hsB] at hcB
                have HST := Lib.hid (show sT.toList = TL by rw [hsT, str_list])
                have HSB := Lib.hid (show sB.toList = b.drop q8 by rw [hsB, str_list])
                clear hsT hsB
                have hxq : ¬ xc = q8 := Nat.ne_of_gt (Nat.lt_of_lt_of_le (Nat.lt_add_of_pos_right (by decide)) hxc)
                clear hnum
                refine heldRegion (fun v => Below w5.heap.size w5 v) 7 (by kernel_rfl) (by kernel_rfl) (Below.refl _ _).drew (fun hS5 => ?_)
                refine walk_take 0 (v := ?v300) rfl (by kernel_rfl) (by kernel_rfl) (by kernel_rfl) (fun _ _ _ h => h) (hS5) (Or.inl ⟨by rfl, ?y300⟩) ?r300
                case y300 => intro w hSw; (try dsimp only at hSw); go_simp; try rfl
                case' r300 => try simp only [Act.put, List.setIfInBounds_toArray, List.set_cons_zero, List.set_cons_succ]
                refine walk_take 1 (v := ?v301) rfl (by kernel_rfl) (by kernel_rfl) (by kernel_rfl) (fun _ _ _ h => h) (hS5) (Or.inl ⟨by rfl, ?y301⟩) ?r301
                case y301 => intro w hSw; have hc := hcT w hSw tc 9 Try.underlying9; (try dsimp only at hSw); go_simp; try rfl
                case' r301 => try simp only [Act.put, List.setIfInBounds_toArray, List.set_cons_zero, List.set_cons_succ]
                refine walk_take 2 (v := ?v302) rfl (by kernel_rfl) (by kernel_rfl) (by kernel_rfl) (fun _ _ _ h => h) (hS5) (Or.inl ⟨by rfl, ?y302⟩) ?r302
                case y302 => intro w hSw; (try dsimp only at hSw); go_simp; try rfl
                case' r302 => try simp only [Act.put, List.setIfInBounds_toArray, List.set_cons_zero, List.set_cons_succ]
                refine walk_take 3 (v := ?v303) rfl (by kernel_rfl) (by kernel_rfl) (by kernel_rfl) (fun _ _ _ h => h) (hS5) (Or.inl ⟨by rfl, ?y303⟩) ?r303
                case y303 => intro w hSw; (try dsimp only at hSw); go_simp; try rfl
                case' r303 => try simp only [Act.put, List.setIfInBounds_toArray, List.set_cons_zero, List.set_cons_succ]
                refine walk_take 4 (v := ?v304) rfl (by kernel_rfl) (by kernel_rfl) (by kernel_rfl) (fun _ _ _ h => h) (hS5) (Or.inl ⟨by rfl, ?y304⟩) ?r304
                case y304 => intro w hSw; (try dsimp only at hSw); go_simp; try rfl
                case' r304 => try simp only [Act.put, List.setIfInBounds_toArray, List.set_cons_zero, List.set_cons_succ]
                refine walk_take 5 (v := ?v305) rfl (by kernel_rfl) (by kernel_rfl) (by kernel_rfl) (fun _ _ _ h => h) (hS5) (Or.inl ⟨by rfl, ?y305⟩) ?r305
                case y305 => intro w hSw; (try dsimp only at hSw); go_simp; try rfl
                case' r305 => try simp only [Act.put, List.setIfInBounds_toArray, List.set_cons_zero, List.set_cons_succ]
                refine walk_take 6 (v := ?v306) rfl (by kernel_rfl) (by kernel_rfl) (by kernel_rfl) (fun _ _ _ h => h) (hS5) (Or.inl ⟨by rfl, ?y306⟩) ?r306
                case y306 => intro w hSw; have hc := hcB w hSw (xc - q8) 9 Try.underlying9; (try dsimp only at hSw); go_simp; try rfl
                case' r306 => try simp only [Act.put, List.setIfInBounds_toArray, List.set_cons_zero, List.set_cons_succ]
                refine walk_tail (by kernel_rfl) ?_
                simp only [List.drop_succ_cons, List.drop_zero]
                clear hcT hcB hTr hDr hxq hs1 hs3 hs4 hs5 hwr8 hwr8' hS5
                replace b0 := b0.drew
                replace b1 := b1.drew
                replace bk5 := bk5.drew
                replace hO := hO.drew
                replace hD := hD.map (fun _ _ _ _ h => h.drew)
                replace hXv5 := hXv5.drew
                replace hB := hB.drew
                replace z5 : wr.heap.size ≤ w5.drew.heap.size := z5
                generalize w5.drew = W5 at *
                have hU := HU.out
                unfold unsK at hU
                rw [HNB.out, show q8 + 8 - 8 = q8 by omega] at hU
                have hMk := hHK.out.1.2
                dsimp only at hU hMk
                have hsb : seen.toNat < 4611686018427387904 := Nat.lt_of_lt_of_le hHK.out.2 (Nat.le_trans (Nat.pow_le_pow_right (by decide) (Nat.min_le_left _ _)) (by decide))
                obtain ⟨s, rfl⟩ : ∃ s : Nat, seen = (s : Int) := ⟨seen.toNat, by have := hMk.2; omega⟩
                rw [Int.toNat_natCast] at hU hsb
                rw [← HCn.out] at hU
                by_cases hTB : TL = b.drop q8
                · have hbr : (sT.toList == sB.toList) = true := by rw [HST.out, HSB.out, hTB]; exact beq_self_eq_true _
                  rw [if_pos (by rw [← HTL.out]; exact hTB)] at hU
                  clear hTB
                  have q2 := bk5.cell' (i := 2) rfl
                  have q3 := bk5.cell' (i := 3) rfl
                  have qf := bk5.frozen
                  have hgk3 : g < kp := by have := hgk.2; have := HKP.out; omega
                  have hxl : q8 + 8 - 15 = q8 - 7 := by omega
                  rw [hxl] at hU
                  clear hxl
                  obtain ⟨hMk1, hMk2⟩ := hMk
                  obtain ⟨hMk3, hMk4⟩ := hMk1
                  rcases Int.lt_or_le (top - (cN : Int)) 0 with hneg | hpos
                  · rw [if_neg (fun h => by have := h.1; omega)] at hU
                    obtain ⟨N, hN⟩ : ∃ N, N = nextSeen s top cN := ⟨_, rfl⟩
                    have hK : nextK ⟨id2, words, top, (s : Int)⟩ cN = ⟨id2, words, (cN : Int), ((N : Nat) : Int)⟩ := by
                      unfold nextK nextTop
                      dsimp only
                      rw [if_neg (by omega), Int.toNat_natCast, hN]
                    rw [hK] at hU
                    clear hK
                    have HB := Lib.hid (fun t (ht : t < 62) => next_bit (s := s) (top := top) (C := cN) (t := t) hneg ht)
                    have hN62 : N < 4611686018427387904 := by rw [hN]; exact nextSeen_lt hneg
                    rw [← hN] at HB
                    clear hN
                    have hgeq : decide ((0 : Int) ≤ top - (cN : Int)) = false := decide_eq_false (by omega)
                    have hgt0 : decide ((0 : Int) < top - (cN : Int)) = false := decide_eq_false (by omega)
                    go_wp2_with fail
                    go_loopw [16, 17] (fun sv mv wx => ∃ t acc : Nat, t ≤ 62 ∧ mv = .int .i64 (t : Int) ∧ sv = .int .i64 (acc : Int) ∧ Hid (acc = N % 2 ^ t) ∧ wx = W5) (fun _ mv _ => 62 - (intOf mv).toNat)
                    case atStart => exact ⟨0, 0, by omega, rfl, rfl, Lib.hid (acc_zero N).symm, rfl⟩
                    case round =>
                      obtain ⟨t, acc, ht, rfl, rfl, HA, hwx⟩ := hrel
                      obtain rfl : W5 = wr := hwx.symm
                      by_cases h62 : t < 62
                      · have h62i : (t : Int) < 62 := by omega
                        have hbt := HB.out t h62
                        by_cases h0 : top < 0
                        · have hb : ¬ N / 2 ^ t % 2 = 1 := fun h => by have := (hbt.1 h).1; omega
                          have hacc : Hid (acc = N % 2 ^ (t + 1)) := Lib.hid (by rw [HA.out, acc_no hb])
                          have d0 : decide ((0 : Int) ≤ top) = false := decide_eq_false (by omega)
                          clear hbt hb
                          go_wp2_with fail
                          go_roundw
                          case rel => exact ⟨t + 1, acc, by omega, by go_num, rfl, hacc, trivial⟩
                          case measure => simp [intOf] <;> omega
                        have d0 : decide ((0 : Int) ≤ top) = true := decide_eq_true (by omega)
                        obtain ⟨x, hx⟩ : ∃ x : Int, top - ((cN : Int) - 1 - (t : Int)) = x := ⟨_, rfl⟩
                        rw [hx] at hbt
                        by_cases hb : N / 2 ^ t % 2 = 1
                        · have hacc : Hid (acc ||| 2 ^ t = N % 2 ^ (t + 1)) := Lib.hid (by rw [HA.out, acc_yes hb])
                          have HO2 := Lib.hid (or_bit acc t h62 (Nat.lt_of_le_of_lt (by rw [HA.out]; exact Nat.mod_le _ _) hN62))
                          obtain ⟨_, hcase⟩ := hbt.1 hb
                          clear hbt hb
                          rcases hcase with h0x | ⟨hx0, hbit⟩
                          · subst h0x
                            go_wp2_with fail
                            go_roundw
                            case rel => exact ⟨t + 1, acc ||| 2 ^ t, by omega, by go_num, by rw [HO2.out], hacc, trivial⟩
                            case measure => simp [intOf] <;> omega
                          · obtain ⟨e, rfl⟩ : ∃ e : Nat, x = (e : Int) + 1 := ⟨(x - 1).toNat, by omega⟩
                            rw [show ((e : Int) + 1 - 1).toNat = e by omega] at hbit
                            have hb2 := bit_i64 s e (by omega)
                            rw [hbit] at hb2
                            have d6 : ((e : Int) + 1 == 0) = false := by rw [beq_eq_false_iff_ne]; omega
                            have he62 : (e : Int) + 1 ≤ 62 := by omega
                            clear hbit
                            go_wp2_with fail
                            go_roundw
                            case rel => exact ⟨t + 1, acc ||| 2 ^ t, by omega, by go_num, by rw [HO2.out], hacc, trivial⟩
                            case measure => simp [intOf] <;> omega
                        · have hacc : Hid (acc = N % 2 ^ (t + 1)) := Lib.hid (by rw [HA.out, acc_no hb])
                          have hx00 : ¬ x = 0 := fun h => hb (hbt.2 ⟨by omega, .inl h⟩)
                          have d6 : (x == 0) = false := by rw [beq_eq_false_iff_ne]; exact hx00
                          rcases Int.lt_or_le 0 x with hx0 | hx0
                          · have hbit : ¬ s / 2 ^ (x - 1).toNat % 2 = 1 := fun h => hb (hbt.2 ⟨by omega, .inr ⟨hx0, h⟩⟩)
                            clear hbt hb
                            obtain ⟨e, rfl⟩ : ∃ e : Nat, x = (e : Int) + 1 := ⟨(x - 1).toNat, by omega⟩
                            rw [show ((e : Int) + 1 - 1).toNat = e by omega] at hbit
                            have he62 : (e : Int) + 1 ≤ 62 := by omega
                            have hb2 := bit_i64 s e (by omega)
                            rw [show s / 2 ^ e % 2 = 0 by omega] at hb2
                            clear hbit
                            go_wp2_with fail
                            go_roundw
                            case rel => exact ⟨t + 1, acc, by omega, by go_num, rfl, hacc, trivial⟩
                            case measure => simp [intOf] <;> omega
                          · have hx1 : ¬ 0 < x := by omega
                            clear hbt hb
                            go_wp2_with fail
                            go_roundw
                            case rel => exact ⟨t + 1, acc, by omega, by go_num, rfl, hacc, trivial⟩
                            case measure => simp [intOf] <;> omega
                      · obtain rfl : t = 62 := by omega
                        obtain rfl : acc = N := by rw [HA.out, acc_end hN62]
                        clear HB hgeq hgt0 HA
                        go_upto_region 34 with fail
                        have hwk : ¬ (w.heap.size = kp) := by omega
                        have hwk1 : ¬ (w.heap.size + 1 = kp) := by omega
                        have bk6 : Blk ((W5.setCell ⟨kp, 3, none⟩ (.int .i64 (acc : Int))).setCell ⟨kp, 2, none⟩ (.int .i64 (cN : Int))) kp 46 #[.int .i64 id2, .slice xA 8 xd, .int .i64 (cN : Int), .int .i64 (acc : Int)] := (bk5.set_ 3 _).set_ 2 _
                        replace b0 := (b0.far (p := ⟨kp, 3, none⟩) hwk (.int .i64 (acc : Int))).far (p := ⟨kp, 2, none⟩) hwk (.int .i64 (cN : Int))
                        replace b1 := (b1.far (p := ⟨kp, 3, none⟩) hwk1 (.int .i64 (acc : Int))).far (p := ⟨kp, 2, none⟩) hwk1 (.int .i64 (cN : Int))
                        replace hO := (hO.setFar (p := ⟨kp, 3, none⟩) (fun e => Nat.ne_of_lt hgk3 (Option.some.inj e)) (.int .i64 (acc : Int))).setFar (p := ⟨kp, 2, none⟩) (fun e => Nat.ne_of_lt hgk3 (Option.some.inj e)) (.int .i64 (cN : Int))
                        replace hD := hD.map (fun _ _ _ _ h => (h.setFar (p := ⟨kp, 3, none⟩) (h.notBlk bk5 (by decide)) (.int .i64 (acc : Int))).setFar (p := ⟨kp, 2, none⟩) (h.notBlk bk5 (by decide)) (.int .i64 (cN : Int)))
                        replace hB := (hB.setCell (p := ⟨kp, 3, none⟩) (show w.heap.size ≤ kp by omega) (.int .i64 (acc : Int))).setCell (p := ⟨kp, 2, none⟩) (show w.heap.size ≤ kp by omega) (.int .i64 (cN : Int))
                        have z6 : ((W5.setCell ⟨kp, 3, none⟩ (.int .i64 (acc : Int))).setCell ⟨kp, 2, none⟩ (.int .i64 (cN : Int))).heap.size = W5.heap.size := by simp
                        clear q2 q3 qf hbr HST HSB bk5 hXv5
                        generalize (W5.setCell ⟨kp, 3, none⟩ (.int .i64 (acc : Int))).setCell ⟨kp, 2, none⟩ (.int .i64 (cN : Int)) = W6 at *
                        obtain ⟨rfl, rfl, hid2, rfl⟩ : M = L.set i ⟨id2, words, (cN : Int), (acc : Int)⟩ ∧ body = coverL (words.map Int.toNat) cN ((b.drop 7).take (q8 - 7)) ∧ id = id2 ∧ err = 0 := by simpa using hU
                        obtain rfl : k = n := by rw [← HK.out, List.length_set, HN.out]
                        clear hU
                        have hgl := hO.lt g rfl
                        have hgw : ¬ (w.heap.size = g) := by omega
                        have hgw1 : ¬ (w.heap.size + 1 = g) := by omega
                        have hwg2 : w.heap.size ≤ g := by omega
                        have s0 := hO.set (i * 4) (by omega) (.int .i64 id2)
                        have s1 := s0.set (i * 4 + 1) (by omega) (.slice xA 8 xd)
                        have s3 := s1.set (i * 4 + 2) (by omega) (.int .i64 (cN : Int))
                        have e0 : W6.cell? ⟨g, o + i * 4, none⟩ = some (.int .i64 id2) := hO.cell ((kvs_get hx (j := 0) (by omega)).trans rfl)
                        have e1 : (W6.setCell ⟨g, o + i * 4, none⟩ (.int .i64 id2)).cell? ⟨g, o + i * 4 + 1, none⟩ = some (.slice xA words.length xd) := s0.cell (i := i * 4 + 1) (by rw [List.getElem?_set_ne (by omega)]; exact (kvs_get hx (j := 1) (by omega)).trans rfl)
                        have e2 : ((W6.setCell ⟨g, o + i * 4, none⟩ (.int .i64 id2)).setCell ⟨g, o + i * 4 + 1, none⟩ (.slice xA 8 xd)).cell? ⟨g, o + i * 4 + 2, none⟩ = some (.int .i64 top) := s1.cell (i := i * 4 + 2) (by rw [List.getElem?_set_ne (by omega), List.getElem?_set_ne (by omega)]; exact (kvs_get hx (j := 2) (by omega)).trans rfl)
                        have e3 : (((W6.setCell ⟨g, o + i * 4, none⟩ (.int .i64 id2)).setCell ⟨g, o + i * 4 + 1, none⟩ (.slice xA 8 xd)).setCell ⟨g, o + i * 4 + 2, none⟩ (.int .i64 (cN : Int))).cell? ⟨g, o + i * 4 + 3, none⟩ = some (.int .i64 (s : Int)) := s3.cell (i := i * 4 + 3) (by rw [List.getElem?_set_ne (by omega), List.getElem?_set_ne (by omega), List.getElem?_set_ne (by omega)]; exact (kvs_get hx (j := 3) (by omega)).trans rfl)
                        have f0 : ∀ r, W6.frozen? ⟨g, r, none⟩ = false := fun r => hO.frozen r
                        have f1 : ∀ r, (W6.setCell ⟨g, o + i * 4, none⟩ (.int .i64 id2)).frozen? ⟨g, r, none⟩ = false := fun r => s0.frozen r
                        have f2 : ∀ r, ((W6.setCell ⟨g, o + i * 4, none⟩ (.int .i64 id2)).setCell ⟨g, o + i * 4 + 1, none⟩ (.slice xA 8 xd)).frozen? ⟨g, r, none⟩ = false := fun r => s1.frozen r
                        have f3 : ∀ r, (((W6.setCell ⟨g, o + i * 4, none⟩ (.int .i64 id2)).setCell ⟨g, o + i * 4 + 1, none⟩ (.slice xA 8 xd)).setCell ⟨g, o + i * 4 + 2, none⟩ (.int .i64 (cN : Int))).frozen? ⟨g, r, none⟩ = false := fun r => s3.frozen r
                        have k0 := b0.cell' (i := 0) rfl
                        obtain ⟨z0, z1, z2, z3, zf⟩ := bk6.four
                        obtain ⟨m', hm', hO', hD', hx9⟩ := stored_at (t := (cN : Int)) (s := (acc : Int)) hO hD hx h5
                        replace hm' : m'.map KyR.k = L.set i ⟨id2, words, (cN : Int), (acc : Int)⟩ := by rw [hm', hm]
                        dsimp only at hO' hD' hx9
                        rw [hl8] at hO' hD' hx9
                        replace hO' : Own ((((W6.setCell ⟨g, o + i * 4, none⟩ (.int .i64 id2)).setCell ⟨g, o + i * 4 + 1, none⟩ (.slice xA 8 xd)).setCell ⟨g, o + i * 4 + 2, none⟩ (.int .i64 (cN : Int))).setCell ⟨g, o + i * 4 + 3, none⟩ (.int .i64 (acc : Int))) w1.heap.size 46 4 (some ⟨g, o, none⟩) k d2 (kvs m') := hO'
                        replace hD' : OwnWords ((((W6.setCell ⟨g, o + i * 4, none⟩ (.int .i64 id2)).setCell ⟨g, o + i * 4 + 1, none⟩ (.slice xA 8 xd)).setCell ⟨g, o + i * 4 + 2, none⟩ (.int .i64 (cN : Int))).setCell ⟨g, o + i * 4 + 3, none⟩ (.int .i64 (acc : Int))) w1.heap.size m' := hD'
                        replace hx9 : Rd ((((W6.setCell ⟨g, o + i * 4, none⟩ (.int .i64 id2)).setCell ⟨g, o + i * 4 + 1, none⟩ (.slice xA 8 xd)).setCell ⟨g, o + i * 4 + 2, none⟩ (.int .i64 (cN : Int))).setCell ⟨g, o + i * 4 + 3, none⟩ (.int .i64 (acc : Int))) xA (ivs words) := hx9
                        have b0' := ((((b0.far (p := ⟨g, o + i * 4, none⟩) hgw (.int .i64 id2)).far (p := ⟨g, o + i * 4 + 1, none⟩) hgw (.slice xA 8 xd)).far (p := ⟨g, o + i * 4 + 2, none⟩) hgw (.int .i64 (cN : Int))).far (p := ⟨g, o + i * 4 + 3, none⟩) hgw (.int .i64 (acc : Int)))
                        have b1' := ((((b1.far (p := ⟨g, o + i * 4, none⟩) hgw1 (.int .i64 id2)).far (p := ⟨g, o + i * 4 + 1, none⟩) hgw1 (.slice xA 8 xd)).far (p := ⟨g, o + i * 4 + 2, none⟩) hgw1 (.int .i64 (cN : Int))).far (p := ⟨g, o + i * 4 + 3, none⟩) hgw1 (.int .i64 (acc : Int)))
                        have bk' := ((((bk6.far (p := ⟨g, o + i * 4, none⟩) (Nat.ne_of_gt hgk3) (.int .i64 id2)).far (p := ⟨g, o + i * 4 + 1, none⟩) (Nat.ne_of_gt hgk3) (.slice xA 8 xd)).far (p := ⟨g, o + i * 4 + 2, none⟩) (Nat.ne_of_gt hgk3) (.int .i64 (cN : Int))).far (p := ⟨g, o + i * 4 + 3, none⟩) (Nat.ne_of_gt hgk3) (.int .i64 (acc : Int)))
                        have hB' := ((((hB.setCell (p := ⟨g, o + i * 4, none⟩) hwg2 (.int .i64 id2)).setCell (p := ⟨g, o + i * 4 + 1, none⟩) hwg2 (.slice xA 8 xd)).setCell (p := ⟨g, o + i * 4 + 2, none⟩) hwg2 (.int .i64 (cN : Int))).setCell (p := ⟨g, o + i * 4 + 3, none⟩) hwg2 (.int .i64 (acc : Int)))
                        have z6' : ((((W6.setCell ⟨g, o + i * 4, none⟩ (.int .i64 id2)).setCell ⟨g, o + i * 4 + 1, none⟩ (.slice xA 8 xd)).setCell ⟨g, o + i * 4 + 2, none⟩ (.int .i64 (cN : Int))).setCell ⟨g, o + i * 4 + 3, none⟩ (.int .i64 (acc : Int))).heap.size = W6.heap.size := by simp
                        clear s0 s1 s3
                        go_wp2_with fail
                        clear e0 e1 e2 e3 f0 f1 f2 f3 k0 z0 z1 z2 z3 zf b0 b1 bk6 hO hD hB
                        generalize ((((W6.setCell ⟨g, o + i * 4, none⟩ (.int .i64 id2)).setCell ⟨g, o + i * 4 + 1, none⟩ (.slice xA 8 xd)).setCell ⟨g, o + i * 4 + 2, none⟩ (.int .i64 (cN : Int))).setCell ⟨g, o + i * 4 + 3, none⟩ (.int .i64 (acc : Int))) = W9 at *
                        have k0 := b0'.cell' (i := 0) rfl
                        have z0 := bk'.cell' (i := 0) rfl
                        have z1 := bk'.cell' (i := 1) rfl
                        have hXv9 := HXr.out.below hB'
                        have hbm := (hXv9.drop_lit 7).take (q8 - 7)
                        have hbm2 : Rd W9 (some ⟨bX, oX + 7, none⟩) (bvs ((b.drop 7).take (q8 - 7))) := by simpa [bvs, List.map_drop, List.map_take] using hbm
                        have hbl : ((b.drop 7).take (q8 - 7)).length = q8 - 7 := by rw [List.length_take, List.length_drop, HNB.out]; omega
                        have hq7 : (7 : Int) ≤ (q8 : Int) := by omega
                        have hs3 : (q8 : Int) ≤ (xc : Int) := by omega
                        have hs4 : (q8 : Int) + 8 ≤ (xc : Int) := by omega
                        have hs5 : (0 : Int) ≤ (q8 : Int) := by omega
                        have hx7 : ¬ xc = 7 := Nat.ne_of_gt (Nat.lt_of_lt_of_le (Nat.lt_of_le_of_lt hq8 (Nat.lt_add_of_pos_right (by decide))) hxc)
                        have hwr8 : IntKind.i64.wrap (q8 : Int) = (q8 : Int) := IntWalk.i64_in _ (by omega)
                        have hwr8' : wrap64 (q8 : Int) = (q8 : Int) := IntWalk.wrap64_in _ (by omega)
                        have hq60 : q8 - 7 ≤ 60000 := Nat.le_trans (Nat.sub_le _ _) (Nat.le_trans hq8b (by decide))
                        clear hbm
                        refine heldRegion (fun v => v.cell? ⟨w.heap.size, 0, none⟩ = some (.slice (some ⟨g, o, none⟩) k d2) ∧ v.cell? ⟨kp, 1, none⟩ = some (.slice xA 8 xd) ∧ v.cell? ⟨kp, 0, none⟩ = some (.int .i64 id2)) 13 (by kernel_rfl) (by kernel_rfl) ⟨k0, z1, z0⟩ (fun hS9 => ?_)
                        refine walk_take 0 (v := ?vn400) rfl (by kernel_rfl) (by kernel_rfl) (by kernel_rfl) (fun _ _ _ h => h) (hS9) (Or.inl ⟨by rfl, ?yn400⟩) ?rn400
                        case yn400 => intro w hSw; obtain ⟨hw1, hw2, hw3⟩ := hSw; (try dsimp only at hSw); go_simp; try rfl
                        case' rn400 => try simp only [Act.put, List.setIfInBounds_toArray, List.set_cons_zero, List.set_cons_succ]
                        refine walk_take 1 (v := ?vn401) rfl (by kernel_rfl) (by kernel_rfl) (by kernel_rfl) (fun _ _ _ h => h) (hS9) (Or.inl ⟨by rfl, ?yn401⟩) ?rn401
                        case yn401 => intro w hSw; obtain ⟨hw1, hw2, hw3⟩ := hSw; (try dsimp only at hSw); go_simp; try rfl
                        case' rn401 => try simp only [Act.put, List.setIfInBounds_toArray, List.set_cons_zero, List.set_cons_succ]
                        refine walk_take 2 (v := ?vn402) rfl (by kernel_rfl) (by kernel_rfl) (by kernel_rfl) (fun _ _ _ h => h) (hS9) (Or.inl ⟨by rfl, ?yn402⟩) ?rn402
                        case yn402 => intro w hSw; obtain ⟨hw1, hw2, hw3⟩ := hSw; (try dsimp only at hSw); go_simp; try rfl
                        case' rn402 => try simp only [Act.put, List.setIfInBounds_toArray, List.set_cons_zero, List.set_cons_succ]
                        refine walk_take 3 (v := ?vn403) rfl (by kernel_rfl) (by kernel_rfl) (by kernel_rfl) (fun _ _ _ h => h) (hS9) (Or.inl ⟨by rfl, ?yn403⟩) ?rn403
                        case yn403 => intro w hSw; obtain ⟨hw1, hw2, hw3⟩ := hSw; (try dsimp only at hSw); go_simp; try rfl
                        case' rn403 => try simp only [Act.put, List.setIfInBounds_toArray, List.set_cons_zero, List.set_cons_succ]
                        refine walk_take 4 (v := ?vn404) rfl (by kernel_rfl) (by kernel_rfl) (by kernel_rfl) (fun _ _ _ h => h) (hS9) (Or.inl ⟨by rfl, ?yn404⟩) ?rn404
                        case yn404 => intro w hSw; obtain ⟨hw1, hw2, hw3⟩ := hSw; (try dsimp only at hSw); go_simp; try rfl
                        case' rn404 => try simp only [Act.put, List.setIfInBounds_toArray, List.set_cons_zero, List.set_cons_succ]
                        refine walk_take 5 (v := ?vn405) rfl (by kernel_rfl) (by kernel_rfl) (by kernel_rfl) (fun _ _ _ h => h) (hS9) (Or.inl ⟨by rfl, ?yn405⟩) ?rn405
                        case yn405 => intro w hSw; obtain ⟨hw1, hw2, hw3⟩ := hSw; (try dsimp only at hSw); go_simp; try rfl
                        case' rn405 => try simp only [Act.put, List.setIfInBounds_toArray, List.set_cons_zero, List.set_cons_succ]
                        refine walk_take 6 (v := ?vn406) rfl (by kernel_rfl) (by kernel_rfl) (by kernel_rfl) (fun _ _ _ h => h) (hS9) (Or.inl ⟨by rfl, ?yn406⟩) ?rn406
                        case yn406 => intro w hSw; obtain ⟨hw1, hw2, hw3⟩ := hSw; (try dsimp only at hSw); go_simp; try rfl
                        case' rn406 => try simp only [Act.put, List.setIfInBounds_toArray, List.set_cons_zero, List.set_cons_succ]
                        refine walk_take 7 (v := ?vn407) rfl (by kernel_rfl) (by kernel_rfl) (by kernel_rfl) (fun _ _ _ h => h) (hS9) (Or.inl ⟨by rfl, ?yn407⟩) ?rn407
                        case yn407 => intro w hSw; obtain ⟨hw1, hw2, hw3⟩ := hSw; (try dsimp only at hSw); go_simp; try rfl
                        case' rn407 => try simp only [Act.put, List.setIfInBounds_toArray, List.set_cons_zero, List.set_cons_succ]
                        refine walk_take 9 (v := ?vn409) rfl (by kernel_rfl) (by kernel_rfl) (by kernel_rfl) (fun _ _ _ h => h) (hS9) (Or.inl ⟨by rfl, ?yn409⟩) ?rn409
                        case yn409 => intro w hSw; obtain ⟨hw1, hw2, hw3⟩ := hSw; (try dsimp only at hSw); go_simp; try rfl
                        case' rn409 => try simp only [Act.put, List.setIfInBounds_toArray, List.set_cons_zero, List.set_cons_succ]
                        refine walk_take 10 (v := ?vn410) rfl (by kernel_rfl) (by kernel_rfl) (by kernel_rfl) (fun _ _ _ h => h) (hS9) (Or.inl ⟨by rfl, ?yn410⟩) ?rn410
                        case yn410 => intro w hSw; obtain ⟨hw1, hw2, hw3⟩ := hSw; (try dsimp only at hSw); go_simp; try rfl
                        case' rn410 => try simp only [Act.put, List.setIfInBounds_toArray, List.set_cons_zero, List.set_cons_succ]
                        refine walk_step 8 rfl (by kernel_rfl) (by kernel_rfl) (fun K hK => ?covn)
                        case covn =>
                          go_simp
                          refine (HV.out W9.drew hx9.drew (some ⟨bX, oX + 7, none⟩) ((b.drop 7).take (q8 - 7)) (q8 - 7) (xc - 7) hbl hq60 hbm2.drew).mono ?_
                          rintro e w10 ⟨A5, c5, rfl, hR5, hb10⟩
                          rw [HKB.out] at hR5 ⊢
                          have hb10' : Below W9.heap.size W9 w10 := ((Below.refl W9.heap.size W9).drew).trans hb10
                          have z10 := hb10'.size
                          have b0 := b0'.step hb10'
                          have b1 := b1'.step hb10'
                          have bk := bk'.step hb10'
                          have hO := hO'.step hb10'
                          have hD := hD'.step hb10'
                          have hB := hB'.trans (hb10'.mono hB'.size)
                          have hz9 : w.heap.size + 2 ≤ W9.heap.size := by omega
                          refine hK _ _ ⟨b0.cell' (i := 0) rfl, bk.cell' (i := 1) rfl, bk.cell' (i := 0) rfl⟩ ?_
                          clear hK K hb10 hb10' hS9
                          try simp only [Act.put, List.setIfInBounds_toArray, List.set_cons_zero, List.set_cons_succ]
                          have e1 := b1.cell' (i := 0) rfl
                          have ef := b1.frozen
                          have b2 := blk1_set b1 (.slice (some ⟨g, o, none⟩) k d2)
                          have e2 := b2.cell' (i := 0) rfl
                          have b0s := b0.far (p := ⟨w.heap.size + 1, 0, none⟩) (Nat.ne_of_lt (Nat.lt_succ_self _)) (.slice (some ⟨g, o, none⟩) k d2)
                          have bks := bk.far (p := ⟨w.heap.size + 1, 0, none⟩) (Nat.ne_of_gt (Nat.lt_of_lt_of_le (Nat.lt_succ_self _) hkp2)) (.slice (some ⟨g, o, none⟩) k d2)
                          refine walk_step 11 rfl (by kernel_rfl) (by kernel_rfl) (fun K hK => ?ston)
                          case ston =>
                            go_simp
                            refine hK _ _ ⟨b0s.cell' (i := 0) rfl, bks.cell' (i := 1) rfl, bks.cell' (i := 0) rfl⟩ ?_
                            clear hK K
                            try simp only [Act.put, List.setIfInBounds_toArray, List.set_cons_zero, List.set_cons_succ]
                            refine walk_take 12 (v := ?vn450) rfl (by kernel_rfl) (by kernel_rfl) (by kernel_rfl) (fun _ _ _ h => h) (⟨b0s.cell' (i := 0) rfl, bks.cell' (i := 1) rfl, bks.cell' (i := 0) rfl⟩) (Or.inl ⟨by rfl, ?yn450⟩) ?rn450
                            case yn450 => intro w hSw; (try dsimp only at hSw); go_simp; try rfl
                            case' rn450 => try simp only [Act.put, List.setIfInBounds_toArray, List.set_cons_zero, List.set_cons_succ]
                            refine walk_tail (by kernel_rfl) ?_
                            simp only [List.drop_succ_cons, List.drop_zero]
                            go_wp2_with fail
                            refine bodyPost_ret (v := .tuple #[.agg #[.slice (some ⟨g, o, none⟩) k d2], .slice A5 kb c5, .int .i64 id2, .int .i64 0]) (by simp [results, Try.results33, go_sem, e2]) rfl ?_
                            rw [hid2]
                            refine ⟨some ⟨g, o, none⟩, d2, A5, c5, rfl, ⟨m', hm', ?_, ?_⟩, ?_, hB.setCell (p := ⟨w.heap.size + 1, 0, none⟩) (by simp) _⟩
                            · exact (hO.setFar (p := ⟨w.heap.size + 1, 0, none⟩) (fun e => by have : w1.heap.size ≤ w.heap.size + 1 := (hO.lt _ e).1; omega) _).mono (by omega)
                            · exact hD.map (fun _ _ _ _ h => (h.setFar (p := ⟨w.heap.size + 1, 0, none⟩) (fun e => by have : w1.heap.size ≤ w.heap.size + 1 := (h.lt _ e).1; omega) _).mono (by omega))
                            · exact (hR5.setFar (p := ⟨w.heap.size + 1, 0, none⟩) (fun e => by have : W9.heap.size ≤ w.heap.size + 1 := (hR5.lt _ e).1; omega) _).mono (by show w.heap.size ≤ W9.heap.size; omega)
                  · obtain ⟨tn, rfl⟩ : ∃ tn : Nat, top = (tn : Int) := ⟨top.toNat, by omega⟩
                    obtain ⟨dn, hdn⟩ : ∃ dn : Nat, (tn : Int) - (cN : Int) = (dn : Int) := ⟨tn - cN, by omega⟩
                    have hdb : dn ≤ 281474976710655 := by omega
                    by_cases hold : oldC s tn cN
                    · rw [if_pos hold] at hU
                      obtain ⟨rfl, rfl, rfl, rfl⟩ : M = L ∧ body = [] ∧ id = 0 ∧ err = 13 := by simpa using hU
                      obtain rfl : kb = 0 := by rw [← HKB.out]; rfl
                      obtain rfl : k = n := by rw [← HK.out, HN.out]
                      clear hU
                      have ho := hold.2
                      rw [hdn] at ho
                      have k0 := b0.cell' (i := 0) rfl
                      have e1 := b1.cell' (i := 0) rfl
                      have ef := b1.frozen
                      have b2 := blk1_set b1 (.slice (some ⟨g, o, none⟩) k d2)
                      have e2 := b2.cell' (i := 0) rfl
                      clear hold
                      by_cases h62 : 62 < dn
                      · have d2' : decide ((62 : Int) < (dn : Int)) = true := decide_eq_true (by omega)
                        clear ho
                        go_wp2_with fail
                        refine bodyPost_ret (v := .tuple #[.agg #[.slice (some ⟨g, o, none⟩) k d2], .slice none 0 0, .int .i64 0, .int .i64 13]) (by simp [results, Try.results33, go_sem, e2]) rfl ?_
                        exact AsRes.same hm (hO.setFar (p := ⟨w.heap.size + 1, 0, none⟩) (fun e => by have : w1.heap.size ≤ w.heap.size + 1 := (hO.lt _ e).1; omega) _) (hD.map (fun _ _ _ _ h => h.setFar (p := ⟨w.heap.size + 1, 0, none⟩) (fun e => by have : w1.heap.size ≤ w.heap.size + 1 := (h.lt _ e).1; omega) _)) (by omega) (hB.setCell (p := ⟨w.heap.size + 1, 0, none⟩) (by simp) _)
                      by_cases h0 : dn = 0
                      · subst h0
                        clear ho
                        go_wp2_with fail
                        refine bodyPost_ret (v := .tuple #[.agg #[.slice (some ⟨g, o, none⟩) k d2], .slice none 0 0, .int .i64 0, .int .i64 13]) (by simp [results, Try.results33, go_sem, e2]) rfl ?_
                        exact AsRes.same hm (hO.setFar (p := ⟨w.heap.size + 1, 0, none⟩) (fun e => by have : w1.heap.size ≤ w.heap.size + 1 := (hO.lt _ e).1; omega) _) (hD.map (fun _ _ _ _ h => h.setFar (p := ⟨w.heap.size + 1, 0, none⟩) (fun e => by have : w1.heap.size ≤ w.heap.size + 1 := (h.lt _ e).1; omega) _)) (by omega) (hB.setCell (p := ⟨w.heap.size + 1, 0, none⟩) (by simp) _)
                      · have hb : s / 2 ^ (dn - 1) % 2 = 1 := by
                          rcases ho with h | h | h
                          · omega
                          · omega
                          · rw [show ((dn : Int) - 1).toNat = dn - 1 by omega] at h; exact h
                        obtain ⟨e, rfl⟩ : ∃ e, dn = e + 1 := ⟨dn - 1, by omega⟩
                        have hbit := bit_i64 s e (by omega)
                        rw [show s / 2 ^ e % 2 = 1 from hb] at hbit
                        have d3 : (((e + 1 : Nat) : Int) == 0) = false := by rw [beq_eq_false_iff_ne]; omega
                        have d4 : decide ((0 : Int) < ((e + 1 : Nat) : Int)) = true := decide_eq_true (by omega)
                        have d5 : decide ((0 : Int) < (e : Int) + 1) = true := decide_eq_true (by omega)
                        have d6 : ((e : Int) + 1 == 0) = false := by rw [beq_eq_false_iff_ne]; omega
                        have d7 : decide ((62 : Int) < (e : Int) + 1) = false := decide_eq_false (by omega)
                        have he62 : (e : Int) < 62 := by omega
                        have he0 : (0 : Int) ≤ (e : Int) := by omega
                        have d8 : decide ((0 : Int) ≤ (e : Int) + 1) = true := decide_eq_true (by omega)
                        clear ho hb h62 h0
                        go_wp2_with fail
                        refine bodyPost_ret (v := .tuple #[.agg #[.slice (some ⟨g, o, none⟩) k d2], .slice none 0 0, .int .i64 0, .int .i64 13]) (by simp [results, Try.results33, go_sem, e2]) rfl ?_
                        exact AsRes.same hm (hO.setFar (p := ⟨w.heap.size + 1, 0, none⟩) (fun e => by have : w1.heap.size ≤ w.heap.size + 1 := (hO.lt _ e).1; omega) _) (hD.map (fun _ _ _ _ h => h.setFar (p := ⟨w.heap.size + 1, 0, none⟩) (fun e => by have : w1.heap.size ≤ w.heap.size + 1 := (h.lt _ e).1; omega) _)) (by omega) (hB.setCell (p := ⟨w.heap.size + 1, 0, none⟩) (by simp) _)
                    · rw [if_neg hold] at hU
                      have hn2 : ¬ (dn = 0) ∧ ¬ 62 < dn ∧ ¬ s / 2 ^ (dn - 1) % 2 = 1 := by
                        refine ⟨fun h => hold ⟨hpos, .inl (by omega)⟩, fun h => hold ⟨hpos, .inr (.inl (by omega))⟩, fun h => hold ⟨hpos, .inr (.inr ?_)⟩⟩
                        rw [show ((tn : Int) - (cN : Int) - 1).toNat = dn - 1 by omega]
                        exact h
                      obtain ⟨h0, h62, hb⟩ := hn2
                      obtain ⟨e, rfl⟩ : ∃ e, dn = e + 1 := ⟨dn - 1, by omega⟩
                      have hK : nextK ⟨id2, words, (tn : Int), (s : Int)⟩ cN = ⟨id2, words, (tn : Int), ((s ||| 2 ^ e : Nat) : Int)⟩ := by
                        unfold nextK nextTop nextSeen
                        dsimp only
                        rw [if_pos (by omega), if_pos (by omega), Int.toNat_natCast, show ((tn : Int) - (cN : Int) - 1).toNat = e by omega]
                      rw [hK] at hU
                      clear hK hold
                      have hbit := bit_i64 s e (by omega)
                      rw [show s / 2 ^ e % 2 = 0 by rw [show e + 1 - 1 = e from rfl] at hb; omega] at hbit
                      have HV2 := Lib.hid (or_bit s e (by omega) hsb)
                      have d3 : (((e + 1 : Nat) : Int) == 0) = false := by rw [beq_eq_false_iff_ne]; omega
                      have d4 : decide ((0 : Int) < ((e + 1 : Nat) : Int)) = true := decide_eq_true (by omega)
                      have d5 : decide ((0 : Int) < (e : Int) + 1) = true := decide_eq_true (by omega)
                      have d6 : ((e : Int) + 1 == 0) = false := by rw [beq_eq_false_iff_ne]; omega
                      have d7 : decide ((62 : Int) < (e : Int) + 1) = false := decide_eq_false (by omega)
                      have d8 : decide ((0 : Int) ≤ (e : Int) + 1) = true := decide_eq_true (by omega)
                      have he62 : (e : Int) < 62 := by omega
                      have he0 : (0 : Int) ≤ (e : Int) := by omega
                      clear hb h62 h0
                      go_wp2_with fail
                      have hwr1 : IntKind.i64.wrap ((e : Int) + 1 - 1) = (e : Int) := by rw [show (e : Int) + 1 - 1 = (e : Int) by omega]; exact IntWalk.i64_in _ (by omega)
                      have hwr2 : IntKind.i64.wrap (e : Int) = (e : Int) := IntWalk.i64_in _ (by omega)
                      have hnl : ¬ ((e : Int) < 0) := by omega
                      have hnd : decide ((e : Int) < 0) = false := decide_eq_false hnl
                      go_still_tail 6, (by kernel_rfl)
                      go_upto_region 34 with fail
                      have hwk : ¬ (w.heap.size = kp) := by omega
                      have hwk1 : ¬ (w.heap.size + 1 = kp) := by omega
                      have bk6 : Blk ((W5.setCell ⟨kp, 3, none⟩ (.int .i64 (bits .or .i64 (s : Int) (wrap64 (2 ^ e))))).drew) kp 46 #[.int .i64 id2, .slice xA 8 xd, .int .i64 (tn : Int), .int .i64 (bits .or .i64 (s : Int) (wrap64 (2 ^ e)))] := bk5.set_ 3 _
                      replace b0 := (b0.far (p := ⟨kp, 3, none⟩) hwk (.int .i64 (bits .or .i64 (s : Int) (wrap64 (2 ^ e))))).drew
                      replace b1 := (b1.far (p := ⟨kp, 3, none⟩) hwk1 (.int .i64 (bits .or .i64 (s : Int) (wrap64 (2 ^ e))))).drew
                      replace hO := (hO.setFar (p := ⟨kp, 3, none⟩) (fun e => Nat.ne_of_lt hgk3 (Option.some.inj e)) (.int .i64 (bits .or .i64 (s : Int) (wrap64 (2 ^ e))))).drew
                      replace hD := hD.map (fun _ _ _ _ h => (h.setFar (p := ⟨kp, 3, none⟩) (h.notBlk bk5 (by decide)) (.int .i64 (bits .or .i64 (s : Int) (wrap64 (2 ^ e))))).drew)
                      replace hB := (hB.setCell (p := ⟨kp, 3, none⟩) (show w.heap.size ≤ kp by omega) (.int .i64 (bits .or .i64 (s : Int) (wrap64 (2 ^ e))))).drew
                      have z6 : ((W5.setCell ⟨kp, 3, none⟩ (.int .i64 (bits .or .i64 (s : Int) (wrap64 (2 ^ e))))).drew).heap.size = W5.heap.size := by simp
                      clear q2 q3 qf d3 d4 d5 d6 d7 d8 hbit hwr1 hwr2 hnl hnd hbr HST HSB bk5 hXv5
                      generalize (W5.setCell ⟨kp, 3, none⟩ (.int .i64 (bits .or .i64 (s : Int) (wrap64 (2 ^ e))))).drew = W6 at *
                      rw [← HV2.out] at hU
                      generalize bits .or .i64 (s : Int) (wrap64 (2 ^ e)) = s2 at *
                      obtain ⟨rfl, rfl, hid2, rfl⟩ : M = L.set i ⟨id2, words, (tn : Int), s2⟩ ∧ body = coverL (words.map Int.toNat) cN ((b.drop 7).take (q8 - 7)) ∧ id = id2 ∧ err = 0 := by simpa using hU
                      obtain rfl : k = n := by rw [← HK.out, List.length_set, HN.out]
                      clear hU
                      have hgl := hO.lt g rfl
                      have hgw : ¬ (w.heap.size = g) := by omega
                      have hgw1 : ¬ (w.heap.size + 1 = g) := by omega
                      have hwg2 : w.heap.size ≤ g := by omega
                      have s0 := hO.set (i * 4) (by omega) (.int .i64 id2)
                      have s1 := s0.set (i * 4 + 1) (by omega) (.slice xA 8 xd)
                      have s3 := s1.set (i * 4 + 2) (by omega) (.int .i64 (tn : Int))
                      have e0 : W6.cell? ⟨g, o + i * 4, none⟩ = some (.int .i64 id2) := hO.cell ((kvs_get hx (j := 0) (by omega)).trans rfl)
                      have e1 : (W6.setCell ⟨g, o + i * 4, none⟩ (.int .i64 id2)).cell? ⟨g, o + i * 4 + 1, none⟩ = some (.slice xA words.length xd) := s0.cell (i := i * 4 + 1) (by rw [List.getElem?_set_ne (by omega)]; exact (kvs_get hx (j := 1) (by omega)).trans rfl)
                      have e2 : ((W6.setCell ⟨g, o + i * 4, none⟩ (.int .i64 id2)).setCell ⟨g, o + i * 4 + 1, none⟩ (.slice xA 8 xd)).cell? ⟨g, o + i * 4 + 2, none⟩ = some (.int .i64 (tn : Int)) := s1.cell (i := i * 4 + 2) (by rw [List.getElem?_set_ne (by omega), List.getElem?_set_ne (by omega)]; exact (kvs_get hx (j := 2) (by omega)).trans rfl)
                      have e3 : (((W6.setCell ⟨g, o + i * 4, none⟩ (.int .i64 id2)).setCell ⟨g, o + i * 4 + 1, none⟩ (.slice xA 8 xd)).setCell ⟨g, o + i * 4 + 2, none⟩ (.int .i64 (tn : Int))).cell? ⟨g, o + i * 4 + 3, none⟩ = some (.int .i64 (s : Int)) := s3.cell (i := i * 4 + 3) (by rw [List.getElem?_set_ne (by omega), List.getElem?_set_ne (by omega), List.getElem?_set_ne (by omega)]; exact (kvs_get hx (j := 3) (by omega)).trans rfl)
                      have f0 : ∀ r, W6.frozen? ⟨g, r, none⟩ = false := fun r => hO.frozen r
                      have f1 : ∀ r, (W6.setCell ⟨g, o + i * 4, none⟩ (.int .i64 id2)).frozen? ⟨g, r, none⟩ = false := fun r => s0.frozen r
                      have f2 : ∀ r, ((W6.setCell ⟨g, o + i * 4, none⟩ (.int .i64 id2)).setCell ⟨g, o + i * 4 + 1, none⟩ (.slice xA 8 xd)).frozen? ⟨g, r, none⟩ = false := fun r => s1.frozen r
                      have f3 : ∀ r, (((W6.setCell ⟨g, o + i * 4, none⟩ (.int .i64 id2)).setCell ⟨g, o + i * 4 + 1, none⟩ (.slice xA 8 xd)).setCell ⟨g, o + i * 4 + 2, none⟩ (.int .i64 (tn : Int))).frozen? ⟨g, r, none⟩ = false := fun r => s3.frozen r
                      have k0 := b0.cell' (i := 0) rfl
                      obtain ⟨z0, z1, z2, z3, zf⟩ := bk6.four
                      obtain ⟨m', hm', hO', hD', hx9⟩ := stored_at (t := (tn : Int)) (s := s2) hO hD hx h5
                      replace hm' : m'.map KyR.k = L.set i ⟨id2, words, (tn : Int), s2⟩ := by rw [hm', hm]
                      dsimp only at hO' hD' hx9
                      rw [hl8] at hO' hD' hx9
                      replace hO' : Own ((((W6.setCell ⟨g, o + i * 4, none⟩ (.int .i64 id2)).setCell ⟨g, o + i * 4 + 1, none⟩ (.slice xA 8 xd)).setCell ⟨g, o + i * 4 + 2, none⟩ (.int .i64 (tn : Int))).setCell ⟨g, o + i * 4 + 3, none⟩ (.int .i64 s2)) w1.heap.size 46 4 (some ⟨g, o, none⟩) k d2 (kvs m') := hO'
                      replace hD' : OwnWords ((((W6.setCell ⟨g, o + i * 4, none⟩ (.int .i64 id2)).setCell ⟨g, o + i * 4 + 1, none⟩ (.slice xA 8 xd)).setCell ⟨g, o + i * 4 + 2, none⟩ (.int .i64 (tn : Int))).setCell ⟨g, o + i * 4 + 3, none⟩ (.int .i64 s2)) w1.heap.size m' := hD'
                      replace hx9 : Rd ((((W6.setCell ⟨g, o + i * 4, none⟩ (.int .i64 id2)).setCell ⟨g, o + i * 4 + 1, none⟩ (.slice xA 8 xd)).setCell ⟨g, o + i * 4 + 2, none⟩ (.int .i64 (tn : Int))).setCell ⟨g, o + i * 4 + 3, none⟩ (.int .i64 s2)) xA (ivs words) := hx9
                      have b0' := ((((b0.far (p := ⟨g, o + i * 4, none⟩) hgw (.int .i64 id2)).far (p := ⟨g, o + i * 4 + 1, none⟩) hgw (.slice xA 8 xd)).far (p := ⟨g, o + i * 4 + 2, none⟩) hgw (.int .i64 (tn : Int))).far (p := ⟨g, o + i * 4 + 3, none⟩) hgw (.int .i64 s2))
                      have b1' := ((((b1.far (p := ⟨g, o + i * 4, none⟩) hgw1 (.int .i64 id2)).far (p := ⟨g, o + i * 4 + 1, none⟩) hgw1 (.slice xA 8 xd)).far (p := ⟨g, o + i * 4 + 2, none⟩) hgw1 (.int .i64 (tn : Int))).far (p := ⟨g, o + i * 4 + 3, none⟩) hgw1 (.int .i64 s2))
                      have bk' := ((((bk6.far (p := ⟨g, o + i * 4, none⟩) (Nat.ne_of_gt hgk3) (.int .i64 id2)).far (p := ⟨g, o + i * 4 + 1, none⟩) (Nat.ne_of_gt hgk3) (.slice xA 8 xd)).far (p := ⟨g, o + i * 4 + 2, none⟩) (Nat.ne_of_gt hgk3) (.int .i64 (tn : Int))).far (p := ⟨g, o + i * 4 + 3, none⟩) (Nat.ne_of_gt hgk3) (.int .i64 s2))
                      have hB' := ((((hB.setCell (p := ⟨g, o + i * 4, none⟩) hwg2 (.int .i64 id2)).setCell (p := ⟨g, o + i * 4 + 1, none⟩) hwg2 (.slice xA 8 xd)).setCell (p := ⟨g, o + i * 4 + 2, none⟩) hwg2 (.int .i64 (tn : Int))).setCell (p := ⟨g, o + i * 4 + 3, none⟩) hwg2 (.int .i64 s2))
                      have z6' : ((((W6.setCell ⟨g, o + i * 4, none⟩ (.int .i64 id2)).setCell ⟨g, o + i * 4 + 1, none⟩ (.slice xA 8 xd)).setCell ⟨g, o + i * 4 + 2, none⟩ (.int .i64 (tn : Int))).setCell ⟨g, o + i * 4 + 3, none⟩ (.int .i64 s2)).heap.size = W6.heap.size := by simp
                      clear s0 s1 s3
                      go_wp2_with fail
                      clear e0 e1 e2 e3 f0 f1 f2 f3 k0 z0 z1 z2 z3 zf b0 b1 bk6 hO hD hB
                      generalize ((((W6.setCell ⟨g, o + i * 4, none⟩ (.int .i64 id2)).setCell ⟨g, o + i * 4 + 1, none⟩ (.slice xA 8 xd)).setCell ⟨g, o + i * 4 + 2, none⟩ (.int .i64 (tn : Int))).setCell ⟨g, o + i * 4 + 3, none⟩ (.int .i64 s2)) = W9 at *
                      have k0 := b0'.cell' (i := 0) rfl
                      have z0 := bk'.cell' (i := 0) rfl
                      have z1 := bk'.cell' (i := 1) rfl
                      have hXv9 := HXr.out.below hB'
                      have hbm := (hXv9.drop_lit 7).take (q8 - 7)
                      have hbm2 : Rd W9 (some ⟨bX, oX + 7, none⟩) (bvs ((b.drop 7).take (q8 - 7))) := by simpa [bvs, List.map_drop, List.map_take] using hbm
                      have hbl : ((b.drop 7).take (q8 - 7)).length = q8 - 7 := by rw [List.length_take, List.length_drop, HNB.out]; omega
                      have hq7 : (7 : Int) ≤ (q8 : Int) := by omega
                      have hs3 : (q8 : Int) ≤ (xc : Int) := by omega
                      have hs4 : (q8 : Int) + 8 ≤ (xc : Int) := by omega
                      have hs5 : (0 : Int) ≤ (q8 : Int) := by omega
                      have hx7 : ¬ xc = 7 := Nat.ne_of_gt (Nat.lt_of_lt_of_le (Nat.lt_of_le_of_lt hq8 (Nat.lt_add_of_pos_right (by decide))) hxc)
                      have hwr8 : IntKind.i64.wrap (q8 : Int) = (q8 : Int) := IntWalk.i64_in _ (by omega)
                      have hwr8' : wrap64 (q8 : Int) = (q8 : Int) := IntWalk.wrap64_in _ (by omega)
                      have hq60 : q8 - 7 ≤ 60000 := Nat.le_trans (Nat.sub_le _ _) (Nat.le_trans hq8b (by decide))
                      clear hbm
                      refine heldRegion (fun v => v.cell? ⟨w.heap.size, 0, none⟩ = some (.slice (some ⟨g, o, none⟩) k d2) ∧ v.cell? ⟨kp, 1, none⟩ = some (.slice xA 8 xd) ∧ v.cell? ⟨kp, 0, none⟩ = some (.int .i64 id2)) 13 (by kernel_rfl) (by kernel_rfl) ⟨k0, z1, z0⟩ (fun hS9 => ?_)
                      refine walk_take 0 (v := ?vp400) rfl (by kernel_rfl) (by kernel_rfl) (by kernel_rfl) (fun _ _ _ h => h) (hS9) (Or.inl ⟨by rfl, ?yp400⟩) ?rp400
                      case yp400 => intro w hSw; obtain ⟨hw1, hw2, hw3⟩ := hSw; (try dsimp only at hSw); go_simp; try rfl
                      case' rp400 => try simp only [Act.put, List.setIfInBounds_toArray, List.set_cons_zero, List.set_cons_succ]
                      refine walk_take 1 (v := ?vp401) rfl (by kernel_rfl) (by kernel_rfl) (by kernel_rfl) (fun _ _ _ h => h) (hS9) (Or.inl ⟨by rfl, ?yp401⟩) ?rp401
                      case yp401 => intro w hSw; obtain ⟨hw1, hw2, hw3⟩ := hSw; (try dsimp only at hSw); go_simp; try rfl
                      case' rp401 => try simp only [Act.put, List.setIfInBounds_toArray, List.set_cons_zero, List.set_cons_succ]
                      refine walk_take 2 (v := ?vp402) rfl (by kernel_rfl) (by kernel_rfl) (by kernel_rfl) (fun _ _ _ h => h) (hS9) (Or.inl ⟨by rfl, ?yp402⟩) ?rp402
                      case yp402 => intro w hSw; obtain ⟨hw1, hw2, hw3⟩ := hSw; (try dsimp only at hSw); go_simp; try rfl
                      case' rp402 => try simp only [Act.put, List.setIfInBounds_toArray, List.set_cons_zero, List.set_cons_succ]
                      refine walk_take 3 (v := ?vp403) rfl (by kernel_rfl) (by kernel_rfl) (by kernel_rfl) (fun _ _ _ h => h) (hS9) (Or.inl ⟨by rfl, ?yp403⟩) ?rp403
                      case yp403 => intro w hSw; obtain ⟨hw1, hw2, hw3⟩ := hSw; (try dsimp only at hSw); go_simp; try rfl
                      case' rp403 => try simp only [Act.put, List.setIfInBounds_toArray, List.set_cons_zero, List.set_cons_succ]
                      refine walk_take 4 (v := ?vp404) rfl (by kernel_rfl) (by kernel_rfl) (by kernel_rfl) (fun _ _ _ h => h) (hS9) (Or.inl ⟨by rfl, ?yp404⟩) ?rp404
                      case yp404 => intro w hSw; obtain ⟨hw1, hw2, hw3⟩ := hSw; (try dsimp only at hSw); go_simp; try rfl
                      case' rp404 => try simp only [Act.put, List.setIfInBounds_toArray, List.set_cons_zero, List.set_cons_succ]
                      refine walk_take 5 (v := ?vp405) rfl (by kernel_rfl) (by kernel_rfl) (by kernel_rfl) (fun _ _ _ h => h) (hS9) (Or.inl ⟨by rfl, ?yp405⟩) ?rp405
                      case yp405 => intro w hSw; obtain ⟨hw1, hw2, hw3⟩ := hSw; (try dsimp only at hSw); go_simp; try rfl
                      case' rp405 => try simp only [Act.put, List.setIfInBounds_toArray, List.set_cons_zero, List.set_cons_succ]
                      refine walk_take 6 (v := ?vp406) rfl (by kernel_rfl) (by kernel_rfl) (by kernel_rfl) (fun _ _ _ h => h) (hS9) (Or.inl ⟨by rfl, ?yp406⟩) ?rp406
                      case yp406 => intro w hSw; obtain ⟨hw1, hw2, hw3⟩ := hSw; (try dsimp only at hSw); go_simp; try rfl
                      case' rp406 => try simp only [Act.put, List.setIfInBounds_toArray, List.set_cons_zero, List.set_cons_succ]
                      refine walk_take 7 (v := ?vp407) rfl (by kernel_rfl) (by kernel_rfl) (by kernel_rfl) (fun _ _ _ h => h) (hS9) (Or.inl ⟨by rfl, ?yp407⟩) ?rp407
                      case yp407 => intro w hSw; obtain ⟨hw1, hw2, hw3⟩ := hSw; (try dsimp only at hSw); go_simp; try rfl
                      case' rp407 => try simp only [Act.put, List.setIfInBounds_toArray, List.set_cons_zero, List.set_cons_succ]
                      refine walk_take 9 (v := ?vp409) rfl (by kernel_rfl) (by kernel_rfl) (by kernel_rfl) (fun _ _ _ h => h) (hS9) (Or.inl ⟨by rfl, ?yp409⟩) ?rp409
                      case yp409 => intro w hSw; obtain ⟨hw1, hw2, hw3⟩ := hSw; (try dsimp only at hSw); go_simp; try rfl
                      case' rp409 => try simp only [Act.put, List.setIfInBounds_toArray, List.set_cons_zero, List.set_cons_succ]
                      refine walk_take 10 (v := ?vp410) rfl (by kernel_rfl) (by kernel_rfl) (by kernel_rfl) (fun _ _ _ h => h) (hS9) (Or.inl ⟨by rfl, ?yp410⟩) ?rp410
                      case yp410 => intro w hSw; obtain ⟨hw1, hw2, hw3⟩ := hSw; (try dsimp only at hSw); go_simp; try rfl
                      case' rp410 => try simp only [Act.put, List.setIfInBounds_toArray, List.set_cons_zero, List.set_cons_succ]
                      refine walk_step 8 rfl (by kernel_rfl) (by kernel_rfl) (fun K hK => ?covp)
                      case covp =>
                        go_simp
                        refine (HV.out W9.drew hx9.drew (some ⟨bX, oX + 7, none⟩) ((b.drop 7).take (q8 - 7)) (q8 - 7) (xc - 7) hbl hq60 hbm2.drew).mono ?_
                        rintro e w10 ⟨A5, c5, rfl, hR5, hb10⟩
                        rw [HKB.out] at hR5 ⊢
                        have hb10' : Below W9.heap.size W9 w10 := ((Below.refl W9.heap.size W9).drew).trans hb10
                        have z10 := hb10'.size
                        have b0 := b0'.step hb10'
                        have b1 := b1'.step hb10'
                        have bk := bk'.step hb10'
                        have hO := hO'.step hb10'
                        have hD := hD'.step hb10'
                        have hB := hB'.trans (hb10'.mono hB'.size)
                        have hz9 : w.heap.size + 2 ≤ W9.heap.size := by omega
                        refine hK _ _ ⟨b0.cell' (i := 0) rfl, bk.cell' (i := 1) rfl, bk.cell' (i := 0) rfl⟩ ?_
                        clear hK K hb10 hb10' hS9
                        try simp only [Act.put, List.setIfInBounds_toArray, List.set_cons_zero, List.set_cons_succ]
                        have e1 := b1.cell' (i := 0) rfl
                        have ef := b1.frozen
                        have b2 := blk1_set b1 (.slice (some ⟨g, o, none⟩) k d2)
                        have e2 := b2.cell' (i := 0) rfl
                        have b0s := b0.far (p := ⟨w.heap.size + 1, 0, none⟩) (Nat.ne_of_lt (Nat.lt_succ_self _)) (.slice (some ⟨g, o, none⟩) k d2)
                        have bks := bk.far (p := ⟨w.heap.size + 1, 0, none⟩) (Nat.ne_of_gt (Nat.lt_of_lt_of_le (Nat.lt_succ_self _) hkp2)) (.slice (some ⟨g, o, none⟩) k d2)
                        refine walk_step 11 rfl (by kernel_rfl) (by kernel_rfl) (fun K hK => ?stop)
                        case stop =>
                          go_simp
                          refine hK _ _ ⟨b0s.cell' (i := 0) rfl, bks.cell' (i := 1) rfl, bks.cell' (i := 0) rfl⟩ ?_
                          clear hK K
                          try simp only [Act.put, List.setIfInBounds_toArray, List.set_cons_zero, List.set_cons_succ]
                          refine walk_take 12 (v := ?vp450) rfl (by kernel_rfl) (by kernel_rfl) (by kernel_rfl) (fun _ _ _ h => h) (⟨b0s.cell' (i := 0) rfl, bks.cell' (i := 1) rfl, bks.cell' (i := 0) rfl⟩) (Or.inl ⟨by rfl, ?yp450⟩) ?rp450
                          case yp450 => intro w hSw; (try dsimp only at hSw); go_simp; try rfl
                          case' rp450 => try simp only [Act.put, List.setIfInBounds_toArray, List.set_cons_zero, List.set_cons_succ]
                          refine walk_tail (by kernel_rfl) ?_
                          simp only [List.drop_succ_cons, List.drop_zero]
                          go_wp2_with fail
                          refine bodyPost_ret (v := .tuple #[.agg #[.slice (some ⟨g, o, none⟩) k d2], .slice A5 kb c5, .int .i64 id2, .int .i64 0]) (by simp [results, Try.results33, go_sem, e2]) rfl ?_
                          rw [hid2]
                          refine ⟨some ⟨g, o, none⟩, d2, A5, c5, rfl, ⟨m', hm', ?_, ?_⟩, ?_, hB.setCell (p := ⟨w.heap.size + 1, 0, none⟩) (by simp) _⟩
                          · exact (hO.setFar (p := ⟨w.heap.size + 1, 0, none⟩) (fun e => by have : w1.heap.size ≤ w.heap.size + 1 := (hO.lt _ e).1; omega) _).mono (by omega)
                          · exact hD.map (fun _ _ _ _ h => (h.setFar (p := ⟨w.heap.size + 1, 0, none⟩) (fun e => by have : w1.heap.size ≤ w.heap.size + 1 := (h.lt _ e).1; omega) _).mono (by omega))
                          · exact (hR5.setFar (p := ⟨w.heap.size + 1, 0, none⟩) (fun e => by have : W9.heap.size ≤ w.heap.size + 1 := (hR5.lt _ e).1; omega) _).mono (by show w.heap.size ≤ W9.heap.size; omega)
                · have hbr : (sT.toList == sB.toList) = false := by rw [HST.out, HSB.out, beq_eq_false_iff_ne]; exact hTB
                  rw [if_neg (by rw [← HTL.out]; exact hTB)] at hU
                  obtain ⟨rfl, rfl, rfl, rfl⟩ : M = L ∧ body = [] ∧ id = 0 ∧ err = 14 := by simpa using hU
                  obtain rfl : kb = 0 := by rw [← HKB.out]; rfl
                  obtain rfl : k = n := by rw [← HK.out, HN.out]
                  clear hU hTB
                  have k0 := b0.cell' (i := 0) rfl
                  have e1 := b1.cell' (i := 0) rfl
                  have ef := b1.frozen
                  have b2 := blk1_set b1 (.slice (some ⟨g, o, none⟩) k d2)
                  have e2 := b2.cell' (i := 0) rfl
                  go_wp2_with fail
                  refine bodyPost_ret (v := .tuple #[.agg #[.slice (some ⟨g, o, none⟩) k d2], .slice none 0 0, .int .i64 0, .int .i64 14]) (by simp [results, Try.results33, go_sem, e2]) rfl ?_
                  exact AsRes.same hm (hO.setFar (p := ⟨w.heap.size + 1, 0, none⟩) (fun e => by have : w1.heap.size ≤ w.heap.size + 1 := (hO.lt _ e).1; omega) _) (hD.map (fun _ _ _ _ h => h.setFar (p := ⟨w.heap.size + 1, 0, none⟩) (fun e => by have : w1.heap.size ≤ w.heap.size + 1 := (h.lt _ e).1; omega) _)) (by omega) (hB.setCell (p := ⟨w.heap.size + 1, 0, none⟩) (by simp) _)
        · have heb : (id2 == (x.toNat : Int)) = false := by simpa using he
          have hen : (id2 != (x.toNat : Int)) = true := by rw [bne, heb]; rfl
          have hen2 : (id2 != wrap64 (x.toNat : Int)) = true := by rw [hwx]; exact hen
          have HF2 : Hid (∀ a y, a < i + 1 → L[a]? = some y → y.id ≠ ((b.getD 0 0).toNat : Int)) := Lib.hid (fun a y ha hay => by
            rcases Nat.lt_or_ge a i with h | h
            · exact HF.out a y h hay
            · obtain rfl : a = i := by omega
              rw [HLi.out] at hay
              injection hay with hay
              subst hay
              rw [HX.out]
              exact he)
          clear he
          go_quiet (fail)
          go_wp2_with fail
          go_roundw
          case rel => exact ⟨i + 1, by omega, by go_num, below_drewN hB _, (by show W3.heap.size ≤ V.heap.size; have := HKP.out; omega), ⟨b0.drewN _, b1.drewN _⟩, hO.drewN _, hD.map (fun _ _ _ _ h => h.drewN _), HF2⟩
          case measure => simp [intOf]; omega
      · obtain rfl : i = n := by omega
        have h5i : ¬ (i : Int) < (i : Int) := by omega
        have hR3 := HR.out
        rw [kfind_none (fun a y hay => HF.out a y (by have := (List.getElem?_eq_some_iff.1 hay).1; rw [HN.out] at this; exact this) hay)] at hR3
        obtain ⟨rfl, rfl, rfl, rfl⟩ : M = L ∧ body = [] ∧ id = 0 ∧ err = 14 := by simpa using hR3
        obtain rfl : kb = 0 := by rw [← HKB.out]; rfl
        obtain rfl : k = i := by rw [← HK.out, HN.out]
        clear hR3 HR
        have e1 := b1.cell' (i := 0) rfl
        have ef := b1.frozen
        have b2 := blk1_set b1 (.slice B2 k d2)
        have e2 := b2.cell' (i := 0) rfl
        go_wp2_with fail
        refine bodyPost_ret (v := .tuple #[.agg #[.slice B2 k d2], .slice none 0 0, .int .i64 0, .int .i64 14]) (by simp [results, Try.results33, go_sem, e2]) rfl ?_
        exact AsRes.same hm (hO.setFar (p := ⟨w.heap.size + 1, 0, none⟩) (fun e => by have : w1.heap.size ≤ w.heap.size + 1 := (hO.lt _ e).1; omega) _) (hD.map (fun _ _ _ _ h => h.setFar (p := ⟨w.heap.size + 1, 0, none⟩) (fun e => by have : w1.heap.size ≤ w.heap.size + 1 := (h.lt _ e).1; omega) _)) (by omega) (hB.setCell (p := ⟨w.heap.size + 1, 0, none⟩) (by simp) _)
end Go.Proofs.Ytkbaganbfcbioaa
namespace Go.Proofs.Ytkbaganbfcbioaa
set_option linter.unusedSimpArgs false
set_option linter.unusedVariables false
open Go.RowKit

theorem set_same {α : Type} {l : List α} {i : Nat} {v : α} (h : l[i]? = some v) : l.set i v = l := by
  obtain ⟨hl, he⟩ := List.getElem?_eq_some_iff.1 h
  subst he
  exact List.set_getElem_self hl
def keyTurn (x : KyR) (t s : Int) : KyR := ⟨⟨x.k.id, x.k.words, t, s⟩, x.A, x.c⟩
theorem kvs_set2 {m : List KyR} {i : Nat} {x : KyR} (hx : m[i]? = some x) (t s : Int) : (((kvs m).set (i * 4 + 2) (.int .i64 t)).set (i * 4 + 3) (.int .i64 s)) = kvs (m.set i (keyTurn x t s)) := by
  have h := kvs_set4 hx (y := keyTurn x t s) (a := .int .i64 x.k.id) (b := .slice x.A x.k.words.length x.c) (c := .int .i64 t) (d := .int .i64 s) rfl
  rw [set_same (i := i * 4) ((kvs_get hx (j := 0) (by omega)).trans rfl), set_same (i := i * 4 + 1) ((kvs_get hx (j := 1) (by omega)).trans rfl)] at h
  exact h
theorem OwnWords.turn {w : World} {base i : Nat} {m : List KyR} {x : KyR} (h : OwnWords w base m) (hx : m[i]? = some x) (t s : Int) : OwnWords w base (m.set i (keyTurn x t s)) := by
  have hi : i < m.length := (List.getElem?_eq_some_iff.1 hx).1
  have key : ∀ (j : Nat) (y : KyR), (m.set i (keyTurn x t s))[j]? = some y → ∃ y', m[j]? = some y' ∧ y.A = y'.A ∧ y.c = y'.c ∧ y.k.words = y'.k.words := by
    intro j y hy
    by_cases hj : j = i
    · subst hj
      rw [List.getElem?_set_self hi] at hy
      injection hy with hy
      subst hy
      exact ⟨x, hx, rfl, rfl, rfl⟩
    · rw [List.getElem?_set_ne (Ne.symm hj)] at hy
      exact ⟨y, hy, rfl, rfl, rfl⟩
  constructor
  · intro j y hy
    obtain ⟨y', hy', e1, e2, e3⟩ := key j y hy
    rw [e1, e2, e3]
    exact h.1 j y' hy'
  · intro a b y z hab hy hz
    obtain ⟨y', hy', e1, _⟩ := key a y hy
    obtain ⟨z', hz', e2, _⟩ := key b z hz
    rw [e1, e2]
    exact h.2 a b y' z' hab hy' hz'
/-- What stands behind: the key at i has turned, nothing else of old. -/
def RingTurned (w w' : World) (base g o n d : Nat) (m' : List KyR) : Prop :=
  w.grownBy w' (some g) ∧ Own w' base 46 4 (some ⟨g, o, none⟩) n d (kvs m') ∧ OwnWords w' base m' ∧ w'.heap.size = w.heap.size
set_option maxHeartbeats 1600000 in
theorem turned_at {w w' : World} {base g o n d i : Nat} {m : List KyR} {x : KyR} {t s : Int} (hO : Own w base 46 4 (some ⟨g, o, none⟩) n d (kvs m)) (hD : OwnWords w base m) (hx : m[i]? = some x) (hin : i < n)
    (hw : Turned2 w w' g (o + i * 4) x.k.top x.k.seen t s) : RingTurned w w' base g o n d (m.set i (keyTurn x t s)) := by
  have hsf : ∀ {A : Option Addr} {q c : Nat} {ys : List Value}, Own w base 3 1 A q c ys → blk A ≠ some g := fun h e => (h.apart hO (by decide)) g e rfl
  have hb2 : (kvs m)[i * 4 + 2]? = some (.int .i64 x.k.top) := (kvs_get hx (j := 2) (by omega)).trans rfl
  have hb3 : (kvs m)[i * 4 + 3]? = some (.int .i64 x.k.seen) := (kvs_get hx (j := 3) (by omega)).trans rfl
  have hT := hD.turn hx t s
  have hK := kvs_set2 hx t s
  rcases hw with rfl | ⟨rfl, rfl⟩ | ⟨rfl, rfl⟩
  · refine ⟨grown_setCell (p := ⟨g, o + i * 4 + 3, none⟩) (grown_setCell (p := ⟨g, o + i * 4 + 2, none⟩) (World.grownBy.refl w (some g)) (.inl rfl) _) (.inl rfl) _, ?_, hT.map fun _ _ _ _ h => (h.setFar (p := ⟨g, o + i * 4 + 2, none⟩) (hsf h) _).setFar (p := ⟨g, o + i * 4 + 3, none⟩) (hsf h) _, by simp⟩
    rw [← hK]
    exact (hO.set (i * 4 + 2) (by omega) _).set (i * 4 + 3) (by omega) _
  · refine ⟨grown_setCell (p := ⟨g, o + i * 4 + 2, none⟩) (World.grownBy.refl w (some g)) (.inl rfl) _, ?_, hT.map fun _ _ _ _ h => (h.setFar (p := ⟨g, o + i * 4 + 2, none⟩) (hsf h) _), by simp⟩
    rw [← hK, set_same (i := i * 4 + 3) (by rw [List.getElem?_set_ne (by omega)]; exact hb3)]
    exact hO.set (i * 4 + 2) (by omega) _
  · refine ⟨grown_setCell (p := ⟨g, o + i * 4 + 3, none⟩) (World.grownBy.refl w (some g)) (.inl rfl) _, ?_, hT.map fun _ _ _ _ h => (h.setFar (p := ⟨g, o + i * 4 + 3, none⟩) (hsf h) _), by simp⟩
    rw [← hK, set_same (i := i * 4 + 2) hb2]
    exact hO.set (i * 4 + 3) (by omega) _
theorem RingTurned.drew {w w' : World} {base g o n d : Nat} {m' : List KyR} (h : RingTurned w w' base g o n d m') : RingTurned w w'.drew base g o n d m' :=
  ⟨grown_drew h.1, h.2.1.drew, h.2.2.1.map (fun _ _ _ _ h => h.drew), h.2.2.2⟩
theorem kp_of {w : World} {base g o n d i : Nat} {m : List KyR} {x : KyR} (hO : Own w base 46 4 (some ⟨g, o, none⟩) n d (kvs m)) (hx : m[i]? = some x) (hin : i < n) : Kp w g (o + i * 4) x.k.top x.k.seen := by
  have hb2 : (kvs m)[i * 4 + 2]? = some (.int .i64 x.k.top) := (kvs_get hx (j := 2) (by omega)).trans rfl
  have hb3 : (kvs m)[i * 4 + 3]? = some (.int .i64 x.k.seen) := (kvs_get hx (j := 3) (by omega)).trans rfl
  have hs := fun v => hO.set (i * 4 + 2) (by omega) v
  refine ⟨hO.cell (i := i * 4 + 2) hb2, hO.cell (i := i * 4 + 3) hb3, fun j => hO.frozen j, fun v => (hs v).cell (i := i * 4 + 3) (by rw [List.getElem?_set_ne (by omega)]; exact hb3), fun v j => (hs v).frozen j⟩
set_option maxHeartbeats 1600000 in
theorem once_good (base g o n d i C : Nat) (m : List KyR) (x : KyR) (w : World) (hO : Own w base 46 4 (some ⟨g, o, none⟩) n d (kvs m)) (hD : OwnWords w base m) (hx : m[i]? = some x) (hin : i < n)
    (hko : keyOk x.k) (hC2 : C ≤ 281474976710655) (hno : ¬ oldC x.k.seen.toNat x.k.top C) :
    Calls Try.prog 57 #[.pointer (some ⟨g, o + i * 4, none⟩), .int .i64 (C : Int)] w fun e w' => e = .returned (.bool true) ∧ RingTurned w w' base g o n d (m.set i (keyTurn x (nextTop x.k.top C) ((nextSeen x.k.seen.toNat x.k.top C : Nat) : Int))) := by
  have hk := kp_of hO hx hin
  obtain ⟨⟨_, ⟨h1, h2⟩, h3⟩, h4⟩ := hko
  have hT := fun w' t s (h : Turned2 w w' g (o + i * 4) x.k.top x.k.seen t s) => turned_at (w' := w') (t := t) (s := s) hO hD hx hin h
  generalize x.k.top = top at *
  generalize x.k.seen = seen at *
  have hsb : seen.toNat < 4611686018427387904 := Nat.lt_of_lt_of_le h4 (Nat.le_trans (Nat.pow_le_pow_right (by decide) (Nat.min_le_left _ _)) (by decide))
  obtain ⟨s, rfl⟩ : ∃ s : Nat, seen = (s : Int) := ⟨seen.toNat, by omega⟩
  rw [Int.toNat_natCast] at hno hsb h4 ⊢
  by_cases h0 : 0 < top - (C : Int)
  · obtain ⟨t, rfl⟩ : ∃ t : Nat, top = (t : Int) := ⟨top.toNat, by omega⟩
    have e1 : nextTop (t : Int) C = t := if_pos h0
    have e2 : nextSeen s (t : Int) C = s ||| 2 ^ ((t : Int) - C - 1).toNat := if_pos h0
    have h62 : ¬ 62 < (t : Int) - C := fun h => hno ⟨by omega, .inr (.inl h)⟩
    refine (once_below g (o + i * 4) C s ((t : Int) - C - 1).toNat t w hk (by omega) (fun h => hno ⟨by omega, .inr (.inr h)⟩) (by omega) hC2 (by omega) hsb).mono ?_
    rintro e' w' ⟨rfl, rfl⟩
    refine ⟨rfl, ?_⟩
    rw [e1, e2]
    exact (hT _ _ _ (.inr (.inr ⟨rfl, rfl⟩))).drew
  · have e1 : nextTop top C = C := if_neg h0
    rw [e1]
    by_cases hn : top < 0
    · have e2 : nextSeen s top C = 0 := by unfold nextSeen; rw [if_neg h0, if_pos hn]
      obtain rfl : top = -1 := by omega
      obtain rfl : s = 0 := by simpa using h4
      rw [e2]
      refine (once_none g (o + i * 4) C 0 w hk hC2).mono ?_
      rintro e' w' ⟨rfl, rfl⟩
      exact ⟨rfl, hT _ _ _ (.inr (.inl ⟨rfl, rfl⟩))⟩
    · have e2 : nextSeen s top C = upSeen s ((C : Int) - top).toNat := by unfold nextSeen; rw [if_neg h0, if_neg hn]
      obtain ⟨t, rfl⟩ : ∃ t : Nat, top = (t : Int) := ⟨top.toNat, by omega⟩
      rw [e2]
      have hne : ¬ (t : Int) = C := fun h => hno ⟨by omega, .inl h⟩
      by_cases hf : 62 < (C : Int) - (t : Int)
      · rw [up_big (by omega)]
        refine (once_far g (o + i * 4) C s t w hk hf hC2).mono ?_
        rintro e' w' ⟨rfl, rfl⟩
        exact ⟨rfl, hT _ _ _ (.inl rfl)⟩
      · obtain ⟨k1, k2, k3, k4, k5⟩ := hk
        obtain ⟨up, hup⟩ : ∃ up : Nat, ((C : Int) - (t : Int)).toNat = up := ⟨_, rfl⟩
        rw [hup]
        refine (once_up g (o + i * 4) C s up t (.bool true) 0 w k1 k2 k3 (k4 _) (fun j => k5 _ j) (by omega) (by omega) (by omega) hC2 hsb).mono ?_
        rintro e' w' ⟨rfl, rfl⟩
        exact ⟨rfl, hT _ _ _ (.inl rfl)⟩
end Go.Proofs.Ytkbaganbfcbioaa
