/-
  The program's Over.
-/
import Derived.Test.YtolcaolmdfbfhaaOverA
namespace Go.Proofs.Ytolcaolmdfbfhaa
set_option linter.unusedSimpArgs false
set_option linter.unusedVariables false
open Go.RowKit

theorem divB_o (x y : Int) (a b : UInt8) (w : World) (hx : x = (a.toNat : Int)) (hy : y = (b.toNat : Int)) (h : b ≠ 0) :
    Calls Try.prog 91 #[.int .u8 x, .int .u8 y] w fun e w' => e = .returned (.tuple #[.int .u8 ((mulB a (invB b)).toNat : Int), .bool true]) ∧ w = w' := by
  subst hx
  subst hy
  have := div_any a.toNat b.toNat w a.toNat_lt b.toNat_lt
  unfold divF at this
  rw [if_neg (fun e => h (UInt8.toNat_inj.1 (by simpa using e)))] at this
  rw [mulB_nat, invB_nat]
  exact this
/-- A slice's length. -/
def slen : Value → Nat
  | .slice _ n _ => n
  | _ => 0

set_option maxHeartbeats 6400000 in
set_option maxRecDepth 100000 in
theorem pover_good (A B : Option Addr) (p q : List UInt8) (n m c d : Nat) (w : World) (hp : p.length = n) (hq : q.length = m) (ra : Rd w A (bvs p)) (rb : Rd w B (bvs q)) (hc : n ≤ c) (hd : m ≤ d) (h1 : n ≤ 512) (h2 : m ≤ 512) (hne : trimL q ≠ []) :
    Calls Try.prog 35 #[.slice A n c, .slice B m d] w fun e w' => OverRes w w' (trimL (overE (trimL q) p).1, trimL (overE (trimL q) p).2, 0) e := by
  obtain ⟨i0, hi0, hz0, hz1, hz2⟩ := info_parts u8info
  have hT := Lib.hid (fun w ha => trimmed_any B q m d w hq ha hd (by omega))
  have hU := Lib.hid (fun w ha => trimmed_any A p n c w hp ha hc (by omega))
  have htop := trimL_top hne
  have hpos : 0 < (trimL q).length := by rcases Nat.eq_zero_or_pos (trimL q).length with e | e; exact absurd (List.eq_nil_of_length_eq_zero e) hne; exact e
  have hTl : (trimL q).length ≤ m := by rw [trimL_len, ← hq]; exact tlen_le q
  have hF := over_first (b := trimL q) (p := p) hpos
  have hlast : lastB (trimL q) ≠ 0 := htop
  have hsp := fun (s r : List UInt8) (at_ : Nat) => Lib.hid (over_step (b := trimL q) (s := s) (r := r) (at_ := at_) hpos hlast)
  rw [hp] at hF
  have htn : tlen p ≤ n := by rw [← hp]; exact tlen_le p
  have hUl : Hid ((trimL p).length = tlen p) := trimL_len p
  rw [hUl.out] at hU
  clear htop hne hq
  generalize overE (trimL q) p = F at *
  generalize trimL q = b at *
  generalize hbt : b.length = t at *
  have HBL := Lib.hid hbt
  have HF := Lib.hid hF
  have HP := Lib.hid hp
  have HL := Lib.hid hlast
  have d1 : decide ((512 : Int) < (n : Int)) = false := by simp; omega
  have d2 : decide ((512 : Int) < (m : Int)) = false := by simp; omega
  have d3 : ((t : Int) == 0) = false := by simp; omega
  have hmk := run_make_rowN (P := Try.prog) 130 5 i0 (.int .u8 0) Try.underlying130 hi0 hz0 .i64 .i64 n n (Nat.le_refl _) (by rw [hz2]; omega) (by omega)
  clear hp hF hbt hlast
  by_cases hnm : m ≤ n
  all_goals
    first
      | (have hnm1 : (m : Int) ≤ (n : Int) := by omega)
      | (have hnm2 : (n : Int) < (m : Int) := by omega)
  all_goals
    go_enter Try.func35, Try.ntmps35
    go_wp2_with fail
    refine (hT.out _ rb).mono ?_
    rintro e w1 ⟨A1, c1, rfl, hO1, hb1⟩
    have lt1 := hO1.lt
    have z1 := hb1.size
    have ra1 := ra.below hb1
    go_wp2_with fail
    refine (hU.out _ ra1).mono ?_
    rintro e w3 ⟨A3, c3, rfl, hO3, hb3⟩
    replace hO1 := hO1.below hb3
    have hB3 := nextB hb1 z1 hb3
    have lt3 := hO3.lt
    have z3 := hb3.size
    clear hb3 hb1 ra1 d1 d2
    go_wp2_with fail
    obtain ⟨W4, hW4⟩ : ∃ W : World, W = w3.alloc (.cells (madeCells #[.int .u8 0] n) 5) := ⟨_, rfl⟩
    have hS4 : Own W4 w.heap.size 5 1 (some ⟨w3.heap.size, 0, none⟩) n n (bvs (List.replicate n 0)) := by rw [hW4]; exact (Own.made8 w3 n n (Nat.le_refl _) (by unfold maxLen; omega)).mono hB3.size
    have hb4 : Below w3.heap.size w3 W4 := by rw [hW4]; exact (Below.refl _ _).alloc (Nat.le_refl _) _
    rw [← hW4]
    clear hW4 hmk
    replace hO1 := hO1.below hb4
    have hR4 := (hO3.below hb4).mono (base' := w.heap.size) (by omega)
    have hB4 := nextB hB3 hB3.size hb4
    have z4 := hb4.size
    have zg : w3.heap.size < W4.heap.size := (hS4.lt w3.heap.size rfl).2
    have hns : ∀ q, blk A3 = some q → q ≠ w3.heap.size ∧ blk A1 ≠ some q := fun q hq => ⟨by have := lt3 q hq; omega, fun e => by have := lt3 q hq; have := lt1 q e; omega⟩
    have hn1 : ∀ q, blk A1 = some q → q ≠ w3.heap.size := fun q hq => by have := lt1 q hq; omega
    have hgS4 : w3.heap.size < W4.heap.size := zg
    have hA1lt : ∀ q, blk A1 = some q → q < W4.heap.size := fun q hq => by have := lt1 q hq; omega
    generalize w3.heap.size = gS at *
    clear hO3 hb4 hB3 lt3 lt1
    obtain ⟨b1, o1, rfl, _⟩ := hO1.rd.byteD (k := t - 1) (by rw [HBL.out]; omega)
    go_loopw [8] (fun rv wr => ∃ (Ar : Option Addr) (cr : Nat) (s r : List UInt8), rv = .slice Ar (tlen r) cr ∧ r.length = n ∧ Own wr w.heap.size 5 1 Ar (tlen r) cr (bvs (trimL r)) ∧ Own wr w.heap.size 5 1 (some ⟨gS, 0, none⟩) n n (bvs s) ∧ Own wr w.heap.size 5 1 (some ⟨b1, o1, none⟩) t c1 (bvs b) ∧ Below w.heap.size w wr ∧ W4.heap.size ≤ wr.heap.size ∧ Hid (F = overR b (invB (lastB b)) (tlen r + 1 - t) (s, r)) ∧ (∀ j, j < tlen r + 1 - t → s.getD j 0 = 0) ∧ (∀ q, blk Ar = some q → q ≠ gS ∧ q ≠ b1)) (fun rv _ => slen rv)
    case atStart => exact ⟨A3, c3, _, p, rfl, HP.out, hR4, hS4, hO1, hB4, Nat.le_refl _, HF, fun j _ => (by
      by_cases h : j < n
      · simp [List.getD, h]
      · exact getD_out (by simp; omega)), fun q hq => ⟨(hns q hq).1, fun e => (hns q hq).2 (by rw [e]; rfl)⟩⟩
    case round =>
      obtain ⟨Ar, cr, s, r, rfl, hrl, hR, hS, hO, hB, hz, HFr, hs0, hne⟩ := hrel
      clear hS4 hR4 hO1 hB4 HF hns
      have hrn : tlen r ≤ n := by rw [← hrl]; exact tlen_le r
      have HRL := Lib.hid hrl
      have HS0 := Lib.hid hs0
      clear hrl hs0
      have nb1 := hn1 b1 rfl
      have hA1b := hA1lt b1 rfl
      by_cases hlt : t ≤ tlen r
      · obtain ⟨at_, hat⟩ : ∃ a, tlen r = a + t := ⟨tlen r - t, by omega⟩
        have HSP := Lib.hid ((hsp s r at_).out hat (fun j hj => HS0.out j (by omega)))
        have HTG : Hid (tlen (addTo r b (mulB (r.getD (tlen r - 1) 0) (invB (lastB b))) at_ t) ≤ tlen r - 1) := by
          have := top_gone (b := b) (r := r) (at_ := at_) (by rw [HBL.out]; omega) HL.out (by rw [HBL.out]; exact hat) _ rfl (by rw [HBL.out, HRL.out]; omega)
          rw [HBL.out] at this
          exact this
        have HTK : ∀ k, Hid (trimL (addTo (trimL r) b k at_ t) = trimL (addTo r b k at_ t)) := fun k => by
          have := addTo_take (r := r) (b := b) (k := k) (i := at_) (L := tlen r) (by rw [HBL.out]; omega) (by rw [HRL.out]; omega) (tlen_out r)
          rw [HBL.out] at this
          exact this
        have HX : Hid ((trimL r).getD (tlen r - 1) 0 = r.getD (tlen r - 1) 0) := trimL_get r _
        have hc2 := hR.rd.byteD (k := tlen r - 1) (by rw [trimL_len]; omega)
        obtain ⟨br, or_, rfl, hc2⟩ := hc2
        rw [HX.out] at hc2
        have hc1 := hO.rd.byteE (k := t - 1) (by rw [HBL.out]; omega)
        have hLB2 : Hid (b.getD (t - 1) 0 = lastB b) := by show _ = _; rw [← HBL.out]; rfl
        rw [hLB2.out] at hc1
        obtain ⟨nr1, nr2⟩ := hne br rfl
        have HK : Hid (mulB (r.getD (tlen r - 1) 0) (invB (lastB b)) = mulB (r.getD (tlen r - 1) 0) (invB (lastB b))) := Lib.hid rfl
        have HD := Lib.hid (fun w => divB_o _ _ (r.getD (tlen r - 1) 0) (lastB b) w rfl rfl HL.out)
        generalize mulB (r.getD (tlen r - 1) 0) (invB (lastB b)) = k at *
        generalize r.getD (tlen r - 1) 0 = x at *
        generalize lastB b = lb at *
        have HTL := Lib.hid (show (trimL r).length = tlen r from trimL_len r)
        have HAL : ∀ k, Hid ((addTo r b k at_ t).length = n) := fun k => by show _ = _; rw [addTo_length, HRL.out]
        generalize hL : tlen r = L at *
        have u1 : (L : Int) - (t : Int) = (at_ : Int) := by omega
        have u2 : ((L : Int) - 1).toNat = L - 1 := by omega
        have u3 : ((t : Int) - 1).toNat = t - 1 := by omega
        have u4 : (1 : Int) ≤ (L : Int) := by omega
        have u5 : (1 : Int) ≤ (t : Int) := by omega
        have HAT := Lib.hid hat
        have l1 : t ≤ L := by omega
        have l2 : at_ + t ≤ L := by omega
        have l2n : at_ + t ≤ n := by omega
        have l3 : (t : Int) ≤ (L : Int) := by omega
        have u6 : (0 : Int) ≤ (L : Int) - 1 := by omega
        have u7 : (0 : Int) ≤ (t : Int) - 1 := by omega
        clear hat hL
        obtain ⟨y, hy, hc3⟩ := hS.byteAt (k := at_) (by omega)
        have hf3 := hS.frozen (0 + at_)
        rw [Nat.zero_add] at hc3 hf3
        clear hy
        go_wp2_with fail
        have v1 : IntKind.i64.wrap ((L : Int) - 1) = (L : Int) - 1 := IntWalk.i64_in _ (by omega)
        have v2 : IntKind.i64.wrap ((t : Int) - 1) = (t : Int) - 1 := IntWalk.i64_in _ (by omega)
        have v3 : (L : Int) - 1 < (L : Int) := by omega
        have v4 : (t : Int) - 1 < (t : Int) := by omega
        go_region_law (first | (go_simp; go_at_call 91; refine (HD.out _).mono ?_; rintro e w' ⟨rfl, rfl⟩))
        all_goals clear v1 v2
        all_goals go_upto_region 12 with fail
        all_goals
          obtain ⟨W5, hW5⟩ : ∃ W : World, W = (wr.setCell ⟨gS, at_, none⟩ (.int .u8 (k.toNat : Int))).drew := ⟨_, rfl⟩
          rw [← hW5]
          have hS5 : Own W5 w.heap.size 5 1 (some ⟨gS, 0, none⟩) n n (bvs (s.set at_ k)) := by
            rw [hW5]
            have := (hS.setB (k := at_) (by omega) k).drew
            rwa [Nat.zero_add] at this
          have hR5 : Own W5 w.heap.size 5 1 (some ⟨br, or_, none⟩) L cr (bvs (trimL r)) := by rw [hW5]; exact (hR.setFar (fun e => nr1 (blk_lit e).symm) _).drew
          have hO5 : Own W5 w.heap.size 5 1 (some ⟨b1, o1, none⟩) t c1 (bvs b) := by rw [hW5]; exact (hO.setFar (fun e => nb1 (blk_lit e).symm) _).drew
          have hgS := hS.lt gS rfl
          have hB5 : Below w.heap.size w W5 := by rw [hW5]; exact (hB.setCell hgS.1 _).drew
          have hz5 : W4.heap.size ≤ W5.heap.size := by rw [hW5]; simpa using hz
          clear hW5 hc1 hc2 hc3 hf3 hS hR hO hB hz
          go_wp2_with fail
          refine (add_any w.heap.size br or_ L cr c1 t at_ (some ⟨b1, o1, none⟩) (trimL r) b k _ _ W5 hR5 hO5.rd HBL.out (fun e => nr2 (blk_lit e)) l2 (by omega) rfl rfl).mono ?_
          rintro e w6 ⟨rfl, hR6, hg6⟩
          have hS6 := hS5.grown hg6 (fun q hq e => by injection hq with hq; have := blk_lit e; omega)
          have hO6 := hO5.grown hg6 (fun q hq e => by injection hq with hq; have := blk_lit e; omega)
          have hbr := hR5.lt br rfl
          have hB6 : Below w.heap.size w w6 := hB5.grown hg6 hB5.size (fun q hq => by injection hq with hq; omega)
          have hz6 := hg6.size
          go_wp2_with fail
          refine (trimmed_any (some ⟨br, or_, none⟩) _ L cr _ (by rw [addTo_length]; exact HTL.out) hR6.rd hR6.le (by omega)).mono ?_
          rw [(HTK k).out]
          rintro e w7 ⟨A7, c7, rfl, hO7, hb7⟩
          have lt7 := hO7.lt
          go_wp2_with fail
          rw [trimL_len] at hO7 ⊢
          go_roundw
          case rel => exact ⟨A7, c7, _, _, rfl, (HAL k).out, hO7.mono hB6.size, hS6.below hb7, hO6.below hb7, nextB hB6 hB6.size hb7, by have := hb7.size; omega, HSP.out ▸ HFr, fun j hj => (by
            have h1 := HTG.out
            have h2 := HAT.out
            have hsl : s.length = n := by have := hS5.len; rw [bvs_length, List.length_set] at this; omega
            rw [getD_set _ _ _ _ (by omega), if_neg (by omega)]
            exact HS0.out j (by omega)), fun q hq => by have := lt7 q hq; omega⟩
          case measure => have := HTG.out; simp [slen]; omega
      · have hFe : F = (s, r) := by
          rw [HFr.out, show tlen r + 1 - t = 0 from by omega]
          rfl
        subst hFe
        have hsl : s.length = n := by have := hS.len; rw [bvs_length] at this; omega
        have HTL := Lib.hid (show (trimL r).length = tlen r from trimL_len r)
        generalize hL : tlen r = L at *
        clear HFr hsp HS0 hL
        go_wp2_with fail
        refine (trimmed_any (some ⟨gS, 0, none⟩) s n n _ hsl hS.rd (Nat.le_refl _) (by omega)).mono ?_
        rintro e w7 ⟨A7, c7, rfl, hO7, hb7⟩
        have lt7 := hO7.lt
        have ltr := hR.lt
        have hR7 := hR.below hb7
        go_wp2_with fail
        refine bodyPost_ret (v := .tuple #[.slice A7 (trimL s).length c7, .slice Ar L cr, .int .i64 0]) (by simp [results, Try.results35, go_sem]) rfl ?_
        rw [← HTL.out] at hR7 ⊢
        exact ⟨A7, c7, Ar, cr, rfl, hO7.mono hB.size, hR7, fun q h1 h2 => by have := lt7 q h1; have := ltr q h2; omega, nextB hB hB.size hb7⟩
end Go.Proofs.Ytolcaolmdfbfhaa
