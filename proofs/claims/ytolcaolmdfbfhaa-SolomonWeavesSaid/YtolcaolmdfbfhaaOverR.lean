/-
  The document's Over.
-/
import Derived.Test.YtolcaolmdfbfhaaOverP
import Derived.Test.YtolcaolmdfbfhaaTrim
import Derived.Test.YtolcaolmdfbfhaaRes
import Derived.Test.YtolcaolmdfbfhaaStep
import Derived.Test.YtolcaolmdfbfhaaMade
import Derived.Deep.RegionLaw
namespace Go.Proofs.Ytolcaolmdfbfhaa
set_option linter.unusedSimpArgs false
set_option linter.unusedVariables false
open Go.RowKit

theorem rmulB_o (x y : Int) (a b : UInt8) (w : World) (hx : x = (a.toNat : Int)) (hy : y = (b.toNat : Int)) :
    Calls Try.prog 89 #[.int .u8 x, .int .u8 y] w fun e w' => e = .returned (.int .u8 ((mulB a b).toNat : Int)) ∧ w = w' := by
  rw [mulB_nat]
  exact rmul_i x y _ _ w hx hy a.toNat_lt b.toNat_lt
theorem divF_one {x : UInt8} (h : x ≠ 0) : divF 1 x.toNat = ((invB x).toNat, true) := by
  unfold divF
  rw [if_neg (fun e => h (UInt8.toNat_inj.1 (by simpa using e))), invB_nat, mul_one_left (pow_lt x.toNat_lt _)]
theorem rdivB_one (y : Int) (x : UInt8) (w : World) (hy : y = (x.toNat : Int)) (h : x ≠ 0) :
    Calls Try.prog 88 #[.int .u8 1, .int .u8 y] w fun e w' => e = .returned (.tuple #[.int .u8 ((invB x).toNat : Int), .bool true]) ∧ w = w' := by
  subst hy
  have := rdiv_any 1 x.toNat w (by omega) x.toNat_lt
  rw [divF_one h] at this
  exact this
/-- What comes of a division: the quotient and the rest, in memory of their own. -/
def OverRes (w w' : World) (r : List UInt8 × List UInt8 × Int) (e : Ending) : Prop :=
  ∃ A c B d, e = .returned (.tuple #[.slice A r.1.length c, .slice B r.2.1.length d, .int .i64 r.2.2]) ∧ Own w' w.heap.size 5 1 A r.1.length c (bvs r.1) ∧ Own w' w.heap.size 5 1 B r.2.1.length d (bvs r.2.1) ∧ (∀ q, blk A = some q → blk B ≠ some q) ∧ Below w.heap.size w w'
theorem OverRes.none_ {w w' : World} {k : Int} (h : Below w.heap.size w w') : OverRes w w' ([], [], k) (.returned (.tuple #[.slice none 0 0, .slice none 0 0, .int .i64 k])) :=
  ⟨none, 0, none, 0, rfl, Own.none_ _ _ _ _, Own.none_ _ _ _ _, (fun q e => by simp [blk] at e), h⟩

set_option maxHeartbeats 6400000 in
set_option maxRecDepth 100000 in
theorem rover_good (A B : Option Addr) (p q : List UInt8) (n m c d : Nat) (w : World) (hp : p.length = n) (hq : q.length = m) (ra : Rd w A (bvs p)) (rb : Rd w B (bvs q)) (hd : m ≤ d) (h1 : n ≤ 512) (h2 : m ≤ 512) (hne : trimL q ≠ []) :
    Calls Try.prog 34 #[.slice A n c, .slice B m d] w fun e w' => OverRes w w' (trimL (overE (trimL q) p).1, trimL (overE (trimL q) p).2, 0) e := by
  obtain ⟨i0, hi0, hz0, hz1, hz2⟩ := info_parts u8info
  have hT := Lib.hid (fun w ha => trim_any B q m d w hq ha hd (by omega))
  have htop := trimL_top hne
  have hTl : (trimL q).length ≤ m := by rw [trimL_len, ← hq]; exact tlen_le q
  have hpos : 0 < (trimL q).length := by rcases Nat.eq_zero_or_pos (trimL q).length with e | e; exact absurd (List.eq_nil_of_length_eq_zero e) hne; exact e
  have hF := overR_len (b := trimL q) (inv := invB (lastB (trimL q))) (p.length + 1 - (trimL q).length) (List.replicate p.length 0, p)
  rw [show overR (trimL q) (invB (lastB (trimL q))) (p.length + 1 - (trimL q).length) (List.replicate p.length 0, p) = overE (trimL q) p from rfl] at hF
  have hE : Hid (overE (trimL q) p = overR (trimL q) (invB (lastB (trimL q))) (n + 1 - (trimL q).length) (List.replicate n 0, p)) := by show _ = _; unfold overE; rw [hp]
  have hlast : lastB (trimL q) ≠ 0 := htop
  have hLB : Hid ((trimL q).getD ((trimL q).length - 1) 0 = lastB (trimL q)) := Lib.hid rfl
  obtain ⟨f1, f2⟩ := hF
  simp only [List.length_replicate] at f1
  rw [hp] at f1 f2
  have HF1 := Lib.hid f1
  have HF2 := Lib.hid f2
  clear f1 f2 htop hne hq
  generalize overE (trimL q) p = F at *
  generalize trimL q = b at *
  generalize hbt : b.length = t at *
  have HBL := Lib.hid hbt
  clear hbt
  have HP := Lib.hid hp
  have q1 : Hid ((bvs p).length = n * 1) := by show _ = _; simp [bvs, hp]
  have q2 : 0 + n ≤ maxLen := by unfold maxLen; omega
  have q3 : (0 + n) * 1 ≤ 140737488355328 := by omega
  have d1 : decide ((512 : Int) < (n : Int)) = false := by simp; omega
  have d2 : decide ((512 : Int) < (m : Int)) = false := by simp; omega
  have d3 : ((t : Int) == 0) = false := by simp; omega
  have hmk := run_make_rowN (P := Try.prog) 22 5 i0 (.int .u8 0) Try.underlying22 hi0 hz0 .i64 .i64 n n (Nat.le_refl _) (by rw [hz2]; omega) (by omega)
  clear hp
  go_enter Try.func34, Try.ntmps34
  go_wp2_with fail
  refine (hT.out _ rb).mono ?_
  rintro e w1 ⟨A1, c1, rfl, hO1, hb1⟩
  have lt1 := hO1.lt
  have ra1 := ra.below hb1
  have z1 := hb1.size
  have u1 : (1 : Int) ≤ (t : Int) := by omega
  have u2 : ((t : Int) - 1).toNat = t - 1 := by omega
  go_upto_region 7 with (at_builtin; refine wpList_append_Own _ rfl (.const (.slice none 0 0)) (.tmp 28) 22 rfl w1.heap.size 5 i0 _ 1 1 Try.underlying22 hi0 hz0 hz1 hz2 rfl none 0 0 [] rfl (Own.none_ _ _ _ _) A n c (bvs p) rfl q1.out ra1 (bvs_one _) q2 q3 (Nat.le_refl _) ?_; intro A3 c3 w3 hO3 hg3 hor3)
  have hb3 := below_of_grown hg3
  replace hO1 := hO1.below hb3
  have hB3 := nextB hb1 z1 hb3
  have lt3 := hO3.lt
  have z3 := hb3.size
  rw [Nat.zero_add, List.nil_append] at hO3
  clear hb3 hg3 hor3 hb1 ra1
  go_upto_region 8 with fail
  obtain ⟨W4, hW4⟩ : ∃ W : World, W = w3.alloc (.cells (madeCells #[.int .u8 0] n) 5) := ⟨_, rfl⟩
  have hS4 : Own W4 w.heap.size 5 1 (some ⟨w3.heap.size, 0, none⟩) n n (bvs (List.replicate n 0)) := by rw [hW4]; exact (Own.made8 w3 n n (Nat.le_refl _) (by unfold maxLen; omega)).mono hB3.size
  have hb4 : Below w3.heap.size w3 W4 := by rw [hW4]; exact (Below.refl _ _).alloc (Nat.le_refl _) _
  rw [← hW4]
  clear hW4 hmk
  replace hO1 := hO1.below hb4
  have hR4 := (hO3.below hb4).mono (base' := w.heap.size) (by omega)
  have hB4 := nextB hB3 hB3.size hb4
  have z4 := hb4.size
  have zg : w3.heap.size < W4.heap.size := (hS4.lt w3.heap.size rfl).2
  have hns : ∀ q, blk A3 = some q → q ≠ w3.heap.size := fun q hq => by have := lt3 q hq; omega
  have hn1 : ∀ q, blk A1 = some q → q ≠ w3.heap.size := fun q hq => by have := lt1 q hq; omega
  have hn13 : ∀ q, blk A3 = some q → blk A1 ≠ some q := fun q hq e => by have := lt3 q hq; have := lt1 q e; omega
  generalize w3.heap.size = gS at *
  clear hO3 hb4 hB3
  obtain ⟨b1, o1, rfl, hc1⟩ := hO1.rd.byteD (k := t - 1) (by rw [HBL.out]; omega)
  have hLB2 : Hid (b.getD (t - 1) 0 = lastB b) := by show _ = _; rw [← HBL.out]; rfl
  rw [hLB2.out] at hc1
  have HD := Lib.hid (fun w => rdivB_one _ (lastB b) w rfl hlast)
  clear hLB hLB2 hlast
  generalize invB (lastB b) = inv at *
  generalize lastB b = lb at *
  go_wp2_with fail
  refine (HD.out _).mono ?_
  rintro e _ ⟨rfl, rfl⟩
  clear hc1
  go_wp2_with fail
  go_loopw [12] (fun iv wr => ∃ (c : Nat) (i' : Int) (s r : List UInt8), iv = .int .i64 i' ∧ (i' + 1 = (c : Int) ∨ c = 0 ∧ i' < 0) ∧ -513 ≤ i' ∧ (c = 0 ∨ c + t ≤ n + 1) ∧ Hid (F = overR b inv c (s, r)) ∧ Own wr w.heap.size 5 1 (some ⟨gS, 0, none⟩) n n (bvs s) ∧ Own wr w.heap.size 5 1 A3 n c3 (bvs r) ∧ Own wr w.heap.size 5 1 (some ⟨b1, o1, none⟩) t c1 (bvs b) ∧ Below w.heap.size w wr ∧ W4.heap.size ≤ wr.heap.size) (fun iv _ => (intOf iv + 1).toNat)
  case atStart => exact ⟨n + 1 - t, _, _, p, rfl, by omega, by omega, by omega, hE, hS4, hR4, hO1, hB4, Nat.le_refl _⟩
  case round =>
    obtain ⟨c, i', s, r, rfl, hci, hi5, hct, HF, hS, hR, hO, hB, hz⟩ := hrel
    clear hS4 hR4 hO1 hB4 hE
    by_cases hi : 0 ≤ i'
    · obtain ⟨c, rfl⟩ : ∃ k, c = k + 1 := ⟨c - 1, by omega⟩
      obtain rfl : i' = (c : Int) := by omega
      have hn0 : 0 < n := by omega
      have hrl : r.length = n := by have := hR.len; rw [bvs_length] at this; omega
      have hsl : s.length = n := by have := hS.len; rw [bvs_length] at this; omega
      obtain ⟨b3, o3, rfl, _, _⟩ := hR.form (by have := hR.le; omega)
      have n3 := hns b3 rfl
      have n1 := hn1 b1 rfl
      have n13 : ¬ b3 = b1 := fun e => hn13 b3 rfl (by rw [e]; rfl)
      have hc2 := hR.rd.byteE (k := c + t - 1) (by omega)
      obtain ⟨y, hy, hc3⟩ := hS.byteAt (k := c) (by omega)
      have hf3 := hS.frozen (0 + c)
      rw [Nat.zero_add] at hc3 hf3
      have HK : Hid (overK b inv c (s, r) = mulB (r.getD (c + t - 1) 0) inv) := by show _ = _; unfold overK; rw [HBL.out]
      have HR : Hid (F = overR b inv c (s.set c (overK b inv c (s, r)), addTo r b (overK b inv c (s, r)) c t)) := by
        show _ = _
        rw [HF.out]
        show overR b inv c (overS b inv c (s, r)) = _
        unfold overS
        rw [HBL.out]
      have e0 : ((c : Int) + (t : Int) - 1).toNat = c + t - 1 := by omega
      have e1 : (1 : Int) ≤ (c : Int) + (t : Int) := by omega
      have e2 : (c : Int) + (t : Int) - 1 < (n : Int) := by omega
      have HM := Lib.hid (fun w => rmulB_o _ _ (r.getD (c + t - 1) 0) inv w rfl rfl)
      rw [← HK.out] at HM
      generalize overK b inv c (s, r) = k at *
      generalize r.getD (c + t - 1) 0 = x at *
      clear HF HK hy
      go_wp2_with fail
      refine (HM.out _).mono ?_
      rintro e _ ⟨rfl, rfl⟩
      go_wp2_with fail
      obtain ⟨W5, hW5⟩ : ∃ W : World, W = wr.setCell ⟨gS, c, none⟩ (.int .u8 (k.toNat : Int)) := ⟨_, rfl⟩
      rw [← hW5]
      have hS5 : Own W5 w.heap.size 5 1 (some ⟨gS, 0, none⟩) n n (bvs (s.set c k)) := by
        rw [hW5]
        have := hS.setB (k := c) (by omega) k
        rwa [Nat.zero_add] at this
      have hR5 : Own W5 w.heap.size 5 1 (some ⟨b3, o3, none⟩) n c3 (bvs (addTo r b k c 0)) := by rw [hW5]; exact hR.setFar (fun e => n3 (blk_lit e).symm) _
      have hO5 : Own W5 w.heap.size 5 1 (some ⟨b1, o1, none⟩) t c1 (bvs b) := by rw [hW5]; exact hO.setFar (fun e => n1 (blk_lit e).symm) _
      have hgS := hS.lt gS rfl
      have hB5 : Below w.heap.size w W5 := by rw [hW5]; exact hB.setCell hgS.1 _
      have hz5 : W4.heap.size ≤ W5.heap.size := by rw [hW5]; simpa using hz
      clear hW5 hc2 hc3 hf3 hS hR hO hB hz e0 e1 e2 HM
      go_loopw [14] (fun jv wr => ∃ j : Nat, j ≤ t ∧ jv = .int .i64 j ∧ (k = 0 → j = 0) ∧ Own wr w.heap.size 5 1 (some ⟨gS, 0, none⟩) n n (bvs (s.set c k)) ∧ Own wr w.heap.size 5 1 (some ⟨b3, o3, none⟩) n c3 (bvs (addTo r b k c j)) ∧ Own wr w.heap.size 5 1 (some ⟨b1, o1, none⟩) t c1 (bvs b) ∧ Below w.heap.size w wr ∧ W4.heap.size ≤ wr.heap.size) (fun j _ => t - (intOf j).toNat)
      case atStart => exact ⟨0, by omega, rfl, fun _ => rfl, hS5, hR5, hO5, hB5, hz5⟩
      case round =>
        obtain ⟨j, hj, rfl, hkj, hS, hR, hO, hB, hz⟩ := hrel
        clear hS5 hR5 hO5 hB5 hz5
        by_cases hk : k = 0
        · have hj0 := hkj hk
          subst hj0
          have hA : Hid (addTo r b k c t = addTo r b k c 0) := by show _ = _; rw [hk, addTo_none (by omega)]; rfl
          have hk1 : ((k.toNat : Int) != 0) = false := by rw [hk]; rfl
          have h6 : decide (0 < t) = true := by simp; omega
          have h6i : (0 : Int) < (t : Int) := by omega
          clear hk hkj
          go_wp2_with fail
          go_roundw
          case rel => exact ⟨c, _, _, _, rfl, by omega, by omega, by omega, HR, hS, by rw [hA.out]; exact hR, hO, hB, hz⟩
          case measure => (simp [intOf] <;> omega)
        · have hk0 := Lib.hid hk
          have hk1 : ((k.toNat : Int) != 0) = true := by
            rw [bne_iff_ne]
            intro h
            exact hk (UInt8.toNat_inj.1 (by simp; omega))
          clear hkj
          by_cases h6 : j < t
          · have h6i : (j : Int) < (t : Int) := by omega
            have hcb := hO.rd.byteE (k := j) (by rw [HBL.out]; exact h6)
            obtain ⟨v, hv, hcr⟩ := hR.byteAt (k := c + j) (by omega)
            have hfr := hR.frozen (o3 + (c + j))
            have HV : Hid ((addTo r b k c j).getD (c + j) 0 = v) := by show _ = _; simp [List.getD, hv]
            have HA : Hid (addTo r b k c (j + 1) = (addTo r b k c j).set (c + j) (v ^^^ mulB k (b.getD j 0))) := by show (addTo r b k c j).set (c + j) (_ ^^^ _) = _; rw [HV.out]
            generalize b.getD j 0 = z at *
            have ex := xor_u8 v (mulB k z)
            have gz := byte_lt z
            have gv := byte_lt v
            have gk := byte_lt k
            have n13' : ¬ b1 = b3 := fun e => n13 e.symm
            clear hv HV hk
            go_wp2_with fail
            have w0 : IntKind.i64.wrap ((c : Int) + (j : Int)) = (c : Int) + (j : Int) := IntWalk.i64_in _ (by omega)
            have t0 : ((c : Int) + (j : Int)).toNat = c + j := by omega
            have p0 : (0 : Int) ≤ (c : Int) + (j : Int) := by omega
            have p1 : (c : Int) + (j : Int) < (n : Int) := by omega
            go_region_law (first | (go_simp; go_at_call 89; refine (rmulB_o _ _ k z _ rfl rfl).mono ?_; rintro e w' ⟨rfl, rfl⟩))
            all_goals clear w0 t0 p0 p1 ex
            all_goals go_wp2
            all_goals go_roundw
            all_goals first
              | (simp [intOf]; omega)
              | (refine ⟨j + 1, by omega, by go_num, fun e => absurd e hk0.out, (hS.setFar (fun e => n3 (blk_lit e)) _).drew, ?_, (hO.setFar (fun e => n13' (blk_lit e).symm) _).drew, (hB.setCell (by have := hR.lt b3 rfl; omega) _).drew, by simpa using hz⟩
                 rw [HA.out, ← UInt8.toNat_xor]
                 exact (hR.setB (k := c + j) (by omega) (v ^^^ mulB k z)).drew)
          · obtain rfl : j = t := by omega
            have h6f : decide (j < j) = false := by simp
            go_wp2_with fail
            go_roundw
            case rel => exact ⟨c, _, _, _, rfl, by omega, by omega, by omega, HR, hS, hR, hO, hB, hz⟩
            case measure => (simp [intOf] <;> omega)
    · obtain rfl : c = 0 := by omega
      have hFe : F = (s, r) := HF.out
      subst hFe
      have hi1 : decide (0 ≤ i') = false := by simp; omega
      clear HF
      have hsl : s.length = n := by have := hS.len; rw [bvs_length] at this; omega
      go_wp2_with fail
      refine (trim_any _ s n n _ hsl hS.rd (Nat.le_refl _) (by omega)).mono ?_
      rintro e w7 ⟨A7, c7, rfl, hO7, hb7⟩
      have hR7 := hR.below hb7
      have lt7 := hO7.lt
      have hrl : r.length = n := by have := hR.len; rw [bvs_length] at this; omega
      go_wp2_with fail
      refine (trim_any _ r n c3 _ hrl hR7.rd hR.le (by omega)).mono ?_
      rintro e w8 ⟨A8, c8, rfl, hO8, hb8⟩
      have lt8 := hO8.lt
      have hB7 := nextB hB hB.size hb7
      go_wp2_with fail
      refine bodyPost_ret (v := .tuple #[.slice A7 (trimL s).length c7, .slice A8 (trimL r).length c8, .int .i64 0]) (by simp [results, Try.results34, go_sem]) rfl ?_
      exact ⟨A7, c7, A8, c8, rfl, (hO7.below hb8).mono hB.size, hO8.mono hB7.size, fun q h1 h2 => by have := lt7 q h1; have := lt8 q h2; omega, nextB hB7 hB7.size hb8⟩
end Go.Proofs.Ytolcaolmdfbfhaa
