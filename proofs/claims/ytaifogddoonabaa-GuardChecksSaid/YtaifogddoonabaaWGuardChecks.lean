/-
  GuardChecks is true of any guard.
-/
import Derived.Test.YtaifogddoonabaaGrdO
import Derived.Deep.DeepCutAuto
namespace Go.Proofs.Ytaifogddoonabaa
set_option linter.unusedSimpArgs false
set_option linter.unusedVariables false
open Go.RowKit

set_option maxHeartbeats 6400000 in
set_option maxRecDepth 100000 in
theorem guardChecks_walk0 (g : Grd) (A : Option Addr) (c : Nat) (w : World) (hR : Rd w A (mvs g.mons)) (hnn : g.mons.length ≤ 2513169434900) :
    Calls Try.prog 4 #[grv g A g.mons.length c] w fun e w' => e = .returned (.bool true) ∧ Below w.heap.size w w' := by
  obtain ⟨n, hn⟩ : ∃ n, g.mons.length = n := ⟨_, rfl⟩
  obtain ⟨⟨err, at'⟩, hr⟩ : ∃ r, grdE g = r := ⟨_, rfl⟩
  have he : (grdE g).1 = err := by rw [hr]
  obtain ⟨k, hk⟩ : ∃ k, k = if err = 0 then n else 0 := ⟨_, rfl⟩
  obtain ⟨why, hw⟩ : ∃ y : Int, y = if err = 0 then -1 else 0 := ⟨_, rfl⟩
  have hk32 : k ≤ 32 := by
    rw [hk]
    split
    · rename_i h
      rw [← hn]
      exact grdE_len (by rw [he]; exact h)
    · omega
  rw [hn] at hnn ⊢
  have CO := Lib.hid (fun (V : World) (h : Rd V A (mvs g.mons)) => guardOwn_any g A n c V hn h hnn)
  have CV := Lib.hid (fun (V : World) (A : Option Addr) (c : Nat) (h : Rd V A (mvs g.mons)) => vigilant_any g A n c V hn h why k err he hk hw)
  have CB := Lib.hid (fun (V : World) (A : Option Addr) (c : Nat) (h : Rd V A (mvs g.mons)) => begin_any g A n c V hn h why k err he hk hw)
  have CC := Lib.hid (fun (V : World) (A : Option Addr) (c : Nat) (h : Rd V A (mvs g.mons)) => check_any g A n c V hn h)
  have CF := Lib.hid (fun (V : World) (A : Option Addr) (c : Nat) (h : Rd V A (mvs g.mons)) => fault_any g A n c V hn h)
  have CG := Lib.hid (fun (V : World) (A B : Option Addr) (c d : Nat) (h : Rd V A (mvs g.mons)) (h' : Rd V B (mvs g.mons)) => sameGuard_yes g A B n c d V hn (by omega) h h')
  have CS := Lib.hid (fun (V : World) (A1 B1 A2 B2 : Option Addr) (c1 d1 c2 d2 : Nat) (h1 : Rd V A1 (ivs (List.replicate k 0))) (h2 : Rd V A2 (bovs (List.replicate k false))) (h3 : Rd V B1 (ivs (List.replicate k 0))) (h4 : Rd V B2 (bovs (List.replicate k false))) =>
    sameVigil_yes false why 0 (List.replicate k 0) (List.replicate k false) [] A1 A2 none B1 B2 none k k 0 c1 c2 0 d1 d2 0 V (by simp) (by simp) rfl (by omega) (by omega) (by omega) h1 h2 (Rd.nil _ _) h3 h4 (Rd.nil _ _))
  simp only [hr] at CC CF
  have HR := Lib.hid hR
  have HN := Lib.hid hn
  clear hR hn hr he hk hw
  obtain ⟨mons, silence, most, window, nm⟩ := g
  unfold grv at CO CV CB CC CF CG ⊢
  dsimp only at CO CV CB CC CF CG HR HN ⊢
  have b1 := Blk.new w 42 #[.slice A n c, .int .i64 silence, .int .i64 most, .int .i64 window, .string nm]
  have hB : Below w.heap.size w (w.alloc (.cells #[.slice A n c, .int .i64 silence, .int .i64 most, .int .i64 window, .string nm] 42)) := (Below.refl _ _).alloc (Nat.le_refl _) _
  have hq1 : w.heap.size < (w.alloc (.cells #[.slice A n c, .int .i64 silence, .int .i64 most, .int .i64 window, .string nm] 42)).heap.size := by simp
  go_enter Try.func4, Try.ntmps4
  go_upto_region 1 with fail
  generalize w.alloc (.cells #[.slice A n c, .int .i64 silence, .int .i64 most, .int .i64 window, .string nm] 42) = W at *
  obtain ⟨q1, hq⟩ : ∃ q, q = w.heap.size := ⟨_, rfl⟩
  rw [← hq] at b1 hq1 ⊢
  clear hq
  have x0 := b1.cell' (i := 0) rfl
  have x1 := b1.cell' (i := 1) rfl
  have x2 := b1.cell' (i := 2) rfl
  have x3 := b1.cell' (i := 3) rfl
  have x4 := b1.cell' (i := 4) rfl
  go_wp2_with fail
  refine (CO.out _ (HR.out.below hB)).mono ?_
  rintro e v1 ⟨Ao, co, rfl, OG, hb⟩
  have z1 := hb.size
  have zW := hB.size
  have b3 := Blk.new v1 42 #[.slice Ao n co, .int .i64 silence, .int .i64 most, .int .i64 window, .string nm]
  have hb3 := hb.alloc z1 (.cells #[.slice Ao n co, .int .i64 silence, .int .i64 most, .int .i64 window, .string nm] 42)
  replace OG := OG.alloc (.cells #[.slice Ao n co, .int .i64 silence, .int .i64 most, .int .i64 window, .string nm] 42)
  replace b1 := b1.step hb3
  replace hB := hB.trans (hb3.mono hB.size)
  have hq3 : v1.heap.size < (v1.alloc (.cells #[.slice Ao n co, .int .i64 silence, .int .i64 most, .int .i64 window, .string nm] 42)).heap.size := by simp
  have hq13 : q1 < v1.heap.size := by omega
  clear hb hb3 CO x0 x1 x2 x3 x4 hq1
  go_upto_region 2 with fail
  generalize v1.alloc (.cells #[.slice Ao n co, .int .i64 silence, .int .i64 most, .int .i64 window, .string nm] 42) = V1 at *
  obtain ⟨q3, hq⟩ : ∃ q, q = v1.heap.size := ⟨_, rfl⟩
  rw [← hq] at b3 hq3 hq13 ⊢
  clear hq
  have x0 := b1.cell' (i := 0) rfl
  have x1 := b1.cell' (i := 1) rfl
  have x2 := b1.cell' (i := 2) rfl
  have x3 := b1.cell' (i := 3) rfl
  have x4 := b1.cell' (i := 4) rfl
  go_wp2_with fail
  refine (CV.out _ _ _ (HR.out.below hB)).mono ?_
  rintro e v2 ⟨A4, c4, B4, d4, rfl, I4, J4, hb⟩
  unfold vgv
  have z2 := hb.size
  have b4 := Blk.new v2 47 #[.bool false, .int .i64 why, .slice A4 k c4, .slice B4 k d4, .int .i64 0, .slice none 0 0]
  have hbx := hb.alloc z2 (.cells #[.bool false, .int .i64 why, .slice A4 k c4, .slice B4 k d4, .int .i64 0, .slice none 0 0] 47)
  replace I4 := I4.alloc (.cells #[.bool false, .int .i64 why, .slice A4 k c4, .slice B4 k d4, .int .i64 0, .slice none 0 0] 47)
  replace J4 := J4.alloc (.cells #[.bool false, .int .i64 why, .slice A4 k c4, .slice B4 k d4, .int .i64 0, .slice none 0 0] 47)
  replace OG := OG.below hbx
  replace b1 := b1.step hbx
  replace b3 := b3.step hbx
  replace hB := hB.trans (hbx.mono hB.size)
  have hq4 : v2.heap.size < (v2.alloc (.cells #[.bool false, .int .i64 why, .slice A4 k c4, .slice B4 k d4, .int .i64 0, .slice none 0 0] 47)).heap.size := by simp
  have hq34 : q3 < v2.heap.size := by omega
  clear hb hbx CV x0 x1 x2 x3 x4 hq3
  go_upto_region 3 with fail
  generalize v2.alloc (.cells #[.bool false, .int .i64 why, .slice A4 k c4, .slice B4 k d4, .int .i64 0, .slice none 0 0] 47) = V2 at *
  obtain ⟨q4, hq⟩ : ∃ q, q = v2.heap.size := ⟨_, rfl⟩
  rw [← hq] at b4 hq4 hq34 ⊢
  clear hq
  have l4 := fun (q : Nat) (h : blk A4 = some q) => (I4.lt q h).2
  have m4 := fun (q : Nat) (h : blk B4 = some q) => (J4.lt q h).2
  have hs2 := hB.size
  have x0 := b3.cell' (i := 0) rfl
  have x1 := b3.cell' (i := 1) rfl
  have x2 := b3.cell' (i := 2) rfl
  have x3 := b3.cell' (i := 3) rfl
  have x4 := b3.cell' (i := 4) rfl
  go_wp2_with fail
  refine (CB.out _ _ _ OG.rd).mono ?_
  rintro e v3 ⟨A6, c6, B6, d6, rfl, I6, J6, hb⟩
  unfold vgv
  have z3 := hb.size
  have b6 := Blk.new v3 47 #[.bool false, .int .i64 why, .slice A6 k c6, .slice B6 k d6, .int .i64 0, .slice none 0 0]
  have hbx := hb.alloc z3 (.cells #[.bool false, .int .i64 why, .slice A6 k c6, .slice B6 k d6, .int .i64 0, .slice none 0 0] 47)
  replace I6 := I6.alloc (.cells #[.bool false, .int .i64 why, .slice A6 k c6, .slice B6 k d6, .int .i64 0, .slice none 0 0] 47)
  replace J6 := J6.alloc (.cells #[.bool false, .int .i64 why, .slice A6 k c6, .slice B6 k d6, .int .i64 0, .slice none 0 0] 47)
  replace I4 := I4.below hbx
  replace J4 := J4.below hbx
  replace OG := OG.below hbx
  replace b1 := b1.step hbx
  replace b3 := b3.step hbx
  replace b4 := b4.step hbx
  replace hB := hB.trans (hbx.mono hB.size)
  have hq6 : v3.heap.size < (v3.alloc (.cells #[.bool false, .int .i64 why, .slice A6 k c6, .slice B6 k d6, .int .i64 0, .slice none 0 0] 47)).heap.size := by simp
  have hq46 : q4 < v3.heap.size := by omega
  have s23 := hbx.size
  clear hb hbx x0 x1 x2 x3 x4
  go_upto_region 4 with fail
  generalize v3.alloc (.cells #[.bool false, .int .i64 why, .slice A6 k c6, .slice B6 k d6, .int .i64 0, .slice none 0 0] 47) = V3 at *
  obtain ⟨q6, hq⟩ : ∃ q, q = v3.heap.size := ⟨_, rfl⟩
  rw [← hq] at b6 hq6 hq46 ⊢
  clear hq
  have l6 := fun (q : Nat) (h : blk A6 = some q) => (I6.lt q h).2
  have m6 := fun (q : Nat) (h : blk B6 = some q) => (J6.lt q h).2
  have x0 := b3.cell' (i := 0) rfl
  have x1 := b3.cell' (i := 1) rfl
  have x2 := b3.cell' (i := 2) rfl
  have x3 := b3.cell' (i := 3) rfl
  have x4 := b3.cell' (i := 4) rfl
  go_wp2_with fail
  refine (CB.out _ _ _ OG.rd).mono ?_
  rintro e v4 ⟨A8, c8, B8, d8, rfl, I8, J8, hb⟩
  unfold vgv
  have z4 := hb.size
  have b8 := Blk.new v4 47 #[.bool false, .int .i64 why, .slice A8 k c8, .slice B8 k d8, .int .i64 0, .slice none 0 0]
  have hbx := hb.alloc z4 (.cells #[.bool false, .int .i64 why, .slice A8 k c8, .slice B8 k d8, .int .i64 0, .slice none 0 0] 47)
  replace I8 := I8.alloc (.cells #[.bool false, .int .i64 why, .slice A8 k c8, .slice B8 k d8, .int .i64 0, .slice none 0 0] 47)
  replace J8 := J8.alloc (.cells #[.bool false, .int .i64 why, .slice A8 k c8, .slice B8 k d8, .int .i64 0, .slice none 0 0] 47)
  replace I6 := I6.below hbx
  replace J6 := J6.below hbx
  replace I4 := I4.below hbx
  replace J4 := J4.below hbx
  replace OG := OG.below hbx
  replace b1 := b1.step hbx
  replace b3 := b3.step hbx
  replace b4 := b4.step hbx
  replace b6 := b6.step hbx
  replace hB := hB.trans (hbx.mono hB.size)
  have hq8 : v4.heap.size < (v4.alloc (.cells #[.bool false, .int .i64 why, .slice A8 k c8, .slice B8 k d8, .int .i64 0, .slice none 0 0] 47)).heap.size := by simp
  have hq68 : q6 < v4.heap.size := by omega
  have s34 := hbx.size
  clear hb hbx CB x0 x1 x2 x3 x4
  go_upto_region 5 with fail
  generalize v4.alloc (.cells #[.bool false, .int .i64 why, .slice A8 k c8, .slice B8 k d8, .int .i64 0, .slice none 0 0] 47) = VW at *
  obtain ⟨q8, hq⟩ : ∃ q, q = v4.heap.size := ⟨_, rfl⟩
  rw [← hq] at b8 hq8 hq68 ⊢
  clear hq
  have hX0 : Below VW.heap.size VW VW.drew := (Below.refl _ _).drew
  refine heldRegion (fun v => Below VW.heap.size VW v) 26 (by kernel_rfl) (by kernel_rfl) hX0 (fun hSS => ?_)
  generalize VW.drew = VX at *
  refine walk_take 0 (v := ?va0) rfl (by kernel_rfl) (by kernel_rfl) (by kernel_rfl) (fun _ _ _ h => h) (hSS) (Or.inl ⟨by rfl, ?ya0⟩) ?ra0
  case ya0 => intro w hSw; obtain hwZ := id hSw; have e0 := (b3.step hwZ).cell' (i := 0) rfl; have e1 := (b3.step hwZ).cell' (i := 1) rfl; have e2 := (b3.step hwZ).cell' (i := 2) rfl; have e3 := (b3.step hwZ).cell' (i := 3) rfl; have e4 := (b3.step hwZ).cell' (i := 4) rfl; have hSx := hSw; (try dsimp only at hSw); go_simp; try rfl
  case' ra0 => try simp only [List.getElem_toArray, List.getElem_cons_succ, List.getElem_cons_zero, Act.put, List.setIfInBounds_toArray, List.set_cons_zero, List.set_cons_succ]
  refine walk_take 2 (v := ?vb2) rfl (by kernel_rfl) (by kernel_rfl) (by kernel_rfl) (fun _ _ _ h => h) (hSS) (Or.inl ⟨by rfl, ?yb2⟩) ?rb2
  case yb2 => intro w hSw; obtain hwZ := id hSw; have e0 := (b1.step hwZ).cell' (i := 0) rfl; have e1 := (b1.step hwZ).cell' (i := 1) rfl; have e2 := (b1.step hwZ).cell' (i := 2) rfl; have e3 := (b1.step hwZ).cell' (i := 3) rfl; have e4 := (b1.step hwZ).cell' (i := 4) rfl; have hSx := hSw; (try dsimp only at hSw); go_simp; try rfl
  case' rb2 => try simp only [List.getElem_toArray, List.getElem_cons_succ, List.getElem_cons_zero, Act.put, List.setIfInBounds_toArray, List.set_cons_zero, List.set_cons_succ]
  refine walk_step 1 rfl (by kernel_rfl) (by kernel_rfl) (fun K hK => ?ck)
  case ck =>
    go_simp
    refine (CC.out VX Ao co (OG.rd.below hSS)).mono ?_
    rintro e v5 ⟨rfl, hb⟩
    have hX5 := hSS.trans (hb.mono hSS.size)
    refine hK _ _ hX5 ?_
    clear hK K hb CC
    try simp only [List.getElem_toArray, List.getElem_cons_succ, List.getElem_cons_zero, Act.put, List.setIfInBounds_toArray, List.set_cons_zero, List.set_cons_succ]
    refine walk_step 3 rfl (by kernel_rfl) (by kernel_rfl) (fun K hK => ?cf)
    case cf =>
      go_simp
      refine (CF.out v5 A c ((HR.out.below hB).below hX5)).mono ?_
      rintro e v6 ⟨rfl, hb⟩
      have hX6 := hX5.trans (hb.mono hX5.size)
      refine hK _ _ hX6 ?_
      clear hK K hb CF
      try simp only [List.getElem_toArray, List.getElem_cons_succ, List.getElem_cons_zero, Act.put, List.setIfInBounds_toArray, List.set_cons_zero, List.set_cons_succ]
      refine walk_take 4 (v := ?vc4) rfl (by kernel_rfl) (by kernel_rfl) (by kernel_rfl) (fun _ _ _ h => h) (hX6) (Or.inl ⟨by rfl, ?yc4⟩) ?rc4
      case yc4 => intro w hSw; (try dsimp only at hSw); go_simp; try rfl
      case' rc4 => try simp only [List.getElem_toArray, List.getElem_cons_succ, List.getElem_cons_zero, Act.put, List.setIfInBounds_toArray, List.set_cons_zero, List.set_cons_succ]
      refine walk_take 5 (v := ?vc5) rfl (by kernel_rfl) (by kernel_rfl) (by kernel_rfl) (fun _ _ _ h => h) (hX6) (Or.inl ⟨by rfl, ?yc5⟩) ?rc5
      case yc5 => intro w hSw; (try dsimp only at hSw); go_simp; try rfl
      case' rc5 => try simp only [List.getElem_toArray, List.getElem_cons_succ, List.getElem_cons_zero, Act.put, List.setIfInBounds_toArray, List.set_cons_zero, List.set_cons_succ]
      refine walk_take 6 (v := ?vc6) rfl (by kernel_rfl) (by kernel_rfl) (by kernel_rfl) (fun _ _ _ h => h) (hX6) (Or.inl ⟨by rfl, ?yc6⟩) ?rc6
      case yc6 => intro w hSw; (try dsimp only at hSw); go_simp; try rfl
      case' rc6 => try simp only [List.getElem_toArray, List.getElem_cons_succ, List.getElem_cons_zero, Act.put, List.setIfInBounds_toArray, List.set_cons_zero, List.set_cons_succ]
      refine walk_take 7 (v := ?vc7) rfl (by kernel_rfl) (by kernel_rfl) (by kernel_rfl) (fun _ _ _ h => h) (hX6) (Or.inl ⟨by rfl, ?yc7⟩) ?rc7
      case yc7 => intro w hSw; (try dsimp only at hSw); go_simp; try rfl
      case' rc7 => try simp only [List.getElem_toArray, List.getElem_cons_succ, List.getElem_cons_zero, Act.put, List.setIfInBounds_toArray, List.set_cons_zero, List.set_cons_succ]
      refine walk_take 8 (v := ?vc8) rfl (by kernel_rfl) (by kernel_rfl) (by kernel_rfl) (fun _ _ _ h => h) (hX6) (Or.inl ⟨by rfl, ?yc8⟩) ?rc8
      case yc8 => intro w hSw; (try dsimp only at hSw); go_simp; try rfl
      case' rc8 => try simp only [List.getElem_toArray, List.getElem_cons_succ, List.getElem_cons_zero, Act.put, List.setIfInBounds_toArray, List.set_cons_zero, List.set_cons_succ]
      refine walk_take 9 (v := ?vc9) rfl (by kernel_rfl) (by kernel_rfl) (by kernel_rfl) (fun _ _ _ h => h) (hX6) (Or.inl ⟨by rfl, ?yc9⟩) ?rc9
      case yc9 => intro w hSw; (try dsimp only at hSw); go_simp; try rfl
      case' rc9 => try simp only [List.getElem_toArray, List.getElem_cons_succ, List.getElem_cons_zero, Act.put, List.setIfInBounds_toArray, List.set_cons_zero, List.set_cons_succ]
      refine walk_take 10 (v := ?vc10) rfl (by kernel_rfl) (by kernel_rfl) (by kernel_rfl) (fun _ _ _ h => h) (hX6) (Or.inl ⟨by rfl, ?yc10⟩) ?rc10
      case yc10 => intro w hSw; (try dsimp only at hSw); go_simp; try rfl
      case' rc10 => try simp only [List.getElem_toArray, List.getElem_cons_succ, List.getElem_cons_zero, Act.put, List.setIfInBounds_toArray, List.set_cons_zero, List.set_cons_succ]
      refine walk_take 11 (v := ?vc11) rfl (by kernel_rfl) (by kernel_rfl) (by kernel_rfl) (fun _ _ _ h => h) (hX6) (Or.inl ⟨by rfl, ?yc11⟩) ?rc11
      case yc11 => intro w hSw; (try dsimp only at hSw); go_simp; try rfl
      case' rc11 => try simp only [List.getElem_toArray, List.getElem_cons_succ, List.getElem_cons_zero, Act.put, List.setIfInBounds_toArray, List.set_cons_zero, List.set_cons_succ]
      refine walk_take 12 (v := ?vc12) rfl (by kernel_rfl) (by kernel_rfl) (by kernel_rfl) (fun _ _ _ h => h) (hX6) (Or.inl ⟨by rfl, ?yc12⟩) ?rc12
      case yc12 => intro w hSw; (try dsimp only at hSw); go_simp; try rfl
      case' rc12 => try simp only [List.getElem_toArray, List.getElem_cons_succ, List.getElem_cons_zero, Act.put, List.setIfInBounds_toArray, List.set_cons_zero, List.set_cons_succ]
      refine walk_take 13 (v := ?vc13) rfl (by kernel_rfl) (by kernel_rfl) (by kernel_rfl) (fun _ _ _ h => h) (hX6) (Or.inl ⟨by rfl, ?yc13⟩) ?rc13
      case yc13 => intro w hSw; (try dsimp only at hSw); go_simp; try rfl
      case' rc13 => try simp only [List.getElem_toArray, List.getElem_cons_succ, List.getElem_cons_zero, Act.put, List.setIfInBounds_toArray, List.set_cons_zero, List.set_cons_succ]
      refine walk_take 14 (v := ?vc14) rfl (by kernel_rfl) (by kernel_rfl) (by kernel_rfl) (fun _ _ _ h => h) (hX6) (Or.inl ⟨by rfl, ?yc14⟩) ?rc14
      case yc14 => intro w hSw; (try dsimp only at hSw); go_simp; try rfl
      case' rc14 => try simp only [List.getElem_toArray, List.getElem_cons_succ, List.getElem_cons_zero, Act.put, List.setIfInBounds_toArray, List.set_cons_zero, List.set_cons_succ]
      refine walk_take 15 (v := ?vc15) rfl (by kernel_rfl) (by kernel_rfl) (by kernel_rfl) (fun _ _ _ h => h) (hX6) (Or.inl ⟨by rfl, ?yc15⟩) ?rc15
      case yc15 => intro w hSw; (try dsimp only at hSw); go_simp; try rfl
      case' rc15 => try simp only [List.getElem_toArray, List.getElem_cons_succ, List.getElem_cons_zero, Act.put, List.setIfInBounds_toArray, List.set_cons_zero, List.set_cons_succ]
      refine walk_take 16 (v := ?vd16) rfl (by kernel_rfl) (by kernel_rfl) (by kernel_rfl) (fun _ _ _ h => h) (hX6) (Or.inl ⟨by rfl, ?yd16⟩) ?rd16
      case yd16 => intro w hSw; obtain hwZ := id hSw; have e0 := (b6.step hwZ).cell' (i := 0) rfl; have e1 := (b6.step hwZ).cell' (i := 1) rfl; have e2 := (b6.step hwZ).cell' (i := 2) rfl; have e3 := (b6.step hwZ).cell' (i := 3) rfl; have e4 := (b6.step hwZ).cell' (i := 4) rfl; have e5 := (b6.step hwZ).cell' (i := 5) rfl; have hSx := hSw; (try dsimp only at hSw); go_simp; try rfl
      case' rd16 => try simp only [List.getElem_toArray, List.getElem_cons_succ, List.getElem_cons_zero, Act.put, List.setIfInBounds_toArray, List.set_cons_zero, List.set_cons_succ]
      refine walk_take 17 (v := ?ve17) rfl (by kernel_rfl) (by kernel_rfl) (by kernel_rfl) (fun _ _ _ h => h) (hX6) (Or.inl ⟨by rfl, ?ye17⟩) ?re17
      case ye17 => intro w hSw; obtain hwZ := id hSw; have e0 := (b4.step hwZ).cell' (i := 0) rfl; have e1 := (b4.step hwZ).cell' (i := 1) rfl; have e2 := (b4.step hwZ).cell' (i := 2) rfl; have e3 := (b4.step hwZ).cell' (i := 3) rfl; have e4 := (b4.step hwZ).cell' (i := 4) rfl; have e5 := (b4.step hwZ).cell' (i := 5) rfl; have hSx := hSw; (try dsimp only at hSw); go_simp; try rfl
      case' re17 => try simp only [List.getElem_toArray, List.getElem_cons_succ, List.getElem_cons_zero, Act.put, List.setIfInBounds_toArray, List.set_cons_zero, List.set_cons_succ]
      refine walk_step 18 rfl (by kernel_rfl) (by kernel_rfl) (fun K hK => ?cs)
      case cs =>
        go_simp
        refine (CS.out v6 A6 A4 B6 B4 c6 c4 d6 d4 (I6.rd.below hX6) (J6.rd.below hX6) (I4.rd.below hX6) (J4.rd.below hX6)).mono ?_
        rintro e v7 ⟨rfl, hb⟩
        have hX7 := hX6.trans (hb.mono hX6.size)
        refine hK _ _ hX7 ?_
        clear hK K hb
        try simp only [List.getElem_toArray, List.getElem_cons_succ, List.getElem_cons_zero, Act.put, List.setIfInBounds_toArray, List.set_cons_zero, List.set_cons_succ]
        refine walk_take 19 (v := ?vf19) rfl (by kernel_rfl) (by kernel_rfl) (by kernel_rfl) (fun _ _ _ h => h) (hX7) (Or.inl ⟨by rfl, ?yf19⟩) ?rf19
        case yf19 => intro w hSw; (try dsimp only at hSw); go_simp; try rfl
        case' rf19 => try simp only [List.getElem_toArray, List.getElem_cons_succ, List.getElem_cons_zero, Act.put, List.setIfInBounds_toArray, List.set_cons_zero, List.set_cons_succ]
        refine walk_take 20 (v := ?vf20) rfl (by kernel_rfl) (by kernel_rfl) (by kernel_rfl) (fun _ _ _ h => h) (hX7) (Or.inl ⟨by rfl, ?yf20⟩) ?rf20
        case yf20 => intro w hSw; (try dsimp only at hSw); go_simp; try rfl
        case' rf20 => try simp only [List.getElem_toArray, List.getElem_cons_succ, List.getElem_cons_zero, Act.put, List.setIfInBounds_toArray, List.set_cons_zero, List.set_cons_succ]
        refine walk_take 21 (v := ?vf21) rfl (by kernel_rfl) (by kernel_rfl) (by kernel_rfl) (fun _ _ _ h => h) (hX7) (Or.inl ⟨by rfl, ?yf21⟩) ?rf21
        case yf21 => intro w hSw; (try dsimp only at hSw); go_simp; try rfl
        case' rf21 => try simp only [List.getElem_toArray, List.getElem_cons_succ, List.getElem_cons_zero, Act.put, List.setIfInBounds_toArray, List.set_cons_zero, List.set_cons_succ]
        refine walk_take 22 (v := ?vg22) rfl (by kernel_rfl) (by kernel_rfl) (by kernel_rfl) (fun _ _ _ h => h) (hX7) (Or.inl ⟨by rfl, ?yg22⟩) ?rg22
        case yg22 => intro w hSw; obtain hwZ := id hSw; have e0 := (b3.step hwZ).cell' (i := 0) rfl; have e1 := (b3.step hwZ).cell' (i := 1) rfl; have e2 := (b3.step hwZ).cell' (i := 2) rfl; have e3 := (b3.step hwZ).cell' (i := 3) rfl; have e4 := (b3.step hwZ).cell' (i := 4) rfl; have hSx := hSw; (try dsimp only at hSw); go_simp; try rfl
        case' rg22 => try simp only [List.getElem_toArray, List.getElem_cons_succ, List.getElem_cons_zero, Act.put, List.setIfInBounds_toArray, List.set_cons_zero, List.set_cons_succ]
        refine walk_take 23 (v := ?vh23) rfl (by kernel_rfl) (by kernel_rfl) (by kernel_rfl) (fun _ _ _ h => h) (hX7) (Or.inl ⟨by rfl, ?yh23⟩) ?rh23
        case yh23 => intro w hSw; obtain hwZ := id hSw; have e0 := (b1.step hwZ).cell' (i := 0) rfl; have e1 := (b1.step hwZ).cell' (i := 1) rfl; have e2 := (b1.step hwZ).cell' (i := 2) rfl; have e3 := (b1.step hwZ).cell' (i := 3) rfl; have e4 := (b1.step hwZ).cell' (i := 4) rfl; have hSx := hSw; (try dsimp only at hSw); go_simp; try rfl
        case' rh23 => try simp only [List.getElem_toArray, List.getElem_cons_succ, List.getElem_cons_zero, Act.put, List.setIfInBounds_toArray, List.set_cons_zero, List.set_cons_succ]
        refine walk_step 24 rfl (by kernel_rfl) (by kernel_rfl) (fun K hK => ?cg)
        case cg =>
          go_simp
          refine (CG.out v7 Ao A co c (OG.rd.below hX7) ((HR.out.below hB).below hX7)).mono ?_
          rintro e v8 ⟨rfl, hb⟩
          have hX8 := hX7.trans (hb.mono hX7.size)
          refine hK _ _ hX8 ?_
          clear hK K hb CG
          try simp only [List.getElem_toArray, List.getElem_cons_succ, List.getElem_cons_zero, Act.put, List.setIfInBounds_toArray, List.set_cons_zero, List.set_cons_succ]
          refine walk_take 25 (v := ?vi25) rfl (by kernel_rfl) (by kernel_rfl) (by kernel_rfl) (fun _ _ _ h => h) (hX8) (Or.inl ⟨by rfl, ?yi25⟩) ?ri25
          case yi25 => intro w hSw; (try dsimp only at hSw); go_simp; try rfl
          case' ri25 => try simp only [List.getElem_toArray, List.getElem_cons_succ, List.getElem_cons_zero, Act.put, List.setIfInBounds_toArray, List.set_cons_zero, List.set_cons_succ]
          refine walk_tail (by kernel_rfl) ?_
          simp only [List.drop_succ_cons, List.drop_zero]
          clear hX0 hSS hX5 hX6 hX7 b1 b3
          replace b4 := b4.step hX8
          replace b6 := b6.step hX8
          replace b8 := b8.step hX8
          replace I4 := I4.below hX8
          replace J4 := J4.below hX8
          replace I6 := I6.below hX8
          replace J6 := J6.below hX8
          replace I8 := I8.below hX8
          replace J8 := J8.below hX8
          have hs8 := hX8.size
          have hB8 := hB.trans (hX8.mono hB.size)
          clear OG hB hX8
          have z8 := hB8.size
          have x0 := b6.cell' (i := 0) rfl
          have x1 := b6.cell' (i := 1) rfl
          have x2 := b6.cell' (i := 2) rfl
          have x3 := b6.cell' (i := 3) rfl
          have x4 := b6.cell' (i := 4) rfl
          have x5 := b6.cell' (i := 5) rfl
          go_wp2_with fail
          have hbase6 : V2.heap.size ≤ v8.heap.size := by omega
          refine (overVigil_any why A6 c6 B6 d6 k V2.heap.size _ _ v8 I6 J6 (by omega) hbase6).mono ?_
          rintro e v9 ⟨rfl, T⟩
          have b4' := b4.turned T (fun h => h.elim (I6.notBlk b4 (by decide)) (J6.notBlk b4 (by decide)))
          have b8' := b8.turned T (fun h => h.elim (I6.notBlk b8 (by decide)) (J6.notBlk b8 (by decide)))
          have I4' := I4.turned T (fun q h h2 => by
            have h1 := l4 q h
            rcases h2 with h2 | h2
            · have := (I6.lt q h2).1; omega
            · have := (J6.lt q h2).1; omega)
          have J4' := J4.turned T (fun q h h2 => by
            have h1 := m4 q h
            rcases h2 with h2 | h2
            · have := (I6.lt q h2).1; omega
            · have := (J6.lt q h2).1; omega)
          have I8' := I8.turned T (fun q h h2 => by
            have h1 := (I8.lt q h).1
            rcases h2 with h2 | h2
            · have := l6 q h2; omega
            · have := m6 q h2; omega)
          have J8' := J8.turned T (fun q h h2 => by
            have h1 := (J8.lt q h).1
            rcases h2 with h2 | h2
            · have := l6 q h2; omega
            · have := m6 q h2; omega)
          have hB9 := hB8.trans (T.below (N := w.heap.size) (fun q h => by
            rcases h with h | h
            · have := (I6.lt q h).1; omega
            · have := (J6.lt q h).1; omega) z8)
          clear b4 b8 b6 I4 J4 I6 J6 I8 J8 T hB8 x0 x1 x2 x3 x4 x5
          have x0 := b8'.cell' (i := 0) rfl
          have x1 := b8'.cell' (i := 1) rfl
          have x2 := b8'.cell' (i := 2) rfl
          have x3 := b8'.cell' (i := 3) rfl
          have x4 := b8'.cell' (i := 4) rfl
          have x5 := b8'.cell' (i := 5) rfl
          have y0 := b4'.cell' (i := 0) rfl
          have y1 := b4'.cell' (i := 1) rfl
          have y2 := b4'.cell' (i := 2) rfl
          have y3 := b4'.cell' (i := 3) rfl
          have y4 := b4'.cell' (i := 4) rfl
          have y5 := b4'.cell' (i := 5) rfl
          go_wp2_with fail
          refine (CS.out v9 A8 A4 B8 B4 c8 c4 d8 d4 I8'.rd J8'.rd I4'.rd J4'.rd).mono ?_
          rintro e v10 ⟨rfl, hb⟩
          go_wp2_with fail
          go_ret
          exact ⟨rfl, hB9.trans (hb.mono hB9.size)⟩
end Go.Proofs.Ytaifogddoonabaa
