/-
  Is there a gap that may not be (slices.ContainsFunc over may$1). deliver.may, kind by kind.
-/
import Derived.Test.YtianombjgdmbeaaMDeliverTakes20
import Derived.Test.YtianombjgdmbeaaMDeliverTakes19
import Derived.Test.YtianombjgdmbeaaMDeliverTakes12
namespace Go.Proofs.Ytianombjgdmbeaa
set_option linter.unusedSimpArgs false
set_option linter.unusedVariables false
open Go.RowKit

set_option maxHeartbeats 3200000 in
set_option maxRecDepth 100000 in
theorem indexG_any (l : List (Int × Int)) (B : Option Addr) (n d : Nat) (w : World) (hn : l.length = n) (h : Rd w B (gps l)) (hnn : n ≤ 20) :
    Calls Try.prog 107 #[.slice B n d, .func (.func 84) #[] #[]] w fun e w' => ∃ k : Int, e = .returned (.int .i64 k) ∧ decide (0 ≤ k) = !(l.all gapOk) ∧ Below w.heap.size w w' := by
  have HN := Lib.hid hn
  have HRd := Lib.hid h
  clear hn h
  go_enter Try.func107, Try.ntmps107
  go_wp2_with fail
  go_loopw [8] (fun iv wr => ∃ i : Nat, i ≤ n ∧ iv = .int .i64 (i : Int) ∧ Below w.heap.size w wr ∧ Hid (∀ (a : Nat) (y : Int × Int), a < i → l[a]? = some y → gapOk y = true)) (fun iv _ => n - (intOf iv).toNat)
  case atStart => exact ⟨0, Nat.zero_le _, rfl, Below.refl _ _, Lib.hid (fun a y h => by omega)⟩
  case round =>
    obtain ⟨i, hi, rfl, hB, HF⟩ := hrel
    by_cases h5 : i < n
    · have h5i : (i : Int) < (n : Int) := by omega
      have hip : (0 : Int) ≤ (i : Int) := by omega
      have hiL : i < l.length := by rw [HN.out]; exact h5
      have hx := List.getElem?_eq_getElem hiL
      obtain ⟨x, hxx⟩ : ∃ x, l[i] = x := ⟨_, rfl⟩
      rw [hxx] at hx
      clear hxx hiL
      obtain ⟨g, o, rfl, y0, y1⟩ := rdgap_cells (HRd.out.below hB) hx
      have HX := Lib.hid hx
      clear hx
      obtain ⟨ga, gb⟩ := x
      dsimp only at y0 y1
      have CF := Lib.hid (fun V => odd_any ga gb V)
      cases hk : gapOk (ga, gb)
      · have hall : l.all gapOk = false := by
          rw [List.all_eq_false]
          exact ⟨(ga, gb), List.mem_of_getElem? HX.out, by rw [hk]; simp⟩
        have HA := Lib.hid hall
        simp only [hk, Bool.not_false] at CF
        clear hk hall HF
        go_wp2_with (go_at_call 84; refine (CF.out _).mono ?_; rintro e w1 ⟨rfl, hb1⟩)
        go_ret
        exact ⟨(i : Int), rfl, by rw [HA.out, decide_eq_true hip]; rfl, hB.trans (hb1.mono hB.size)⟩
      · have HF2 : Hid (∀ (a : Nat) (y : Int × Int), a < i + 1 → l[a]? = some y → gapOk y = true) := Lib.hid (fun a y ha hay => by
          rcases Nat.lt_or_ge a i with h | h
          · exact HF.out a y h hay
          · obtain rfl : a = i := by omega
            rw [HX.out] at hay
            injection hay with hay
            rw [← hay]
            exact hk)
        simp only [hk, Bool.not_true] at CF
        clear hk HF
        go_wp2_with (go_at_call 84; refine (CF.out _).mono ?_; rintro e w1 ⟨rfl, hb1⟩)
        go_roundw
        case rel => exact ⟨i + 1, by omega, by go_num, hB.trans (hb1.mono hB.size), HF2⟩
        case measure => simp [intOf]; omega
    · obtain rfl : i = n := by omega
      have h5i : ¬ (i : Int) < (i : Int) := by omega
      have hall : l.all gapOk = true := by
        rw [List.all_eq_true]
        intro y hy
        obtain ⟨j, hj, rfl⟩ := List.getElem_of_mem hy
        exact HF.out j _ (by rw [← HN.out]; exact hj) (List.getElem?_eq_getElem hj)
      have HA := Lib.hid hall
      clear hall HF
      go_wp2_with fail
      go_ret
      exact ⟨-1, rfl, by rw [HA.out]; rfl, hB⟩
theorem containsG_any (l : List (Int × Int)) (B : Option Addr) (n d : Nat) (w : World) (hn : l.length = n) (h : Rd w B (gps l)) (hnn : n ≤ 20) :
    Calls Try.prog 86 #[.slice B n d, .func (.func 84) #[] #[]] w fun e w' => e = .returned (.bool (!(l.all gapOk))) ∧ Below w.heap.size w w' := by
  have CI := Lib.hid (indexG_any l B n d w hn h hnn)
  go_enter Try.func86, Try.ntmps86
  go_wp2_with fail
  refine CI.out.mono ?_
  rintro e w1 ⟨k, rfl, hk, hb⟩
  have HK := Lib.hid hk
  clear hk
  by_cases h0 : 0 ≤ k
  · go_wp2_with fail
    go_ret
    exact ⟨by rw [← HK.out]; first | rfl | (rw [decide_eq_true h0]; rfl), hb⟩
  · go_wp2_with fail
    go_ret
    exact ⟨by rw [← HK.out]; first | rfl | exact ret_bool (by simp; omega), hb⟩
end Go.Proofs.Ytianombjgdmbeaa
namespace Go.Proofs.Ytianombjgdmbeaa
set_option linter.unusedSimpArgs false
set_option linter.unusedVariables false
open Go.RowKit

set_option maxHeartbeats 6400000 in
set_option maxRecDepth 100000 in
theorem may_4 (id : Int) (name : ByteArray) (size sum at_ : Int) (data : List UInt8) (gaps : List (Int × Int)) (of_ code : Int) (D : Option Addr) (dn dc : Nat) (G : Option Addr) (gn gc : Nat) (w : World) (hid : rngOk id 0 65535 = true) (hd : data.length = dn) (hg : gaps.length = gn) (hG : Rd w G (gps gaps)) :
    Calls Try.prog 40 #[ntv (⟨4, id, name, size, sum, at_, data, gaps, of_, code⟩ : Nt) D dn dc G gn gc] w fun e w' => e = .returned (.bool (noteOk (⟨4, id, name, size, sum, at_, data, gaps, of_, code⟩ : Nt))) ∧ Below w.heap.size w w' := by
  unfold ntv
  dsimp only
  have H0 := Lib.hid hid
  have HK : Hid (rngOk 4 1 6 = true) := Lib.hid rfl
  obtain ⟨r, hr⟩ : ∃ r, bareOk (⟨4, id, name, size, sum, at_, data, gaps, of_, code⟩ : Nt) = r := ⟨_, rfl⟩
  have CB := Lib.hid (fun V => bare_4 id name size sum at_ of_ code D dn dc G gn gc V)
  have CA := Lib.hid (fun V => alike_4 id name size sum at_ data gaps of_ code D dn dc G gn gc V hd hg)
  simp only [hr] at CA
  have HR := Lib.hid hr
  have HG := Lib.hid hG
  clear hG
  have HD := Lib.hid hd
  have HGN := Lib.hid hg
  clear hr hd hg hid
  obtain ⟨ln, hln⟩ : ∃ ln : Int, (name.size : Int) = ln := ⟨_, rfl⟩
  have HLN := Lib.hid hln
  have b1 := Blk.new w 27 #[.int .i64 4, .int .i64 id, .string name, .int .i64 size, .int .i64 sum, .int .i64 at_, .slice D dn dc, .slice G gn gc, .int .i64 of_, .int .i64 code]
  have hB : Below w.heap.size w (w.alloc (.cells #[.int .i64 4, .int .i64 id, .string name, .int .i64 size, .int .i64 sum, .int .i64 at_, .slice D dn dc, .slice G gn gc, .int .i64 of_, .int .i64 code] 27)) := (Below.refl _ _).alloc (Nat.le_refl _) _
  go_enter Try.func40, Try.ntmps40
  go_upto_region 1 with fail
  generalize w.alloc (.cells #[.int .i64 4, .int .i64 id, .string name, .int .i64 size, .int .i64 sum, .int .i64 at_, .slice D dn dc, .slice G gn gc, .int .i64 of_, .int .i64 code] 27) = W at *
  have hX0 : Below W.heap.size W W.drew := (Below.refl _ _).drew
  refine heldRegion (fun v => Below W.heap.size W v) 16 (by kernel_rfl) (by kernel_rfl) hX0 (fun hSS => ?_)
  generalize W.drew = V at *
  refine walk_take 0 (v := ?va0) rfl (by kernel_rfl) (by kernel_rfl) (by kernel_rfl) (fun _ _ _ h => h) (hSS) (Or.inl ⟨by rfl, ?ya0⟩) ?ra0
  case ya0 => intro w hSw; obtain hwZ := _root_.id hSw; have e0 := (b1.step hwZ).cell' (i := 0) rfl; have e1 := (b1.step hwZ).cell' (i := 1) rfl; have hSx := hSw; (try dsimp only at hSw); go_simp; try rfl
  case' ra0 => try simp only [List.getElem_toArray, List.getElem_cons_succ, List.getElem_cons_zero, Act.put, List.setIfInBounds_toArray, List.set_cons_zero, List.set_cons_succ]
  refine walk_take 1 (v := ?va1) rfl (by kernel_rfl) (by kernel_rfl) (by kernel_rfl) (fun _ _ _ h => h) (hSS) (Or.inl ⟨by rfl, ?ya1⟩) ?ra1
  case ya1 => intro w hSw; obtain hwZ := _root_.id hSw; have e0 := (b1.step hwZ).cell' (i := 0) rfl; have e1 := (b1.step hwZ).cell' (i := 1) rfl; have hSx := hSw; (try dsimp only at hSw); go_simp; try rfl
  case' ra1 => try simp only [List.getElem_toArray, List.getElem_cons_succ, List.getElem_cons_zero, Act.put, List.setIfInBounds_toArray, List.set_cons_zero, List.set_cons_succ]
  refine walk_step 2 rfl (by kernel_rfl) (by kernel_rfl) (fun K hK => ?c1)
  case c1 =>
    go_simp
    refine (din_is _ _ _ _ _ HK).mono ?_
    rintro e _ ⟨rfl, rfl⟩
    refine hK _ _ hSS ?_
    clear hK K
    try simp only [List.getElem_toArray, List.getElem_cons_succ, List.getElem_cons_zero, Act.put, List.setIfInBounds_toArray, List.set_cons_zero, List.set_cons_succ]
    refine walk_take 3 (v := ?vb3) rfl (by kernel_rfl) (by kernel_rfl) (by kernel_rfl) (fun _ _ _ h => h) (hSS) (Or.inl ⟨by rfl, ?yb3⟩) ?rb3
    case yb3 => intro w hSw; obtain hwZ := _root_.id hSw; have e0 := (b1.step hwZ).cell' (i := 0) rfl; have e1 := (b1.step hwZ).cell' (i := 1) rfl; have hSx := hSw; (try dsimp only at hSw); go_simp; try rfl
    case' rb3 => try simp only [List.getElem_toArray, List.getElem_cons_succ, List.getElem_cons_zero, Act.put, List.setIfInBounds_toArray, List.set_cons_zero, List.set_cons_succ]
    refine walk_take 4 (v := ?vb4) rfl (by kernel_rfl) (by kernel_rfl) (by kernel_rfl) (fun _ _ _ h => h) (hSS) (Or.inl ⟨by rfl, ?yb4⟩) ?rb4
    case yb4 => intro w hSw; obtain hwZ := _root_.id hSw; have e0 := (b1.step hwZ).cell' (i := 0) rfl; have e1 := (b1.step hwZ).cell' (i := 1) rfl; have hSx := hSw; (try dsimp only at hSw); go_simp; try rfl
    case' rb4 => try simp only [List.getElem_toArray, List.getElem_cons_succ, List.getElem_cons_zero, Act.put, List.setIfInBounds_toArray, List.set_cons_zero, List.set_cons_succ]
    refine walk_take 5 (v := ?vb5) rfl (by kernel_rfl) (by kernel_rfl) (by kernel_rfl) (fun _ _ _ h => h) (hSS) (Or.inl ⟨by rfl, ?yb5⟩) ?rb5
    case yb5 => intro w hSw; obtain hwZ := _root_.id hSw; have e0 := (b1.step hwZ).cell' (i := 0) rfl; have e1 := (b1.step hwZ).cell' (i := 1) rfl; have hSx := hSw; (try dsimp only at hSw); go_simp; try rfl
    case' rb5 => try simp only [List.getElem_toArray, List.getElem_cons_succ, List.getElem_cons_zero, Act.put, List.setIfInBounds_toArray, List.set_cons_zero, List.set_cons_succ]
    refine walk_take 6 (v := ?vb6) rfl (by kernel_rfl) (by kernel_rfl) (by kernel_rfl) (fun _ _ _ h => h) (hSS) (Or.inl ⟨by rfl, ?yb6⟩) ?rb6
    case yb6 => intro w hSw; obtain hwZ := _root_.id hSw; have e0 := (b1.step hwZ).cell' (i := 0) rfl; have e1 := (b1.step hwZ).cell' (i := 1) rfl; have hSx := hSw; (try dsimp only at hSw); go_simp; try rfl
    case' rb6 => try simp only [List.getElem_toArray, List.getElem_cons_succ, List.getElem_cons_zero, Act.put, List.setIfInBounds_toArray, List.set_cons_zero, List.set_cons_succ]
    refine walk_step 7 rfl (by kernel_rfl) (by kernel_rfl) (fun K hK => ?c2)
    case c2 =>
      go_simp
      refine (din_is _ _ _ _ _ H0).mono ?_
      rintro e _ ⟨rfl, rfl⟩
      refine hK _ _ hSS ?_
      clear hK K
      try simp only [List.getElem_toArray, List.getElem_cons_succ, List.getElem_cons_zero, Act.put, List.setIfInBounds_toArray, List.set_cons_zero, List.set_cons_succ]
      refine walk_take 8 (v := ?vc8) rfl (by kernel_rfl) (by kernel_rfl) (by kernel_rfl) (fun _ _ _ h => h) (hSS) (Or.inl ⟨by rfl, ?yc8⟩) ?rc8
      case yc8 => intro w hSw; obtain hwZ := _root_.id hSw; have e0 := (b1.step hwZ).cell' (i := 0) rfl; have e1 := (b1.step hwZ).cell' (i := 1) rfl; have e2 := (b1.step hwZ).cell' (i := 2) rfl; have e3 := (b1.step hwZ).cell' (i := 3) rfl; have e4 := (b1.step hwZ).cell' (i := 4) rfl; have e5 := (b1.step hwZ).cell' (i := 5) rfl; have e6 := (b1.step hwZ).cell' (i := 6) rfl; have e7 := (b1.step hwZ).cell' (i := 7) rfl; have e8 := (b1.step hwZ).cell' (i := 8) rfl; have e9 := (b1.step hwZ).cell' (i := 9) rfl; have hSx := hSw; (try dsimp only at hSw); go_simp; try rfl
      case' rc8 => try simp only [List.getElem_toArray, List.getElem_cons_succ, List.getElem_cons_zero, Act.put, List.setIfInBounds_toArray, List.set_cons_zero, List.set_cons_succ]
      refine walk_take 9 (v := ?vc9) rfl (by kernel_rfl) (by kernel_rfl) (by kernel_rfl) (fun _ _ _ h => h) (hSS) (Or.inl ⟨by rfl, ?yc9⟩) ?rc9
      case yc9 => intro w hSw; obtain hwZ := _root_.id hSw; have e0 := (b1.step hwZ).cell' (i := 0) rfl; have e1 := (b1.step hwZ).cell' (i := 1) rfl; have e2 := (b1.step hwZ).cell' (i := 2) rfl; have e3 := (b1.step hwZ).cell' (i := 3) rfl; have e4 := (b1.step hwZ).cell' (i := 4) rfl; have e5 := (b1.step hwZ).cell' (i := 5) rfl; have e6 := (b1.step hwZ).cell' (i := 6) rfl; have e7 := (b1.step hwZ).cell' (i := 7) rfl; have e8 := (b1.step hwZ).cell' (i := 8) rfl; have e9 := (b1.step hwZ).cell' (i := 9) rfl; have hSx := hSw; (try dsimp only at hSw); go_simp; try rfl
      case' rc9 => try simp only [List.getElem_toArray, List.getElem_cons_succ, List.getElem_cons_zero, Act.put, List.setIfInBounds_toArray, List.set_cons_zero, List.set_cons_succ]
      refine walk_take 10 (v := ?vc10) rfl (by kernel_rfl) (by kernel_rfl) (by kernel_rfl) (fun _ _ _ h => h) (hSS) (Or.inl ⟨by rfl, ?yc10⟩) ?rc10
      case yc10 => intro w hSw; obtain hwZ := _root_.id hSw; have e0 := (b1.step hwZ).cell' (i := 0) rfl; have e1 := (b1.step hwZ).cell' (i := 1) rfl; have e2 := (b1.step hwZ).cell' (i := 2) rfl; have e3 := (b1.step hwZ).cell' (i := 3) rfl; have e4 := (b1.step hwZ).cell' (i := 4) rfl; have e5 := (b1.step hwZ).cell' (i := 5) rfl; have e6 := (b1.step hwZ).cell' (i := 6) rfl; have e7 := (b1.step hwZ).cell' (i := 7) rfl; have e8 := (b1.step hwZ).cell' (i := 8) rfl; have e9 := (b1.step hwZ).cell' (i := 9) rfl; have hSx := hSw; (try dsimp only at hSw); go_simp; try rfl
      case' rc10 => try simp only [List.getElem_toArray, List.getElem_cons_succ, List.getElem_cons_zero, Act.put, List.setIfInBounds_toArray, List.set_cons_zero, List.set_cons_succ]
      refine walk_take 11 (v := ?vc11) rfl (by kernel_rfl) (by kernel_rfl) (by kernel_rfl) (fun _ _ _ h => h) (hSS) (Or.inl ⟨by rfl, ?yc11⟩) ?rc11
      case yc11 => intro w hSw; obtain hwZ := _root_.id hSw; have e0 := (b1.step hwZ).cell' (i := 0) rfl; have e1 := (b1.step hwZ).cell' (i := 1) rfl; have e2 := (b1.step hwZ).cell' (i := 2) rfl; have e3 := (b1.step hwZ).cell' (i := 3) rfl; have e4 := (b1.step hwZ).cell' (i := 4) rfl; have e5 := (b1.step hwZ).cell' (i := 5) rfl; have e6 := (b1.step hwZ).cell' (i := 6) rfl; have e7 := (b1.step hwZ).cell' (i := 7) rfl; have e8 := (b1.step hwZ).cell' (i := 8) rfl; have e9 := (b1.step hwZ).cell' (i := 9) rfl; have hSx := hSw; (try dsimp only at hSw); go_simp; try rfl
      case' rc11 => try simp only [List.getElem_toArray, List.getElem_cons_succ, List.getElem_cons_zero, Act.put, List.setIfInBounds_toArray, List.set_cons_zero, List.set_cons_succ]
      refine walk_take 12 (v := ?vc12) rfl (by kernel_rfl) (by kernel_rfl) (by kernel_rfl) (fun _ _ _ h => h) (hSS) (Or.inl ⟨by rfl, ?yc12⟩) ?rc12
      case yc12 => intro w hSw; obtain hwZ := _root_.id hSw; have e0 := (b1.step hwZ).cell' (i := 0) rfl; have e1 := (b1.step hwZ).cell' (i := 1) rfl; have e2 := (b1.step hwZ).cell' (i := 2) rfl; have e3 := (b1.step hwZ).cell' (i := 3) rfl; have e4 := (b1.step hwZ).cell' (i := 4) rfl; have e5 := (b1.step hwZ).cell' (i := 5) rfl; have e6 := (b1.step hwZ).cell' (i := 6) rfl; have e7 := (b1.step hwZ).cell' (i := 7) rfl; have e8 := (b1.step hwZ).cell' (i := 8) rfl; have e9 := (b1.step hwZ).cell' (i := 9) rfl; have hSx := hSw; (try dsimp only at hSw); go_simp; try rfl
      case' rc12 => try simp only [List.getElem_toArray, List.getElem_cons_succ, List.getElem_cons_zero, Act.put, List.setIfInBounds_toArray, List.set_cons_zero, List.set_cons_succ]
      refine walk_step 13 rfl (by kernel_rfl) (by kernel_rfl) (fun K hK => ?c3)
      case c3 =>
        go_simp
        refine (CB.out _).mono ?_
        rintro e v1 ⟨rfl, hb⟩
        have hX1 := hSS.trans (hb.mono hSS.size)
        refine hK _ _ hX1 ?_
        clear hK K hb CB
        try simp only [List.getElem_toArray, List.getElem_cons_succ, List.getElem_cons_zero, Act.put, List.setIfInBounds_toArray, List.set_cons_zero, List.set_cons_succ]
        refine walk_step 14 rfl (by kernel_rfl) (by kernel_rfl) (fun K hK => ?c4)
        case c4 =>
          go_simp
          refine (CA.out _).mono ?_
          rintro e v2 ⟨rfl, hb⟩
          have hX2 := hX1.trans (hb.mono hX1.size)
          refine hK _ _ hX2 ?_
          clear hK K hb CA
          try simp only [List.getElem_toArray, List.getElem_cons_succ, List.getElem_cons_zero, Act.put, List.setIfInBounds_toArray, List.set_cons_zero, List.set_cons_succ]
          refine walk_take 15 (v := ?vd15) rfl (by kernel_rfl) (by kernel_rfl) (by kernel_rfl) (fun _ _ _ h => h) (hX2) (Or.inl ⟨by rfl, ?yd15⟩) ?rd15
          case yd15 => intro w hSw; (try dsimp only at hSw); go_simp; try rfl
          case' rd15 => try simp only [List.getElem_toArray, List.getElem_cons_succ, List.getElem_cons_zero, Act.put, List.setIfInBounds_toArray, List.set_cons_zero, List.set_cons_succ]
          refine walk_tail (by kernel_rfl) ?_
          simp only [List.drop_succ_cons, List.drop_zero]
          replace b1 := b1.step hX2
          have hB2 := hB.trans (hX2.mono hB.size)
          clear hX0 hSS hX1 hX2 hB
          cases r
          · have hno : noteOk (⟨4, id, name, size, sum, at_, data, gaps, of_, code⟩ : Nt) = false := note_bare HR.out
            have HNO := Lib.hid hno
            clear hno
            go_wp2_with fail
            go_ret
            exact ⟨by rw [HNO.out]; rfl, hB2⟩
          have x0 := b1.cell' (i := 0) rfl
          have x7 := b1.cell' (i := 7) rfl
          cases h1 : rngOk (gn : Int) 1 20
          · have hno : noteOk (⟨4, id, name, size, sum, at_, data, gaps, of_, code⟩ : Nt) = false := note_kind (by have e : ¬ (1 ≤ gaps.length ∧ gaps.length ≤ 20) := (by have := HGN.out; unfold rngOk at h1; rw [decide_eq_false_iff_not] at h1; omega); simp [kindOk, e])
            have H1 := Lib.hid h1
            clear h1
            have HNO := Lib.hid hno
            clear hno
            go_wp2_with (first
            | (go_at_call 81; refine Calls.mono (by first | exact din_is _ _ _ _ _ H1) ?_; rintro e w1 ⟨rfl, rfl⟩))
            go_ret
            exact ⟨by rw [HNO.out]; rfl, hB2⟩
          have E1 : Hid (gn ≤ 20) := Lib.hid (by unfold rngOk at h1; rw [decide_eq_true_iff] at h1; omega)
          have E2 : Hid (1 ≤ gaps.length ∧ gaps.length ≤ 20) := Lib.hid (by have := HGN.out; unfold rngOk at h1; rw [decide_eq_true_iff] at h1; omega)
          have H1 := Lib.hid h1
          clear h1
          have hno : noteOk (⟨4, id, name, size, sum, at_, data, gaps, of_, code⟩ : Nt) = gaps.all gapOk := by
            unfold noteOk
            rw [show rngOk (4 : Int) 1 6 = true from rfl, show rngOk id 0 65535 = true from H0.out, HR.out]
            simp [kindOk, E2.out]
          have HNO := Lib.hid hno
          clear hno
          go_wp2_with (first
            | (go_at_call 81; refine Calls.mono (by first | exact din_is _ _ _ _ _ H1) ?_; rintro e w1 ⟨rfl, rfl⟩)
            | (go_at_call 86; refine (containsG_any gaps G gn gc _ HGN.out (HG.out.below hB2) E1.out).mono ?_; rintro e w1 ⟨rfl, hb⟩))
          go_ret
          exact ⟨by rw [HNO.out]; simp, hB2.trans (hb.mono hB2.size)⟩
end Go.Proofs.Ytianombjgdmbeaa
