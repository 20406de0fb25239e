/-
  deliver.may, kind by kind. A span may be, by the program.
-/
import Derived.Test.YtianombjgdmbeaaMDeliverTakes19
import Derived.Test.YtianombjgdmbeaaMDeliverTakes12
import Derived.Test.YtianombjgdmbeaaMDeliverTakes13
import Derived.Test.YtianombjgdmbeaaMDeliverTakes14
namespace Go.Proofs.Ytianombjgdmbeaa
set_option linter.unusedSimpArgs false
set_option linter.unusedVariables false
open Go.RowKit

set_option maxHeartbeats 6400000 in
set_option maxRecDepth 100000 in
theorem may_1 (id : Int) (name : ByteArray) (size sum at_ : Int) (data : List UInt8) (gaps : List (Int × Int)) (of_ code : Int) (D : Option Addr) (dn dc : Nat) (G : Option Addr) (gn gc : Nat) (w : World) (hid : rngOk id 0 65535 = true) (hd : data.length = dn) (hg : gaps.length = gn) :
    Calls Try.prog 40 #[ntv (⟨1, id, name, size, sum, at_, data, gaps, of_, code⟩ : Nt) D dn dc G gn gc] w fun e w' => e = .returned (.bool (noteOk (⟨1, id, name, size, sum, at_, data, gaps, of_, code⟩ : Nt))) ∧ Below w.heap.size w w' := by
  unfold ntv
  dsimp only
  have H0 := Lib.hid hid
  have HK : Hid (rngOk 1 1 6 = true) := Lib.hid rfl
  obtain ⟨r, hr⟩ : ∃ r, bareOk (⟨1, id, name, size, sum, at_, data, gaps, of_, code⟩ : Nt) = r := ⟨_, rfl⟩
  have CB := Lib.hid (fun V => bare_1 id name size sum at_ of_ code D dn dc G gn gc V)
  have CA := Lib.hid (fun V => alike_1 id name size sum at_ data gaps of_ code D dn dc G gn gc V hd hg)
  simp only [hr] at CA
  have HR := Lib.hid hr
  have HD := Lib.hid hd
  have HGN := Lib.hid hg
  clear hr hd hg hid
  obtain ⟨ln, hln⟩ : ∃ ln : Int, (name.size : Int) = ln := ⟨_, rfl⟩
  have HLN := Lib.hid hln
  have b1 := Blk.new w 27 #[.int .i64 1, .int .i64 id, .string name, .int .i64 size, .int .i64 sum, .int .i64 at_, .slice D dn dc, .slice G gn gc, .int .i64 of_, .int .i64 code]
  have hB : Below w.heap.size w (w.alloc (.cells #[.int .i64 1, .int .i64 id, .string name, .int .i64 size, .int .i64 sum, .int .i64 at_, .slice D dn dc, .slice G gn gc, .int .i64 of_, .int .i64 code] 27)) := (Below.refl _ _).alloc (Nat.le_refl _) _
  go_enter Try.func40, Try.ntmps40
  go_upto_region 1 with fail
  generalize w.alloc (.cells #[.int .i64 1, .int .i64 id, .string name, .int .i64 size, .int .i64 sum, .int .i64 at_, .slice D dn dc, .slice G gn gc, .int .i64 of_, .int .i64 code] 27) = W at *
  have hX0 : Below W.heap.size W W.drew := (Below.refl _ _).drew
  refine heldRegion (fun v => Below W.heap.size W v) 16 (by kernel_rfl) (by kernel_rfl) hX0 (fun hSS => ?_)
  generalize W.drew = V at *
  refine walk_take 0 (v := ?va0) rfl (by kernel_rfl) (by kernel_rfl) (by kernel_rfl) (fun _ _ _ h => h) (hSS) (Or.inl ⟨by rfl, ?ya0⟩) ?ra0
  case ya0 => intro w hSw; obtain hwZ := _root_.id hSw; have e0 := (b1.step hwZ).cell' (i := 0) rfl; have e1 := (b1.step hwZ).cell' (i := 1) rfl; have hSx := hSw; (try dsimp only at hSw); go_simp; try rfl
  case' ra0 => try simp only [List.getElem_toArray, List.getElem_cons_succ, List.getElem_cons_zero, Act.put, List.setIfInBounds_toArray, List.set_cons_zero, List.set_cons_succ]
  refine walk_take 1 (v := ?va1) rfl (by kernel_rfl) (by kernel_rfl) (by kernel_rfl) (fun _ _ _ h => h) (hSS) (Or.inl ⟨by rfl, ?ya1⟩) ?ra1
  case ya1 => intro w hSw; obtain hwZ := _root_.id hSw; have e0 := (b1.step hwZ).cell' (i := 0) rfl; have e1 := (b1.step hwZ).cell' (i := 1) rfl; have hSx := hSw; (try dsimp only at hSw); go_simp; try rfl
  case' ra1 => try simp only [List.getElem_toArray, List.getElem_cons_succ, List.getElem_cons_zero, Act.put, List.setIfInBounds_toArray, List.set_cons_zero, List.set_cons_succ]
  refine walk_step 2 rfl (by kernel_rfl) (by kernel_rfl) (fun K hK => ?c1)
  case c1 =>
    go_simp
    refine (din_is _ _ _ _ _ HK).mono ?_
    rintro e _ ⟨rfl, rfl⟩
    refine hK _ _ hSS ?_
    clear hK K
    try simp only [List.getElem_toArray, List.getElem_cons_succ, List.getElem_cons_zero, Act.put, List.setIfInBounds_toArray, List.set_cons_zero, List.set_cons_succ]
    refine walk_take 3 (v := ?vb3) rfl (by kernel_rfl) (by kernel_rfl) (by kernel_rfl) (fun _ _ _ h => h) (hSS) (Or.inl ⟨by rfl, ?yb3⟩) ?rb3
    case yb3 => intro w hSw; obtain hwZ := _root_.id hSw; have e0 := (b1.step hwZ).cell' (i := 0) rfl; have e1 := (b1.step hwZ).cell' (i := 1) rfl; have hSx := hSw; (try dsimp only at hSw); go_simp; try rfl
    case' rb3 => try simp only [List.getElem_toArray, List.getElem_cons_succ, List.getElem_cons_zero, Act.put, List.setIfInBounds_toArray, List.set_cons_zero, List.set_cons_succ]
    refine walk_take 4 (v := ?vb4) rfl (by kernel_rfl) (by kernel_rfl) (by kernel_rfl) (fun _ _ _ h => h) (hSS) (Or.inl ⟨by rfl, ?yb4⟩) ?rb4
    case yb4 => intro w hSw; obtain hwZ := _root_.id hSw; have e0 := (b1.step hwZ).cell' (i := 0) rfl; have e1 := (b1.step hwZ).cell' (i := 1) rfl; have hSx := hSw; (try dsimp only at hSw); go_simp; try rfl
    case' rb4 => try simp only [List.getElem_toArray, List.getElem_cons_succ, List.getElem_cons_zero, Act.put, List.setIfInBounds_toArray, List.set_cons_zero, List.set_cons_succ]
    refine walk_take 5 (v := ?vb5) rfl (by kernel_rfl) (by kernel_rfl) (by kernel_rfl) (fun _ _ _ h => h) (hSS) (Or.inl ⟨by rfl, ?yb5⟩) ?rb5
    case yb5 => intro w hSw; obtain hwZ := _root_.id hSw; have e0 := (b1.step hwZ).cell' (i := 0) rfl; have e1 := (b1.step hwZ).cell' (i := 1) rfl; have hSx := hSw; (try dsimp only at hSw); go_simp; try rfl
    case' rb5 => try simp only [List.getElem_toArray, List.getElem_cons_succ, List.getElem_cons_zero, Act.put, List.setIfInBounds_toArray, List.set_cons_zero, List.set_cons_succ]
    refine walk_take 6 (v := ?vb6) rfl (by kernel_rfl) (by kernel_rfl) (by kernel_rfl) (fun _ _ _ h => h) (hSS) (Or.inl ⟨by rfl, ?yb6⟩) ?rb6
    case yb6 => intro w hSw; obtain hwZ := _root_.id hSw; have e0 := (b1.step hwZ).cell' (i := 0) rfl; have e1 := (b1.step hwZ).cell' (i := 1) rfl; have hSx := hSw; (try dsimp only at hSw); go_simp; try rfl
    case' rb6 => try simp only [List.getElem_toArray, List.getElem_cons_succ, List.getElem_cons_zero, Act.put, List.setIfInBounds_toArray, List.set_cons_zero, List.set_cons_succ]
    refine walk_step 7 rfl (by kernel_rfl) (by kernel_rfl) (fun K hK => ?c2)
    case c2 =>
      go_simp
      refine (din_is _ _ _ _ _ H0).mono ?_
      rintro e _ ⟨rfl, rfl⟩
      refine hK _ _ hSS ?_
      clear hK K
      try simp only [List.getElem_toArray, List.getElem_cons_succ, List.getElem_cons_zero, Act.put, List.setIfInBounds_toArray, List.set_cons_zero, List.set_cons_succ]
      refine walk_take 8 (v := ?vc8) rfl (by kernel_rfl) (by kernel_rfl) (by kernel_rfl) (fun _ _ _ h => h) (hSS) (Or.inl ⟨by rfl, ?yc8⟩) ?rc8
      case yc8 => intro w hSw; obtain hwZ := _root_.id hSw; have e0 := (b1.step hwZ).cell' (i := 0) rfl; have e1 := (b1.step hwZ).cell' (i := 1) rfl; have e2 := (b1.step hwZ).cell' (i := 2) rfl; have e3 := (b1.step hwZ).cell' (i := 3) rfl; have e4 := (b1.step hwZ).cell' (i := 4) rfl; have e5 := (b1.step hwZ).cell' (i := 5) rfl; have e6 := (b1.step hwZ).cell' (i := 6) rfl; have e7 := (b1.step hwZ).cell' (i := 7) rfl; have e8 := (b1.step hwZ).cell' (i := 8) rfl; have e9 := (b1.step hwZ).cell' (i := 9) rfl; have hSx := hSw; (try dsimp only at hSw); go_simp; try rfl
      case' rc8 => try simp only [List.getElem_toArray, List.getElem_cons_succ, List.getElem_cons_zero, Act.put, List.setIfInBounds_toArray, List.set_cons_zero, List.set_cons_succ]
      refine walk_take 9 (v := ?vc9) rfl (by kernel_rfl) (by kernel_rfl) (by kernel_rfl) (fun _ _ _ h => h) (hSS) (Or.inl ⟨by rfl, ?yc9⟩) ?rc9
      case yc9 => intro w hSw; obtain hwZ := _root_.id hSw; have e0 := (b1.step hwZ).cell' (i := 0) rfl; have e1 := (b1.step hwZ).cell' (i := 1) rfl; have e2 := (b1.step hwZ).cell' (i := 2) rfl; have e3 := (b1.step hwZ).cell' (i := 3) rfl; have e4 := (b1.step hwZ).cell' (i := 4) rfl; have e5 := (b1.step hwZ).cell' (i := 5) rfl; have e6 := (b1.step hwZ).cell' (i := 6) rfl; have e7 := (b1.step hwZ).cell' (i := 7) rfl; have e8 := (b1.step hwZ).cell' (i := 8) rfl; have e9 := (b1.step hwZ).cell' (i := 9) rfl; have hSx := hSw; (try dsimp only at hSw); go_simp; try rfl
      case' rc9 => try simp only [List.getElem_toArray, List.getElem_cons_succ, List.getElem_cons_zero, Act.put, List.setIfInBounds_toArray, List.set_cons_zero, List.set_cons_succ]
      refine walk_take 10 (v := ?vc10) rfl (by kernel_rfl) (by kernel_rfl) (by kernel_rfl) (fun _ _ _ h => h) (hSS) (Or.inl ⟨by rfl, ?yc10⟩) ?rc10
      case yc10 => intro w hSw; obtain hwZ := _root_.id hSw; have e0 := (b1.step hwZ).cell' (i := 0) rfl; have e1 := (b1.step hwZ).cell' (i := 1) rfl; have e2 := (b1.step hwZ).cell' (i := 2) rfl; have e3 := (b1.step hwZ).cell' (i := 3) rfl; have e4 := (b1.step hwZ).cell' (i := 4) rfl; have e5 := (b1.step hwZ).cell' (i := 5) rfl; have e6 := (b1.step hwZ).cell' (i := 6) rfl; have e7 := (b1.step hwZ).cell' (i := 7) rfl; have e8 := (b1.step hwZ).cell' (i := 8) rfl; have e9 := (b1.step hwZ).cell' (i := 9) rfl; have hSx := hSw; (try dsimp only at hSw); go_simp; try rfl
      case' rc10 => try simp only [List.getElem_toArray, List.getElem_cons_succ, List.getElem_cons_zero, Act.put, List.setIfInBounds_toArray, List.set_cons_zero, List.set_cons_succ]
      refine walk_take 11 (v := ?vc11) rfl (by kernel_rfl) (by kernel_rfl) (by kernel_rfl) (fun _ _ _ h => h) (hSS) (Or.inl ⟨by rfl, ?yc11⟩) ?rc11
      case yc11 => intro w hSw; obtain hwZ := _root_.id hSw; have e0 := (b1.step hwZ).cell' (i := 0) rfl; have e1 := (b1.step hwZ).cell' (i := 1) rfl; have e2 := (b1.step hwZ).cell' (i := 2) rfl; have e3 := (b1.step hwZ).cell' (i := 3) rfl; have e4 := (b1.step hwZ).cell' (i := 4) rfl; have e5 := (b1.step hwZ).cell' (i := 5) rfl; have e6 := (b1.step hwZ).cell' (i := 6) rfl; have e7 := (b1.step hwZ).cell' (i := 7) rfl; have e8 := (b1.step hwZ).cell' (i := 8) rfl; have e9 := (b1.step hwZ).cell' (i := 9) rfl; have hSx := hSw; (try dsimp only at hSw); go_simp; try rfl
      case' rc11 => try simp only [List.getElem_toArray, List.getElem_cons_succ, List.getElem_cons_zero, Act.put, List.setIfInBounds_toArray, List.set_cons_zero, List.set_cons_succ]
      refine walk_take 12 (v := ?vc12) rfl (by kernel_rfl) (by kernel_rfl) (by kernel_rfl) (fun _ _ _ h => h) (hSS) (Or.inl ⟨by rfl, ?yc12⟩) ?rc12
      case yc12 => intro w hSw; obtain hwZ := _root_.id hSw; have e0 := (b1.step hwZ).cell' (i := 0) rfl; have e1 := (b1.step hwZ).cell' (i := 1) rfl; have e2 := (b1.step hwZ).cell' (i := 2) rfl; have e3 := (b1.step hwZ).cell' (i := 3) rfl; have e4 := (b1.step hwZ).cell' (i := 4) rfl; have e5 := (b1.step hwZ).cell' (i := 5) rfl; have e6 := (b1.step hwZ).cell' (i := 6) rfl; have e7 := (b1.step hwZ).cell' (i := 7) rfl; have e8 := (b1.step hwZ).cell' (i := 8) rfl; have e9 := (b1.step hwZ).cell' (i := 9) rfl; have hSx := hSw; (try dsimp only at hSw); go_simp; try rfl
      case' rc12 => try simp only [List.getElem_toArray, List.getElem_cons_succ, List.getElem_cons_zero, Act.put, List.setIfInBounds_toArray, List.set_cons_zero, List.set_cons_succ]
      refine walk_step 13 rfl (by kernel_rfl) (by kernel_rfl) (fun K hK => ?c3)
      case c3 =>
        go_simp
        refine (CB.out _).mono ?_
        rintro e v1 ⟨rfl, hb⟩
        have hX1 := hSS.trans (hb.mono hSS.size)
        refine hK _ _ hX1 ?_
        clear hK K hb CB
        try simp only [List.getElem_toArray, List.getElem_cons_succ, List.getElem_cons_zero, Act.put, List.setIfInBounds_toArray, List.set_cons_zero, List.set_cons_succ]
        refine walk_step 14 rfl (by kernel_rfl) (by kernel_rfl) (fun K hK => ?c4)
        case c4 =>
          go_simp
          refine (CA.out _).mono ?_
          rintro e v2 ⟨rfl, hb⟩
          have hX2 := hX1.trans (hb.mono hX1.size)
          refine hK _ _ hX2 ?_
          clear hK K hb CA
          try simp only [List.getElem_toArray, List.getElem_cons_succ, List.getElem_cons_zero, Act.put, List.setIfInBounds_toArray, List.set_cons_zero, List.set_cons_succ]
          refine walk_take 15 (v := ?vd15) rfl (by kernel_rfl) (by kernel_rfl) (by kernel_rfl) (fun _ _ _ h => h) (hX2) (Or.inl ⟨by rfl, ?yd15⟩) ?rd15
          case yd15 => intro w hSw; (try dsimp only at hSw); go_simp; try rfl
          case' rd15 => try simp only [List.getElem_toArray, List.getElem_cons_succ, List.getElem_cons_zero, Act.put, List.setIfInBounds_toArray, List.set_cons_zero, List.set_cons_succ]
          refine walk_tail (by kernel_rfl) ?_
          simp only [List.drop_succ_cons, List.drop_zero]
          replace b1 := b1.step hX2
          have hB2 := hB.trans (hX2.mono hB.size)
          clear hX0 hSS hX1 hX2 hB
          cases r
          · have hno : noteOk (⟨1, id, name, size, sum, at_, data, gaps, of_, code⟩ : Nt) = false := note_bare HR.out
            have HNO := Lib.hid hno
            clear hno
            go_wp2_with fail
            go_ret
            exact ⟨by rw [HNO.out]; rfl, hB2⟩
          have x0 := b1.cell' (i := 0) rfl
          have x2 := b1.cell' (i := 2) rfl
          have x3 := b1.cell' (i := 3) rfl
          cases h1 : rngOk ln 1 32
          · have hno : noteOk (⟨1, id, name, size, sum, at_, data, gaps, of_, code⟩ : Nt) = false := note_kind (by have e : ¬ (1 ≤ name.size ∧ name.size ≤ 32) := (by have := HLN.out; unfold rngOk at h1; rw [decide_eq_false_iff_not] at h1; omega); simp [kindOk, e])
            have H1 := Lib.hid h1
            clear h1
            have HNO := Lib.hid hno
            clear hno
            go_wp2_with (first
            | (go_at_call 81; refine Calls.mono (by first | exact din_is _ _ _ _ _ H1) ?_; rintro e w1 ⟨rfl, rfl⟩))
            go_ret
            exact ⟨by rw [HNO.out]; rfl, hB2⟩
          have E1 : Hid (1 ≤ name.size ∧ name.size ≤ 32) := Lib.hid (by have := HLN.out; unfold rngOk at h1; rw [decide_eq_true_iff] at h1; omega)
          have H1 := Lib.hid h1
          clear h1
          cases h2 : rngOk size 0 65536
          · have hno : noteOk (⟨1, id, name, size, sum, at_, data, gaps, of_, code⟩ : Nt) = false := note_kind (by simp [kindOk, h2])
            have H2 := Lib.hid h2
            clear h2
            have HNO := Lib.hid hno
            clear hno
            go_wp2_with (first
            | (go_at_call 81; refine Calls.mono (by first | exact din_is _ _ _ _ _ H1 | exact din_is _ _ _ _ _ H2) ?_; rintro e w1 ⟨rfl, rfl⟩))
            go_ret
            exact ⟨by rw [HNO.out]; rfl, hB2⟩
          have hno : noteOk (⟨1, id, name, size, sum, at_, data, gaps, of_, code⟩ : Nt) = true := note_all rfl H0.out HR.out (by simp [kindOk, h2, E1.out])
          have H2 := Lib.hid h2
          clear h2
          have HNO := Lib.hid hno
          clear hno
          go_wp2_with (first
            | (go_at_call 81; refine Calls.mono (by first | exact din_is _ _ _ _ _ H1 | exact din_is _ _ _ _ _ H2) ?_; rintro e w1 ⟨rfl, rfl⟩))
          go_ret
          exact ⟨by rw [HNO.out]; rfl, hB2⟩
set_option maxHeartbeats 6400000 in
set_option maxRecDepth 100000 in
theorem may_2 (id : Int) (name : ByteArray) (size sum at_ : Int) (data : List UInt8) (gaps : List (Int × Int)) (of_ code : Int) (D : Option Addr) (dn dc : Nat) (G : Option Addr) (gn gc : Nat) (w : World) (hid : rngOk id 0 65535 = true) (hd : data.length = dn) (hg : gaps.length = gn) :
    Calls Try.prog 40 #[ntv (⟨2, id, name, size, sum, at_, data, gaps, of_, code⟩ : Nt) D dn dc G gn gc] w fun e w' => e = .returned (.bool (noteOk (⟨2, id, name, size, sum, at_, data, gaps, of_, code⟩ : Nt))) ∧ Below w.heap.size w w' := by
  unfold ntv
  dsimp only
  have H0 := Lib.hid hid
  have HK : Hid (rngOk 2 1 6 = true) := Lib.hid rfl
  obtain ⟨r, hr⟩ : ∃ r, bareOk (⟨2, id, name, size, sum, at_, data, gaps, of_, code⟩ : Nt) = r := ⟨_, rfl⟩
  have CB := Lib.hid (fun V => bare_2 id name size sum at_ of_ code D dn dc G gn gc V)
  have CA := Lib.hid (fun V => alike_2 id name size sum at_ data gaps of_ code D dn dc G gn gc V hd hg)
  simp only [hr] at CA
  have HR := Lib.hid hr
  have HD := Lib.hid hd
  have HGN := Lib.hid hg
  clear hr hd hg hid
  obtain ⟨ln, hln⟩ : ∃ ln : Int, (name.size : Int) = ln := ⟨_, rfl⟩
  have HLN := Lib.hid hln
  have b1 := Blk.new w 27 #[.int .i64 2, .int .i64 id, .string name, .int .i64 size, .int .i64 sum, .int .i64 at_, .slice D dn dc, .slice G gn gc, .int .i64 of_, .int .i64 code]
  have hB : Below w.heap.size w (w.alloc (.cells #[.int .i64 2, .int .i64 id, .string name, .int .i64 size, .int .i64 sum, .int .i64 at_, .slice D dn dc, .slice G gn gc, .int .i64 of_, .int .i64 code] 27)) := (Below.refl _ _).alloc (Nat.le_refl _) _
  go_enter Try.func40, Try.ntmps40
  go_upto_region 1 with fail
  generalize w.alloc (.cells #[.int .i64 2, .int .i64 id, .string name, .int .i64 size, .int .i64 sum, .int .i64 at_, .slice D dn dc, .slice G gn gc, .int .i64 of_, .int .i64 code] 27) = W at *
  have hX0 : Below W.heap.size W W.drew := (Below.refl _ _).drew
  refine heldRegion (fun v => Below W.heap.size W v) 16 (by kernel_rfl) (by kernel_rfl) hX0 (fun hSS => ?_)
  generalize W.drew = V at *
  refine walk_take 0 (v := ?va0) rfl (by kernel_rfl) (by kernel_rfl) (by kernel_rfl) (fun _ _ _ h => h) (hSS) (Or.inl ⟨by rfl, ?ya0⟩) ?ra0
  case ya0 => intro w hSw; obtain hwZ := _root_.id hSw; have e0 := (b1.step hwZ).cell' (i := 0) rfl; have e1 := (b1.step hwZ).cell' (i := 1) rfl; have hSx := hSw; (try dsimp only at hSw); go_simp; try rfl
  case' ra0 => try simp only [List.getElem_toArray, List.getElem_cons_succ, List.getElem_cons_zero, Act.put, List.setIfInBounds_toArray, List.set_cons_zero, List.set_cons_succ]
  refine walk_take 1 (v := ?va1) rfl (by kernel_rfl) (by kernel_rfl) (by kernel_rfl) (fun _ _ _ h => h) (hSS) (Or.inl ⟨by rfl, ?ya1⟩) ?ra1
  case ya1 => intro w hSw; obtain hwZ := _root_.id hSw; have e0 := (b1.step hwZ).cell' (i := 0) rfl; have e1 := (b1.step hwZ).cell' (i := 1) rfl; have hSx := hSw; (try dsimp only at hSw); go_simp; try rfl
  case' ra1 => try simp only [List.getElem_toArray, List.getElem_cons_succ, List.getElem_cons_zero, Act.put, List.setIfInBounds_toArray, List.set_cons_zero, List.set_cons_succ]
  refine walk_step 2 rfl (by kernel_rfl) (by kernel_rfl) (fun K hK => ?c1)
  case c1 =>
    go_simp
    refine (din_is _ _ _ _ _ HK).mono ?_
    rintro e _ ⟨rfl, rfl⟩
    refine hK _ _ hSS ?_
    clear hK K
    try simp only [List.getElem_toArray, List.getElem_cons_succ, List.getElem_cons_zero, Act.put, List.setIfInBounds_toArray, List.set_cons_zero, List.set_cons_succ]
    refine walk_take 3 (v := ?vb3) rfl (by kernel_rfl) (by kernel_rfl) (by kernel_rfl) (fun _ _ _ h => h) (hSS) (Or.inl ⟨by rfl, ?yb3⟩) ?rb3
    case yb3 => intro w hSw; obtain hwZ := _root_.id hSw; have e0 := (b1.step hwZ).cell' (i := 0) rfl; have e1 := (b1.step hwZ).cell' (i := 1) rfl; have hSx := hSw; (try dsimp only at hSw); go_simp; try rfl
    case' rb3 => try simp only [List.getElem_toArray, List.getElem_cons_succ, List.getElem_cons_zero, Act.put, List.setIfInBounds_toArray, List.set_cons_zero, List.set_cons_succ]
    refine walk_take 4 (v := ?vb4) rfl (by kernel_rfl) (by kernel_rfl) (by kernel_rfl) (fun _ _ _ h => h) (hSS) (Or.inl ⟨by rfl, ?yb4⟩) ?rb4
    case yb4 => intro w hSw; obtain hwZ := _root_.id hSw; have e0 := (b1.step hwZ).cell' (i := 0) rfl; have e1 := (b1.step hwZ).cell' (i := 1) rfl; have hSx := hSw; (try dsimp only at hSw); go_simp; try rfl
    case' rb4 => try simp only [List.getElem_toArray, List.getElem_cons_succ, List.getElem_cons_zero, Act.put, List.setIfInBounds_toArray, List.set_cons_zero, List.set_cons_succ]
    refine walk_take 5 (v := ?vb5) rfl (by kernel_rfl) (by kernel_rfl) (by kernel_rfl) (fun _ _ _ h => h) (hSS) (Or.inl ⟨by rfl, ?yb5⟩) ?rb5
    case yb5 => intro w hSw; obtain hwZ := _root_.id hSw; have e0 := (b1.step hwZ).cell' (i := 0) rfl; have e1 := (b1.step hwZ).cell' (i := 1) rfl; have hSx := hSw; (try dsimp only at hSw); go_simp; try rfl
    case' rb5 => try simp only [List.getElem_toArray, List.getElem_cons_succ, List.getElem_cons_zero, Act.put, List.setIfInBounds_toArray, List.set_cons_zero, List.set_cons_succ]
    refine walk_take 6 (v := ?vb6) rfl (by kernel_rfl) (by kernel_rfl) (by kernel_rfl) (fun _ _ _ h => h) (hSS) (Or.inl ⟨by rfl, ?yb6⟩) ?rb6
    case yb6 => intro w hSw; obtain hwZ := _root_.id hSw; have e0 := (b1.step hwZ).cell' (i := 0) rfl; have e1 := (b1.step hwZ).cell' (i := 1) rfl; have hSx := hSw; (try dsimp only at hSw); go_simp; try rfl
    case' rb6 => try simp only [List.getElem_toArray, List.getElem_cons_succ, List.getElem_cons_zero, Act.put, List.setIfInBounds_toArray, List.set_cons_zero, List.set_cons_succ]
    refine walk_step 7 rfl (by kernel_rfl) (by kernel_rfl) (fun K hK => ?c2)
    case c2 =>
      go_simp
      refine (din_is _ _ _ _ _ H0).mono ?_
      rintro e _ ⟨rfl, rfl⟩
      refine hK _ _ hSS ?_
      clear hK K
      try simp only [List.getElem_toArray, List.getElem_cons_succ, List.getElem_cons_zero, Act.put, List.setIfInBounds_toArray, List.set_cons_zero, List.set_cons_succ]
      refine walk_take 8 (v := ?vc8) rfl (by kernel_rfl) (by kernel_rfl) (by kernel_rfl) (fun _ _ _ h => h) (hSS) (Or.inl ⟨by rfl, ?yc8⟩) ?rc8
      case yc8 => intro w hSw; obtain hwZ := _root_.id hSw; have e0 := (b1.step hwZ).cell' (i := 0) rfl; have e1 := (b1.step hwZ).cell' (i := 1) rfl; have e2 := (b1.step hwZ).cell' (i := 2) rfl; have e3 := (b1.step hwZ).cell' (i := 3) rfl; have e4 := (b1.step hwZ).cell' (i := 4) rfl; have e5 := (b1.step hwZ).cell' (i := 5) rfl; have e6 := (b1.step hwZ).cell' (i := 6) rfl; have e7 := (b1.step hwZ).cell' (i := 7) rfl; have e8 := (b1.step hwZ).cell' (i := 8) rfl; have e9 := (b1.step hwZ).cell' (i := 9) rfl; have hSx := hSw; (try dsimp only at hSw); go_simp; try rfl
      case' rc8 => try simp only [List.getElem_toArray, List.getElem_cons_succ, List.getElem_cons_zero, Act.put, List.setIfInBounds_toArray, List.set_cons_zero, List.set_cons_succ]
      refine walk_take 9 (v := ?vc9) rfl (by kernel_rfl) (by kernel_rfl) (by kernel_rfl) (fun _ _ _ h => h) (hSS) (Or.inl ⟨by rfl, ?yc9⟩) ?rc9
      case yc9 => intro w hSw; obtain hwZ := _root_.id hSw; have e0 := (b1.step hwZ).cell' (i := 0) rfl; have e1 := (b1.step hwZ).cell' (i := 1) rfl; have e2 := (b1.step hwZ).cell' (i := 2) rfl; have e3 := (b1.step hwZ).cell' (i := 3) rfl; have e4 := (b1.step hwZ).cell' (i := 4) rfl; have e5 := (b1.step hwZ).cell' (i := 5) rfl; have e6 := (b1.step hwZ).cell' (i := 6) rfl; have e7 := (b1.step hwZ).cell' (i := 7) rfl; have e8 := (b1.step hwZ).cell' (i := 8) rfl; have e9 := (b1.step hwZ).cell' (i := 9) rfl; have hSx := hSw; (try dsimp only at hSw); go_simp; try rfl
      case' rc9 => try simp only [List.getElem_toArray, List.getElem_cons_succ, List.getElem_cons_zero, Act.put, List.setIfInBounds_toArray, List.set_cons_zero, List.set_cons_succ]
      refine walk_take 10 (v := ?vc10) rfl (by kernel_rfl) (by kernel_rfl) (by kernel_rfl) (fun _ _ _ h => h) (hSS) (Or.inl ⟨by rfl, ?yc10⟩) ?rc10
      case yc10 => intro w hSw; obtain hwZ := _root_.id hSw; have e0 := (b1.step hwZ).cell' (i := 0) rfl; have e1 := (b1.step hwZ).cell' (i := 1) rfl; have e2 := (b1.step hwZ).cell' (i := 2) rfl; have e3 := (b1.step hwZ).cell' (i := 3) rfl; have e4 := (b1.step hwZ).cell' (i := 4) rfl; have e5 := (b1.step hwZ).cell' (i := 5) rfl; have e6 := (b1.step hwZ).cell' (i := 6) rfl; have e7 := (b1.step hwZ).cell' (i := 7) rfl; have e8 := (b1.step hwZ).cell' (i := 8) rfl; have e9 := (b1.step hwZ).cell' (i := 9) rfl; have hSx := hSw; (try dsimp only at hSw); go_simp; try rfl
      case' rc10 => try simp only [List.getElem_toArray, List.getElem_cons_succ, List.getElem_cons_zero, Act.put, List.setIfInBounds_toArray, List.set_cons_zero, List.set_cons_succ]
      refine walk_take 11 (v := ?vc11) rfl (by kernel_rfl) (by kernel_rfl) (by kernel_rfl) (fun _ _ _ h => h) (hSS) (Or.inl ⟨by rfl, ?yc11⟩) ?rc11
      case yc11 => intro w hSw; obtain hwZ := _root_.id hSw; have e0 := (b1.step hwZ).cell' (i := 0) rfl; have e1 := (b1.step hwZ).cell' (i := 1) rfl; have e2 := (b1.step hwZ).cell' (i := 2) rfl; have e3 := (b1.step hwZ).cell' (i := 3) rfl; have e4 := (b1.step hwZ).cell' (i := 4) rfl; have e5 := (b1.step hwZ).cell' (i := 5) rfl; have e6 := (b1.step hwZ).cell' (i := 6) rfl; have e7 := (b1.step hwZ).cell' (i := 7) rfl; have e8 := (b1.step hwZ).cell' (i := 8) rfl; have e9 := (b1.step hwZ).cell' (i := 9) rfl; have hSx := hSw; (try dsimp only at hSw); go_simp; try rfl
      case' rc11 => try simp only [List.getElem_toArray, List.getElem_cons_succ, List.getElem_cons_zero, Act.put, List.setIfInBounds_toArray, List.set_cons_zero, List.set_cons_succ]
      refine walk_take 12 (v := ?vc12) rfl (by kernel_rfl) (by kernel_rfl) (by kernel_rfl) (fun _ _ _ h => h) (hSS) (Or.inl ⟨by rfl, ?yc12⟩) ?rc12
      case yc12 => intro w hSw; obtain hwZ := _root_.id hSw; have e0 := (b1.step hwZ).cell' (i := 0) rfl; have e1 := (b1.step hwZ).cell' (i := 1) rfl; have e2 := (b1.step hwZ).cell' (i := 2) rfl; have e3 := (b1.step hwZ).cell' (i := 3) rfl; have e4 := (b1.step hwZ).cell' (i := 4) rfl; have e5 := (b1.step hwZ).cell' (i := 5) rfl; have e6 := (b1.step hwZ).cell' (i := 6) rfl; have e7 := (b1.step hwZ).cell' (i := 7) rfl; have e8 := (b1.step hwZ).cell' (i := 8) rfl; have e9 := (b1.step hwZ).cell' (i := 9) rfl; have hSx := hSw; (try dsimp only at hSw); go_simp; try rfl
      case' rc12 => try simp only [List.getElem_toArray, List.getElem_cons_succ, List.getElem_cons_zero, Act.put, List.setIfInBounds_toArray, List.set_cons_zero, List.set_cons_succ]
      refine walk_step 13 rfl (by kernel_rfl) (by kernel_rfl) (fun K hK => ?c3)
      case c3 =>
        go_simp
        refine (CB.out _).mono ?_
        rintro e v1 ⟨rfl, hb⟩
        have hX1 := hSS.trans (hb.mono hSS.size)
        refine hK _ _ hX1 ?_
        clear hK K hb CB
        try simp only [List.getElem_toArray, List.getElem_cons_succ, List.getElem_cons_zero, Act.put, List.setIfInBounds_toArray, List.set_cons_zero, List.set_cons_succ]
        refine walk_step 14 rfl (by kernel_rfl) (by kernel_rfl) (fun K hK => ?c4)
        case c4 =>
          go_simp
          refine (CA.out _).mono ?_
          rintro e v2 ⟨rfl, hb⟩
          have hX2 := hX1.trans (hb.mono hX1.size)
          refine hK _ _ hX2 ?_
          clear hK K hb CA
          try simp only [List.getElem_toArray, List.getElem_cons_succ, List.getElem_cons_zero, Act.put, List.setIfInBounds_toArray, List.set_cons_zero, List.set_cons_succ]
          refine walk_take 15 (v := ?vd15) rfl (by kernel_rfl) (by kernel_rfl) (by kernel_rfl) (fun _ _ _ h => h) (hX2) (Or.inl ⟨by rfl, ?yd15⟩) ?rd15
          case yd15 => intro w hSw; (try dsimp only at hSw); go_simp; try rfl
          case' rd15 => try simp only [List.getElem_toArray, List.getElem_cons_succ, List.getElem_cons_zero, Act.put, List.setIfInBounds_toArray, List.set_cons_zero, List.set_cons_succ]
          refine walk_tail (by kernel_rfl) ?_
          simp only [List.drop_succ_cons, List.drop_zero]
          replace b1 := b1.step hX2
          have hB2 := hB.trans (hX2.mono hB.size)
          clear hX0 hSS hX1 hX2 hB
          cases r
          · have hno : noteOk (⟨2, id, name, size, sum, at_, data, gaps, of_, code⟩ : Nt) = false := note_bare HR.out
            have HNO := Lib.hid hno
            clear hno
            go_wp2_with fail
            go_ret
            exact ⟨by rw [HNO.out]; rfl, hB2⟩
          have x0 := b1.cell' (i := 0) rfl
          have x5 := b1.cell' (i := 5) rfl
          have x6 := b1.cell' (i := 6) rfl
          cases h1 : rngOk (dn : Int) 1 1024
          · have hno : noteOk (⟨2, id, name, size, sum, at_, data, gaps, of_, code⟩ : Nt) = false := note_kind (by have e : ¬ (1 ≤ data.length ∧ data.length ≤ 1024) := (by have := HD.out; unfold rngOk at h1; rw [decide_eq_false_iff_not] at h1; omega); simp [kindOk, e])
            have H1 := Lib.hid h1
            clear h1
            have HNO := Lib.hid hno
            clear hno
            go_wp2_with (first
            | (go_at_call 81; refine Calls.mono (by first | exact din_is _ _ _ _ _ H1) ?_; rintro e w1 ⟨rfl, rfl⟩))
            go_ret
            exact ⟨by rw [HNO.out]; rfl, hB2⟩
          have E1 : Hid (1 ≤ data.length ∧ data.length ≤ 1024) := Lib.hid (by have := HD.out; unfold rngOk at h1; rw [decide_eq_true_iff] at h1; omega)
          have wz : IntKind.i64.wrap (65536 - (dn : Int)) = 65536 - (dn : Int) := IntWalk.i64_in _ (by have := HD.out; have := E1.out; omega)
          have H1 := Lib.hid h1
          clear h1
          cases h2 : rngOk at_ 0 (65536 - (dn : Int))
          · have hno : noteOk (⟨2, id, name, size, sum, at_, data, gaps, of_, code⟩ : Nt) = false := note_kind (by have e : rngOk at_ 0 (65536 - (data.length : Int)) = false := (by rw [HD.out]; exact h2); simp [kindOk, e])
            have H2 := Lib.hid h2
            clear h2
            have HNO := Lib.hid hno
            clear hno
            go_wp2_with (first
            | (go_at_call 81; refine Calls.mono (by first | exact din_is _ _ _ _ _ H1 | exact din_is _ _ _ _ _ H2) ?_; rintro e w1 ⟨rfl, rfl⟩))
            go_ret
            exact ⟨by rw [HNO.out]; rfl, hB2⟩
          have hno : noteOk (⟨2, id, name, size, sum, at_, data, gaps, of_, code⟩ : Nt) = true := note_all rfl H0.out HR.out (by have e : rngOk at_ 0 (65536 - (data.length : Int)) = true := (by rw [HD.out]; exact h2); simp [kindOk, e, E1.out])
          have H2 := Lib.hid h2
          clear h2
          have HNO := Lib.hid hno
          clear hno
          go_wp2_with (first
            | (go_at_call 81; refine Calls.mono (by first | exact din_is _ _ _ _ _ H1 | exact din_is _ _ _ _ _ H2) ?_; rintro e w1 ⟨rfl, rfl⟩))
          go_ret
          exact ⟨by rw [HNO.out]; rfl, hB2⟩
set_option maxHeartbeats 6400000 in
set_option maxRecDepth 100000 in
theorem may_3 (id : Int) (name : ByteArray) (size sum at_ : Int) (data : List UInt8) (gaps : List (Int × Int)) (of_ code : Int) (D : Option Addr) (dn dc : Nat) (G : Option Addr) (gn gc : Nat) (w : World) (hid : rngOk id 0 65535 = true) (hd : data.length = dn) (hg : gaps.length = gn) :
    Calls Try.prog 40 #[ntv (⟨3, id, name, size, sum, at_, data, gaps, of_, code⟩ : Nt) D dn dc G gn gc] w fun e w' => e = .returned (.bool (noteOk (⟨3, id, name, size, sum, at_, data, gaps, of_, code⟩ : Nt))) ∧ Below w.heap.size w w' := by
  unfold ntv
  dsimp only
  have H0 := Lib.hid hid
  have HK : Hid (rngOk 3 1 6 = true) := Lib.hid rfl
  obtain ⟨r, hr⟩ : ∃ r, bareOk (⟨3, id, name, size, sum, at_, data, gaps, of_, code⟩ : Nt) = r := ⟨_, rfl⟩
  have CB := Lib.hid (fun V => bare_3 id name size sum at_ of_ code D dn dc G gn gc V)
  have CA := Lib.hid (fun V => alike_3 id name size sum at_ data gaps of_ code D dn dc G gn gc V hd hg)
  simp only [hr] at CA
  have HR := Lib.hid hr
  have HD := Lib.hid hd
  have HGN := Lib.hid hg
  clear hr hd hg hid
  obtain ⟨ln, hln⟩ : ∃ ln : Int, (name.size : Int) = ln := ⟨_, rfl⟩
  have HLN := Lib.hid hln
  have b1 := Blk.new w 27 #[.int .i64 3, .int .i64 id, .string name, .int .i64 size, .int .i64 sum, .int .i64 at_, .slice D dn dc, .slice G gn gc, .int .i64 of_, .int .i64 code]
  have hB : Below w.heap.size w (w.alloc (.cells #[.int .i64 3, .int .i64 id, .string name, .int .i64 size, .int .i64 sum, .int .i64 at_, .slice D dn dc, .slice G gn gc, .int .i64 of_, .int .i64 code] 27)) := (Below.refl _ _).alloc (Nat.le_refl _) _
  go_enter Try.func40, Try.ntmps40
  go_upto_region 1 with fail
  generalize w.alloc (.cells #[.int .i64 3, .int .i64 id, .string name, .int .i64 size, .int .i64 sum, .int .i64 at_, .slice D dn dc, .slice G gn gc, .int .i64 of_, .int .i64 code] 27) = W at *
  have hX0 : Below W.heap.size W W.drew := (Below.refl _ _).drew
  refine heldRegion (fun v => Below W.heap.size W v) 16 (by kernel_rfl) (by kernel_rfl) hX0 (fun hSS => ?_)
  generalize W.drew = V at *
  refine walk_take 0 (v := ?va0) rfl (by kernel_rfl) (by kernel_rfl) (by kernel_rfl) (fun _ _ _ h => h) (hSS) (Or.inl ⟨by rfl, ?ya0⟩) ?ra0
  case ya0 => intro w hSw; obtain hwZ := _root_.id hSw; have e0 := (b1.step hwZ).cell' (i := 0) rfl; have e1 := (b1.step hwZ).cell' (i := 1) rfl; have hSx := hSw; (try dsimp only at hSw); go_simp; try rfl
  case' ra0 => try simp only [List.getElem_toArray, List.getElem_cons_succ, List.getElem_cons_zero, Act.put, List.setIfInBounds_toArray, List.set_cons_zero, List.set_cons_succ]
  refine walk_take 1 (v := ?va1) rfl (by kernel_rfl) (by kernel_rfl) (by kernel_rfl) (fun _ _ _ h => h) (hSS) (Or.inl ⟨by rfl, ?ya1⟩) ?ra1
  case ya1 => intro w hSw; obtain hwZ := _root_.id hSw; have e0 := (b1.step hwZ).cell' (i := 0) rfl; have e1 := (b1.step hwZ).cell' (i := 1) rfl; have hSx := hSw; (try dsimp only at hSw); go_simp; try rfl
  case' ra1 => try simp only [List.getElem_toArray, List.getElem_cons_succ, List.getElem_cons_zero, Act.put, List.setIfInBounds_toArray, List.set_cons_zero, List.set_cons_succ]
  refine walk_step 2 rfl (by kernel_rfl) (by kernel_rfl) (fun K hK => ?c1)
  case c1 =>
    go_simp
    refine (din_is _ _ _ _ _ HK).mono ?_
    rintro e _ ⟨rfl, rfl⟩
    refine hK _ _ hSS ?_
    clear hK K
    try simp only [List.getElem_toArray, List.getElem_cons_succ, List.getElem_cons_zero, Act.put, List.setIfInBounds_toArray, List.set_cons_zero, List.set_cons_succ]
    refine walk_take 3 (v := ?vb3) rfl (by kernel_rfl) (by kernel_rfl) (by kernel_rfl) (fun _ _ _ h => h) (hSS) (Or.inl ⟨by rfl, ?yb3⟩) ?rb3
    case yb3 => intro w hSw; obtain hwZ := _root_.id hSw; have e0 := (b1.step hwZ).cell' (i := 0) rfl; have e1 := (b1.step hwZ).cell' (i := 1) rfl; have hSx := hSw; (try dsimp only at hSw); go_simp; try rfl
    case' rb3 => try simp only [List.getElem_toArray, List.getElem_cons_succ, List.getElem_cons_zero, Act.put, List.setIfInBounds_toArray, List.set_cons_zero, List.set_cons_succ]
    refine walk_take 4 (v := ?vb4) rfl (by kernel_rfl) (by kernel_rfl) (by kernel_rfl) (fun _ _ _ h => h) (hSS) (Or.inl ⟨by rfl, ?yb4⟩) ?rb4
    case yb4 => intro w hSw; obtain hwZ := _root_.id hSw; have e0 := (b1.step hwZ).cell' (i := 0) rfl; have e1 := (b1.step hwZ).cell' (i := 1) rfl; have hSx := hSw; (try dsimp only at hSw); go_simp; try rfl
    case' rb4 => try simp only [List.getElem_toArray, List.getElem_cons_succ, List.getElem_cons_zero, Act.put, List.setIfInBounds_toArray, List.set_cons_zero, List.set_cons_succ]
    refine walk_take 5 (v := ?vb5) rfl (by kernel_rfl) (by kernel_rfl) (by kernel_rfl) (fun _ _ _ h => h) (hSS) (Or.inl ⟨by rfl, ?yb5⟩) ?rb5
    case yb5 => intro w hSw; obtain hwZ := _root_.id hSw; have e0 := (b1.step hwZ).cell' (i := 0) rfl; have e1 := (b1.step hwZ).cell' (i := 1) rfl; have hSx := hSw; (try dsimp only at hSw); go_simp; try rfl
    case' rb5 => try simp only [List.getElem_toArray, List.getElem_cons_succ, List.getElem_cons_zero, Act.put, List.setIfInBounds_toArray, List.set_cons_zero, List.set_cons_succ]
    refine walk_take 6 (v := ?vb6) rfl (by kernel_rfl) (by kernel_rfl) (by kernel_rfl) (fun _ _ _ h => h) (hSS) (Or.inl ⟨by rfl, ?yb6⟩) ?rb6
    case yb6 => intro w hSw; obtain hwZ := _root_.id hSw; have e0 := (b1.step hwZ).cell' (i := 0) rfl; have e1 := (b1.step hwZ).cell' (i := 1) rfl; have hSx := hSw; (try dsimp only at hSw); go_simp; try rfl
    case' rb6 => try simp only [List.getElem_toArray, List.getElem_cons_succ, List.getElem_cons_zero, Act.put, List.setIfInBounds_toArray, List.set_cons_zero, List.set_cons_succ]
    refine walk_step 7 rfl (by kernel_rfl) (by kernel_rfl) (fun K hK => ?c2)
    case c2 =>
      go_simp
      refine (din_is _ _ _ _ _ H0).mono ?_
      rintro e _ ⟨rfl, rfl⟩
      refine hK _ _ hSS ?_
      clear hK K
      try simp only [List.getElem_toArray, List.getElem_cons_succ, List.getElem_cons_zero, Act.put, List.setIfInBounds_toArray, List.set_cons_zero, List.set_cons_succ]
      refine walk_take 8 (v := ?vc8) rfl (by kernel_rfl) (by kernel_rfl) (by kernel_rfl) (fun _ _ _ h => h) (hSS) (Or.inl ⟨by rfl, ?yc8⟩) ?rc8
      case yc8 => intro w hSw; obtain hwZ := _root_.id hSw; have e0 := (b1.step hwZ).cell' (i := 0) rfl; have e1 := (b1.step hwZ).cell' (i := 1) rfl; have e2 := (b1.step hwZ).cell' (i := 2) rfl; have e3 := (b1.step hwZ).cell' (i := 3) rfl; have e4 := (b1.step hwZ).cell' (i := 4) rfl; have e5 := (b1.step hwZ).cell' (i := 5) rfl; have e6 := (b1.step hwZ).cell' (i := 6) rfl; have e7 := (b1.step hwZ).cell' (i := 7) rfl; have e8 := (b1.step hwZ).cell' (i := 8) rfl; have e9 := (b1.step hwZ).cell' (i := 9) rfl; have hSx := hSw; (try dsimp only at hSw); go_simp; try rfl
      case' rc8 => try simp only [List.getElem_toArray, List.getElem_cons_succ, List.getElem_cons_zero, Act.put, List.setIfInBounds_toArray, List.set_cons_zero, List.set_cons_succ]
      refine walk_take 9 (v := ?vc9) rfl (by kernel_rfl) (by kernel_rfl) (by kernel_rfl) (fun _ _ _ h => h) (hSS) (Or.inl ⟨by rfl, ?yc9⟩) ?rc9
      case yc9 => intro w hSw; obtain hwZ := _root_.id hSw; have e0 := (b1.step hwZ).cell' (i := 0) rfl; have e1 := (b1.step hwZ).cell' (i := 1) rfl; have e2 := (b1.step hwZ).cell' (i := 2) rfl; have e3 := (b1.step hwZ).cell' (i := 3) rfl; have e4 := (b1.step hwZ).cell' (i := 4) rfl; have e5 := (b1.step hwZ).cell' (i := 5) rfl; have e6 := (b1.step hwZ).cell' (i := 6) rfl; have e7 := (b1.step hwZ).cell' (i := 7) rfl; have e8 := (b1.step hwZ).cell' (i := 8) rfl; have e9 := (b1.step hwZ).cell' (i := 9) rfl; have hSx := hSw; (try dsimp only at hSw); go_simp; try rfl
      case' rc9 => try simp only [List.getElem_toArray, List.getElem_cons_succ, List.getElem_cons_zero, Act.put, List.setIfInBounds_toArray, List.set_cons_zero, List.set_cons_succ]
      refine walk_take 10 (v := ?vc10) rfl (by kernel_rfl) (by kernel_rfl) (by kernel_rfl) (fun _ _ _ h => h) (hSS) (Or.inl ⟨by rfl, ?yc10⟩) ?rc10
      case yc10 => intro w hSw; obtain hwZ := _root_.id hSw; have e0 := (b1.step hwZ).cell' (i := 0) rfl; have e1 := (b1.step hwZ).cell' (i := 1) rfl; have e2 := (b1.step hwZ).cell' (i := 2) rfl; have e3 := (b1.step hwZ).cell' (i := 3) rfl; have e4 := (b1.step hwZ).cell' (i := 4) rfl; have e5 := (b1.step hwZ).cell' (i := 5) rfl; have e6 := (b1.step hwZ).cell' (i := 6) rfl; have e7 := (b1.step hwZ).cell' (i := 7) rfl; have e8 := (b1.step hwZ).cell' (i := 8) rfl; have e9 := (b1.step hwZ).cell' (i := 9) rfl; have hSx := hSw; (try dsimp only at hSw); go_simp; try rfl
      case' rc10 => try simp only [List.getElem_toArray, List.getElem_cons_succ, List.getElem_cons_zero, Act.put, List.setIfInBounds_toArray, List.set_cons_zero, List.set_cons_succ]
      refine walk_take 11 (v := ?vc11) rfl (by kernel_rfl) (by kernel_rfl) (by kernel_rfl) (fun _ _ _ h => h) (hSS) (Or.inl ⟨by rfl, ?yc11⟩) ?rc11
      case yc11 => intro w hSw; obtain hwZ := _root_.id hSw; have e0 := (b1.step hwZ).cell' (i := 0) rfl; have e1 := (b1.step hwZ).cell' (i := 1) rfl; have e2 := (b1.step hwZ).cell' (i := 2) rfl; have e3 := (b1.step hwZ).cell' (i := 3) rfl; have e4 := (b1.step hwZ).cell' (i := 4) rfl; have e5 := (b1.step hwZ).cell' (i := 5) rfl; have e6 := (b1.step hwZ).cell' (i := 6) rfl; have e7 := (b1.step hwZ).cell' (i := 7) rfl; have e8 := (b1.step hwZ).cell' (i := 8) rfl; have e9 := (b1.step hwZ).cell' (i := 9) rfl; have hSx := hSw; (try dsimp only at hSw); go_simp; try rfl
      case' rc11 => try simp only [List.getElem_toArray, List.getElem_cons_succ, List.getElem_cons_zero, Act.put, List.setIfInBounds_toArray, List.set_cons_zero, List.set_cons_succ]
      refine walk_take 12 (v := ?vc12) rfl (by kernel_rfl) (by kernel_rfl) (by kernel_rfl) (fun _ _ _ h => h) (hSS) (Or.inl ⟨by rfl, ?yc12⟩) ?rc12
      case yc12 => intro w hSw; obtain hwZ := _root_.id hSw; have e0 := (b1.step hwZ).cell' (i := 0) rfl; have e1 := (b1.step hwZ).cell' (i := 1) rfl; have e2 := (b1.step hwZ).cell' (i := 2) rfl; have e3 := (b1.step hwZ).cell' (i := 3) rfl; have e4 := (b1.step hwZ).cell' (i := 4) rfl; have e5 := (b1.step hwZ).cell' (i := 5) rfl; have e6 := (b1.step hwZ).cell' (i := 6) rfl; have e7 := (b1.step hwZ).cell' (i := 7) rfl; have e8 := (b1.step hwZ).cell' (i := 8) rfl; have e9 := (b1.step hwZ).cell' (i := 9) rfl; have hSx := hSw; (try dsimp only at hSw); go_simp; try rfl
      case' rc12 => try simp only [List.getElem_toArray, List.getElem_cons_succ, List.getElem_cons_zero, Act.put, List.setIfInBounds_toArray, List.set_cons_zero, List.set_cons_succ]
      refine walk_step 13 rfl (by kernel_rfl) (by kernel_rfl) (fun K hK => ?c3)
      case c3 =>
        go_simp
        refine (CB.out _).mono ?_
        rintro e v1 ⟨rfl, hb⟩
        have hX1 := hSS.trans (hb.mono hSS.size)
        refine hK _ _ hX1 ?_
        clear hK K hb CB
        try simp only [List.getElem_toArray, List.getElem_cons_succ, List.getElem_cons_zero, Act.put, List.setIfInBounds_toArray, List.set_cons_zero, List.set_cons_succ]
        refine walk_step 14 rfl (by kernel_rfl) (by kernel_rfl) (fun K hK => ?c4)
        case c4 =>
          go_simp
          refine (CA.out _).mono ?_
          rintro e v2 ⟨rfl, hb⟩
          have hX2 := hX1.trans (hb.mono hX1.size)
          refine hK _ _ hX2 ?_
          clear hK K hb CA
          try simp only [List.getElem_toArray, List.getElem_cons_succ, List.getElem_cons_zero, Act.put, List.setIfInBounds_toArray, List.set_cons_zero, List.set_cons_succ]
          refine walk_take 15 (v := ?vd15) rfl (by kernel_rfl) (by kernel_rfl) (by kernel_rfl) (fun _ _ _ h => h) (hX2) (Or.inl ⟨by rfl, ?yd15⟩) ?rd15
          case yd15 => intro w hSw; (try dsimp only at hSw); go_simp; try rfl
          case' rd15 => try simp only [List.getElem_toArray, List.getElem_cons_succ, List.getElem_cons_zero, Act.put, List.setIfInBounds_toArray, List.set_cons_zero, List.set_cons_succ]
          refine walk_tail (by kernel_rfl) ?_
          simp only [List.drop_succ_cons, List.drop_zero]
          replace b1 := b1.step hX2
          have hB2 := hB.trans (hX2.mono hB.size)
          clear hX0 hSS hX1 hX2 hB
          cases r
          · have hno : noteOk (⟨3, id, name, size, sum, at_, data, gaps, of_, code⟩ : Nt) = false := note_bare HR.out
            have HNO := Lib.hid hno
            clear hno
            go_wp2_with fail
            go_ret
            exact ⟨by rw [HNO.out]; rfl, hB2⟩
          have x0 := b1.cell' (i := 0) rfl
          have x3 := b1.cell' (i := 3) rfl
          have x4 := b1.cell' (i := 4) rfl
          cases h1 : rngOk size 0 65536
          · have hno : noteOk (⟨3, id, name, size, sum, at_, data, gaps, of_, code⟩ : Nt) = false := note_kind (by simp [kindOk, h1])
            have H1 := Lib.hid h1
            clear h1
            have HNO := Lib.hid hno
            clear hno
            go_wp2_with (first
            | (go_at_call 81; refine Calls.mono (by first | exact din_is _ _ _ _ _ H1) ?_; rintro e w1 ⟨rfl, rfl⟩))
            go_ret
            exact ⟨by rw [HNO.out]; rfl, hB2⟩
          have H1 := Lib.hid h1
          clear h1
          cases h2 : rngOk sum 0 4294967295
          · have hno : noteOk (⟨3, id, name, size, sum, at_, data, gaps, of_, code⟩ : Nt) = false := note_kind (by simp [kindOk, h2])
            have H2 := Lib.hid h2
            clear h2
            have HNO := Lib.hid hno
            clear hno
            go_wp2_with (first
            | (go_at_call 81; refine Calls.mono (by first | exact din_is _ _ _ _ _ H1 | exact din_is _ _ _ _ _ H2) ?_; rintro e w1 ⟨rfl, rfl⟩))
            go_ret
            exact ⟨by rw [HNO.out]; rfl, hB2⟩
          have hno : noteOk (⟨3, id, name, size, sum, at_, data, gaps, of_, code⟩ : Nt) = true := note_all rfl H0.out HR.out (by simp [kindOk, H1.out, h2])
          have H2 := Lib.hid h2
          clear h2
          have HNO := Lib.hid hno
          clear hno
          go_wp2_with (first
            | (go_at_call 81; refine Calls.mono (by first | exact din_is _ _ _ _ _ H1 | exact din_is _ _ _ _ _ H2) ?_; rintro e w1 ⟨rfl, rfl⟩))
          go_ret
          exact ⟨by rw [HNO.out]; rfl, hB2⟩
set_option maxHeartbeats 6400000 in
set_option maxRecDepth 100000 in
theorem may_5 (id : Int) (name : ByteArray) (size sum at_ : Int) (data : List UInt8) (gaps : List (Int × Int)) (of_ code : Int) (D : Option Addr) (dn dc : Nat) (G : Option Addr) (gn gc : Nat) (w : World) (hid : rngOk id 0 65535 = true) (hd : data.length = dn) (hg : gaps.length = gn) :
    Calls Try.prog 40 #[ntv (⟨5, id, name, size, sum, at_, data, gaps, of_, code⟩ : Nt) D dn dc G gn gc] w fun e w' => e = .returned (.bool (noteOk (⟨5, id, name, size, sum, at_, data, gaps, of_, code⟩ : Nt))) ∧ Below w.heap.size w w' := by
  unfold ntv
  dsimp only
  have H0 := Lib.hid hid
  have HK : Hid (rngOk 5 1 6 = true) := Lib.hid rfl
  obtain ⟨r, hr⟩ : ∃ r, bareOk (⟨5, id, name, size, sum, at_, data, gaps, of_, code⟩ : Nt) = r := ⟨_, rfl⟩
  have CB := Lib.hid (fun V => bare_5 id name size sum at_ of_ code D dn dc G gn gc V)
  have CA := Lib.hid (fun V => alike_5 id name size sum at_ data gaps of_ code D dn dc G gn gc V hd hg)
  simp only [hr] at CA
  have HR := Lib.hid hr
  have HD := Lib.hid hd
  have HGN := Lib.hid hg
  clear hr hd hg hid
  obtain ⟨ln, hln⟩ : ∃ ln : Int, (name.size : Int) = ln := ⟨_, rfl⟩
  have HLN := Lib.hid hln
  have b1 := Blk.new w 27 #[.int .i64 5, .int .i64 id, .string name, .int .i64 size, .int .i64 sum, .int .i64 at_, .slice D dn dc, .slice G gn gc, .int .i64 of_, .int .i64 code]
  have hB : Below w.heap.size w (w.alloc (.cells #[.int .i64 5, .int .i64 id, .string name, .int .i64 size, .int .i64 sum, .int .i64 at_, .slice D dn dc, .slice G gn gc, .int .i64 of_, .int .i64 code] 27)) := (Below.refl _ _).alloc (Nat.le_refl _) _
  go_enter Try.func40, Try.ntmps40
  go_upto_region 1 with fail
  generalize w.alloc (.cells #[.int .i64 5, .int .i64 id, .string name, .int .i64 size, .int .i64 sum, .int .i64 at_, .slice D dn dc, .slice G gn gc, .int .i64 of_, .int .i64 code] 27) = W at *
  have hX0 : Below W.heap.size W W.drew := (Below.refl _ _).drew
  refine heldRegion (fun v => Below W.heap.size W v) 16 (by kernel_rfl) (by kernel_rfl) hX0 (fun hSS => ?_)
  generalize W.drew = V at *
  refine walk_take 0 (v := ?va0) rfl (by kernel_rfl) (by kernel_rfl) (by kernel_rfl) (fun _ _ _ h => h) (hSS) (Or.inl ⟨by rfl, ?ya0⟩) ?ra0
  case ya0 => intro w hSw; obtain hwZ := _root_.id hSw; have e0 := (b1.step hwZ).cell' (i := 0) rfl; have e1 := (b1.step hwZ).cell' (i := 1) rfl; have hSx := hSw; (try dsimp only at hSw); go_simp; try rfl
  case' ra0 => try simp only [List.getElem_toArray, List.getElem_cons_succ, List.getElem_cons_zero, Act.put, List.setIfInBounds_toArray, List.set_cons_zero, List.set_cons_succ]
  refine walk_take 1 (v := ?va1) rfl (by kernel_rfl) (by kernel_rfl) (by kernel_rfl) (fun _ _ _ h => h) (hSS) (Or.inl ⟨by rfl, ?ya1⟩) ?ra1
  case ya1 => intro w hSw; obtain hwZ := _root_.id hSw; have e0 := (b1.step hwZ).cell' (i := 0) rfl; have e1 := (b1.step hwZ).cell' (i := 1) rfl; have hSx := hSw; (try dsimp only at hSw); go_simp; try rfl
  case' ra1 => try simp only [List.getElem_toArray, List.getElem_cons_succ, List.getElem_cons_zero, Act.put, List.setIfInBounds_toArray, List.set_cons_zero, List.set_cons_succ]
  refine walk_step 2 rfl (by kernel_rfl) (by kernel_rfl) (fun K hK => ?c1)
  case c1 =>
    go_simp
    refine (din_is _ _ _ _ _ HK).mono ?_
    rintro e _ ⟨rfl, rfl⟩
    refine hK _ _ hSS ?_
    clear hK K
    try simp only [List.getElem_toArray, List.getElem_cons_succ, List.getElem_cons_zero, Act.put, List.setIfInBounds_toArray, List.set_cons_zero, List.set_cons_succ]
    refine walk_take 3 (v := ?vb3) rfl (by kernel_rfl) (by kernel_rfl) (by kernel_rfl) (fun _ _ _ h => h) (hSS) (Or.inl ⟨by rfl, ?yb3⟩) ?rb3
    case yb3 => intro w hSw; obtain hwZ := _root_.id hSw; have e0 := (b1.step hwZ).cell' (i := 0) rfl; have e1 := (b1.step hwZ).cell' (i := 1) rfl; have hSx := hSw; (try dsimp only at hSw); go_simp; try rfl
    case' rb3 => try simp only [List.getElem_toArray, List.getElem_cons_succ, List.getElem_cons_zero, Act.put, List.setIfInBounds_toArray, List.set_cons_zero, List.set_cons_succ]
    refine walk_take 4 (v := ?vb4) rfl (by kernel_rfl) (by kernel_rfl) (by kernel_rfl) (fun _ _ _ h => h) (hSS) (Or.inl ⟨by rfl, ?yb4⟩) ?rb4
    case yb4 => intro w hSw; obtain hwZ := _root_.id hSw; have e0 := (b1.step hwZ).cell' (i := 0) rfl; have e1 := (b1.step hwZ).cell' (i := 1) rfl; have hSx := hSw; (try dsimp only at hSw); go_simp; try rfl
    case' rb4 => try simp only [List.getElem_toArray, List.getElem_cons_succ, List.getElem_cons_zero, Act.put, List.setIfInBounds_toArray, List.set_cons_zero, List.set_cons_succ]
    refine walk_take 5 (v := ?vb5) rfl (by kernel_rfl) (by kernel_rfl) (by kernel_rfl) (fun _ _ _ h => h) (hSS) (Or.inl ⟨by rfl, ?yb5⟩) ?rb5
    case yb5 => intro w hSw; obtain hwZ := _root_.id hSw; have e0 := (b1.step hwZ).cell' (i := 0) rfl; have e1 := (b1.step hwZ).cell' (i := 1) rfl; have hSx := hSw; (try dsimp only at hSw); go_simp; try rfl
    case' rb5 => try simp only [List.getElem_toArray, List.getElem_cons_succ, List.getElem_cons_zero, Act.put, List.setIfInBounds_toArray, List.set_cons_zero, List.set_cons_succ]
    refine walk_take 6 (v := ?vb6) rfl (by kernel_rfl) (by kernel_rfl) (by kernel_rfl) (fun _ _ _ h => h) (hSS) (Or.inl ⟨by rfl, ?yb6⟩) ?rb6
    case yb6 => intro w hSw; obtain hwZ := _root_.id hSw; have e0 := (b1.step hwZ).cell' (i := 0) rfl; have e1 := (b1.step hwZ).cell' (i := 1) rfl; have hSx := hSw; (try dsimp only at hSw); go_simp; try rfl
    case' rb6 => try simp only [List.getElem_toArray, List.getElem_cons_succ, List.getElem_cons_zero, Act.put, List.setIfInBounds_toArray, List.set_cons_zero, List.set_cons_succ]
    refine walk_step 7 rfl (by kernel_rfl) (by kernel_rfl) (fun K hK => ?c2)
    case c2 =>
      go_simp
      refine (din_is _ _ _ _ _ H0).mono ?_
      rintro e _ ⟨rfl, rfl⟩
      refine hK _ _ hSS ?_
      clear hK K
      try simp only [List.getElem_toArray, List.getElem_cons_succ, List.getElem_cons_zero, Act.put, List.setIfInBounds_toArray, List.set_cons_zero, List.set_cons_succ]
      refine walk_take 8 (v := ?vc8) rfl (by kernel_rfl) (by kernel_rfl) (by kernel_rfl) (fun _ _ _ h => h) (hSS) (Or.inl ⟨by rfl, ?yc8⟩) ?rc8
      case yc8 => intro w hSw; obtain hwZ := _root_.id hSw; have e0 := (b1.step hwZ).cell' (i := 0) rfl; have e1 := (b1.step hwZ).cell' (i := 1) rfl; have e2 := (b1.step hwZ).cell' (i := 2) rfl; have e3 := (b1.step hwZ).cell' (i := 3) rfl; have e4 := (b1.step hwZ).cell' (i := 4) rfl; have e5 := (b1.step hwZ).cell' (i := 5) rfl; have e6 := (b1.step hwZ).cell' (i := 6) rfl; have e7 := (b1.step hwZ).cell' (i := 7) rfl; have e8 := (b1.step hwZ).cell' (i := 8) rfl; have e9 := (b1.step hwZ).cell' (i := 9) rfl; have hSx := hSw; (try dsimp only at hSw); go_simp; try rfl
      case' rc8 => try simp only [List.getElem_toArray, List.getElem_cons_succ, List.getElem_cons_zero, Act.put, List.setIfInBounds_toArray, List.set_cons_zero, List.set_cons_succ]
      refine walk_take 9 (v := ?vc9) rfl (by kernel_rfl) (by kernel_rfl) (by kernel_rfl) (fun _ _ _ h => h) (hSS) (Or.inl ⟨by rfl, ?yc9⟩) ?rc9
      case yc9 => intro w hSw; obtain hwZ := _root_.id hSw; have e0 := (b1.step hwZ).cell' (i := 0) rfl; have e1 := (b1.step hwZ).cell' (i := 1) rfl; have e2 := (b1.step hwZ).cell' (i := 2) rfl; have e3 := (b1.step hwZ).cell' (i := 3) rfl; have e4 := (b1.step hwZ).cell' (i := 4) rfl; have e5 := (b1.step hwZ).cell' (i := 5) rfl; have e6 := (b1.step hwZ).cell' (i := 6) rfl; have e7 := (b1.step hwZ).cell' (i := 7) rfl; have e8 := (b1.step hwZ).cell' (i := 8) rfl; have e9 := (b1.step hwZ).cell' (i := 9) rfl; have hSx := hSw; (try dsimp only at hSw); go_simp; try rfl
      case' rc9 => try simp only [List.getElem_toArray, List.getElem_cons_succ, List.getElem_cons_zero, Act.put, List.setIfInBounds_toArray, List.set_cons_zero, List.set_cons_succ]
      refine walk_take 10 (v := ?vc10) rfl (by kernel_rfl) (by kernel_rfl) (by kernel_rfl) (fun _ _ _ h => h) (hSS) (Or.inl ⟨by rfl, ?yc10⟩) ?rc10
      case yc10 => intro w hSw; obtain hwZ := _root_.id hSw; have e0 := (b1.step hwZ).cell' (i := 0) rfl; have e1 := (b1.step hwZ).cell' (i := 1) rfl; have e2 := (b1.step hwZ).cell' (i := 2) rfl; have e3 := (b1.step hwZ).cell' (i := 3) rfl; have e4 := (b1.step hwZ).cell' (i := 4) rfl; have e5 := (b1.step hwZ).cell' (i := 5) rfl; have e6 := (b1.step hwZ).cell' (i := 6) rfl; have e7 := (b1.step hwZ).cell' (i := 7) rfl; have e8 := (b1.step hwZ).cell' (i := 8) rfl; have e9 := (b1.step hwZ).cell' (i := 9) rfl; have hSx := hSw; (try dsimp only at hSw); go_simp; try rfl
      case' rc10 => try simp only [List.getElem_toArray, List.getElem_cons_succ, List.getElem_cons_zero, Act.put, List.setIfInBounds_toArray, List.set_cons_zero, List.set_cons_succ]
      refine walk_take 11 (v := ?vc11) rfl (by kernel_rfl) (by kernel_rfl) (by kernel_rfl) (fun _ _ _ h => h) (hSS) (Or.inl ⟨by rfl, ?yc11⟩) ?rc11
      case yc11 => intro w hSw; obtain hwZ := _root_.id hSw; have e0 := (b1.step hwZ).cell' (i := 0) rfl; have e1 := (b1.step hwZ).cell' (i := 1) rfl; have e2 := (b1.step hwZ).cell' (i := 2) rfl; have e3 := (b1.step hwZ).cell' (i := 3) rfl; have e4 := (b1.step hwZ).cell' (i := 4) rfl; have e5 := (b1.step hwZ).cell' (i := 5) rfl; have e6 := (b1.step hwZ).cell' (i := 6) rfl; have e7 := (b1.step hwZ).cell' (i := 7) rfl; have e8 := (b1.step hwZ).cell' (i := 8) rfl; have e9 := (b1.step hwZ).cell' (i := 9) rfl; have hSx := hSw; (try dsimp only at hSw); go_simp; try rfl
      case' rc11 => try simp only [List.getElem_toArray, List.getElem_cons_succ, List.getElem_cons_zero, Act.put, List.setIfInBounds_toArray, List.set_cons_zero, List.set_cons_succ]
      refine walk_take 12 (v := ?vc12) rfl (by kernel_rfl) (by kernel_rfl) (by kernel_rfl) (fun _ _ _ h => h) (hSS) (Or.inl ⟨by rfl, ?yc12⟩) ?rc12
      case yc12 => intro w hSw; obtain hwZ := _root_.id hSw; have e0 := (b1.step hwZ).cell' (i := 0) rfl; have e1 := (b1.step hwZ).cell' (i := 1) rfl; have e2 := (b1.step hwZ).cell' (i := 2) rfl; have e3 := (b1.step hwZ).cell' (i := 3) rfl; have e4 := (b1.step hwZ).cell' (i := 4) rfl; have e5 := (b1.step hwZ).cell' (i := 5) rfl; have e6 := (b1.step hwZ).cell' (i := 6) rfl; have e7 := (b1.step hwZ).cell' (i := 7) rfl; have e8 := (b1.step hwZ).cell' (i := 8) rfl; have e9 := (b1.step hwZ).cell' (i := 9) rfl; have hSx := hSw; (try dsimp only at hSw); go_simp; try rfl
      case' rc12 => try simp only [List.getElem_toArray, List.getElem_cons_succ, List.getElem_cons_zero, Act.put, List.setIfInBounds_toArray, List.set_cons_zero, List.set_cons_succ]
      refine walk_step 13 rfl (by kernel_rfl) (by kernel_rfl) (fun K hK => ?c3)
      case c3 =>
        go_simp
        refine (CB.out _).mono ?_
        rintro e v1 ⟨rfl, hb⟩
        have hX1 := hSS.trans (hb.mono hSS.size)
        refine hK _ _ hX1 ?_
        clear hK K hb CB
        try simp only [List.getElem_toArray, List.getElem_cons_succ, List.getElem_cons_zero, Act.put, List.setIfInBounds_toArray, List.set_cons_zero, List.set_cons_succ]
        refine walk_step 14 rfl (by kernel_rfl) (by kernel_rfl) (fun K hK => ?c4)
        case c4 =>
          go_simp
          refine (CA.out _).mono ?_
          rintro e v2 ⟨rfl, hb⟩
          have hX2 := hX1.trans (hb.mono hX1.size)
          refine hK _ _ hX2 ?_
          clear hK K hb CA
          try simp only [List.getElem_toArray, List.getElem_cons_succ, List.getElem_cons_zero, Act.put, List.setIfInBounds_toArray, List.set_cons_zero, List.set_cons_succ]
          refine walk_take 15 (v := ?vd15) rfl (by kernel_rfl) (by kernel_rfl) (by kernel_rfl) (fun _ _ _ h => h) (hX2) (Or.inl ⟨by rfl, ?yd15⟩) ?rd15
          case yd15 => intro w hSw; (try dsimp only at hSw); go_simp; try rfl
          case' rd15 => try simp only [List.getElem_toArray, List.getElem_cons_succ, List.getElem_cons_zero, Act.put, List.setIfInBounds_toArray, List.set_cons_zero, List.set_cons_succ]
          refine walk_tail (by kernel_rfl) ?_
          simp only [List.drop_succ_cons, List.drop_zero]
          replace b1 := b1.step hX2
          have hB2 := hB.trans (hX2.mono hB.size)
          clear hX0 hSS hX1 hX2 hB
          cases r
          · have hno : noteOk (⟨5, id, name, size, sum, at_, data, gaps, of_, code⟩ : Nt) = false := note_bare HR.out
            have HNO := Lib.hid hno
            clear hno
            go_wp2_with fail
            go_ret
            exact ⟨by rw [HNO.out]; rfl, hB2⟩
          have x0 := b1.cell' (i := 0) rfl
          have x9 := b1.cell' (i := 9) rfl
          by_cases d0 : code = 0
          · have hno : noteOk (⟨5, id, name, size, sum, at_, data, gaps, of_, code⟩ : Nt) = true := note_all rfl H0.out HR.out (by simp [kindOk, d0])
            have j0 : (code == 0) = true := by rw [beq_iff_eq]; exact d0
            clear d0
            have HNO := Lib.hid hno
            clear hno
            go_wp2_with fail
            go_ret
            exact ⟨by rw [HNO.out]; rfl, hB2⟩
          have j0 : (code == 0) = false := by rw [beq_eq_false_iff_ne]; exact d0
          by_cases d9 : code = 9
          · have hno : noteOk (⟨5, id, name, size, sum, at_, data, gaps, of_, code⟩ : Nt) = true := note_all rfl H0.out HR.out (by simp [kindOk, d9])
            have j9 : (code == 9) = true := by rw [beq_iff_eq]; exact d9
            clear d0 d9
            have HNO := Lib.hid hno
            clear hno
            go_wp2_with fail
            go_ret
            exact ⟨by rw [HNO.out]; rfl, hB2⟩
          have hno : noteOk (⟨5, id, name, size, sum, at_, data, gaps, of_, code⟩ : Nt) = false := note_kind (by simp [kindOk, d0, d9])
          have j9 : (code == 9) = false := by rw [beq_eq_false_iff_ne]; exact d9
          clear d0 d9
          have HNO := Lib.hid hno
          clear hno
          go_wp2_with fail
          go_ret
          exact ⟨by rw [HNO.out]; rfl, hB2⟩
set_option maxHeartbeats 6400000 in
set_option maxRecDepth 100000 in
theorem may_6 (id : Int) (name : ByteArray) (size sum at_ : Int) (data : List UInt8) (gaps : List (Int × Int)) (of_ code : Int) (D : Option Addr) (dn dc : Nat) (G : Option Addr) (gn gc : Nat) (w : World) (hid : rngOk id 0 65535 = true) (hd : data.length = dn) (hg : gaps.length = gn) :
    Calls Try.prog 40 #[ntv (⟨6, id, name, size, sum, at_, data, gaps, of_, code⟩ : Nt) D dn dc G gn gc] w fun e w' => e = .returned (.bool (noteOk (⟨6, id, name, size, sum, at_, data, gaps, of_, code⟩ : Nt))) ∧ Below w.heap.size w w' := by
  unfold ntv
  dsimp only
  have H0 := Lib.hid hid
  have HK : Hid (rngOk 6 1 6 = true) := Lib.hid rfl
  obtain ⟨r, hr⟩ : ∃ r, bareOk (⟨6, id, name, size, sum, at_, data, gaps, of_, code⟩ : Nt) = r := ⟨_, rfl⟩
  have CB := Lib.hid (fun V => bare_6 id name size sum at_ of_ code D dn dc G gn gc V)
  have CA := Lib.hid (fun V => alike_6 id name size sum at_ data gaps of_ code D dn dc G gn gc V hd hg)
  simp only [hr] at CA
  have HR := Lib.hid hr
  have HD := Lib.hid hd
  have HGN := Lib.hid hg
  clear hr hd hg hid
  obtain ⟨ln, hln⟩ : ∃ ln : Int, (name.size : Int) = ln := ⟨_, rfl⟩
  have HLN := Lib.hid hln
  have b1 := Blk.new w 27 #[.int .i64 6, .int .i64 id, .string name, .int .i64 size, .int .i64 sum, .int .i64 at_, .slice D dn dc, .slice G gn gc, .int .i64 of_, .int .i64 code]
  have hB : Below w.heap.size w (w.alloc (.cells #[.int .i64 6, .int .i64 id, .string name, .int .i64 size, .int .i64 sum, .int .i64 at_, .slice D dn dc, .slice G gn gc, .int .i64 of_, .int .i64 code] 27)) := (Below.refl _ _).alloc (Nat.le_refl _) _
  go_enter Try.func40, Try.ntmps40
  go_upto_region 1 with fail
  generalize w.alloc (.cells #[.int .i64 6, .int .i64 id, .string name, .int .i64 size, .int .i64 sum, .int .i64 at_, .slice D dn dc, .slice G gn gc, .int .i64 of_, .int .i64 code] 27) = W at *
  have hX0 : Below W.heap.size W W.drew := (Below.refl _ _).drew
  refine heldRegion (fun v => Below W.heap.size W v) 16 (by kernel_rfl) (by kernel_rfl) hX0 (fun hSS => ?_)
  generalize W.drew = V at *
  refine walk_take 0 (v := ?va0) rfl (by kernel_rfl) (by kernel_rfl) (by kernel_rfl) (fun _ _ _ h => h) (hSS) (Or.inl ⟨by rfl, ?ya0⟩) ?ra0
  case ya0 => intro w hSw; obtain hwZ := _root_.id hSw; have e0 := (b1.step hwZ).cell' (i := 0) rfl; have e1 := (b1.step hwZ).cell' (i := 1) rfl; have hSx := hSw; (try dsimp only at hSw); go_simp; try rfl
  case' ra0 => try simp only [List.getElem_toArray, List.getElem_cons_succ, List.getElem_cons_zero, Act.put, List.setIfInBounds_toArray, List.set_cons_zero, List.set_cons_succ]
  refine walk_take 1 (v := ?va1) rfl (by kernel_rfl) (by kernel_rfl) (by kernel_rfl) (fun _ _ _ h => h) (hSS) (Or.inl ⟨by rfl, ?ya1⟩) ?ra1
  case ya1 => intro w hSw; obtain hwZ := _root_.id hSw; have e0 := (b1.step hwZ).cell' (i := 0) rfl; have e1 := (b1.step hwZ).cell' (i := 1) rfl; have hSx := hSw; (try dsimp only at hSw); go_simp; try rfl
  case' ra1 => try simp only [List.getElem_toArray, List.getElem_cons_succ, List.getElem_cons_zero, Act.put, List.setIfInBounds_toArray, List.set_cons_zero, List.set_cons_succ]
  refine walk_step 2 rfl (by kernel_rfl) (by kernel_rfl) (fun K hK => ?c1)
  case c1 =>
    go_simp
    refine (din_is _ _ _ _ _ HK).mono ?_
    rintro e _ ⟨rfl, rfl⟩
    refine hK _ _ hSS ?_
    clear hK K
    try simp only [List.getElem_toArray, List.getElem_cons_succ, List.getElem_cons_zero, Act.put, List.setIfInBounds_toArray, List.set_cons_zero, List.set_cons_succ]
    refine walk_take 3 (v := ?vb3) rfl (by kernel_rfl) (by kernel_rfl) (by kernel_rfl) (fun _ _ _ h => h) (hSS) (Or.inl ⟨by rfl, ?yb3⟩) ?rb3
    case yb3 => intro w hSw; obtain hwZ := _root_.id hSw; have e0 := (b1.step hwZ).cell' (i := 0) rfl; have e1 := (b1.step hwZ).cell' (i := 1) rfl; have hSx := hSw; (try dsimp only at hSw); go_simp; try rfl
    case' rb3 => try simp only [List.getElem_toArray, List.getElem_cons_succ, List.getElem_cons_zero, Act.put, List.setIfInBounds_toArray, List.set_cons_zero, List.set_cons_succ]
    refine walk_take 4 (v := ?vb4) rfl (by kernel_rfl) (by kernel_rfl) (by kernel_rfl) (fun _ _ _ h => h) (hSS) (Or.inl ⟨by rfl, ?yb4⟩) ?rb4
    case yb4 => intro w hSw; obtain hwZ := _root_.id hSw; have e0 := (b1.step hwZ).cell' (i := 0) rfl; have e1 := (b1.step hwZ).cell' (i := 1) rfl; have hSx := hSw; (try dsimp only at hSw); go_simp; try rfl
    case' rb4 => try simp only [List.getElem_toArray, List.getElem_cons_succ, List.getElem_cons_zero, Act.put, List.setIfInBounds_toArray, List.set_cons_zero, List.set_cons_succ]
    refine walk_take 5 (v := ?vb5) rfl (by kernel_rfl) (by kernel_rfl) (by kernel_rfl) (fun _ _ _ h => h) (hSS) (Or.inl ⟨by rfl, ?yb5⟩) ?rb5
    case yb5 => intro w hSw; obtain hwZ := _root_.id hSw; have e0 := (b1.step hwZ).cell' (i := 0) rfl; have e1 := (b1.step hwZ).cell' (i := 1) rfl; have hSx := hSw; (try dsimp only at hSw); go_simp; try rfl
    case' rb5 => try simp only [List.getElem_toArray, List.getElem_cons_succ, List.getElem_cons_zero, Act.put, List.setIfInBounds_toArray, List.set_cons_zero, List.set_cons_succ]
    refine walk_take 6 (v := ?vb6) rfl (by kernel_rfl) (by kernel_rfl) (by kernel_rfl) (fun _ _ _ h => h) (hSS) (Or.inl ⟨by rfl, ?yb6⟩) ?rb6
    case yb6 => intro w hSw; obtain hwZ := _root_.id hSw; have e0 := (b1.step hwZ).cell' (i := 0) rfl; have e1 := (b1.step hwZ).cell' (i := 1) rfl; have hSx := hSw; (try dsimp only at hSw); go_simp; try rfl
    case' rb6 => try simp only [List.getElem_toArray, List.getElem_cons_succ, List.getElem_cons_zero, Act.put, List.setIfInBounds_toArray, List.set_cons_zero, List.set_cons_succ]
    refine walk_step 7 rfl (by kernel_rfl) (by kernel_rfl) (fun K hK => ?c2)
    case c2 =>
      go_simp
      refine (din_is _ _ _ _ _ H0).mono ?_
      rintro e _ ⟨rfl, rfl⟩
      refine hK _ _ hSS ?_
      clear hK K
      try simp only [List.getElem_toArray, List.getElem_cons_succ, List.getElem_cons_zero, Act.put, List.setIfInBounds_toArray, List.set_cons_zero, List.set_cons_succ]
      refine walk_take 8 (v := ?vc8) rfl (by kernel_rfl) (by kernel_rfl) (by kernel_rfl) (fun _ _ _ h => h) (hSS) (Or.inl ⟨by rfl, ?yc8⟩) ?rc8
      case yc8 => intro w hSw; obtain hwZ := _root_.id hSw; have e0 := (b1.step hwZ).cell' (i := 0) rfl; have e1 := (b1.step hwZ).cell' (i := 1) rfl; have e2 := (b1.step hwZ).cell' (i := 2) rfl; have e3 := (b1.step hwZ).cell' (i := 3) rfl; have e4 := (b1.step hwZ).cell' (i := 4) rfl; have e5 := (b1.step hwZ).cell' (i := 5) rfl; have e6 := (b1.step hwZ).cell' (i := 6) rfl; have e7 := (b1.step hwZ).cell' (i := 7) rfl; have e8 := (b1.step hwZ).cell' (i := 8) rfl; have e9 := (b1.step hwZ).cell' (i := 9) rfl; have hSx := hSw; (try dsimp only at hSw); go_simp; try rfl
      case' rc8 => try simp only [List.getElem_toArray, List.getElem_cons_succ, List.getElem_cons_zero, Act.put, List.setIfInBounds_toArray, List.set_cons_zero, List.set_cons_succ]
      refine walk_take 9 (v := ?vc9) rfl (by kernel_rfl) (by kernel_rfl) (by kernel_rfl) (fun _ _ _ h => h) (hSS) (Or.inl ⟨by rfl, ?yc9⟩) ?rc9
      case yc9 => intro w hSw; obtain hwZ := _root_.id hSw; have e0 := (b1.step hwZ).cell' (i := 0) rfl; have e1 := (b1.step hwZ).cell' (i := 1) rfl; have e2 := (b1.step hwZ).cell' (i := 2) rfl; have e3 := (b1.step hwZ).cell' (i := 3) rfl; have e4 := (b1.step hwZ).cell' (i := 4) rfl; have e5 := (b1.step hwZ).cell' (i := 5) rfl; have e6 := (b1.step hwZ).cell' (i := 6) rfl; have e7 := (b1.step hwZ).cell' (i := 7) rfl; have e8 := (b1.step hwZ).cell' (i := 8) rfl; have e9 := (b1.step hwZ).cell' (i := 9) rfl; have hSx := hSw; (try dsimp only at hSw); go_simp; try rfl
      case' rc9 => try simp only [List.getElem_toArray, List.getElem_cons_succ, List.getElem_cons_zero, Act.put, List.setIfInBounds_toArray, List.set_cons_zero, List.set_cons_succ]
      refine walk_take 10 (v := ?vc10) rfl (by kernel_rfl) (by kernel_rfl) (by kernel_rfl) (fun _ _ _ h => h) (hSS) (Or.inl ⟨by rfl, ?yc10⟩) ?rc10
      case yc10 => intro w hSw; obtain hwZ := _root_.id hSw; have e0 := (b1.step hwZ).cell' (i := 0) rfl; have e1 := (b1.step hwZ).cell' (i := 1) rfl; have e2 := (b1.step hwZ).cell' (i := 2) rfl; have e3 := (b1.step hwZ).cell' (i := 3) rfl; have e4 := (b1.step hwZ).cell' (i := 4) rfl; have e5 := (b1.step hwZ).cell' (i := 5) rfl; have e6 := (b1.step hwZ).cell' (i := 6) rfl; have e7 := (b1.step hwZ).cell' (i := 7) rfl; have e8 := (b1.step hwZ).cell' (i := 8) rfl; have e9 := (b1.step hwZ).cell' (i := 9) rfl; have hSx := hSw; (try dsimp only at hSw); go_simp; try rfl
      case' rc10 => try simp only [List.getElem_toArray, List.getElem_cons_succ, List.getElem_cons_zero, Act.put, List.setIfInBounds_toArray, List.set_cons_zero, List.set_cons_succ]
      refine walk_take 11 (v := ?vc11) rfl (by kernel_rfl) (by kernel_rfl) (by kernel_rfl) (fun _ _ _ h => h) (hSS) (Or.inl ⟨by rfl, ?yc11⟩) ?rc11
      case yc11 => intro w hSw; obtain hwZ := _root_.id hSw; have e0 := (b1.step hwZ).cell' (i := 0) rfl; have e1 := (b1.step hwZ).cell' (i := 1) rfl; have e2 := (b1.step hwZ).cell' (i := 2) rfl; have e3 := (b1.step hwZ).cell' (i := 3) rfl; have e4 := (b1.step hwZ).cell' (i := 4) rfl; have e5 := (b1.step hwZ).cell' (i := 5) rfl; have e6 := (b1.step hwZ).cell' (i := 6) rfl; have e7 := (b1.step hwZ).cell' (i := 7) rfl; have e8 := (b1.step hwZ).cell' (i := 8) rfl; have e9 := (b1.step hwZ).cell' (i := 9) rfl; have hSx := hSw; (try dsimp only at hSw); go_simp; try rfl
      case' rc11 => try simp only [List.getElem_toArray, List.getElem_cons_succ, List.getElem_cons_zero, Act.put, List.setIfInBounds_toArray, List.set_cons_zero, List.set_cons_succ]
      refine walk_take 12 (v := ?vc12) rfl (by kernel_rfl) (by kernel_rfl) (by kernel_rfl) (fun _ _ _ h => h) (hSS) (Or.inl ⟨by rfl, ?yc12⟩) ?rc12
      case yc12 => intro w hSw; obtain hwZ := _root_.id hSw; have e0 := (b1.step hwZ).cell' (i := 0) rfl; have e1 := (b1.step hwZ).cell' (i := 1) rfl; have e2 := (b1.step hwZ).cell' (i := 2) rfl; have e3 := (b1.step hwZ).cell' (i := 3) rfl; have e4 := (b1.step hwZ).cell' (i := 4) rfl; have e5 := (b1.step hwZ).cell' (i := 5) rfl; have e6 := (b1.step hwZ).cell' (i := 6) rfl; have e7 := (b1.step hwZ).cell' (i := 7) rfl; have e8 := (b1.step hwZ).cell' (i := 8) rfl; have e9 := (b1.step hwZ).cell' (i := 9) rfl; have hSx := hSw; (try dsimp only at hSw); go_simp; try rfl
      case' rc12 => try simp only [List.getElem_toArray, List.getElem_cons_succ, List.getElem_cons_zero, Act.put, List.setIfInBounds_toArray, List.set_cons_zero, List.set_cons_succ]
      refine walk_step 13 rfl (by kernel_rfl) (by kernel_rfl) (fun K hK => ?c3)
      case c3 =>
        go_simp
        refine (CB.out _).mono ?_
        rintro e v1 ⟨rfl, hb⟩
        have hX1 := hSS.trans (hb.mono hSS.size)
        refine hK _ _ hX1 ?_
        clear hK K hb CB
        try simp only [List.getElem_toArray, List.getElem_cons_succ, List.getElem_cons_zero, Act.put, List.setIfInBounds_toArray, List.set_cons_zero, List.set_cons_succ]
        refine walk_step 14 rfl (by kernel_rfl) (by kernel_rfl) (fun K hK => ?c4)
        case c4 =>
          go_simp
          refine (CA.out _).mono ?_
          rintro e v2 ⟨rfl, hb⟩
          have hX2 := hX1.trans (hb.mono hX1.size)
          refine hK _ _ hX2 ?_
          clear hK K hb CA
          try simp only [List.getElem_toArray, List.getElem_cons_succ, List.getElem_cons_zero, Act.put, List.setIfInBounds_toArray, List.set_cons_zero, List.set_cons_succ]
          refine walk_take 15 (v := ?vd15) rfl (by kernel_rfl) (by kernel_rfl) (by kernel_rfl) (fun _ _ _ h => h) (hX2) (Or.inl ⟨by rfl, ?yd15⟩) ?rd15
          case yd15 => intro w hSw; (try dsimp only at hSw); go_simp; try rfl
          case' rd15 => try simp only [List.getElem_toArray, List.getElem_cons_succ, List.getElem_cons_zero, Act.put, List.setIfInBounds_toArray, List.set_cons_zero, List.set_cons_succ]
          refine walk_tail (by kernel_rfl) ?_
          simp only [List.drop_succ_cons, List.drop_zero]
          replace b1 := b1.step hX2
          have hB2 := hB.trans (hX2.mono hB.size)
          clear hX0 hSS hX1 hX2 hB
          cases r
          · have hno : noteOk (⟨6, id, name, size, sum, at_, data, gaps, of_, code⟩ : Nt) = false := note_bare HR.out
            have HNO := Lib.hid hno
            clear hno
            go_wp2_with fail
            go_ret
            exact ⟨by rw [HNO.out]; rfl, hB2⟩
          have x0 := b1.cell' (i := 0) rfl
          have x8 := b1.cell' (i := 8) rfl
          by_cases d0 : of_ = 3
          · have hno : noteOk (⟨6, id, name, size, sum, at_, data, gaps, of_, code⟩ : Nt) = true := note_all rfl H0.out HR.out (by simp [kindOk, d0])
            have j0 : (of_ == 3) = true := by rw [beq_iff_eq]; exact d0
            clear d0
            have HNO := Lib.hid hno
            clear hno
            go_wp2_with fail
            go_ret
            exact ⟨by rw [HNO.out]; rfl, hB2⟩
          have j0 : (of_ == 3) = false := by rw [beq_eq_false_iff_ne]; exact d0
          by_cases d9 : of_ = 5
          · have hno : noteOk (⟨6, id, name, size, sum, at_, data, gaps, of_, code⟩ : Nt) = true := note_all rfl H0.out HR.out (by simp [kindOk, d9])
            have j9 : (of_ == 5) = true := by rw [beq_iff_eq]; exact d9
            clear d0 d9
            have HNO := Lib.hid hno
            clear hno
            go_wp2_with fail
            go_ret
            exact ⟨by rw [HNO.out]; rfl, hB2⟩
          have hno : noteOk (⟨6, id, name, size, sum, at_, data, gaps, of_, code⟩ : Nt) = false := note_kind (by simp [kindOk, d0, d9])
          have j9 : (of_ == 5) = false := by rw [beq_eq_false_iff_ne]; exact d9
          clear d0 d9
          have HNO := Lib.hid hno
          clear hno
          go_wp2_with fail
          go_ret
          exact ⟨by rw [HNO.out]; rfl, hB2⟩
end Go.Proofs.Ytianombjgdmbeaa
namespace Go.Proofs.Ytianombjgdmbeaa
set_option linter.unusedSimpArgs false
set_option linter.unusedVariables false
open Go.RowKit

set_option maxHeartbeats 1600000 in
set_option maxRecDepth 1000000 in
theorem spanMay_any (a b : Int) (w : World) : Calls Try.prog 85 #[.agg #[.int .i64 a, .int .i64 b], .int .i64 65536] w fun e w' => e = .returned (.bool (gapOk (a, b))) ∧ Below w.heap.size w w' := by
  have hB : ∀ o, Below w.heap.size w (w.alloc o) := fun o => (Below.refl _ _).alloc (Nat.le_refl _) _
  by_cases a0 : a = 0
  · have ia : (a == 0) = true := by rw [beq_iff_eq]; exact a0
    by_cases b0 : b = 0
    · have ib : (b == 0) = true := by rw [beq_iff_eq]; exact b0
      rw [gap_out (r := true) (by rw [decide_eq_true (⟨a0, b0⟩ : a = 0 ∧ b = 0)] <;> rfl)]
      have hE : ∀ w, (Op.equalIn 10000 108 (.agg #[.int .i64 a, .int .i64 b]) (.agg #[.int .i64 0, .int .i64 0])).run Try.prog w = .ok true w := fun w => by
        rw [eq_span, decide_eq_true a0, decide_eq_true b0]
        rfl
      clear a0 b0
      go_enter Try.func85, Try.ntmps85
      go_wp2_with fail
      go_ret
      exact ⟨rfl, hB _⟩
    · have ib : (b == 0) = false := by rw [beq_eq_false_iff_ne]; exact b0
      have p : 0 ≤ a := by omega
      have hE : ∀ w, (Op.equalIn 10000 108 (.agg #[.int .i64 a, .int .i64 b]) (.agg #[.int .i64 0, .int .i64 0])).run Try.prog w = .ok false w := fun w => by
        rw [eq_span, decide_eq_false b0]
        simp
      clear a0 ia
      by_cases q : a < b
      rotate_left
      · rw [gap_out (r := false) (by rw [decide_eq_false (by omega : ¬ (a = 0 ∧ b = 0)), decide_eq_false (by omega)] <;> rfl)]
        go_enter Try.func85, Try.ntmps85
        go_wp2_with fail
        go_ret
        exact ⟨rfl, hB _⟩
      by_cases r : b ≤ 65536
      rotate_left
      · rw [gap_out (r := false) (by rw [decide_eq_false (by omega : ¬ (a = 0 ∧ b = 0)), decide_eq_false (by omega)] <;> rfl)]
        go_enter Try.func85, Try.ntmps85
        go_wp2_with fail
        go_ret
        exact ⟨rfl, hB _⟩
      rw [gap_out (r := true) (by rw [decide_eq_false (by omega : ¬ (a = 0 ∧ b = 0)), decide_eq_true (by omega)] <;> rfl)]
      go_enter Try.func85, Try.ntmps85
      go_wp2_with fail
      go_ret
      exact ⟨rfl, hB _⟩
  · have ia : (a == 0) = false := by rw [beq_eq_false_iff_ne]; exact a0
    have hE : ∀ w, (Op.equalIn 10000 108 (.agg #[.int .i64 a, .int .i64 b]) (.agg #[.int .i64 0, .int .i64 0])).run Try.prog w = .ok false w := fun w => by
      rw [eq_span, decide_eq_false a0]
      rfl
    by_cases p : 0 ≤ a
    rotate_left
    · rw [gap_out (r := false) (by rw [decide_eq_false (by omega : ¬ (a = 0 ∧ b = 0)), decide_eq_false (by omega)] <;> rfl)]
      go_enter Try.func85, Try.ntmps85
      go_wp2_with fail
      go_ret
      exact ⟨rfl, hB _⟩
    by_cases q : a < b
    rotate_left
    · rw [gap_out (r := false) (by rw [decide_eq_false (by omega : ¬ (a = 0 ∧ b = 0)), decide_eq_false (by omega)] <;> rfl)]
      go_enter Try.func85, Try.ntmps85
      go_wp2_with fail
      go_ret
      exact ⟨rfl, hB _⟩
    by_cases r : b ≤ 65536
    rotate_left
    · rw [gap_out (r := false) (by rw [decide_eq_false (by omega : ¬ (a = 0 ∧ b = 0)), decide_eq_false (by omega)] <;> rfl)]
      go_enter Try.func85, Try.ntmps85
      go_wp2_with fail
      go_ret
      exact ⟨rfl, hB _⟩
    rw [gap_out (r := true) (by rw [decide_eq_false (by omega : ¬ (a = 0 ∧ b = 0)), decide_eq_true (by omega)] <;> rfl)]
    go_enter Try.func85, Try.ntmps85
    go_wp2_with fail
    go_ret
    exact ⟨rfl, hB _⟩
theorem odd_any (a b : Int) (w : World) : Calls Try.prog 84 #[.agg #[.int .i64 a, .int .i64 b]] w fun e w' => e = .returned (.bool (!gapOk (a, b))) ∧ Below w.heap.size w w' := by
  have CS := Lib.hid (fun V => spanMay_any a b V)
  have hB : ∀ o, Below w.heap.size w (w.alloc o) := fun o => (Below.refl _ _).alloc (Nat.le_refl _) _
  cases hk : gapOk (a, b)
  · simp only [hk] at CS
    clear hk
    go_enter Try.func84, Try.ntmps84
    go_wp2_with fail
    refine (CS.out _).mono ?_
    rintro e w1 ⟨rfl, hb⟩
    go_wp2_with fail
    go_ret
    exact ⟨rfl, (hB _).trans (hb.mono (hB _).size)⟩
  · simp only [hk] at CS
    clear hk
    go_enter Try.func84, Try.ntmps84
    go_wp2_with fail
    refine (CS.out _).mono ?_
    rintro e w1 ⟨rfl, hb⟩
    go_wp2_with fail
    go_ret
    exact ⟨rfl, (hB _).trans (hb.mono (hB _).size)⟩
end Go.Proofs.Ytianombjgdmbeaa
