/-
  The document's NoteMay, of notes of kind 3. The document's NoteMay, of notes of kind 4.
-/
import Derived.Test.YtianombjgdmbeaaMDeliverTakes13
import Derived.RegionTactic
import Derived.BigQuiet
import Derived.Deep.QuietTactic
namespace Go.Proofs.Ytianombjgdmbeaa
set_option linter.unusedSimpArgs false
set_option linter.unusedVariables false
open Go.RowKit

set_option maxHeartbeats 12800000 in
set_option maxRecDepth 100000 in
theorem noteMay_3 (id : Int) (name : ByteArray) (size sum at_ : Int) (data : List UInt8) (gaps : List (Int × Int)) (of_ code : Int) (D : Option Addr) (dn dc : Nat) (G : Option Addr) (gn gc : Nat) (w : World) (hid : rngOk id 0 65535 = true) (hd : data.length = dn) (hg : gaps.length = gn) (hG : Rd w G (gps gaps)) (hdn : dn ≤ 140737488351232) (hgn : gn ≤ 8796093022200) :
    Calls Try.prog 38 #[ntv (⟨3, id, name, size, sum, at_, data, gaps, of_, code⟩ : Nt) D dn dc G gn gc] w fun e w' => e = .returned (.bool (noteOk (⟨3, id, name, size, sum, at_, data, gaps, of_, code⟩ : Nt))) ∧ Below w.heap.size w w' := by
  unfold ntv
  dsimp only
  have H0 := Lib.hid hid
  have HG := Lib.hid hG
  have HD := Lib.hid hd
  have HGN := Lib.hid hg
  clear hG hd hg hid
  obtain ⟨ln, hln⟩ : ∃ ln : Int, (name.size : Int) = ln := ⟨_, rfl⟩
  have HLN := Lib.hid hln
  have hB : ∀ o, Below w.heap.size w (w.alloc o) := fun o => (Below.refl _ _).alloc (Nat.le_refl _) _
  go_enter Try.func38, Try.ntmps38
  go_upto_region 3 with (first
    | (go_at_call 79; refine Calls.mono (by first | exact rin_is _ _ _ _ _ H0) ?_; rintro e w1 ⟨rfl, rfl⟩))
  clear hB
  have bN := Blk.new w 27 #[.int .i64 3, .int .i64 id, .string name, .int .i64 size, .int .i64 sum, .int .i64 at_, .slice D dn dc, .slice G gn gc, .int .i64 of_, .int .i64 code]
  have hB : Below w.heap.size w (w.alloc (.cells #[.int .i64 3, .int .i64 id, .string name, .int .i64 size, .int .i64 sum, .int .i64 at_, .slice D dn dc, .slice G gn gc, .int .i64 of_, .int .i64 code] 27)) := (Below.refl _ _).alloc (Nat.le_refl _) _
  go_upto_region 4 with fail
  simp only [List.append_eq, List.cons_append, List.nil_append]
  generalize w.alloc (.cells #[.int .i64 3, .int .i64 id, .string name, .int .i64 size, .int .i64 sum, .int .i64 at_, .slice D dn dc, .slice G gn gc, .int .i64 of_, .int .i64 code] 27) = W at *
  have x2 := bN.cell' (i := 2) rfl
  have x3 := bN.cell' (i := 3) rfl
  have x4 := bN.cell' (i := 4) rfl
  have x5 := bN.cell' (i := 5) rfl
  have x6 := bN.cell' (i := 6) rfl
  have x7 := bN.cell' (i := 7) rfl
  have x8 := bN.cell' (i := 8) rfl
  have x9 := bN.cell' (i := 9) rfl
  by_cases cnm : name.size = 0
  rotate_left
  · have hno : noteOk (⟨3, id, name, size, sum, at_, data, gaps, of_, code⟩ : Nt) = false := note_bare (by simp [bareOk, cnm])
    have inm : (0 : Int) < (ln : Int) := by omega
    clear cnm
    have HNO := Lib.hid hno
    clear hno
    go_wp2_with fail
    go_ret
    exact ⟨by rw [HNO.out]; rfl, hB⟩
  have inm : ¬ (0 : Int) < (ln : Int) := by omega
  have Cnm := Lib.hid cnm
  clear cnm
  by_cases cat : at_ = 0
  rotate_left
  · have hno : noteOk (⟨3, id, name, size, sum, at_, data, gaps, of_, code⟩ : Nt) = false := note_bare (by simp [bareOk, cat])
    have iat : (at_ != 0) = true := by rw [bne_iff_ne]; exact cat
    clear cat
    have HNO := Lib.hid hno
    clear hno
    go_wp2_with fail
    go_ret
    exact ⟨by rw [HNO.out]; rfl, hB⟩
  have iat : (at_ != 0) = false := by rw [bne_eq_false_iff_eq]; exact cat
  have Cat := Lib.hid cat
  clear cat
  by_cases cdt : dn = 0
  rotate_left
  · have hno : noteOk (⟨3, id, name, size, sum, at_, data, gaps, of_, code⟩ : Nt) = false := note_bare (by simp [bareOk, HD.out, cdt])
    have idt : (0 : Int) < (dn : Int) := by omega
    clear cdt
    have HNO := Lib.hid hno
    clear hno
    go_wp2_with fail
    go_ret
    exact ⟨by rw [HNO.out]; rfl, hB⟩
  have idt : ¬ (0 : Int) < (dn : Int) := by omega
  have Cdt := Lib.hid cdt
  clear cdt
  by_cases cgp : gn = 0
  rotate_left
  · have hno : noteOk (⟨3, id, name, size, sum, at_, data, gaps, of_, code⟩ : Nt) = false := note_bare (by simp [bareOk, HGN.out, cgp])
    have igp : (0 : Int) < (gn : Int) := by omega
    clear cgp
    have HNO := Lib.hid hno
    clear hno
    go_wp2_with fail
    go_ret
    exact ⟨by rw [HNO.out]; rfl, hB⟩
  have igp : ¬ (0 : Int) < (gn : Int) := by omega
  have Cgp := Lib.hid cgp
  clear cgp
  by_cases cof : of_ = 0
  rotate_left
  · have hno : noteOk (⟨3, id, name, size, sum, at_, data, gaps, of_, code⟩ : Nt) = false := note_bare (by simp [bareOk, cof])
    have iof : (of_ != 0) = true := by rw [bne_iff_ne]; exact cof
    clear cof
    have HNO := Lib.hid hno
    clear hno
    go_wp2_with fail
    go_ret
    exact ⟨by rw [HNO.out]; rfl, hB⟩
  have iof : (of_ != 0) = false := by rw [bne_eq_false_iff_eq]; exact cof
  have Cof := Lib.hid cof
  clear cof
  by_cases ccd : code = 0
  rotate_left
  · have hno : noteOk (⟨3, id, name, size, sum, at_, data, gaps, of_, code⟩ : Nt) = false := note_bare (by simp [bareOk, ccd])
    have icd : (code != 0) = true := by rw [bne_iff_ne]; exact ccd
    clear ccd
    have HNO := Lib.hid hno
    clear hno
    go_wp2_with fail
    go_ret
    exact ⟨by rw [HNO.out]; rfl, hB⟩
  have icd : (code != 0) = false := by rw [bne_eq_false_iff_eq]; exact ccd
  have Ccd := Lib.hid ccd
  clear ccd
  go_upto_region 6 with fail
  have i32 : ¬ (32 : Int) < ln := by have := HLN.out; have := Cnm.out; omega
  cases hs : rngOk size 0 65536
  · have hno : noteOk (⟨3, id, name, size, sum, at_, data, gaps, of_, code⟩ : Nt) = false := note_kind (by simp [kindOk, hs])
    have H1 := Lib.hid hs
    clear hs
    have HNO := Lib.hid hno
    clear hno
    go_wp2_with (first
      | (go_at_call 79; refine Calls.mono (by first | exact rin_is _ _ _ _ _ H1) ?_; rintro e w1 ⟨rfl, rfl⟩))
    go_ret
    exact ⟨by rw [HNO.out]; rfl, hB⟩
  have H1 := Lib.hid hs
  clear hs
  cases hs : rngOk sum 0 4294967295
  · have hno : noteOk (⟨3, id, name, size, sum, at_, data, gaps, of_, code⟩ : Nt) = false := note_kind (by simp [kindOk, hs])
    have H2 := Lib.hid hs
    clear hs
    have HNO := Lib.hid hno
    clear hno
    go_wp2_with (first
      | (go_at_call 79; refine Calls.mono (by first | exact rin_is _ _ _ _ _ H1 | exact rin_is _ _ _ _ _ H2) ?_; rintro e w1 ⟨rfl, rfl⟩))
    go_ret
    exact ⟨by rw [HNO.out]; rfl, hB⟩
  have H2 := Lib.hid hs
  clear hs
  have i33 : ¬ (1024 : Int) < (dn : Int) := by have := Cdt.out; omega
  have i34 : ¬ (20 : Int) < (gn : Int) := by have := Cgp.out; omega
  go_upto_region 11 with (first
    | (go_at_call 79; refine Calls.mono (by first | exact rin_is _ _ _ _ _ H1 | exact rin_is _ _ _ _ _ H2) ?_; rintro e w1 ⟨rfl, rfl⟩))
  have hbare : bareOk (⟨3, id, name, size, sum, at_, data, gaps, of_, code⟩ : Nt) = true := by simp [bareOk, Cnm.out, Cat.out, HD.out, Cdt.out, HGN.out, Cgp.out, Cof.out, Ccd.out]
  have hg0 : ¬ (0 : Int) < (gn : Int) := by have := Cgp.out; omega
  have x7 := bN.cell' (i := 7) rfl
  go_loopw [4] (fun iv wr => iv = .int .i64 0 ∧ wr = W) (fun _ _ => 0)
  case atStart => exact ⟨rfl, rfl⟩
  case round =>
    obtain ⟨rfl, rfl⟩ := hrel
    have hno : noteOk (⟨3, id, name, size, sum, at_, data, gaps, of_, code⟩ : Nt) = true := note_all rfl H0.out hbare (by simp [kindOk, H1.out, H2.out])
    have HNO := Lib.hid hno
    clear hno hbare
    go_wp2_with fail
    go_ret
    exact ⟨by rw [HNO.out]; rfl, hB⟩
end Go.Proofs.Ytianombjgdmbeaa
namespace Go.Proofs.Ytianombjgdmbeaa
set_option linter.unusedSimpArgs false
set_option linter.unusedVariables false
open Go.RowKit

set_option maxHeartbeats 12800000 in
set_option maxRecDepth 100000 in
theorem noteMay_4 (id : Int) (name : ByteArray) (size sum at_ : Int) (data : List UInt8) (gaps : List (Int × Int)) (of_ code : Int) (D : Option Addr) (dn dc : Nat) (G : Option Addr) (gn gc : Nat) (w : World) (hid : rngOk id 0 65535 = true) (hd : data.length = dn) (hg : gaps.length = gn) (hG : Rd w G (gps gaps)) (hdn : dn ≤ 140737488351232) (hgn : gn ≤ 8796093022200) :
    Calls Try.prog 38 #[ntv (⟨4, id, name, size, sum, at_, data, gaps, of_, code⟩ : Nt) D dn dc G gn gc] w fun e w' => e = .returned (.bool (noteOk (⟨4, id, name, size, sum, at_, data, gaps, of_, code⟩ : Nt))) ∧ Below w.heap.size w w' := by
  unfold ntv
  dsimp only
  have H0 := Lib.hid hid
  have HG := Lib.hid hG
  have HD := Lib.hid hd
  have HGN := Lib.hid hg
  clear hG hd hg hid
  obtain ⟨ln, hln⟩ : ∃ ln : Int, (name.size : Int) = ln := ⟨_, rfl⟩
  have HLN := Lib.hid hln
  have hB : ∀ o, Below w.heap.size w (w.alloc o) := fun o => (Below.refl _ _).alloc (Nat.le_refl _) _
  go_enter Try.func38, Try.ntmps38
  go_upto_region 3 with (first
    | (go_at_call 79; refine Calls.mono (by first | exact rin_is _ _ _ _ _ H0) ?_; rintro e w1 ⟨rfl, rfl⟩))
  clear hB
  have bN := Blk.new w 27 #[.int .i64 4, .int .i64 id, .string name, .int .i64 size, .int .i64 sum, .int .i64 at_, .slice D dn dc, .slice G gn gc, .int .i64 of_, .int .i64 code]
  have hB : Below w.heap.size w (w.alloc (.cells #[.int .i64 4, .int .i64 id, .string name, .int .i64 size, .int .i64 sum, .int .i64 at_, .slice D dn dc, .slice G gn gc, .int .i64 of_, .int .i64 code] 27)) := (Below.refl _ _).alloc (Nat.le_refl _) _
  go_upto_region 4 with fail
  simp only [List.append_eq, List.cons_append, List.nil_append]
  generalize w.alloc (.cells #[.int .i64 4, .int .i64 id, .string name, .int .i64 size, .int .i64 sum, .int .i64 at_, .slice D dn dc, .slice G gn gc, .int .i64 of_, .int .i64 code] 27) = W at *
  have x2 := bN.cell' (i := 2) rfl
  have x3 := bN.cell' (i := 3) rfl
  have x4 := bN.cell' (i := 4) rfl
  have x5 := bN.cell' (i := 5) rfl
  have x6 := bN.cell' (i := 6) rfl
  have x7 := bN.cell' (i := 7) rfl
  have x8 := bN.cell' (i := 8) rfl
  have x9 := bN.cell' (i := 9) rfl
  by_cases cnm : name.size = 0
  rotate_left
  · have hno : noteOk (⟨4, id, name, size, sum, at_, data, gaps, of_, code⟩ : Nt) = false := note_bare (by simp [bareOk, cnm])
    have inm : (0 : Int) < (ln : Int) := by omega
    clear cnm
    have HNO := Lib.hid hno
    clear hno
    go_wp2_with fail
    go_ret
    exact ⟨by rw [HNO.out]; rfl, hB⟩
  have inm : ¬ (0 : Int) < (ln : Int) := by omega
  have Cnm := Lib.hid cnm
  clear cnm
  by_cases csz : size = 0
  rotate_left
  · have hno : noteOk (⟨4, id, name, size, sum, at_, data, gaps, of_, code⟩ : Nt) = false := note_bare (by simp [bareOk, csz])
    have isz : (size != 0) = true := by rw [bne_iff_ne]; exact csz
    clear csz
    have HNO := Lib.hid hno
    clear hno
    go_wp2_with fail
    go_ret
    exact ⟨by rw [HNO.out]; rfl, hB⟩
  have isz : (size != 0) = false := by rw [bne_eq_false_iff_eq]; exact csz
  have Csz := Lib.hid csz
  clear csz
  by_cases csm : sum = 0
  rotate_left
  · have hno : noteOk (⟨4, id, name, size, sum, at_, data, gaps, of_, code⟩ : Nt) = false := note_bare (by simp [bareOk, csm])
    have ism : (sum != 0) = true := by rw [bne_iff_ne]; exact csm
    clear csm
    have HNO := Lib.hid hno
    clear hno
    go_wp2_with fail
    go_ret
    exact ⟨by rw [HNO.out]; rfl, hB⟩
  have ism : (sum != 0) = false := by rw [bne_eq_false_iff_eq]; exact csm
  have Csm := Lib.hid csm
  clear csm
  by_cases cat : at_ = 0
  rotate_left
  · have hno : noteOk (⟨4, id, name, size, sum, at_, data, gaps, of_, code⟩ : Nt) = false := note_bare (by simp [bareOk, cat])
    have iat : (at_ != 0) = true := by rw [bne_iff_ne]; exact cat
    clear cat
    have HNO := Lib.hid hno
    clear hno
    go_wp2_with fail
    go_ret
    exact ⟨by rw [HNO.out]; rfl, hB⟩
  have iat : (at_ != 0) = false := by rw [bne_eq_false_iff_eq]; exact cat
  have Cat := Lib.hid cat
  clear cat
  by_cases cdt : dn = 0
  rotate_left
  · have hno : noteOk (⟨4, id, name, size, sum, at_, data, gaps, of_, code⟩ : Nt) = false := note_bare (by simp [bareOk, HD.out, cdt])
    have idt : (0 : Int) < (dn : Int) := by omega
    clear cdt
    have HNO := Lib.hid hno
    clear hno
    go_wp2_with fail
    go_ret
    exact ⟨by rw [HNO.out]; rfl, hB⟩
  have idt : ¬ (0 : Int) < (dn : Int) := by omega
  have Cdt := Lib.hid cdt
  clear cdt
  by_cases cgp : gn = 0
  · have hno : noteOk (⟨4, id, name, size, sum, at_, data, gaps, of_, code⟩ : Nt) = false := note_kind (by simp [kindOk, HGN.out, cgp])
    have igp : ¬ (0 : Int) < (gn : Int) := by omega
    clear cgp
    have HNO := Lib.hid hno
    clear hno
    go_wp2_with fail
    go_ret
    exact ⟨by rw [HNO.out]; rfl, hB⟩
  have igp : (0 : Int) < (gn : Int) := by omega
  have Cgp := Lib.hid cgp
  clear cgp
  by_cases cof : of_ = 0
  rotate_left
  · have hno : noteOk (⟨4, id, name, size, sum, at_, data, gaps, of_, code⟩ : Nt) = false := note_bare (by simp [bareOk, cof])
    have iof : (of_ != 0) = true := by rw [bne_iff_ne]; exact cof
    clear cof
    have HNO := Lib.hid hno
    clear hno
    go_wp2_with fail
    go_ret
    exact ⟨by rw [HNO.out]; rfl, hB⟩
  have iof : (of_ != 0) = false := by rw [bne_eq_false_iff_eq]; exact cof
  have Cof := Lib.hid cof
  clear cof
  by_cases ccd : code = 0
  rotate_left
  · have hno : noteOk (⟨4, id, name, size, sum, at_, data, gaps, of_, code⟩ : Nt) = false := note_bare (by simp [bareOk, ccd])
    have icd : (code != 0) = true := by rw [bne_iff_ne]; exact ccd
    clear ccd
    have HNO := Lib.hid hno
    clear hno
    go_wp2_with fail
    go_ret
    exact ⟨by rw [HNO.out]; rfl, hB⟩
  have icd : (code != 0) = false := by rw [bne_eq_false_iff_eq]; exact ccd
  have Ccd := Lib.hid ccd
  clear ccd
  go_upto_region 6 with fail
  have i32 : ¬ (32 : Int) < ln := by have := HLN.out; have := Cnm.out; omega
  have H1 : Hid (rngOk size 0 65536 = true) := Lib.hid (by rw [Csz.out]; rfl)
  have H2 : Hid (rngOk sum 0 4294967295 = true) := Lib.hid (by rw [Csm.out]; rfl)
  have i33 : ¬ (1024 : Int) < (dn : Int) := by have := Cdt.out; omega
  by_cases c34 : gn ≤ 20
  rotate_left
  · have hno : noteOk (⟨4, id, name, size, sum, at_, data, gaps, of_, code⟩ : Nt) = false := note_kind (by simp [kindOk, HGN.out, c34])
    have i34 : (20 : Int) < (gn : Int) := by omega
    have HNO := Lib.hid hno
    clear hno
    go_wp2_with (first
      | (go_at_call 79; refine Calls.mono (by first | exact rin_is _ _ _ _ _ H1 | exact rin_is _ _ _ _ _ H2) ?_; rintro e w1 ⟨rfl, rfl⟩))
    go_ret
    exact ⟨by rw [HNO.out]; rfl, hB⟩
  have i34 : ¬ (20 : Int) < (gn : Int) := by omega
  have C34 := Lib.hid c34
  clear c34
  go_upto_region 11 with (first
    | (go_at_call 79; refine Calls.mono (by first | exact rin_is _ _ _ _ _ H1 | exact rin_is _ _ _ _ _ H2) ?_; rintro e w1 ⟨rfl, rfl⟩))
  have hbare : bareOk (⟨4, id, name, size, sum, at_, data, gaps, of_, code⟩ : Nt) = true := by simp [bareOk, Cnm.out, Csz.out, Csm.out, Cat.out, HD.out, Cdt.out, Cof.out, Ccd.out]
  clear x2 x3 x4 x5 x6 x7 x8 x9
  go_loopw [4] (fun iv wr => ∃ i : Nat, i ≤ gn ∧ iv = .int .i64 (i : Int) ∧ Blk wr w.heap.size 27 #[.int .i64 4, .int .i64 id, .string name, .int .i64 size, .int .i64 sum, .int .i64 at_, .slice D dn dc, .slice G gn gc, .int .i64 of_, .int .i64 code] ∧ Below w.heap.size w wr ∧ Hid (∀ (j : Nat) (x : Int × Int), j < i → gaps[j]? = some x → gapOk x = true)) (fun iv _ => gn - (intOf iv).toNat)
  case atStart => exact ⟨0, Nat.zero_le _, rfl, bN, hB, Lib.hid (fun j x hj _ => by omega)⟩
  case round =>
    clear bN hB
    obtain ⟨i, hi, rfl, bN, hB, HF⟩ := hrel
    have x7 := bN.cell' (i := 7) rfl
    by_cases h5 : i < gn
    · have h5i : (i : Int) < (gn : Int) := by omega
      have hip : (0 : Int) ≤ (i : Int) := by omega
      have hiL : i < gaps.length := by rw [HGN.out]; exact h5
      have hx := List.getElem?_eq_getElem hiL
      obtain ⟨x, hxx⟩ : ∃ x, gaps[i] = x := ⟨_, rfl⟩
      rw [hxx] at hx
      clear hxx hiL
      obtain ⟨g, o, rfl, y0, y1⟩ := rdgap_cells (HG.out.below hB) hx
      have HX := Lib.hid hx
      clear hx
      obtain ⟨ga, gb⟩ := x
      dsimp only at y0 y1
      have CG := Lib.hid (fun V => gapMay_any ga gb V)
      cases hk : gapOk (ga, gb)
      · have hno : noteOk (⟨4, id, name, size, sum, at_, data, gaps, of_, code⟩ : Nt) = false := note_kind (by
          have e : gaps.all gapOk = false := by
            rw [List.all_eq_false]
            exact ⟨(ga, gb), List.mem_of_getElem? HX.out, by rw [hk]; simp⟩
          simp [kindOk, e])
        have HNO := Lib.hid hno
        have HNO := Lib.hid hno
        simp only [hk] at CG
        clear hno hbare hk HF
        go_wp2_with (go_at_call 80; refine (CG.out _).mono ?_; rintro e w1 ⟨rfl, hb⟩)
        go_ret
        exact ⟨by rw [HNO.out]; rfl, hB.trans (hb.mono hB.size)⟩
      · have HF2 : Hid (∀ (j : Nat) (x : Int × Int), j < i + 1 → gaps[j]? = some x → gapOk x = true) := Lib.hid (fun j y hj hy => by
          rcases Nat.lt_or_ge j i with h | h
          · exact HF.out j y h hy
          · obtain rfl : j = i := by omega
            rw [HX.out] at hy
            injection hy with hy
            rw [← hy]
            exact hk)
        simp only [hk] at CG
        clear hk HF
        go_wp2_with (go_at_call 80; refine (CG.out _).mono ?_; rintro e w1 ⟨rfl, hb⟩)
        go_roundw
        case rel => exact ⟨i + 1, by omega, by go_num, bN.step hb, hB.trans (hb.mono hB.size), HF2⟩
        case measure => simp [intOf]; omega
    · obtain rfl : i = gn := by omega
      have h5i : ¬ (i : Int) < (i : Int) := by omega
      have hall : gaps.all gapOk = true := by
        rw [List.all_eq_true]
        intro y hy
        obtain ⟨j, hj, rfl⟩ := List.getElem_of_mem hy
        exact HF.out j _ (by rw [← HGN.out]; exact hj) (List.getElem?_eq_getElem hj)
      have hno : noteOk (⟨4, id, name, size, sum, at_, data, gaps, of_, code⟩ : Nt) = true := note_all rfl H0.out hbare (by have e : 1 ≤ gaps.length ∧ gaps.length ≤ 20 := (by have := HGN.out; have := Cgp.out; have := C34.out; omega); simp [kindOk, e, hall])
      have HNO := Lib.hid hno
      clear hno hbare hall
      go_wp2_with fail
      go_ret
      exact ⟨by rw [HNO.out]; rfl, hB⟩
end Go.Proofs.Ytianombjgdmbeaa
