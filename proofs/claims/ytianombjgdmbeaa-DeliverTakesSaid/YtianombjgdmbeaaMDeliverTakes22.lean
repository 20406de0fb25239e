/-
  The document's NoteMay, of notes of kind 1. The document's NoteMay, of notes of kind 2.
-/
import Derived.Test.YtianombjgdmbeaaMDeliverTakes13
import Derived.RegionTactic
import Derived.BigQuiet
import Derived.Deep.QuietTactic
namespace Go.Proofs.Ytianombjgdmbeaa
set_option linter.unusedSimpArgs false
set_option linter.unusedVariables false
open Go.RowKit

set_option maxHeartbeats 12800000 in
set_option maxRecDepth 100000 in
theorem noteMay_1 (id : Int) (name : ByteArray) (size sum at_ : Int) (data : List UInt8) (gaps : List (Int × Int)) (of_ code : Int) (D : Option Addr) (dn dc : Nat) (G : Option Addr) (gn gc : Nat) (w : World) (hid : rngOk id 0 65535 = true) (hd : data.length = dn) (hg : gaps.length = gn) (hG : Rd w G (gps gaps)) (hdn : dn ≤ 140737488351232) (hgn : gn ≤ 8796093022200) :
    Calls Try.prog 38 #[ntv (⟨1, id, name, size, sum, at_, data, gaps, of_, code⟩ : Nt) D dn dc G gn gc] w fun e w' => e = .returned (.bool (noteOk (⟨1, id, name, size, sum, at_, data, gaps, of_, code⟩ : Nt))) ∧ Below w.heap.size w w' := by
  unfold ntv
  dsimp only
  have H0 := Lib.hid hid
  have HG := Lib.hid hG
  have HD := Lib.hid hd
  have HGN := Lib.hid hg
  clear hG hd hg hid
  obtain ⟨ln, hln⟩ : ∃ ln : Int, (name.size : Int) = ln := ⟨_, rfl⟩
  have HLN := Lib.hid hln
  have hB : ∀ o, Below w.heap.size w (w.alloc o) := fun o => (Below.refl _ _).alloc (Nat.le_refl _) _
  go_enter Try.func38, Try.ntmps38
  go_upto_region 3 with (first
    | (go_at_call 79; refine Calls.mono (by first | exact rin_is _ _ _ _ _ H0) ?_; rintro e w1 ⟨rfl, rfl⟩))
  clear hB
  have bN := Blk.new w 27 #[.int .i64 1, .int .i64 id, .string name, .int .i64 size, .int .i64 sum, .int .i64 at_, .slice D dn dc, .slice G gn gc, .int .i64 of_, .int .i64 code]
  have hB : Below w.heap.size w (w.alloc (.cells #[.int .i64 1, .int .i64 id, .string name, .int .i64 size, .int .i64 sum, .int .i64 at_, .slice D dn dc, .slice G gn gc, .int .i64 of_, .int .i64 code] 27)) := (Below.refl _ _).alloc (Nat.le_refl _) _
  go_upto_region 4 with fail
  simp only [List.append_eq, List.cons_append, List.nil_append]
  generalize w.alloc (.cells #[.int .i64 1, .int .i64 id, .string name, .int .i64 size, .int .i64 sum, .int .i64 at_, .slice D dn dc, .slice G gn gc, .int .i64 of_, .int .i64 code] 27) = W at *
  have x2 := bN.cell' (i := 2) rfl
  have x3 := bN.cell' (i := 3) rfl
  have x4 := bN.cell' (i := 4) rfl
  have x5 := bN.cell' (i := 5) rfl
  have x6 := bN.cell' (i := 6) rfl
  have x7 := bN.cell' (i := 7) rfl
  have x8 := bN.cell' (i := 8) rfl
  have x9 := bN.cell' (i := 9) rfl
  by_cases cnm : name.size = 0
  · have hno : noteOk (⟨1, id, name, size, sum, at_, data, gaps, of_, code⟩ : Nt) = false := note_kind (by simp [kindOk, cnm])
    have inm : ¬ (0 : Int) < (ln : Int) := by omega
    clear cnm
    have HNO := Lib.hid hno
    clear hno
    go_wp2_with fail
    go_ret
    exact ⟨by rw [HNO.out]; rfl, hB⟩
  have inm : (0 : Int) < (ln : Int) := by omega
  have Cnm := Lib.hid cnm
  clear cnm
  by_cases csm : sum = 0
  rotate_left
  · have hno : noteOk (⟨1, id, name, size, sum, at_, data, gaps, of_, code⟩ : Nt) = false := note_bare (by simp [bareOk, csm])
    have ism : (sum != 0) = true := by rw [bne_iff_ne]; exact csm
    clear csm
    have HNO := Lib.hid hno
    clear hno
    go_wp2_with fail
    go_ret
    exact ⟨by rw [HNO.out]; rfl, hB⟩
  have ism : (sum != 0) = false := by rw [bne_eq_false_iff_eq]; exact csm
  have Csm := Lib.hid csm
  clear csm
  by_cases cat : at_ = 0
  rotate_left
  · have hno : noteOk (⟨1, id, name, size, sum, at_, data, gaps, of_, code⟩ : Nt) = false := note_bare (by simp [bareOk, cat])
    have iat : (at_ != 0) = true := by rw [bne_iff_ne]; exact cat
    clear cat
    have HNO := Lib.hid hno
    clear hno
    go_wp2_with fail
    go_ret
    exact ⟨by rw [HNO.out]; rfl, hB⟩
  have iat : (at_ != 0) = false := by rw [bne_eq_false_iff_eq]; exact cat
  have Cat := Lib.hid cat
  clear cat
  by_cases cdt : dn = 0
  rotate_left
  · have hno : noteOk (⟨1, id, name, size, sum, at_, data, gaps, of_, code⟩ : Nt) = false := note_bare (by simp [bareOk, HD.out, cdt])
    have idt : (0 : Int) < (dn : Int) := by omega
    clear cdt
    have HNO := Lib.hid hno
    clear hno
    go_wp2_with fail
    go_ret
    exact ⟨by rw [HNO.out]; rfl, hB⟩
  have idt : ¬ (0 : Int) < (dn : Int) := by omega
  have Cdt := Lib.hid cdt
  clear cdt
  by_cases cgp : gn = 0
  rotate_left
  · have hno : noteOk (⟨1, id, name, size, sum, at_, data, gaps, of_, code⟩ : Nt) = false := note_bare (by simp [bareOk, HGN.out, cgp])
    have igp : (0 : Int) < (gn : Int) := by omega
    clear cgp
    have HNO := Lib.hid hno
    clear hno
    go_wp2_with fail
    go_ret
    exact ⟨by rw [HNO.out]; rfl, hB⟩
  have igp : ¬ (0 : Int) < (gn : Int) := by omega
  have Cgp := Lib.hid cgp
  clear cgp
  by_cases cof : of_ = 0
  rotate_left
  · have hno : noteOk (⟨1, id, name, size, sum, at_, data, gaps, of_, code⟩ : Nt) = false := note_bare (by simp [bareOk, cof])
    have iof : (of_ != 0) = true := by rw [bne_iff_ne]; exact cof
    clear cof
    have HNO := Lib.hid hno
    clear hno
    go_wp2_with fail
    go_ret
    exact ⟨by rw [HNO.out]; rfl, hB⟩
  have iof : (of_ != 0) = false := by rw [bne_eq_false_iff_eq]; exact cof
  have Cof := Lib.hid cof
  clear cof
  by_cases ccd : code = 0
  rotate_left
  · have hno : noteOk (⟨1, id, name, size, sum, at_, data, gaps, of_, code⟩ : Nt) = false := note_bare (by simp [bareOk, ccd])
    have icd : (code != 0) = true := by rw [bne_iff_ne]; exact ccd
    clear ccd
    have HNO := Lib.hid hno
    clear hno
    go_wp2_with fail
    go_ret
    exact ⟨by rw [HNO.out]; rfl, hB⟩
  have icd : (code != 0) = false := by rw [bne_eq_false_iff_eq]; exact ccd
  have Ccd := Lib.hid ccd
  clear ccd
  go_upto_region 6 with fail
  by_cases c32 : name.size ≤ 32
  rotate_left
  · have hno : noteOk (⟨1, id, name, size, sum, at_, data, gaps, of_, code⟩ : Nt) = false := note_kind (by simp [kindOk, c32])
    have i32 : (32 : Int) < ln := by have := HLN.out; omega
    have HNO := Lib.hid hno
    clear hno
    go_wp2_with (first
      | (go_at_call 79; refine Calls.mono (by first | exact rin_is _ _ _ _ _ H0) ?_; rintro e w1 ⟨rfl, rfl⟩))
    go_ret
    exact ⟨by rw [HNO.out]; rfl, hB⟩
  have i32 : ¬ (32 : Int) < ln := by have := HLN.out; omega
  have C32 := Lib.hid c32
  clear c32
  cases hs : rngOk size 0 65536
  · have hno : noteOk (⟨1, id, name, size, sum, at_, data, gaps, of_, code⟩ : Nt) = false := note_kind (by simp [kindOk, hs])
    have H1 := Lib.hid hs
    clear hs
    have HNO := Lib.hid hno
    clear hno
    go_wp2_with (first
      | (go_at_call 79; refine Calls.mono (by first | exact rin_is _ _ _ _ _ H1) ?_; rintro e w1 ⟨rfl, rfl⟩))
    go_ret
    exact ⟨by rw [HNO.out]; rfl, hB⟩
  have H1 := Lib.hid hs
  clear hs
  have H2 : Hid (rngOk sum 0 4294967295 = true) := Lib.hid (by rw [Csm.out]; rfl)
  have i33 : ¬ (1024 : Int) < (dn : Int) := by have := Cdt.out; omega
  have i34 : ¬ (20 : Int) < (gn : Int) := by have := Cgp.out; omega
  go_upto_region 11 with (first
    | (go_at_call 79; refine Calls.mono (by first | exact rin_is _ _ _ _ _ H1 | exact rin_is _ _ _ _ _ H2) ?_; rintro e w1 ⟨rfl, rfl⟩))
  have hbare : bareOk (⟨1, id, name, size, sum, at_, data, gaps, of_, code⟩ : Nt) = true := by simp [bareOk, Csm.out, Cat.out, HD.out, Cdt.out, HGN.out, Cgp.out, Cof.out, Ccd.out]
  have hg0 : ¬ (0 : Int) < (gn : Int) := by have := Cgp.out; omega
  have x7 := bN.cell' (i := 7) rfl
  go_loopw [4] (fun iv wr => iv = .int .i64 0 ∧ wr = W) (fun _ _ => 0)
  case atStart => exact ⟨rfl, rfl⟩
  case round =>
    obtain ⟨rfl, rfl⟩ := hrel
    have hno : noteOk (⟨1, id, name, size, sum, at_, data, gaps, of_, code⟩ : Nt) = true := note_all rfl H0.out hbare (by have := Cnm.out; have := C32.out; simp only [kindOk, if_true, H1.out, Bool.and_true, decide_eq_true_iff]; omega)
    have HNO := Lib.hid hno
    clear hno hbare
    go_wp2_with fail
    go_ret
    exact ⟨by rw [HNO.out]; rfl, hB⟩
end Go.Proofs.Ytianombjgdmbeaa
namespace Go.Proofs.Ytianombjgdmbeaa
set_option linter.unusedSimpArgs false
set_option linter.unusedVariables false
open Go.RowKit

set_option maxHeartbeats 12800000 in
set_option maxRecDepth 100000 in
theorem noteMay_2 (id : Int) (name : ByteArray) (size sum at_ : Int) (data : List UInt8) (gaps : List (Int × Int)) (of_ code : Int) (D : Option Addr) (dn dc : Nat) (G : Option Addr) (gn gc : Nat) (w : World) (hid : rngOk id 0 65535 = true) (hd : data.length = dn) (hg : gaps.length = gn) (hG : Rd w G (gps gaps)) (hdn : dn ≤ 140737488351232) (hgn : gn ≤ 8796093022200) :
    Calls Try.prog 38 #[ntv (⟨2, id, name, size, sum, at_, data, gaps, of_, code⟩ : Nt) D dn dc G gn gc] w fun e w' => e = .returned (.bool (noteOk (⟨2, id, name, size, sum, at_, data, gaps, of_, code⟩ : Nt))) ∧ Below w.heap.size w w' := by
  unfold ntv
  dsimp only
  have H0 := Lib.hid hid
  have HG := Lib.hid hG
  have HD := Lib.hid hd
  have HGN := Lib.hid hg
  clear hG hd hg hid
  obtain ⟨ln, hln⟩ : ∃ ln : Int, (name.size : Int) = ln := ⟨_, rfl⟩
  have HLN := Lib.hid hln
  have hB : ∀ o, Below w.heap.size w (w.alloc o) := fun o => (Below.refl _ _).alloc (Nat.le_refl _) _
  go_enter Try.func38, Try.ntmps38
  go_upto_region 3 with (first
    | (go_at_call 79; refine Calls.mono (by first | exact rin_is _ _ _ _ _ H0) ?_; rintro e w1 ⟨rfl, rfl⟩))
  clear hB
  have bN := Blk.new w 27 #[.int .i64 2, .int .i64 id, .string name, .int .i64 size, .int .i64 sum, .int .i64 at_, .slice D dn dc, .slice G gn gc, .int .i64 of_, .int .i64 code]
  have hB : Below w.heap.size w (w.alloc (.cells #[.int .i64 2, .int .i64 id, .string name, .int .i64 size, .int .i64 sum, .int .i64 at_, .slice D dn dc, .slice G gn gc, .int .i64 of_, .int .i64 code] 27)) := (Below.refl _ _).alloc (Nat.le_refl _) _
  go_upto_region 4 with fail
  simp only [List.append_eq, List.cons_append, List.nil_append]
  generalize w.alloc (.cells #[.int .i64 2, .int .i64 id, .string name, .int .i64 size, .int .i64 sum, .int .i64 at_, .slice D dn dc, .slice G gn gc, .int .i64 of_, .int .i64 code] 27) = W at *
  have x2 := bN.cell' (i := 2) rfl
  have x3 := bN.cell' (i := 3) rfl
  have x4 := bN.cell' (i := 4) rfl
  have x5 := bN.cell' (i := 5) rfl
  have x6 := bN.cell' (i := 6) rfl
  have x7 := bN.cell' (i := 7) rfl
  have x8 := bN.cell' (i := 8) rfl
  have x9 := bN.cell' (i := 9) rfl
  by_cases cnm : name.size = 0
  rotate_left
  · have hno : noteOk (⟨2, id, name, size, sum, at_, data, gaps, of_, code⟩ : Nt) = false := note_bare (by simp [bareOk, cnm])
    have inm : (0 : Int) < (ln : Int) := by omega
    clear cnm
    have HNO := Lib.hid hno
    clear hno
    go_wp2_with fail
    go_ret
    exact ⟨by rw [HNO.out]; rfl, hB⟩
  have inm : ¬ (0 : Int) < (ln : Int) := by omega
  have Cnm := Lib.hid cnm
  clear cnm
  by_cases csz : size = 0
  rotate_left
  · have hno : noteOk (⟨2, id, name, size, sum, at_, data, gaps, of_, code⟩ : Nt) = false := note_bare (by simp [bareOk, csz])
    have isz : (size != 0) = true := by rw [bne_iff_ne]; exact csz
    clear csz
    have HNO := Lib.hid hno
    clear hno
    go_wp2_with fail
    go_ret
    exact ⟨by rw [HNO.out]; rfl, hB⟩
  have isz : (size != 0) = false := by rw [bne_eq_false_iff_eq]; exact csz
  have Csz := Lib.hid csz
  clear csz
  by_cases csm : sum = 0
  rotate_left
  · have hno : noteOk (⟨2, id, name, size, sum, at_, data, gaps, of_, code⟩ : Nt) = false := note_bare (by simp [bareOk, csm])
    have ism : (sum != 0) = true := by rw [bne_iff_ne]; exact csm
    clear csm
    have HNO := Lib.hid hno
    clear hno
    go_wp2_with fail
    go_ret
    exact ⟨by rw [HNO.out]; rfl, hB⟩
  have ism : (sum != 0) = false := by rw [bne_eq_false_iff_eq]; exact csm
  have Csm := Lib.hid csm
  clear csm
  by_cases cdt : dn = 0
  · have hno : noteOk (⟨2, id, name, size, sum, at_, data, gaps, of_, code⟩ : Nt) = false := note_kind (by simp [kindOk, HD.out, cdt])
    have idt : ¬ (0 : Int) < (dn : Int) := by omega
    clear cdt
    have HNO := Lib.hid hno
    clear hno
    go_wp2_with fail
    go_ret
    exact ⟨by rw [HNO.out]; rfl, hB⟩
  have idt : (0 : Int) < (dn : Int) := by omega
  have Cdt := Lib.hid cdt
  clear cdt
  by_cases cgp : gn = 0
  rotate_left
  · have hno : noteOk (⟨2, id, name, size, sum, at_, data, gaps, of_, code⟩ : Nt) = false := note_bare (by simp [bareOk, HGN.out, cgp])
    have igp : (0 : Int) < (gn : Int) := by omega
    clear cgp
    have HNO := Lib.hid hno
    clear hno
    go_wp2_with fail
    go_ret
    exact ⟨by rw [HNO.out]; rfl, hB⟩
  have igp : ¬ (0 : Int) < (gn : Int) := by omega
  have Cgp := Lib.hid cgp
  clear cgp
  by_cases cof : of_ = 0
  rotate_left
  · have hno : noteOk (⟨2, id, name, size, sum, at_, data, gaps, of_, code⟩ : Nt) = false := note_bare (by simp [bareOk, cof])
    have iof : (of_ != 0) = true := by rw [bne_iff_ne]; exact cof
    clear cof
    have HNO := Lib.hid hno
    clear hno
    go_wp2_with fail
    go_ret
    exact ⟨by rw [HNO.out]; rfl, hB⟩
  have iof : (of_ != 0) = false := by rw [bne_eq_false_iff_eq]; exact cof
  have Cof := Lib.hid cof
  clear cof
  by_cases ccd : code = 0
  rotate_left
  · have hno : noteOk (⟨2, id, name, size, sum, at_, data, gaps, of_, code⟩ : Nt) = false := note_bare (by simp [bareOk, ccd])
    have icd : (code != 0) = true := by rw [bne_iff_ne]; exact ccd
    clear ccd
    have HNO := Lib.hid hno
    clear hno
    go_wp2_with fail
    go_ret
    exact ⟨by rw [HNO.out]; rfl, hB⟩
  have icd : (code != 0) = false := by rw [bne_eq_false_iff_eq]; exact ccd
  have Ccd := Lib.hid ccd
  clear ccd
  go_upto_region 6 with fail
  have i32 : ¬ (32 : Int) < ln := by have := HLN.out; have := Cnm.out; omega
  have H1 : Hid (rngOk size 0 65536 = true) := Lib.hid (by rw [Csz.out]; rfl)
  have H2 : Hid (rngOk sum 0 4294967295 = true) := Lib.hid (by rw [Csm.out]; rfl)
  by_cases c33 : dn ≤ 1024
  rotate_left
  · have hno : noteOk (⟨2, id, name, size, sum, at_, data, gaps, of_, code⟩ : Nt) = false := note_kind (by simp [kindOk, HD.out, c33])
    have i33 : (1024 : Int) < (dn : Int) := by omega
    have HNO := Lib.hid hno
    clear hno
    go_wp2_with (first
      | (go_at_call 79; refine Calls.mono (by first | exact rin_is _ _ _ _ _ H1 | exact rin_is _ _ _ _ _ H2) ?_; rintro e w1 ⟨rfl, rfl⟩))
    go_ret
    exact ⟨by rw [HNO.out]; rfl, hB⟩
  have i33 : ¬ (1024 : Int) < (dn : Int) := by omega
  have C33 := Lib.hid c33
  clear c33
  have i34 : ¬ (20 : Int) < (gn : Int) := by have := Cgp.out; omega
  cases ha : rngOk at_ 0 65535
  · have hno : noteOk (⟨2, id, name, size, sum, at_, data, gaps, of_, code⟩ : Nt) = false := note_kind (by have e : rngOk at_ 0 (65536 - (data.length : Int)) = false := (by have := HD.out; have := Cdt.out; unfold rngOk at ha ⊢; rw [decide_eq_false_iff_not] at ha ⊢; omega); simp [kindOk, e])
    have H3 := Lib.hid ha
    clear ha
    have HNO := Lib.hid hno
    clear hno
    go_wp2_with (first
      | (go_at_call 79; refine Calls.mono (by first | exact rin_is _ _ _ _ _ H1 | exact rin_is _ _ _ _ _ H2 | exact rin_is _ _ _ _ _ H3) ?_; rintro e w1 ⟨rfl, rfl⟩))
    go_ret
    exact ⟨by rw [HNO.out]; rfl, hB⟩
  have har : 0 ≤ at_ ∧ at_ ≤ 65535 := by unfold rngOk at ha; rw [decide_eq_true_iff] at ha; exact ha
  have H3 := Lib.hid ha
  clear ha
  have wr_ : IntKind.i64.wrap (at_ + (dn : Int)) = at_ + (dn : Int) := IntWalk.i64_in _ (by have := C33.out; omega)
  by_cases c35 : at_ + (dn : Int) ≤ 65536
  rotate_left
  · have hno : noteOk (⟨2, id, name, size, sum, at_, data, gaps, of_, code⟩ : Nt) = false := note_kind (by have e : rngOk at_ 0 (65536 - (data.length : Int)) = false := (by have := HD.out; unfold rngOk; rw [decide_eq_false_iff_not]; omega); simp [kindOk, e])
    have i35 : (65536 : Int) < at_ + (dn : Int) := by omega
    have HNO := Lib.hid hno
    clear hno
    go_wp2_with (first
      | (go_at_call 79; refine Calls.mono (by first | exact rin_is _ _ _ _ _ H1 | exact rin_is _ _ _ _ _ H2 | exact rin_is _ _ _ _ _ H3) ?_; rintro e w1 ⟨rfl, rfl⟩))
    go_ret
    exact ⟨by rw [HNO.out]; rfl, hB⟩
  have i35 : ¬ (65536 : Int) < at_ + (dn : Int) := by omega
  go_upto_region 11 with (first
    | (go_at_call 79; refine Calls.mono (by first | exact rin_is _ _ _ _ _ H1 | exact rin_is _ _ _ _ _ H2 | exact rin_is _ _ _ _ _ H3) ?_; rintro e w1 ⟨rfl, rfl⟩))
  have hbare : bareOk (⟨2, id, name, size, sum, at_, data, gaps, of_, code⟩ : Nt) = true := by simp [bareOk, Cnm.out, Csz.out, Csm.out, HGN.out, Cgp.out, Cof.out, Ccd.out]
  have hg0 : ¬ (0 : Int) < (gn : Int) := by have := Cgp.out; omega
  have x7 := bN.cell' (i := 7) rfl
  go_loopw [4] (fun iv wr => iv = .int .i64 0 ∧ wr = W) (fun _ _ => 0)
  case atStart => exact ⟨rfl, rfl⟩
  case round =>
    obtain ⟨rfl, rfl⟩ := hrel
    have hno : noteOk (⟨2, id, name, size, sum, at_, data, gaps, of_, code⟩ : Nt) = true := note_all rfl H0.out hbare (by have e : rngOk at_ 0 (65536 - (data.length : Int)) = true := (by have := HD.out; unfold rngOk; rw [decide_eq_true_iff]; omega); have e2 : 1 ≤ data.length ∧ data.length ≤ 1024 := (by have := HD.out; have := Cdt.out; have := C33.out; omega); simp [kindOk, e, e2])
    have HNO := Lib.hid hno
    clear hno hbare
    go_wp2_with fail
    go_ret
    exact ⟨by rw [HNO.out]; rfl, hB⟩
end Go.Proofs.Ytianombjgdmbeaa
