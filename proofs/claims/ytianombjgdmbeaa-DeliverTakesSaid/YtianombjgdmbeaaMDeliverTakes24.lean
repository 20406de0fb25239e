/-
  The document's NoteMay, of notes of kind 5. The document's NoteMay, of notes of kind 6.
-/
import Derived.Test.YtianombjgdmbeaaMDeliverTakes13
import Derived.RegionTactic
import Derived.BigQuiet
import Derived.Deep.QuietTactic
namespace Go.Proofs.Ytianombjgdmbeaa
set_option linter.unusedSimpArgs false
set_option linter.unusedVariables false
open Go.RowKit

set_option maxHeartbeats 12800000 in
set_option maxRecDepth 100000 in
theorem noteMay_5 (id : Int) (name : ByteArray) (size sum at_ : Int) (data : List UInt8) (gaps : List (Int × Int)) (of_ code : Int) (D : Option Addr) (dn dc : Nat) (G : Option Addr) (gn gc : Nat) (w : World) (hid : rngOk id 0 65535 = true) (hd : data.length = dn) (hg : gaps.length = gn) (hG : Rd w G (gps gaps)) (hdn : dn ≤ 140737488351232) (hgn : gn ≤ 8796093022200) :
    Calls Try.prog 38 #[ntv (⟨5, id, name, size, sum, at_, data, gaps, of_, code⟩ : Nt) D dn dc G gn gc] w fun e w' => e = .returned (.bool (noteOk (⟨5, id, name, size, sum, at_, data, gaps, of_, code⟩ : Nt))) ∧ Below w.heap.size w w' := by
  unfold ntv
  dsimp only
  have H0 := Lib.hid hid
  have HG := Lib.hid hG
  have HD := Lib.hid hd
  have HGN := Lib.hid hg
  clear hG hd hg hid
  obtain ⟨ln, hln⟩ : ∃ ln : Int, (name.size : Int) = ln := ⟨_, rfl⟩
  have HLN := Lib.hid hln
  have hB : ∀ o, Below w.heap.size w (w.alloc o) := fun o => (Below.refl _ _).alloc (Nat.le_refl _) _
  go_enter Try.func38, Try.ntmps38
  go_upto_region 3 with (first
    | (go_at_call 79; refine Calls.mono (by first | exact rin_is _ _ _ _ _ H0) ?_; rintro e w1 ⟨rfl, rfl⟩))
  clear hB
  have bN := Blk.new w 27 #[.int .i64 5, .int .i64 id, .string name, .int .i64 size, .int .i64 sum, .int .i64 at_, .slice D dn dc, .slice G gn gc, .int .i64 of_, .int .i64 code]
  have hB : Below w.heap.size w (w.alloc (.cells #[.int .i64 5, .int .i64 id, .string name, .int .i64 size, .int .i64 sum, .int .i64 at_, .slice D dn dc, .slice G gn gc, .int .i64 of_, .int .i64 code] 27)) := (Below.refl _ _).alloc (Nat.le_refl _) _
  go_upto_region 4 with fail
  simp only [List.append_eq, List.cons_append, List.nil_append]
  generalize w.alloc (.cells #[.int .i64 5, .int .i64 id, .string name, .int .i64 size, .int .i64 sum, .int .i64 at_, .slice D dn dc, .slice G gn gc, .int .i64 of_, .int .i64 code] 27) = W at *
  have x2 := bN.cell' (i := 2) rfl
  have x3 := bN.cell' (i := 3) rfl
  have x4 := bN.cell' (i := 4) rfl
  have x5 := bN.cell' (i := 5) rfl
  have x6 := bN.cell' (i := 6) rfl
  have x7 := bN.cell' (i := 7) rfl
  have x8 := bN.cell' (i := 8) rfl
  have x9 := bN.cell' (i := 9) rfl
  by_cases cnm : name.size = 0
  rotate_left
  · have hno : noteOk (⟨5, id, name, size, sum, at_, data, gaps, of_, code⟩ : Nt) = false := note_bare (by simp [bareOk, cnm])
    have inm : (0 : Int) < (ln : Int) := by omega
    clear cnm
    have HNO := Lib.hid hno
    clear hno
    go_wp2_with fail
    go_ret
    exact ⟨by rw [HNO.out]; rfl, hB⟩
  have inm : ¬ (0 : Int) < (ln : Int) := by omega
  have Cnm := Lib.hid cnm
  clear cnm
  by_cases csz : size = 0
  rotate_left
  · have hno : noteOk (⟨5, id, name, size, sum, at_, data, gaps, of_, code⟩ : Nt) = false := note_bare (by simp [bareOk, csz])
    have isz : (size != 0) = true := by rw [bne_iff_ne]; exact csz
    clear csz
    have HNO := Lib.hid hno
    clear hno
    go_wp2_with fail
    go_ret
    exact ⟨by rw [HNO.out]; rfl, hB⟩
  have isz : (size != 0) = false := by rw [bne_eq_false_iff_eq]; exact csz
  have Csz := Lib.hid csz
  clear csz
  by_cases csm : sum = 0
  rotate_left
  · have hno : noteOk (⟨5, id, name, size, sum, at_, data, gaps, of_, code⟩ : Nt) = false := note_bare (by simp [bareOk, csm])
    have ism : (sum != 0) = true := by rw [bne_iff_ne]; exact csm
    clear csm
    have HNO := Lib.hid hno
    clear hno
    go_wp2_with fail
    go_ret
    exact ⟨by rw [HNO.out]; rfl, hB⟩
  have ism : (sum != 0) = false := by rw [bne_eq_false_iff_eq]; exact csm
  have Csm := Lib.hid csm
  clear csm
  by_cases cat : at_ = 0
  rotate_left
  · have hno : noteOk (⟨5, id, name, size, sum, at_, data, gaps, of_, code⟩ : Nt) = false := note_bare (by simp [bareOk, cat])
    have iat : (at_ != 0) = true := by rw [bne_iff_ne]; exact cat
    clear cat
    have HNO := Lib.hid hno
    clear hno
    go_wp2_with fail
    go_ret
    exact ⟨by rw [HNO.out]; rfl, hB⟩
  have iat : (at_ != 0) = false := by rw [bne_eq_false_iff_eq]; exact cat
  have Cat := Lib.hid cat
  clear cat
  by_cases cdt : dn = 0
  rotate_left
  · have hno : noteOk (⟨5, id, name, size, sum, at_, data, gaps, of_, code⟩ : Nt) = false := note_bare (by simp [bareOk, HD.out, cdt])
    have idt : (0 : Int) < (dn : Int) := by omega
    clear cdt
    have HNO := Lib.hid hno
    clear hno
    go_wp2_with fail
    go_ret
    exact ⟨by rw [HNO.out]; rfl, hB⟩
  have idt : ¬ (0 : Int) < (dn : Int) := by omega
  have Cdt := Lib.hid cdt
  clear cdt
  by_cases cgp : gn = 0
  rotate_left
  · have hno : noteOk (⟨5, id, name, size, sum, at_, data, gaps, of_, code⟩ : Nt) = false := note_bare (by simp [bareOk, HGN.out, cgp])
    have igp : (0 : Int) < (gn : Int) := by omega
    clear cgp
    have HNO := Lib.hid hno
    clear hno
    go_wp2_with fail
    go_ret
    exact ⟨by rw [HNO.out]; rfl, hB⟩
  have igp : ¬ (0 : Int) < (gn : Int) := by omega
  have Cgp := Lib.hid cgp
  clear cgp
  by_cases cof : of_ = 0
  rotate_left
  · have hno : noteOk (⟨5, id, name, size, sum, at_, data, gaps, of_, code⟩ : Nt) = false := note_bare (by simp [bareOk, cof])
    have iof : (of_ != 0) = true := by rw [bne_iff_ne]; exact cof
    clear cof
    have HNO := Lib.hid hno
    clear hno
    go_wp2_with fail
    go_ret
    exact ⟨by rw [HNO.out]; rfl, hB⟩
  have iof : (of_ != 0) = false := by rw [bne_eq_false_iff_eq]; exact cof
  have Cof := Lib.hid cof
  clear cof
  go_upto_region 6 with fail
  have i32 : ¬ (32 : Int) < ln := by have := HLN.out; have := Cnm.out; omega
  have H1 : Hid (rngOk size 0 65536 = true) := Lib.hid (by rw [Csz.out]; rfl)
  have H2 : Hid (rngOk sum 0 4294967295 = true) := Lib.hid (by rw [Csm.out]; rfl)
  have i33 : ¬ (1024 : Int) < (dn : Int) := by have := Cdt.out; omega
  have i34 : ¬ (20 : Int) < (gn : Int) := by have := Cgp.out; omega
  go_upto_region 11 with (first
    | (go_at_call 79; refine Calls.mono (by first | exact rin_is _ _ _ _ _ H1 | exact rin_is _ _ _ _ _ H2) ?_; rintro e w1 ⟨rfl, rfl⟩))
  have hbare : bareOk (⟨5, id, name, size, sum, at_, data, gaps, of_, code⟩ : Nt) = true := by simp [bareOk, Cnm.out, Csz.out, Csm.out, Cat.out, HD.out, Cdt.out, HGN.out, Cgp.out, Cof.out]
  have hg0 : ¬ (0 : Int) < (gn : Int) := by have := Cgp.out; omega
  have x7 := bN.cell' (i := 7) rfl
  go_loopw [4] (fun iv wr => iv = .int .i64 0 ∧ wr = W) (fun _ _ => 0)
  case atStart => exact ⟨rfl, rfl⟩
  case round =>
    obtain ⟨rfl, rfl⟩ := hrel
    by_cases d0 : code = 0
    · have hno : noteOk (⟨5, id, name, size, sum, at_, data, gaps, of_, code⟩ : Nt) = true := note_all rfl H0.out hbare (by simp [kindOk, d0])
      have j0 : (code == 0) = true := by rw [beq_iff_eq]; exact d0
      clear d0
      have HNO := Lib.hid hno
      clear hno hbare
      go_wp2_with fail
      go_ret
      exact ⟨by rw [HNO.out]; rfl, hB⟩
    have j0 : (code == 0) = false := by rw [beq_eq_false_iff_ne]; exact d0
    by_cases d9 : code = 9
    · have hno : noteOk (⟨5, id, name, size, sum, at_, data, gaps, of_, code⟩ : Nt) = true := note_all rfl H0.out hbare (by simp [kindOk, d9])
      have j9 : (code == 9) = true := by rw [beq_iff_eq]; exact d9
      clear d0 d9
      have HNO := Lib.hid hno
      clear hno hbare
      go_wp2_with fail
      go_ret
      exact ⟨by rw [HNO.out]; rfl, hB⟩
    · have hno : noteOk (⟨5, id, name, size, sum, at_, data, gaps, of_, code⟩ : Nt) = false := note_kind (by simp [kindOk, d0, d9])
      have j9 : (code == 9) = false := by rw [beq_eq_false_iff_ne]; exact d9
      clear d0 d9
      have HNO := Lib.hid hno
      clear hno
      go_wp2_with fail
      go_ret
      exact ⟨by rw [HNO.out]; rfl, hB⟩
end Go.Proofs.Ytianombjgdmbeaa
namespace Go.Proofs.Ytianombjgdmbeaa
set_option linter.unusedSimpArgs false
set_option linter.unusedVariables false
open Go.RowKit

set_option maxHeartbeats 12800000 in
set_option maxRecDepth 100000 in
theorem noteMay_6 (id : Int) (name : ByteArray) (size sum at_ : Int) (data : List UInt8) (gaps : List (Int × Int)) (of_ code : Int) (D : Option Addr) (dn dc : Nat) (G : Option Addr) (gn gc : Nat) (w : World) (hid : rngOk id 0 65535 = true) (hd : data.length = dn) (hg : gaps.length = gn) (hG : Rd w G (gps gaps)) (hdn : dn ≤ 140737488351232) (hgn : gn ≤ 8796093022200) :
    Calls Try.prog 38 #[ntv (⟨6, id, name, size, sum, at_, data, gaps, of_, code⟩ : Nt) D dn dc G gn gc] w fun e w' => e = .returned (.bool (noteOk (⟨6, id, name, size, sum, at_, data, gaps, of_, code⟩ : Nt))) ∧ Below w.heap.size w w' := by
  unfold ntv
  dsimp only
  have H0 := Lib.hid hid
  have HG := Lib.hid hG
  have HD := Lib.hid hd
  have HGN := Lib.hid hg
  clear hG hd hg hid
  obtain ⟨ln, hln⟩ : ∃ ln : Int, (name.size : Int) = ln := ⟨_, rfl⟩
  have HLN := Lib.hid hln
  have hB : ∀ o, Below w.heap.size w (w.alloc o) := fun o => (Below.refl _ _).alloc (Nat.le_refl _) _
  go_enter Try.func38, Try.ntmps38
  go_upto_region 3 with (first
    | (go_at_call 79; refine Calls.mono (by first | exact rin_is _ _ _ _ _ H0) ?_; rintro e w1 ⟨rfl, rfl⟩))
  clear hB
  have bN := Blk.new w 27 #[.int .i64 6, .int .i64 id, .string name, .int .i64 size, .int .i64 sum, .int .i64 at_, .slice D dn dc, .slice G gn gc, .int .i64 of_, .int .i64 code]
  have hB : Below w.heap.size w (w.alloc (.cells #[.int .i64 6, .int .i64 id, .string name, .int .i64 size, .int .i64 sum, .int .i64 at_, .slice D dn dc, .slice G gn gc, .int .i64 of_, .int .i64 code] 27)) := (Below.refl _ _).alloc (Nat.le_refl _) _
  go_upto_region 4 with fail
  simp only [List.append_eq, List.cons_append, List.nil_append]
  generalize w.alloc (.cells #[.int .i64 6, .int .i64 id, .string name, .int .i64 size, .int .i64 sum, .int .i64 at_, .slice D dn dc, .slice G gn gc, .int .i64 of_, .int .i64 code] 27) = W at *
  have x2 := bN.cell' (i := 2) rfl
  have x3 := bN.cell' (i := 3) rfl
  have x4 := bN.cell' (i := 4) rfl
  have x5 := bN.cell' (i := 5) rfl
  have x6 := bN.cell' (i := 6) rfl
  have x7 := bN.cell' (i := 7) rfl
  have x8 := bN.cell' (i := 8) rfl
  have x9 := bN.cell' (i := 9) rfl
  by_cases cnm : name.size = 0
  rotate_left
  · have hno : noteOk (⟨6, id, name, size, sum, at_, data, gaps, of_, code⟩ : Nt) = false := note_bare (by simp [bareOk, cnm])
    have inm : (0 : Int) < (ln : Int) := by omega
    clear cnm
    have HNO := Lib.hid hno
    clear hno
    go_wp2_with fail
    go_ret
    exact ⟨by rw [HNO.out]; rfl, hB⟩
  have inm : ¬ (0 : Int) < (ln : Int) := by omega
  have Cnm := Lib.hid cnm
  clear cnm
  by_cases csz : size = 0
  rotate_left
  · have hno : noteOk (⟨6, id, name, size, sum, at_, data, gaps, of_, code⟩ : Nt) = false := note_bare (by simp [bareOk, csz])
    have isz : (size != 0) = true := by rw [bne_iff_ne]; exact csz
    clear csz
    have HNO := Lib.hid hno
    clear hno
    go_wp2_with fail
    go_ret
    exact ⟨by rw [HNO.out]; rfl, hB⟩
  have isz : (size != 0) = false := by rw [bne_eq_false_iff_eq]; exact csz
  have Csz := Lib.hid csz
  clear csz
  by_cases csm : sum = 0
  rotate_left
  · have hno : noteOk (⟨6, id, name, size, sum, at_, data, gaps, of_, code⟩ : Nt) = false := note_bare (by simp [bareOk, csm])
    have ism : (sum != 0) = true := by rw [bne_iff_ne]; exact csm
    clear csm
    have HNO := Lib.hid hno
    clear hno
    go_wp2_with fail
    go_ret
    exact ⟨by rw [HNO.out]; rfl, hB⟩
  have ism : (sum != 0) = false := by rw [bne_eq_false_iff_eq]; exact csm
  have Csm := Lib.hid csm
  clear csm
  by_cases cat : at_ = 0
  rotate_left
  · have hno : noteOk (⟨6, id, name, size, sum, at_, data, gaps, of_, code⟩ : Nt) = false := note_bare (by simp [bareOk, cat])
    have iat : (at_ != 0) = true := by rw [bne_iff_ne]; exact cat
    clear cat
    have HNO := Lib.hid hno
    clear hno
    go_wp2_with fail
    go_ret
    exact ⟨by rw [HNO.out]; rfl, hB⟩
  have iat : (at_ != 0) = false := by rw [bne_eq_false_iff_eq]; exact cat
  have Cat := Lib.hid cat
  clear cat
  by_cases cdt : dn = 0
  rotate_left
  · have hno : noteOk (⟨6, id, name, size, sum, at_, data, gaps, of_, code⟩ : Nt) = false := note_bare (by simp [bareOk, HD.out, cdt])
    have idt : (0 : Int) < (dn : Int) := by omega
    clear cdt
    have HNO := Lib.hid hno
    clear hno
    go_wp2_with fail
    go_ret
    exact ⟨by rw [HNO.out]; rfl, hB⟩
  have idt : ¬ (0 : Int) < (dn : Int) := by omega
  have Cdt := Lib.hid cdt
  clear cdt
  by_cases cgp : gn = 0
  rotate_left
  · have hno : noteOk (⟨6, id, name, size, sum, at_, data, gaps, of_, code⟩ : Nt) = false := note_bare (by simp [bareOk, HGN.out, cgp])
    have igp : (0 : Int) < (gn : Int) := by omega
    clear cgp
    have HNO := Lib.hid hno
    clear hno
    go_wp2_with fail
    go_ret
    exact ⟨by rw [HNO.out]; rfl, hB⟩
  have igp : ¬ (0 : Int) < (gn : Int) := by omega
  have Cgp := Lib.hid cgp
  clear cgp
  by_cases ccd : code = 0
  rotate_left
  · have hno : noteOk (⟨6, id, name, size, sum, at_, data, gaps, of_, code⟩ : Nt) = false := note_bare (by simp [bareOk, ccd])
    have icd : (code != 0) = true := by rw [bne_iff_ne]; exact ccd
    clear ccd
    have HNO := Lib.hid hno
    clear hno
    go_wp2_with fail
    go_ret
    exact ⟨by rw [HNO.out]; rfl, hB⟩
  have icd : (code != 0) = false := by rw [bne_eq_false_iff_eq]; exact ccd
  have Ccd := Lib.hid ccd
  clear ccd
  go_upto_region 6 with fail
  have i32 : ¬ (32 : Int) < ln := by have := HLN.out; have := Cnm.out; omega
  have H1 : Hid (rngOk size 0 65536 = true) := Lib.hid (by rw [Csz.out]; rfl)
  have H2 : Hid (rngOk sum 0 4294967295 = true) := Lib.hid (by rw [Csm.out]; rfl)
  have i33 : ¬ (1024 : Int) < (dn : Int) := by have := Cdt.out; omega
  have i34 : ¬ (20 : Int) < (gn : Int) := by have := Cgp.out; omega
  go_upto_region 11 with (first
    | (go_at_call 79; refine Calls.mono (by first | exact rin_is _ _ _ _ _ H1 | exact rin_is _ _ _ _ _ H2) ?_; rintro e w1 ⟨rfl, rfl⟩))
  have hbare : bareOk (⟨6, id, name, size, sum, at_, data, gaps, of_, code⟩ : Nt) = true := by simp [bareOk, Cnm.out, Csz.out, Csm.out, Cat.out, HD.out, Cdt.out, HGN.out, Cgp.out, Ccd.out]
  have hg0 : ¬ (0 : Int) < (gn : Int) := by have := Cgp.out; omega
  have x7 := bN.cell' (i := 7) rfl
  go_loopw [4] (fun iv wr => iv = .int .i64 0 ∧ wr = W) (fun _ _ => 0)
  case atStart => exact ⟨rfl, rfl⟩
  case round =>
    obtain ⟨rfl, rfl⟩ := hrel
    by_cases d0 : of_ = 3
    · have hno : noteOk (⟨6, id, name, size, sum, at_, data, gaps, of_, code⟩ : Nt) = true := note_all rfl H0.out hbare (by simp [kindOk, d0])
      have j0 : (of_ == 3) = true := by rw [beq_iff_eq]; exact d0
      clear d0
      have HNO := Lib.hid hno
      clear hno hbare
      go_wp2_with fail
      go_ret
      exact ⟨by rw [HNO.out]; rfl, hB⟩
    have j0 : (of_ == 3) = false := by rw [beq_eq_false_iff_ne]; exact d0
    by_cases d9 : of_ = 5
    · have hno : noteOk (⟨6, id, name, size, sum, at_, data, gaps, of_, code⟩ : Nt) = true := note_all rfl H0.out hbare (by simp [kindOk, d9])
      have j9 : (of_ == 5) = true := by rw [beq_iff_eq]; exact d9
      clear d0 d9
      have HNO := Lib.hid hno
      clear hno hbare
      go_wp2_with fail
      go_ret
      exact ⟨by rw [HNO.out]; rfl, hB⟩
    · have hno : noteOk (⟨6, id, name, size, sum, at_, data, gaps, of_, code⟩ : Nt) = false := note_kind (by simp [kindOk, d0, d9])
      have j9 : (of_ == 5) = false := by rw [beq_eq_false_iff_ne]; exact d9
      clear d0 d9
      have HNO := Lib.hid hno
      clear hno
      go_wp2_with fail
      go_ret
      exact ⟨by rw [HNO.out]; rfl, hB⟩
end Go.Proofs.Ytianombjgdmbeaa
