/-
  Which giver may be, by the document. Is there a gap that may not be within a file (slices.ContainsFunc over gives$1, which has caught the file's length).
-/
import Derived.Test.YtianombjgdmbeaaMDeliverGives7
import Derived.Test.YtianombjgdmbeaaMDeliverGives25
import Derived.Test.YtianombjgdmbeaaMDeliverGives4
import Derived.Test.YtianombjgdmbeaaMDeliverGives5
import Derived.Test.YtianombjgdmbeaaMDeliverGives8
import Derived.RegionTactic
import Derived.Deep.DeepCutAuto
import Derived.StillTail
import Derived.StillTactics
import Derived.StillTailTactics
namespace Go.Proofs.Ytianombjgdmbeaa
set_option linter.unusedSimpArgs false
set_option linter.unusedVariables false
open Go.RowKit

theorem rng_iff {n a b : Int} : rngOk n a b = true ↔ a ≤ n ∧ n ≤ b := by simp [rngOk]
theorem offB_iff {x : Gv} : offB x = true ↔ offOk x.id x.most x.burst x.patience x.limit ∧ (1 ≤ x.name.size ∧ x.name.size ≤ 32) ∧ x.file.length ≤ 65536 := by
  unfold offB offOk
  simp only [Bool.and_eq_true, rng_iff, decide_eq_true_eq]
  constructor
  · rintro ⟨⟨⟨⟨⟨⟨h1, h2⟩, h3⟩, h4⟩, h5⟩, h6⟩, h7⟩
    exact ⟨⟨h1, h2, h3, h4, h5⟩, h6, h7⟩
  · rintro ⟨⟨h1, h2, h3, h4, h5⟩, h6, h7⟩
    exact ⟨⟨⟨⟨⟨⟨h1, h2⟩, h3⟩, h4⟩, h5⟩, h6⟩, h7⟩
theorem offB_false {x : Gv} (h : ¬ (offOk x.id x.most x.burst x.patience x.limit ∧ (1 ≤ x.name.size ∧ x.name.size ≤ 32) ∧ x.file.length ≤ 65536)) : offB x = false := by
  cases e : offB x
  · rfl
  · exact absurd (offB_iff.1 e) h
/-- What an offer gives back, as far as a question wants it. -/
def OffRes (x : Gv) (w : World) (e : Ending) (w' : World) : Prop := ∃ (y : Gv) (A : Option Addr) (n c : Nat) (k : Int), e = .returned (.tuple #[gvv y A n c none 0 0, .int .i64 k]) ∧ decide (k = 0) = offB x ∧ Below w.heap.size w w'
theorem GivRes.off {w w' : World} {id : Int} {s : ByteArray} {l : List UInt8} {mo bu : Int} {fi : Bool} {pa li k : Int} {e : Ending} {x : Gv} (h : GivRes w w' id s l mo bu fi pa li k e) (hk : decide (k = 0) = offB x) : OffRes x w e w' := by
  obtain ⟨A, c, rfl, hO, hb⟩ := h
  exact ⟨⟨id, s, l, mo, bu, 0, fi, 0, [], 0, pa, 0, li⟩, A, l.length, c, k, rfl, hk, hb⟩
theorem offered_is (x : Gv) (F : Option Addr) (fn fc : Nat) (w : World) (hl : x.file.length = fn) (ha : Rd w F (bvs x.file)) :
    Calls Try.prog 98 #[.int .i64 x.id, .string x.name, .slice F fn fc, .int .i64 x.most, .int .i64 x.burst, .int .i64 x.patience, .int .i64 x.limit] w (OffRes x w) := by
  by_cases h1 : offOk x.id x.most x.burst x.patience x.limit
  · by_cases h2 : 1 ≤ x.name.size ∧ x.name.size ≤ 32
    · by_cases h3 : fn ≤ 65536
      · refine (offered_good x.id x.name F x.file fn fc x.most x.burst x.patience x.limit w hl ha h1 h2.1 h2.2 h3).mono ?_
        intro e w' h
        exact h.off (by rw [offB_iff.2 ⟨h1, h2, by omega⟩]; rfl)
      · refine (offered_file x.id x.name F fn fc x.most x.burst x.patience x.limit w h1 h2.1 h2.2 (by omega)).mono ?_
        intro e w' h
        exact h.off (by rw [offB_false (fun q => h3 (by omega))]; rfl)
    · refine (offered_name x.id x.name F fn fc x.most x.burst x.patience x.limit w h1 h2).mono ?_
      intro e w' h
      exact h.off (by rw [offB_false (fun q => h2 q.2.1)]; rfl)
  · refine (offered_no x.id x.name F fn fc x.most x.burst x.patience x.limit w h1).mono ?_
    intro e w' h
    exact h.off (by rw [offB_false (fun q => h1 q.1)]; rfl)
theorem offer_is (x : Gv) (F : Option Addr) (fn fc : Nat) (w : World) (hl : x.file.length = fn) (ha : Rd w F (bvs x.file)) :
    Calls Try.prog 110 #[.int .i64 x.id, .string x.name, .slice F fn fc, .int .i64 x.most, .int .i64 x.burst, .int .i64 x.patience, .int .i64 x.limit] w (OffRes x w) := by
  by_cases h1 : offOk x.id x.most x.burst x.patience x.limit
  · by_cases h2 : 1 ≤ x.name.size ∧ x.name.size ≤ 32
    · by_cases h3 : fn ≤ 65536
      · refine (offer_good x.id x.name F x.file fn fc x.most x.burst x.patience x.limit w hl ha h1 h2.1 h2.2 h3).mono ?_
        intro e w' h
        exact h.off (by rw [offB_iff.2 ⟨h1, h2, by omega⟩]; rfl)
      · refine (offer_file x.id x.name F fn fc x.most x.burst x.patience x.limit w h1 h2.1 h2.2 (by omega)).mono ?_
        intro e w' h
        exact h.off (by rw [offB_false (fun q => h3 (by omega))]; rfl)
    · refine (offer_name x.id x.name F fn fc x.most x.burst x.patience x.limit w h1 h2).mono ?_
      intro e w' h
      exact h.off (by rw [offB_false (fun q => h2 q.2.1)]; rfl)
  · refine (offer_no x.id x.name F fn fc x.most x.burst x.patience x.limit w h1).mono ?_
    intro e w' h
    exact h.off (by rw [offB_false (fun q => h1 q.1)]; rfl)
/-- Where a giver may stand, part by part. -/
theorem stand_false {x : Gv} (h : rngOk x.stage 0 4 = false ∨ rngOk x.at_ 0 x.file.length = false ∨ (x.stage ≠ 0 ∧ (x.at_ ≠ x.file.length ∨ x.first = true))) : gvOk x = false := by
  apply gv_stand
  unfold standB
  rcases h with h | h | ⟨h1, h2 | h2⟩
  · rw [h]; rfl
  · rw [h]; simp
  · rw [decide_eq_false h1, decide_eq_false h2]; simp
  · rw [decide_eq_false h1, h2]; simp
theorem stand_true {x : Gv} (h0 : rngOk x.stage 0 4 = true) (h1 : rngOk x.at_ 0 x.file.length = true) (h : x.stage = 0 ∨ (x.at_ = x.file.length ∧ x.first = false)) : standB x = true := by
  unfold standB
  rw [h0, h1]
  rcases h with h | ⟨h, h2⟩
  · rw [decide_eq_true h]; rfl
  · rw [decide_eq_true h, h2]; simp
set_option maxHeartbeats 6400000 in
set_option maxRecDepth 100000 in
theorem rgMay_any (x : Gv) (F : Option Addr) (fn fc : Nat) (A : Option Addr) (an ac : Nat) (w : World) (hf : x.file.length = fn) (ha : x.again.length = an) (hF : Rd w F (bvs x.file)) (hA : Rd w A (gps x.again)) (hfn : fn ≤ 140737488351232) (han : an ≤ 8796093022200) :
    Calls Try.prog 60 #[gvv x F fn fc A an ac] w fun e w' => e = .returned (.bool (gvOk x)) ∧ Below w.heap.size w w' := by
  obtain ⟨r, hr⟩ : ∃ r, gvOk x = r := ⟨_, rfl⟩
  rw [hr]
  have HR := Lib.hid hr
  have CO := Lib.hid (fun (V : World) (hB : Below w.heap.size w V) => offered_is x F fn fc V hf (hF.below hB))
  have CG := Lib.hid (fun (a b : Int) (V : World) => gapMayL_any (fn : Int) a b V)
  have HF := Lib.hid hf
  have HL := Lib.hid ha
  have HA := Lib.hid hA
  clear hr hf ha hF hA
  obtain ⟨id, name, file, most, burst, stage, first, at_, again, timer, patience, tries, limit⟩ := x
  unfold gvv gvc
  dsimp only at CO HF HL HA ⊢
  have b1 := Blk.new w 55 #[.int .i64 id, .string name, .slice F fn fc, .int .i64 most, .int .i64 burst, .int .i64 stage, .bool first, .int .i64 at_, .slice A an ac, .int .i64 timer, .int .i64 patience, .int .i64 tries, .int .i64 limit]
  have hB : Below w.heap.size w (w.alloc (.cells #[.int .i64 id, .string name, .slice F fn fc, .int .i64 most, .int .i64 burst, .int .i64 stage, .bool first, .int .i64 at_, .slice A an ac, .int .i64 timer, .int .i64 patience, .int .i64 tries, .int .i64 limit] 55)) := (Below.refl _ _).alloc (Nat.le_refl _) _
  go_enter Try.func60, Try.ntmps60
  go_wp2_with fail
  refine (CO.out _ hB).mono ?_
  intro e w1 hq
  obtain ⟨⟨y0, y1, y2, y3, y4, y5, y6, y7, y8, y9, y10, y11, y12⟩, A1, n1, c1, k, rfl, hk, hb⟩ := hq
  unfold gvv gvc
  dsimp only
  replace b1 := b1.step hb
  replace hB := hB.trans (hb.mono hB.size)
  clear hb CO
  go_upto_region 2 with fail
  replace b1 := b1.alloc (.cells #[.int .i64 y0, .string y1, .slice A1 n1 c1, .int .i64 y3, .int .i64 y4, .int .i64 y5, .bool y6, .int .i64 y7, .slice none 0 0, .int .i64 y9, .int .i64 y10, .int .i64 y11, .int .i64 y12] 55)
  replace hB := hB.alloc hB.size (.cells #[.int .i64 y0, .string y1, .slice A1 n1 c1, .int .i64 y3, .int .i64 y4, .int .i64 y5, .bool y6, .int .i64 y7, .slice none 0 0, .int .i64 y9, .int .i64 y10, .int .i64 y11, .int .i64 y12] 55)
  generalize w1.alloc (.cells #[.int .i64 y0, .string y1, .slice A1 n1 c1, .int .i64 y3, .int .i64 y4, .int .i64 y5, .bool y6, .int .i64 y7, .slice none 0 0, .int .i64 y9, .int .i64 y10, .int .i64 y11, .int .i64 y12] 55) = W at *
  have x2 := b1.cell' (i := 2) rfl
  have x5 := b1.cell' (i := 5) rfl
  have x6 := b1.cell' (i := 6) rfl
  have x7 := b1.cell' (i := 7) rfl
  have x8 := b1.cell' (i := 8) rfl
  have x9 := b1.cell' (i := 9) rfl
  have x10 := b1.cell' (i := 10) rfl
  have x11 := b1.cell' (i := 11) rfl
  have x12 := b1.cell' (i := 12) rfl
  cases hO : offB ⟨id, name, file, most, burst, stage, first, at_, again, timer, patience, tries, limit⟩
  · rw [hO] at hk
    have hk0 : ¬ k = 0 := of_decide_eq_false hk
    have ik : (k == 0) = false := by rw [beq_eq_false_iff_ne]; exact hk0
    have ik2 : (k != 0) = true := by rw [bne, ik]; rfl
    have HO := Lib.hid hO
    clear hk hk0 hO
    go_wp2_with fail
    go_ret
    exact ⟨ret_bool (by rw [← HR.out]; exact (gv_off HO.out).symm), hB⟩
  rw [hO] at hk
  obtain rfl : k = 0 := of_decide_eq_true hk
  obtain ⟨hO1, hO2, hO3⟩ := offB_iff.1 hO
  have HO := Lib.hid hO
  clear hk hO
  obtain ⟨-, -, -, ⟨hp1, hp2⟩, -⟩ := hO1
  dsimp only at hp1 hp2
  clear hO2 hO3
  by_cases s0 : 0 ≤ stage
  rotate_left
  · have s1 : stage < 0 := by omega
    have hst : Hid (rngOk stage 0 4 = false) := Lib.hid (decide_eq_false (by omega))
    clear s0
    go_wp2_with fail
    go_ret
    exact ⟨ret_bool (by rw [← HR.out]; exact (stand_false (.inl hst.out)).symm), hB⟩
  by_cases s1 : stage ≤ 4
  rotate_left
  · have s2 : 4 < stage := by omega
    have hst : Hid (rngOk stage 0 4 = false) := Lib.hid (decide_eq_false (by omega))
    clear s1
    go_wp2_with fail
    go_ret
    exact ⟨ret_bool (by rw [← HR.out]; exact (stand_false (.inl hst.out)).symm), hB⟩
  have hst : Hid (rngOk stage 0 4 = true) := Lib.hid (decide_eq_true ⟨s0, s1⟩)
  cases hat0 : rngOk at_ 0 (fn : Int)
  · have hat := Lib.hid hat0
    clear hat0
    go_wp2_with fail
    refine (rin_is at_ 0 (fn : Int) false _ hat).mono ?_
    rintro e _ ⟨rfl, rfl⟩
    go_wp2_with fail
    go_ret
    exact ⟨ret_bool (by rw [← HR.out]; exact (stand_false (.inr (.inl (by dsimp only; rw [HF.out]; exact hat.out)))).symm), hB⟩
  have hat := Lib.hid hat0
  clear hat0
  go_wp2_with fail
  refine (rin_is at_ 0 (fn : Int) true _ hat).mono ?_
  rintro e _ ⟨rfl, rfl⟩
  by_cases hl : an ≤ 1000
  rotate_left
  · have hl2 : (1000 : Int) < (an : Int) := by omega
    have HLL : Hid (¬ again.length ≤ 1000) := Lib.hid (by rw [HL.out]; exact hl)
    clear hl
    go_wp2_with fail
    go_ret
    exact ⟨ret_bool (by rw [← HR.out]; exact (gv_len HLL.out).symm), hB⟩
  have hl2 : ¬ (1000 : Int) < (an : Int) := by omega
  by_cases bad : stage ≠ 0 ∧ (at_ ≠ (fn : Int) ∨ first = true)
  · obtain ⟨z, q⟩ := bad
    have HS : Hid (gvOk ⟨id, name, file, most, burst, stage, first, at_, again, timer, patience, tries, limit⟩ = false) := Lib.hid (stand_false (.inr (.inr ⟨z, by dsimp only; rw [HF.out]; exact q⟩)))
    have iz : (stage == 0) = false := by rw [beq_eq_false_iff_ne]; exact z
    have iz2 : (stage != 0) = true := by rw [bne, iz]; rfl
    by_cases hq : at_ = (fn : Int)
    · have q2 : first = true := by rcases q with h | h; exact absurd hq h; exact h
      have iq : (at_ == (fn : Int)) = true := by rw [beq_iff_eq]; exact hq
      have iq2 : (at_ != (fn : Int)) = false := by rw [bne, iq]; rfl
      subst q2
      clear q hq z
      go_wp2_with fail
      go_ret
      exact ⟨ret_bool (by rw [← HR.out]; exact HS.out.symm), hB⟩
    · have iq : (at_ == (fn : Int)) = false := by rw [beq_eq_false_iff_ne]; exact hq
      have iq2 : (at_ != (fn : Int)) = true := by rw [bne, iq]; rfl
      clear q hq z
      go_wp2_with fail
      go_ret
      exact ⟨ret_bool (by rw [← HR.out]; exact HS.out.symm), hB⟩
  have HST : Hid (standB ⟨id, name, file, most, burst, stage, first, at_, again, timer, patience, tries, limit⟩ = true) := Lib.hid (stand_true hst.out (by dsimp only; rw [HF.out]; exact hat.out) (by
    dsimp only
    rw [HF.out]
    by_cases z : stage = 0
    · exact .inl z
    · refine .inr ⟨?_, ?_⟩
      · exact Classical.byContradiction fun h => bad ⟨z, .inl h⟩
      · cases first
        · rfl
        · exact absurd ⟨z, .inr rfl⟩ bad))
  have key : ((stage == 0) = true ∧ (stage != 0) = false) ∨ ((stage == 0) = false ∧ (stage != 0) = true ∧ (at_ == (fn : Int)) = true ∧ (at_ != (fn : Int)) = false ∧ first = false) := by
    by_cases z : stage = 0
    · left
      have iz : (stage == 0) = true := by rw [beq_iff_eq]; exact z
      exact ⟨iz, by rw [bne, iz]; rfl⟩
    · right
      have iz : (stage == 0) = false := by rw [beq_eq_false_iff_ne]; exact z
      have q : at_ = (fn : Int) := Classical.byContradiction fun h => bad ⟨z, .inl h⟩
      have iq : (at_ == (fn : Int)) = true := by rw [beq_iff_eq]; exact q
      refine ⟨iz, by rw [bne, iz]; rfl, iq, by rw [bne, iq]; rfl, ?_⟩
      cases first
      · rfl
      · exact absurd ⟨z, .inr rfl⟩ bad
  clear bad
  obtain ⟨CB, hCB⟩ : ∃ CB : Array Value, CB = #[.int .i64 id, .string name, .slice F fn fc, .int .i64 most, .int .i64 burst, .int .i64 stage, .bool first, .int .i64 at_, .slice A an ac, .int .i64 timer, .int .i64 patience, .int .i64 tries, .int .i64 limit] := ⟨_, rfl⟩
  have c2 : Hid (CB[2]? = some (.slice F fn fc)) := Lib.hid (by rw [hCB]; rfl)
  have c8 : Hid (CB[8]? = some (.slice A an ac)) := Lib.hid (by rw [hCB]; rfl)
  have c9 : Hid (CB[9]? = some (.int .i64 timer)) := Lib.hid (by rw [hCB]; rfl)
  have c10 : Hid (CB[10]? = some (.int .i64 patience)) := Lib.hid (by rw [hCB]; rfl)
  have c11 : Hid (CB[11]? = some (.int .i64 tries)) := Lib.hid (by rw [hCB]; rfl)
  have c12 : Hid (CB[12]? = some (.int .i64 limit)) := Lib.hid (by rw [hCB]; rfl)
  rw [← hCB] at b1
  clear hCB
  have HAA := Lib.hid (fun (h : again.all (gapIn (fn : Int)) = false) => gv_again (x := ⟨id, name, file, most, burst, stage, first, at_, again, timer, patience, tries, limit⟩) (by dsimp only; rw [HF.out]; exact h))
  have HWW := Lib.hid (fun (h : waitB ⟨id, name, file, most, burst, stage, first, at_, again, timer, patience, tries, limit⟩ = false) => gv_wait h)
  have HALL := Lib.hid (fun (h : again.all (gapIn (fn : Int)) = true) (h2 : waitB ⟨id, name, file, most, burst, stage, first, at_, again, timer, patience, tries, limit⟩ = true) => gv_all (x := ⟨id, name, file, most, burst, stage, first, at_, again, timer, patience, tries, limit⟩) HO.out HST.out (by dsimp only; rw [HL.out]; exact hl) (by dsimp only; rw [HF.out]; exact h) h2)
  rw [HR.out] at HAA HWW HALL
  clear HO HST HR HF
  rcases key with ⟨iz, iz2⟩ | ⟨iz, iz2, iq, iq2, rfl⟩
  all_goals
    go_wp2_with fail
    clear x2 x5 x6 x7 x8 x9 x10 x11 x12
    go_loopw [5] (fun iv wr => ∃ i : Nat, i ≤ an ∧ iv = .int .i64 (i : Int) ∧ Below w.heap.size w wr ∧ Blk wr w.heap.size 55 CB ∧ Hid (∀ (a : Nat) (y : Int × Int), a < i → again[a]? = some y → gapIn (fn : Int) y = true)) (fun iv _ => an - (intOf iv).toNat)
    case atStart => exact ⟨0, Nat.zero_le _, rfl, hB, b1, Lib.hid (fun a y h => by omega)⟩
    case round =>
      clear hB b1
      obtain ⟨i, hi, rfl, hB, b1, HQ⟩ := hrel
      have x8 := b1.cell' c8.out
      have x2 := b1.cell' c2.out
      by_cases h5 : i < an
      · have h5i : (i : Int) < (an : Int) := by omega
        have hip : (0 : Int) ≤ (i : Int) := by omega
        obtain ⟨g, hg⟩ : ∃ g, again[i]? = some g := ⟨_, List.getElem?_eq_getElem (by rw [HL.out]; exact h5)⟩
        obtain ⟨gb, o, rfl, f0, f1⟩ := rdgap_cells (HA.out.below hB) hg
        have HX := Lib.hid hg
        clear hg
        obtain ⟨ga, gz⟩ := g
        dsimp only at f0 f1
        have CGI := Lib.hid (fun (V : World) => CG.out ga gz V)
        go_wp2_with fail
        go_still_tail 8, (by kernel_rfl)
        go_wp2_with fail
        cases hk : gapIn (fn : Int) (ga, gz)
        · have HA2 : Hid (again.all (gapIn (fn : Int)) = false) := Lib.hid (by
            rw [List.all_eq_false]
            exact ⟨(ga, gz), List.mem_of_getElem? HX.out, by rw [hk]; simp⟩)
          simp only [hk] at CGI
          clear hk HQ
          refine (CGI.out _).mono ?_
          rintro e w2 ⟨rfl, hb2⟩
          have hb3 : Below wr.heap.size wr w2 := ((Below.refl wr.heap.size wr).drew).trans hb2
          go_wp2_with fail
          go_ret
          exact ⟨ret_bool (HAA.out HA2.out).symm, hB.trans (hb3.mono hB.size)⟩
        · have HQ2 : Hid (∀ (a : Nat) (y : Int × Int), a < i + 1 → again[a]? = some y → gapIn (fn : Int) y = true) := Lib.hid (fun a y ha hay => by
            rcases Nat.lt_or_ge a i with h | h
            · exact HQ.out a y h hay
            · obtain rfl : a = i := by omega
              rw [HX.out] at hay
              injection hay with hay
              rw [← hay]
              exact hk)
          simp only [hk] at CGI
          clear hk HQ
          refine (CGI.out _).mono ?_
          rintro e w2 ⟨rfl, hb2⟩
          have hb3 : Below wr.heap.size wr w2 := ((Below.refl wr.heap.size wr).drew).trans hb2
          have b2 := b1.step hb3
          have hB2 := hB.trans (hb3.mono hB.size)
          clear hb2 hb3 b1 hB x8 x2 f0 f1
          go_wp2_with fail
          go_roundw
          case rel => exact ⟨i + 1, by omega, by go_num, hB2, b2, HQ2⟩
          case measure => simp [intOf]; omega
      · obtain rfl : i = an := by omega
        have h5i : ¬ (i : Int) < (i : Int) := by omega
        have HA2 : Hid (again.all (gapIn (fn : Int)) = true) := Lib.hid (by
          rw [List.all_eq_true]
          intro y hy
          obtain ⟨j, hj, rfl⟩ := List.getElem_of_mem hy
          exact HQ.out j _ (by rw [← HL.out]; exact hj) (List.getElem?_eq_getElem hj))
        have x9 := b1.cell' c9.out
        have x10 := b1.cell' c10.out
        have x11 := b1.cell' c11.out
        have x12 := b1.cell' c12.out
        clear HQ
        go_wp2_with fail
        cases ht0 : rngOk timer 0 (patience - 1)
        · have ht := Lib.hid ht0
          refine (rin_is timer 0 (patience - 1) false _ ht).mono ?_
          rintro e _ ⟨rfl, rfl⟩
          go_wp2_with fail
          go_ret
          exact ⟨ret_bool (HWW.out (by unfold waitB; dsimp only; rw [ht.out]; rfl)).symm, hB⟩
        have ht := Lib.hid ht0
        clear ht0
        refine (rin_is timer 0 (patience - 1) true _ ht).mono ?_
        rintro e _ ⟨rfl, rfl⟩
        go_wp2_with fail
        cases hu0 : rngOk tries 0 limit
        · have hu := Lib.hid hu0
          refine (rin_is tries 0 limit false _ hu).mono ?_
          rintro e _ ⟨rfl, rfl⟩
          go_wp2_with fail
          go_ret
          exact ⟨ret_bool (HWW.out (by unfold waitB; dsimp only; rw [hu.out]; simp)).symm, hB⟩
        have hu := Lib.hid hu0
        clear hu0
        refine (rin_is tries 0 limit true _ hu).mono ?_
        rintro e _ ⟨rfl, rfl⟩
        go_wp2_with fail
        go_ret
        exact ⟨ret_bool (HALL.out HA2.out (by unfold waitB; dsimp only; rw [ht.out, hu.out]; rfl)).symm, hB⟩
end Go.Proofs.Ytianombjgdmbeaa
namespace Go.Proofs.Ytianombjgdmbeaa
set_option linter.unusedSimpArgs false
set_option linter.unusedVariables false
open Go.RowKit

theorem oddL_any (L a b : Int) (p : Nat) (w : World) (hc : w.cell? ⟨p, 0, none⟩ = some (.int .i64 L)) : Calls Try.prog 111 #[.agg #[.int .i64 a, .int .i64 b], .pointer (some ⟨p, 0, none⟩)] w fun e w' => e = .returned (.bool (!gapIn L (a, b))) ∧ Below w.heap.size w w' := by
  have hp := World.block_lt_of_cell? _ _ hc
  have hB : Below w.heap.size w (w.alloc (.cells #[.int .i64 a, .int .i64 b] 66)) := (Below.refl _ _).alloc (Nat.le_refl _) _
  have hc2 := (hB.cell (p := ⟨p, 0, none⟩) hp).trans hc
  have CS := Lib.hid (fun (V : World) => spanMayL_any L a b V)
  go_enter Try.func111, Try.ntmps111
  go_wp2_with fail
  refine (CS.out _).mono ?_
  rintro e w1 ⟨rfl, hb⟩
  go_wp2_with fail
  go_ret
  exact ⟨rfl, hB.trans (hb.mono hB.size)⟩
set_option maxHeartbeats 3200000 in
set_option maxRecDepth 100000 in
theorem indexL_any (L : Int) (p : Nat) (l : List (Int × Int)) (B : Option Addr) (n d : Nat) (w : World) (hn : l.length = n) (h : Rd w B (gps l)) (hnn : n ≤ 8796093022200) (hc : w.cell? ⟨p, 0, none⟩ = some (.int .i64 L)) (hp : p < w.heap.size) :
    Calls Try.prog 107 #[.slice B n d, .func (.func 111) #[] #[.pointer (some ⟨p, 0, none⟩)]] w fun e w' => ∃ k : Int, e = .returned (.int .i64 k) ∧ decide (0 ≤ k) = !(l.all (gapIn L)) ∧ Below w.heap.size w w' := by
  have HN := Lib.hid hn
  have HRd := Lib.hid h
  have HC := Lib.hid hc
  clear hn h hc
  go_enter Try.func107, Try.ntmps107
  go_wp2_with fail
  go_loopw [8] (fun iv wr => ∃ i : Nat, i ≤ n ∧ iv = .int .i64 (i : Int) ∧ Below w.heap.size w wr ∧ Hid (∀ (a : Nat) (y : Int × Int), a < i → l[a]? = some y → gapIn L y = true)) (fun iv _ => n - (intOf iv).toNat)
  case atStart => exact ⟨0, Nat.zero_le _, rfl, Below.refl _ _, Lib.hid (fun a y h => by omega)⟩
  case round =>
    obtain ⟨i, hi, rfl, hB, HF⟩ := hrel
    by_cases h5 : i < n
    · have h5i : (i : Int) < (n : Int) := by omega
      have hip : (0 : Int) ≤ (i : Int) := by omega
      have hiL : i < l.length := by rw [HN.out]; exact h5
      have hx := List.getElem?_eq_getElem hiL
      obtain ⟨x, hxx⟩ : ∃ x, l[i] = x := ⟨_, rfl⟩
      rw [hxx] at hx
      clear hxx hiL
      obtain ⟨g, o, rfl, y0, y1⟩ := rdgap_cells (HRd.out.below hB) hx
      have HX := Lib.hid hx
      clear hx
      obtain ⟨ga, gb⟩ := x
      dsimp only at y0 y1
      have CF := Lib.hid (fun V (hV : V.cell? ⟨p, 0, none⟩ = some (.int .i64 L)) => oddL_any L ga gb p V hV)
      have hcw := Lib.hid ((hB.cell (p := ⟨p, 0, none⟩) hp).trans HC.out)
      cases hk : gapIn L (ga, gb)
      · have hall : l.all (gapIn L) = false := by
          rw [List.all_eq_false]
          exact ⟨(ga, gb), List.mem_of_getElem? HX.out, by rw [hk]; simp⟩
        have HA := Lib.hid hall
        simp only [hk, Bool.not_false] at CF
        clear hk hall HF
        go_wp2_with (go_at_call 111; refine (CF.out _ hcw.out).mono ?_; rintro e w1 ⟨rfl, hb1⟩)
        go_ret
        exact ⟨(i : Int), rfl, by rw [HA.out, decide_eq_true hip]; rfl, hB.trans (hb1.mono hB.size)⟩
      · have HF2 : Hid (∀ (a : Nat) (y : Int × Int), a < i + 1 → l[a]? = some y → gapIn L y = true) := Lib.hid (fun a y ha hay => by
          rcases Nat.lt_or_ge a i with h | h
          · exact HF.out a y h hay
          · obtain rfl : a = i := by omega
            rw [HX.out] at hay
            injection hay with hay
            rw [← hay]
            exact hk)
        simp only [hk, Bool.not_true] at CF
        clear hk HF
        go_wp2_with (go_at_call 111; refine (CF.out _ hcw.out).mono ?_; rintro e w1 ⟨rfl, hb1⟩)
        go_roundw
        case rel => exact ⟨i + 1, by omega, by go_num, hB.trans (hb1.mono hB.size), HF2⟩
        case measure => simp [intOf]; omega
    · obtain rfl : i = n := by omega
      have h5i : ¬ (i : Int) < (i : Int) := by omega
      have hall : l.all (gapIn L) = true := by
        rw [List.all_eq_true]
        intro y hy
        obtain ⟨j, hj, rfl⟩ := List.getElem_of_mem hy
        exact HF.out j _ (by rw [← HN.out]; exact hj) (List.getElem?_eq_getElem hj)
      have HA := Lib.hid hall
      clear hall HF
      go_wp2_with fail
      go_ret
      exact ⟨-1, rfl, by rw [HA.out]; rfl, hB⟩
theorem containsL_any (L : Int) (p : Nat) (l : List (Int × Int)) (B : Option Addr) (n d : Nat) (w : World) (hn : l.length = n) (h : Rd w B (gps l)) (hnn : n ≤ 8796093022200) (hc : w.cell? ⟨p, 0, none⟩ = some (.int .i64 L)) (hp : p < w.heap.size) :
    Calls Try.prog 86 #[.slice B n d, .func (.func 111) #[] #[.pointer (some ⟨p, 0, none⟩)]] w fun e w' => e = .returned (.bool (!(l.all (gapIn L)))) ∧ Below w.heap.size w w' := by
  have CI := Lib.hid (indexL_any L p l B n d w hn h hnn hc hp)
  go_enter Try.func86, Try.ntmps86
  go_wp2_with fail
  refine CI.out.mono ?_
  rintro e w1 ⟨k, rfl, hk, hb⟩
  have HK := Lib.hid hk
  clear hk
  by_cases h0 : 0 ≤ k
  · go_wp2_with fail
    go_ret
    exact ⟨by rw [← HK.out]; first | rfl | (rw [decide_eq_true h0]; rfl), hb⟩
  · go_wp2_with fail
    go_ret
    exact ⟨by rw [← HK.out]; first | rfl | exact ret_bool (by simp; omega), hb⟩
end Go.Proofs.Ytianombjgdmbeaa
