/-
  The law DeliverGives, walked.
-/
import Derived.Test.YtianombjgdmbeaaMDeliverGives38
import Derived.Test.YtianombjgdmbeaaMDeliverGives41
import Derived.Test.YtianombjgdmbeaaMDeliverGives42
import Derived.Test.YtianombjgdmbeaaMDeliverGives43
namespace Go.Proofs.Ytianombjgdmbeaa
set_option linter.unusedSimpArgs false
set_option linter.unusedVariables false
open Go.RowKit

set_option maxHeartbeats 6400000 in
set_option maxRecDepth 100000 in
theorem deliverGives_walk (x : GvA) (w : World) (hx : GiverArg w x) :
    Calls Try.prog 7 #[gvav x] w fun e w' => e = .returned (.bool true) ∧ Below w.heap.size w w' := by
  obtain ⟨x, F, fc, A, ac⟩ := x
  obtain ⟨hF, hA, hfn, han⟩ := hx
  unfold gvav
  dsimp only at hF hA hfn han ⊢
  obtain ⟨y, ns, k, hR⟩ : ∃ y ns k, gvsR x = (y, ns, k) := ⟨_, _, _, rfl⟩
  obtain ⟨fn, hf⟩ : ∃ fn, x.file.length = fn := ⟨_, rfl⟩
  obtain ⟨an, ha⟩ : ∃ an, x.again.length = an := ⟨_, rfl⟩
  rw [hf] at hfn
  rw [ha] at han
  rw [hf, ha]
  obtain ⟨k1, k2, k3, k4⟩ := gvs_keep hR (by omega)
  have HYL := Lib.hid k1
  have HYF : Hid (y.file.length ≤ 140737488351232) := Lib.hid (by
    rcases k2 with h | h
    · rw [h, hf]; exact hfn
    · rw [h]; exact Nat.zero_le _)
  have HNF := Lib.hid (And.intro k3 k4)
  clear k1 k2 k3 k4
  have CR := Lib.hid (fun (V : World) (hB : Below w.heap.size w V) => giveOf_any x F fn fc A an ac y ns k V hR hf ha (hF.below hB) (hA.below hB) hfn han)
  have CA := Lib.hid (fun (V : World) (hB : Below w.heap.size w V) (F1 : Option Addr) (n1 f1 : Nat) (A1 : Option Addr) (m1 a1 : Nat) (O : Option Addr) (on oc : Nat) (l : List NtR) (base : Nat) (hM : GvMem V base y ns F1 n1 f1 A1 m1 a1 O on oc l) =>
    giverAs_Gives undef x y ns k F fn fc A an ac F1 n1 f1 A1 m1 a1 O on oc l V hf ha (hF.below hB) (hA.below hB) hfn han hM.fl hM.al hM.file.rd hM.again.rd (by rw [← hM.fl]; exact HYF.out) (by rw [← hM.al]; exact HYL.out) (hM.parts.rd hM.out) hM.ln hM.nl HNF.out.1 (by rw [← hM.nl]; have := HNF.out.2; omega)
      (fun V' F' A' f' a' hBV h1 h2 => give_any x F' fn f' A' an a' y ns k V' hR hf ha h1 h2 hfn han))
  clear hF hA hf ha HYL HYF HNF hR
  obtain ⟨id, name, file, most, burst, stage, first, at_, again, timer, patience, tries, limit⟩ := x
  unfold gvv gvc at CR CA
  unfold gvv gvc
  dsimp only at CR CA ⊢
  have bx := Blk.new w 55 #[.int .i64 id, .string name, .slice F fn fc, .int .i64 most, .int .i64 burst, .int .i64 stage, .bool first, .int .i64 at_, .slice A an ac, .int .i64 timer, .int .i64 patience, .int .i64 tries, .int .i64 limit]
  have hB : Below w.heap.size w (w.alloc (.cells #[.int .i64 id, .string name, .slice F fn fc, .int .i64 most, .int .i64 burst, .int .i64 stage, .bool first, .int .i64 at_, .slice A an ac, .int .i64 timer, .int .i64 patience, .int .i64 tries, .int .i64 limit] 55)) := (Below.refl _ _).alloc (Nat.le_refl _) _
  go_enter Try.func7, Try.ntmps7
  go_upto_region 1 with fail
  generalize w.alloc (.cells #[.int .i64 id, .string name, .slice F fn fc, .int .i64 most, .int .i64 burst, .int .i64 stage, .bool first, .int .i64 at_, .slice A an ac, .int .i64 timer, .int .i64 patience, .int .i64 tries, .int .i64 limit] 55) = W at *
  go_wp2_with (refine wpList_load_row rfl 55 (.tmp 1) rfl w.heap.size rfl 55 #[.int .i64 id, .string name, .slice F fn fc, .int .i64 most, .int .i64 burst, .int .i64 stage, .bool first, .int .i64 at_, .slice A an ac, .int .i64 timer, .int .i64 patience, .int .i64 tries, .int .i64 limit] (0, 0) _ bx Try.underlying55 rfl giversz ?_)
  refine (CR.out _ hB).mono ?_
  intro e w1 h1
  obtain ⟨F1, n1, f1, A1, m1, a1, O, on, oc, l, rfl, hM, hb⟩ := h1
  replace bx := bx.step hb
  replace hB := hB.trans (hb.mono hB.size)
  clear hb CR
  obtain ⟨yid, yname, yfile, ymost, yburst, ystage, yfirst, yat_, yagain, ytimer, ypatience, ytries, ylimit⟩ := y
  unfold gvv gvc
  dsimp only at CA ⊢
  go_upto_region 2 with fail
  have b5 := Blk.new w1 55 #[.int .i64 yid, .string yname, .slice F1 n1 f1, .int .i64 ymost, .int .i64 yburst, .int .i64 ystage, .bool yfirst, .int .i64 yat_, .slice A1 m1 a1, .int .i64 ytimer, .int .i64 ypatience, .int .i64 ytries, .int .i64 ylimit]
  replace bx := bx.alloc (.cells #[.int .i64 yid, .string yname, .slice F1 n1 f1, .int .i64 ymost, .int .i64 yburst, .int .i64 ystage, .bool yfirst, .int .i64 yat_, .slice A1 m1 a1, .int .i64 ytimer, .int .i64 ypatience, .int .i64 ytries, .int .i64 ylimit] 55)
  replace hM := hM.map (fun _ _ _ _ _ _ h => h.alloc (.cells #[.int .i64 yid, .string yname, .slice F1 n1 f1, .int .i64 ymost, .int .i64 yburst, .int .i64 ystage, .bool yfirst, .int .i64 yat_, .slice A1 m1 a1, .int .i64 ytimer, .int .i64 ypatience, .int .i64 ytries, .int .i64 ylimit] 55))
  replace hB := hB.alloc hB.size (.cells #[.int .i64 yid, .string yname, .slice F1 n1 f1, .int .i64 ymost, .int .i64 yburst, .int .i64 ystage, .bool yfirst, .int .i64 yat_, .slice A1 m1 a1, .int .i64 ytimer, .int .i64 ypatience, .int .i64 ytries, .int .i64 ylimit] 55)
  generalize w1.alloc (.cells #[.int .i64 yid, .string yname, .slice F1 n1 f1, .int .i64 ymost, .int .i64 yburst, .int .i64 ystage, .bool yfirst, .int .i64 yat_, .slice A1 m1 a1, .int .i64 ytimer, .int .i64 ypatience, .int .i64 ytries, .int .i64 ylimit] 55) = W1 at *
  have CA2 := Lib.hid (CA.out W1 hB F1 n1 f1 A1 m1 a1 O on oc l _ hM)
  clear CA hM
  go_wp2_with (first
    | (refine wpList_load_row rfl 55 (.tmp 1) rfl w.heap.size rfl 55 #[.int .i64 id, .string name, .slice F fn fc, .int .i64 most, .int .i64 burst, .int .i64 stage, .bool first, .int .i64 at_, .slice A an ac, .int .i64 timer, .int .i64 patience, .int .i64 tries, .int .i64 limit] (0, 0) _ bx Try.underlying55 rfl giversz ?_)
    | (refine wpList_load_row rfl 55 (.tmp 3) rfl w1.heap.size rfl 55 #[.int .i64 yid, .string yname, .slice F1 n1 f1, .int .i64 ymost, .int .i64 yburst, .int .i64 ystage, .bool yfirst, .int .i64 yat_, .slice A1 m1 a1, .int .i64 ytimer, .int .i64 ypatience, .int .i64 ytries, .int .i64 ylimit] (0, 0) _ b5 Try.underlying55 rfl giversz ?_))
  refine CA2.out.mono ?_
  rintro e w3 ⟨rfl, hb⟩
  go_wp2_with fail
  go_ret
  exact ⟨rfl, hB.trans (hb.mono hB.size)⟩
end Go.Proofs.Ytianombjgdmbeaa
