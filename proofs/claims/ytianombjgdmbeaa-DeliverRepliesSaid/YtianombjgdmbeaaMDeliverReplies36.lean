/-
  The law DeliverReplies, walked.
-/
import Derived.Test.YtianombjgdmbeaaMDeliverReplies30
import Derived.Test.YtianombjgdmbeaaMDeliverReplies31
import Derived.Test.YtianombjgdmbeaaMDeliverReplies34
import Derived.Test.YtianombjgdmbeaaMDeliverReplies35
namespace Go.Proofs.Ytianombjgdmbeaa
set_option linter.unusedSimpArgs false
set_option linter.unusedVariables false
open Go.RowKit

theorem replyR_file {x : Gv} {n : Nt} {y : Gv} {ns : List Nt} {k : Int} (h : replyR x n = (y, ns, k)) : y.file = x.file ∨ y.file = [] := by
  have e : y = (replyR x n).1 := by rw [h]
  rw [e]
  unfold replyR
  split
  · exact .inr rfl
  · split
    · exact .inl rfl
    · split
      · exact .inl rfl
      · split
        · exact .inl rfl
        · split
          · exact .inl rfl
          · split
            · exact .inl (endG_file _ _)
            · split <;> exact .inl rfl
theorem replyR_notes {x : Gv} {n : Nt} {y : Gv} {ns : List Nt} {k : Int} (h : replyR x n = (y, ns, k)) : ns = [] ∨ ns = [seenDone x.id] := by
  have e : ns = (replyR x n).2.1 := by rw [h]
  rw [e]
  unfold replyR
  split
  · exact .inl rfl
  · split
    · exact .inl rfl
    · split
      · exact .inl rfl
      · split
        · exact .inl rfl
        · split
          · exact .inl rfl
          · split
            · exact .inr rfl
            · split <;> exact .inl rfl
set_option maxHeartbeats 6400000 in
set_option maxRecDepth 100000 in
theorem deliverReplies_walk (x : GvA) (m : NtA) (w : World) (hx : GiverArg w x) (hm : NoteArg w m) :
    Calls Try.prog 6 #[gvav x, ntav m] w fun e w' => e = .returned (.bool true) ∧ Below w.heap.size w w' := by
  obtain ⟨x, F, fc, A, ac⟩ := x
  obtain ⟨n, D, dc, G, gc⟩ := m
  obtain ⟨hF, hA, hfn, han⟩ := hx
  obtain ⟨hD, hG, hdn, hgn⟩ := hm
  unfold gvav ntav
  dsimp only at hF hA hfn han hD hG hdn hgn ⊢
  obtain ⟨y, ns, k, hR⟩ : ∃ y ns k, replyR x n = (y, ns, k) := ⟨_, _, _, rfl⟩
  obtain ⟨fn, hf⟩ : ∃ fn, x.file.length = fn := ⟨_, rfl⟩
  obtain ⟨an, ha⟩ : ∃ an, x.again.length = an := ⟨_, rfl⟩
  obtain ⟨dn, hd⟩ : ∃ dn, n.data.length = dn := ⟨_, rfl⟩
  obtain ⟨gn, hg⟩ : ∃ gn, n.gaps.length = gn := ⟨_, rfl⟩
  rw [hf] at hfn
  rw [ha] at han
  rw [hd] at hdn
  rw [hg] at hgn
  rw [hf, ha, hd, hg]
  have HYL := Lib.hid (replyR_len hR (by omega))
  have HYF : Hid (y.file.length ≤ 140737488351232) := Lib.hid (by
    rcases replyR_file hR with h | h
    · rw [h, hf]; exact hfn
    · rw [h]; exact Nat.zero_le _)
  have HNF : Hid ((∀ z ∈ ns, NoteFits z) ∧ ns.length ≤ 1) := Lib.hid (by
    rcases replyR_notes hR with h | h <;> rw [h]
    · exact ⟨fun z hz => (by cases hz), by simp⟩
    · exact ⟨fun z hz => (by rw [List.mem_singleton.1 hz]; exact ⟨by simp [seenDone], by simp [seenDone]⟩), by simp⟩)
  have CR := Lib.hid (fun (V : World) (hB : Below w.heap.size w V) => replyOf_any x F fn fc A an ac n D dn dc G gn gc y ns k V hR hf ha (hF.below hB) (hA.below hB) hfn han hd hg (hD.below hB) (hG.below hB) hdn hgn)
  have CO := Lib.hid (fun (V : World) (hB : Below w.heap.size w V) => noteOwn_any n D dn dc G gn gc V hd hg hdn hgn (hD.below hB) (hG.below hB))
  have CA := Lib.hid (fun (V : World) (hB : Below w.heap.size w V) (nb g : Nat) (H : Option Addr) (hc : Nat) (F1 : Option Addr) (n1 f1 : Nat) (A1 : Option Addr) (m1 a1 : Nat) (O : Option Addr) (on oc : Nat) (l : List NtR) (base : Nat) (hM : GvMem V base y ns F1 n1 f1 A1 m1 a1 O on oc l) (hH : Rd V H (gps n.gaps)) (hHl : ∀ i, blk H = some i → i < V.heap.size) (hnl : nb < V.heap.size) (hnb : Blk V nb 27 #[.int .i64 n.kind, .int .i64 n.id, .string n.name, .int .i64 n.size, .int .i64 n.sum, .int .i64 n.at_, .slice (some ⟨g, 0, none⟩) dn (dn + 5), .slice H gn hc, .int .i64 n.of_, .int .i64 n.code]) =>
    giverAs_Replies (.pointer (some ⟨nb, 0, none⟩)) x y ns k F fn fc A an ac F1 n1 f1 A1 m1 a1 O on oc l V hf ha (hF.below hB) (hA.below hB) hfn han hM.fl hM.al hM.file.rd hM.again.rd (by rw [← hM.fl]; exact HYF.out) (by rw [← hM.al]; exact HYL.out) (hM.parts.rd hM.out) hM.ln hM.nl HNF.out.1 (by rw [← hM.nl]; have := HNF.out.2; omega)
      (fun V' F' A' f' a' hBV h1 h2 => replies1_any x F' fn f' A' an a' n (some ⟨g, 0, none⟩) dn (dn + 5) H gn hc y ns k nb V' hR hf ha h1 h2 hfn han hd hg (hH.below hBV) (fun i hi => by have := hHl i hi; have := hBV.size; omega) hgn (hnb.below' hBV)))
  have CS := Lib.hid (fun (V : World) (hB : Below w.heap.size w V) (g : Nat) (H : Option Addr) (hc : Nat) (hRm : Rd V (some ⟨g, 0, none⟩) (bvs n.data)) (hH : Rd V H (gps n.gaps)) => sameNote_yes n (some ⟨g, 0, none⟩) D dn (dn + 5) dc H G gn hc gc V hd hg (by omega) (by omega) hRm (hD.below hB) hH (hG.below hB))
  clear hF hA hD hG hf ha hd hg HYL HYF HNF hR
  obtain ⟨id, name, file, most, burst, stage, first, at_, again, timer, patience, tries, limit⟩ := x
  obtain ⟨nk, nid, nn, ns_, nsum, nat_, nd, ng, nof, ncode⟩ := n
  unfold gvv gvc at CR CA
  unfold ntv at CR CO CS
  unfold gvv gvc ntv
  dsimp only at CR CO CA CS ⊢
  have bx := (Blk.new w 55 #[.int .i64 id, .string name, .slice F fn fc, .int .i64 most, .int .i64 burst, .int .i64 stage, .bool first, .int .i64 at_, .slice A an ac, .int .i64 timer, .int .i64 patience, .int .i64 tries, .int .i64 limit]).alloc (.cells #[.int .i64 nk, .int .i64 nid, .string nn, .int .i64 ns_, .int .i64 nsum, .int .i64 nat_, .slice D dn dc, .slice G gn gc, .int .i64 nof, .int .i64 ncode] 27)
  have bn := Blk.new (w.alloc (.cells #[.int .i64 id, .string name, .slice F fn fc, .int .i64 most, .int .i64 burst, .int .i64 stage, .bool first, .int .i64 at_, .slice A an ac, .int .i64 timer, .int .i64 patience, .int .i64 tries, .int .i64 limit] 55)) 27 #[.int .i64 nk, .int .i64 nid, .string nn, .int .i64 ns_, .int .i64 nsum, .int .i64 nat_, .slice D dn dc, .slice G gn gc, .int .i64 nof, .int .i64 ncode]
  rw [show (w.alloc (.cells #[.int .i64 id, .string name, .slice F fn fc, .int .i64 most, .int .i64 burst, .int .i64 stage, .bool first, .int .i64 at_, .slice A an ac, .int .i64 timer, .int .i64 patience, .int .i64 tries, .int .i64 limit] 55)).heap.size = w.heap.size + 1 by simp] at bn
  have hB : Below w.heap.size w ((w.alloc (.cells #[.int .i64 id, .string name, .slice F fn fc, .int .i64 most, .int .i64 burst, .int .i64 stage, .bool first, .int .i64 at_, .slice A an ac, .int .i64 timer, .int .i64 patience, .int .i64 tries, .int .i64 limit] 55)).alloc (.cells #[.int .i64 nk, .int .i64 nid, .string nn, .int .i64 ns_, .int .i64 nsum, .int .i64 nat_, .slice D dn dc, .slice G gn gc, .int .i64 nof, .int .i64 ncode] 27)) := ((Below.refl _ _).alloc (Nat.le_refl _) _).alloc (by simp) _
  go_enter Try.func6, Try.ntmps6
  go_upto_region 1 with fail
  generalize (w.alloc (.cells #[.int .i64 id, .string name, .slice F fn fc, .int .i64 most, .int .i64 burst, .int .i64 stage, .bool first, .int .i64 at_, .slice A an ac, .int .i64 timer, .int .i64 patience, .int .i64 tries, .int .i64 limit] 55)).alloc (.cells #[.int .i64 nk, .int .i64 nid, .string nn, .int .i64 ns_, .int .i64 nsum, .int .i64 nat_, .slice D dn dc, .slice G gn gc, .int .i64 nof, .int .i64 ncode] 27) = W at *
  go_wp2_with (first
    | (refine wpList_load_row rfl 55 (.tmp 2) rfl w.heap.size rfl 55 #[.int .i64 id, .string name, .slice F fn fc, .int .i64 most, .int .i64 burst, .int .i64 stage, .bool first, .int .i64 at_, .slice A an ac, .int .i64 timer, .int .i64 patience, .int .i64 tries, .int .i64 limit] (0, 0) _ bx Try.underlying55 rfl giversz ?_)
    | (refine wpList_load_row rfl 27 (.tmp 3) rfl (w.heap.size + 1) rfl 27 #[.int .i64 nk, .int .i64 nid, .string nn, .int .i64 ns_, .int .i64 nsum, .int .i64 nat_, .slice D dn dc, .slice G gn gc, .int .i64 nof, .int .i64 ncode] (0, 0) _ bn Try.underlying27 rfl notesz ?_))
  refine (CR.out _ hB).mono ?_
  intro e w1 h1
  obtain ⟨F1, n1, f1, A1, m1, a1, O, on, oc, l, rfl, hM, hb⟩ := h1
  replace bx := bx.step hb
  replace bn := bn.step hb
  replace hB := hB.trans (hb.mono hB.size)
  clear hb CR
  obtain ⟨yid, yname, yfile, ymost, yburst, ystage, yfirst, yat_, yagain, ytimer, ypatience, ytries, ylimit⟩ := y
  unfold gvv gvc
  dsimp only at CA ⊢
  go_upto_region 2 with fail
  have b5 := Blk.new w1 55 #[.int .i64 yid, .string yname, .slice F1 n1 f1, .int .i64 ymost, .int .i64 yburst, .int .i64 ystage, .bool yfirst, .int .i64 yat_, .slice A1 m1 a1, .int .i64 ytimer, .int .i64 ypatience, .int .i64 ytries, .int .i64 ylimit]
  replace bx := bx.alloc (.cells #[.int .i64 yid, .string yname, .slice F1 n1 f1, .int .i64 ymost, .int .i64 yburst, .int .i64 ystage, .bool yfirst, .int .i64 yat_, .slice A1 m1 a1, .int .i64 ytimer, .int .i64 ypatience, .int .i64 ytries, .int .i64 ylimit] 55)
  replace bn := bn.alloc (.cells #[.int .i64 yid, .string yname, .slice F1 n1 f1, .int .i64 ymost, .int .i64 yburst, .int .i64 ystage, .bool yfirst, .int .i64 yat_, .slice A1 m1 a1, .int .i64 ytimer, .int .i64 ypatience, .int .i64 ytries, .int .i64 ylimit] 55)
  replace hM := hM.map (fun _ _ _ _ _ _ h => h.alloc (.cells #[.int .i64 yid, .string yname, .slice F1 n1 f1, .int .i64 ymost, .int .i64 yburst, .int .i64 ystage, .bool yfirst, .int .i64 yat_, .slice A1 m1 a1, .int .i64 ytimer, .int .i64 ypatience, .int .i64 ytries, .int .i64 ylimit] 55))
  replace hB := hB.alloc hB.size (.cells #[.int .i64 yid, .string yname, .slice F1 n1 f1, .int .i64 ymost, .int .i64 yburst, .int .i64 ystage, .bool yfirst, .int .i64 yat_, .slice A1 m1 a1, .int .i64 ytimer, .int .i64 ypatience, .int .i64 ytries, .int .i64 ylimit] 55)
  generalize w1.alloc (.cells #[.int .i64 yid, .string yname, .slice F1 n1 f1, .int .i64 ymost, .int .i64 yburst, .int .i64 ystage, .bool yfirst, .int .i64 yat_, .slice A1 m1 a1, .int .i64 ytimer, .int .i64 ypatience, .int .i64 ytries, .int .i64 ylimit] 55) = W1 at *
  go_wp2_with (refine wpList_load_row rfl 27 (.tmp 3) rfl (w.heap.size + 1) rfl 27 #[.int .i64 nk, .int .i64 nid, .string nn, .int .i64 ns_, .int .i64 nsum, .int .i64 nat_, .slice D dn dc, .slice G gn gc, .int .i64 nof, .int .i64 ncode] (0, 0) _ bn Try.underlying27 rfl notesz ?_)
  refine (CO.out _ hB).mono ?_
  rintro e w2 ⟨g, H, hc, rfl, hg, hRm, hH, hb⟩
  replace bx := bx.step hb
  replace bn := bn.step hb
  replace b5 := b5.step hb
  replace hM := hM.step hb
  replace hB := hB.trans (hb.mono hB.size)
  clear hb CO
  go_upto_region 3 with fail
  have b8 := Blk.new w2 27 #[.int .i64 nk, .int .i64 nid, .string nn, .int .i64 ns_, .int .i64 nsum, .int .i64 nat_, .slice (some ⟨g, 0, none⟩) dn (dn + 5), .slice H gn hc, .int .i64 nof, .int .i64 ncode]
  replace bx := bx.alloc (.cells #[.int .i64 nk, .int .i64 nid, .string nn, .int .i64 ns_, .int .i64 nsum, .int .i64 nat_, .slice (some ⟨g, 0, none⟩) dn (dn + 5), .slice H gn hc, .int .i64 nof, .int .i64 ncode] 27)
  replace bn := bn.alloc (.cells #[.int .i64 nk, .int .i64 nid, .string nn, .int .i64 ns_, .int .i64 nsum, .int .i64 nat_, .slice (some ⟨g, 0, none⟩) dn (dn + 5), .slice H gn hc, .int .i64 nof, .int .i64 ncode] 27)
  replace b5 := b5.alloc (.cells #[.int .i64 nk, .int .i64 nid, .string nn, .int .i64 ns_, .int .i64 nsum, .int .i64 nat_, .slice (some ⟨g, 0, none⟩) dn (dn + 5), .slice H gn hc, .int .i64 nof, .int .i64 ncode] 27)
  replace hM := hM.map (fun _ _ _ _ _ _ h => h.alloc (.cells #[.int .i64 nk, .int .i64 nid, .string nn, .int .i64 ns_, .int .i64 nsum, .int .i64 nat_, .slice (some ⟨g, 0, none⟩) dn (dn + 5), .slice H gn hc, .int .i64 nof, .int .i64 ncode] 27))
  replace hRm := hRm.below ((Below.refl _ _).alloc (Nat.le_refl _) (.cells #[.int .i64 nk, .int .i64 nid, .string nn, .int .i64 ns_, .int .i64 nsum, .int .i64 nat_, .slice (some ⟨g, 0, none⟩) dn (dn + 5), .slice H gn hc, .int .i64 nof, .int .i64 ncode] 27))
  replace hH := hH.alloc (.cells #[.int .i64 nk, .int .i64 nid, .string nn, .int .i64 ns_, .int .i64 nsum, .int .i64 nat_, .slice (some ⟨g, 0, none⟩) dn (dn + 5), .slice H gn hc, .int .i64 nof, .int .i64 ncode] 27)
  replace hB := hB.alloc hB.size (.cells #[.int .i64 nk, .int .i64 nid, .string nn, .int .i64 ns_, .int .i64 nsum, .int .i64 nat_, .slice (some ⟨g, 0, none⟩) dn (dn + 5), .slice H gn hc, .int .i64 nof, .int .i64 ncode] 27)
  generalize w2.alloc (.cells #[.int .i64 nk, .int .i64 nid, .string nn, .int .i64 ns_, .int .i64 nsum, .int .i64 nat_, .slice (some ⟨g, 0, none⟩) dn (dn + 5), .slice H gn hc, .int .i64 nof, .int .i64 ncode] 27) = W2 at *
  have hRd := hRm.rd
  have CA2 := Lib.hid (CA.out W2 hB w2.heap.size g H hc F1 n1 f1 A1 m1 a1 O on oc l _ hM hH.rd (fun i hi => (hH.lt i hi).2) b8.lt b8)
  clear CA hM
  go_wp2_with (first
    | (refine wpList_load_row rfl 55 (.tmp 2) rfl w.heap.size rfl 55 #[.int .i64 id, .string name, .slice F fn fc, .int .i64 most, .int .i64 burst, .int .i64 stage, .bool first, .int .i64 at_, .slice A an ac, .int .i64 timer, .int .i64 patience, .int .i64 tries, .int .i64 limit] (0, 0) _ bx Try.underlying55 rfl giversz ?_)
    | (refine wpList_load_row rfl 55 (.tmp 5) rfl w1.heap.size rfl 55 #[.int .i64 yid, .string yname, .slice F1 n1 f1, .int .i64 ymost, .int .i64 yburst, .int .i64 ystage, .bool yfirst, .int .i64 yat_, .slice A1 m1 a1, .int .i64 ytimer, .int .i64 ypatience, .int .i64 ytries, .int .i64 ylimit] (0, 0) _ b5 Try.underlying55 rfl giversz ?_))
  refine CA2.out.mono ?_
  rintro e w3 ⟨rfl, hb⟩
  replace bn := bn.step hb
  replace b8 := b8.step hb
  replace hH := hH.step hb
  replace hRd := hRd.step hb
  replace hB := hB.trans (hb.mono hB.size)
  clear hb CA2 bx b5
  have x0 := bn.cell' (i := 0) rfl
  have y0 := b8.cell' (i := 0) rfl
  have x1 := bn.cell' (i := 1) rfl
  have y1 := b8.cell' (i := 1) rfl
  have x2 := bn.cell' (i := 2) rfl
  have y2 := b8.cell' (i := 2) rfl
  have x3 := bn.cell' (i := 3) rfl
  have y3 := b8.cell' (i := 3) rfl
  have x4 := bn.cell' (i := 4) rfl
  have y4 := b8.cell' (i := 4) rfl
  have x5 := bn.cell' (i := 5) rfl
  have y5 := b8.cell' (i := 5) rfl
  have x6 := bn.cell' (i := 6) rfl
  have y6 := b8.cell' (i := 6) rfl
  have x7 := bn.cell' (i := 7) rfl
  have y7 := b8.cell' (i := 7) rfl
  have x8 := bn.cell' (i := 8) rfl
  have y8 := b8.cell' (i := 8) rfl
  have x9 := bn.cell' (i := 9) rfl
  have y9 := b8.cell' (i := 9) rfl
  go_wp2_with fail
  refine (CS.out _ hB g H hc hRd hH.rd).mono ?_
  rintro e w4 ⟨rfl, hb⟩
  go_wp2_with fail
  go_ret
  exact ⟨rfl, hB.trans (hb.mono hB.size)⟩
end Go.Proofs.Ytianombjgdmbeaa
