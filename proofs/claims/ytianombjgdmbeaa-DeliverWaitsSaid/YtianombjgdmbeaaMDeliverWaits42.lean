/-
  The law DeliverWaits, walked.
-/
import Derived.Test.YtianombjgdmbeaaMDeliverWaits39
import Derived.Test.YtianombjgdmbeaaMDeliverWaits41
namespace Go.Proofs.Ytianombjgdmbeaa
set_option linter.unusedSimpArgs false
set_option linter.unusedVariables false
open Go.RowKit

theorem whole_len {x : Tk} {n : ByteArray} {d : List UInt8} {k : Int} (h : wholeR x = (n, d, k)) : d.length ≤ x.file.length := by
  unfold wholeR at h
  split at h
  · injection h with e1 h; injection h with e2 e3; rw [← e2]; simp
  · split at h
    · injection h with e1 h; injection h with e2 e3; rw [← e2]; simp
    · injection h with e1 h; injection h with e2 e3; rw [← e2, List.length_take]; omega
set_option maxHeartbeats 12800000 in
set_option maxRecDepth 100000 in
theorem deliverWaits_walk (x : TkA) (w : World) (hx : TakerArg w x) :
    Calls Try.prog 5 #[tkav x] w fun e w' => e = .returned (.bool true) ∧ Below w.heap.size w w' := by
  obtain ⟨x, F, fc, A, ac⟩ := x
  obtain ⟨hF, hA, hfn, hfc, han⟩ := hx
  unfold tkav
  dsimp only at hF hA hfn hfc han ⊢
  obtain ⟨y, ns, k, hR⟩ : ∃ y ns k, waitR x = (y, ns, k) := ⟨_, _, _, rfl⟩
  obtain ⟨nm, dt, wk, hW⟩ : ∃ n d k, wholeR x = (n, d, k) := ⟨_, _, _, rfl⟩
  have hdl := whole_len hW
  obtain ⟨fn, hf⟩ : ∃ fn, x.file.length = fn := ⟨_, rfl⟩
  obtain ⟨an, ha⟩ : ∃ an, x.have_.length = an := ⟨_, rfl⟩
  rw [hf] at hfn hfc hdl
  rw [ha] at han
  rw [hf, ha]
  obtain ⟨dn, hdn⟩ : ∃ dn, dt.length = dn := ⟨_, rfl⟩
  rw [hdn] at hdl
  obtain ⟨k1, k2, k3, k4⟩ := waitR_fits hR
  have HYF : Hid (y.file.length ≤ 140737488351232) := Lib.hid (by
    rcases k1 with h | h
    · rw [h, hf]; exact hfn
    · rw [h]; exact Nat.zero_le _)
  have HYL : Hid (y.have_.length ≤ 8796093022200) := Lib.hid (by
    rcases k2 with h | h
    · rw [h, ha]; exact han
    · rw [h]; exact Nat.zero_le _)
  have HNF := Lib.hid (And.intro k3 k4)
  clear k1 k2 k3 k4
  have CR := Lib.hid (fun (V : World) (hB : Below w.heap.size w V) => waitOf_any x F fn fc A an ac y ns k V hR hf ha (hF.below hB) (hA.below hB) hfn han)
  have CW := Lib.hid (fun (V : World) (hB : Below w.heap.size w V) => wholeOf_any x F fn fc A an ac nm dt wk V hW hf ha (hF.below hB) (hA.below hB) hfn hfc han)
  have CO := Lib.hid (fun (V : World) (hB : Below w.heap.size w V) => takerOf_v x F fn fc A an ac V hf ha (hF.below hB) (hA.below hB) hfn han)
  have CP := Lib.hid (fun (V : World) (F9 : Option Addr) (f9 : Nat) (A9 : Option Addr) (a9 : Nat) (h1 : Rd V F9 (bvs x.file)) (h2 : Rd V A9 (gps x.have_)) (h3 : fn ≤ f9) => whole_any x F9 fn f9 A9 an a9 nm dt wk V hW hf ha h1 h2 hfn h3 han)
  have CS := Lib.hid (fun (V : World) (hB : Below w.heap.size w V) (F9 : Option Addr) (f9 : Nat) (A9 : Option Addr) (a9 : Nat) (h1 : Rd V F9 (bvs x.file)) (h2 : Rd V A9 (gps x.have_)) => sameTv_yes x F9 F fn f9 fc A9 A an a9 ac V hf ha (by omega) (by omega) h1 (hF.below hB) h2 (hA.below hB))
  have CA := Lib.hid (fun (V : World) (hB : Below w.heap.size w V) (F1 : Option Addr) (n1 f1 : Nat) (A1 : Option Addr) (m1 a1 : Nat) (O : Option Addr) (on oc : Nat) (l : List NtR) (base : Nat) (hM : GvMem V base (pg y) ns F1 n1 f1 A1 m1 a1 O on oc l) =>
    takerAs_Waits undef x y ns k F fn fc A an ac F1 n1 f1 A1 m1 a1 O on oc l V hf ha (hF.below hB) (hA.below hB) hfn han hM.fl hM.al hM.file.rd hM.again.rd (by have h := HYF.out; have e : y.file.length = n1 := hM.fl; omega) (by have h := HYL.out; have e : y.have_.length = m1 := hM.al; omega) (hM.parts.rd hM.out) hM.ln hM.nl HNF.out.1 (by have e := hM.nl; have := HNF.out.2; omega)
      (fun V' F' A' f' a' hBV h1 h2 h3 => wait_any x F' fn f' A' an a' y ns k V' hR hf ha h1 h2 hfn h3 han))
  have HDN := Lib.hid hdn
  clear hF hA hf ha HYL HYF HNF hR hW hdn
  unfold WholeRes at CW CP
  rw [HDN.out] at CW CP
  obtain ⟨id, known, name, size, ended, last, sum, have_, file, stage, timer, patience, tries, limit⟩ := x
  unfold tvv tkv tkc at CR CA CW CO CP CS
  unfold tvv tkv tkc
  dsimp only at CR CA CW CO CP CS ⊢
  have b1 := Blk.new w 44 #[.int .i64 id, .bool known, .string name, .int .i64 size, .bool ended, .int .i64 last, .int .i64 sum, .slice A an ac, .slice F fn fc, .int .i64 stage, .int .i64 timer, .int .i64 patience, .int .i64 tries, .int .i64 limit]
  have hB : Below w.heap.size w (w.alloc (.cells #[.int .i64 id, .bool known, .string name, .int .i64 size, .bool ended, .int .i64 last, .int .i64 sum, .slice A an ac, .slice F fn fc, .int .i64 stage, .int .i64 timer, .int .i64 patience, .int .i64 tries, .int .i64 limit] 44)) := (Below.refl _ _).alloc (Nat.le_refl _) _
  go_enter Try.func5, Try.ntmps5
  go_upto_region 1 with fail
  generalize w.alloc (.cells #[.int .i64 id, .bool known, .string name, .int .i64 size, .bool ended, .int .i64 last, .int .i64 sum, .slice A an ac, .slice F fn fc, .int .i64 stage, .int .i64 timer, .int .i64 patience, .int .i64 tries, .int .i64 limit] 44) = W at *
  go_wp2_with (refine wpList_load_row rfl 44 (.tmp 1) rfl w.heap.size rfl 44 #[.int .i64 id, .bool known, .string name, .int .i64 size, .bool ended, .int .i64 last, .int .i64 sum, .slice A an ac, .slice F fn fc, .int .i64 stage, .int .i64 timer, .int .i64 patience, .int .i64 tries, .int .i64 limit] (0, 0) _ b1 Try.underlying44 rfl takersz ?_)
  refine (CR.out _ hB).mono ?_
  intro e w1 h1
  obtain ⟨F1, n1, f1, A1, m1, a1, O, on, oc, l, rfl, hM, hb⟩ := h1
  replace b1 := b1.step hb
  replace hB := hB.trans (hb.mono hB.size)
  clear hb CR
  obtain ⟨yid, yknown, yname, ysize, yended, ylast, ysum, yhave_, yfile, ystage, ytimer, ypatience, ytries, ylimit⟩ := y
  unfold tvv tkv tkc
  dsimp only at CA ⊢
  go_upto_region 2 with fail
  have b3 := Blk.new w1 44 #[.int .i64 yid, .bool yknown, .string yname, .int .i64 ysize, .bool yended, .int .i64 ylast, .int .i64 ysum, .slice A1 m1 a1, .slice F1 n1 f1, .int .i64 ystage, .int .i64 ytimer, .int .i64 ypatience, .int .i64 ytries, .int .i64 ylimit]
  replace b1 := b1.alloc (.cells #[.int .i64 yid, .bool yknown, .string yname, .int .i64 ysize, .bool yended, .int .i64 ylast, .int .i64 ysum, .slice A1 m1 a1, .slice F1 n1 f1, .int .i64 ystage, .int .i64 ytimer, .int .i64 ypatience, .int .i64 ytries, .int .i64 ylimit] 44)
  replace hM := hM.map (fun _ _ _ _ _ _ h => h.alloc (.cells #[.int .i64 yid, .bool yknown, .string yname, .int .i64 ysize, .bool yended, .int .i64 ylast, .int .i64 ysum, .slice A1 m1 a1, .slice F1 n1 f1, .int .i64 ystage, .int .i64 ytimer, .int .i64 ypatience, .int .i64 ytries, .int .i64 ylimit] 44))
  replace hB := hB.alloc hB.size (.cells #[.int .i64 yid, .bool yknown, .string yname, .int .i64 ysize, .bool yended, .int .i64 ylast, .int .i64 ysum, .slice A1 m1 a1, .slice F1 n1 f1, .int .i64 ystage, .int .i64 ytimer, .int .i64 ypatience, .int .i64 ytries, .int .i64 ylimit] 44)
  obtain ⟨p3, hp3⟩ : ∃ p, w1.heap.size = p := ⟨_, rfl⟩
  rw [hp3] at b3 ⊢
  clear hp3
  generalize w1.alloc (.cells #[.int .i64 yid, .bool yknown, .string yname, .int .i64 ysize, .bool yended, .int .i64 ylast, .int .i64 ysum, .slice A1 m1 a1, .slice F1 n1 f1, .int .i64 ystage, .int .i64 ytimer, .int .i64 ypatience, .int .i64 ytries, .int .i64 ylimit] 44) = W1 at *
  trace "A"
  go_wp2_with (refine wpList_load_row rfl 44 (.tmp 1) rfl w.heap.size rfl 44 #[.int .i64 id, .bool known, .string name, .int .i64 size, .bool ended, .int .i64 last, .int .i64 sum, .slice A an ac, .slice F fn fc, .int .i64 stage, .int .i64 timer, .int .i64 patience, .int .i64 tries, .int .i64 limit] (0, 0) _ b1 Try.underlying44 rfl takersz ?_)
  refine (CW.out _ hB).mono ?_
  rintro e w2 ⟨D, dc, rfl, hD, hb⟩
  have zD := hD.lt
  have z1 := hb.size
  replace b1 := b1.step hb
  replace b3 := b3.step hb
  replace hM := hM.step hb
  replace hB := hB.trans (hb.mono hB.size)
  clear hb CW
  trace "B"
  go_wp2_with (refine wpList_load_row rfl 44 (.tmp 1) rfl w.heap.size rfl 44 #[.int .i64 id, .bool known, .string name, .int .i64 size, .bool ended, .int .i64 last, .int .i64 sum, .slice A an ac, .slice F fn fc, .int .i64 stage, .int .i64 timer, .int .i64 patience, .int .i64 tries, .int .i64 limit] (0, 0) _ b1 Try.underlying44 rfl takersz ?_)
  refine (CO.out _ hB).mono ?_
  rintro e w3 ⟨F9, f9, A9, a9, rfl, hF9, hA9, hb⟩
  have z2 := hb.size
  replace b1 := b1.step hb
  replace b3 := b3.step hb
  replace hM := hM.step hb
  replace hD := hD.step hb
  replace hB := hB.trans (hb.mono hB.size)
  clear hb CO
  go_upto_region 4 with fail
  have b9 := Blk.new w3 44 #[.int .i64 id, .bool known, .string name, .int .i64 size, .bool ended, .int .i64 last, .int .i64 sum, .slice A9 an a9, .slice F9 fn f9, .int .i64 stage, .int .i64 timer, .int .i64 patience, .int .i64 tries, .int .i64 limit]
  replace b1 := b1.alloc (.cells #[.int .i64 id, .bool known, .string name, .int .i64 size, .bool ended, .int .i64 last, .int .i64 sum, .slice A9 an a9, .slice F9 fn f9, .int .i64 stage, .int .i64 timer, .int .i64 patience, .int .i64 tries, .int .i64 limit] 44)
  replace b3 := b3.alloc (.cells #[.int .i64 id, .bool known, .string name, .int .i64 size, .bool ended, .int .i64 last, .int .i64 sum, .slice A9 an a9, .slice F9 fn f9, .int .i64 stage, .int .i64 timer, .int .i64 patience, .int .i64 tries, .int .i64 limit] 44)
  replace hM := hM.map (fun _ _ _ _ _ _ h => h.alloc (.cells #[.int .i64 id, .bool known, .string name, .int .i64 size, .bool ended, .int .i64 last, .int .i64 sum, .slice A9 an a9, .slice F9 fn f9, .int .i64 stage, .int .i64 timer, .int .i64 patience, .int .i64 tries, .int .i64 limit] 44))
  replace hD := hD.alloc (.cells #[.int .i64 id, .bool known, .string name, .int .i64 size, .bool ended, .int .i64 last, .int .i64 sum, .slice A9 an a9, .slice F9 fn f9, .int .i64 stage, .int .i64 timer, .int .i64 patience, .int .i64 tries, .int .i64 limit] 44)
  replace hF9 := hF9.alloc (.cells #[.int .i64 id, .bool known, .string name, .int .i64 size, .bool ended, .int .i64 last, .int .i64 sum, .slice A9 an a9, .slice F9 fn f9, .int .i64 stage, .int .i64 timer, .int .i64 patience, .int .i64 tries, .int .i64 limit] 44)
  replace hA9 := hA9.alloc (.cells #[.int .i64 id, .bool known, .string name, .int .i64 size, .bool ended, .int .i64 last, .int .i64 sum, .slice A9 an a9, .slice F9 fn f9, .int .i64 stage, .int .i64 timer, .int .i64 patience, .int .i64 tries, .int .i64 limit] 44)
  replace hB := hB.alloc hB.size (.cells #[.int .i64 id, .bool known, .string name, .int .i64 size, .bool ended, .int .i64 last, .int .i64 sum, .slice A9 an a9, .slice F9 fn f9, .int .i64 stage, .int .i64 timer, .int .i64 patience, .int .i64 tries, .int .i64 limit] 44)
  have hff := hF9.le
  have zF9 := Lib.hid (fun (q : Nat) (h : blk F9 = some q) => (hF9.lt q h).2)
  obtain ⟨p9, hp9⟩ : ∃ p, w3.heap.size = p := ⟨_, rfl⟩
  rw [hp9] at b9 z2 ⊢
  clear hp9
  generalize w3.alloc (.cells #[.int .i64 id, .bool known, .string name, .int .i64 size, .bool ended, .int .i64 last, .int .i64 sum, .slice A9 an a9, .slice F9 fn f9, .int .i64 stage, .int .i64 timer, .int .i64 patience, .int .i64 tries, .int .i64 limit] 44) = W3 at *
  have zW3 := Lib.hid hB.size
  have l93 := b9.lt
  trace "C"
  go_wp2_with (refine wpList_load_row rfl 44 (.tmp 9) rfl p9 rfl 44 #[.int .i64 id, .bool known, .string name, .int .i64 size, .bool ended, .int .i64 last, .int .i64 sum, .slice A9 an a9, .slice F9 fn f9, .int .i64 stage, .int .i64 timer, .int .i64 patience, .int .i64 tries, .int .i64 limit] (0, 0) _ b9 Try.underlying44 rfl takersz ?_)
  refine (CP.out _ F9 f9 A9 a9 hF9.rd hA9.rd hff).mono ?_
  rintro e w4 ⟨D4, d4, rfl, hD4, hb⟩
  have zD4 := hD4.lt
  have z3 := hb.size
  replace b1 := b1.step hb
  replace b3 := b3.step hb
  replace hM := hM.step hb
  replace hD := hD.step hb
  replace hF9 := hF9.step hb
  replace hA9 := hA9.step hb
  replace b9 := b9.step hb
  replace hB := hB.trans (hb.mono hB.size)
  clear hb
  trace "D"
  have l9 := b9.lt
  go_wp2_with (refine wpList_load_row rfl 44 (.tmp 9) rfl p9 rfl 44 #[.int .i64 id, .bool known, .string name, .int .i64 size, .bool ended, .int .i64 last, .int .i64 sum, .slice A9 an a9, .slice F9 fn f9, .int .i64 stage, .int .i64 timer, .int .i64 patience, .int .i64 tries, .int .i64 limit] (0, 0) _ b9 Try.underlying44 rfl takersz ?_)
  refine (CP.out _ F9 f9 A9 a9 hF9.rd hA9.rd hff).mono ?_
  rintro e w5 ⟨D5, d5, rfl, hD5, hb⟩
  have zD5 := hD5.lt
  have z4 := hb.size
  replace b1 := b1.step hb
  replace b3 := b3.step hb
  replace hM := hM.step hb
  replace hD := hD.step hb
  replace hF9 := hF9.step hb
  replace hA9 := hA9.step hb
  replace b9 := b9.step hb
  replace hD4 := hD4.step hb
  replace hB := hB.trans (hb.mono hB.size)
  clear hb
  clear CP
  have CA2 := Lib.hid (CA.out w5 hB F1 n1 f1 A1 m1 a1 O on oc l _ hM)
  clear CA hM
  trace "E"
  go_wp2_with (first | (refine wpList_load_row rfl 44 (.tmp 1) rfl w.heap.size rfl 44 #[.int .i64 id, .bool known, .string name, .int .i64 size, .bool ended, .int .i64 last, .int .i64 sum, .slice A an ac, .slice F fn fc, .int .i64 stage, .int .i64 timer, .int .i64 patience, .int .i64 tries, .int .i64 limit] (0, 0) _ b1 Try.underlying44 rfl takersz ?_) | (refine wpList_load_row rfl 44 (.tmp 3) rfl p3 rfl 44 #[.int .i64 yid, .bool yknown, .string yname, .int .i64 ysize, .bool yended, .int .i64 ylast, .int .i64 ysum, .slice A1 m1 a1, .slice F1 n1 f1, .int .i64 ystage, .int .i64 ytimer, .int .i64 ypatience, .int .i64 ytries, .int .i64 ylimit] (0, 0) _ b3 Try.underlying44 rfl takersz ?_) | (refine wpList_load_row rfl 44 (.tmp 9) rfl p9 rfl 44 #[.int .i64 id, .bool known, .string name, .int .i64 size, .bool ended, .int .i64 last, .int .i64 sum, .slice A9 an a9, .slice F9 fn f9, .int .i64 stage, .int .i64 timer, .int .i64 patience, .int .i64 tries, .int .i64 limit] (0, 0) _ b9 Try.underlying44 rfl takersz ?_))
  trace "E2"
  refine CA2.out.mono ?_
  rintro e w6 ⟨rfl, hb⟩
  have z5 := hb.size
  replace b1 := b1.step hb
  replace b3 := b3.step hb
  replace hD := hD.step hb
  replace hF9 := hF9.step hb
  replace hA9 := hA9.step hb
  replace b9 := b9.step hb
  replace hD4 := hD4.step hb
  replace hD5 := hD5.step hb
  replace hB := hB.trans (hb.mono hB.size)
  clear CA2
  trace "F"
  have hDr := hD.rd
  have hD5r := hD5.rd
  trace "F1"
  go_wp2_with fail
  trace "F2"
  have CT := twice_yes W3.heap.size D4 D5 D dt d4 d5 dc w6 (by rw [HDN.out]; exact hD4) hD5r hDr (fun q h1 h2 => by have := zD4 q h1; have := zD5 q h2; omega) (fun q h1 h2 => by have := zD4 q h1; have := zD q h2; omega) (by rw [HDN.out]; omega) (by have := hb.size; omega)
  rw [HDN.out] at CT
  have HCT := Lib.hid CT
  clear CT hD5r hDr hb
  refine HCT.out.mono ?_
  rintro e w7 ⟨rfl, hg⟩
  trace "G"
  have l1 := b1.lt
  replace b1 := b1.over hg (fun q hq e => hD4.notBlk b1 (by decide) (by rw [hq]; exact e.symm))
  replace b9 := b9.over hg (fun q hq e => hD4.notBlk b9 (by decide) (by rw [hq]; exact e.symm))
  have hF9r := hF9.over hg (fun q h1 h2 => by have := zD4 q h1; have := (hF9.lt q h2).2; have := zF9.out q h2; omega)
  have hA9r := hA9.over hg (fun q h1 h2 => (hA9.apart hD4 (by decide)) q h2 h1)
  replace hB := hB.grown hg hB.size (fun q hq => by have := zD4 q hq; have := zW3.out; omega)
  clear hg HCT b3 hD hD5 hD4 hF9 hA9
  have u0 := b9.cell' (i := 0) rfl
  have v0 := b1.cell' (i := 0) rfl
  have u1 := b9.cell' (i := 1) rfl
  have v1 := b1.cell' (i := 1) rfl
  have u2 := b9.cell' (i := 2) rfl
  have v2 := b1.cell' (i := 2) rfl
  have u3 := b9.cell' (i := 3) rfl
  have v3 := b1.cell' (i := 3) rfl
  have u4 := b9.cell' (i := 4) rfl
  have v4 := b1.cell' (i := 4) rfl
  have u5 := b9.cell' (i := 5) rfl
  have v5 := b1.cell' (i := 5) rfl
  have u6 := b9.cell' (i := 6) rfl
  have v6 := b1.cell' (i := 6) rfl
  have u7 := b9.cell' (i := 7) rfl
  have v7 := b1.cell' (i := 7) rfl
  have u8 := b9.cell' (i := 8) rfl
  have v8 := b1.cell' (i := 8) rfl
  have u9 := b9.cell' (i := 9) rfl
  have v9 := b1.cell' (i := 9) rfl
  have u10 := b9.cell' (i := 10) rfl
  have v10 := b1.cell' (i := 10) rfl
  have u11 := b9.cell' (i := 11) rfl
  have v11 := b1.cell' (i := 11) rfl
  have u12 := b9.cell' (i := 12) rfl
  have v12 := b1.cell' (i := 12) rfl
  have u13 := b9.cell' (i := 13) rfl
  have v13 := b1.cell' (i := 13) rfl
  go_wp2_with fail
  trace "H"
  refine (CS.out w7 hB F9 f9 A9 a9 hF9r.rd hA9r.rd).mono ?_
  rintro e w8 ⟨rfl, hb⟩
  go_wp2_with fail
  go_ret
  exact ⟨rfl, hB.trans (hb.mono hB.size)⟩
end Go.Proofs.Ytianombjgdmbeaa
