/-
  The law DeliverEncodes, walked.
-/
import Derived.Test.YtianombjgdmbeaaNoteRA
import Derived.Test.YtianombjgdmbeaaNoteEA
import Derived.Test.YtianombjgdmbeaaNoteO
import Derived.Test.YtianombjgdmbeaaTwice
import Derived.Test.YtianombjgdmbeaaOpenNote
namespace Go.Proofs.Ytianombjgdmbeaa
set_option linter.unusedSimpArgs false
set_option linter.unusedVariables false
open Go.RowKit

/-- What both give of a note: its bytes, or nothing. -/
def encB (n : Nt) : List UInt8 × Int := if noteOk n then (noteB n, 0) else ([], 8)
def EncRes (n : Nt) (base : Nat) (w : World) (e : Ending) (w' : World) : Prop := ∃ A c, e = .returned (.tuple #[.slice A (encB n).1.length c, .int .i64 (encB n).2]) ∧ Own w' base 5 1 A (encB n).1.length c (bvs (encB n).1) ∧ Below base w w'
theorem EncRes.open_ {n : Nt} {base : Nat} {w w' : World} {e : Ending} {r : List UInt8} {k : Int} (h : EncRes n base w e w') (hr : encB n = (r, k)) : ∃ A c, e = .returned (.tuple #[.slice A r.length c, .int .i64 k]) ∧ Own w' base 5 1 A r.length c (bvs r) ∧ Below base w w' := by
  unfold EncRes at h
  rw [hr] at h
  exact h
theorem noteBytes_all (n : Nt) (D : Option Addr) (dn dc : Nat) (G : Option Addr) (gn gc : Nat) (w : World) (hd : n.data.length = dn) (hg : n.gaps.length = gn) (hG : Rd w G (gps n.gaps)) (hD : Rd w D (bvs n.data)) (hdn : dn ≤ 140737488351232) (hgn : gn ≤ 8796093022200) :
    Calls Try.prog 10 #[ntv n D dn dc G gn gc] w (EncRes n w.heap.size w) := by
  cases h : noteOk n
  · have e : encB n = ([], 8) := by unfold encB; rw [h]; rfl
    refine (rbytes_bad n D dn dc G gn gc w hd hg hG hdn hgn h).mono ?_
    rintro e w1 ⟨rfl, hb⟩
    unfold EncRes
    rw [e]
    exact ⟨none, 0, rfl, Own.none_ _ _ _ _, hb⟩
  · have e : encB n = (noteB n, 0) := by unfold encB; rw [h]; rfl
    refine (rbytes_any n D dn dc G gn gc w hd hg hG hD hdn hgn h).mono ?_
    rintro e w1 ⟨A, c, rfl, hO, hb⟩
    unfold EncRes
    rw [e]
    exact ⟨A, c, rfl, hO, hb⟩
theorem encode_all (n : Nt) (D : Option Addr) (dn dc : Nat) (G : Option Addr) (gn gc : Nat) (w : World) (hd : n.data.length = dn) (hg : n.gaps.length = gn) (hG : Rd w G (gps n.gaps)) (hD : Rd w D (bvs n.data)) (hdn : dn ≤ 140737488351232) (hgn : gn ≤ 8796093022200) :
    Calls Try.prog 11 #[ntv n D dn dc G gn gc] w (EncRes n w.heap.size w) := by
  cases h : noteOk n
  · have e : encB n = ([], 8) := by unfold encB; rw [h]; rfl
    refine (ebytes_bad n D dn dc G gn gc w hd hg hG hdn hgn h).mono ?_
    rintro e w1 ⟨rfl, hb⟩
    unfold EncRes
    rw [e]
    exact ⟨none, 0, rfl, Own.none_ _ _ _ _, hb⟩
  · have e : encB n = (noteB n, 0) := by unfold encB; rw [h]; rfl
    refine (ebytes_any n D dn dc G gn gc w hd hg hG hD hdn hgn h).mono ?_
    rintro e w1 ⟨A, c, rfl, hO, hb⟩
    unfold EncRes
    rw [e]
    exact ⟨A, c, rfl, hO, hb⟩
theorem encB_len (n : Nt) : (encB n).1.length ≤ 65542 := by
  unfold encB
  cases h : noteOk n
  · simp
  · have hk := note_kind' h
    have hr := note_rng h
    have hG := gapB_len n.gaps
    have hS := sbs_len n.name
    simp only [if_true]
    unfold noteB
    unfold kindOk at hk
    generalize n.gaps.flatMap gapB = L at *
    generalize sbs n.name = M at *
    rcases hr with e | e | e | e | e | e <;> simp [e, rngOk] at hk ⊢ <;> simp [hdB, be4] <;> omega
set_option maxHeartbeats 6400000 in
set_option maxRecDepth 100000 in
theorem deliverEncodes_walk (x : NtA) (w : World) (hx : NoteArg w x) :
    Calls Try.prog 3 #[ntav x] w fun e w' => e = .returned (.bool true) ∧ Below w.heap.size w w' := by
  obtain ⟨n, D, dc, G, gc⟩ := x
  obtain ⟨hD, hG, hdn, hgn⟩ := hx
  dsimp only at hD hG hdn hgn
  obtain ⟨r, k, hrk⟩ : ∃ r k, encB n = (r, k) := ⟨_, _, rfl⟩
  have hrl : r.length ≤ 65542 := by have := encB_len n; rw [hrk] at this; exact this
  have HR := Lib.hid hrk
  clear hrk
  unfold ntav
  dsimp only
  obtain ⟨dn, hd⟩ : ∃ dn, n.data.length = dn := ⟨_, rfl⟩
  obtain ⟨gn, hg⟩ : ∃ gn, n.gaps.length = gn := ⟨_, rfl⟩
  rw [hd] at hdn
  rw [hg] at hgn
  have CO := Lib.hid (fun (V : World) (hB : Below w.heap.size w V) => noteOwn_any n D dn dc G gn gc V hd hg hdn hgn (hD.below hB) (hG.below hB))
  have CR := Lib.hid (fun (V : World) (hB : Below w.heap.size w V) => noteBytes_all n D dn dc G gn gc V hd hg (hG.below hB) (hD.below hB) hdn hgn)
  have CE := Lib.hid (fun (V : World) (g : Nat) (H : Option Addr) (hc : Nat) (hRm : Rd V (some ⟨g, 0, none⟩) (bvs n.data)) (hH : Rd V H (gps n.gaps)) => encode_all n (some ⟨g, 0, none⟩) dn (dn + 5) H gn hc V hd hg hH hRm hdn hgn)
  have CS := Lib.hid (fun (V : World) (hB : Below w.heap.size w V) (g : Nat) (H : Option Addr) (hc : Nat) (hRm : Rd V (some ⟨g, 0, none⟩) (bvs n.data)) (hH : Rd V H (gps n.gaps)) => sameNote_yes n (some ⟨g, 0, none⟩) D dn (dn + 5) dc H G gn hc gc V hd hg (by omega) (by omega) hRm (hD.below hB) hH (hG.below hB))
  rw [hd, hg]
  clear hD hG
  obtain ⟨HDL, HGL⟩ : Hid (n.data.length = dn) ∧ Hid (n.gaps.length = gn) := ⟨Lib.hid hd, Lib.hid hg⟩
  clear hd hg
  obtain ⟨nv, hnv⟩ : ∃ nv : Option Addr → Nat → Nat → Option Addr → Nat → Nat → Array Value, nv = fun D dn dc G gn gc => #[.int .i64 n.kind, .int .i64 n.id, .string n.name, .int .i64 n.size, .int .i64 n.sum, .int .i64 n.at_, .slice D dn dc, .slice G gn gc, .int .i64 n.of_, .int .i64 n.code] := ⟨_, rfl⟩
  obtain ⟨kind, id, name, size, sum, at_, data, gaps, of_, code⟩ := n
  unfold ntv at CO CR CE CS ⊢
  dsimp only at CO CR CE CS ⊢
  clear hnv nv
  have b1 := Blk.new w 27 #[.int .i64 kind, .int .i64 id, .string name, .int .i64 size, .int .i64 sum, .int .i64 at_, .slice D dn dc, .slice G gn gc, .int .i64 of_, .int .i64 code]
  have hB : Below w.heap.size w (w.alloc (.cells #[.int .i64 kind, .int .i64 id, .string name, .int .i64 size, .int .i64 sum, .int .i64 at_, .slice D dn dc, .slice G gn gc, .int .i64 of_, .int .i64 code] 27)) := (Below.refl _ _).alloc (Nat.le_refl _) _
  go_enter Try.func3, Try.ntmps3
  go_wp2_with fail
  refine (CO.out _ hB).mono ?_
  rintro e w1 ⟨g, H, hc, rfl, hg, hRm, hH, hb⟩
  replace b1 := b1.step hb
  have hB1 := hB.trans (hb.mono hB.size)
  clear CO hB hb
  go_upto_region 2 with fail
  have b2 := Blk.new w1 27 #[.int .i64 kind, .int .i64 id, .string name, .int .i64 size, .int .i64 sum, .int .i64 at_, .slice (some ⟨g, 0, none⟩) dn (dn + 5), .slice H gn hc, .int .i64 of_, .int .i64 code]
  replace b1 := b1.alloc (.cells #[.int .i64 kind, .int .i64 id, .string name, .int .i64 size, .int .i64 sum, .int .i64 at_, .slice (some ⟨g, 0, none⟩) dn (dn + 5), .slice H gn hc, .int .i64 of_, .int .i64 code] 27)
  have hB2 := hB1.alloc hB1.size (.cells #[.int .i64 kind, .int .i64 id, .string name, .int .i64 size, .int .i64 sum, .int .i64 at_, .slice (some ⟨g, 0, none⟩) dn (dn + 5), .slice H gn hc, .int .i64 of_, .int .i64 code] 27)
  replace hRm := hRm.below ((Below.refl _ _).alloc (Nat.le_refl _) (.cells #[.int .i64 kind, .int .i64 id, .string name, .int .i64 size, .int .i64 sum, .int .i64 at_, .slice (some ⟨g, 0, none⟩) dn (dn + 5), .slice H gn hc, .int .i64 of_, .int .i64 code] 27))
  replace hH := hH.alloc (.cells #[.int .i64 kind, .int .i64 id, .string name, .int .i64 size, .int .i64 sum, .int .i64 at_, .slice (some ⟨g, 0, none⟩) dn (dn + 5), .slice H gn hc, .int .i64 of_, .int .i64 code] 27)
  have z1 : w1.heap.size < (w1.alloc (.cells #[.int .i64 kind, .int .i64 id, .string name, .int .i64 size, .int .i64 sum, .int .i64 at_, .slice (some ⟨g, 0, none⟩) dn (dn + 5), .slice H gn hc, .int .i64 of_, .int .i64 code] 27)).heap.size := by simp
  have hg1 : w.heap.size < g := by simp at hg; omega
  have zH := hH.lt
  have z0 := hB1.size
  clear hB1
  generalize w1.alloc (.cells #[.int .i64 kind, .int .i64 id, .string name, .int .i64 size, .int .i64 sum, .int .i64 at_, .slice (some ⟨g, 0, none⟩) dn (dn + 5), .slice H gn hc, .int .i64 of_, .int .i64 code] 27) = W2 at *
  have hRd := hRm.rd
  have lg := RoomK.lt hRm
  go_wp2_with (refine wpList_load_row rfl 27 (.tmp 1) rfl w.heap.size rfl 27 #[.int .i64 kind, .int .i64 id, .string name, .int .i64 size, .int .i64 sum, .int .i64 at_, .slice D dn dc, .slice G gn gc, .int .i64 of_, .int .i64 code] (0, 0) _ b1 Try.underlying27 rfl notesz ?_)
  refine (CR.out _ hB2).mono ?_
  intro e w3 h3
  obtain ⟨A3, c3, rfl, hO3, hb⟩ := h3.open_ HR.out
  clear h3 CR
  have m3 := hO3.lt
  have t2 := hb.size
  replace b1 := b1.step hb
  replace b2 := b2.step hb
  replace hH := hH.step hb
  replace hRd := hRd.step hb
  replace hRm := hRm.below hb
  replace hB2 := nextB hB2 hB2.size hb
  clear hb
  go_wp2_with (refine wpList_load_row rfl 27 (.tmp 3) rfl w1.heap.size rfl 27 #[.int .i64 kind, .int .i64 id, .string name, .int .i64 size, .int .i64 sum, .int .i64 at_, .slice (some ⟨g, 0, none⟩) dn (dn + 5), .slice H gn hc, .int .i64 of_, .int .i64 code] (0, 0) _ b2 Try.underlying27 rfl notesz ?_)
  refine (CE.out _ g H hc hRd hH.rd).mono ?_
  intro e w4 h4
  obtain ⟨A4, c4, rfl, hO4, hb⟩ := h4.open_ HR.out
  clear h4
  have m4 := hO4.lt
  have t3 := hb.size
  replace b1 := b1.step hb
  replace b2 := b2.step hb
  replace hH := hH.step hb
  replace hRd := hRd.step hb
  replace hO3 := hO3.step hb
  replace hB2 := nextB hB2 hB2.size hb
  clear hb
  go_wp2_with (refine wpList_load_row rfl 27 (.tmp 3) rfl w1.heap.size rfl 27 #[.int .i64 kind, .int .i64 id, .string name, .int .i64 size, .int .i64 sum, .int .i64 at_, .slice (some ⟨g, 0, none⟩) dn (dn + 5), .slice H gn hc, .int .i64 of_, .int .i64 code] (0, 0) _ b2 Try.underlying27 rfl notesz ?_)
  refine (CE.out _ g H hc hRd hH.rd).mono ?_
  intro e w5 h5
  obtain ⟨A5, c5, rfl, hO5, hb⟩ := h5.open_ HR.out
  clear h5 CE
  have m5 := hO5.lt
  have t4 := hb.size
  replace b1 := b1.step hb
  replace b2 := b2.step hb
  replace hH := hH.step hb
  replace hRd := hRd.step hb
  replace hO3 := hO3.step hb
  replace hO4 := hO4.step hb
  replace hB2 := nextB hB2 hB2.size hb
  clear hb
  go_wp2_with fail
  refine (twice_yes w3.heap.size A4 A5 A3 r c4 c5 c3 w5 hO4 hO5.rd hO3.rd (fun q hq e => by have := m4 q hq; have := m5 q e; omega) (fun q hq e => by have := m4 q hq; have := m3 q e; omega) (by omega) (by omega)).mono ?_
  rintro e w6 ⟨rfl, hg6⟩
  replace b1 := b1.grown hg6 (fun e => by have := m4 _ e.symm; omega)
  replace b2 := b2.grown hg6 (fun e => by have := m4 _ e.symm; omega)
  replace hRd := hRd.grown hg6 (fun q hq e => by have := m4 q hq; have e : g = q := (by simpa [blk] using e); omega)
  replace hH := hH.grown hg6 (fun q hq e => by have := m4 q hq; have := zH q e; omega)
  have hB6 := hB2.grown hg6 hB2.size (fun q hq => by have := (m4 q hq).1; omega)
  have CS2 := Lib.hid (CS.out w6 hB6 g H hc hRd hH.rd)
  clear CS hB2 hO3 hO4 hO5 hg6
  have x0 := b1.cell' (i := 0) rfl
  have y0 := b2.cell' (i := 0) rfl
  have x1 := b1.cell' (i := 1) rfl
  have y1 := b2.cell' (i := 1) rfl
  have x2 := b1.cell' (i := 2) rfl
  have y2 := b2.cell' (i := 2) rfl
  have x3 := b1.cell' (i := 3) rfl
  have y3 := b2.cell' (i := 3) rfl
  have x4 := b1.cell' (i := 4) rfl
  have y4 := b2.cell' (i := 4) rfl
  have x5 := b1.cell' (i := 5) rfl
  have y5 := b2.cell' (i := 5) rfl
  have x6 := b1.cell' (i := 6) rfl
  have y6 := b2.cell' (i := 6) rfl
  have x7 := b1.cell' (i := 7) rfl
  have y7 := b2.cell' (i := 7) rfl
  have x8 := b1.cell' (i := 8) rfl
  have y8 := b2.cell' (i := 8) rfl
  have x9 := b1.cell' (i := 9) rfl
  have y9 := b2.cell' (i := 9) rfl
  go_wp2_with fail
  refine CS2.out.mono ?_
  rintro e w7 ⟨rfl, hb7⟩
  go_wp2_with fail
  go_ret
  exact ⟨rfl, hB6.trans (hb7.mono hB6.size)⟩
end Go.Proofs.Ytianombjgdmbeaa
