/-
  An argument that is a ring.
-/
import Derived.Test.YtkbaganbfcbioaaMKeysOpens24
import Derived.Test.YtkbaganbfcbioaaMKeysOpens6
import Derived.Deep.Slices
import Derived.Test.YtkbaganbfcbioaaMKeysOpens3
namespace Go.Proofs.Ytkbaganbfcbioaa
set_option linter.unusedSimpArgs false
set_option linter.unusedVariables false
open Go.ChangeShapes Go.WideShapes Go.ChangeAt Go.RowKit Go.Joins Go.Deep
section
variable {H : Type} {enc : TypeId × Value → H} {P : Program} {w : World} {base : Nat} {spare : Nat → Bool} {held : Bool}
theorem cell_ints2 {t e : TypeId} (ht : P.underlying t = some (.slice e)) (he : P.underlying e = some (.int .i64)) (hc : P.cellsOf e = 1) (hb : P.bytesOf e = 8) {A : Option Addr} {len cap fuel : Nat} {x : DataW H × List MemPlace}
    (h : DataW.trod enc P w base spare held fuel t [.slice A len cap] = some x) (hs : Sized P t x.1) :
    ∃ l : List Int, len = l.length ∧ Rd w A (ivs l) ∧ l.length ≤ cap ∧ l.length ≤ 17592186043904 ∧ ∀ n ∈ l, (Lit.int .i64 n).wf = true := by
  rcases open_ints ht he hc h with ⟨hcs, hx⟩ | ⟨a, len', cap', zs, hcs, _, hl, hm, hz, hx, hcell, hwz⟩
  · simp only [List.cons.injEq, Value.slice.injEq, and_true] at hcs
    obtain ⟨rfl, rfl, rfl⟩ := hcs
    exact ⟨[], rfl, Rd.nil _ _, Nat.le_refl _, by simp, fun n hn => by cases hn⟩
  · simp only [List.cons.injEq, Value.slice.injEq, and_true] at hcs
    obtain ⟨rfl, rfl, rfl⟩ := hcs
    have hll : len ≤ zs.length := by
      rw [hz]
      split <;> omega
    subst hx
    have hsz := hs.slice ht
    rw [hb] at hsz
    simp only [lits, List.length_map, List.length_take, List.length_drop, reachBytes] at hsz
    refine ⟨zs.take len, by simp; omega, ?_, by simp; omega, by simp; omega, fun n hn => hwz n (List.mem_of_mem_take hn)⟩
    intro i u hu
    have hi : i < (zs.take len).length := by
      rcases Nat.lt_or_ge i (zs.take len).length with h | h
      · exact h
      · rw [List.getElem?_eq_none (by simpa [ivs] using h)] at hu; cases hu
    rw [ivs_get hi] at hu
    have hi2 : i < zs.length := by simp at hi; omega
    have hc := hcell i (by omega)
    obtain ⟨b, off, spot⟩ := a
    have hspot : spot = none := by
      have := World.cell?_spot hc
      unfold Addr.add at this
      split at this
      · exact this
      · have h0 := hcell 0 (by omega)
        simpa [Addr.add] using World.cell?_spot h0
    subst hspot
    refine ⟨b, off, rfl, ?_⟩
    rw [Addr.add_lit] at hc
    rw [hc, ← hu]
    simp [List.getD, hi2]
/-- A cell that holds a list of structs, each field of one cell. -/
theorem cell_structs {t e : TypeId} {fs : Array Field} (ht : P.underlying t = some (.slice e)) (he : P.underlying e = some (.struct fs)) (hone : oneCellFields P fs = true) (hC : P.cellsOf e = fs.size) (h0 : 0 < fs.size) {A : Option Addr} {len cap fuel : Nat} {x : DataW H × List MemPlace}
    (h : DataW.trod enc P w base spare held fuel t [.slice A len cap] = some x) (hs : Sized P t x.1) :
    len ≤ cap ∧ len * P.bytesOf e ≤ reachBytes ∧ (len = 0 ∨ ∃ b off, A = some ⟨b, off, none⟩ ∧ ∀ i, i < len → ∃ cs' : List Value, cs'.length = fs.size ∧ (∀ j, j < fs.size → w.cell? ⟨b, off + (i * fs.size + j), none⟩ = cs'[j]?) ∧
      ∃ n, ∀ (j : Nat) (f : Field), fs[j]? = some f → ∃ u y, cs'[j]? = some u ∧ DataW.trod enc P w base spare held n f.type [u] = some y ∧ Sized P f.type y.1) := by
  rcases open_slice ht h with ⟨hcs, hx⟩ | ⟨a, len', cap', m, n, D, Pl, hcs, _, hl, hm, hmm, hx, hel⟩
  · simp only [List.cons.injEq, Value.slice.injEq, and_true] at hcs
    obtain ⟨rfl, rfl, rfl⟩ := hcs
    exact ⟨Nat.le_refl _, by simp, .inl rfl⟩
  · simp only [List.cons.injEq, Value.slice.injEq, and_true] at hcs
    obtain ⟨rfl, rfl, rfl⟩ := hcs
    have hlm : len ≤ m := by rw [hmm]; split <;> omega
    rw [hx] at hs
    have hsz := hs.slice ht
    simp only [List.length_map, List.length_range] at hsz
    refine ⟨hl, Nat.le_trans (Nat.mul_le_mul_right _ (Nat.le_add_right _ _)) hsz, ?_⟩
    rcases Nat.eq_zero_or_pos len with hz | hz
    · exact .inl hz
    right
    have each : ∀ i, i < len → ∃ cs' : List Value, cs'.length = fs.size ∧ (∀ j, j < fs.size → w.cell? ((a.add (i * fs.size)).add j) = cs'[j]?) ∧
        ∃ n, ∀ (j : Nat) (f : Field), fs[j]? = some f → ∃ u y, cs'[j]? = some u ∧ DataW.trod enc P w base spare held n f.type [u] = some y ∧ Sized P f.type y.1 := by
      intro i hi
      obtain ⟨cs', h1, h2⟩ := hel i (by omega)
      rw [hC] at h1
      obtain ⟨_, hlen, hcell⟩ := World.cells?_some h1
      obtain ⟨xs, k, _, hxy, _, hxl, hf⟩ := DataW.trod_struct he h2
      have hsi : Sized P e (D i) := hs.elem ht (List.mem_map.2 ⟨i, List.mem_range.2 hi, rfl⟩)
      simp only [Prod.mk.injEq] at hxy
      rw [hxy.1] at hsi
      refine ⟨cs', hlen, hcell, k, fun j f hj => ?_⟩
      obtain ⟨o, kk⟩ := hone_of hone j f hj
      have hjl : j < fs.size := (Array.getElem?_eq_some_iff.1 hj).1
      have h3 := hf j f hj
      rw [o, kk] at h3
      have hcl : j < cs'.length := by omega
      have e1 : (cs'.drop j).take 1 = [cs'[j]] := by
        rw [List.drop_eq_getElem_cons hcl]
        rfl
      rw [e1] at h3
      have hxs : xs[j]? = some xs[j] := List.getElem?_eq_getElem (by omega)
      exact ⟨cs'[j], xs[j], List.getElem?_eq_getElem hcl, h3.trans hxs, hsi.field he hj (by rw [List.getElem?_map, hxs]; rfl)⟩
    obtain ⟨b, off, spot⟩ := a
    have hspot : spot = none := by
      obtain ⟨cs', hl', hc, _⟩ := each 0 hz
      have hcc := hc 0 h0
      rw [List.getElem?_eq_getElem (by omega)] at hcc
      simpa [Addr.add] using World.cell?_spot hcc
    subst hspot
    refine ⟨b, off, rfl, fun i hi => ?_⟩
    obtain ⟨cs', hl', hc, hr⟩ := each i hi
    refine ⟨cs', hl', fun j hj => ?_, hr⟩
    have := hc j hj
    rw [Addr.add_lit, Addr.add_lit, Nat.add_assoc] at this
    exact this
end
theorem slice_of_trod {H : Type} {enc : TypeId × Value → H} {P : Program} {w : World} {base : Nat} {spare : Nat → Bool} {held : Bool} {t e : TypeId} (ht : P.underlying t = some (.slice e)) {u : Value} {fuel : Nat} {x : DataW H × List MemPlace}
    (h : DataW.trod enc P w base spare held fuel t [u] = some x) : ∃ A len cap, u = .slice A len cap := by
  rcases open_slice ht h with ⟨hcs, _⟩ | ⟨a, len', cap', m, n, D, Pl, hcs, _⟩
  · simp only [List.cons.injEq, and_true] at hcs
    exact ⟨_, _, _, hcs⟩
  · simp only [List.cons.injEq, and_true] at hcs
    exact ⟨_, _, _, hcs⟩
instance : Inhabited KyR := ⟨⟨⟨0, [], 0, 0⟩, none, 0⟩⟩
set_option maxRecDepth 100000 in
/-- One key, from its four cells. -/
theorem key_of_cells {H : Type} {enc : TypeId × Value → H} {w : World} {base : Nat} {spare : Nat → Bool} {held : Bool} {fs : Array Field} (he : Try.prog.underlying 46 = some (.struct fs)) {cs : List Value} (hl : cs.length = fs.size) (hsz : fs.size = 4)
    {n : Nat} (hf : ∀ (j : Nat) (f : Field), fs[j]? = some f → ∃ u y, cs[j]? = some u ∧ DataW.trod enc Try.prog w base spare held n f.type [u] = some y ∧ Sized Try.prog f.type y.1) :
    ∃ x : KyR, cs = kcs x ∧ Rd w x.A (ivs x.k.words) ∧ x.k.words.length ≤ x.c ∧ x.k.words.length ≤ 17592186043904 ∧ x.k.seen < 9223372036854775808 ∧ (Lit.int .i64 x.k.id).wf = true := by
  obtain ⟨c0, c1, c2, c3, rfl⟩ := list4Key (hl.trans hsz)
  rw [Try.underlying46] at he
  injection he with he
  injection he with he
  subst he
  obtain ⟨u0, y0, e0, t0, s0⟩ := hf 0 _ rfl
  obtain ⟨z0, rfl, w0⟩ := cell_int (k := .i64) (by kernel_rfl) t0
  obtain rfl : c0 = .int .i64 z0 := by simpa using e0
  obtain ⟨u1, y1, e1, t1, s1⟩ := hf 1 _ rfl
  obtain ⟨A1, len1, d1, rfl⟩ := slice_of_trod Try.underlying35 t1
  obtain ⟨l1, rfl, hR1, hC1, hN1, _⟩ := cell_ints2 Try.underlying35 Try.underlying3 Try.cells3 Try.bytes3 t1 s1
  obtain rfl : c1 = .slice A1 l1.length d1 := by simpa using e1
  obtain ⟨u2, y2, e2, t2, s2⟩ := hf 2 _ rfl
  obtain ⟨z2, rfl, _⟩ := cell_int (k := .i64) (by kernel_rfl) t2
  obtain rfl : c2 = .int .i64 z2 := by simpa using e2
  obtain ⟨u3, y3, e3, t3, s3⟩ := hf 3 _ rfl
  obtain ⟨z3, rfl, w3⟩ := cell_int (k := .i64) (by kernel_rfl) t3
  obtain rfl : c3 = .int .i64 z3 := by simpa using e3
  exact ⟨⟨⟨z0, l1, z2, z3⟩, A1, d1⟩, rfl, hR1, hC1, hN1, (wf_i64 w3).2, w0⟩
/-- What a ring that came in is. -/
def RingArg (w : World) (A : Option Addr) (L : List Ky) (n d : Nat) : Prop := ∃ l : List KyR, l.map KyR.k = L ∧ L.length = n ∧ RdRing w A l ∧ RingFits L ∧ n ≤ 2932031007317 ∧ ∀ x ∈ L, x.words.length ≤ 17592186044000
set_option maxRecDepth 100000 in
theorem open_ring {H : Type} {enc : TypeId × Value → H} {w : World} {base : Nat} {spare : Nat → Bool} {held : Bool} {r : Reach} {b0 : Nat} {v : Value} {d : DataW H} {p : List MemPlace}
    (hw : Value.okWide Try.prog w r b0 44 v) (h : DataW.Trod enc Try.prog w base spare held 44 v d p) (hz : Sized Try.prog 44 d) :
    ∃ (L : List Ky) (A : Option Addr) (c : Nat), v = .agg #[.slice A L.length c] ∧ RingArg w A L L.length c ∧ L.length ≤ c ∧ L.length ≤ 2932031007317 := by
  obtain ⟨cs, rfl, hl, n, hf⟩ := open_agg Try.underlying44 (by kernel_rfl) (by kernel_rfl) hw h hz
  obtain ⟨c0, rfl⟩ : ∃ c0, cs = [c0] := by
    match cs, hl with
    | [c0], _ => exact ⟨_, rfl⟩
  obtain ⟨u0, y0, e0, t0, s0⟩ := hf 0 _ rfl
  obtain ⟨A, len, cap, rfl⟩ := slice_of_trod Try.underlying42 t0
  obtain rfl : c0 = .slice A len cap := by simpa using e0
  obtain ⟨hlc, hby, hrow⟩ := cell_structs Try.underlying42 Try.underlying46 (by kernel_rfl) (by kernel_rfl) (by decide) t0 s0
  have hbb : Try.prog.bytesOf 46 = 48 := by kernel_rfl
  rw [hbb] at hby
  simp only [reachBytes] at hby
  have hn : len ≤ 2932031007317 := by omega
  rcases hrow with rfl | ⟨b, off, rfl, hr⟩
  · exact ⟨[], A, cap, rfl, ⟨[], rfl, rfl, RdRing.nil _ _, (fun x hx => by simp at hx), by simp, fun x hx => by simp at hx⟩, by simp, by simp⟩
  have each : ∀ i, i < len → ∃ x : KyR, (∀ j, j < 4 → w.cell? ⟨b, off + (i * 4 + j), none⟩ = (kcs x)[j]?) ∧ Rd w x.A (ivs x.k.words) ∧ x.k.words.length ≤ 17592186043904 ∧ x.k.seen < 9223372036854775808 ∧ (Lit.int .i64 x.k.id).wf = true := by
    intro i hi
    obtain ⟨cs', hl', hc, k, hk⟩ := hr i hi
    obtain ⟨x, rfl, h1, _, h2, h3, h4⟩ := key_of_cells Try.underlying46 hl' (by decide) hk
    exact ⟨x, fun j hj => hc j hj, h1, h2, h3, h4⟩
  obtain ⟨f, hf2⟩ := choose_lt each
  have hget : ∀ (i : Nat) (x : KyR), ((List.range len).map f)[i]? = some x → i < len ∧ x = f i := by
    intro i x hx
    rw [List.getElem?_map] at hx
    obtain ⟨k, hk, rfl⟩ := Option.map_eq_some_iff.1 hx
    obtain ⟨h1, rfl⟩ := List.getElem?_eq_some_iff.1 hk
    simp at h1
    simp
    exact h1
  have hlen : (((List.range len).map f).map KyR.k).length = len := by simp
  have hmem : ∀ x ∈ ((List.range len).map f).map KyR.k, ∃ i, i < len ∧ x = (f i).k := by
    intro x hx
    simp only [List.map_map, List.mem_map, List.mem_range, Function.comp] at hx
    obtain ⟨i, hi, rfl⟩ := hx
    exact ⟨i, hi, rfl⟩
  refine ⟨((List.range len).map f).map KyR.k, some ⟨b, off, none⟩, cap, by rw [hlen], ⟨(List.range len).map f, rfl, rfl, ⟨?_, ?_⟩, ?_, ?_, ?_⟩, by rw [hlen]; exact hlc, by rw [hlen]; exact hn⟩
  · intro i u hu
    refine ⟨b, off, rfl, ?_⟩
    have hil : i < (kvs ((List.range len).map f)).length := (List.getElem?_eq_some_iff.1 hu).1
    rw [kvs_len] at hil
    simp only [List.length_map, List.length_range] at hil
    have hq : i / 4 < len := by omega
    have hg := kvs_get (l := (List.range len).map f) (i := i / 4) (x := f (i / 4)) (by rw [List.getElem?_map, List.getElem?_range hq]; rfl) (j := i % 4) (by omega)
    have hc := (hf2 (i / 4) hq).1 (i % 4) (by omega)
    rw [show i / 4 * 4 + i % 4 = i by omega] at hg hc
    rw [hc, ← hg]
    exact hu
  · intro i x hx
    obtain ⟨h1, rfl⟩ := hget i x hx
    exact (hf2 i h1).2.1
  · intro x hx
    obtain ⟨i, hi, rfl⟩ := hmem x hx
    obtain ⟨_, _, h2, h3, h4⟩ := hf2 i hi
    exact ⟨⟨by omega, h3⟩, h4⟩
  · rw [hlen]; exact hn
  · intro x hx
    obtain ⟨i, hi, rfl⟩ := hmem x hx
    have := (hf2 i hi).2.2.1
    omega
set_option maxRecDepth 100000 in
theorem open_key2 {H : Type} {enc : TypeId × Value → H} {w : World} {base : Nat} {spare : Nat → Bool} {held : Bool} {r : Reach} {b0 : Nat} {v : Value} {d : DataW H} {p : List MemPlace}
    (hw : Value.okWide Try.prog w r b0 46 v) (h : DataW.Trod enc Try.prog w base spare held 46 v d p) (hz : Sized Try.prog 46 d) :
    ∃ (x : Ky) (A1 : Option Addr) (d1 : Nat), v = kyv x A1 d1 ∧ Rd w A1 (ivs x.words) ∧ x.words.length ≤ d1 ∧ (x.words.length ≤ 17592186044000 ∧ x.seen < 9223372036854775808 ∧ (Lit.int .i64 x.id).wf = true) := by
  obtain ⟨cs, rfl, hl, n, hf⟩ := open_agg Try.underlying46 (by kernel_rfl) (by kernel_rfl) hw h hz
  obtain ⟨x, rfl, h1, h2, h3, h4, h5⟩ := key_of_cells Try.underlying46 hl (by decide) hf
  exact ⟨x.k, x.A, x.c, rfl, h1, h2, by omega, h4, h5⟩
end Go.Proofs.Ytkbaganbfcbioaa
namespace Go.Proofs.Ytkbaganbfcbioaa
set_option linter.unusedSimpArgs false
set_option linter.unusedVariables false
open Go.RowKit

theorem RoomK.made {w' : World} {g : Nat} {l : List UInt8} (h : w'.heap[g]? = some (.cells (splice (List.replicate (l.length + 5) (.int .u8 0)) 0 (bvs l)).toArray 5 (0, 0))) : RoomK w' g l 0 := by
  refine ⟨_, h, ?_, fun j hj => ?_, fun j hj hj2 => by omega⟩
  · simp [splice, bvs]
  · have hb := bvs_get hj
    simp only [splice, List.take_zero, List.nil_append, List.getElem?_toArray]
    rw [List.getElem?_append_left (by simpa [bvs] using hj)]
    exact hb

set_option maxHeartbeats 400000 in
set_option maxRecDepth 100000 in
theorem roomy_any (A : Option Addr) (l : List UInt8) (c : Nat) (w : World) (ha : Rd w A (bvs l)) (hn : l.length ≤ 140737488351232) :
    Calls Try.prog 9 #[.slice A l.length c] w fun e w' => ∃ g, e = .returned (.slice (some ⟨g, 0, none⟩) l.length (l.length + 5)) ∧ w.heap.size ≤ g ∧ Room w' g l ∧ Below w.heap.size w w' := by
  have hmk := run_make_row' (P := Try.prog) 22 5 (.int .u8 0) 1 Try.underlying22 u8info rfl .i64 .i64 (l.length + 5) (by omega) (by omega)
  have ec : (((l.length + 5 : Nat)) : Int) = (l.length : Int) + 5 := by omega
  rw [ec] at hmk
  clear ec
  have hsz1 : (Try.prog.info? 5).map (·.size) = some 1 := by kernel_rfl
  go_enter Try.func9, Try.ntmps9
  go_wp2_with (with_reducible refine wpList_copy_splice rfl (.tmp 9) (.tmp 10) 22 22 rfl 5 Try.underlying22 hsz1 _ A _ _ l.length c rfl rfl w.heap.size 0 (List.replicate (l.length + 5) (.int .u8 0)) 5 ?h1 (bvs l) ?h2 ?h3 ?h4 (bvs_one l) w.heap.size w ?h5 (Nat.le_refl _) ?h6)
  case h1 =>
    rw [heap_alloc_new w _]
    congr 2
    apply Array.ext'
    rw [toList_madeCells_one]
  case h2 => simp [bvs, Nat.min_def]
  case h3 =>
    intro hpos
    have hl : 0 < l.length := by simpa [bvs] using hpos
    obtain ⟨b, off, e, _⟩ := ha.byte hl
    refine ⟨⟨b, off, none⟩, e, fun j v hv => ?_⟩
    subst e
    rw [Addr.add_lit]
    exact (ha.alloc _).cell hv
  case h4 => simp [bvs]
  case h5 => exact (Below.refl _ _).alloc (Nat.le_refl _) _
  case h6 =>
    intro w1 hg1 hb1
    have hR0 := RoomK.made hg1.out
    clear hg1 hmk hsz1 ha
    go_wp2_with fail
    go_loopw [4] (fun i wr => ∃ k : Nat, k ≤ 5 ∧ i = .int .i64 (l.length + k) ∧ RoomK wr w.heap.size l k ∧ Below w.heap.size w wr) (fun i _ => l.length + 5 - (intOf i).toNat)
    case atStart => exact ⟨0, by omega, by simp, hR0, hb1⟩
    case round =>
      obtain ⟨k, hk, rfl, hR, hb⟩ := hrel
      clear hR0 hb1
      by_cases h5 : k < 5
      · obtain ⟨u, hc⟩ := hR.cell (j := l.length + k) (by omega)
        have hf := hR.frozen (l.length + k)
        go_wp2
        go_roundw
        case rel => exact ⟨k + 1, by omega, by go_num, hR.set h5, hb.setCell (Nat.le_refl _) _⟩
        case measure => simp [intOf]; omega
      · obtain rfl : k = 5 := by omega
        go_wp2
        go_ret
        exact ⟨_, rfl, Nat.le_refl _, hR, hb⟩
end Go.Proofs.Ytkbaganbfcbioaa
namespace Go.Proofs.Ytkbaganbfcbioaa
set_option linter.unusedSimpArgs false
set_option linter.unusedVariables false
open Go.RowKit

set_option maxHeartbeats 800000 in
set_option maxRecDepth 100000 in
theorem left_yes (g : Nat) (B : Option Addr) (l : List UInt8) (d : Nat) (w : World) (hR : Room w g l) (hb : Rd w B (bvs l)) (hn : l.length ≤ 140737488351232) :
    Calls Try.prog 12 #[.slice (some ⟨g, 0, none⟩) l.length (l.length + 5), .slice B l.length d] w fun e w' => e = .returned (.bool true) ∧ ∃ n, w' = w.drewN n := by
  go_enter Try.func12, Try.ntmps12
  go_wp2_with fail
  go_loopw [6] (fun i wr => ∃ k m : Nat, k ≤ l.length + 5 ∧ i = .int .i64 k ∧ wr = w.drewN m) (fun i _ => l.length + 5 - (intOf i).toNat)
  case atStart => exact ⟨0, 0, by omega, by simp, rfl⟩
  case round =>
    obtain ⟨k, m, hk, rfl, rfl⟩ := hrel
    by_cases h5 : k < l.length
    · obtain ⟨b, off, rfl, hc⟩ := hb.byte h5
      have hc2 : w.cell? ⟨g, k, none⟩ = some (.int .u8 (l[k].toNat : Int)) := by simpa using hR.rd.cell (bvs_get h5)
      have hge : decide (l.length ≤ k) = false := by simp; omega
      go_wp2
      go_quiet (fail)
      go_wp2
      go_roundw
      case rel => exact ⟨k + 1, _, by omega, by go_num, rfl⟩
      case measure => simp [intOf]; omega
    · by_cases h6 : k < l.length + 5
      · have hc2 := hR.mark (j := k) (by omega) h6
        have hge : decide (l.length ≤ k) = true := by simp; omega
        have hlt : decide (k < l.length) = false := by simp; omega
        go_wp2
        go_quiet (fail)
        go_wp2
        go_roundw
        case rel => exact ⟨k + 1, _, by omega, by go_num, rfl⟩
        case measure => simp [intOf]; omega
      · go_wp2
        go_ret
        exact ⟨rfl, _, rfl⟩
end Go.Proofs.Ytkbaganbfcbioaa
