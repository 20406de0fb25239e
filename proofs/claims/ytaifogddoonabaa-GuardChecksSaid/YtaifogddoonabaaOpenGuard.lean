/-
  An argument that is a guard.
-/
import Derived.Test.YtaifogddoonabaaOpen
import Derived.Test.YtaifogddoonabaaMonP
import Derived.Deep.Slices
namespace Go.Proofs.Ytaifogddoonabaa
set_option linter.unusedSimpArgs false
set_option linter.unusedVariables false
open Go.ChangeShapes Go.WideShapes Go.ChangeAt Go.RowKit Go.Joins Go.Deep
section
variable {H : Type} {enc : TypeId × Value → H} {P : Program} {w : World} {base : Nat} {spare : Nat → Bool} {held : Bool}
theorem cell_string {t : TypeId} (ht : P.underlying t = some .string) {u : Value} {fuel : Nat} {x : DataW H × List MemPlace} (h : DataW.trod enc P w base spare held fuel t [u] = some x) : ∃ s, u = .string s := by
  obtain ⟨s, e, _⟩ := DataW.trod_string ht h
  simp only [List.cons.injEq, and_true] at e
  exact ⟨s, e⟩
/-- A cell that holds a list of structs, each field of one cell. -/
theorem cell_structs {t e : TypeId} {fs : Array Field} (ht : P.underlying t = some (.slice e)) (he : P.underlying e = some (.struct fs)) (hone : oneCellFields P fs = true) (hC : P.cellsOf e = fs.size) (h0 : 0 < fs.size) {A : Option Addr} {len cap fuel : Nat} {x : DataW H × List MemPlace}
    (h : DataW.trod enc P w base spare held fuel t [.slice A len cap] = some x) (hs : Sized P t x.1) :
    len ≤ cap ∧ len * P.bytesOf e ≤ reachBytes ∧ (len = 0 ∨ ∃ b off, A = some ⟨b, off, none⟩ ∧ ∀ i, i < len → ∃ cs' : List Value, cs'.length = fs.size ∧ (∀ j, j < fs.size → w.cell? ⟨b, off + (i * fs.size + j), none⟩ = cs'[j]?) ∧
      ∃ n, ∀ (j : Nat) (f : Field), fs[j]? = some f → ∃ u y, cs'[j]? = some u ∧ DataW.trod enc P w base spare held n f.type [u] = some y ∧ Sized P f.type y.1) := by
  rcases open_slice ht h with ⟨hcs, hx⟩ | ⟨a, len', cap', m, n, D, Pl, hcs, _, hl, hm, hmm, hx, hel⟩
  · simp only [List.cons.injEq, Value.slice.injEq, and_true] at hcs
    obtain ⟨rfl, rfl, rfl⟩ := hcs
    exact ⟨Nat.le_refl _, by simp, .inl rfl⟩
  · simp only [List.cons.injEq, Value.slice.injEq, and_true] at hcs
    obtain ⟨rfl, rfl, rfl⟩ := hcs
    have hlm : len ≤ m := by rw [hmm]; split <;> omega
    rw [hx] at hs
    have hsz := hs.slice ht
    simp only [List.length_map, List.length_range] at hsz
    refine ⟨hl, Nat.le_trans (Nat.mul_le_mul_right _ (Nat.le_add_right _ _)) hsz, ?_⟩
    rcases Nat.eq_zero_or_pos len with hz | hz
    · exact .inl hz
    right
    have each : ∀ i, i < len → ∃ cs' : List Value, cs'.length = fs.size ∧ (∀ j, j < fs.size → w.cell? ((a.add (i * fs.size)).add j) = cs'[j]?) ∧
        ∃ n, ∀ (j : Nat) (f : Field), fs[j]? = some f → ∃ u y, cs'[j]? = some u ∧ DataW.trod enc P w base spare held n f.type [u] = some y ∧ Sized P f.type y.1 := by
      intro i hi
      obtain ⟨cs', h1, h2⟩ := hel i (by omega)
      rw [hC] at h1
      obtain ⟨_, hlen, hcell⟩ := World.cells?_some h1
      obtain ⟨xs, k, _, hxy, _, hxl, hf⟩ := DataW.trod_struct he h2
      have hsi : Sized P e (D i) := hs.elem ht (List.mem_map.2 ⟨i, List.mem_range.2 hi, rfl⟩)
      simp only [Prod.mk.injEq] at hxy
      rw [hxy.1] at hsi
      refine ⟨cs', hlen, hcell, k, fun j f hj => ?_⟩
      obtain ⟨o, kk⟩ := hone_of hone j f hj
      have hjl : j < fs.size := (Array.getElem?_eq_some_iff.1 hj).1
      have h3 := hf j f hj
      rw [o, kk] at h3
      have hcl : j < cs'.length := by omega
      have e1 : (cs'.drop j).take 1 = [cs'[j]] := by
        rw [List.drop_eq_getElem_cons hcl]
        rfl
      rw [e1] at h3
      have hxs : xs[j]? = some xs[j] := List.getElem?_eq_getElem (by omega)
      exact ⟨cs'[j], xs[j], List.getElem?_eq_getElem hcl, h3.trans hxs, hsi.field he hj (by rw [List.getElem?_map, hxs]; rfl)⟩
    obtain ⟨b, off, spot⟩ := a
    have hspot : spot = none := by
      obtain ⟨cs', hl', hc, _⟩ := each 0 hz
      have hcc := hc 0 h0
      rw [List.getElem?_eq_getElem (by omega)] at hcc
      simpa [Addr.add] using World.cell?_spot hcc
    subst hspot
    refine ⟨b, off, rfl, fun i hi => ?_⟩
    obtain ⟨cs', hl', hc, hr⟩ := each i hi
    refine ⟨cs', hl', fun j hj => ?_, hr⟩
    have := hc j hj
    rw [Addr.add_lit, Addr.add_lit, Nat.add_assoc] at this
    exact this
end
theorem slice_of_trod {H : Type} {enc : TypeId × Value → H} {P : Program} {w : World} {base : Nat} {spare : Nat → Bool} {held : Bool} {t e : TypeId} (ht : P.underlying t = some (.slice e)) {u : Value} {fuel : Nat} {x : DataW H × List MemPlace}
    (h : DataW.trod enc P w base spare held fuel t [u] = some x) : ∃ A len cap, u = .slice A len cap := by
  rcases open_slice ht h with ⟨hcs, _⟩ | ⟨a, len', cap', m, n, D, Pl, hcs, _⟩
  · simp only [List.cons.injEq, and_true] at hcs
    exact ⟨_, _, _, hcs⟩
  · simp only [List.cons.injEq, and_true] at hcs
    exact ⟨_, _, _, hcs⟩
/-- A guard that came in: it, and where its monitors lie. -/
structure GrdA where
  g : Grd
  A : Option Addr
  c : Nat
def gav (x : GrdA) : Value := grv x.g x.A x.g.mons.length x.c
def GrdArg (w : World) (x : GrdA) : Prop := Rd w x.A (mvs x.g.mons) ∧ x.g.mons.length ≤ 2513169434900
theorem list6M {α : Type} {l : List α} (h : l.length = 6) : ∃ c0 c1 c2 c3 c4 c5, l = [c0, c1, c2, c3, c4, c5] := by
  match l, h with
  | [c0, c1, c2, c3, c4, c5], _ => exact ⟨_, _, _, _, _, _, rfl⟩
theorem list5M {α : Type} {l : List α} (h : l.length = 5) : ∃ c0 c1 c2 c3 c4, l = [c0, c1, c2, c3, c4] := by
  match l, h with
  | [c0, c1, c2, c3, c4], _ => exact ⟨_, _, _, _, _, rfl⟩
set_option maxRecDepth 100000 in
/-- One monitor, from its six cells. -/
theorem mon_of_cells {H : Type} {enc : TypeId × Value → H} {w : World} {base : Nat} {spare : Nat → Bool} {held : Bool} {fs : Array Field} (he : Try.prog.underlying 68 = some (.struct fs)) {cs : List Value} (hl : cs.length = fs.size) (hsz : fs.size = 6)
    {n : Nat} (hf : ∀ (j : Nat) (f : Field), fs[j]? = some f → ∃ u y, cs[j]? = some u ∧ DataW.trod enc Try.prog w base spare held n f.type [u] = some y ∧ Sized Try.prog f.type y.1) :
    ∃ x : Mon, cs = mcs x := by
  obtain ⟨c0, c1, c2, c3, c4, c5, rfl⟩ := list6M (hl.trans hsz)
  rw [Try.underlying68] at he
  injection he with he
  injection he with he
  subst he
  obtain ⟨u0, y0, e0, t0, s0⟩ := hf 0 _ rfl
  obtain ⟨z0, rfl, _⟩ := cell_int (k := .i64) (by kernel_rfl) t0
  obtain rfl : c0 = .int .i64 z0 := by simpa using e0
  obtain ⟨u1, y1, e1, t1, s1⟩ := hf 1 _ rfl
  obtain ⟨z1, rfl, _⟩ := cell_int (k := .i64) (by kernel_rfl) t1
  obtain rfl : c1 = .int .i64 z1 := by simpa using e1
  obtain ⟨u2, y2, e2, t2, s2⟩ := hf 2 _ rfl
  obtain ⟨z2, rfl, _⟩ := cell_int (k := .i64) (by kernel_rfl) t2
  obtain rfl : c2 = .int .i64 z2 := by simpa using e2
  obtain ⟨u3, y3, e3, t3, s3⟩ := hf 3 _ rfl
  obtain ⟨z3, rfl, _⟩ := cell_int (k := .i64) (by kernel_rfl) t3
  obtain rfl : c3 = .int .i64 z3 := by simpa using e3
  obtain ⟨u4, y4, e4, t4, s4⟩ := hf 4 _ rfl
  obtain ⟨z4, rfl, _⟩ := cell_int (k := .i64) (by kernel_rfl) t4
  obtain rfl : c4 = .int .i64 z4 := by simpa using e4
  obtain ⟨u5, y5, e5, t5, s5⟩ := hf 5 _ rfl
  obtain ⟨z5, rfl⟩ := cell_string (by kernel_rfl) t5
  obtain rfl : c5 = .string z5 := by simpa using e5
  exact ⟨⟨z0, z1, z2, z3, z4, z5⟩, rfl⟩
set_option maxRecDepth 100000 in
theorem open_guard {H : Type} {enc : TypeId × Value → H} {w : World} {base : Nat} {spare : Nat → Bool} {held : Bool} {r : Reach} {b0 : Nat} {v : Value} {d : DataW H} {p : List MemPlace}
    (hw : Value.okWide Try.prog w r b0 42 v) (h : DataW.Trod enc Try.prog w base spare held 42 v d p) (hz : Sized Try.prog 42 d) :
    ∃ x : GrdA, v = gav x ∧ GrdArg w x := by
  obtain ⟨cs, rfl, hl, n, hf⟩ := open_agg Try.underlying42 (by kernel_rfl) (by kernel_rfl) hw h hz
  obtain ⟨c0, c1, c2, c3, c4, rfl⟩ := list5M (hl.trans rfl)
  obtain ⟨u1, y1, e1, t1, s1⟩ := hf 1 _ rfl
  obtain ⟨z1, rfl, _⟩ := cell_int (k := .i64) (by kernel_rfl) t1
  obtain rfl : c1 = .int .i64 z1 := by simpa using e1
  obtain ⟨u2, y2, e2, t2, s2⟩ := hf 2 _ rfl
  obtain ⟨z2, rfl, _⟩ := cell_int (k := .i64) (by kernel_rfl) t2
  obtain rfl : c2 = .int .i64 z2 := by simpa using e2
  obtain ⟨u3, y3, e3, t3, s3⟩ := hf 3 _ rfl
  obtain ⟨z3, rfl, _⟩ := cell_int (k := .i64) (by kernel_rfl) t3
  obtain rfl : c3 = .int .i64 z3 := by simpa using e3
  obtain ⟨u4, y4, e4, t4, s4⟩ := hf 4 _ rfl
  obtain ⟨z4, rfl⟩ := cell_string (by kernel_rfl) t4
  obtain rfl : c4 = .string z4 := by simpa using e4
  obtain ⟨u0, y0, e0, t0, s0⟩ := hf 0 _ rfl
  obtain ⟨A, len, cap, rfl⟩ := slice_of_trod Try.underlying40 t0
  obtain rfl : c0 = .slice A len cap := by simpa using e0
  obtain ⟨hlc, hby, hrow⟩ := cell_structs Try.underlying40 Try.underlying68 (by kernel_rfl) (by kernel_rfl) (by decide) t0 s0
  have hbb : Try.prog.bytesOf 68 = 56 := by kernel_rfl
  rw [hbb] at hby
  simp only [reachBytes] at hby
  have hn : len ≤ 2513169434900 := by omega
  rcases hrow with rfl | ⟨b, off, rfl, hr⟩
  · exact ⟨⟨⟨[], z1, z2, z3, z4⟩, A, cap⟩, rfl, Rd.nil _ _, by simp⟩
  have each : ∀ i, i < len → ∃ x : Mon, ∀ j, j < 6 → w.cell? ⟨b, off + (i * 6 + j), none⟩ = (mcs x)[j]? := by
    intro i hi
    obtain ⟨cs', hl', hc, k, hk⟩ := hr i hi
    obtain ⟨x, rfl⟩ := mon_of_cells Try.underlying68 hl' (by decide) hk
    exact ⟨x, fun j hj => hc j hj⟩
  obtain ⟨f, hf2⟩ := choose_lt each
  have hlen : ((List.range len).map f).length = len := by simp
  refine ⟨⟨⟨(List.range len).map f, z1, z2, z3, z4⟩, some ⟨b, off, none⟩, cap⟩, by show _ = grv _ _ _ _; unfold grv; dsimp only; rw [hlen], ?_, by show ((List.range len).map f).length ≤ _; rw [hlen]; exact hn⟩
  intro i u hu
  refine ⟨b, off, rfl, ?_⟩
  have hil : i < (mvs ((List.range len).map f)).length := (List.getElem?_eq_some_iff.1 hu).1
  rw [mvs_len, hlen] at hil
  have hq : i / 6 < len := by omega
  have hg := mvs_get (l := (List.range len).map f) (i := i / 6) (x := f (i / 6)) (by rw [List.getElem?_map, List.getElem?_range hq]; rfl) (j := i % 6) (by omega)
  have hc := hf2 (i / 6) hq (i % 6) (by omega)
  rw [show i / 6 * 6 + i % 6 = i by omega] at hg hc
  rw [hc, ← hg]
  exact hu
end Go.Proofs.Ytaifogddoonabaa
