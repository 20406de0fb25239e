/-
  (*hand).send: an order goes up.
-/
import Derived.Test.YtppmdamcdhmcpaaFreeP
import Derived.Test.YtppmdamcdhmcpaaDoOut
import Derived.Test.YtppmdamcdhmcpaaOrdEncC
import Derived.Deep.DeepCutAuto
namespace Go.Proofs.Ytppmdamcdhmcpaa
set_option linter.unusedSimpArgs false
set_option linter.unusedVariables false
open Go.RowKit

set_option maxHeartbeats 12800000 in
set_option maxRecDepth 100000 in
theorem psend_any (h : Hnd) (o : Ord) (S A R X : Option Addr) (n1 c n2 d nR cR nx xc p base : Nat) (rl : List RowR) (W : World) (hp : Blk W p 45 #[.int .i64 h.craft, .int .i64 h.next, .int .i64 h.ahead, .slice S n1 c, .slice A n2 d, .int .i64 h.timer, .int .i64 h.patience, .int .i64 h.tries, .int .i64 h.limit, .int .i64 h.since, .int .i64 h.pause, .int .i64 h.halt, .slice R nR cR]) (hX : Rd W X (bvs o.data)) (hnx : o.data.length = nx) (hOr : OwnRs W base R nR cR rl) (hbase : base ≤ W.heap.size) (hnR : nR ≤ 5864062014000) :
    Calls Try.prog 30 #[.pointer (some ⟨p, 0, none⟩), .agg #[.int .i64 o.craft, .bool o.bypass, .bool o.control, .int .i64 o.seq, .slice X nx xc]] W fun e w' => e = .returned (.tuple #[]) ∧
      ∃ R' cR' rl', rl'.map RowR.b = rl.map RowR.b ++ [(ordEnc { o with craft := h.craft }).1] ∧ Blk w' p 45 #[.int .i64 h.craft, .int .i64 h.next, .int .i64 h.ahead, .slice S n1 c, .slice A n2 d, .int .i64 h.timer, .int .i64 h.patience, .int .i64 h.tries, .int .i64 h.limit, .int .i64 h.since, .int .i64 h.pause, .int .i64 h.halt, .slice R' (nR + 1) cR'] ∧ OwnRs w' base R' (nR + 1) cR' rl' ∧ (∀ q, Touch R' rl' q → Touch R rl q ∨ W.heap.size ≤ q) ∧ Turned W w' (fun q => q = p ∨ Touch R rl q) := by
  obtain ⟨j0, hj0, hy0, hy1, hy2⟩ := info_parts rowsinfo
  have hpl := hp.lt
  have q0 := Blk.new W 53 #[.int .i64 o.craft, .bool o.bypass, .bool o.control, .int .i64 o.seq, .slice X nx xc]
  have p1 := hp.alloc (.cells #[.int .i64 o.craft, .bool o.bypass, .bool o.control, .int .i64 o.seq, .slice X nx xc] 53)
  have k0 := p1.cell' (i := 0) rfl
  have kq := q0.cell' (i := 0) rfl
  have kf := q0.frozen
  have q2 : Blk (W.alloc (.cells #[.int .i64 h.craft, .bool o.bypass, .bool o.control, .int .i64 o.seq, .slice X nx xc] 53)) W.heap.size 53 #[.int .i64 h.craft, .bool o.bypass, .bool o.control, .int .i64 o.seq, .slice X nx xc] := Blk.new W _ _
  have p2 := hp.alloc (.cells #[.int .i64 h.craft, .bool o.bypass, .bool o.control, .int .i64 o.seq, .slice X nx xc] 53)
  have hB : Below W.heap.size W (W.alloc (.cells #[.int .i64 h.craft, .bool o.bypass, .bool o.control, .int .i64 o.seq, .slice X nx xc] 53)) := (Below.refl _ _).alloc (Nat.le_refl _) _
  have hO2 : OwnRs (W.alloc (.cells #[.int .i64 h.craft, .bool o.bypass, .bool o.control, .int .i64 o.seq, .slice X nx xc] 53)) base R nR cR rl := hOr.step hB
  have hltr := fun (q : Nat) (hq : Touch R rl q) => hOr.lt hq
  have hnp : ¬ Touch R rl p := fun ht => by
    rcases ht with e | ⟨i, r, hr, e⟩
    · exact hOr.arr.notBlk hp (by decide) e
    · exact (hOr.bs.1 i r hr).notBlk hp (by decide) e
  have CE := encode_any { o with craft := h.craft } X xc (W.alloc (.cells #[.int .i64 h.craft, .bool o.bypass, .bool o.control, .int .i64 o.seq, .slice X nx xc] 53)) (hX.below hB)
  unfold ordv at CE
  dsimp only at CE
  rw [hnx] at CE
  obtain ⟨rb, hrb⟩ : ∃ rb, (ordEnc { o with craft := h.craft }).1 = rb := ⟨_, rfl⟩
  obtain ⟨nb, hnb⟩ : ∃ nb, rb.length = nb := ⟨_, rfl⟩
  unfold BytesRes at CE
  rw [hrb, hnb] at CE
  rw [hrb]
  have NB := Lib.hid hnb
  have HCE := Lib.hid CE
  have zS : W.heap.size + 1 ≤ (W.alloc (.cells #[.int .i64 h.craft, .bool o.bypass, .bool o.control, .int .i64 o.seq, .slice X nx xc] 53)).heap.size := by simp
  clear CE hX hnx hnb hrb hp hOr
  go_enter Try.func30, Try.ntmps30
  go_upto_region 2 with fail
  clear k0 kq kf q0 p1
  generalize (W.alloc (.cells #[.int .i64 h.craft, .bool o.bypass, .bool o.control, .int .i64 o.seq, .slice X nx xc] 53)) = W2 at *
  obtain ⟨x0, x1, x2, x3, x4, xf⟩ := q2.five
  go_wp2_with fail
  refine HCE.out.mono ?_
  rintro e w3 ⟨Ab, cb, rfl, hOb, hb⟩
  clear HCE x0 x1 x2 x3 x4 xf q2
  have z3 := hb.size
  have hob := hOb.lt
  have p3 := p2.step hb
  have hO3 := hO2.step hb
  have hB3 := hB.trans (hb.mono hB.size)
  clear hb hB
  have k12 := p3.cell' (i := 12) rfl
  have OB := Lib.hid hOb
  have p4 := p3.alloc (.cells #[.slice Ab nb cb] 26)
  have hO4 := hO3.alloc (.cells #[.slice Ab nb cb] 26)
  have hb4 := (hOb.alloc (.cells #[.slice Ab nb cb] 26)).mono (base' := base) (by omega)
  have hB4 := hB3.alloc hB3.size (.cells #[.slice Ab nb cb] 26)
  have hR4 := Rd_new w3 [.slice Ab nb cb] 26
  have z4 : w3.heap.size ≤ (w3.alloc (.cells #[.slice Ab nb cb] 26)).heap.size := by simp
  have hltb := fun (i : Nat) (y : RowR) (hy : rl[i]? = some y) (q : Nat) (hq : blk y.A = some q) => (hltr q (.inr ⟨i, y, hy, hq⟩)).2
  have hnpR : blk R ≠ some p := fun e => hnp (.inl e)
  have q4 : nR + 1 ≤ maxLen := by unfold maxLen; omega
  have q5 : (nR + 1) * 24 ≤ 140737488355328 := by omega
  clear hOb
  go_wp2_with (first
    | (at_builtin; refine wpList_append_Own (w3.alloc (.cells #[.slice Ab nb cb] 26)) rfl (.tmp 21) (.tmp 23) 22 rfl base 26 j0 _ 1 24 Try.underlying22 hj0 hy0 hy1 hy2 rfl R nR cR (rowvs rl) rfl hO4.arr (some ⟨w3.heap.size, 0, none⟩) 1 1 [.slice Ab nb cb] rfl rfl hR4 (one_slice Ab nb cb) q4 q5 (by omega) ?_; intro B6 d6 w6 hB6 hg6 hor6; have p6 := p4.over hg6 (fun q hq e => hnpR (by rw [hq]; exact e.symm)); have k12 := p6.cell' (i := 12) rfl; have kf6 := p6.frozen))
  have hx6 := add_row (x := ⟨rb, Ab, cb⟩) hO4.bs (by show Own _ _ _ _ Ab rb.length cb (bvs rb); rw [NB.out]; exact hb4) hO4.arr hg6 (m := W.heap.size) hltb (fun q hq => by have := (hob q hq).1; omega) (by show Own _ _ _ _ _ _ _ (rowvs rl ++ [.slice Ab rb.length cb]); rw [NB.out]; exact hB6)
  have hnx : ¬ Touch B6 (rl ++ [⟨rb, Ab, cb⟩]) p := fun ht => by
    rcases ht with e | ⟨i, r, hr, e⟩
    · exact hx6.arr.notBlk p6 (by decide) e
    · exact (hx6.bs.1 i r hr).notBlk p6 (by decide) e
  have T3 : Turned W (w3.alloc (.cells #[.slice Ab nb cb] 26)) (fun q => q = p ∨ Touch R rl q) := (below_turned hB4).mono (fun _ _ f => f.elim)
  have T6 := T3.grown hg6 (fun q hq _ => .inr (.inl hq))
  go_end0
  refine ⟨rfl, B6, d6, rl ++ [⟨rb, Ab, cb⟩], by simp, p6.set_ 12 _, hx6.far (p := ⟨p, 12, none⟩) hnx _, ?_, T6.set (p := ⟨p, 12, none⟩) (fun _ => .inl rfl) _⟩
  rintro q (hq | ⟨i, r, hr, hq⟩)
  · rcases hor6 with e | e
    · rw [e] at hq; exact .inl (.inl hq)
    · rw [e] at hq; right; have := Option.some.inj hq; omega
  · rcases Nat.lt_or_ge i rl.length with h3 | h3
    · rw [List.getElem?_append_left h3] at hr
      exact .inl (.inr ⟨i, r, hr, hq⟩)
    · have hi : i < (rl ++ [(⟨rb, Ab, cb⟩ : RowR)]).length := (List.getElem?_eq_some_iff.1 hr).1
      rw [List.length_append, List.length_singleton] at hi
      rw [List.getElem?_append_right h3, show i - rl.length = 0 by omega] at hr
      injection hr with hr
      subst hr
      have := (hob q hq).1
      right
      omega
end Go.Proofs.Ytppmdamcdhmcpaa
