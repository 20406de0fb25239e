/-
  Words for a range over a function: what the caller's own words abide; append within a fence. slices.Chunk of bytes: what it hands a loop.
-/
import Derived.RangeFuncBox
import Derived.RangeFuncNested
import Derived.RangeFuncBound
import Derived.RangeFuncCalls
import Derived.RangeFuncLeaves
import Derived.Shelf.Abstract
import Derived.OwnWalkIn
import Derived.TacticsInMore
import Derived.LoopNIn
import Derived.LoopIn
import Derived.BigRegionIn
import Derived.Test.YtianombjgdmbeaaMDeliverTakes1
import Derived.Test.YtianombjgdmbeaaMDeliverTakes2
namespace Go.Proofs.Ytianombjgdmbeaa
set_option linter.unusedSimpArgs false
set_option linter.unusedVariables false
open Go.RowKit Go.Shelf

section
variable {w w' : World} {A : Option Addr} {xs : List Value} {base : Nat} {e : TypeId} {size n c g : Nat} {t : TypeId} {cs : Array Value} {row : Option Nat}
theorem Own.kept_in (h : Own w base e size A n c xs) (hg : w.grownBy w' row) (hr : ∀ r, row = some r → ∃ o : Obj, w.heap[r]? = some o ∧ o.isCells = false) : Own w' base e size A n c xs := by
  refine h.grown hg (fun k hk hb => ?_)
  obtain ⟨o, ho, hc⟩ := hr k hk
  rcases A with _ | a
  · simp [blk] at hb
  obtain ⟨cur, _, _, hh, _⟩ := h.at_ _ rfl
  have e1 : a.block = k := by simpa [blk] using hb
  rw [e1, ho] at hh
  injection hh with hh
  subst hh
  cases hc
theorem Blk.kept_in (h : Blk w g t cs) (hg : w.grownBy w' row) (hr : ∀ r, row = some r → ∃ o : Obj, w.heap[r]? = some o ∧ o.isCells = false) : Blk w' g t cs := by
  refine h.grown hg (fun hb => ?_)
  obtain ⟨o, ho, hc⟩ := hr g hb.symm
  unfold Blk at h
  rw [ho] at h
  injection h with h
  subst h
  cases hc
end
theorem wpListIn_append_Own {F : Fence} {nn : Nat} {P : Program} (w : World) {ops : Array Oper} {rest : List Oper} {o : Oper} {a : Act} {Q : Exit → Act → World → Prop} (hgd : o.guard = none) (s x : Operand) (t : TypeId)
    (ho : o.op = .call { callee := .builtin .append, args := #[s, x], argTypes := #[t, t] })
    (base : Nat) (e : TypeId) (i : TypeInfo) (z : Value) (size bytes : Nat) (ht : P.underlying t = some (.slice e)) (hi : P.info? e = some i) (hz : i.zero = some z)
    (hsize : i.size = size) (hby : i.bytes = bytes) (hzs : z.cells.size = size)
    (A : Option Addr) (n c : Nat) (xs : List Value) (hs : a.eval s = .slice A n c) (hown : Own w base e size A n c xs)
    (A2 : Option Addr) (m c2 : Nat) (news : List Value) (hx : a.eval x = .slice A2 m c2) (hl : news.length = m * size) (hR : Rd w A2 news) (h1 : ∀ u ∈ news, u.oneCell' = true)
    (h63 : n + m ≤ maxLen) (hbytes : (n + m) * bytes ≤ 140737488355328) (hbase : base ≤ w.heap.size)
    (h : ∀ A' c' w', Own w' base e size A' (n + m) c' (xs ++ news) → w.grownBy w' (blk A) → (A' = A ∨ blk A' = some w.heap.size) → wpListIn F nn P ops Q rest (a.put o.dst (.slice A' (n + m) c')) w') : wpListIn F nn P ops Q (o :: rest) a w := by
  refine wpListIn_plain hgd fun K hK' => ?_
  obtain ⟨A', c', w', hrun, h2, h3, h4⟩ := run_append_Own (P := P) w base t o.type e i z size bytes ht hi hz hsize hby hzs A n c xs hown A2 m c2 news hl hR h1 h63 hbytes hbase
  unfold Oper.wpIn
  refine ⟨?_, ?_⟩
  · simp [Oper.about, ho, resolve, Target.leads, Sem.run_pure]
  · rw [Oper.semAt_plain F _ _ (by rw [ho]; intro c hc'; cases hc')]
    simp [execOp, ho, resolve, invoke, builtin, hs, hx, hrun, Result.andThen]
    exact hK' _ _ (h A' c' w' h2 h3 h4)
end Go.Proofs.Ytianombjgdmbeaa
namespace Go.Proofs.Ytianombjgdmbeaa
set_option linter.unusedSimpArgs false
set_option linter.unusedVariables false
open Go.RowKit Go.Shelf
attribute [local go_sem] Oper.semAt_some

/-- How many pieces. -/
def pieces (len s : Nat) : Nat := (len + s - 1) / s
theorem pieces_iff {len s k : Nat} (hs : 0 < s) : k < pieces len s ↔ k * s < len := by
  unfold pieces
  rw [← Nat.succ_le_iff, Nat.le_div_iff_mul_le hs, Nat.succ_mul]
  omega
/-- One of them. -/
def pieceV (b off len s k : Nat) : Value := .slice (some ⟨b, off + k * s, none⟩) (min s (len - k * s)) (min s (len - k * s))

set_option maxRecDepth 100000 in
set_option maxHeartbeats 1000000 in
theorem chunk_in (F : Fence) (n : Nat) (hf : F.fn 47) (hro : F.round = none) (A : Option Addr) (len cap s : Nat) (hs : 1 ≤ s) (w : World) :
    CallsIn F n Try.prog 47 #[.slice A len cap, .int .i64 (s : Int)] w fun e w' => e = .returned (.func (.func 89) #[] #[.pointer (some ⟨w.heap.size, 0, none⟩), .pointer (some ⟨w.heap.size + 1, 0, none⟩)]) ∧ w' = (w.alloc (.cells #[.slice A len cap] 23)).alloc (.cells #[.int .i64 (s : Int)] 3) := by
  have hsi : (1 : Int) ≤ (s : Int) := by omega
  refine callsIn_of_wp Try.func47 rfl hf ?_ hro
  simp only [Try.ntmps47, List.size_toArray, List.length_cons, List.length_nil, Nat.reduceAdd, Nat.reduceSub, Array.replicate_succ, Array.replicate_zero, List.push_toArray, List.append_toArray, List.nil_append, List.cons_append]
  gi_wp2
  go_ret
  exact ⟨rfl, rfl⟩

/-- What a round keeps: whatever lay below n₀, and the boxes Bs and Bn. -/
def KeepC (n₀ Bs Bn : Nat) (W W' : World) : Prop := Below n₀ W W' ∧ (∀ v, W.cell? ⟨Bs, 0, none⟩ = some v → W'.cell? ⟨Bs, 0, none⟩ = some v) ∧ ∀ v, W.cell? ⟨Bn, 0, none⟩ = some v → W'.cell? ⟨Bn, 0, none⟩ = some v
theorem KeepC.refl (n₀ Bs Bn : Nat) (W : World) : KeepC n₀ Bs Bn W W := ⟨Below.refl _ _, fun _ h => h, fun _ h => h⟩
theorem KeepC.trans {n₀ Bs Bn : Nat} {A B C : World} (h : KeepC n₀ Bs Bn A B) (k : KeepC n₀ Bs Bn B C) : KeepC n₀ Bs Bn A C := ⟨h.1.trans k.1, fun v hv => k.2.1 v (h.2.1 v hv), fun v hv => k.2.2 v (h.2.2 v hv)⟩
theorem KeepC.drew {n₀ Bs Bn : Nat} {A B : World} (h : KeepC n₀ Bs Bn A B) : KeepC n₀ Bs Bn A B.drew := ⟨h.1.drew, h.2.1, h.2.2⟩
theorem KeepC.of_below {n₀ Bs Bn N : Nat} {A B : World} (h : Below N A B) (h0 : n₀ ≤ N) (h1 : Bs < N) (h2 : Bn < N) : KeepC n₀ Bs Bn A B := ⟨h.mono h0, fun v hv => (h.cell (p := ⟨Bs, 0, none⟩) h1).trans hv, fun v hv => (h.cell (p := ⟨Bn, 0, none⟩) h2).trans hv⟩
theorem KeepC.grown {n₀ Bs Bn : Nat} {A B : World} {row : Option Nat} (hg : A.grownBy B row) (h0 : n₀ ≤ A.heap.size) (hr : ∀ r, row = some r → n₀ ≤ r ∧ r ≠ Bs ∧ r ≠ Bn) : KeepC n₀ Bs Bn A B :=
  ⟨(Below.refl _ _).grown hg h0 (fun k hk => (hr k hk).1), fun v hv => (World.cell?_of_block (w := A) (a := ⟨Bs, 0, none⟩) (hg.block Bs (World.block_lt_of_cell? _ _ hv) (fun e => (hr Bs e.symm).2.1 rfl))).trans hv, fun v hv => (World.cell?_of_block (w := A) (a := ⟨Bn, 0, none⟩) (hg.block Bn (World.block_lt_of_cell? _ _ hv) (fun e => (hr Bn e.symm).2.2 rfl))).trans hv⟩
theorem KeepC.set {n₀ Bs Bn b : Nat} (W : World) (h0 : n₀ ≤ b) (h1 : b ≠ Bs) (h2 : b ≠ Bn) (o : Nat) (u : Value) : KeepC n₀ Bs Bn W (W.setCell ⟨b, o, none⟩ u) :=
  ⟨(Below.refl _ _).setCell (p := ⟨b, o, none⟩) h0 _, fun v hv => (World.cell?_of_block (w := W) (a := ⟨Bs, 0, none⟩) (Below.heap_setCell W ⟨b, o, none⟩ u Bs (fun e => h1 e.symm))).trans hv, fun v hv => (World.cell?_of_block (w := W) (a := ⟨Bn, 0, none⟩) (Below.heap_setCell W ⟨b, o, none⟩ u Bn (fun e => h2 e.symm))).trans hv⟩
theorem KeepC.alloc {n₀ Bs Bn : Nat} (W : World) (h0 : n₀ ≤ W.heap.size) (o : Obj) : KeepC n₀ Bs Bn W (W.alloc o) :=
  ⟨(Below.refl _ _).alloc h0 _, fun v hv => (World.cell?_of_block (w := W) (a := ⟨Bs, 0, none⟩) (Below.heap_alloc W o Bs (World.block_lt_of_cell? _ _ hv))).trans hv, fun v hv => (World.cell?_of_block (w := W) (a := ⟨Bn, 0, none⟩) (Below.heap_alloc W o Bn (World.block_lt_of_cell? _ _ hv))).trans hv⟩
theorem keepC_b {n₀ Bs Bn : Nat} {w : World} (hn : n₀ ≤ w.heap.size) : ∀ (W : World) (l : Nat) (o o' : Obj), w.heap.size ≤ l → W.heap[l]? = some o → o.isCells = false → o.isWalk = false → KeepC n₀ Bs Bn W (W.putObj l o') := fun W l o o' hl ho hc hw =>
  ⟨belowK_b hn W l o o' hl ho hc hw, fun v hv => cell_kept hv (grownBy_putObj' W l o') (fun r e => by cases e; exact ⟨o, ho, hc⟩), fun v hv => cell_kept hv (grownBy_putObj' W l o') (fun r e => by cases e; exact ⟨o, ho, hc⟩)⟩

set_option maxRecDepth 100000 in
set_option maxHeartbeats 12000000 in
theorem chunk1_in (F : Fence) (n : Nat) (hf : F.fn 89) (hro : F.round = none) (hn : 1 ≤ n) (l Bs Bn n₀ b off len cap s : Nat) (hs : 1 ≤ s) (hs2 : s ≤ 1048576) (hlen : len ≤ 140737488351300) (hcap : len ≤ cap)
    (J Jx : List (Fin (pieces len s)) → World → Prop) (hJ : ∀ pre W, J pre W → J pre W.drew)
    (hY : ∀ pre x W, J pre W → pre.length < pieces len s → YieldAt F (n - 1) Try.prog l #[pieceV b off len s x.val] W fun e W' =>
      (e = .returned (.bool true) ∧ J (pre ++ [x]) W' ∧ KeepC n₀ Bs Bn W W') ∨ (e = .returned (.bool false) ∧ Jx (pre ++ [x]) W'))
    (W : World) (hBs : W.cell? ⟨Bs, 0, none⟩ = some (.slice (some ⟨b, off, none⟩) len cap)) (hBn : W.cell? ⟨Bn, 0, none⟩ = some (.int .i64 (s : Int))) (h0 : J [] W) :
    CallsIn F n Try.prog 89 #[.func (.yield l) #[] #[], .pointer (some ⟨Bs, 0, none⟩), .pointer (some ⟨Bn, 0, none⟩)] W fun e W' => (∃ v, e = .returned v) ∧
      ((∃ ys, ys.map Fin.val = List.range (pieces len s) ∧ J ys W') ∨ (∃ pre, (∃ k, k ≤ pieces len s ∧ pre.map Fin.val = List.range k) ∧ Jx pre W')) := by
  refine callsIn_of_wp Try.func89 rfl hf ?_ hro
  simp only [Try.ntmps89, List.size_toArray, List.length_cons, List.length_nil, Nat.reduceAdd, Nat.reduceSub, Array.replicate_succ, Array.replicate_zero, List.push_toArray, List.append_toArray, List.nil_append, List.cons_append]
  have HJ := Lib.hid hJ
  have HY := Lib.hid hY
  clear hJ hY
  have HP := fun k => Lib.hid (pieces_iff (len := len) (k := k) (show 0 < s by omega))
  gi_wp2_with fail
  gi_loopw [4] (fun i wr => ∃ (k : Nat) (pre : List (Fin (pieces len s))), k ≤ pieces len s ∧ pre.map Fin.val = List.range k ∧ i = .int .i64 ((k * s : Nat) : Int) ∧ J pre wr ∧ KeepC n₀ Bs Bn W wr) (fun i _ => len + s - (intOf i).toNat)
  case atStart => exact ⟨0, [], Nat.zero_le _, rfl, by simp, h0, KeepC.refl _ _ _ _⟩
  case round =>
    obtain ⟨k, pre, hk, hpre, rfl, hJs, hnx⟩ := hrel
    have cs := hnx.2.1 _ hBs
    have cn := hnx.2.2 _ hBn
    have HPre := Lib.hid hpre
    clear hpre
    by_cases hlt : k < pieces len s
    · have hp := (HP k).out.1 hlt
      obtain ⟨fn, tmps, assign, body, hy, hR⟩ := HY.out pre ⟨k, hlt⟩ wr.drew (HJ.out _ _ hJs) (by have := congrArg List.length HPre.out; simp at this; omega)
      unfold pieceV at hy
      dsimp only at hy
      have HS : Hid ((k + 1) * s = k * s + s) := Lib.hid (Nat.succ_mul k s)
      generalize hpe : k * s = p at *
      clear hpe
      have p1 : (p : Int) < (len : Int) := by omega
      have p2 : (0 : Int) ≤ (p : Int) := by omega
      have p3 : (p : Int) ≤ (cap : Int) := by omega
      have p4 : ¬ cap = p := by omega
      have p5 : ((len : Int) - (p : Int)).toNat = len - p := by omega
      by_cases hm : s ≤ len - p
      · rw [Nat.min_eq_left hm] at hy
        have m1 : (s : Int) ≤ (len : Int) - (p : Int) := by omega
        have m2 : (p : Int) + (s : Int) ≤ (cap : Int) := by omega
        have m3 : ¬ (len - p < s) := by omega
        have m5 : p + s - p = s := by omega
        have m6 : ((p : Int) + (s : Int)).toNat = p + s := by omega
        gi_wp2_with fail
        gi_region
        all_goals gi_wp2_with fail
        all_goals
          refine hR.mono ?_
          rintro e W3 (⟨rfl, hJ3, hk3⟩ | ⟨rfl, hJx3⟩)
        all_goals
          have cn3 := fun h : KeepC n₀ Bs Bn wr.drew W3 => h.2.2 _ (show wr.drew.cell? ⟨Bn, 0, none⟩ = _ from cn)
        all_goals first
          | (have cn4 := cn3 hk3
             have u1 : (p : Int) + (s : Int) ≤ 140737489399876 := by omega
             clear cn3 HP
             gi_wp2
             go_roundw
             case rel => exact ⟨k + 1, pre ++ [⟨k, hlt⟩], by omega, by rw [List.map_append, HPre.out, List.range_succ]; rfl, by rw [HS.out]; simp, hJ3, (hnx.drew).trans hk3⟩
             case measure => simp [intOf]; omega)
          | (clear cn3
             gi_wp2
             refine bodyPost_ret (results_none rfl _ _ _) rfl ?_
             exact ⟨⟨_, rfl⟩, .inr ⟨pre ++ [⟨k, hlt⟩], ⟨k + 1, by omega, by rw [List.map_append, HPre.out, List.range_succ]; rfl⟩, hJx3⟩⟩)
      · rw [Nat.min_eq_right (by omega)] at hy
        obtain ⟨e, he⟩ : ∃ e, len = p + e := ⟨len - p, by omega⟩
        clear p5
        subst he
        rw [Nat.add_sub_cancel_left] at hy hm
        have m3 : e < s := by omega
        have p5 : ((p : Int) + (e : Int)).toNat = p + e := by omega
        gi_wp2_with fail
        gi_region
        all_goals gi_wp2_with fail
        all_goals
          refine hR.mono ?_
          rintro e W3 (⟨rfl, hJ3, hk3⟩ | ⟨rfl, hJx3⟩)
        all_goals
          have cn3 := fun h : KeepC n₀ Bs Bn wr.drew W3 => h.2.2 _ (show wr.drew.cell? ⟨Bn, 0, none⟩ = _ from cn)
        all_goals first
          | (have cn4 := cn3 hk3
             have u1 : (p : Int) + (s : Int) ≤ 140737489399876 := by omega
             clear cn3 HP
             gi_wp2
             go_roundw
             case rel => exact ⟨k + 1, pre ++ [⟨k, hlt⟩], by omega, by rw [List.map_append, HPre.out, List.range_succ]; rfl, by rw [HS.out]; simp, hJ3, (hnx.drew).trans hk3⟩
             case measure => simp [intOf]; omega)
          | (clear cn3
             gi_wp2
             refine bodyPost_ret (results_none rfl _ _ _) rfl ?_
             exact ⟨⟨_, rfl⟩, .inr ⟨pre ++ [⟨k, hlt⟩], ⟨k + 1, by omega, by rw [List.map_append, HPre.out, List.range_succ]; rfl⟩, hJx3⟩⟩)
    · obtain rfl : k = pieces len s := by omega
      have hp : ¬ (pieces len s * s < len) := fun h => hlt ((HP _).out.2 h)
      generalize pieces len s * s = p at *
      have p1 : ¬ ((p : Int) < (len : Int)) := by omega
      gi_wp2
      go_end0
      exact ⟨⟨_, rfl⟩, .inl ⟨pre, HPre.out, hJs⟩⟩

/-- All pieces, or the first k. -/
theorem chunk_stops (F : Fence) (n : Nat) (hf : F.fn 89) (hro : F.round = none) (hn : 1 ≤ n) (Bs Bn n₀ b off len cap s : Nat) (hs : 1 ≤ s) (hs2 : s ≤ 1048576) (hlen : len ≤ 140737488351300) (hcap : len ≤ cap) (w : World) (hBs : Bs < w.heap.size) (hBn : Bn < w.heap.size)
    (hcs : w.cell? ⟨Bs, 0, none⟩ = some (.slice (some ⟨b, off, none⟩) len cap)) (hcn : w.cell? ⟨Bn, 0, none⟩ = some (.int .i64 (s : Int))) :
    SeqStopsK F n Try.prog 89 #[.pointer (some ⟨Bs, 0, none⟩), .pointer (some ⟨Bn, 0, none⟩)] (fun x : Fin (pieces len s) => #[pieceV b off len s x.val]) (KeepC n₀ Bs Bn) (fun ys => ys.map Fin.val = List.range (pieces len s))
      (fun pre => ∃ k, k ≤ pieces len s ∧ pre.map Fin.val = List.range k) (pieces len s) w := fun l J Jx W hW hJ _ hY h0 =>
  chunk1_in F n hf hro hn l Bs Bn n₀ b off len cap s hs hs2 hlen hcap J Jx (fun pre W h => hJ pre W W.drew none h ⟨rfl, rfl, rfl, Nat.le_refl _, fun _ _ _ => rfl⟩ (fun r e => by cases e)) hY W ((hW.cell (p := ⟨Bs, 0, none⟩) hBs).trans hcs) ((hW.cell (p := ⟨Bn, 0, none⟩) hBn).trans hcn) h0
end Go.Proofs.Ytianombjgdmbeaa
