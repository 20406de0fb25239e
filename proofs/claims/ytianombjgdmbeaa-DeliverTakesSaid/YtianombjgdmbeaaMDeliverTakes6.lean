/-
  A file's sum, by the program (deliver.Sum). deliver.Sum of a slice that has no address: nothing is summed.
-/
import Derived.Test.YtianombjgdmbeaaMDeliverTakes3
import Derived.Test.YtianombjgdmbeaaMDeliverTakes4
import Derived.Test.YtianombjgdmbeaaMDeliverTakes5
namespace Go.Proofs.Ytianombjgdmbeaa
set_option linter.unusedSimpArgs false
set_option linter.unusedVariables false
open Go.RowKit Go.Shelf
attribute [local go_sem] Oper.semAt_some

theorem boxed_keep4 {A B : World} {row : Option Nat} {b : Nat} {t : TypeId} {v : Value} (h : Boxed A b t v) (hg : A.grownBy B row) (hr : ∀ r, row = some r → ∃ o : Obj, A.heap[r]? = some o ∧ o.isCells = false) : Boxed B b t v :=
  h.kept hg (fun e => by
    obtain ⟨o, ho, hc⟩ := hr b e.symm
    unfold Boxed at h
    rw [h] at ho
    injection ho with ho
    subst ho
    cases hc)

def u8c (k : Nat) : Value := .int .u8 ((k : Nat) : Int)
def fcs (l : List UInt8) (y m : Nat) : List Value := (List.range m).map fun j => u8c (bAt l (4 * y + j))
theorem fcs_length (l : List UInt8) (y m : Nat) : (fcs l y m).length = m := by unfold fcs; rw [List.length_map, List.length_range]
theorem fcs_one (l : List UInt8) (y m : Nat) : ∀ v ∈ fcs l y m, v.oneCell' = true := by
  intro v hv
  unfold fcs at hv
  obtain ⟨j, _, rfl⟩ := List.mem_map.1 hv
  rfl
theorem fcs_src {W : World} {b off : Nat} {l : List UInt8} (h : Rd W (some ⟨b, off, none⟩) (bvs l)) (y m : Nat) (hm : 4 * y + m ≤ l.length) : ∀ j v, (fcs l y m)[j]? = some v → W.cell? ((⟨b, off + y * 4, none⟩ : Addr).add j) = some v := by
  intro j v hj
  have hjm : j < m := by
    have := (List.getElem?_eq_some_iff.1 hj).1
    rwa [fcs_length] at this
  have e : v = u8c (bAt l (4 * y + j)) := by
    unfold fcs at hj
    rw [List.getElem?_map, List.getElem?_range hjm, Option.map_some] at hj
    exact (Option.some.inj hj).symm
  rw [e]
  have := h.byteE (k := 4 * y + j) (by omega)
  rw [show off + (4 * y + j) = off + y * 4 + j by omega] at this
  unfold Addr.add
  split
  · rename_i h0
    subst h0
    exact this
  · exact this
def zer4 : Array Value := #[u8c 0, u8c 0, u8c 0, u8c 0]
def fou4 (l : List UInt8) (y : Nat) : Array Value := #[u8c (bAt l (4 * y)), u8c (bAt l (4 * y + 1)), u8c (bAt l (4 * y + 2)), u8c (bAt l (4 * y + 3))]
theorem four_laid (l : List UInt8) (y m : Nat) (hy : 4 * y < l.length) (hm : m = min 4 (l.length - 4 * y)) : laidOver zer4 0 (fcs l y m) = fou4 l y := by
  unfold laidOver zer4 fou4
  have h : m = 1 ∧ l.length = 4 * y + 1 ∨ m = 2 ∧ l.length = 4 * y + 2 ∨ m = 3 ∧ l.length = 4 * y + 3 ∨ m = 4 := by omega
  rcases h with ⟨rfl, h⟩ | ⟨rfl, h⟩ | ⟨rfl, h⟩ | rfl
  · rw [bAt_out (l := l) (i := 4 * y + 1) (by omega), bAt_out (l := l) (i := 4 * y + 2) (by omega), bAt_out (l := l) (i := 4 * y + 3) (by omega)]; rfl
  · rw [bAt_out (l := l) (i := 4 * y + 2) (by omega), bAt_out (l := l) (i := 4 * y + 3) (by omega)]; rfl
  · rw [bAt_out (l := l) (i := 4 * y + 3) (by omega)]; rfl
  · rfl
section
variable {P : Program} {l0 n : Nat}
theorem round_copy_N {w : World} {o : Oper} {a : Act} {K : Act → World → Prop} {Q : Exit → Act → World → Prop} (d s : Operand) (dT sT : TypeId)
    (ho : o.op = .call { callee := .builtin .copy, args := #[d, s], argTypes := #[dT, sT] }) (elem : TypeId) (hu : P.underlying dT = some (.slice elem)) (size : Nat) (hsz : (P.info? elem).map (·.size) = some size)
    (g off dLen dCap : Nat) (ad : Addr) (sLen sCap : Nat) (hd : a.eval d = .slice (some ⟨g, off, none⟩) dLen dCap) (hs : a.eval s = .slice (some ad) sLen sCap)
    (cur : Array Value) (t : TypeId) (hg : Blk w g t cur) (cs : List Value) (n' : Nat) (hn : Nat.min sLen dLen = n') (hc : cs.length = n' * size)
    (hsrc : ∀ j v, cs[j]? = some v → w.cell? (ad.add j) = some v) (hfit : off + cs.length ≤ cur.size) (h1 : ∀ v ∈ cs, v.oneCell' = true)
    (h : ∀ w', Blk w' g t (laidOver cur off cs) → w.grownBy w' (some g) → K (a.put o.dst (goInt n')) w') : o.wpIn (Fence.wide.inRound l0) n P a w K Q :=
  oper_round (fun c e => by rw [ho] at e; cases e) (wp_copy_N d s dT sT ho elem hu size hsz g off dLen dCap ad sLen sCap hd hs cur t hg cs n' hn hc hsrc hfit h1 h)
theorem lround_copy_N {w : World} {ops : Array Oper} {rest : List Oper} {o : Oper} {a : Act} {Q : Exit → Act → World → Prop} (hgd : o.guard = none) (d s : Operand) (dT sT : TypeId)
    (ho : o.op = .call { callee := .builtin .copy, args := #[d, s], argTypes := #[dT, sT] }) (elem : TypeId) (hu : P.underlying dT = some (.slice elem)) (size : Nat) (hsz : (P.info? elem).map (·.size) = some size)
    (g off dLen dCap : Nat) (ad : Addr) (sLen sCap : Nat) (hd : a.eval d = .slice (some ⟨g, off, none⟩) dLen dCap) (hs : a.eval s = .slice (some ad) sLen sCap)
    (cur : Array Value) (t : TypeId) (hg : Blk w g t cur) (cs : List Value) (n' : Nat) (hn : Nat.min sLen dLen = n') (hc : cs.length = n' * size)
    (hsrc : ∀ j v, cs[j]? = some v → w.cell? (ad.add j) = some v) (hfit : off + cs.length ≤ cur.size) (h1 : ∀ v ∈ cs, v.oneCell' = true)
    (h : ∀ w', Blk w' g t (laidOver cur off cs) → w.grownBy w' (some g) → wpListIn (Fence.wide.inRound l0) n P ops Q rest (a.put o.dst (goInt n')) w') : wpListIn (Fence.wide.inRound l0) n P ops Q (o :: rest) a w :=
  BigFrame.wpListIn_want (by simp [Region.wanted, hgd]) fun K hK => round_copy_N d s dT sT ho elem hu size hsz g off dLen dCap ad sLen sCap hd hs cur t hg cs n' hn hc hsrc hfit h1 (fun w' h2 h3 => hK _ _ (h w' h2 h3))
end
set_option maxHeartbeats 4000000 in
set_option maxRecDepth 100000 in
theorem sum_some (b off len c : Nat) (l : List UInt8) (w : World) (hll : l.length = len) (hb : Rd w (some ⟨b, off, none⟩) (bvs l)) (hlc : len ≤ c) (hn : len ≤ 140737488351300) (hbl : b < w.heap.size) :
    Calls Try.prog 17 #[.slice (some ⟨b, off, none⟩) len c] w fun e w' => e = .returned (.int .i64 (fileSum l)) ∧ Below w.heap.size w w' := by
  have HL := Lib.hid hll
  clear hll
  refine (callsIn_wide (n := 5)).1 ?_
  have h1 : 1 ≤ 5 := by omega
  refine callsIn_of_wp_marks Try.func17 rfl trivial ?_ rfl
  simp only [Try.ntmps17, List.size_toArray, List.length_cons, List.length_nil, Nat.reduceAdd, Nat.reduceSub, Array.replicate_succ, Array.replicate_zero, List.push_toArray, List.append_toArray, List.nil_append, List.cons_append]
  gi_wp2_with fail
  refine ⟨trivial, (chunk_in Fence.wide 4 trivial rfl (some ⟨b, off, none⟩) len c 4 (by omega) _).mono ?_⟩
  rintro e w' ⟨rfl, rfl⟩
  obtain ⟨W3, hW3⟩ : ∃ W : World, W = ((w.alloc (.cells #[.int .u32 0] 74)).alloc (.cells #[.slice (some ⟨b, off, none⟩) len c] 23)).alloc (.cells #[.int .i64 4] 3) := ⟨_, rfl⟩
  have bS : Boxed W3 w.heap.size 74 (.int .u32 0) := by
    rw [hW3]
    exact ((Boxed.new w 74 (.int .u32 0)).alloc (.cells #[.slice (some ⟨b, off, none⟩) len c] 23)).alloc (.cells #[.int .i64 4] 3)
  have bC : Boxed W3 (w.heap.size + 1) 23 (.slice (some ⟨b, off, none⟩) len c) := by
    rw [hW3]
    have := (Boxed.new (w.alloc (.cells #[.int .u32 0] 74)) 23 (.slice (some ⟨b, off, none⟩) len c)).alloc (.cells #[.int .i64 4] 3)
    rwa [World.size_alloc] at this
  have bN : Boxed W3 (w.heap.size + 1 + 1) 3 (.int .i64 4) := by
    rw [hW3]
    have := Boxed.new ((w.alloc (.cells #[.int .u32 0] 74)).alloc (.cells #[.slice (some ⟨b, off, none⟩) len c] 23)) 3 (.int .i64 4)
    rwa [World.size_alloc, World.size_alloc] at this
  have hb3 : Below w.heap.size w W3 := by rw [hW3]; exact (((Below.refl _ _).alloc (Nat.le_refl _) _).alloc (by simp) _).alloc (by simp; omega) _
  have sz3 : W3.heap.size = w.heap.size + 3 := by rw [hW3]; simp
  gi_wp2_with fail
  rw [← hW3]
  clear hW3
  refine wpIn_rangeFunc_ownF rfl h1 (gf := 89) (lb := #[.pointer (some ⟨w.heap.size + 1, 0, none⟩), .pointer (some ⟨w.heap.size + 1 + 1, 0, none⟩)]) rfl trivial (enters_of Try.func89 (by kernel_rfl) rfl)
    (chunk_stops Fence.wide 4 trivial rfl (by omega) (w.heap.size + 1) (w.heap.size + 1 + 1) w.heap.size b off len c 4 (by omega) (by omega) (by omega) hlc W3 (by omega) (by omega) bC.cell bN.cell) KeepC.trans (keepC_b (by omega)) (Below.refl _ _) (fun _ => rfl)
    (fun pre W => Boxed W w.heap.size 74 (.int .u32 ((sumF4 l (pre.map Fin.val) : Nat) : Int)) ∧ Below w.heap.size w W)
    (fun _ _ _ => False)
    (OwnFrom.and (Own.from (I := fun (pre : List (Fin (pieces len 4))) W => Boxed W w.heap.size 74 (.int .u32 ((sumF4 l (pre.map Fin.val) : Nat) : Int))) (fun s A B row hs hg hr => boxed_keep4 hs hg hr) _) (ownFrom_below (by omega) (by omega)))
    (fun _ _ _ _ _ hs _ _ => hs)
    ⟨bS, hb3⟩
    (fun y => { tmps := #[.slice (some ⟨b, off, none⟩) len c, undef, .int .i64 0, .pointer (some ⟨w.heap.size, 0, none⟩), pieceV b off len 4 y.val, undef, .slice (some ⟨b, off, none⟩) len c, .func (.func 89) #[] #[.pointer (some ⟨w.heap.size + 1, 0, none⟩), .pointer (some ⟨w.heap.size + 1 + 1, 0, none⟩)], pieceV b off len 4 y.val, undef, undef, undef, undef, undef, undef, undef, undef, undef, undef, undef, undef, undef, undef, undef, undef, undef, undef, undef, undef, undef, undef, undef, undef, undef], defers := [] }) ?assign ?body ?done ?stop
  case assign =>
    intro l y W K hK
    gi_wp2
    exact hK
  case body =>
    rintro l0 pre ⟨y, hy⟩ W ⟨bS, hB⟩ _
    have hyl : y * 4 < len := (pieces_iff (by omega)).1 hy
    have HS : Hid (sumF4 l ((pre ++ [(⟨y, hy⟩ : Fin (pieces len 4))]).map Fin.val) = (sumF4 l (pre.map Fin.val) + g4 l y) % m32) := by show _ = _; rw [List.map_append]; exact sumF4_snoc _ _ _
    have hsl := sumF4_lt l (pre.map Fin.val)
    dsimp only
    unfold pieceV
    have hbW : Rd W (some ⟨b, off, none⟩) (bvs l) := hb.belowN hB (fun k hk => by cases hk; exact hbl)
    have hbA := hbW.alloc (.cells #[.int .u8 0, .int .u8 0, .int .u8 0, .int .u8 0] 78)
    obtain ⟨m, hm⟩ : ∃ m : Nat, m = min 4 (l.length - 4 * y) := ⟨_, rfl⟩
    have hmr : Nat.min (min 4 (len - y * 4)) 4 = m := by have := HL.out; show min (min 4 (len - y * 4)) 4 = m; omega
    have hsrc := fcs_src hbA y m (by have := HL.out; omega)
    have hlaid := four_laid l y m (by have := HL.out; omega) hm
    have hfit : 0 + (fcs l y m).length ≤ zer4.size := by rw [fcs_length]; show 0 + m ≤ 4; omega
    have hnew : Blk (W.alloc (.cells #[.int .u8 0, .int .u8 0, .int .u8 0, .int .u8 0] 78)) W.heap.size 78 zer4 := Blk.new _ _ _
    have zW := hB.size
    have lS := bS.lt
    have bSn := bS.alloc (.cells #[.int .u8 0, .int .u8 0, .int .u8 0, .int .u8 0] 78)
    have k0 := bAt_lt l (4 * y)
    have k1 := bAt_lt l (4 * y + 1)
    have k2 := bAt_lt l (4 * y + 2)
    have k3 := bAt_lt l (4 * y + 3)
    have HG : Hid (g4 l y = bAt l (4 * y) * 16777216 + bAt l (4 * y + 1) * 65536 + bAt l (4 * y + 2) * 256 + bAt l (4 * y + 3)) := by show _ = _; unfold g4; rfl
    have hlaid' : fou4 l y = #[u8c (bAt l (4 * y)), u8c (bAt l (4 * y + 1)), u8c (bAt l (4 * y + 2)), u8c (bAt l (4 * y + 3))] := rfl
    rw [hlaid'] at hlaid
    clear hlaid'
    unfold u8c at hlaid
    generalize g4 l y = G at *
    generalize sumF4 l (pre.map Fin.val) = S at *
    generalize bAt l (4 * y) = x0 at *
    generalize bAt l (4 * y + 1) = x1 at *
    generalize bAt l (4 * y + 2) = x2 at *
    generalize bAt l (4 * y + 3) = x3 at *
    rw [m32_eq] at hsl
    clear hbW hbA
    gi_wp2_with (with_reducible refine lround_copy_N rfl (.tmp 9) (.tmp 10) 23 23 rfl 5 Try.underlying23 1 rfl W.heap.size 0 4 4 ⟨b, off + y * 4, none⟩ (min 4 (len - y * 4)) (min 4 (len - y * 4)) rfl rfl zer4 78 hnew (fcs l y m) m hmr (by rw [fcs_length]; omega) hsrc hfit (fcs_one l y m) ?_; intro W5 hb5 hg5; rw [hlaid] at hb5; have hB5 := (hB.alloc zW (.cells #[.int .u8 0, .int .u8 0, .int .u8 0, .int .u8 0] 78)).grown hg5 (by simp; omega) (fun q hq => by injection hq with hq; omega); have bS5 := bSn.kept hg5 (by simp; omega); have cS5 := bS5.cell; have fS5 := bS5.frozen; obtain ⟨c0, c1, c2, c3, _⟩ := hb5.four)
    have e1 : bits .or .u32 ((x0 : Int) * 16777216) ((x1 : Int) * 65536) = ((x0 * 16777216 + x1 * 65536 : Nat) : Int) := by
      rw [show (x0 : Int) * 16777216 = ((x0 * 16777216 : Nat) : Int) by omega, show (x1 : Int) * 65536 = ((x1 * 65536 : Nat) : Int) by omega]
      exact or_u32 (m := 24) (by omega) (by omega) (by omega)
    have e2 : bits .or .u32 ((x0 * 16777216 + x1 * 65536 : Nat) : Int) ((x2 : Int) * 256) = ((x0 * 16777216 + x1 * 65536 + x2 * 256 : Nat) : Int) := by
      rw [show (x2 : Int) * 256 = ((x2 * 256 : Nat) : Int) by omega]
      exact or_u32 (m := 16) (by omega) (by omega) (by omega)
    have e3 : bits .or .u32 ((x0 * 16777216 + x1 * 65536 + x2 * 256 : Nat) : Int) (x3 : Int) = ((x0 * 16777216 + x1 * 65536 + x2 * 256 + x3 : Nat) : Int) :=
      or_u32 (m := 8) (by omega) (by omega) (by omega)
    rw [e1, e2, e3, ← HG.out]
    obtain ⟨q1, q2, q3, q4, q5⟩ := hg5
    have GR : W.grownBy W5 none := ⟨q1, q2, q3, by simp at q4; omega, fun k hk _ => (q5 k (by simp; omega) (by simp; omega)).trans (Below.heap_alloc W _ k hk)⟩
    have kO : KeepsOthers W W5 := ⟨by simp at q4; omega, fun k o ho _ => (GR.block k (Array.getElem?_eq_some_iff.1 ho).1 (by simp)).trans ho⟩
    have kC : KeepC w.heap.size (w.heap.size + 1) (w.heap.size + 1 + 1) W W5 := ⟨(Below.refl w.heap.size W).grown GR zW (fun q hq => by cases hq), fun v hv => cell_kept hv GR (fun r e => by cases e), fun v hv => cell_kept hv GR (fun r e => by cases e)⟩
    refine ⟨kO.trans (KeepsOthers.setCell _ _ _), kC.trans (KeepC.set _ (by omega) (by omega) (by omega) _ _), ?_, hB5.setCell (p := ⟨w.heap.size, 0, none⟩) (by simp) _⟩
    rw [HS.out, m32_eq]
    have := bS5.set (.int .u32 (((S : Int) + (G : Int)) % 4294967296))
    rwa [show ((S : Int) + (G : Int)) % 4294967296 = (((S + G) % 4294967296 : Nat) : Int) by omega] at this
  case done =>
    rintro D ys W hD hys ⟨bS, hB⟩ hK
    rw [hys] at bS
    have hall := sumF4_all l (pieces len 4) (by have := HL.out; unfold pieces; omega)
    rw [hall] at bS
    have cS := bS.cell
    have hlt : 0 ≤ fileSum l ∧ fileSum l < 4294967296 := by unfold fileSum; omega
    gi_wp2_with fail
    refine ⟨by simp, .inl ⟨_, _, rfl, run_takeDeferred hK, ?_⟩⟩
    refine ⟨.int .i64 (fileSum l), by simp [results, Try.results17, go_sem], ?_⟩
    exact ⟨rfl, hB.trans (belowK_b (w := w) (Nat.le_refl _) W D _ _ (by omega) hK rfl rfl)⟩
  case stop =>
    rintro D c pre W _ _ h _
    exact h.elim
end Go.Proofs.Ytianombjgdmbeaa
namespace Go.Proofs.Ytianombjgdmbeaa
set_option linter.unusedSimpArgs false
set_option linter.unusedVariables false
open Go.RowKit Go.Shelf
attribute [local go_sem] Oper.semAt_some

set_option maxRecDepth 100000 in
set_option maxHeartbeats 4000000 in
theorem chunk0_in (F : Fence) (n : Nat) (hf : F.fn 89) (hro : F.round = none) (hn : 1 ≤ n) (l Bs Bn n₀ cap s : Nat) (hs : 1 ≤ s) (hs2 : s ≤ 1048576)
    (J Jx : List (Fin (pieces 0 s)) → World → Prop) (hJ : ∀ pre W, J pre W → J pre W.drew)
    (W : World) (hBs : W.cell? ⟨Bs, 0, none⟩ = some (.slice none 0 cap)) (h0 : J [] W) :
    CallsIn F n Try.prog 89 #[.func (.yield l) #[] #[], .pointer (some ⟨Bs, 0, none⟩), .pointer (some ⟨Bn, 0, none⟩)] W fun e W' => (∃ v, e = .returned v) ∧
      ((∃ ys, ys.map Fin.val = List.range (pieces 0 s) ∧ J ys W') ∨ (∃ pre, (∃ k, k ≤ pieces 0 s ∧ pre.map Fin.val = List.range k) ∧ Jx pre W')) := by
  refine callsIn_of_wp Try.func89 rfl hf ?_ hro
  simp only [Try.ntmps89, List.size_toArray, List.length_cons, List.length_nil, Nat.reduceAdd, Nat.reduceSub, Array.replicate_succ, Array.replicate_zero, List.push_toArray, List.append_toArray, List.nil_append, List.cons_append]
  have HJ := Lib.hid hJ
  clear hJ
  have hp0 : pieces 0 s = 0 := by
    have := fun h => (pieces_iff (len := 0) (k := 0) (show 0 < s by omega)).1 h
    omega
  gi_wp2_with fail
  gi_loopw [4] (fun i wr => i = .int .i64 0 ∧ J [] wr ∧ KeepC n₀ Bs Bn W wr) (fun i _ => 0)
  case atStart => exact ⟨rfl, h0, KeepC.refl _ _ _ _⟩
  case round =>
    obtain ⟨rfl, hJs, hnx⟩ := hrel
    have cs := hnx.2.1 _ hBs
    gi_wp2
    go_end0
    exact ⟨⟨_, rfl⟩, .inl ⟨[], by rw [hp0]; rfl, hJs⟩⟩
theorem chunk0_stops (F : Fence) (n : Nat) (hf : F.fn 89) (hro : F.round = none) (hn : 1 ≤ n) (Bs Bn n₀ cap s : Nat) (hs : 1 ≤ s) (hs2 : s ≤ 1048576) (w : World) (hBs : Bs < w.heap.size)
    (hcs : w.cell? ⟨Bs, 0, none⟩ = some (.slice none 0 cap)) :
    SeqStopsK F n Try.prog 89 #[.pointer (some ⟨Bs, 0, none⟩), .pointer (some ⟨Bn, 0, none⟩)] (fun x : Fin (pieces 0 s) => #[pieceV 0 0 0 s x.val]) (KeepC n₀ Bs Bn) (fun ys => ys.map Fin.val = List.range (pieces 0 s))
      (fun pre => ∃ k, k ≤ pieces 0 s ∧ pre.map Fin.val = List.range k) (pieces 0 s) w := fun l J Jx W hW hJ _ _ h0 =>
  chunk0_in F n hf hro hn l Bs Bn n₀ cap s hs hs2 J Jx (fun pre W h => hJ pre W W.drew none h ⟨rfl, rfl, rfl, Nat.le_refl _, fun _ _ _ => rfl⟩ (fun r e => by cases e)) W ((hW.cell (p := ⟨Bs, 0, none⟩) hBs).trans hcs) h0
set_option maxHeartbeats 4000000 in
set_option maxRecDepth 100000 in
theorem sum_none (c : Nat) (w : World) :
    Calls Try.prog 17 #[.slice none 0 c] w fun e w' => e = .returned (.int .i64 (fileSum [])) ∧ Below w.heap.size w w' := by
  refine (callsIn_wide (n := 5)).1 ?_
  have h1 : 1 ≤ 5 := by omega
  refine callsIn_of_wp_marks Try.func17 rfl trivial ?_ rfl
  simp only [Try.ntmps17, List.size_toArray, List.length_cons, List.length_nil, Nat.reduceAdd, Nat.reduceSub, Array.replicate_succ, Array.replicate_zero, List.push_toArray, List.append_toArray, List.nil_append, List.cons_append]
  gi_wp2_with fail
  refine ⟨trivial, (chunk_in Fence.wide 4 trivial rfl none 0 c 4 (by omega) _).mono ?_⟩
  rintro e w' ⟨rfl, rfl⟩
  obtain ⟨W3, hW3⟩ : ∃ W : World, W = ((w.alloc (.cells #[.int .u32 0] 74)).alloc (.cells #[.slice none 0 c] 23)).alloc (.cells #[.int .i64 4] 3) := ⟨_, rfl⟩
  have bS : Boxed W3 w.heap.size 74 (.int .u32 0) := by
    rw [hW3]
    exact ((Boxed.new w 74 (.int .u32 0)).alloc (.cells #[.slice none 0 c] 23)).alloc (.cells #[.int .i64 4] 3)
  have bC : Boxed W3 (w.heap.size + 1) 23 (.slice none 0 c) := by
    rw [hW3]
    have := (Boxed.new (w.alloc (.cells #[.int .u32 0] 74)) 23 (.slice none 0 c)).alloc (.cells #[.int .i64 4] 3)
    rwa [World.size_alloc] at this
  have bN : Boxed W3 (w.heap.size + 1 + 1) 3 (.int .i64 4) := by
    rw [hW3]
    have := Boxed.new ((w.alloc (.cells #[.int .u32 0] 74)).alloc (.cells #[.slice none 0 c] 23)) 3 (.int .i64 4)
    rwa [World.size_alloc, World.size_alloc] at this
  have hb3 : Below w.heap.size w W3 := by rw [hW3]; exact (((Below.refl _ _).alloc (Nat.le_refl _) _).alloc (by simp) _).alloc (by simp; omega) _
  have sz3 : W3.heap.size = w.heap.size + 3 := by rw [hW3]; simp
  gi_wp2_with fail
  rw [← hW3]
  clear hW3
  refine wpIn_rangeFunc_ownF rfl h1 (gf := 89) (lb := #[.pointer (some ⟨w.heap.size + 1, 0, none⟩), .pointer (some ⟨w.heap.size + 1 + 1, 0, none⟩)]) rfl trivial (enters_of Try.func89 (by kernel_rfl) rfl)
    (chunk0_stops Fence.wide 4 trivial rfl (by omega) (w.heap.size + 1) (w.heap.size + 1 + 1) w.heap.size c 4 (by omega) (by omega) W3 (by omega) bC.cell) KeepC.trans (keepC_b (by omega)) (Below.refl _ _) (fun _ => rfl)
    (fun pre W => Boxed W w.heap.size 74 (.int .u32 ((sumF4 [] (pre.map Fin.val) : Nat) : Int)) ∧ Below w.heap.size w W)
    (fun _ _ _ => False)
    (OwnFrom.and (Own.from (I := fun (pre : List (Fin (pieces 0 4))) W => Boxed W w.heap.size 74 (.int .u32 ((sumF4 [] (pre.map Fin.val) : Nat) : Int))) (fun s A B row hs hg hr => boxed_keep4 hs hg hr) _) (ownFrom_below (by omega) (by omega)))
    (fun _ _ _ _ _ hs _ _ => hs)
    ⟨bS, hb3⟩
    (fun y => { tmps := #[.slice none 0 c, undef, .int .i64 0, .pointer (some ⟨w.heap.size, 0, none⟩), pieceV 0 0 0 4 y.val, undef, .slice none 0 c, .func (.func 89) #[] #[.pointer (some ⟨w.heap.size + 1, 0, none⟩), .pointer (some ⟨w.heap.size + 1 + 1, 0, none⟩)], pieceV 0 0 0 4 y.val, undef, undef, undef, undef, undef, undef, undef, undef, undef, undef, undef, undef, undef, undef, undef, undef, undef, undef, undef, undef, undef, undef, undef, undef, undef], defers := [] }) ?assign ?body ?done ?stop
  case assign =>
    intro l y W K hK
    gi_wp2
    exact hK
  case body =>
    rintro l0 pre ⟨y, hy⟩ W ⟨bS, hB⟩ _
    have hyl : y * 4 < 0 := (pieces_iff (by omega)).1 hy
    omega
  case done =>
    rintro D ys W hD hys ⟨bS, hB⟩ hK
    rw [hys] at bS
    have hall := sumF4_all [] (pieces 0 4) (Nat.zero_le _)
    rw [hall] at bS
    have cS := bS.cell
    have hlt : 0 ≤ fileSum [] ∧ fileSum [] < 4294967296 := by unfold fileSum; omega
    gi_wp2_with fail
    refine ⟨by simp, .inl ⟨_, _, rfl, run_takeDeferred hK, ?_⟩⟩
    refine ⟨.int .i64 (fileSum []), by simp [results, Try.results17, go_sem], ?_⟩
    exact ⟨rfl, hB.trans (belowK_b (w := w) (Nat.le_refl _) W D _ _ (by omega) hK rfl rfl)⟩
  case stop =>
    rintro D c pre W _ _ h _
    exact h.elim
end Go.Proofs.Ytianombjgdmbeaa
