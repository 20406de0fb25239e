/-
  How a guard stands at first, by the program and by the document.
-/
import Derived.Test.YtaifogddoonabaaGrdF
import Derived.Test.YtaifogddoonabaaHeld4
import Derived.Test.YtaifogddoonabaaApart
import Derived.Test.YtaifogddoonabaaByteAt
namespace Go.Proofs.Ytaifogddoonabaa
set_option linter.unusedSimpArgs false
set_option linter.unusedVariables false
open Go.RowKit

theorem results_row_slot {P : Program} {fn : Func} {p q : Tmp} {ty : TypeId} (h : fn.results = #[.cell p ty, .tmp q]) (tmps : Array Value) (w : World) (g : Nat) (t : TypeId) (cs : Array Value) (fr : Nat × Nat) (d : TypeDesc)
    {v : Value} (hp : tmps.getD p undef = .pointer (some ⟨g, 0, none⟩)) (hq : tmps.getD q undef = v) (hg : w.heap[g]? = some (.cells cs t fr))
    (hu : P.underlying ty = some d) (hd : (match d with | .struct _ | .array _ _ => true | _ => false) = true) (hi : (P.info? ty).map (·.size) = some cs.size) :
    (results fn tmps).run P w = .ok (.tuple #[.agg cs, v]) w := by
  have hq' : tmps[q]?.getD undef = v := by simpa using hq
  have hp' : tmps[p]?.getD undef = .pointer (some ⟨g, 0, none⟩) := by simpa using hp
  simp [results, h, hp', hq', asAddr, run_loadVar_row w g t ty cs fr d hg hu hd hi]

def bovs (l : List Bool) : List Value := l.map Value.bool
theorem bovs_one (l : List Bool) : ∀ u ∈ bovs l, u.oneCell' = true := by
  intro u hu
  simp only [bovs, List.mem_map] at hu
  obtain ⟨x, _, rfl⟩ := hu
  rfl
theorem made_getN (z : Value) (hz : z.oneCell' = true) (n i : Nat) (h : i < n) : (madeCells #[z] n)[i]? = some z := by
  have e := toList_madeCells_one z n
  rw [← Array.getElem?_toList, e]
  simp [h]
theorem Own.madeN (w : World) (e : TypeId) (z : Value) (hz : z.oneCell' = true) (n : Nat) (hc : n ≤ maxLen) : Own (w.alloc (.cells (madeCells #[z] n) e)) w.heap.size e 1 (some ⟨w.heap.size, 0, none⟩) n n (List.replicate n z) := by
  refine Own.of_block (heap_alloc_new w _) (Nat.le_refl _) (by simp) (Nat.le_refl _) hc (by simp [size_madeCells]) fun i u h => ?_
  have hi : i < n := by
    rcases Nat.lt_or_ge i n with h1 | h1
    · exact h1
    · rw [List.getElem?_eq_none (by simpa using h1)] at h; cases h
  rw [made_getN z hz n i hi, ← h]
  simp [hi]
theorem Own.lowRow {w : World} {base g s n c : Nat} {e : TypeId} {A : Option Addr} {xs : List Value} (h : Own w base e s A n c xs) (hg : g < base) (ds : Array Value) : Own (w.setRow g ds) base e s A n c xs := h.keep fun a ha _ => setRow_other w g a.block ds (by have := (h.lt a.block (map_block_of_some ha)).1; omega)
theorem boolinfo : (Try.prog.info? 4).map (fun i => (i.zero, i.size, i.bytes)) = some (some (.bool false), 1, 1) := by kernel_rfl
theorem make_ints (n : Nat) (h : n ≤ 1000) (w : World) : (Instr.makeSlice 44 (.int .i64 (n : Int)) (.int .i64 (n : Int))).run Try.prog w = .ok (.slice (some ⟨w.heap.size, 0, none⟩) n n) (w.alloc (.cells (madeCells #[.int .i64 0] n) 3)) := by
  obtain ⟨i0, hi0, hz0, hz1, hz2⟩ := info_parts i64info
  have := run_make_rowN (P := Try.prog) 44 3 i0 (.int .i64 0) Try.underlying44 hi0 hz0 .i64 .i64 n n (Nat.le_refl _) (by rw [hz2]; omega) (by omega) w
  rw [this, hz1, Nat.mul_one]
  rfl
theorem make_bools (n : Nat) (h : n ≤ 1000) (w : World) : (Instr.makeSlice 45 (.int .i64 (n : Int)) (.int .i64 (n : Int))).run Try.prog w = .ok (.slice (some ⟨w.heap.size, 0, none⟩) n n) (w.alloc (.cells (madeCells #[.bool false] n) 4)) := by
  obtain ⟨i0, hi0, hz0, hz1, hz2⟩ := info_parts boolinfo
  have := run_make_rowN (P := Try.prog) 45 4 i0 (.bool false) Try.underlying45 hi0 hz0 .i64 .i64 n n (Nat.le_refl _) (by rw [hz2]; omega) (by omega) w
  rw [this, hz1, Nat.mul_one]
  rfl
theorem vigilsz : (Try.prog.info? 47).map (·.size) = some 6 := by kernel_rfl
theorem grdE_len {g : Grd} (h : (grdE g).1 = 0) : g.mons.length ≤ 32 := by
  unfold grdE at h
  split at h
  · cases h
  · omega
/-- A vigil as it stands at first. -/
def vgv (why : Int) (A1 : Option Addr) (c1 : Nat) (A2 : Option Addr) (c2 k : Nat) : Array Value := #[.bool false, .int .i64 why, .slice A1 k c1, .slice A2 k c2, .int .i64 0, .slice none 0 0]
def BegOut (w w' : World) (why : Int) (k : Nat) (err : Int) (e : Ending) : Prop :=
  ∃ A1 c1 A2 c2, e = .returned (.tuple #[.agg (vgv why A1 c1 A2 c2 k), .int .i64 err]) ∧ Own w' w.heap.size 3 1 A1 k c1 (ivs (List.replicate k 0)) ∧ Own w' w.heap.size 4 1 A2 k c2 (bovs (List.replicate k false)) ∧ Below w.heap.size w w'

set_option maxHeartbeats 3200000 in
set_option maxRecDepth 100000 in
theorem begin_any (g : Grd) (A : Option Addr) (n c : Nat) (w : World) (hn : g.mons.length = n) (hR : Rd w A (mvs g.mons)) (why : Int) (k : Nat) (err : Int) (he : (grdE g).1 = err) (hk : k = if err = 0 then n else 0) (hw : why = if err = 0 then -1 else 0) :
    Calls Try.prog 17 #[grv g A n c] w fun e w' => BegOut w w' why k err e := by
  obtain ⟨⟨err', at'⟩, hr⟩ : ∃ r, grdE g = r := ⟨_, rfl⟩
  obtain rfl : err' = err := by rw [← he, hr]
  have hlen : err' = 0 → n ≤ 32 := fun h => by rw [← hn]; exact grdE_len (by rw [hr]; exact h)
  have CK := Lib.hid (fun (W : World) (hR : Rd W A (mvs g.mons)) => check_any g A n c W hn hR)
  simp only [hr] at CK
  have HRd := Lib.hid hR
  clear hn hR hr he
  obtain ⟨mons, silence, most, window, nm⟩ := g
  unfold grv at CK ⊢
  dsimp only at CK HRd ⊢
  have b1 := (Blk.new w 42 #[.slice A n c, .int .i64 silence, .int .i64 most, .int .i64 window, .string nm]).alloc (.cells #[.bool false, .int .i64 0, .slice none 0 0, .slice none 0 0, .int .i64 0, .slice none 0 0] 47)
  have b2 := Blk.new (w.alloc (.cells #[.slice A n c, .int .i64 silence, .int .i64 most, .int .i64 window, .string nm] 42)) 47 #[.bool false, .int .i64 0, .slice none 0 0, .slice none 0 0, .int .i64 0, .slice none 0 0]
  rw [show (w.alloc (.cells #[.slice A n c, .int .i64 silence, .int .i64 most, .int .i64 window, .string nm] 42)).heap.size = w.heap.size + 1 by simp] at b2
  have hB : Below w.heap.size w ((w.alloc (.cells #[.slice A n c, .int .i64 silence, .int .i64 most, .int .i64 window, .string nm] 42)).alloc (.cells #[.bool false, .int .i64 0, .slice none 0 0, .slice none 0 0, .int .i64 0, .slice none 0 0] 47)) := ((Below.refl _ _).alloc (Nat.le_refl _) _).alloc (by simp) _
  have z0 : ((w.alloc (.cells #[.slice A n c, .int .i64 silence, .int .i64 most, .int .i64 window, .string nm] 42)).alloc (.cells #[.bool false, .int .i64 0, .slice none 0 0, .slice none 0 0, .int .i64 0, .slice none 0 0] 47)).heap.size = w.heap.size + 2 := by simp
  go_enter Try.func17, Try.ntmps17
  go_wp2_with fail
  refine (CK.out _ (HRd.out.below hB)).mono ?_
  rintro e w1 ⟨rfl, hb⟩
  have z1 := hb.size
  have bF := Blk.new w1 51 #[.int .i64 err', .int .i64 at']
  have hb2 := hb.alloc z1 (.cells #[.int .i64 err', .int .i64 at'] 51)
  replace b1 := b1.step hb2
  replace b2 := b2.step hb2
  replace hB := hB.trans (hb2.mono hB.size)
  have hzW : w1.heap.size < (w1.alloc (.cells #[.int .i64 err', .int .i64 at'] 51)).heap.size := by simp
  clear hb hb2 CK
  go_upto_region 2 with fail
  generalize w1.alloc (.cells #[.int .i64 err', .int .i64 at'] 51) = W at *
  obtain ⟨q, hq⟩ : ∃ q, q = w1.heap.size := ⟨_, rfl⟩
  rw [← hq] at bF ⊢
  have hqw : w.heap.size + 1 < q := by omega
  clear hq
  have x0 := bF.cell' (i := 0) rfl
  by_cases e0 : err' = 0
  · obtain rfl : err' = 0 := e0
    rw [if_pos rfl] at hk hw
    obtain rfl : n = k := hk.symm
    obtain rfl : -1 = why := hw.symm
    have hn32 := hlen rfl
    clear hlen
    have y0 := b1.cell' (i := 0) rfl
    have hmI := make_ints n (by omega)
    have hmB := make_bools n (by omega)
    clear bF
    go_upto_region 5 with fail
    clear x0 y0
    have bD := b2.drew
    have hBD := hB.drew
    have hVs : w.heap.size + 1 < W.drew.heap.size := by show _ < W.heap.size; omega
    refine heldRegion (fun v => Blk v (w.heap.size + 1) 47 #[.bool false, .int .i64 0, .slice none 0 0, .slice none 0 0, .int .i64 0, .slice none 0 0]) 4 (by kernel_rfl) (by kernel_rfl) bD (fun hSS => ?_)
    generalize W.drew = V at *
    refine walk_take 0 (v := ?vb0) rfl (by kernel_rfl) (by kernel_rfl) (by kernel_rfl) (fun _ _ _ h => h) (hSS) (Or.inl ⟨by rfl, ?yb0⟩) ?rb0
    case yb0 => intro w hSw; (try dsimp only at hSw); go_simp; try rfl
    case' rb0 => try simp only [List.getElem_toArray, List.getElem_cons_succ, List.getElem_cons_zero, Act.put, List.setIfInBounds_toArray, List.set_cons_zero, List.set_cons_succ]
    refine walk_take 2 (v := ?vb2) rfl (by kernel_rfl) (by kernel_rfl) (by kernel_rfl) (fun _ _ _ h => h) (hSS) (Or.inl ⟨by rfl, ?yb2⟩) ?rb2
    case yb2 => intro w hSw; (try dsimp only at hSw); go_simp; try rfl
    case' rb2 => try simp only [List.getElem_toArray, List.getElem_cons_succ, List.getElem_cons_zero, Act.put, List.setIfInBounds_toArray, List.set_cons_zero, List.set_cons_succ]
    refine walk_step2 1 3 rfl rfl (by kernel_rfl) (by kernel_rfl) (by decide +kernel) (fun K hK => ?sA) (fun K hK => ?sB)
    case sA =>
      go_simp
      have zV := hBD.size
      have OI := Own.madeN V 3 (.int .i64 0) rfl n (by unfold maxLen; omega)
      have bA := bD.alloc (.cells (madeCells #[.int .i64 0] n) 3)
      have hBA := hBD.alloc zV (.cells (madeCells #[.int .i64 0] n) 3)
      refine hK _ _ bA ?_
      clear hK K
      try simp only [List.getElem_toArray, List.getElem_cons_succ, List.getElem_cons_zero, Act.put, List.setIfInBounds_toArray, List.set_cons_zero, List.set_cons_succ]
      refine walk_step 3 rfl (by kernel_rfl) (by kernel_rfl) (fun K hK => ?sAB)
      case sAB =>
        go_simp
        have OB := Own.madeN (V.alloc (.cells (madeCells #[.int .i64 0] n) 3)) 4 (.bool false) rfl n (by unfold maxLen; omega)
        have OI' : Own ((V.alloc (.cells (madeCells #[.int .i64 0] n) 3)).alloc (.cells (madeCells #[.bool false] n) 4)) V.heap.size 3 1 (some ⟨V.heap.size, 0, none⟩) n n (ivs (List.replicate n 0)) := by have := OI.alloc (.cells (madeCells #[.bool false] n) 4); simpa [ivs, iv] using this
        have b2' := bA.alloc (.cells (madeCells #[.bool false] n) 4)
        have zA := hBA.size
        have hB' := hBA.alloc zA (.cells (madeCells #[.bool false] n) 4)
        have hs : (V.alloc (.cells (madeCells #[.int .i64 0] n) 3)).heap.size = V.heap.size + 1 := by simp
        rw [hs] at OB
        have OB' : Own ((V.alloc (.cells (madeCells #[.int .i64 0] n) 3)).alloc (.cells (madeCells #[.bool false] n) 4)) (V.heap.size + 1) 4 1 (some ⟨V.heap.size + 1, 0, none⟩) n n (bovs (List.replicate n false)) := by simpa [bovs] using OB
        refine hK _ _ b2' ?_
        clear hK K
        try simp only [List.getElem_toArray, List.getElem_cons_succ, List.getElem_cons_zero, Act.put, List.setIfInBounds_toArray, List.set_cons_zero, List.set_cons_succ]
        refine walk_tail (by kernel_rfl) ?_
        simp only [List.drop_succ_cons, List.drop_zero]
        go_wp2_with (refine wpList_store_row rfl 47 (.tmp 2) (.tmp 21) rfl (w.heap.size + 1) (vgv (-1) (some ⟨V.heap.size, 0, none⟩) n (some ⟨V.heap.size + 1, 0, none⟩) n n) rfl rfl 47 _ b2' vigilsz rfl (by simp [vgv, Value.oneCell']) ?_)
        have b3 := b2'.row (vgv (-1) (some ⟨V.heap.size, 0, none⟩) n (some ⟨V.heap.size + 1, 0, none⟩) n n)
        refine bodyPost_ret (v := .tuple #[.agg (vgv (-1) (some ⟨V.heap.size, 0, none⟩) n (some ⟨V.heap.size + 1, 0, none⟩) n n), .int .i64 0]) (results_row_slot (ty := 47) Try.results17 _ _ (w.heap.size + 1) 47 _ (0, 0) _ rfl rfl b3 Try.underlying47 rfl vigilsz) rfl ?_
        exact ⟨(some ⟨V.heap.size, 0, none⟩), n, (some ⟨V.heap.size + 1, 0, none⟩), n, rfl, (OI'.lowRow (by omega) _).mono (by omega), (OB'.lowRow (by omega) _).mono (by omega), below_row hB' (by omega) _⟩
    case sB =>
      go_simp
      have zV := hBD.size
      have OB := Own.madeN V 4 (.bool false) rfl n (by unfold maxLen; omega)
      have bA := bD.alloc (.cells (madeCells #[.bool false] n) 4)
      have hBA := hBD.alloc zV (.cells (madeCells #[.bool false] n) 4)
      refine hK _ _ bA ?_
      clear hK K
      try simp only [List.getElem_toArray, List.getElem_cons_succ, List.getElem_cons_zero, Act.put, List.setIfInBounds_toArray, List.set_cons_zero, List.set_cons_succ]
      refine walk_step 1 rfl (by kernel_rfl) (by kernel_rfl) (fun K hK => ?sBA)
      case sBA =>
        go_simp
        have OI := Own.madeN (V.alloc (.cells (madeCells #[.bool false] n) 4)) 3 (.int .i64 0) rfl n (by unfold maxLen; omega)
        have OB' : Own ((V.alloc (.cells (madeCells #[.bool false] n) 4)).alloc (.cells (madeCells #[.int .i64 0] n) 3)) V.heap.size 4 1 (some ⟨V.heap.size, 0, none⟩) n n (bovs (List.replicate n false)) := by have := OB.alloc (.cells (madeCells #[.int .i64 0] n) 3); simpa [bovs] using this
        have b2' := bA.alloc (.cells (madeCells #[.int .i64 0] n) 3)
        have zA := hBA.size
        have hB' := hBA.alloc zA (.cells (madeCells #[.int .i64 0] n) 3)
        have hs : (V.alloc (.cells (madeCells #[.bool false] n) 4)).heap.size = V.heap.size + 1 := by simp
        rw [hs] at OI
        have OI' : Own ((V.alloc (.cells (madeCells #[.bool false] n) 4)).alloc (.cells (madeCells #[.int .i64 0] n) 3)) (V.heap.size + 1) 3 1 (some ⟨V.heap.size + 1, 0, none⟩) n n (ivs (List.replicate n 0)) := by simpa [ivs, iv] using OI
        refine hK _ _ b2' ?_
        clear hK K
        try simp only [List.getElem_toArray, List.getElem_cons_succ, List.getElem_cons_zero, Act.put, List.setIfInBounds_toArray, List.set_cons_zero, List.set_cons_succ]
        refine walk_tail (by kernel_rfl) ?_
        simp only [List.drop_succ_cons, List.drop_zero]
        go_wp2_with (refine wpList_store_row rfl 47 (.tmp 2) (.tmp 21) rfl (w.heap.size + 1) (vgv (-1) (some ⟨V.heap.size + 1, 0, none⟩) n (some ⟨V.heap.size, 0, none⟩) n n) rfl rfl 47 _ b2' vigilsz rfl (by simp [vgv, Value.oneCell']) ?_)
        have b3 := b2'.row (vgv (-1) (some ⟨V.heap.size + 1, 0, none⟩) n (some ⟨V.heap.size, 0, none⟩) n n)
        refine bodyPost_ret (v := .tuple #[.agg (vgv (-1) (some ⟨V.heap.size + 1, 0, none⟩) n (some ⟨V.heap.size, 0, none⟩) n n), .int .i64 0]) (results_row_slot (ty := 47) Try.results17 _ _ (w.heap.size + 1) 47 _ (0, 0) _ rfl rfl b3 Try.underlying47 rfl vigilsz) rfl ?_
        exact ⟨(some ⟨V.heap.size + 1, 0, none⟩), n, (some ⟨V.heap.size, 0, none⟩), n, rfl, (OI'.lowRow (by omega) _).mono (by omega), (OB'.lowRow (by omega) _).mono (by omega), below_row hB' (by omega) _⟩
  · have ie : (err' != 0) = true := by rw [bne_iff_ne]; exact e0
    rw [if_neg e0] at hk hw
    obtain rfl : 0 = k := hk.symm
    obtain rfl : 0 = why := hw.symm
    clear hlen e0
    go_upto_region 3 with fail
    clear x0
    have bD := b2.drew
    have bFD := bF.drew
    have hBD := hB.drew
    refine heldRegion (fun v => v.cell? ⟨q, 0, none⟩ = some (.int .i64 err')) 4 (by kernel_rfl) (by kernel_rfl) (bFD.cell' (i := 0) rfl) (fun hSS => ?_)
    generalize W.drew = V at *
    have bE := bFD.farRow (g := w.heap.size + 1) (by omega) #[.bool false, .int .i64 0, .slice none 0 0, .slice none 0 0, .int .i64 0, .slice none 0 0]
    have bZ := bD.row #[.bool false, .int .i64 0, .slice none 0 0, .slice none 0 0, .int .i64 0, .slice none 0 0]
    have hBZ := below_row hBD (g := w.heap.size + 1) (by omega) #[.bool false, .int .i64 0, .slice none 0 0, .slice none 0 0, .int .i64 0, .slice none 0 0]
    refine walk_take 0 (v := ?ve0) rfl (by kernel_rfl) (by kernel_rfl) (by kernel_rfl) (fun _ _ _ h => h) (hSS) (Or.inl ⟨by rfl, ?ye0⟩) ?re0
    case ye0 => intro w hSw; (try dsimp only at hSw); go_simp; try rfl
    case' re0 => try simp only [List.getElem_toArray, List.getElem_cons_succ, List.getElem_cons_zero, Act.put, List.setIfInBounds_toArray, List.set_cons_zero, List.set_cons_succ]
    refine walk_take 1 (v := ?ve1) rfl (by kernel_rfl) (by kernel_rfl) (by kernel_rfl) (fun _ _ _ h => h) (hSS) (Or.inl ⟨by rfl, ?ye1⟩) ?re1
    case ye1 => intro w hSw; (try dsimp only at hSw); go_simp; try rfl
    case' re1 => try simp only [List.getElem_toArray, List.getElem_cons_succ, List.getElem_cons_zero, Act.put, List.setIfInBounds_toArray, List.set_cons_zero, List.set_cons_succ]
    refine walk_take 2 (v := ?ve2) rfl (by kernel_rfl) (by kernel_rfl) (by kernel_rfl) (fun _ _ _ h => h) (hSS) (Or.inl ⟨by rfl, ?ye2⟩) ?re2
    case ye2 => intro w hSw; (try dsimp only at hSw); go_simp; try rfl
    case' re2 => try simp only [List.getElem_toArray, List.getElem_cons_succ, List.getElem_cons_zero, Act.put, List.setIfInBounds_toArray, List.set_cons_zero, List.set_cons_succ]
    apply walk_store_row 3 _ 47 (.tmp 2) (.tmp 11) (w.heap.size + 1) #[.bool false, .int .i64 0, .slice none 0 0, .slice none 0 0, .int .i64 0, .slice none 0 0] #[.bool false, .int .i64 0, .slice none 0 0, .slice none 0 0, .int .i64 0, .slice none 0 0] 47
    case hi => rfl
    case hg => rfl
    case ho => rfl
    case hin => kernel_rfl
    case hr => decide +kernel
    case hx => rfl
    case hy => rfl
    case hw => exact bD
    case hf => exact vigilsz
    case hold => rfl
    case h1 => simp [Value.oneCell']
    case hS => exact bE.cell' (i := 0) rfl
    case h =>
      try simp only [List.getElem_toArray, List.getElem_cons_succ, List.getElem_cons_zero, Act.put, List.setIfInBounds_toArray, List.set_cons_zero, List.set_cons_succ]
      refine walk_tail (by kernel_rfl) ?_
      simp only [List.drop_succ_cons, List.drop_zero]
      go_wp2_with fail
      refine bodyPost_ret (v := .tuple #[.agg #[.bool false, .int .i64 0, .slice none 0 0, .slice none 0 0, .int .i64 0, .slice none 0 0], .int .i64 err']) (results_row_slot (ty := 47) Try.results17 _ _ (w.heap.size + 1) 47 _ (0, 0) _ rfl rfl bZ Try.underlying47 rfl vigilsz) rfl ?_
      exact ⟨none, 0, none, 0, rfl, Own.none_ _ _ _ _, Own.none_ _ _ _ _, hBZ⟩

set_option maxHeartbeats 3200000 in
set_option maxRecDepth 100000 in
theorem vigilant_any (g : Grd) (A : Option Addr) (n c : Nat) (w : World) (hn : g.mons.length = n) (hR : Rd w A (mvs g.mons)) (why : Int) (k : Nat) (err : Int) (he : (grdE g).1 = err) (hk : k = if err = 0 then n else 0) (hw : why = if err = 0 then -1 else 0) :
    Calls Try.prog 16 #[grv g A n c] w fun e w' => BegOut w w' why k err e := by
  obtain ⟨⟨err', at'⟩, hr⟩ : ∃ r, grdE g = r := ⟨_, rfl⟩
  obtain rfl : err' = err := by rw [← he, hr]
  have hlen : err' = 0 → n ≤ 32 := fun h => by rw [← hn]; exact grdE_len (by rw [hr]; exact h)
  have CK := Lib.hid (fun (W : World) (hR : Rd W A (mvs g.mons)) => fault_any g A n c W hn hR)
  simp only [hr] at CK
  have HRd := Lib.hid hR
  clear hn hR hr he
  obtain ⟨mons, silence, most, window, nm⟩ := g
  unfold grv at CK ⊢
  dsimp only at CK HRd ⊢
  have b1 := (Blk.new w 42 #[.slice A n c, .int .i64 silence, .int .i64 most, .int .i64 window, .string nm]).alloc (.cells #[.bool false, .int .i64 0, .slice none 0 0, .slice none 0 0, .int .i64 0, .slice none 0 0] 47)
  have b2 := Blk.new (w.alloc (.cells #[.slice A n c, .int .i64 silence, .int .i64 most, .int .i64 window, .string nm] 42)) 47 #[.bool false, .int .i64 0, .slice none 0 0, .slice none 0 0, .int .i64 0, .slice none 0 0]
  rw [show (w.alloc (.cells #[.slice A n c, .int .i64 silence, .int .i64 most, .int .i64 window, .string nm] 42)).heap.size = w.heap.size + 1 by simp] at b2
  have hB : Below w.heap.size w ((w.alloc (.cells #[.slice A n c, .int .i64 silence, .int .i64 most, .int .i64 window, .string nm] 42)).alloc (.cells #[.bool false, .int .i64 0, .slice none 0 0, .slice none 0 0, .int .i64 0, .slice none 0 0] 47)) := ((Below.refl _ _).alloc (Nat.le_refl _) _).alloc (by simp) _
  have z0 : ((w.alloc (.cells #[.slice A n c, .int .i64 silence, .int .i64 most, .int .i64 window, .string nm] 42)).alloc (.cells #[.bool false, .int .i64 0, .slice none 0 0, .slice none 0 0, .int .i64 0, .slice none 0 0] 47)).heap.size = w.heap.size + 2 := by simp
  go_enter Try.func16, Try.ntmps16
  go_wp2_with fail
  refine (CK.out _ (HRd.out.below hB)).mono ?_
  rintro e w1 ⟨rfl, hb⟩
  have z1 := hb.size
  have bF := Blk.new w1 51 #[.int .i64 err', .int .i64 at']
  have hb2 := hb.alloc z1 (.cells #[.int .i64 err', .int .i64 at'] 51)
  replace b1 := b1.step hb2
  replace b2 := b2.step hb2
  replace hB := hB.trans (hb2.mono hB.size)
  have hzW : w1.heap.size < (w1.alloc (.cells #[.int .i64 err', .int .i64 at'] 51)).heap.size := by simp
  clear hb hb2 CK
  go_upto_region 2 with fail
  generalize w1.alloc (.cells #[.int .i64 err', .int .i64 at'] 51) = W at *
  obtain ⟨q, hq⟩ : ∃ q, q = w1.heap.size := ⟨_, rfl⟩
  rw [← hq] at bF ⊢
  have hqw : w.heap.size + 1 < q := by omega
  clear hq
  have x0 := bF.cell' (i := 0) rfl
  by_cases e0 : err' = 0
  · obtain rfl : err' = 0 := e0
    rw [if_pos rfl] at hk hw
    obtain rfl : n = k := hk.symm
    obtain rfl : -1 = why := hw.symm
    have hn32 := hlen rfl
    clear hlen
    have y0 := b1.cell' (i := 0) rfl
    have hmI := make_ints n (by omega)
    have hmB := make_bools n (by omega)
    clear bF
    go_upto_region 5 with fail
    clear x0 y0
    have bD := b2.drew
    have hBD := hB.drew
    have hVs : w.heap.size + 1 < W.drew.heap.size := by show _ < W.heap.size; omega
    refine heldRegion (fun v => Blk v (w.heap.size + 1) 47 #[.bool false, .int .i64 0, .slice none 0 0, .slice none 0 0, .int .i64 0, .slice none 0 0]) 4 (by kernel_rfl) (by kernel_rfl) bD (fun hSS => ?_)
    generalize W.drew = V at *
    refine walk_take 0 (v := ?vb0) rfl (by kernel_rfl) (by kernel_rfl) (by kernel_rfl) (fun _ _ _ h => h) (hSS) (Or.inl ⟨by rfl, ?yb0⟩) ?rb0
    case yb0 => intro w hSw; (try dsimp only at hSw); go_simp; try rfl
    case' rb0 => try simp only [List.getElem_toArray, List.getElem_cons_succ, List.getElem_cons_zero, Act.put, List.setIfInBounds_toArray, List.set_cons_zero, List.set_cons_succ]
    refine walk_take 2 (v := ?vb2) rfl (by kernel_rfl) (by kernel_rfl) (by kernel_rfl) (fun _ _ _ h => h) (hSS) (Or.inl ⟨by rfl, ?yb2⟩) ?rb2
    case yb2 => intro w hSw; (try dsimp only at hSw); go_simp; try rfl
    case' rb2 => try simp only [List.getElem_toArray, List.getElem_cons_succ, List.getElem_cons_zero, Act.put, List.setIfInBounds_toArray, List.set_cons_zero, List.set_cons_succ]
    refine walk_step2 1 3 rfl rfl (by kernel_rfl) (by kernel_rfl) (by decide +kernel) (fun K hK => ?sA) (fun K hK => ?sB)
    case sA =>
      go_simp
      have zV := hBD.size
      have OI := Own.madeN V 3 (.int .i64 0) rfl n (by unfold maxLen; omega)
      have bA := bD.alloc (.cells (madeCells #[.int .i64 0] n) 3)
      have hBA := hBD.alloc zV (.cells (madeCells #[.int .i64 0] n) 3)
      refine hK _ _ bA ?_
      clear hK K
      try simp only [List.getElem_toArray, List.getElem_cons_succ, List.getElem_cons_zero, Act.put, List.setIfInBounds_toArray, List.set_cons_zero, List.set_cons_succ]
      refine walk_step 3 rfl (by kernel_rfl) (by kernel_rfl) (fun K hK => ?sAB)
      case sAB =>
        go_simp
        have OB := Own.madeN (V.alloc (.cells (madeCells #[.int .i64 0] n) 3)) 4 (.bool false) rfl n (by unfold maxLen; omega)
        have OI' : Own ((V.alloc (.cells (madeCells #[.int .i64 0] n) 3)).alloc (.cells (madeCells #[.bool false] n) 4)) V.heap.size 3 1 (some ⟨V.heap.size, 0, none⟩) n n (ivs (List.replicate n 0)) := by have := OI.alloc (.cells (madeCells #[.bool false] n) 4); simpa [ivs, iv] using this
        have b2' := bA.alloc (.cells (madeCells #[.bool false] n) 4)
        have zA := hBA.size
        have hB' := hBA.alloc zA (.cells (madeCells #[.bool false] n) 4)
        have hs : (V.alloc (.cells (madeCells #[.int .i64 0] n) 3)).heap.size = V.heap.size + 1 := by simp
        rw [hs] at OB
        have OB' : Own ((V.alloc (.cells (madeCells #[.int .i64 0] n) 3)).alloc (.cells (madeCells #[.bool false] n) 4)) (V.heap.size + 1) 4 1 (some ⟨V.heap.size + 1, 0, none⟩) n n (bovs (List.replicate n false)) := by simpa [bovs] using OB
        refine hK _ _ b2' ?_
        clear hK K
        try simp only [List.getElem_toArray, List.getElem_cons_succ, List.getElem_cons_zero, Act.put, List.setIfInBounds_toArray, List.set_cons_zero, List.set_cons_succ]
        refine walk_tail (by kernel_rfl) ?_
        simp only [List.drop_succ_cons, List.drop_zero]
        go_wp2_with (refine wpList_store_row rfl 47 (.tmp 2) (.tmp 21) rfl (w.heap.size + 1) (vgv (-1) (some ⟨V.heap.size, 0, none⟩) n (some ⟨V.heap.size + 1, 0, none⟩) n n) rfl rfl 47 _ b2' vigilsz rfl (by simp [vgv, Value.oneCell']) ?_)
        have b3 := b2'.row (vgv (-1) (some ⟨V.heap.size, 0, none⟩) n (some ⟨V.heap.size + 1, 0, none⟩) n n)
        refine bodyPost_ret (v := .tuple #[.agg (vgv (-1) (some ⟨V.heap.size, 0, none⟩) n (some ⟨V.heap.size + 1, 0, none⟩) n n), .int .i64 0]) (results_row_slot (ty := 47) Try.results16 _ _ (w.heap.size + 1) 47 _ (0, 0) _ rfl rfl b3 Try.underlying47 rfl vigilsz) rfl ?_
        exact ⟨(some ⟨V.heap.size, 0, none⟩), n, (some ⟨V.heap.size + 1, 0, none⟩), n, rfl, (OI'.lowRow (by omega) _).mono (by omega), (OB'.lowRow (by omega) _).mono (by omega), below_row hB' (by omega) _⟩
    case sB =>
      go_simp
      have zV := hBD.size
      have OB := Own.madeN V 4 (.bool false) rfl n (by unfold maxLen; omega)
      have bA := bD.alloc (.cells (madeCells #[.bool false] n) 4)
      have hBA := hBD.alloc zV (.cells (madeCells #[.bool false] n) 4)
      refine hK _ _ bA ?_
      clear hK K
      try simp only [List.getElem_toArray, List.getElem_cons_succ, List.getElem_cons_zero, Act.put, List.setIfInBounds_toArray, List.set_cons_zero, List.set_cons_succ]
      refine walk_step 1 rfl (by kernel_rfl) (by kernel_rfl) (fun K hK => ?sBA)
      case sBA =>
        go_simp
        have OI := Own.madeN (V.alloc (.cells (madeCells #[.bool false] n) 4)) 3 (.int .i64 0) rfl n (by unfold maxLen; omega)
        have OB' : Own ((V.alloc (.cells (madeCells #[.bool false] n) 4)).alloc (.cells (madeCells #[.int .i64 0] n) 3)) V.heap.size 4 1 (some ⟨V.heap.size, 0, none⟩) n n (bovs (List.replicate n false)) := by have := OB.alloc (.cells (madeCells #[.int .i64 0] n) 3); simpa [bovs] using this
        have b2' := bA.alloc (.cells (madeCells #[.int .i64 0] n) 3)
        have zA := hBA.size
        have hB' := hBA.alloc zA (.cells (madeCells #[.int .i64 0] n) 3)
        have hs : (V.alloc (.cells (madeCells #[.bool false] n) 4)).heap.size = V.heap.size + 1 := by simp
        rw [hs] at OI
        have OI' : Own ((V.alloc (.cells (madeCells #[.bool false] n) 4)).alloc (.cells (madeCells #[.int .i64 0] n) 3)) (V.heap.size + 1) 3 1 (some ⟨V.heap.size + 1, 0, none⟩) n n (ivs (List.replicate n 0)) := by simpa [ivs, iv] using OI
        refine hK _ _ b2' ?_
        clear hK K
        try simp only [List.getElem_toArray, List.getElem_cons_succ, List.getElem_cons_zero, Act.put, List.setIfInBounds_toArray, List.set_cons_zero, List.set_cons_succ]
        refine walk_tail (by kernel_rfl) ?_
        simp only [List.drop_succ_cons, List.drop_zero]
        go_wp2_with (refine wpList_store_row rfl 47 (.tmp 2) (.tmp 21) rfl (w.heap.size + 1) (vgv (-1) (some ⟨V.heap.size + 1, 0, none⟩) n (some ⟨V.heap.size, 0, none⟩) n n) rfl rfl 47 _ b2' vigilsz rfl (by simp [vgv, Value.oneCell']) ?_)
        have b3 := b2'.row (vgv (-1) (some ⟨V.heap.size + 1, 0, none⟩) n (some ⟨V.heap.size, 0, none⟩) n n)
        refine bodyPost_ret (v := .tuple #[.agg (vgv (-1) (some ⟨V.heap.size + 1, 0, none⟩) n (some ⟨V.heap.size, 0, none⟩) n n), .int .i64 0]) (results_row_slot (ty := 47) Try.results16 _ _ (w.heap.size + 1) 47 _ (0, 0) _ rfl rfl b3 Try.underlying47 rfl vigilsz) rfl ?_
        exact ⟨(some ⟨V.heap.size + 1, 0, none⟩), n, (some ⟨V.heap.size, 0, none⟩), n, rfl, (OI'.lowRow (by omega) _).mono (by omega), (OB'.lowRow (by omega) _).mono (by omega), below_row hB' (by omega) _⟩
  · have ie : (err' != 0) = true := by rw [bne_iff_ne]; exact e0
    rw [if_neg e0] at hk hw
    obtain rfl : 0 = k := hk.symm
    obtain rfl : 0 = why := hw.symm
    clear hlen e0
    go_upto_region 3 with fail
    clear x0
    have bD := b2.drew
    have bFD := bF.drew
    have hBD := hB.drew
    refine heldRegion (fun v => v.cell? ⟨q, 0, none⟩ = some (.int .i64 err')) 4 (by kernel_rfl) (by kernel_rfl) (bFD.cell' (i := 0) rfl) (fun hSS => ?_)
    generalize W.drew = V at *
    have bE := bFD.farRow (g := w.heap.size + 1) (by omega) #[.bool false, .int .i64 0, .slice none 0 0, .slice none 0 0, .int .i64 0, .slice none 0 0]
    have bZ := bD.row #[.bool false, .int .i64 0, .slice none 0 0, .slice none 0 0, .int .i64 0, .slice none 0 0]
    have hBZ := below_row hBD (g := w.heap.size + 1) (by omega) #[.bool false, .int .i64 0, .slice none 0 0, .slice none 0 0, .int .i64 0, .slice none 0 0]
    refine walk_take 0 (v := ?ve0) rfl (by kernel_rfl) (by kernel_rfl) (by kernel_rfl) (fun _ _ _ h => h) (hSS) (Or.inl ⟨by rfl, ?ye0⟩) ?re0
    case ye0 => intro w hSw; (try dsimp only at hSw); go_simp; try rfl
    case' re0 => try simp only [List.getElem_toArray, List.getElem_cons_succ, List.getElem_cons_zero, Act.put, List.setIfInBounds_toArray, List.set_cons_zero, List.set_cons_succ]
    refine walk_take 1 (v := ?ve1) rfl (by kernel_rfl) (by kernel_rfl) (by kernel_rfl) (fun _ _ _ h => h) (hSS) (Or.inl ⟨by rfl, ?ye1⟩) ?re1
    case ye1 => intro w hSw; (try dsimp only at hSw); go_simp; try rfl
    case' re1 => try simp only [List.getElem_toArray, List.getElem_cons_succ, List.getElem_cons_zero, Act.put, List.setIfInBounds_toArray, List.set_cons_zero, List.set_cons_succ]
    refine walk_take 2 (v := ?ve2) rfl (by kernel_rfl) (by kernel_rfl) (by kernel_rfl) (fun _ _ _ h => h) (hSS) (Or.inl ⟨by rfl, ?ye2⟩) ?re2
    case ye2 => intro w hSw; (try dsimp only at hSw); go_simp; try rfl
    case' re2 => try simp only [List.getElem_toArray, List.getElem_cons_succ, List.getElem_cons_zero, Act.put, List.setIfInBounds_toArray, List.set_cons_zero, List.set_cons_succ]
    apply walk_store_row 3 _ 47 (.tmp 2) (.tmp 11) (w.heap.size + 1) #[.bool false, .int .i64 0, .slice none 0 0, .slice none 0 0, .int .i64 0, .slice none 0 0] #[.bool false, .int .i64 0, .slice none 0 0, .slice none 0 0, .int .i64 0, .slice none 0 0] 47
    case hi => rfl
    case hg => rfl
    case ho => rfl
    case hin => kernel_rfl
    case hr => decide +kernel
    case hx => rfl
    case hy => rfl
    case hw => exact bD
    case hf => exact vigilsz
    case hold => rfl
    case h1 => simp [Value.oneCell']
    case hS => exact bE.cell' (i := 0) rfl
    case h =>
      try simp only [List.getElem_toArray, List.getElem_cons_succ, List.getElem_cons_zero, Act.put, List.setIfInBounds_toArray, List.set_cons_zero, List.set_cons_succ]
      refine walk_tail (by kernel_rfl) ?_
      simp only [List.drop_succ_cons, List.drop_zero]
      go_wp2_with fail
      refine bodyPost_ret (v := .tuple #[.agg #[.bool false, .int .i64 0, .slice none 0 0, .slice none 0 0, .int .i64 0, .slice none 0 0], .int .i64 err']) (results_row_slot (ty := 47) Try.results16 _ _ (w.heap.size + 1) 47 _ (0, 0) _ rfl rfl bZ Try.underlying47 rfl vigilsz) rfl ?_
      exact ⟨none, 0, none, 0, rfl, Own.none_ _ _ _ _, Own.none_ _ _ _ _, hBZ⟩
end Go.Proofs.Ytaifogddoonabaa
