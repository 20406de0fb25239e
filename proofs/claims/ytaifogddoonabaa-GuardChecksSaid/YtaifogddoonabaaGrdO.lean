/-
  A guard with memory of its own; a vigil that is written over.
-/
import Derived.Test.YtaifogddoonabaaGrdS
import Derived.StillTail
import Derived.StillTactics
import Derived.StillTailTactics
namespace Go.Proofs.Ytaifogddoonabaa
set_option linter.unusedSimpArgs false
set_option linter.unusedVariables false
open Go.RowKit

set_option maxHeartbeats 3200000 in
set_option maxRecDepth 100000 in
/-- over: ints are written over by their owner, and grown: only the row that holds them turns. -/
theorem over_intsN (base : Nat) (A : Option Addr) (n c : Nat) (zs : List Int) (v : Int) (w : World) (hO : Own w base 3 1 A n c (ivs zs)) (hn : n ≤ 17592186044000) (hbase : base ≤ w.heap.size) :
    Calls Try.prog 40 #[.slice A n c, .int .i64 v] w fun e w' => e = .returned (.tuple #[]) ∧ w.grownBy w' (blk A) := by
  obtain ⟨i0, hi0, hz0, hz1, hz2⟩ := info_parts i64info
  go_enter Try.func40, Try.ntmps40
  go_wp2_with fail
  go_loopw [4] (fun i wr => ∃ (k : Nat) (ys : List Int), k ≤ n ∧ i = .int .i64 k ∧ Own wr base 3 1 A n c (ivs ys) ∧ w.grownBy wr (blk A)) (fun i _ => n - (intOf i).toNat)
  case atStart => exact ⟨0, zs, by omega, by simp, hO, World.grownBy.refl _ _⟩
  case round =>
    obtain ⟨k, ys, hk, rfl, hO', hg⟩ := hrel
    clear hO
    by_cases h5 : k < n
    · have h5i : (k : Int) < (n : Int) := by omega
      have hle := hO'.le
      obtain ⟨g, off, rfl, _, _⟩ := hO'.form (by omega)
      obtain ⟨x, hx, hc⟩ := hO'.intAt h5
      have hf := hO'.frozen (off + k)
      have Hx := Lib.hid hx
      clear hx
      go_wp2_with fail
      go_roundw
      case rel => exact ⟨k + 1, ys.set k v, by omega, by go_num, hO'.setI h5 _, grown_setCell (p := ⟨g, off + k, none⟩) hg (.inl rfl) _⟩
      case measure => simp [intOf]; omega
    · have h5i : ¬ (k : Int) < (n : Int) := by omega
      go_wp2_with fail
      go_loopw [0, 5] (fun av jv wr => ∃ (j : Nat) (A2 : Option Addr) (c2 : Nat) (ys : List Int), j ≤ 20 ∧ av = .slice A2 (n + j) c2 ∧ jv = .int .i64 (j : Int) ∧ Own wr base 3 1 A2 (n + j) c2 (ivs ys) ∧ w.grownBy wr (blk A) ∧ (blk A2 = blk A ∨ ∀ g, blk A2 = some g → w.heap.size ≤ g)) (fun _ jv _ => 20 - (intOf jv).toNat)
      case atStart => exact ⟨0, A, c, ys, by omega, rfl, rfl, hO', hg, .inl rfl⟩
      case round =>
        clear hO' hg h5 h5i hk
        obtain ⟨j, A2, c2, zs2, hj, rfl, rfl, hO, hg, hA⟩ := hrel
        by_cases h6 : j < 20
        · have h6i : (j : Int) < 20 := by omega
          have q4 : n + j + 1 ≤ maxLen := by unfold maxLen; omega
          have q5 : (n + j + 1) * 8 ≤ 140737488355328 := by omega
          have hbs : base ≤ (wr.alloc (.cells #[.int .i64 v] 3)).heap.size := by have := hg.size; simp; omega
          have hR := Rd_lit wr [.int .i64 v] 3
          have hOn := hO.alloc (.cells #[.int .i64 v] 3)
          go_wp2_with (at_builtin; refine wpList_append_Own (wr.alloc (.cells #[.int .i64 v] 3)) rfl (.tmp 20) (.tmp 22) 44 rfl base 3 i0 _ 1 8 Try.underlying44 hi0 hz0 hz1 hz2 rfl A2 (n + j) c2 (ivs zs2) rfl hOn _ 1 1 [.int .i64 v] rfl rfl hR (one_int _) q4 q5 hbs ?_; intro A' c' w1 hO1 hg1 hor)
          have hg2 : w.grownBy w1 (blk A) := grown_trans (grown_alloc hg _) hg1 (by
            rcases hA with h | h
            · exact .inl h
            · exact .inr h)
          go_roundw
          case rel =>
            refine ⟨j + 1, A', c', zs2 ++ [v], by omega, by rw [show n + (j + 1) = n + j + 1 by omega], by go_num, ?_, hg2, ?_⟩
            · rw [show n + (j + 1) = n + j + 1 by omega]
              rw [show ivs (zs2 ++ [v]) = ivs zs2 ++ [.int .i64 v] from by simp [ivs, iv]]
              exact hO1
            · rcases hor with h | h
              · rw [h]; exact hA
              · refine .inr (fun g e => ?_)
                rw [h] at e
                injection e with e
                have := hg.size
                simp at e
                omega
          case measure => simp [intOf]; omega
        · have h6i : ¬ (j : Int) < 20 := by omega
          go_wp2_with fail
          go_end0
          exact ⟨rfl, hg⟩
theorem guardsz : (Try.prog.info? 42).map (·.size) = some 5 := by kernel_rfl
set_option maxHeartbeats 3200000 in
set_option maxRecDepth 100000 in
/-- guardOwn. -/
theorem guardOwn_any (g : Grd) (A : Option Addr) (n c : Nat) (w : World) (hn : g.mons.length = n) (hR : Rd w A (mvs g.mons)) (hnn : n ≤ 2513169434900) :
    Calls Try.prog 15 #[grv g A n c] w fun e w' => ∃ A' c', e = .returned (grv g A' n c') ∧ Own w' w.heap.size 68 6 A' n c' (mvs g.mons) ∧ Below w.heap.size w w' := by
  obtain ⟨mons, silence, most, window, nm⟩ := g
  unfold grv
  dsimp only at hn hR ⊢
  obtain ⟨i0, hi0, hz0, hz1, hz2⟩ := info_parts moninfo
  have HL : Hid ((mvs mons).length = n * 6) := by show _ = _; rw [mvs_len, hn]
  have k1 := (Blk.new w 42 #[.slice A n c, .int .i64 silence, .int .i64 most, .int .i64 window, .string nm]).alloc (.cells #[.slice none 0 0, .int .i64 0, .int .i64 0, .int .i64 0, .string ⟨#[]⟩] 42)
  have k2 := Blk.new (w.alloc (.cells #[.slice A n c, .int .i64 silence, .int .i64 most, .int .i64 window, .string nm] 42)) 42 #[.slice none 0 0, .int .i64 0, .int .i64 0, .int .i64 0, .string ⟨#[]⟩]
  rw [show (w.alloc (.cells #[.slice A n c, .int .i64 silence, .int .i64 most, .int .i64 window, .string nm] 42)).heap.size = w.heap.size + 1 by simp] at k2
  have hB : Below w.heap.size w ((w.alloc (.cells #[.slice A n c, .int .i64 silence, .int .i64 most, .int .i64 window, .string nm] 42)).alloc (.cells #[.slice none 0 0, .int .i64 0, .int .i64 0, .int .i64 0, .string ⟨#[]⟩] 42)) := ((Below.refl _ _).alloc (Nat.le_refl _) _).alloc (by simp) _
  have hW : ((w.alloc (.cells #[.slice A n c, .int .i64 silence, .int .i64 most, .int .i64 window, .string nm] 42)).alloc (.cells #[.slice none 0 0, .int .i64 0, .int .i64 0, .int .i64 0, .string ⟨#[]⟩] 42)).heap.size = w.heap.size + 2 := by simp
  have hR2 := hR.below hB
  clear hR hn
  go_enter Try.func15, Try.ntmps15
  go_upto_region 1 with fail
  generalize (w.alloc (.cells #[.slice A n c, .int .i64 silence, .int .i64 most, .int .i64 window, .string nm] 42)).alloc (.cells #[.slice none 0 0, .int .i64 0, .int .i64 0, .int .i64 0, .string ⟨#[]⟩] 42) = W at *
  have x0 := k1.cell' (i := 0) rfl
  have hO : Own W W.heap.size 68 6 none 0 0 [] := Own.none_ _ _ _ _
  have q2 : 0 + n ≤ maxLen := by unfold maxLen; omega
  have q3 : (0 + n) * 56 ≤ 140737488355328 := by omega
  have hWs : w.heap.size + 2 ≤ W.heap.size := by omega
  clear hW
  go_upto_region 2 with (first
    | (at_builtin; refine wpList_append_Own W rfl (.const (.slice none 0 0)) (.tmp 4) 40 rfl W.heap.size 68 i0 _ 6 56 Try.underlying40 hi0 hz0 hz1 hz2 rfl none 0 0 [] rfl hO A n c (mvs mons) rfl HL.out hR2 (mvs_one _) q2 q3 (Nat.le_refl _) ?_; intro A' c' w1 hO1 hg1 hor; have k1' := k1.over hg1 (fun k hk => by simp [blk] at hk); have kf := k1'.frozen; have y0 := k1'.cell' (i := 0) rfl))
  have k3 := k1'.set_ 0 (.slice A' n c')
  have k4 := (k2.over hg1 (fun k hk => by simp [blk] at hk)).far (p := ⟨w.heap.size, 0, none⟩) (by show w.heap.size + 1 ≠ w.heap.size; omega) (.slice A' n c')
  have hO3 := hO1.setFar (p := ⟨w.heap.size, 0, none⟩) (fun e => by have := (hO1.lt _ e).1; have h2 : W.heap.size ≤ w.heap.size := this; omega) (.slice A' n c')
  have hB3 := (hB.grown hg1 hB.size (fun q hq => by simp [blk] at hq)).setCell (p := ⟨w.heap.size, 0, none⟩) (Nat.le_refl _) (.slice A' n c')
  clear k1' kf y0 k1 k2 hB hO hO1 hg1 x0
  generalize w1.setCell ⟨w.heap.size, 0, none⟩ (.slice A' n c') = W3 at *
  have x0 := k3.cell' (i := 0) rfl
  have x1 := k3.cell' (i := 1) rfl
  have x2 := k3.cell' (i := 2) rfl
  have x3 := k3.cell' (i := 3) rfl
  have x4 := k3.cell' (i := 4) rfl
  go_wp2_with (refine wpList_store_row rfl 42 (.tmp 2) (.tmp 7) rfl (w.heap.size + 1) #[.slice A' n c', .int .i64 silence, .int .i64 most, .int .i64 window, .string nm] rfl rfl 42 _ k4 guardsz rfl (by simp [Value.oneCell']) ?_)
  have k5 := k4.row #[.slice A' n c', .int .i64 silence, .int .i64 most, .int .i64 window, .string nm]
  refine bodyPost_ret (v := .agg #[.slice A' n c', .int .i64 silence, .int .i64 most, .int .i64 window, .string nm]) (results_cell_row (ty := 42) rfl _ _ (w.heap.size + 1) 42 _ (0, 0) _ rfl k5 Try.underlying42 rfl guardsz) rfl ?_
  refine ⟨A', c', rfl, ?_, below_row hB3 (by omega) _⟩
  have h := hO3.lowRow (g := w.heap.size + 1) (by omega) #[.slice A' n c', .int .i64 silence, .int .i64 most, .int .i64 window, .string nm]
  rw [List.nil_append, Nat.zero_add] at h
  exact h.mono (by omega)
theorem Own.setBool {w : World} {base : Nat} {e : TypeId} {g off n c : Nat} {l : List Bool} (h : Own w base e 1 (some ⟨g, off, none⟩) n c (bovs l)) {k : Nat} (hk : k < n) (x : Bool) : Own (w.setCell ⟨g, off + k, none⟩ (.bool x)) base e 1 (some ⟨g, off, none⟩) n c (bovs (l.set k x)) := by
  have := h.set k (by omega) (.bool x)
  unfold bovs at this ⊢
  rw [List.map_set]
  exact this
set_option maxHeartbeats 3200000 in
set_option maxRecDepth 100000 in
theorem overVigil_any (why : Int) (A1 : Option Addr) (c1 : Nat) (A2 : Option Addr) (c2 k base : Nat) (zs : List Int) (bs : List Bool) (w : World) (O1 : Own w base 3 1 A1 k c1 (ivs zs)) (O2 : Own w base 4 1 A2 k c2 (bovs bs)) (hk : k ≤ 1000) (hbase : base ≤ w.heap.size) :
    Calls Try.prog 22 #[.agg (vgv why A1 c1 A2 c2 k)] w fun e w' => e = .returned (.tuple #[]) ∧ Turned w w' (fun q => blk A1 = some q ∨ blk A2 = some q) := by
  unfold vgv
  have k1 := Blk.new w 47 #[.bool false, .int .i64 why, .slice A1 k c1, .slice A2 k c2, .int .i64 0, .slice none 0 0]
  have T1 : Turned w (w.alloc (.cells #[.bool false, .int .i64 why, .slice A1 k c1, .slice A2 k c2, .int .i64 0, .slice none 0 0] 47)) (fun q => blk A1 = some q ∨ blk A2 = some q) := (Turned.refl w _).step ((Below.refl _ _).alloc (Nat.le_refl _) _)
  have hn1 : blk A1 ≠ some w.heap.size := fun e => by have := (O1.lt _ e).2; omega
  have hn2 : blk A2 ≠ some w.heap.size := fun e => by have := (O2.lt _ e).2; omega
  have hap : ∀ q, blk A1 = some q → blk A2 ≠ some q := O1.apart O2 (by decide)
  have P1 := O1.alloc (.cells #[.bool false, .int .i64 why, .slice A1 k c1, .slice A2 k c2, .int .i64 0, .slice none 0 0] 47)
  have P2 := O2.alloc (.cells #[.bool false, .int .i64 why, .slice A1 k c1, .slice A2 k c2, .int .i64 0, .slice none 0 0] 47)
  have hb1 : base ≤ (w.alloc (.cells #[.bool false, .int .i64 why, .slice A1 k c1, .slice A2 k c2, .int .i64 0, .slice none 0 0] 47)).heap.size := by simp; omega
  clear O1 O2
  go_enter Try.func22, Try.ntmps22
  go_upto_region 1 with fail
  generalize w.alloc (.cells #[.bool false, .int .i64 why, .slice A1 k c1, .slice A2 k c2, .int .i64 0, .slice none 0 0] 47) = W at *
  have x2 := k1.cell' (i := 2) rfl
  go_wp2_with fail
  refine (over_intsN base A1 k c1 zs (-7) W P1 (by omega) hb1).mono ?_
  rintro e w2 ⟨rfl, hg⟩
  have k2 := k1.over hg (fun q hq e => hn1 (by rw [hq, e]))
  have Q2 := P2.over hg (fun q hq => hap q hq)
  have T2 := T1.grown hg (fun q hq _ => .inl hq)
  clear k1 P1 P2 T1 hg x2 hb1
  have x5 := k2.cell' (i := 5) rfl
  have hO0 : Own w2 w2.heap.size 3 1 none 0 0 (ivs []) := Own.none_ _ _ _ _
  go_wp2_with fail
  refine (over_intsN w2.heap.size none 0 0 [] (-7) w2 hO0 (by omega) (Nat.le_refl _)).mono ?_
  rintro e w3 ⟨rfl, hg⟩
  have k3 := k2.over hg (fun q hq => by simp [blk] at hq)
  have Q3 := Q2.over hg (fun q hq => by simp [blk] at hq)
  have T3 := T2.grown hg (fun q hq => by simp [blk] at hq)
  clear k2 Q2 T2 hg x5 hO0
  go_wp2_with fail
  go_loopw [2] (fun iv wr => ∃ (i : Nat) (ys : List Bool), i ≤ k ∧ iv = .int .i64 (i : Int) ∧ Blk wr w.heap.size 47 #[.bool false, .int .i64 why, .slice A1 k c1, .slice A2 k c2, .int .i64 0, .slice none 0 0] ∧ Own wr base 4 1 A2 k c2 (bovs ys) ∧ Turned w wr (fun q => blk A1 = some q ∨ blk A2 = some q)) (fun iv _ => k - (intOf iv).toNat)
  case atStart => exact ⟨0, bs, Nat.zero_le _, rfl, k3, Q3, T3⟩
  case round =>
    clear k3 Q3 T3
    obtain ⟨i, ys, hi, rfl, k3, Q3, T3⟩ := hrel
    have x3 := k3.cell' (i := 3) rfl
    by_cases h5 : i < k
    · have h5i : (i : Int) < (k : Int) := by omega
      have hip : (0 : Int) ≤ (i : Int) := by omega
      have hle := Q3.le
      obtain ⟨g, off, rfl, _, _⟩ := Q3.form (by omega)
      have hyl : i < ys.length := by have := Q3.len; simp [bovs] at this; omega
      obtain ⟨_, _, he, hc⟩ := rd_bool Q3.rd hyl
      injection he with he
      injection he with he1 he2
      subst he1
      subst he2
      have hf := Q3.frozen (off + i)
      generalize ys[i] = y at *
      have Qd := Q3.setBool h5 (!y)
      have kn := k3.far (p := ⟨g, off + i, none⟩) (fun e => hn2 (by simp [blk, e])) (.bool (!y))
      have Tn := T3.set (p := ⟨g, off + i, none⟩) (fun _ => .inr rfl) (.bool (!y))
      go_wp2_with fail
      go_still_tail 10, (by kernel_rfl)
      go_wp2_with fail
      go_roundw
      case rel => exact ⟨i + 1, ys.set i (!y), by omega, by go_num, kn.drewN 1, Qd.drewN 1, Tn.drewN 1⟩
      case measure => simp [intOf]; omega
    · have h5i : ¬ (i : Int) < (k : Int) := by omega
      go_wp2_with fail
      go_end0
      exact ⟨rfl, T3⟩
end Go.Proofs.Ytaifogddoonabaa
