/-
  A taker at work asks for what is missing. What a tick needs (Wait$1).
-/
import Derived.Test.YtianombjgdmbeaaMDeliverTakes39
import Derived.Test.YtianombjgdmbeaaMDeliverTakes38
import Derived.Test.YtianombjgdmbeaaMDeliverTakes30
namespace Go.Proofs.Ytianombjgdmbeaa
set_option linter.unusedSimpArgs false
set_option linter.unusedVariables false
open Go.RowKit

def missR : List (Int × Int) → Int → Int → List (Int × Int)
  | [], _, _ => []
  | g :: l, last, a => (if a < min g.1 last then [(a, min g.1 last)] else []) ++ missR l last g.2
theorem missR_eq (n : Int) : ∀ (l : List (Int × Int)) (a : Int), missR (l ++ [(n, n + 1)]) n a = missG l n a
  | [], a => by
    show (if a < min n n then [(a, min n n)] else []) ++ [] = if a < n then [(a, n)] else []
    rw [List.append_nil, Int.min_self]
  | g :: l, a => by
    show _ ++ missR (l ++ [(n, n + 1)]) n g.2 = _ ++ missG l n g.2
    rw [missR_eq n l]
theorem Own.cutc {w : World} {base : Nat} {e : TypeId} {s n c m : Nat} {A : Option Addr} {xs : List Value} (h : Own w base e s A n c xs) (hm : m ≤ n) : Own w base e s A m m (xs.take (m * s)) := by
  have h1 := h.cut hm
  have hle := h.le
  have hcp := h.cap
  refine ⟨h1.len, Nat.le_refl _, by omega, fun e => by have := h.nil e; omega, fun a ha => ?_⟩
  obtain ⟨cur, k1, k2, k3, k4, k5⟩ := h1.at_ a ha
  exact ⟨cur, k1, k2, k3, by have := Nat.mul_le_mul_right s (show m ≤ c by omega); omega, k5⟩
theorem gps_append2 (l : List (Int × Int)) (a b : Int) : gps (l ++ [(a, b)]) = gps l ++ [.int .i64 a, .int .i64 b] := by simp [gps, gpc]
set_option maxHeartbeats 12800000 in
set_option maxRecDepth 100000 in
theorem ask_at (x : Tk) (F : Option Addr) (fn fc : Nat) (A : Option Addr) (an ac : Nat) (O : Option Addr) (on oc : Nat) (l : List NtR) (base q : Nat) (ns : List Nt) (w : World) (hq : Blk w q 86 (tw x A an ac F fn fc O on oc)) (hM : GvMem w base (pg x) ns F fn fc A an ac O on oc l) (hl : 0 ≤ x.last ∧ x.last ≤ 65536) (hs : Srt (-1) x.have_) (han : an ≤ 100000) (hon : ns.length ≤ 100000) (hbase : base ≤ w.heap.size) (hbq : base ≤ q) :
    Calls Try.prog 58 #[.pointer (some ⟨q, 0, none⟩)] w fun e w' => SayT w w' base q x (ns ++ askT x) F fn fc A an ac e := by
  obtain ⟨j0, hj0, hy0, hy1, hy2⟩ := info_parts pairinfo
  obtain ⟨lastn, hln⟩ : ∃ n : Nat, x.last = (n : Int) := ⟨x.last.toNat, by omega⟩
  have hl2 : lastn ≤ 65536 := by omega
  have HMT : Hid (missT x = capG ((if x.known then [] else [(0, 0)]) ++ missR (x.have_ ++ [((lastn : Int), (lastn : Int) + 1)]) (lastn : Int) 0)) := Lib.hid (by
    unfold missT
    rw [missR_eq, missG_rows hs, hln]
    rfl)
  have HA := Lib.hid hM.again.rd
  have HHL := Lib.hid (show x.have_.length = an from hM.al)
  have CS := Lib.hid (fun (n m : Nt) (G : Option Addr) (gn gc : Nat) (V : World) (hb : Below w.heap.size w V) (hm : m = { n with id := x.id }) (hd : n.data = []) (hgn : n.gaps.length = gn) (hG : Own V w.heap.size 66 2 G gn gc (gps n.gaps)) => tsay_at x F fn fc A an ac O on oc l n m G gn gc base q ns V (hq.step hb) (hM.step hb) hm hd hgn (hG.mono hbase) (fun i h1 h2 => by have := (hM.again.lt i h1).2; have := (hG.lt i h2).1; omega) (fun j y hy i h1 h2 => by have := (hM.parts.ltG hy h1).2; have := (hG.lt i h2).1; omega) hon (by have := hb.size; omega) hbq)
  have HNO := Lib.hid (fun (V : World) (hb : Below w.heap.size w V) => (⟨O, on, oc, l, rfl, hq.step hb, hM.step hb, hb.mono hbase⟩ : SayT w V base q x ns F fn fc A an ac (.returned (.tuple #[]))))
  obtain ⟨at_, hat⟩ : ∃ a, askT x = a := ⟨_, rfl⟩
  have HAT := Lib.hid hat
  rw [hat]
  clear hs hl hat
  obtain ⟨id, known, name, size, ended, last, sum, have_, file, stage, timer, patience, tries, limit⟩ := x
  unfold tw at hq
  dsimp only at hq HMT HA HHL hln CS
  subst hln
  have hqlt := hq.lt
  have hB := Below.refl w.heap.size w
  have bq := hq
  have x1 := bq.cell' (i := 1) rfl
  clear hq hM
  go_enter Try.func58, Try.ntmps58
  trace "A"
  go_upto_if 12 with fail
  trace "A2"
  go_cut [2] (fun s wx => ∃ (G : Option Addr) (gn gc : Nat) (L : List (Int × Int)) (V : World), V = wx ∧ s = .slice G gn gc ∧ L = (if known then [] else [(0, 0)]) ∧ L.length = gn ∧ Own V w.heap.size 66 2 G gn gc (gps L) ∧ Below w.heap.size w V)
  case first =>
    cases known
    ·
      have hOz : Own (w.alloc (.cells #[.int .i64 0, .int .i64 0] 66)) w.heap.size 66 2 none 0 0 [] := Own.none_ _ _ _ _
      have hRn := Rd_lit w [.int .i64 0, .int .i64 0] 66
      have hone : Hid (∀ u ∈ ([.int .i64 0, .int .i64 0] : List Value), u.oneCell' = true) := Lib.hid (gps_one [(0, 0)])
      have hB2 := hB.alloc hB.size (.cells #[.int .i64 0, .int .i64 0] 66)
      have q4 : 0 + 1 ≤ maxLen := by unfold maxLen; omega
      have q6 := hB2.size
      go_wp2_with (at_builtin; refine wpList_append_Own (w.alloc (.cells #[.int .i64 0, .int .i64 0] 66)) rfl (.tmp 13) (.tmp 15) 24 rfl w.heap.size 66 j0 _ 2 16 Try.underlying24 hj0 hy0 hy1 hy2 rfl none 0 0 [] rfl hOz (some ⟨w.heap.size, 0, none⟩) 1 1 [.int .i64 0, .int .i64 0] rfl rfl hRn hone.out q4 (by omega) q6 ?_; intro G gc w2 hOA hgA horA; simp only [Nat.zero_add, List.nil_append] at hOA; simp only [Nat.zero_add])
      go_meet
      exact ⟨G, 1, gc, [(0, 0)], w2, rfl, rfl, rfl, rfl, hOA, hB2.trans ((below_of_grown hgA).mono q6)⟩
    ·
      go_wp2_with fail
      go_meet
      exact ⟨none, 0, 0, [], w, rfl, rfl, rfl, rfl, Own.none_ _ _ _ _, hB⟩
  case rest =>
    clear x1 hB
    obtain ⟨G, gn, gc, L, W, hW, rfl, hL, hgn, hO, hB⟩ := hcut
    subst hW
    have HL := Lib.hid hL
    have HGN := Lib.hid hgn
    replace bq := bq.step hB
    have hgn1 : gn ≤ 1 := by rw [← hgn, hL]; cases known <;> simp
    clear hL hgn
    have zW := hB.size
    trace "B"
    have HGW := Lib.hid (fun (k : Nat) (h : blk G = some k) => (hO.lt k h).2)
    go_upto_region 4 with fail
    obtain ⟨rs, hrs⟩ : ∃ rs, have_ ++ [((lastn : Int), (lastn : Int) + 1)] = rs := ⟨_, rfl⟩
    rw [hrs] at HMT
    have HRS := Lib.hid hrs.symm
    clear hrs
    have hqW : q < W.heap.size := bq.lt
    have d7 : W.drew.cell? ⟨q, 7, none⟩ = some (.slice A an ac) := bq.cell' (i := 7) rfl
    have d5 : W.drew.cell? ⟨q, 5, none⟩ = some (.int .i64 (lastn : Int)) := bq.cell' (i := 5) rfl
    go_cut [36, 37, 38] (fun a b c wx => b = .int .i64 ((an : Int) + 1) ∧ c = .int .i64 0 ∧ ∃ (R : Option Addr) (rc : Nat) (V : World), V = wx ∧ a = .slice R (an + 1) rc ∧ Own V W.heap.size 66 2 R (an + 1) rc (gps rs) ∧ Below W.heap.size W V)
    case first =>
      trace "C"
      have hAW := HA.out.below hB
      refine freeRegion (fun v => v.cell? ⟨q, 7, none⟩ = some (.slice A an ac) ∧ v.cell? ⟨q, 5, none⟩ = some (.int .i64 (lastn : Int))) (by kernel_rfl) (by kernel_rfl) ⟨d7, d5⟩ (fun hSS => ?_)
      clear hSS
      have hBd : Below W.heap.size W W.drew := (Below.refl _ _).drew
      have hzd : W.drew.heap.size = W.heap.size := rfl
      have HZD := Lib.hid hzd
      clear hzd
      have hAd := hAW.below hBd
      generalize W.drew = V at *
      refine free_take 0 (v := ?va0) rfl (by kernel_rfl) (by kernel_rfl) (fun _ _ _ h => h) (⟨d7, d5⟩) (Or.inl ⟨by rfl, ?ya0⟩) ?ra0
      case ya0 => intro w hSw; obtain ⟨hw7, hw5⟩ := hSw; (try dsimp only at hSw); go_simp; try rfl
      case' ra0 => try simp only [List.getElem_toArray, List.getElem_cons_succ, List.getElem_cons_zero, Act.put, List.setIfInBounds_toArray, List.set_cons_zero, List.set_cons_succ]
      refine free_take 1 (v := ?va1) rfl (by kernel_rfl) (by kernel_rfl) (fun _ _ _ h => h) (⟨d7, d5⟩) (Or.inl ⟨by rfl, ?ya1⟩) ?ra1
      case ya1 => intro w hSw; obtain ⟨hw7, hw5⟩ := hSw; (try dsimp only at hSw); go_simp; try rfl
      case' ra1 => try simp only [List.getElem_toArray, List.getElem_cons_succ, List.getElem_cons_zero, Act.put, List.setIfInBounds_toArray, List.set_cons_zero, List.set_cons_succ]
      refine free_take 2 (v := ?va2) rfl (by kernel_rfl) (by kernel_rfl) (fun _ _ _ h => h) (⟨d7, d5⟩) (Or.inl ⟨by rfl, ?ya2⟩) ?ra2
      case ya2 => intro w hSw; obtain ⟨hw7, hw5⟩ := hSw; (try dsimp only at hSw); go_simp; try rfl
      case' ra2 => try simp only [List.getElem_toArray, List.getElem_cons_succ, List.getElem_cons_zero, Act.put, List.setIfInBounds_toArray, List.set_cons_zero, List.set_cons_succ]
      refine free_take 3 (v := ?va3) rfl (by kernel_rfl) (by kernel_rfl) (fun _ _ _ h => h) (⟨d7, d5⟩) (Or.inl ⟨by rfl, ?ya3⟩) ?ra3
      case ya3 => intro w hSw; obtain ⟨hw7, hw5⟩ := hSw; (try dsimp only at hSw); go_simp; try rfl
      case' ra3 => try simp only [List.getElem_toArray, List.getElem_cons_succ, List.getElem_cons_zero, Act.put, List.setIfInBounds_toArray, List.set_cons_zero, List.set_cons_succ]
      refine free_take 4 (v := ?va4) rfl (by kernel_rfl) (by kernel_rfl) (fun _ _ _ h => h) (⟨d7, d5⟩) (Or.inl ⟨by rfl, ?ya4⟩) ?ra4
      case ya4 => intro w hSw; obtain ⟨hw7, hw5⟩ := hSw; (try dsimp only at hSw); go_simp; try rfl
      case' ra4 => try simp only [List.getElem_toArray, List.getElem_cons_succ, List.getElem_cons_zero, Act.put, List.setIfInBounds_toArray, List.set_cons_zero, List.set_cons_succ]
      refine free_take 6 (v := ?va6) rfl (by kernel_rfl) (by kernel_rfl) (fun _ _ _ h => h) (⟨d7, d5⟩) (Or.inl ⟨by rfl, ?ya6⟩) ?ra6
      case ya6 => intro w hSw; obtain ⟨hw7, hw5⟩ := hSw; (try dsimp only at hSw); go_simp; try rfl
      case' ra6 => try simp only [List.getElem_toArray, List.getElem_cons_succ, List.getElem_cons_zero, Act.put, List.setIfInBounds_toArray, List.set_cons_zero, List.set_cons_succ]
      refine free_take 7 (v := ?va7) rfl (by kernel_rfl) (by kernel_rfl) (fun _ _ _ h => h) (⟨d7, d5⟩) (Or.inl ⟨by rfl, ?ya7⟩) ?ra7
      case ya7 => intro w hSw; obtain ⟨hw7, hw5⟩ := hSw; (try dsimp only at hSw); go_simp; try rfl
      case' ra7 => try simp only [List.getElem_toArray, List.getElem_cons_succ, List.getElem_cons_zero, Act.put, List.setIfInBounds_toArray, List.set_cons_zero, List.set_cons_succ]
      refine free_take 8 (v := ?va8) rfl (by kernel_rfl) (by kernel_rfl) (fun _ _ _ h => h) (⟨d7, d5⟩) (Or.inl ⟨by rfl, ?ya8⟩) ?ra8
      case ya8 => intro w hSw; obtain ⟨hw7, hw5⟩ := hSw; (try dsimp only at hSw); go_simp; try rfl
      case' ra8 => try simp only [List.getElem_toArray, List.getElem_cons_succ, List.getElem_cons_zero, Act.put, List.setIfInBounds_toArray, List.set_cons_zero, List.set_cons_succ]
      refine free_take 9 (v := ?va9) rfl (by kernel_rfl) (by kernel_rfl) (fun _ _ _ h => h) (⟨d7, d5⟩) (Or.inl ⟨by rfl, ?ya9⟩) ?ra9
      case ya9 => intro w hSw; obtain ⟨hw7, hw5⟩ := hSw; (try dsimp only at hSw); go_simp; try rfl
      case' ra9 => try simp only [List.getElem_toArray, List.getElem_cons_succ, List.getElem_cons_zero, Act.put, List.setIfInBounds_toArray, List.set_cons_zero, List.set_cons_succ]
      refine free_take 10 (v := ?va10) rfl (by kernel_rfl) (by kernel_rfl) (fun _ _ _ h => h) (⟨d7, d5⟩) (Or.inl ⟨by rfl, ?ya10⟩) ?ra10
      case ya10 => intro w hSw; obtain ⟨hw7, hw5⟩ := hSw; (try dsimp only at hSw); go_simp; try rfl
      case' ra10 => try simp only [List.getElem_toArray, List.getElem_cons_succ, List.getElem_cons_zero, Act.put, List.setIfInBounds_toArray, List.set_cons_zero, List.set_cons_succ]
      refine free_take 11 (v := ?va11) rfl (by kernel_rfl) (by kernel_rfl) (fun _ _ _ h => h) (⟨d7, d5⟩) (Or.inl ⟨by rfl, ?ya11⟩) ?ra11
      case ya11 => intro w hSw; obtain ⟨hw7, hw5⟩ := hSw; (try dsimp only at hSw); go_simp; try rfl
      case' ra11 => try simp only [List.getElem_toArray, List.getElem_cons_succ, List.getElem_cons_zero, Act.put, List.setIfInBounds_toArray, List.set_cons_zero, List.set_cons_succ]
      refine free_take 12 (v := ?va12) rfl (by kernel_rfl) (by kernel_rfl) (fun _ _ _ h => h) (⟨d7, d5⟩) (Or.inl ⟨by rfl, ?ya12⟩) ?ra12
      case ya12 => intro w hSw; obtain ⟨hw7, hw5⟩ := hSw; (try dsimp only at hSw); go_simp; try rfl
      case' ra12 => try simp only [List.getElem_toArray, List.getElem_cons_succ, List.getElem_cons_zero, Act.put, List.setIfInBounds_toArray, List.set_cons_zero, List.set_cons_succ]
      refine free_take 13 (v := ?va13) rfl (by kernel_rfl) (by kernel_rfl) (fun _ _ _ h => h) (⟨d7, d5⟩) (Or.inl ⟨by rfl, ?ya13⟩) ?ra13
      case ya13 => intro w hSw; obtain ⟨hw7, hw5⟩ := hSw; (try dsimp only at hSw); go_simp; try rfl
      case' ra13 => try simp only [List.getElem_toArray, List.getElem_cons_succ, List.getElem_cons_zero, Act.put, List.setIfInBounds_toArray, List.set_cons_zero, List.set_cons_succ]
      refine free_take 14 (v := ?va14) rfl (by kernel_rfl) (by kernel_rfl) (fun _ _ _ h => h) (⟨d7, d5⟩) (Or.inl ⟨by rfl, ?ya14⟩) ?ra14
      case ya14 => intro w hSw; obtain ⟨hw7, hw5⟩ := hSw; (try dsimp only at hSw); go_simp; try rfl
      case' ra14 => try simp only [List.getElem_toArray, List.getElem_cons_succ, List.getElem_cons_zero, Act.put, List.setIfInBounds_toArray, List.set_cons_zero, List.set_cons_succ]
      refine free_take 15 (v := ?va15) rfl (by kernel_rfl) (by kernel_rfl) (fun _ _ _ h => h) (⟨d7, d5⟩) (Or.inl ⟨by rfl, ?ya15⟩) ?ra15
      case ya15 => intro w hSw; obtain ⟨hw7, hw5⟩ := hSw; (try dsimp only at hSw); go_simp; try rfl
      case' ra15 => try simp only [List.getElem_toArray, List.getElem_cons_succ, List.getElem_cons_zero, Act.put, List.setIfInBounds_toArray, List.set_cons_zero, List.set_cons_succ]
      refine free_take 16 (v := ?va16) rfl (by kernel_rfl) (by kernel_rfl) (fun _ _ _ h => h) (⟨d7, d5⟩) (Or.inl ⟨by rfl, ?ya16⟩) ?ra16
      case ya16 => intro w hSw; obtain ⟨hw7, hw5⟩ := hSw; (try dsimp only at hSw); go_simp; try rfl
      case' ra16 => try simp only [List.getElem_toArray, List.getElem_cons_succ, List.getElem_cons_zero, Act.put, List.setIfInBounds_toArray, List.set_cons_zero, List.set_cons_succ]
      have w1 : IntKind.i64.wrap ((lastn : Int) + 1) = (lastn : Int) + 1 := by rw [IntKind.wrap_i64]; omega
      simp only [w1]
      clear w1
      refine free_take 17 (v := ?vb17) rfl (by kernel_rfl) (by kernel_rfl) (fun _ _ _ h => h) (⟨d7, d5⟩) (Or.inl ⟨by rfl, ?yb17⟩) ?rb17
      case yb17 => intro w hSw; obtain ⟨hw7, hw5⟩ := hSw; (try dsimp only at hSw); go_simp; try rfl
      case' rb17 => try simp only [List.getElem_toArray, List.getElem_cons_succ, List.getElem_cons_zero, Act.put, List.setIfInBounds_toArray, List.set_cons_zero, List.set_cons_succ]
      refine free_take 21 (v := ?vb21) rfl (by kernel_rfl) (by kernel_rfl) (fun _ _ _ h => h) (⟨d7, d5⟩) (Or.inl ⟨by rfl, ?yb21⟩) ?rb21
      case yb21 => intro w hSw; obtain ⟨hw7, hw5⟩ := hSw; (try dsimp only at hSw); go_simp; try rfl
      case' rb21 => try simp only [List.getElem_toArray, List.getElem_cons_succ, List.getElem_cons_zero, Act.put, List.setIfInBounds_toArray, List.set_cons_zero, List.set_cons_succ]
      have q4 : an + 1 ≤ maxLen := by unfold maxLen; omega
      have q5 : (an + 1) * 16 ≤ 140737488355328 := by omega
      have hone : Hid (∀ u ∈ ([.int .i64 (lastn : Int), .int .i64 ((lastn : Int) + 1)] : List Value), u.oneCell' = true) := Lib.hid (gps_one [((lastn : Int), (lastn : Int) + 1)])
      refine free_step2 5 18 rfl rfl (by kernel_rfl) (fun K hK => ?oA) (fun K hK => ?oB)
      case oA =>
        go_simp
        refine (cloneG A have_ an ac V HHL.out hAd (by omega)).mono ?_
        rintro e v2 ⟨A1, c1, rfl, hC, hb2⟩
        replace hBd := hBd.trans (hb2.mono (by rw [HZD.out]; omega))
        replace hC := hC.mono (base' := W.heap.size) (by rw [HZD.out]; omega)
        replace d7 := (hBd.cell (p := ⟨q, 7, none⟩) hqW).trans (bq.cell' (i := 7) rfl)
        replace d5 := (hBd.cell (p := ⟨q, 5, none⟩) hqW).trans (bq.cell' (i := 5) rfl)
        refine hK _ _ ⟨d7, d5⟩ ?_
        clear hK K hb2 hAd
        try simp only [List.getElem_toArray, List.getElem_cons_succ, List.getElem_cons_zero, Act.put, List.setIfInBounds_toArray, List.set_cons_zero, List.set_cons_succ]
        have hRn := Rd_lit v2 [.int .i64 (lastn : Int), .int .i64 ((lastn : Int) + 1)] 66
        have hBW := hBd.alloc hBd.size (.cells #[.int .i64 (lastn : Int), .int .i64 ((lastn : Int) + 1)] 66)
        replace hC := hC.alloc (.cells #[.int .i64 (lastn : Int), .int .i64 ((lastn : Int) + 1)] 66)
        have hbs := hBW.size
        refine free_step 18 rfl (by kernel_rfl) (fun K hK => ?bsA)
        case bsA =>
          go_simp
          replace d7 := (hBW.cell (p := ⟨q, 7, none⟩) hqW).trans (bq.cell' (i := 7) rfl)
          replace d5 := (hBW.cell (p := ⟨q, 5, none⟩) hqW).trans (bq.cell' (i := 5) rfl)
          refine hK _ _ ⟨d7, d5⟩ ?_
          clear hK K
          try simp only [List.getElem_toArray, List.getElem_cons_succ, List.getElem_cons_zero, Act.put, List.setIfInBounds_toArray, List.set_cons_zero, List.set_cons_succ]
          trace "D"
          refine free_step 19 rfl (by kernel_rfl) (fun K hK => ?ap0)
          case ap0 =>
            rw [if_pos (by kernel_rfl)]
            refine wp_append_Own _ (.tmp 22) (.tmp 35) 24 rfl W.heap.size 66 j0 _ 2 16 Try.underlying24 hj0 hy0 hy1 hy2 rfl A1 an c1 (gps have_) rfl hC (some ⟨v2.heap.size, 0, none⟩) 1 1 [.int .i64 (lastn : Int), .int .i64 ((lastn : Int) + 1)] rfl rfl hRn hone.out q4 q5 hbs ?_
            intro R rc w9 hO9 hg9 hor9
            have hB9 := Below.grown' (A := A1) hBW hg9 hBW.size (fun k hk => (hC.lt k hk).1)
            have d7' := (hB9.cell (p := ⟨q, 7, none⟩) hqW).trans (bq.cell' (i := 7) rfl)
            have d5' := (hB9.cell (p := ⟨q, 5, none⟩) hqW).trans (bq.cell' (i := 5) rfl)
            refine hK _ _ ⟨d7', d5'⟩ ?_
            clear hK K
            try simp only [List.getElem_toArray, List.getElem_cons_succ, List.getElem_cons_zero, Act.put, List.setIfInBounds_toArray, List.set_cons_zero, List.set_cons_succ]
            refine free_take 20 (v := ?vp20) rfl (by kernel_rfl) (by kernel_rfl) (fun _ _ _ h => h) (⟨d7', d5'⟩) (Or.inl ⟨by rfl, ?yp20⟩) ?rp20
            case yp20 => intro w hSw; (try dsimp only at hSw); go_simp; try rfl
            case' rp20 => try simp only [List.getElem_toArray, List.getElem_cons_succ, List.getElem_cons_zero, Act.put, List.setIfInBounds_toArray, List.set_cons_zero, List.set_cons_succ]
            refine free_end (by kernel_rfl) ?_
            go_wp2_with fail
            go_meet
            exact ⟨rfl, rfl, R, rc, w9, rfl, rfl, by rw [HRS.out, gps_append2]; exact hO9, hB9⟩
      case oB =>
        go_simp
        have hRn := Rd_lit V [.int .i64 (lastn : Int), .int .i64 ((lastn : Int) + 1)] 66
        have hBV := hBd.alloc hBd.size (.cells #[.int .i64 (lastn : Int), .int .i64 ((lastn : Int) + 1)] 66)
        have hAV := hAd.alloc (.cells #[.int .i64 (lastn : Int), .int .i64 ((lastn : Int) + 1)] 66)
        replace d7 := (hBV.cell (p := ⟨q, 7, none⟩) hqW).trans (bq.cell' (i := 7) rfl)
        replace d5 := (hBV.cell (p := ⟨q, 5, none⟩) hqW).trans (bq.cell' (i := 5) rfl)
        refine hK _ _ ⟨d7, d5⟩ ?_
        clear hK K hAd hBd
        try simp only [List.getElem_toArray, List.getElem_cons_succ, List.getElem_cons_zero, Act.put, List.setIfInBounds_toArray, List.set_cons_zero, List.set_cons_succ]
        refine free_step 5 rfl (by kernel_rfl) (fun K hK => ?clB)
        case clB =>
          go_simp
          refine (cloneG A have_ an ac _ HHL.out hAV (by omega)).mono ?_
          rintro e v2 ⟨A1, c1, rfl, hC, hb2⟩
          have hzv := hBV.size
          have hBW := hBV.trans (hb2.mono hzv)
          replace hC := hC.mono (base' := W.heap.size) hzv
          replace hRn := hRn.below hb2
          have hbs := hBW.size
          replace d7 := (hBW.cell (p := ⟨q, 7, none⟩) hqW).trans (bq.cell' (i := 7) rfl)
          replace d5 := (hBW.cell (p := ⟨q, 5, none⟩) hqW).trans (bq.cell' (i := 5) rfl)
          refine hK _ _ ⟨d7, d5⟩ ?_
          clear hK K hb2
          try simp only [List.getElem_toArray, List.getElem_cons_succ, List.getElem_cons_zero, Act.put, List.setIfInBounds_toArray, List.set_cons_zero, List.set_cons_succ]
          trace "E"
          refine free_step 19 rfl (by kernel_rfl) (fun K hK => ?ap1)
          case ap1 =>
            rw [if_pos (by kernel_rfl)]
            refine wp_append_Own _ (.tmp 22) (.tmp 35) 24 rfl W.heap.size 66 j0 _ 2 16 Try.underlying24 hj0 hy0 hy1 hy2 rfl A1 an c1 (gps have_) rfl hC (some ⟨V.heap.size, 0, none⟩) 1 1 [.int .i64 (lastn : Int), .int .i64 ((lastn : Int) + 1)] rfl rfl hRn hone.out q4 q5 hbs ?_
            intro R rc w9 hO9 hg9 hor9
            have hB9 := Below.grown' (A := A1) hBW hg9 hBW.size (fun k hk => (hC.lt k hk).1)
            have d7' := (hB9.cell (p := ⟨q, 7, none⟩) hqW).trans (bq.cell' (i := 7) rfl)
            have d5' := (hB9.cell (p := ⟨q, 5, none⟩) hqW).trans (bq.cell' (i := 5) rfl)
            refine hK _ _ ⟨d7', d5'⟩ ?_
            clear hK K
            try simp only [List.getElem_toArray, List.getElem_cons_succ, List.getElem_cons_zero, Act.put, List.setIfInBounds_toArray, List.set_cons_zero, List.set_cons_succ]
            refine free_take 20 (v := ?vq20) rfl (by kernel_rfl) (by kernel_rfl) (fun _ _ _ h => h) (⟨d7', d5'⟩) (Or.inl ⟨by rfl, ?yq20⟩) ?rq20
            case yq20 => intro w hSw; (try dsimp only at hSw); go_simp; try rfl
            case' rq20 => try simp only [List.getElem_toArray, List.getElem_cons_succ, List.getElem_cons_zero, Act.put, List.setIfInBounds_toArray, List.set_cons_zero, List.set_cons_succ]
            refine free_end (by kernel_rfl) ?_
            go_wp2_with fail
            go_meet
            exact ⟨rfl, rfl, R, rc, w9, rfl, rfl, by rw [HRS.out, gps_append2]; exact hO9, hB9⟩
    case rest =>
      clear d7 d5
      obtain ⟨rfl, rfl, R, rc, W2, hW2, rfl, hR, hB2⟩ := hcut
      subst hW2
      replace bq := bq.step hB2
      replace hO := hO.step hB2
      replace hB := hB.trans (hB2.mono zW)
      have hRr := hR.rd
      have hRG0 : ∀ k, blk G = some k → blk R ≠ some k := fun k h1 h2 => by have := HGW.out k h1; have := (hR.lt k h2).1; omega
      clear hR hB2 hqW HGW
      trace "F"
      have HRL : Hid (rs.length = an + 1) := Lib.hid (by rw [HRS.out, List.length_append, HHL.out]; rfl)
      have HRR := Lib.hid hRr
      obtain ⟨L1, hL1⟩ : ∃ L1, L ++ missR rs (lastn : Int) 0 = L1 := ⟨_, rfl⟩
      rw [← HL.out, hL1] at HMT
      have HL1 := Lib.hid hL1
      clear hL1 hRr
      go_wp2_with fail
      go_loopw [2, 3, 38] (fun sv av iv wr => ∃ (i gn' gc' : Nat) (a : Int) (G' : Option Addr) (acc : List (Int × Int)), i ≤ an + 1 ∧ iv = .int .i64 (i : Int) ∧ av = .int .i64 a ∧ sv = .slice G' gn' gc' ∧ acc.length = gn' ∧ gn' ≤ 1 + i ∧ Own wr w.heap.size 66 2 G' gn' gc' (gps acc) ∧ Blk wr q 86 #[.int .i64 id, .bool known, .string name, .int .i64 size, .bool ended, .int .i64 (lastn : Int), .int .i64 sum, .slice A an ac, .slice F fn fc, .int .i64 stage, .int .i64 timer, .int .i64 patience, .int .i64 tries, .int .i64 limit, .slice O on oc] ∧ Below w.heap.size w wr ∧ Rd wr R (gps rs) ∧ (∀ k, blk G' = some k → blk R ≠ some k) ∧ Hid (L1 = acc ++ missR (rs.drop i) (lastn : Int) a)) (fun sv av iv _ => an + 1 - (intOf iv).toNat)
      case atStart => exact ⟨0, gn, gc, 0, G, L, by omega, rfl, rfl, rfl, HGN.out, by omega, hO, bq, hB, HRR.out, hRG0, Lib.hid (by rw [List.drop_zero]; exact HL1.out.symm)⟩
      case round =>
        clear bq hO hB
        obtain ⟨i, gn', gc', a, G', acc, hi, rfl, rfl, rfl, hacc, hgi, hO, bq, hB, hRr, hRG, HE⟩ := hrel
        trace "G"
        by_cases h5 : i < an + 1
        rotate_left
        ·
          obtain rfl : i = an + 1 := by omega
          have h5i : ¬ ((an : Int) + 1) < (an : Int) + 1 := by omega
          have hend : L1 = acc := by rw [HE.out, List.drop_eq_nil_of_le (by rw [HRL.out]; omega)]; simp [missR]
          rw [hend] at HMT
          clear hend HE HL1
          have HAC := Lib.hid hacc
          by_cases h0 : gn' = 0
          ·
            have hat0 : at_ = [] := by
              rw [← HAT.out]
              unfold askT
              rw [if_pos]
              rw [HMT.out, List.eq_nil_of_length_eq_zero (HAC.out.trans h0)]
              rfl
            have HA0 := Lib.hid hat0
            subst h0
            clear hat0 hacc
            have h0i : ¬ (0 : Int) < 0 := by omega
            go_wp2_with fail
            go_end0
            rw [HA0.out, List.append_nil]
            obtain ⟨O9, on9, oc9, l9, -, k1, k2, k3⟩ := HNO.out _ hB
            exact ⟨O9, on9, oc9, l9, rfl, k1, k2, k3⟩
          ·
            have h0i : (0 : Int) < (gn' : Int) := by omega
            have h0d : decide (0 < gn') = true := decide_eq_true (by omega)
            obtain ⟨m, hm⟩ : ∃ m, min gn' 20 = m := ⟨_, rfl⟩
            have hm1 : m ≤ gn' := by omega
            have hO2 := hO.cutc hm1
            rw [← gps_take] at hO2
            have hcap := hO.le
            have HMM : Hid (missT ⟨id, known, name, size, ended, (lastn : Int), sum, have_, file, stage, timer, patience, tries, limit⟩ = acc.take m) := Lib.hid (by
              rw [HMT.out]
              unfold capG
              by_cases h20 : gn' ≤ 20
              · rw [List.take_of_length_le (by omega), List.take_of_length_le (by omega)]
              · rw [show m = 20 by omega])
            have hne : missT ⟨id, known, name, size, ended, (lastn : Int), sum, have_, file, stage, timer, patience, tries, limit⟩ ≠ [] := by
              rw [HMM.out]
              intro e
              have : (acc.take m).length = 0 := by rw [e]; rfl
              rw [List.length_take] at this
              omega
            have HA1 : Hid (at_ = [gapsN ⟨id, known, name, size, ended, (lastn : Int), sum, have_, file, stage, timer, patience, tries, limit⟩ (acc.take m)]) := Lib.hid (by
              rw [← HAT.out]
              unfold askT
              rw [if_neg hne, HMM.out])
            have CSA := Lib.hid (CS.out ⟨4, 0, ⟨#[]⟩, 0, 0, 0, [], acc.take m, 0, 0⟩ _ G' m m wr hB rfl rfl (by show (acc.take m).length = m; rw [List.length_take]; omega) hO2)
            unfold ntv at CSA
            dsimp only at CSA
            clear CS hne HMT HMM hacc HNO
            have hmi : (m : Int) ≤ (gc' : Int) := by omega
            have hmi0 : (0 : Int) ≤ (m : Int) := by omega
            trace "H"
            by_cases h20 : gn' ≤ 20
            ·
              obtain rfl : m = gn' := by omega
              have h20i : (m : Int) ≤ 20 := by omega
              clear hm
              go_wp2_with fail
              refine CSA.out.mono ?_
              intro e w' h
              obtain ⟨O1, on1, oc1, l1, rfl, k1, k2, k3⟩ := h
              go_wp2_with fail
              go_end0
              rw [HA1.out]
              exact ⟨O1, on1, oc1, l1, rfl, k1, k2, ((hB.mono hbase).trans k3)⟩
            ·
              obtain rfl : m = 20 := by omega
              have h20i : ¬ (gn' : Int) ≤ 20 := by omega
              have h20j : (20 : Int) < (gn' : Int) := by omega
              clear hm
              go_wp2_with fail
              refine CSA.out.mono ?_
              intro e w' h
              obtain ⟨O1, on1, oc1, l1, rfl, k1, k2, k3⟩ := h
              go_wp2_with fail
              go_end0
              rw [HA1.out]
              exact ⟨O1, on1, oc1, l1, rfl, k1, k2, ((hB.mono hbase).trans k3)⟩
        ·
          trace "I"
          have h5i : (i : Int) < (an : Int) + 1 := by omega
          have hip : (0 : Int) ≤ (i : Int) := by omega
          have hiL : i < rs.length := by rw [HRL.out]; exact h5
          obtain ⟨g, hg⟩ : ∃ g, rs[i]? = some g := ⟨_, List.getElem?_eq_getElem hiL⟩
          have hd : rs.drop i = g :: rs.drop (i + 1) := by
            rw [List.drop_eq_getElem_cons hiL]
            congr 1
            rw [List.getElem?_eq_getElem hiL] at hg
            exact Option.some.inj hg
          obtain ⟨rb, ro, rfl, y0, y1⟩ := rdgap_cells hRr hg
          have hrb : rb < wr.heap.size := World.block_lt_of_cell? _ _ y0
          obtain ⟨ga, gz⟩ := g
          dsimp only at y0 y1
          obtain ⟨tz, hto⟩ : ∃ tz, min ga (lastn : Int) = tz := ⟨_, rfl⟩
          have HE2 : Hid (L1 = acc ++ ((if a < tz then [(a, tz)] else []) ++ missR (rs.drop (i + 1)) (lastn : Int) gz)) := Lib.hid (by
            rw [HE.out, hd, ← hto]
            rfl)
          clear hiL hg hd HE
          have bx := Blk.new wr 66 #[.int .i64 ga, .int .i64 gz]
          have hPG0 : blk G' ≠ some wr.heap.size := fun h => by have := (hO.lt _ h).2; omega
          replace bq := bq.alloc (.cells #[.int .i64 ga, .int .i64 gz] 66)
          replace hO := hO.alloc (.cells #[.int .i64 ga, .int .i64 gz] 66)
          replace hB := hB.alloc hB.size (.cells #[.int .i64 ga, .int .i64 gz] 66)
          replace hRr := hRr.alloc (.cells #[.int .i64 ga, .int .i64 gz] 66)
          have hrb2 : rb < (wr.alloc (.cells #[.int .i64 ga, .int .i64 gz] 66)).heap.size := by simp; omega
          go_upto_region 7 with fail
          trace "J"
          clear y0 y1
          obtain ⟨p, hp⟩ : ∃ p, wr.heap.size = p := ⟨_, rfl⟩
          rw [hp] at bx hPG0 ⊢
          have hPG := Lib.hid hPG0
          clear hp hrb hPG0
          generalize wr.alloc (.cells #[.int .i64 ga, .int .i64 gz] 66) = V at *
          go_cut [6] (fun s wx => s = .int .i64 tz ∧ V.drew = wx)
          case first =>
            have b0 : V.drew.cell? ⟨p, 0, none⟩ = some (.int .i64 ga) := bx.cell' (i := 0) rfl
            have q5' : V.drew.cell? ⟨q, 5, none⟩ = some (.int .i64 (lastn : Int)) := bq.cell' (i := 5) rfl
            by_cases c : ga ≤ (lastn : Int)
            ·
              have hto2 := Lib.hid (show ga = tz by omega)
              clear hto
              refine freeRegion (fun v => v.cell? ⟨p, 0, none⟩ = some (.int .i64 ga) ∧ v.cell? ⟨q, 5, none⟩ = some (.int .i64 (lastn : Int))) (by kernel_rfl) (by kernel_rfl) ⟨b0, q5'⟩ (fun hSS => ?_)
              clear hSS
              refine free_take 0 (v := ?vs0) rfl (by kernel_rfl) (by kernel_rfl) (fun _ _ _ h => h) (⟨b0, q5'⟩) (Or.inl ⟨by rfl, ?ys0⟩) ?rs0
              case ys0 => intro w hSw; obtain ⟨hw0, hw5⟩ := hSw; (try dsimp only at hSw); go_simp; try rfl
              case' rs0 => try simp only [List.getElem_toArray, List.getElem_cons_succ, List.getElem_cons_zero, Act.put, List.setIfInBounds_toArray, List.set_cons_zero, List.set_cons_succ]
              refine free_take 1 (v := ?vs1) rfl (by kernel_rfl) (by kernel_rfl) (fun _ _ _ h => h) (⟨b0, q5'⟩) (Or.inl ⟨by rfl, ?ys1⟩) ?rs1
              case ys1 => intro w hSw; obtain ⟨hw0, hw5⟩ := hSw; (try dsimp only at hSw); go_simp; try rfl
              case' rs1 => try simp only [List.getElem_toArray, List.getElem_cons_succ, List.getElem_cons_zero, Act.put, List.setIfInBounds_toArray, List.set_cons_zero, List.set_cons_succ]
              refine free_take 2 (v := ?vs2) rfl (by kernel_rfl) (by kernel_rfl) (fun _ _ _ h => h) (⟨b0, q5'⟩) (Or.inl ⟨by rfl, ?ys2⟩) ?rs2
              case ys2 => intro w hSw; obtain ⟨hw0, hw5⟩ := hSw; (try dsimp only at hSw); go_simp; try rfl
              case' rs2 => try simp only [List.getElem_toArray, List.getElem_cons_succ, List.getElem_cons_zero, Act.put, List.setIfInBounds_toArray, List.set_cons_zero, List.set_cons_succ]
              refine free_take 3 (v := ?vs3) rfl (by kernel_rfl) (by kernel_rfl) (fun _ _ _ h => h) (⟨b0, q5'⟩) (Or.inl ⟨by rfl, ?ys3⟩) ?rs3
              case ys3 => intro w hSw; obtain ⟨hw0, hw5⟩ := hSw; (try dsimp only at hSw); go_simp; try rfl
              case' rs3 => try simp only [List.getElem_toArray, List.getElem_cons_succ, List.getElem_cons_zero, Act.put, List.setIfInBounds_toArray, List.set_cons_zero, List.set_cons_succ]
              refine free_take 4 (v := ?vs4) rfl (by kernel_rfl) (by kernel_rfl) (fun _ _ _ h => h) (⟨b0, q5'⟩) (Or.inl ⟨by rfl, ?ys4⟩) ?rs4
              case ys4 => intro w hSw; obtain ⟨hw0, hw5⟩ := hSw; (try dsimp only at hSw); go_simp; try rfl
              case' rs4 => try simp only [List.getElem_toArray, List.getElem_cons_succ, List.getElem_cons_zero, Act.put, List.setIfInBounds_toArray, List.set_cons_zero, List.set_cons_succ]
              refine free_take 5 (v := ?vs5) rfl (by kernel_rfl) (by kernel_rfl) (fun _ _ _ h => h) (⟨b0, q5'⟩) (Or.inl ⟨by rfl, ?ys5⟩) ?rs5
              case ys5 => intro w hSw; obtain ⟨hw0, hw5⟩ := hSw; (try dsimp only at hSw); go_simp; try rfl
              case' rs5 => try simp only [List.getElem_toArray, List.getElem_cons_succ, List.getElem_cons_zero, Act.put, List.setIfInBounds_toArray, List.set_cons_zero, List.set_cons_succ]
              refine free_take 6 (v := ?vs6) rfl (by kernel_rfl) (by kernel_rfl) (fun _ _ _ h => h) (⟨b0, q5'⟩) (Or.inl ⟨by rfl, ?ys6⟩) ?rs6
              case ys6 => intro w hSw; obtain ⟨hw0, hw5⟩ := hSw; (try dsimp only at hSw); go_simp; try rfl
              case' rs6 => try simp only [List.getElem_toArray, List.getElem_cons_succ, List.getElem_cons_zero, Act.put, List.setIfInBounds_toArray, List.set_cons_zero, List.set_cons_succ]
              refine free_take 7 (v := ?vs7) rfl (by kernel_rfl) (by kernel_rfl) (fun _ _ _ h => h) (⟨b0, q5'⟩) (Or.inl ⟨by rfl, ?ys7⟩) ?rs7
              case ys7 => intro w hSw; obtain ⟨hw0, hw5⟩ := hSw; (try dsimp only at hSw); go_simp; try rfl
              case' rs7 => try simp only [List.getElem_toArray, List.getElem_cons_succ, List.getElem_cons_zero, Act.put, List.setIfInBounds_toArray, List.set_cons_zero, List.set_cons_succ]
              refine free_take 8 (v := ?vs8) rfl (by kernel_rfl) (by kernel_rfl) (fun _ _ _ h => h) (⟨b0, q5'⟩) (Or.inl ⟨by rfl, ?ys8⟩) ?rs8
              case ys8 => intro w hSw; obtain ⟨hw0, hw5⟩ := hSw; (try dsimp only at hSw); go_simp; try rfl
              case' rs8 => try simp only [List.getElem_toArray, List.getElem_cons_succ, List.getElem_cons_zero, Act.put, List.setIfInBounds_toArray, List.set_cons_zero, List.set_cons_succ]
              refine free_end (by kernel_rfl) ?_
              go_wp2_with fail
              go_meet
              exact ⟨by rw [← hto2.out] <;> rfl, rfl⟩
            ·
              have c2 : (lastn : Int) < ga := by omega
              have hto2 := Lib.hid (show (lastn : Int) = tz by omega)
              clear hto
              refine freeRegion (fun v => v.cell? ⟨p, 0, none⟩ = some (.int .i64 ga) ∧ v.cell? ⟨q, 5, none⟩ = some (.int .i64 (lastn : Int))) (by kernel_rfl) (by kernel_rfl) ⟨b0, q5'⟩ (fun hSS => ?_)
              clear hSS
              refine free_take 0 (v := ?vt0) rfl (by kernel_rfl) (by kernel_rfl) (fun _ _ _ h => h) (⟨b0, q5'⟩) (Or.inl ⟨by rfl, ?yt0⟩) ?rt0
              case yt0 => intro w hSw; obtain ⟨hw0, hw5⟩ := hSw; (try dsimp only at hSw); go_simp; try rfl
              case' rt0 => try simp only [List.getElem_toArray, List.getElem_cons_succ, List.getElem_cons_zero, Act.put, List.setIfInBounds_toArray, List.set_cons_zero, List.set_cons_succ]
              refine free_take 1 (v := ?vt1) rfl (by kernel_rfl) (by kernel_rfl) (fun _ _ _ h => h) (⟨b0, q5'⟩) (Or.inl ⟨by rfl, ?yt1⟩) ?rt1
              case yt1 => intro w hSw; obtain ⟨hw0, hw5⟩ := hSw; (try dsimp only at hSw); go_simp; try rfl
              case' rt1 => try simp only [List.getElem_toArray, List.getElem_cons_succ, List.getElem_cons_zero, Act.put, List.setIfInBounds_toArray, List.set_cons_zero, List.set_cons_succ]
              refine free_take 2 (v := ?vt2) rfl (by kernel_rfl) (by kernel_rfl) (fun _ _ _ h => h) (⟨b0, q5'⟩) (Or.inl ⟨by rfl, ?yt2⟩) ?rt2
              case yt2 => intro w hSw; obtain ⟨hw0, hw5⟩ := hSw; (try dsimp only at hSw); go_simp; try rfl
              case' rt2 => try simp only [List.getElem_toArray, List.getElem_cons_succ, List.getElem_cons_zero, Act.put, List.setIfInBounds_toArray, List.set_cons_zero, List.set_cons_succ]
              refine free_take 3 (v := ?vt3) rfl (by kernel_rfl) (by kernel_rfl) (fun _ _ _ h => h) (⟨b0, q5'⟩) (Or.inl ⟨by rfl, ?yt3⟩) ?rt3
              case yt3 => intro w hSw; obtain ⟨hw0, hw5⟩ := hSw; (try dsimp only at hSw); go_simp; try rfl
              case' rt3 => try simp only [List.getElem_toArray, List.getElem_cons_succ, List.getElem_cons_zero, Act.put, List.setIfInBounds_toArray, List.set_cons_zero, List.set_cons_succ]
              refine free_take 4 (v := ?vt4) rfl (by kernel_rfl) (by kernel_rfl) (fun _ _ _ h => h) (⟨b0, q5'⟩) (Or.inl ⟨by rfl, ?yt4⟩) ?rt4
              case yt4 => intro w hSw; obtain ⟨hw0, hw5⟩ := hSw; (try dsimp only at hSw); go_simp; try rfl
              case' rt4 => try simp only [List.getElem_toArray, List.getElem_cons_succ, List.getElem_cons_zero, Act.put, List.setIfInBounds_toArray, List.set_cons_zero, List.set_cons_succ]
              refine free_take 5 (v := ?vt5) rfl (by kernel_rfl) (by kernel_rfl) (fun _ _ _ h => h) (⟨b0, q5'⟩) (Or.inl ⟨by rfl, ?yt5⟩) ?rt5
              case yt5 => intro w hSw; obtain ⟨hw0, hw5⟩ := hSw; (try dsimp only at hSw); go_simp; try rfl
              case' rt5 => try simp only [List.getElem_toArray, List.getElem_cons_succ, List.getElem_cons_zero, Act.put, List.setIfInBounds_toArray, List.set_cons_zero, List.set_cons_succ]
              refine free_take 6 (v := ?vt6) rfl (by kernel_rfl) (by kernel_rfl) (fun _ _ _ h => h) (⟨b0, q5'⟩) (Or.inl ⟨by rfl, ?yt6⟩) ?rt6
              case yt6 => intro w hSw; obtain ⟨hw0, hw5⟩ := hSw; (try dsimp only at hSw); go_simp; try rfl
              case' rt6 => try simp only [List.getElem_toArray, List.getElem_cons_succ, List.getElem_cons_zero, Act.put, List.setIfInBounds_toArray, List.set_cons_zero, List.set_cons_succ]
              refine free_take 7 (v := ?vt7) rfl (by kernel_rfl) (by kernel_rfl) (fun _ _ _ h => h) (⟨b0, q5'⟩) (Or.inl ⟨by rfl, ?yt7⟩) ?rt7
              case yt7 => intro w hSw; obtain ⟨hw0, hw5⟩ := hSw; (try dsimp only at hSw); go_simp; try rfl
              case' rt7 => try simp only [List.getElem_toArray, List.getElem_cons_succ, List.getElem_cons_zero, Act.put, List.setIfInBounds_toArray, List.set_cons_zero, List.set_cons_succ]
              refine free_take 8 (v := ?vt8) rfl (by kernel_rfl) (by kernel_rfl) (fun _ _ _ h => h) (⟨b0, q5'⟩) (Or.inl ⟨by rfl, ?yt8⟩) ?rt8
              case yt8 => intro w hSw; obtain ⟨hw0, hw5⟩ := hSw; (try dsimp only at hSw); go_simp; try rfl
              case' rt8 => try simp only [List.getElem_toArray, List.getElem_cons_succ, List.getElem_cons_zero, Act.put, List.setIfInBounds_toArray, List.set_cons_zero, List.set_cons_succ]
              refine free_end (by kernel_rfl) ?_
              go_wp2_with fail
              go_meet
              exact ⟨by rw [← hto2.out] <;> rfl, rfl⟩
          case rest =>
            obtain ⟨rfl, hW9⟩ := hcut
            subst hW9
            replace bq := bq.drew
            replace hO := hO.drew
            replace hB := hB.drew
            replace hRr := hRr.drew
            replace bx := bx.drew
            have hrb3 : rb < V.drew.heap.size := hrb2
            clear hrb2 hto
            generalize V.drew = V2 at *
            trace "K"
            have bx1 := bx.cell' (i := 1) rfl
            by_cases c : a < tz
            rotate_left
            ·
              have HE3 : Hid (L1 = acc ++ missR (rs.drop (i + 1)) (lastn : Int) gz) := Lib.hid (by rw [HE2.out, if_neg c]; rfl)
              go_wp2_with fail
              go_roundw
              case rel => exact ⟨i + 1, gn', gc', gz, G', acc, by omega, by go_num, rfl, rfl, hacc, by omega, hO, bq, hB, hRr, hRG, HE3⟩
              case measure => simp [intOf]; omega
            ·
              have HE3 : Hid (L1 = (acc ++ [(a, tz)]) ++ missR (rs.drop (i + 1)) (lastn : Int) gz) := Lib.hid (by rw [HE2.out, if_pos c, List.append_assoc])
              have hRn := Rd_lit V2 [.int .i64 a, .int .i64 tz] 66
              have hone : Hid (∀ u ∈ ([.int .i64 a, .int .i64 tz] : List Value), u.oneCell' = true) := Lib.hid (gps_one [(a, tz)])
              have bq2 := bq.alloc (.cells #[.int .i64 a, .int .i64 tz] 66)
              have bx2 := bx.alloc (.cells #[.int .i64 a, .int .i64 tz] 66)
              have hO2 := hO.alloc (.cells #[.int .i64 a, .int .i64 tz] 66)
              have hB2 := hB.alloc hB.size (.cells #[.int .i64 a, .int .i64 tz] 66)
              have hRr2 := hRr.alloc (.cells #[.int .i64 a, .int .i64 tz] 66)
              have hrb4 : rb < (V2.alloc (.cells #[.int .i64 a, .int .i64 tz] 66)).heap.size := by simp; omega
              have q4 : gn' + 1 ≤ maxLen := by unfold maxLen; omega
              have q5 : (gn' + 1) * 16 ≤ 140737488355328 := by omega
              have q6 := hB2.size
              have hpG : blk G' ≠ some p := hPG.out
              clear bq bx hO hB hRr bx1 hrb3
              go_upto_region 10 with (at_builtin; refine wpList_append_Own (V2.alloc (.cells #[.int .i64 a, .int .i64 tz] 66)) rfl (.tmp 53) (.tmp 57) 24 rfl w.heap.size 66 j0 _ 2 16 Try.underlying24 hj0 hy0 hy1 hy2 rfl G' gn' gc' (gps acc) rfl hO2 (some ⟨V2.heap.size, 0, none⟩) 1 1 [.int .i64 a, .int .i64 tz] rfl rfl hRn hone.out q4 q5 q6 ?_; intro G6 c6 w6 hO6 hg6 hor6)
              have bq6 := bq2.grown hg6 (fun e => (hO2.notBlk bq2 (by decide)) e.symm)
              have bx6 := bx2.grown hg6 (fun e => hpG e.symm)
              have hB6 := Below.grown' (A := G') hB2 hg6 hB2.size (fun k hk => (hO2.lt k hk).1)
              have hRr6 := hRr2.grown hg6 (fun k h1 h2 => hRG k h1 h2)
              have hRG6 : ∀ k, blk G6 = some k → blk (some (⟨rb, ro, none⟩ : Addr)) ≠ some k := by
                intro k h1 h2
                rcases hor6 with e | e
                · rw [e] at h1
                  exact hRG k h1 h2
                · rw [e] at h1
                  have e1 := Option.some.inj h1
                  have e2 : rb = k := Option.some.inj h2
                  omega
              have hO7 : Own w6 w.heap.size 66 2 G6 (gn' + 1) c6 (gps (acc ++ [(a, tz)])) := by rw [gps_append2]; exact hO6
              have bx1 := bx6.cell' (i := 1) rfl
              clear hg6 hor6 hO6 hRn q4 q5 q6 hO2 hB2 hRr2 bq2 bx2
              trace "L"
              go_wp2_with fail
              go_roundw
              case rel => exact ⟨i + 1, gn' + 1, c6, gz, G6, acc ++ [(a, tz)], by omega, by go_num, rfl, rfl, by rw [List.length_append, hacc]; rfl, by omega, hO7, bq6, hB6, hRr6, hRG6, HE3⟩
              case measure => simp [intOf]; omega
end Go.Proofs.Ytianombjgdmbeaa
namespace Go.Proofs.Ytianombjgdmbeaa
set_option linter.unusedSimpArgs false
set_option linter.unusedVariables false
open Go.RowKit

theorem GvMem.turnQ {W V : World} {base q : Nat} {t : TypeId} {cs : Array Value} {y : Gv} {ns : List Nt} {F A O : Option Addr} {fn fc an ac on oc : Nat} {l : List NtR} (h : GvMem W base y ns F fn fc A an ac O on oc l) (hq : Blk W q t cs) (h1 : 5 ≠ t) (h2 : 66 ≠ t) (h3 : 27 ≠ t) (k : Turned W V (fun i => i = q)) : GvMem V base y ns F fn fc A an ac O on oc l :=
  ⟨h.fl, h.al, h.nl, h.ln, h.file.turned k (fun i hi e => h.file.notBlk hq h1 (by rw [hi, e])), h.again.turned k (fun i hi e => h.again.notBlk hq h2 (by rw [hi, e])), h.out.turned k (fun i hi e => h.out.notBlk hq h3 (by rw [hi, e])),
    h.parts.map (fun e s A n c xs ho he => ho.turned k (fun i hi e2 => ho.notBlk hq (by rcases he with rfl | rfl <;> assumption) (by rw [hi, e2]))), h.far⟩
theorem GvMem.drewQ {W : World} {base : Nat} {y : Gv} {ns : List Nt} {F A O : Option Addr} {fn fc an ac on oc : Nat} {l : List NtR} (h : GvMem W base y ns F fn fc A an ac O on oc l) : GvMem W.drew base y ns F fn fc A an ac O on oc l :=
  ⟨h.fl, h.al, h.nl, h.ln, h.file.drew, h.again.drew, h.out.drew, h.parts.map (fun e s A n c xs k he => k.drew), h.far⟩
theorem srt_len : ∀ {l : List (Int × Int)} {e : Int}, Srt e l → e + (l.length : Int) ≤ endR e l
  | [], _, _ => by simp [endR]
  | g :: l, e, h => by
    have h1 := srt_len h.2.2
    have h2 := h.1
    have h3 := h.2.1
    show e + ((l.length + 1 : Nat) : Int) ≤ endR g.2 l
    omega
theorem DoT.of {r : Tk × List Nt} {y y' : Tk} {ns ns' : List Nt} {k : Int} {w w' : World} {base q : Nat} {e : Ending} (h : r = (y, ns)) (h' : r = (y', ns')) (g : DoT w w' base q y' ns' k e) : DoT w w' base q y ns k e := by
  rw [h] at h'
  injection h' with e1 e2
  rw [e1, e2]
  exact g
theorem SayT.do_ {w v w' : World} {base q : Nat} {x : Tk} {ns : List Nt} {F A : Option Addr} {fn fc an ac : Nat} {e : Ending} {k : Int} (h : SayT v w' base q x ns F fn fc A an ac e) (hB : Below base w v) : DoT w w' base q x ns k (.returned (.int .i64 k)) := by
  obtain ⟨O, on, oc, l, -, h1, h2, h3⟩ := h
  exact ⟨F, fn, fc, A, an, ac, O, on, oc, l, rfl, h1, h2, hB.trans h3⟩
end Go.Proofs.Ytianombjgdmbeaa
