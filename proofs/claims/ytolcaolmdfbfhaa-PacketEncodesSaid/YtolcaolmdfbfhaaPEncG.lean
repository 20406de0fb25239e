/-
  packet.Encode.
-/
import Derived.Test.YtolcaolmdfbfhaaPEncR
import Derived.Test.YtolcaolmdfbfhaaConcat
import Derived.Deep.RegionHeld3
namespace Go.Proofs.Ytolcaolmdfbfhaa
set_option linter.unusedSimpArgs false
set_option linter.unusedVariables false
open Go.RowKit

set_option maxHeartbeats 3200000 in
set_option maxRecDepth 100000 in
theorem pencode_bad (p : Pkt) (A : Option Addr) (n c : Nat) (w : World) (hn : p.data.length = n) (h : pktMay p ≠ 0) :
    Calls Try.prog 20 #[pvn p A n c] w fun e w' => BytesRes w w' (pktBytes p) e := by
  have hm := Lib.hid (fun w => pmay_any p A n c w hn)
  have e : pktBytes p = ([], pktMay p) := by unfold pktBytes; rw [if_neg h]
  rw [e]
  obtain ⟨u, s, ap, pa, co, d⟩ := p
  simp only at hm
  generalize pktMay ⟨u, s, ap, pa, co, d⟩ = R at *
  unfold pvn
  go_enter Try.func20, Try.ntmps20
  go_wp2_with fail
  refine (hm.out _).mono ?_
  rintro e w1 ⟨rfl, hb⟩
  have hB : Below w.heap.size w w1 := ((Below.refl _ _).alloc (Nat.le_refl _) _).trans (hb.mono (by simp))
  have h' : (R != 0) = true := by simpa using h
  go_wp2
  go_ret2
  exact BytesRes.none_ hB

/-- Four rows of bytes, one behind the other. -/
theorem joined_four (a b c d : Pc) : joined [a, b, c, d] = a.l ++ b.l ++ c.l ++ d.l := by simp [joined]
theorem four_rd {w : World} {a b c d : Pc} (h0 : Rd w a.A (bvs a.l)) (h1 : Rd w b.A (bvs b.l)) (h2 : Rd w c.A (bvs c.l)) (h3 : Rd w d.A (bvs d.l)) : ∀ p ∈ [a, b, c, d], Rd w p.A (bvs p.l) := by
  intro p hp
  simp at hp
  rcases hp with rfl | rfl | rfl | rfl <;> assumption

set_option maxHeartbeats 1600000 in
theorem concat_body (F C m n : Nat) (d : List UInt8) (W : World) (Aa Ab Ac A : Option Addr) (ca cb cc c : Nat) (hL : d.length = n) (hm : n = m + 1) (hn : n ≤ 65536)
    (ra : Rd W Aa (bvs (be (F : Nat) 2))) (rb : Rd W Ab (bvs (be (C : Nat) 2))) (rc : Rd W Ac (bvs (be (m : Nat) 2))) (rd : Rd W A (bvs d)) :
    Calls Try.prog 68 #[.slice (some ⟨W.heap.size, 0, none⟩) 4 4] (W.alloc (.cells #[.slice Aa 2 ca, .slice Ab 2 cb, .slice Ac 2 cc, .slice A n c] 22)) fun e w' =>
      ∃ A' c', e = .returned (.slice A' (n + 6) c') ∧ Own w' W.heap.size 5 1 A' (n + 6) c' (bvs (pktBody F C d)) ∧ Below W.heap.size W w' := by
  have hR : Rd (W.alloc (.cells #[.slice Aa 2 ca, .slice Ab 2 cb, .slice Ac 2 cc, .slice A n c] 22)) (some ⟨W.heap.size, 0, none⟩) (([⟨Aa, be (F : Nat) 2, ca⟩, ⟨Ab, be (C : Nat) 2, cb⟩, ⟨Ac, be (m : Nat) 2, cc⟩, ⟨A, d, c⟩] : List Pc).map Pc.v) := by
    have := Rd_lit W [.slice Aa 2 ca, .slice Ab 2 cb, .slice Ac 2 cc, .slice A n c] 22
    simpa [Pc.v, be_length, hL] using this
  have hJ : joined [⟨Aa, be (F : Nat) 2, ca⟩, ⟨Ab, be (C : Nat) 2, cb⟩, ⟨Ac, be (m : Nat) 2, cc⟩, ⟨A, d, c⟩] = pktBody F C d := by
    rw [joined_four]
    unfold pktBody
    rw [hL, show n - 1 = m from by omega]
  have hN : (pktBody F C d).length = n + 6 := by rw [pktBody_length, hL]
  refine (concat_any _ _ 4 4 _ rfl (by decide) hR (four_rd (ra.alloc _) (rb.alloc _) (rc.alloc _) (rd.alloc _)) (by rw [hJ, hN]; omega)).mono ?_
  rw [hJ]
  rintro e w' ⟨A', c', rfl, hO, hB⟩
  rw [hN] at hO ⊢
  exact ⟨A', c', rfl, hO.mono (by simp), ((Below.refl _ _).alloc (Nat.le_refl _) _).trans (hB.mono (by simp))⟩

set_option maxHeartbeats 6400000 in
set_option maxRecDepth 100000 in
theorem pencode_ff (an pn cn : Nat) (d : List UInt8) (A : Option Addr) (n c : Nat) (w : World) (hn : d.length = n) (a1 : an ≤ 2047) (b1 : pn ≤ 3) (c1 : cn ≤ 16383) (hl1 : 1 ≤ n) (hl2 : n ≤ 65536) (h : pktMay ⟨false, false, an, pn, cn, d⟩ = 0) (ha : Rd w A (bvs d)) :
    Calls Try.prog 20 #[.agg #[.bool false, .bool false, .int .i64 (an : Int), .int .i64 (pn : Int), .int .i64 (cn : Int), .slice A n c]] w fun e w' => BytesRes w w' (pktBody (pktFirst false false an) (pn * 16384 + cn) d, 0) e := by
  have hm := Lib.hid (fun w => h ▸ pmay_any ⟨false, false, an, pn, cn, d⟩ A n c w hn)
  have HF : Hid ((an : Int) = ((pktFirst false false an : Nat) : Int)) := pfirst_prog false false (c := an) (by omega)
  have HC := Lib.hid (second_num (a := pn) (c := cn) (by omega) (by omega))
  have HL := Lib.hid hn
  have lF := pktFirst_lt false false (a := an) (by omega)
  have lC : pn * 16384 + cn < 65536 := by omega
  obtain ⟨m, HM⟩ : ∃ m : Nat, Hid (n = m + 1) := ⟨n - 1, by show n = _; omega⟩
  have HM2 : Hid ((n : Int) - 1 = (m : Int)) := by have := HM.out; show _ = _; omega
  have lm : m < 65536 := by have := HM.out; omega
  generalize pktFirst false false an = F at *
  clear hn h
  go_enter Try.func20, Try.ntmps20
  go_wp2_with fail
  refine (hm.out _).mono ?_
  rintro e w1 ⟨rfl, hb⟩
  have hB : Below w.heap.size w w1 := ((Below.refl _ _).alloc (Nat.le_refl _) _).trans (hb.mono (by simp))
  have hK := (Blk.new w 34 #[.bool false, .bool false, .int .i64 (an : Int), .int .i64 (pn : Int), .int .i64 (cn : Int), .slice A n c]).below' hb
  have ha1 := ha.below hB
  obtain ⟨x0, x1, x2, x3, x4, x5, fx⟩ := hK.six
  have hKl := hK.lt
  clear hb
  go_upto_region 9 with fail
  have w1' : IntKind.i64.wrap ((pn : Int) * 16384) = (pn : Int) * 16384 := IntWalk.i64_in _ (by omega)
  have w2' : IntKind.i64.wrap ((n : Int) - 1) = (n : Int) - 1 := IntWalk.i64_in _ (by omega)
  go_region_held3 (fun w' => w'.cell? ⟨w.heap.size, 3, none⟩ = some (.int .i64 (pn : Int)) ∧ w'.cell? ⟨w.heap.size, 4, none⟩ = some (.int .i64 (cn : Int)) ∧ w'.cell? ⟨w.heap.size, 5, none⟩ = some (.slice A n c)) (go_keep) (first
    | (go_at_call 69; (with_reducible refine (two_any _ F _ HF.out (by omega)).mono ?_); rintro e wa ⟨Aa, ca, rfl, hOa, hBa⟩; have hKa := hK.drew.below' hBa; obtain ⟨y0, y1, y2, y3, y4, y5, fy⟩ := hKa.six; have zA := hBa.size)
    | (go_at_call 69; (with_reducible refine (two_any _ (pn * 16384 + cn) _ HC.out lC).mono ?_); rintro e wb ⟨Ab, cb, rfl, hOb, hBb⟩; have hKb := hKa.below' hBb; obtain ⟨z0, z1, z2, z3, z4, z5, fz⟩ := hKb.six; have zB := hBb.size)
    | (go_at_call 69; (with_reducible refine (two_any _ m _ HM2.out lm).mono ?_); rintro e wd ⟨Ac, cc, rfl, hOc, hBc⟩; have hKc := hKb.below' hBc; obtain ⟨v0, v1, v2, v3, v4, v5, fv⟩ := hKc.six; have zC := hBc.size)
    | (go_at_call 68; (with_reducible refine (concat_body F (pn * 16384 + cn) m n d wd Aa Ab Ac A ca cb cc c HL.out HM.out hl2 ((hOa.rd.below hBb).below hBc) (hOb.rd.below hBc) hOc.rd (((ha1.drew.below hBa).below hBb).below hBc)).mono ?_); rintro e we ⟨A', c', rfl, hO', hB'⟩; have hKe := hKc.below' hB'; obtain ⟨t0, t1, t2, t3, t4, t5, ft⟩ := hKe.six)
    )
  all_goals go_wp2_with fail
  all_goals (
    go_ret2
    have hN : n + 6 = (pktBody F (pn * 16384 + cn) d).length := by rw [pktBody_length, HL.out]
    have s1 := hB.size
    rw [hN] at hO' ⊢
    refine ⟨A', c', rfl, hO'.mono ?_, ?_⟩
    · simp only [World.drew] at zA; omega
    · exact ((((hB.drew).trans (hBa.mono s1)).trans (hBb.mono (by simp only [World.drew] at zA; omega))).trans (hBc.mono (by simp only [World.drew] at zA; omega))).trans (hB'.mono (by simp only [World.drew] at zA; omega)))
set_option maxHeartbeats 6400000 in
set_option maxRecDepth 100000 in
theorem pencode_tf (an pn cn : Nat) (d : List UInt8) (A : Option Addr) (n c : Nat) (w : World) (hn : d.length = n) (a1 : an ≤ 2047) (b1 : pn ≤ 3) (c1 : cn ≤ 16383) (hl1 : 1 ≤ n) (hl2 : n ≤ 65536) (h : pktMay ⟨true, false, an, pn, cn, d⟩ = 0) (ha : Rd w A (bvs d)) :
    Calls Try.prog 20 #[.agg #[.bool true, .bool false, .int .i64 (an : Int), .int .i64 (pn : Int), .int .i64 (cn : Int), .slice A n c]] w fun e w' => BytesRes w w' (pktBody (pktFirst true false an) (pn * 16384 + cn) d, 0) e := by
  have hm := Lib.hid (fun w => h ▸ pmay_any ⟨true, false, an, pn, cn, d⟩ A n c w hn)
  have HF : Hid (bits .or .i64 (an : Int) 4096 = ((pktFirst true false an : Nat) : Int)) := pfirst_prog true false (c := an) (by omega)
  have HC := Lib.hid (second_num (a := pn) (c := cn) (by omega) (by omega))
  have HL := Lib.hid hn
  have lF := pktFirst_lt true false (a := an) (by omega)
  have lC : pn * 16384 + cn < 65536 := by omega
  obtain ⟨m, HM⟩ : ∃ m : Nat, Hid (n = m + 1) := ⟨n - 1, by show n = _; omega⟩
  have HM2 : Hid ((n : Int) - 1 = (m : Int)) := by have := HM.out; show _ = _; omega
  have lm : m < 65536 := by have := HM.out; omega
  generalize pktFirst true false an = F at *
  clear hn h
  go_enter Try.func20, Try.ntmps20
  go_wp2_with fail
  refine (hm.out _).mono ?_
  rintro e w1 ⟨rfl, hb⟩
  have hB : Below w.heap.size w w1 := ((Below.refl _ _).alloc (Nat.le_refl _) _).trans (hb.mono (by simp))
  have hK := (Blk.new w 34 #[.bool true, .bool false, .int .i64 (an : Int), .int .i64 (pn : Int), .int .i64 (cn : Int), .slice A n c]).below' hb
  have ha1 := ha.below hB
  obtain ⟨x0, x1, x2, x3, x4, x5, fx⟩ := hK.six
  have hKl := hK.lt
  clear hb
  go_upto_region 9 with fail
  have w1' : IntKind.i64.wrap ((pn : Int) * 16384) = (pn : Int) * 16384 := IntWalk.i64_in _ (by omega)
  have w2' : IntKind.i64.wrap ((n : Int) - 1) = (n : Int) - 1 := IntWalk.i64_in _ (by omega)
  go_region_held3 (fun w' => w'.cell? ⟨w.heap.size, 3, none⟩ = some (.int .i64 (pn : Int)) ∧ w'.cell? ⟨w.heap.size, 4, none⟩ = some (.int .i64 (cn : Int)) ∧ w'.cell? ⟨w.heap.size, 5, none⟩ = some (.slice A n c)) (go_keep) (first
    | (go_at_call 69; (with_reducible refine (two_any _ F _ HF.out (by omega)).mono ?_); rintro e wa ⟨Aa, ca, rfl, hOa, hBa⟩; have hKa := hK.drew.below' hBa; obtain ⟨y0, y1, y2, y3, y4, y5, fy⟩ := hKa.six; have zA := hBa.size)
    | (go_at_call 69; (with_reducible refine (two_any _ (pn * 16384 + cn) _ HC.out lC).mono ?_); rintro e wb ⟨Ab, cb, rfl, hOb, hBb⟩; have hKb := hKa.below' hBb; obtain ⟨z0, z1, z2, z3, z4, z5, fz⟩ := hKb.six; have zB := hBb.size)
    | (go_at_call 69; (with_reducible refine (two_any _ m _ HM2.out lm).mono ?_); rintro e wd ⟨Ac, cc, rfl, hOc, hBc⟩; have hKc := hKb.below' hBc; obtain ⟨v0, v1, v2, v3, v4, v5, fv⟩ := hKc.six; have zC := hBc.size)
    | (go_at_call 68; (with_reducible refine (concat_body F (pn * 16384 + cn) m n d wd Aa Ab Ac A ca cb cc c HL.out HM.out hl2 ((hOa.rd.below hBb).below hBc) (hOb.rd.below hBc) hOc.rd (((ha1.drew.below hBa).below hBb).below hBc)).mono ?_); rintro e we ⟨A', c', rfl, hO', hB'⟩; have hKe := hKc.below' hB'; obtain ⟨t0, t1, t2, t3, t4, t5, ft⟩ := hKe.six)
    )
  all_goals go_wp2_with fail
  all_goals (
    go_ret2
    have hN : n + 6 = (pktBody F (pn * 16384 + cn) d).length := by rw [pktBody_length, HL.out]
    have s1 := hB.size
    rw [hN] at hO' ⊢
    refine ⟨A', c', rfl, hO'.mono ?_, ?_⟩
    · simp only [World.drew] at zA; omega
    · exact ((((hB.drew).trans (hBa.mono s1)).trans (hBb.mono (by simp only [World.drew] at zA; omega))).trans (hBc.mono (by simp only [World.drew] at zA; omega))).trans (hB'.mono (by simp only [World.drew] at zA; omega)))
set_option maxHeartbeats 6400000 in
set_option maxRecDepth 100000 in
theorem pencode_ft (an pn cn : Nat) (d : List UInt8) (A : Option Addr) (n c : Nat) (w : World) (hn : d.length = n) (a1 : an ≤ 2047) (b1 : pn ≤ 3) (c1 : cn ≤ 16383) (hl1 : 1 ≤ n) (hl2 : n ≤ 65536) (h : pktMay ⟨false, true, an, pn, cn, d⟩ = 0) (ha : Rd w A (bvs d)) :
    Calls Try.prog 20 #[.agg #[.bool false, .bool true, .int .i64 (an : Int), .int .i64 (pn : Int), .int .i64 (cn : Int), .slice A n c]] w fun e w' => BytesRes w w' (pktBody (pktFirst false true an) (pn * 16384 + cn) d, 0) e := by
  have hm := Lib.hid (fun w => h ▸ pmay_any ⟨false, true, an, pn, cn, d⟩ A n c w hn)
  have HF : Hid (bits .or .i64 (an : Int) 2048 = ((pktFirst false true an : Nat) : Int)) := pfirst_prog false true (c := an) (by omega)
  have HC := Lib.hid (second_num (a := pn) (c := cn) (by omega) (by omega))
  have HL := Lib.hid hn
  have lF := pktFirst_lt false true (a := an) (by omega)
  have lC : pn * 16384 + cn < 65536 := by omega
  obtain ⟨m, HM⟩ : ∃ m : Nat, Hid (n = m + 1) := ⟨n - 1, by show n = _; omega⟩
  have HM2 : Hid ((n : Int) - 1 = (m : Int)) := by have := HM.out; show _ = _; omega
  have lm : m < 65536 := by have := HM.out; omega
  generalize pktFirst false true an = F at *
  clear hn h
  go_enter Try.func20, Try.ntmps20
  go_wp2_with fail
  refine (hm.out _).mono ?_
  rintro e w1 ⟨rfl, hb⟩
  have hB : Below w.heap.size w w1 := ((Below.refl _ _).alloc (Nat.le_refl _) _).trans (hb.mono (by simp))
  have hK := (Blk.new w 34 #[.bool false, .bool true, .int .i64 (an : Int), .int .i64 (pn : Int), .int .i64 (cn : Int), .slice A n c]).below' hb
  have ha1 := ha.below hB
  obtain ⟨x0, x1, x2, x3, x4, x5, fx⟩ := hK.six
  have hKl := hK.lt
  clear hb
  go_upto_region 9 with fail
  have w1' : IntKind.i64.wrap ((pn : Int) * 16384) = (pn : Int) * 16384 := IntWalk.i64_in _ (by omega)
  have w2' : IntKind.i64.wrap ((n : Int) - 1) = (n : Int) - 1 := IntWalk.i64_in _ (by omega)
  go_region_held3 (fun w' => w'.cell? ⟨w.heap.size, 3, none⟩ = some (.int .i64 (pn : Int)) ∧ w'.cell? ⟨w.heap.size, 4, none⟩ = some (.int .i64 (cn : Int)) ∧ w'.cell? ⟨w.heap.size, 5, none⟩ = some (.slice A n c)) (go_keep) (first
    | (go_at_call 69; (with_reducible refine (two_any _ F _ HF.out (by omega)).mono ?_); rintro e wa ⟨Aa, ca, rfl, hOa, hBa⟩; have hKa := hK.drew.below' hBa; obtain ⟨y0, y1, y2, y3, y4, y5, fy⟩ := hKa.six; have zA := hBa.size)
    | (go_at_call 69; (with_reducible refine (two_any _ (pn * 16384 + cn) _ HC.out lC).mono ?_); rintro e wb ⟨Ab, cb, rfl, hOb, hBb⟩; have hKb := hKa.below' hBb; obtain ⟨z0, z1, z2, z3, z4, z5, fz⟩ := hKb.six; have zB := hBb.size)
    | (go_at_call 69; (with_reducible refine (two_any _ m _ HM2.out lm).mono ?_); rintro e wd ⟨Ac, cc, rfl, hOc, hBc⟩; have hKc := hKb.below' hBc; obtain ⟨v0, v1, v2, v3, v4, v5, fv⟩ := hKc.six; have zC := hBc.size)
    | (go_at_call 68; (with_reducible refine (concat_body F (pn * 16384 + cn) m n d wd Aa Ab Ac A ca cb cc c HL.out HM.out hl2 ((hOa.rd.below hBb).below hBc) (hOb.rd.below hBc) hOc.rd (((ha1.drew.below hBa).below hBb).below hBc)).mono ?_); rintro e we ⟨A', c', rfl, hO', hB'⟩; have hKe := hKc.below' hB'; obtain ⟨t0, t1, t2, t3, t4, t5, ft⟩ := hKe.six)
    )
  all_goals go_wp2_with fail
  all_goals (
    go_ret2
    have hN : n + 6 = (pktBody F (pn * 16384 + cn) d).length := by rw [pktBody_length, HL.out]
    have s1 := hB.size
    rw [hN] at hO' ⊢
    refine ⟨A', c', rfl, hO'.mono ?_, ?_⟩
    · simp only [World.drew] at zA; omega
    · exact ((((hB.drew).trans (hBa.mono s1)).trans (hBb.mono (by simp only [World.drew] at zA; omega))).trans (hBc.mono (by simp only [World.drew] at zA; omega))).trans (hB'.mono (by simp only [World.drew] at zA; omega)))
set_option maxHeartbeats 6400000 in
set_option maxRecDepth 100000 in
theorem pencode_tt (an pn cn : Nat) (d : List UInt8) (A : Option Addr) (n c : Nat) (w : World) (hn : d.length = n) (a1 : an ≤ 2047) (b1 : pn ≤ 3) (c1 : cn ≤ 16383) (hl1 : 1 ≤ n) (hl2 : n ≤ 65536) (h : pktMay ⟨true, true, an, pn, cn, d⟩ = 0) (ha : Rd w A (bvs d)) :
    Calls Try.prog 20 #[.agg #[.bool true, .bool true, .int .i64 (an : Int), .int .i64 (pn : Int), .int .i64 (cn : Int), .slice A n c]] w fun e w' => BytesRes w w' (pktBody (pktFirst true true an) (pn * 16384 + cn) d, 0) e := by
  have hm := Lib.hid (fun w => h ▸ pmay_any ⟨true, true, an, pn, cn, d⟩ A n c w hn)
  have HF : Hid (bits .or .i64 (bits .or .i64 (an : Int) 4096) 2048 = ((pktFirst true true an : Nat) : Int)) := pfirst_prog true true (c := an) (by omega)
  have HC := Lib.hid (second_num (a := pn) (c := cn) (by omega) (by omega))
  have HL := Lib.hid hn
  have lF := pktFirst_lt true true (a := an) (by omega)
  have lC : pn * 16384 + cn < 65536 := by omega
  obtain ⟨m, HM⟩ : ∃ m : Nat, Hid (n = m + 1) := ⟨n - 1, by show n = _; omega⟩
  have HM2 : Hid ((n : Int) - 1 = (m : Int)) := by have := HM.out; show _ = _; omega
  have lm : m < 65536 := by have := HM.out; omega
  generalize pktFirst true true an = F at *
  clear hn h
  go_enter Try.func20, Try.ntmps20
  go_wp2_with fail
  refine (hm.out _).mono ?_
  rintro e w1 ⟨rfl, hb⟩
  have hB : Below w.heap.size w w1 := ((Below.refl _ _).alloc (Nat.le_refl _) _).trans (hb.mono (by simp))
  have hK := (Blk.new w 34 #[.bool true, .bool true, .int .i64 (an : Int), .int .i64 (pn : Int), .int .i64 (cn : Int), .slice A n c]).below' hb
  have ha1 := ha.below hB
  obtain ⟨x0, x1, x2, x3, x4, x5, fx⟩ := hK.six
  have hKl := hK.lt
  clear hb
  go_upto_region 9 with fail
  have w1' : IntKind.i64.wrap ((pn : Int) * 16384) = (pn : Int) * 16384 := IntWalk.i64_in _ (by omega)
  have w2' : IntKind.i64.wrap ((n : Int) - 1) = (n : Int) - 1 := IntWalk.i64_in _ (by omega)
  go_region_held3 (fun w' => w'.cell? ⟨w.heap.size, 3, none⟩ = some (.int .i64 (pn : Int)) ∧ w'.cell? ⟨w.heap.size, 4, none⟩ = some (.int .i64 (cn : Int)) ∧ w'.cell? ⟨w.heap.size, 5, none⟩ = some (.slice A n c)) (go_keep) (first
    | (go_at_call 69; (with_reducible refine (two_any _ F _ HF.out (by omega)).mono ?_); rintro e wa ⟨Aa, ca, rfl, hOa, hBa⟩; have hKa := hK.drew.below' hBa; obtain ⟨y0, y1, y2, y3, y4, y5, fy⟩ := hKa.six; have zA := hBa.size)
    | (go_at_call 69; (with_reducible refine (two_any _ (pn * 16384 + cn) _ HC.out lC).mono ?_); rintro e wb ⟨Ab, cb, rfl, hOb, hBb⟩; have hKb := hKa.below' hBb; obtain ⟨z0, z1, z2, z3, z4, z5, fz⟩ := hKb.six; have zB := hBb.size)
    | (go_at_call 69; (with_reducible refine (two_any _ m _ HM2.out lm).mono ?_); rintro e wd ⟨Ac, cc, rfl, hOc, hBc⟩; have hKc := hKb.below' hBc; obtain ⟨v0, v1, v2, v3, v4, v5, fv⟩ := hKc.six; have zC := hBc.size)
    | (go_at_call 68; (with_reducible refine (concat_body F (pn * 16384 + cn) m n d wd Aa Ab Ac A ca cb cc c HL.out HM.out hl2 ((hOa.rd.below hBb).below hBc) (hOb.rd.below hBc) hOc.rd (((ha1.drew.below hBa).below hBb).below hBc)).mono ?_); rintro e we ⟨A', c', rfl, hO', hB'⟩; have hKe := hKc.below' hB'; obtain ⟨t0, t1, t2, t3, t4, t5, ft⟩ := hKe.six)
    )
  all_goals go_wp2_with fail
  all_goals (
    go_ret2
    have hN : n + 6 = (pktBody F (pn * 16384 + cn) d).length := by rw [pktBody_length, HL.out]
    have s1 := hB.size
    rw [hN] at hO' ⊢
    refine ⟨A', c', rfl, hO'.mono ?_, ?_⟩
    · simp only [World.drew] at zA; omega
    · exact ((((hB.drew).trans (hBa.mono s1)).trans (hBb.mono (by simp only [World.drew] at zA; omega))).trans (hBc.mono (by simp only [World.drew] at zA; omega))).trans (hB'.mono (by simp only [World.drew] at zA; omega)))

/-- The program's Encode, of any packet. -/
theorem pencode_any (p : Pkt) (A : Option Addr) (n c : Nat) (w : World) (hn : p.data.length = n) (ha : Rd w A (bvs p.data)) :
    Calls Try.prog 20 #[pvn p A n c] w fun e w' => BytesRes w w' (pktBytes p) e := by
  by_cases h : pktMay p = 0
  · have e : pktBytes p = (pktBody (pktFirst p.up p.second p.apid.toNat) (p.part.toNat * 16384 + p.count.toNat) p.data, 0) := by unfold pktBytes; rw [if_pos h]
    rw [e]
    obtain ⟨u, s, ap, pa, co, d⟩ := p
    obtain ⟨hR, hS⟩ : pktRange ⟨u, s, ap, pa, co, d⟩ ∧ pktSize ⟨u, s, ap, pa, co, d⟩ := by
      unfold pktMay at h
      split at h
      · split at h
        · exact ⟨by assumption, by assumption⟩
        · omega
      · omega
    obtain ⟨⟨a0, a1⟩, ⟨b0, b1⟩, ⟨c0, c1⟩⟩ := hR
    obtain ⟨l1, l2⟩ := hS
    simp only at a0 a1 b0 b1 c0 c1 l1 l2 ha hn
    obtain ⟨an, rfl⟩ := Int.eq_ofNat_of_zero_le a0
    obtain ⟨pn, rfl⟩ := Int.eq_ofNat_of_zero_le b0
    obtain ⟨cn, rfl⟩ := Int.eq_ofNat_of_zero_le c0
    simp only [Int.toNat_natCast]
    unfold pvn
    cases u <;> cases s
    · exact pencode_ff an pn cn d A n c w hn (by omega) (by omega) (by omega) (by omega) (by omega) h ha
    · exact pencode_ft an pn cn d A n c w hn (by omega) (by omega) (by omega) (by omega) (by omega) h ha
    · exact pencode_tf an pn cn d A n c w hn (by omega) (by omega) (by omega) (by omega) (by omega) h ha
    · exact pencode_tt an pn cn d A n c w hn (by omega) (by omega) (by omega) (by omega) (by omega) h ha
  · exact pencode_bad p A n c w hn h
end Go.Proofs.Ytolcaolmdfbfhaa
