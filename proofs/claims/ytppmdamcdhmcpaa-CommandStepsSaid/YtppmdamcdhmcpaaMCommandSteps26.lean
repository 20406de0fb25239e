/-
  command.Step's func: a tick of a hand.
-/
import Derived.Test.YtppmdamcdhmcpaaMCommandSteps24
import Derived.Test.YtppmdamcdhmcpaaMCommandSteps25
namespace Go.Proofs.Ytppmdamcdhmcpaa
set_option linter.unusedSimpArgs false
set_option linter.unusedVariables false
open Go.RowKit

theorem late_keeps (h : Hnd) (b : Bool) : (lateH h b).1.sent = h.sent ∧ (lateH h b).1.asked = h.asked := by
  unfold lateH
  split
  · exact ⟨rfl, rfl⟩
  · split
    · exact ⟨rfl, rfl⟩
    · split
      · exact ⟨rfl, rfl⟩
      · exact ⟨rfl, rfl⟩
theorem nilT {q : Nat} (h : Touch (none : Option Addr) [] q) : False := Disj.nil none [] q h h
theorem gatesz : (Try.prog.info? 56).map (·.size) = some 7 := by kernel_rfl
set_option maxHeartbeats 12800000 in
set_option maxRecDepth 100000 in
theorem step1_any (h : Hnd) (st : Int) (heard : Bool) (b1 b2 n1 n2 p ck dk base : Nat) (Sk Ak : Option Addr) (sl al : List RowR) (W : World) (hp : Blk W p 45 #[.int .i64 h.craft, .int .i64 h.next, .int .i64 h.ahead, .slice Sk n1 ck, .slice Ak n2 dk, .int .i64 h.timer, .int .i64 h.patience, .int .i64 h.tries, .int .i64 h.limit, .int .i64 h.since, .int .i64 h.pause, .int .i64 h.halt, .slice none 0 0]) (hb1 : Blk W b1 3 #[.int .i64 st]) (hb2 : Blk W b2 4 #[.bool heard]) (hbase : base ≤ p) (l1 : b1 < base) (l2 : b2 < base)
    (hsl : sl.map RowR.b = h.sent) (hal : al.map RowR.b = h.asked) (hOs : OwnRs W base Sk n1 ck sl) (hOa : OwnRs W base Ak n2 dk al) (hdj : Disj Sk sl Ak al) (hok : handOk h) (H : Hnd) (m1 m2 : Nat) (rows : List (List UInt8)) (nR : Nat) (err : Int) (hR : stepS h st heard = (H, rows, err)) (hm1 : H.sent.length = m1) (hm2 : H.asked.length = m2) (hnR : rows.length = nR) :
    Calls Try.prog 33 #[.pointer (some ⟨p, 0, none⟩), .pointer (some ⟨b1, 0, none⟩), .pointer (some ⟨b2, 0, none⟩)] W fun e w' => DoOut W w' base p Sk sl Ak al H m1 m2 rows nR err e := by
  have t := tick_of hok
  have N1 : h.sent.length = n1 := by rw [← hsl, List.length_map]; exact hOs.len
  have N2 : h.asked.length = n2 := by rw [← hal, List.length_map]; exact hOa.len
  have N1 := Lib.hid N1
  have N2 := Lib.hid N2
  have M1 := Lib.hid hm1
  have M2 := Lib.hid hm2
  have NR := Lib.hid hnR
  have MS := Lib.hid hsl
  have MA := Lib.hid hal
  have HR := Lib.hid hR
  have DD := Lib.hid hdj
  have k11 := hp.cell' (i := 11) rfl
  by_cases hh : h.halt = 0
  · have HR1 : Hid ((if heard = true ∧ (readOf st).2 = 0 then
    (if (hearH (sinceH h) (readOf st).1).2 = true then goH (hearH (sinceH h) (readOf st).1).1 (wishH (hearH (sinceH h) (readOf st).1).1 (readOf st).1) (readOf st).1.wait else ((hearH (sinceH h) (readOf st).1).1, [], 0))
  else goH (sinceH h) false false) = (H, rows, err)) := Lib.hid (by unfold stepS at hR; rw [if_neg (by simpa using hh)] at hR; exact hR)
    have t0 := tick_since t
    have e0 : (h.halt == 0) = true := by rw [beq_iff_eq]; exact hh
    have e0' : (h.halt != 0) = false := by rw [bne_eq_false_iff_eq]; exact hh
    clear HR hR hh hsl hal hdj hm1 hm2 hnR
    have hpl := hp.lt
    have hlts := Lib.hid (fun (q : Nat) (hq : Touch Sk sl q) => hOs.lt hq)
    have hlta := Lib.hid (fun (q : Nat) (hq : Touch Ak al q) => hOa.lt hq)
    have hns : ¬ Touch Sk sl p := fun ht => by
      rcases ht with e | ⟨i, r, hr, e⟩
      · exact hOs.arr.notBlk hp (by decide) e
      · exact (hOs.bs.1 i r hr).notBlk hp (by decide) e
    have hna : ¬ Touch Ak al p := fun ht => by
      rcases ht with e | ⟨i, r, hr, e⟩
      · exact hOa.arr.notBlk hp (by decide) e
      · exact (hOa.bs.1 i r hr).notBlk hp (by decide) e
    go_enter Try.func33, Try.ntmps33
    go_upto_region 3 with fail
    clear k11 e0 e0'
    have k9 := hp.cell' (i := 9) rfl
    have k10 := hp.cell' (i := 10) rfl
    obtain ⟨_, _, _, _, _, _, _, _, _, _, _, hsc, hsp⟩ := t
    have w9 : IntKind.i64.wrap (h.since + 1) = h.since + 1 := IntWalk.i64_in _ (by omega)
    have hmin : (if h.pause < h.since + 1 then h.pause else h.since + 1) = (sinceH h).since := by show _ = (if h.since < h.pause then h.since + 1 else h.since); split <;> split <;> omega
    refine heldRegion (fun v => v.cell? ⟨p, 9, none⟩ = some (.int .i64 h.since) ∧ v.cell? ⟨p, 10, none⟩ = some (.int .i64 h.pause)) 16 (by kernel_rfl) (by kernel_rfl) ⟨k9, k10⟩ (fun hSS => ?_)
    refine walk_take 0 (v := ?v10) rfl (by kernel_rfl) (by kernel_rfl) (by kernel_rfl) (fun _ _ _ h => h) (hSS) (Or.inl ⟨by rfl, ?y10⟩) ?r10
    case y10 => intro w hSw; obtain ⟨hw1, hw2⟩ := hSw; (try dsimp only at hSw); go_simp; try rfl
    case' r10 => try simp only [List.getElem_toArray, List.getElem_cons_succ, List.getElem_cons_zero, Act.put, List.setIfInBounds_toArray, List.set_cons_zero, List.set_cons_succ]
    refine walk_take 1 (v := ?v11) rfl (by kernel_rfl) (by kernel_rfl) (by kernel_rfl) (fun _ _ _ h => h) (hSS) (Or.inl ⟨by rfl, ?y11⟩) ?r11
    case y11 => intro w hSw; obtain ⟨hw1, hw2⟩ := hSw; (try dsimp only at hSw); go_simp; try rfl
    case' r11 => try simp only [List.getElem_toArray, List.getElem_cons_succ, List.getElem_cons_zero, Act.put, List.setIfInBounds_toArray, List.set_cons_zero, List.set_cons_succ]
    refine walk_take 2 (v := ?v12) rfl (by kernel_rfl) (by kernel_rfl) (by kernel_rfl) (fun _ _ _ h => h) (hSS) (Or.inl ⟨by rfl, ?y12⟩) ?r12
    case y12 => intro w hSw; obtain ⟨hw1, hw2⟩ := hSw; (try dsimp only at hSw); go_simp; try rfl
    case' r12 => try simp only [List.getElem_toArray, List.getElem_cons_succ, List.getElem_cons_zero, Act.put, List.setIfInBounds_toArray, List.set_cons_zero, List.set_cons_succ]
    refine walk_take 3 (v := ?v13) rfl (by kernel_rfl) (by kernel_rfl) (by kernel_rfl) (fun _ _ _ h => h) (hSS) (Or.inl ⟨by rfl, ?y13⟩) ?r13
    case y13 => intro w hSw; obtain ⟨hw1, hw2⟩ := hSw; (try dsimp only at hSw); go_simp; try rfl
    case' r13 => try simp only [List.getElem_toArray, List.getElem_cons_succ, List.getElem_cons_zero, Act.put, List.setIfInBounds_toArray, List.set_cons_zero, List.set_cons_succ]
    refine walk_take 4 (v := ?v14) rfl (by kernel_rfl) (by kernel_rfl) (by kernel_rfl) (fun _ _ _ h => h) (hSS) (Or.inl ⟨by rfl, ?y14⟩) ?r14
    case y14 => intro w hSw; obtain ⟨hw1, hw2⟩ := hSw; (try dsimp only at hSw); go_simp; try rfl
    case' r14 => try simp only [List.getElem_toArray, List.getElem_cons_succ, List.getElem_cons_zero, Act.put, List.setIfInBounds_toArray, List.set_cons_zero, List.set_cons_succ]
    refine walk_take 5 (v := ?v15) rfl (by kernel_rfl) (by kernel_rfl) (by kernel_rfl) (fun _ _ _ h => h) (hSS) (Or.inl ⟨by rfl, ?y15⟩) ?r15
    case y15 => intro w hSw; obtain ⟨hw1, hw2⟩ := hSw; (try dsimp only at hSw); go_simp; try rfl
    case' r15 => try simp only [List.getElem_toArray, List.getElem_cons_succ, List.getElem_cons_zero, Act.put, List.setIfInBounds_toArray, List.set_cons_zero, List.set_cons_succ]
    refine walk_take 6 (v := ?v16) rfl (by kernel_rfl) (by kernel_rfl) (by kernel_rfl) (fun _ _ _ h => h) (hSS) (Or.inl ⟨by rfl, ?y16⟩) ?r16
    case y16 => intro w hSw; obtain ⟨hw1, hw2⟩ := hSw; (try dsimp only at hSw); go_simp; try rfl
    case' r16 => try simp only [List.getElem_toArray, List.getElem_cons_succ, List.getElem_cons_zero, Act.put, List.setIfInBounds_toArray, List.set_cons_zero, List.set_cons_succ]
    refine walk_take 7 (v := ?v17) rfl (by kernel_rfl) (by kernel_rfl) (by kernel_rfl) (fun _ _ _ h => h) (hSS) (Or.inl ⟨by rfl, ?y17⟩) ?r17
    case y17 => intro w hSw; obtain ⟨hw1, hw2⟩ := hSw; (try dsimp only at hSw); go_simp; try rfl
    case' r17 => try simp only [List.getElem_toArray, List.getElem_cons_succ, List.getElem_cons_zero, Act.put, List.setIfInBounds_toArray, List.set_cons_zero, List.set_cons_succ]
    refine walk_take 8 (v := ?v18) rfl (by kernel_rfl) (by kernel_rfl) (by kernel_rfl) (fun _ _ _ h => h) (hSS) (Or.inl ⟨by rfl, ?y18⟩) ?r18
    case y18 => intro w hSw; obtain ⟨hw1, hw2⟩ := hSw; (try dsimp only at hSw); go_simp; try rfl
    case' r18 => try simp only [List.getElem_toArray, List.getElem_cons_succ, List.getElem_cons_zero, Act.put, List.setIfInBounds_toArray, List.set_cons_zero, List.set_cons_succ]
    refine walk_take 9 (v := ?v19) rfl (by kernel_rfl) (by kernel_rfl) (by kernel_rfl) (fun _ _ _ h => h) (hSS) (Or.inl ⟨by rfl, ?y19⟩) ?r19
    case y19 => intro w hSw; obtain ⟨hw1, hw2⟩ := hSw; (try dsimp only at hSw); go_simp; try rfl
    case' r19 => try simp only [List.getElem_toArray, List.getElem_cons_succ, List.getElem_cons_zero, Act.put, List.setIfInBounds_toArray, List.set_cons_zero, List.set_cons_succ]
    refine walk_take 10 (v := ?v110) rfl (by kernel_rfl) (by kernel_rfl) (by kernel_rfl) (fun _ _ _ h => h) (hSS) (Or.inl ⟨by rfl, ?y110⟩) ?r110
    case y110 => intro w hSw; obtain ⟨hw1, hw2⟩ := hSw; (try dsimp only at hSw); go_simp; try rfl
    case' r110 => try simp only [List.getElem_toArray, List.getElem_cons_succ, List.getElem_cons_zero, Act.put, List.setIfInBounds_toArray, List.set_cons_zero, List.set_cons_succ]
    refine walk_take 11 (v := ?v111) rfl (by kernel_rfl) (by kernel_rfl) (by kernel_rfl) (fun _ _ _ h => h) (hSS) (Or.inl ⟨by rfl, ?y111⟩) ?r111
    case y111 => intro w hSw; obtain ⟨hw1, hw2⟩ := hSw; (try dsimp only at hSw); go_simp; try rfl
    case' r111 => try simp only [List.getElem_toArray, List.getElem_cons_succ, List.getElem_cons_zero, Act.put, List.setIfInBounds_toArray, List.set_cons_zero, List.set_cons_succ]
    refine walk_take 12 (v := ?v112) rfl (by kernel_rfl) (by kernel_rfl) (by kernel_rfl) (fun _ _ _ h => h) (hSS) (Or.inl ⟨by rfl, ?y112⟩) ?r112
    case y112 => intro w hSw; obtain ⟨hw1, hw2⟩ := hSw; (try dsimp only at hSw); go_simp; try rfl
    case' r112 => try simp only [List.getElem_toArray, List.getElem_cons_succ, List.getElem_cons_zero, Act.put, List.setIfInBounds_toArray, List.set_cons_zero, List.set_cons_succ]
    refine walk_take 13 (v := ?v113) rfl (by kernel_rfl) (by kernel_rfl) (by kernel_rfl) (fun _ _ _ h => h) (hSS) (Or.inl ⟨by rfl, ?y113⟩) ?r113
    case y113 => intro w hSw; obtain ⟨hw1, hw2⟩ := hSw; (try dsimp only at hSw); go_simp; try rfl
    case' r113 => try simp only [List.getElem_toArray, List.getElem_cons_succ, List.getElem_cons_zero, Act.put, List.setIfInBounds_toArray, List.set_cons_zero, List.set_cons_succ]
    refine walk_take 14 (v := ?v114) rfl (by kernel_rfl) (by kernel_rfl) (by kernel_rfl) (fun _ _ _ h => h) (hSS) (Or.inl ⟨by rfl, ?y114⟩) ?r114
    case y114 => intro w hSw; obtain ⟨hw1, hw2⟩ := hSw; (try dsimp only at hSw); go_simp; try rfl
    case' r114 => try simp only [List.getElem_toArray, List.getElem_cons_succ, List.getElem_cons_zero, Act.put, List.setIfInBounds_toArray, List.set_cons_zero, List.set_cons_succ]
    refine walk_take 15 (v := ?v115) rfl (by kernel_rfl) (by kernel_rfl) (by kernel_rfl) (fun _ _ _ h => h) (hSS) (Or.inl ⟨by rfl, ?y115⟩) ?r115
    case y115 => intro w hSw; obtain ⟨hw1, hw2⟩ := hSw; (try dsimp only at hSw); go_simp; try rfl
    case' r115 => try simp only [List.getElem_toArray, List.getElem_cons_succ, List.getElem_cons_zero, Act.put, List.setIfInBounds_toArray, List.set_cons_zero, List.set_cons_succ]
    refine walk_tail (by kernel_rfl) ?_
    simp only [List.drop_succ_cons, List.drop_zero]
    clear hSS w9 k10
    have kf := hp.frozen
    have p1 : Blk (W.setCell ⟨p, 9, none⟩ (.int .i64 (sinceH h).since)).drew p 45 #[.int .i64 (sinceH h).craft, .int .i64 (sinceH h).next, .int .i64 (sinceH h).ahead, .slice Sk n1 ck, .slice Ak n2 dk, .int .i64 (sinceH h).timer, .int .i64 (sinceH h).patience, .int .i64 (sinceH h).tries, .int .i64 (sinceH h).limit, .int .i64 (sinceH h).since, .int .i64 (sinceH h).pause, .int .i64 (sinceH h).halt, .slice none 0 0] := (hp.set_ 9 _).drew
    have hOs1 := (hOs.far (p := ⟨p, 9, none⟩) hns (.int .i64 (sinceH h).since)).drew
    have hOa1 := (hOa.far (p := ⟨p, 9, none⟩) hna (.int .i64 (sinceH h).since)).drew
    have hb11 := (hb1.far (p := ⟨p, 9, none⟩) (by show b1 ≠ p; omega) (.int .i64 (sinceH h).since)).drew
    have hb21 := (hb2.far (p := ⟨p, 9, none⟩) (by show b2 ≠ p; omega) (.int .i64 (sinceH h).since)).drew
    have T1 : Turned W (W.setCell ⟨p, 9, none⟩ (.int .i64 (sinceH h).since)).drew (fun q => q = p ∨ Touch Sk sl q ∨ Touch Ak al q) := ((Turned.refl W _).set (p := ⟨p, 9, none⟩) (fun _ => .inl rfl) _).drewN 1
    go_upto_region 4 with fail
    clear k9 kf hp hOs hOa hb1 hb2 hmin
    generalize (W.setCell ⟨p, 9, none⟩ (.int .i64 (sinceH h).since)).drew = W1 at *
    have hb1c := hb11.cell' (i := 0) rfl
    have hCR := Lib.hid (read_any st W1)
    obtain ⟨G, hG⟩ : ∃ G, (readOf st).1 = G := ⟨_, rfl⟩
    obtain ⟨E, hE⟩ : ∃ E, (readOf st).2 = E := ⟨_, rfl⟩
    have hnx : 0 ≤ G.next ∧ G.next ≤ 255 := by
      rw [← hG]; unfold readOf
      split
      · split
        · exact ⟨by show (0 : Int) ≤ ((st.toNat % 256 : Nat) : Int); omega, by show ((st.toNat % 256 : Nat) : Int) ≤ 255; omega⟩
        · exact ⟨by decide, by decide⟩
      · exact ⟨by decide, by decide⟩
    rw [hG, hE] at HR1 hCR
    unfold gtv at hCR
    clear hG hE
    obtain ⟨h1, hh1⟩ : ∃ x, sinceH h = x := ⟨_, rfl⟩
    have eS : h1.sent = h.sent := by rw [← hh1]; rfl
    have eA : h1.asked = h.asked := by rw [← hh1]; rfl
    have p1 : Blk W1 p 45 #[.int .i64 h1.craft, .int .i64 h1.next, .int .i64 h1.ahead, .slice Sk n1 ck, .slice Ak n2 dk, .int .i64 h1.timer, .int .i64 h1.patience, .int .i64 h1.tries, .int .i64 h1.limit, .int .i64 h1.since, .int .i64 h1.pause, .int .i64 h1.halt, .slice none 0 0] := by rw [← hh1]; exact p1
    rw [hh1] at HR1 t0
    have MS := Lib.hid (eS ▸ MS.out)
    have MA := Lib.hid (eA ▸ MA.out)
    clear hh1 eS eA
    go_wp2_with fail
    refine hCR.out.mono ?_
    rintro e w2 ⟨rfl, hb⟩
    clear hCR hb1c
    have zz := hb.size
    have hbb : Below W1.heap.size W1 (w2.alloc (.cells #[.int .i64 G.craft, .int .i64 G.next, .int .i64 G.half, .bool G.shut, .bool G.wait, .bool G.again, .int .i64 G.count] 56)) := hb.alloc zz _
    have p2 := p1.step hbb
    have hOs2 := hOs1.step hbb
    have hOa2 := hOa1.step hbb
    have hb22 := hb21.step hbb
    have T2 := T1.step hbb
    have g5 := Blk.new w2 56 #[.int .i64 G.craft, .int .i64 G.next, .int .i64 G.half, .bool G.shut, .bool G.wait, .bool G.again, .int .i64 G.count]
    have hp2 : p < w2.heap.size := by have := p1.lt; omega
    obtain ⟨q5, hq5⟩ : ∃ q, q = w2.heap.size := ⟨_, rfl⟩
    go_upto_region 5 with fail
    have hq5W : W.heap.size ≤ q5 := by have := T1.size; omega
    rw [← hq5] at g5 hp2 ⊢
    clear hq5 p1 hOs1 hOa1 hb11 hb21 T1 hb hbb zz
    generalize w2.alloc (.cells #[.int .i64 G.craft, .int .i64 G.next, .int .i64 G.half, .bool G.shut, .bool G.wait, .bool G.again, .int .i64 G.count] 56) = W2 at *
    have hc2 := hb22.cell' (i := 0) rfl
    have nqs : ∀ k, Touch Sk sl k → True := fun _ _ => trivial
    by_cases hbr : heard = true ∧ E = 0
    · have HR2 := Lib.hid (show _ = (H, rows, err) from (if_pos hbr).symm.trans HR1.out)
      obtain ⟨rfl, rfl⟩ := hbr
      clear HR1
      have HE := Lib.hid (hear_any h1 G Sk Ak none n1 ck n2 dk 0 0 p base sl W2 p2 MS.out hOs2 t0 hnx)
      unfold gtv at HE
      go_wp2_with (refine wpList_load_row rfl 56 (.tmp 5) rfl q5 rfl 56 #[.int .i64 G.craft, .int .i64 G.next, .int .i64 G.half, .bool G.shut, .bool G.wait, .bool G.again, .int .i64 G.count] (0, 0) _ g5 Try.underlying56 rfl gatesz ?_)
      refine HE.out.mono ?_
      rintro e w3 ⟨rfl, S3, k3n, c3, sl3, hsl3, hl3, p3, hOs3, hT3, T3⟩
      clear HE hc2
      have g3 := g5.turned T3 (by omega)
      have hOa3 := hOa2.turned T3 (fun q hq e => hna (e ▸ hq))
      have T23 := T2.trans T3 (fun i _ e => .inl e)
      have dj3 : Disj S3 sl3 Ak al := fun q h1 h2 => DD.out q (hT3 q h1) h2
      clear p2 hOs2 hOa2 hb22 T2 g5 T3
      obtain ⟨r, hr⟩ : ∃ r, hearH h1 G = r := ⟨_, rfl⟩
      have tr := tick_hear t0 G
      have era : r.1.asked = h1.asked := by rw [← hr]; unfold hearH; split; rfl; split <;> rfl
      rw [hr] at HR2 hsl3 p3 tr ⊢
      obtain ⟨h2, on⟩ := r
      dsimp only at HR2 hsl3 p3 tr era ⊢
      clear hr
      have MA2 := Lib.hid (era ▸ MA.out)
      have MS2 := Lib.hid hsl3
      clear era hsl3
      cases on
      · have HR3 := Lib.hid (show _ = (H, rows, err) from (if_neg (by decide)).symm.trans HR2.out)
        clear HR2
        obtain ⟨rfl, rfl, rfl⟩ : h2 = H ∧ [] = rows ∧ err = 0 := by have := HR3.out; simp only [Prod.mk.injEq] at this; exact ⟨this.1, this.2.1, this.2.2.symm⟩
        obtain rfl : k3n = m1 := by rw [← hl3, ← M1.out, ← MS2.out, List.length_map]
        obtain rfl : n2 = m2 := by rw [← M2.out, ← MA2.out, List.length_map]; exact hOa3.len.symm
        obtain rfl : nR = 0 := by rw [← NR.out]; rfl
        go_wp2_with fail
        refine bodyPost_ret (v := .int .i64 0) (by simp [results, Try.results33, go_sem]) rfl ?_
        exact ⟨S3, c3, Ak, dk, none, 0, sl3, al, [], rfl, ⟨MS2.out, MA2.out, rfl⟩, p3, hOs3, hOa3, OwnRs.nil _ _, dj3, Disj.nil _ _, Disj.nil _ _, T23⟩
      · have HR3 := Lib.hid (show _ = (H, rows, err) from (if_pos rfl).symm.trans HR2.out)
        clear HR2
        have t2 := tr
        clear tr
        obtain ⟨gc, gn, gh, gs, gw, ga, gq⟩ := G
        dsimp only at HR3 g3
        unfold wishH at HR3
        dsimp only at HR3
        have pat := True.intro
        cases ga
        · have HR4 := Lib.hid (show goH h2 false gw = (H, rows, err) from HR3.out)
          clear HR3
          cases gw
          · skip
            go_upto_region 9 with fail
            have y4 := g3.cell' (i := 4) rfl
            have y5 := g3.cell' (i := 5) rfl
            have y9 := p3.cell' (i := 9) rfl
            have y10 := p3.cell' (i := 10) rfl
            refine heldRegion (fun v => v.cell? ⟨q5, 4, none⟩ = some (.bool false) ∧ v.cell? ⟨q5, 5, none⟩ = some (.bool false) ∧ v.cell? ⟨p, 9, none⟩ = some (.int .i64 h2.since) ∧ v.cell? ⟨p, 10, none⟩ = some (.int .i64 h2.pause)) 21 (by kernel_rfl) (by kernel_rfl) ⟨y4, y5, y9, y10⟩ (fun hSS => ?_)
            refine walk_take 0 (v := ?va0) rfl (by kernel_rfl) (by kernel_rfl) (by kernel_rfl) (fun _ _ _ h => h) (hSS) (Or.inl ⟨by rfl, ?ya0⟩) ?ra0
            case ya0 => intro w hSw; obtain ⟨hw1, hw2, hw3, hw4⟩ := hSw; (try dsimp only at hSw); go_simp; try rfl
            case' ra0 => try simp only [List.getElem_toArray, List.getElem_cons_succ, List.getElem_cons_zero, Act.put, List.setIfInBounds_toArray, List.set_cons_zero, List.set_cons_succ]
            refine walk_take 1 (v := ?va1) rfl (by kernel_rfl) (by kernel_rfl) (by kernel_rfl) (fun _ _ _ h => h) (hSS) (Or.inl ⟨by rfl, ?ya1⟩) ?ra1
            case ya1 => intro w hSw; obtain ⟨hw1, hw2, hw3, hw4⟩ := hSw; (try dsimp only at hSw); go_simp; try rfl
            case' ra1 => try simp only [List.getElem_toArray, List.getElem_cons_succ, List.getElem_cons_zero, Act.put, List.setIfInBounds_toArray, List.set_cons_zero, List.set_cons_succ]
            refine walk_take 2 (v := ?va2) rfl (by kernel_rfl) (by kernel_rfl) (by kernel_rfl) (fun _ _ _ h => h) (hSS) (Or.inl ⟨by rfl, ?ya2⟩) ?ra2
            case ya2 => intro w hSw; obtain ⟨hw1, hw2, hw3, hw4⟩ := hSw; (try dsimp only at hSw); go_simp; try rfl
            case' ra2 => try simp only [List.getElem_toArray, List.getElem_cons_succ, List.getElem_cons_zero, Act.put, List.setIfInBounds_toArray, List.set_cons_zero, List.set_cons_succ]
            refine walk_take 3 (v := ?va3) rfl (by kernel_rfl) (by kernel_rfl) (by kernel_rfl) (fun _ _ _ h => h) (hSS) (Or.inl ⟨by rfl, ?ya3⟩) ?ra3
            case ya3 => intro w hSw; obtain ⟨hw1, hw2, hw3, hw4⟩ := hSw; (try dsimp only at hSw); go_simp; try rfl
            case' ra3 => try simp only [List.getElem_toArray, List.getElem_cons_succ, List.getElem_cons_zero, Act.put, List.setIfInBounds_toArray, List.set_cons_zero, List.set_cons_succ]
            refine walk_take 4 (v := undef) rfl (by kernel_rfl) (by kernel_rfl) (by kernel_rfl) (fun _ _ _ h => h) (hSS) (Or.inr ⟨by rfl, rfl⟩) ?ra4
            case' ra4 => try simp only [List.getElem_toArray, List.getElem_cons_succ, List.getElem_cons_zero, Act.put, List.setIfInBounds_toArray, List.set_cons_zero, List.set_cons_succ]
            refine walk_take 5 (v := undef) rfl (by kernel_rfl) (by kernel_rfl) (by kernel_rfl) (fun _ _ _ h => h) (hSS) (Or.inr ⟨by rfl, rfl⟩) ?ra5
            case' ra5 => try simp only [List.getElem_toArray, List.getElem_cons_succ, List.getElem_cons_zero, Act.put, List.setIfInBounds_toArray, List.set_cons_zero, List.set_cons_succ]
            refine walk_take 6 (v := undef) rfl (by kernel_rfl) (by kernel_rfl) (by kernel_rfl) (fun _ _ _ h => h) (hSS) (Or.inr ⟨by rfl, rfl⟩) ?ra6
            case' ra6 => try simp only [List.getElem_toArray, List.getElem_cons_succ, List.getElem_cons_zero, Act.put, List.setIfInBounds_toArray, List.set_cons_zero, List.set_cons_succ]
            refine walk_take 7 (v := ?va7) rfl (by kernel_rfl) (by kernel_rfl) (by kernel_rfl) (fun _ _ _ h => h) (hSS) (Or.inl ⟨by rfl, ?ya7⟩) ?ra7
            case ya7 => intro w hSw; obtain ⟨hw1, hw2, hw3, hw4⟩ := hSw; (try dsimp only at hSw); go_simp; try rfl
            case' ra7 => try simp only [List.getElem_toArray, List.getElem_cons_succ, List.getElem_cons_zero, Act.put, List.setIfInBounds_toArray, List.set_cons_zero, List.set_cons_succ]
            refine walk_take 8 (v := ?va8) rfl (by kernel_rfl) (by kernel_rfl) (by kernel_rfl) (fun _ _ _ h => h) (hSS) (Or.inl ⟨by rfl, ?ya8⟩) ?ra8
            case ya8 => intro w hSw; obtain ⟨hw1, hw2, hw3, hw4⟩ := hSw; (try dsimp only at hSw); go_simp; try rfl
            case' ra8 => try simp only [List.getElem_toArray, List.getElem_cons_succ, List.getElem_cons_zero, Act.put, List.setIfInBounds_toArray, List.set_cons_zero, List.set_cons_succ]
            refine walk_take 9 (v := undef) rfl (by kernel_rfl) (by kernel_rfl) (by kernel_rfl) (fun _ _ _ h => h) (hSS) (Or.inr ⟨by rfl, rfl⟩) ?ra9
            case' ra9 => try simp only [List.getElem_toArray, List.getElem_cons_succ, List.getElem_cons_zero, Act.put, List.setIfInBounds_toArray, List.set_cons_zero, List.set_cons_succ]
            refine walk_take 10 (v := undef) rfl (by kernel_rfl) (by kernel_rfl) (by kernel_rfl) (fun _ _ _ h => h) (hSS) (Or.inr ⟨by rfl, rfl⟩) ?ra10
            case' ra10 => try simp only [List.getElem_toArray, List.getElem_cons_succ, List.getElem_cons_zero, Act.put, List.setIfInBounds_toArray, List.set_cons_zero, List.set_cons_succ]
            refine walk_take 11 (v := undef) rfl (by kernel_rfl) (by kernel_rfl) (by kernel_rfl) (fun _ _ _ h => h) (hSS) (Or.inr ⟨by rfl, rfl⟩) ?ra11
            case' ra11 => try simp only [List.getElem_toArray, List.getElem_cons_succ, List.getElem_cons_zero, Act.put, List.setIfInBounds_toArray, List.set_cons_zero, List.set_cons_succ]
            refine walk_take 12 (v := undef) rfl (by kernel_rfl) (by kernel_rfl) (by kernel_rfl) (fun _ _ _ h => h) (hSS) (Or.inr ⟨by rfl, rfl⟩) ?ra12
            case' ra12 => try simp only [List.getElem_toArray, List.getElem_cons_succ, List.getElem_cons_zero, Act.put, List.setIfInBounds_toArray, List.set_cons_zero, List.set_cons_succ]
            refine walk_take 13 (v := undef) rfl (by kernel_rfl) (by kernel_rfl) (by kernel_rfl) (fun _ _ _ h => h) (hSS) (Or.inr ⟨by rfl, rfl⟩) ?ra13
            case' ra13 => try simp only [List.getElem_toArray, List.getElem_cons_succ, List.getElem_cons_zero, Act.put, List.setIfInBounds_toArray, List.set_cons_zero, List.set_cons_succ]
            refine walk_take 14 (v := undef) rfl (by kernel_rfl) (by kernel_rfl) (by kernel_rfl) (fun _ _ _ h => h) (hSS) (Or.inr ⟨by rfl, rfl⟩) ?ra14
            case' ra14 => try simp only [List.getElem_toArray, List.getElem_cons_succ, List.getElem_cons_zero, Act.put, List.setIfInBounds_toArray, List.set_cons_zero, List.set_cons_succ]
            refine walk_take 15 (v := undef) rfl (by kernel_rfl) (by kernel_rfl) (by kernel_rfl) (fun _ _ _ h => h) (hSS) (Or.inr ⟨by rfl, rfl⟩) ?ra15
            case' ra15 => try simp only [List.getElem_toArray, List.getElem_cons_succ, List.getElem_cons_zero, Act.put, List.setIfInBounds_toArray, List.set_cons_zero, List.set_cons_succ]
            refine walk_take 16 (v := undef) rfl (by kernel_rfl) (by kernel_rfl) (by kernel_rfl) (fun _ _ _ h => h) (hSS) (Or.inr ⟨by rfl, rfl⟩) ?ra16
            case' ra16 => try simp only [List.getElem_toArray, List.getElem_cons_succ, List.getElem_cons_zero, Act.put, List.setIfInBounds_toArray, List.set_cons_zero, List.set_cons_succ]
            refine walk_take 17 (v := undef) rfl (by kernel_rfl) (by kernel_rfl) (by kernel_rfl) (fun _ _ _ h => h) (hSS) (Or.inr ⟨by rfl, rfl⟩) ?ra17
            case' ra17 => try simp only [List.getElem_toArray, List.getElem_cons_succ, List.getElem_cons_zero, Act.put, List.setIfInBounds_toArray, List.set_cons_zero, List.set_cons_succ]
            refine walk_take 18 (v := undef) rfl (by kernel_rfl) (by kernel_rfl) (by kernel_rfl) (fun _ _ _ h => h) (hSS) (Or.inr ⟨by rfl, rfl⟩) ?ra18
            case' ra18 => try simp only [List.getElem_toArray, List.getElem_cons_succ, List.getElem_cons_zero, Act.put, List.setIfInBounds_toArray, List.set_cons_zero, List.set_cons_succ]
            refine walk_take 19 (v := undef) rfl (by kernel_rfl) (by kernel_rfl) (by kernel_rfl) (fun _ _ _ h => h) (hSS) (Or.inr ⟨by rfl, rfl⟩) ?ra19
            case' ra19 => try simp only [List.getElem_toArray, List.getElem_cons_succ, List.getElem_cons_zero, Act.put, List.setIfInBounds_toArray, List.set_cons_zero, List.set_cons_succ]
            refine walk_take 20 (v := ?va20) rfl (by kernel_rfl) (by kernel_rfl) (by kernel_rfl) (fun _ _ _ h => h) (hSS) (Or.inl ⟨by rfl, ?ya20⟩) ?ra20
            case ya20 => intro w hSw; obtain ⟨hw1, hw2, hw3, hw4⟩ := hSw; (try dsimp only at hSw); go_simp; try rfl
            case' ra20 => try simp only [List.getElem_toArray, List.getElem_cons_succ, List.getElem_cons_zero, Act.put, List.setIfInBounds_toArray, List.set_cons_zero, List.set_cons_succ]
            clear hSS y4 y5 y9 y10
            refine walk_tail (by kernel_rfl) ?_
            simp only [List.drop_succ_cons, List.drop_zero]
            have zb3 : base ≤ w3.drew.heap.size := by have := p3.lt; show base ≤ w3.heap.size; omega
            have HL := Lib.hid (late_any h2 false S3 Ak none k3n c3 n2 dk 0 0 p base sl3 [] w3.drew p3.drew MS2.out hOs3.drew (OwnRs.nil _ _) (Disj.nil _ _) t2 (by omega) zb3)
            go_wp2_with fail
            refine HL.out.mono ?_
            rintro e w4 ⟨rfl, R4, nR4, cR4, rl4, p4, hO4r, hrl4, hT4, T4⟩
            clear HL
            have hfit := fits_go t2 false false
            rw [HR4.out] at hfit
            have t3 := tick_late t2 false
            have hrw := late_rows t2 false
            obtain ⟨eks, eka⟩ := late_keeps h2 false
            have HR5 := Lib.hid HR4.out
            unfold goH at HR5
            clear HR4
            obtain ⟨r, hr⟩ : ∃ r, lateH h2 false = r := ⟨_, rfl⟩
            rw [hr] at HR5 p4 hrl4 t3 hrw eks eka ⊢
            clear hr
            obtain ⟨h3, r1, on⟩ := r
            dsimp only at HR5 p4 hrl4 t3 hrw eks eka ⊢
            have g4 := g3.drew.turned T4 (fun hq => by
              rcases hq with e | e
              · omega
              · exact nilT e)
            have nts : ∀ q, Touch S3 sl3 q → ¬ (q = p ∨ Touch (none : Option Addr) [] q) := fun q hq h => by
              rcases h with e | e
              · exact hns (e ▸ hT3 q hq)
              · exact nilT e
            have nta : ∀ q, Touch Ak al q → ¬ (q = p ∨ Touch (none : Option Addr) [] q) := fun q hq h => by
              rcases h with e | e
              · exact hna (e ▸ hq)
              · exact nilT e
            have hOs4 := hOs3.drew.turned T4 nts
            have hOa4 := hOa3.drew.turned T4 nta
            have hl3s := fun (q : Nat) (hq : Touch S3 sl3 q) => (hOs3.lt hq).2
            have hl3a := fun (q : Nat) (hq : Touch Ak al q) => (hOa3.lt hq).2
            have hT4' : ∀ q, Touch R4 rl4 q → w3.heap.size ≤ q := fun q hq => by
              rcases hT4 q hq with e | e
              · exact (nilT e).elim
              · exact e
            have T34 : Turned W w4 (fun q => q = p ∨ Touch Sk sl q ∨ Touch Ak al q) := (T23.drewN 1).trans T4 (fun i _ e => by
              rcases e with e | e
              · exact .inl e
              · exact (nilT e).elim)
            have MS3 : sl3.map RowR.b = h3.sent := MS2.out.trans eks.symm
            have MA3 : al.map RowR.b = h3.asked := MA2.out.trans eka.symm
            have hln3 : h3.sent.length = k3n := by rw [← MS3, List.length_map]; exact hOs4.len
            have hla3 : h3.asked.length = n2 := by rw [← MA3, List.length_map]; exact hOa4.len
            have hkr : nR4 ≤ 127 := by
              have e1 := hO4r.len
              have e2 : (rl4.map RowR.b).length = r1.length := by rw [hrl4]; simp
              rw [List.length_map] at e2
              have := hrw.1
              omega
            have z34 := T23.size
            have x4 := g4.cell' (i := 4) rfl
            clear eks eka hT4 T4 g3 hOs3 hOa3 T23 p3
            cases on
            · skip
              have HRf := Lib.hid (show ((h3, rl4.map RowR.b, (0 : Int)) : Hnd × List (List UInt8) × Int) = (H, rows, err) by have := HR5.out; rw [if_neg (by simp)] at this; rw [hrl4]; simpa using this)
              have hH : h3 = H := by have := HRf.out; simp only [Prod.mk.injEq] at this; exact this.1
              have hRs : RdRows w4 S3 h3.sent := by rw [← MS3]; exact hOs4.rd
              have hRa : RdRows w4 Ak h3.asked := by rw [← MA3]; exact hOa4.rd
              have f1 : RowsFit h3.sent k3n := by rw [← hln3, hH]; exact hfit.1
              have f2 : RowsFit h3.asked n2 := by rw [← hla3, hH]; exact hfit.2.1
              have hsL := hln3
              have haL := hla3
              have hOr := hO4r
              have TV := T34
              have pV := p4
              clear HR5 hH hO4r T34 p4 hln3 hla3 hOs4 hOa4 g4
              go_upto_region 11 with fail
              have CS := Lib.hid (fun w (hS : RdRows w S3 h3.sent) => clones_any S3 h3.sent k3n c3 w hsL hS f1.1 f1.2)
              have CA := Lib.hid (fun w (hA : RdRows w Ak h3.asked) => clones_any Ak h3.asked n2 dk w haL hA f2.1 f2.2)
              have k3 := pV.cell' (i := 3) rfl
              have k4 := pV.cell' (i := 4) rfl
              have zV := TV.size
              refine heldRegion (fun v => v.cell? ⟨p, 4, none⟩ = some (.slice Ak n2 dk)) 18 (by kernel_rfl) (by kernel_rfl) k4 (fun hSS => ?_)
              refine walk_take 0 (v := ?va1a0) rfl (by kernel_rfl) (by kernel_rfl) (by kernel_rfl) (fun _ _ _ h => h) (hSS) (Or.inl ⟨by rfl, ?ya1a0⟩) ?ra1a0
              case ya1a0 => intro w hSw; (try dsimp only at hSw); go_simp; try rfl
              case' ra1a0 => try simp only [List.getElem_toArray, List.getElem_cons_succ, List.getElem_cons_zero, Act.put, List.setIfInBounds_toArray, List.set_cons_zero, List.set_cons_succ]
              refine walk_take 1 (v := ?va1a1) rfl (by kernel_rfl) (by kernel_rfl) (by kernel_rfl) (fun _ _ _ h => h) (hSS) (Or.inl ⟨by rfl, ?ya1a1⟩) ?ra1a1
              case ya1a1 => intro w hSw; (try dsimp only at hSw); go_simp; try rfl
              case' ra1a1 => try simp only [List.getElem_toArray, List.getElem_cons_succ, List.getElem_cons_zero, Act.put, List.setIfInBounds_toArray, List.set_cons_zero, List.set_cons_succ]
              refine walk_take 2 (v := ?va1a2) rfl (by kernel_rfl) (by kernel_rfl) (by kernel_rfl) (fun _ _ _ h => h) (hSS) (Or.inl ⟨by rfl, ?ya1a2⟩) ?ra1a2
              case ya1a2 => intro w hSw; (try dsimp only at hSw); go_simp; try rfl
              case' ra1a2 => try simp only [List.getElem_toArray, List.getElem_cons_succ, List.getElem_cons_zero, Act.put, List.setIfInBounds_toArray, List.set_cons_zero, List.set_cons_succ]
              refine walk_take 3 (v := ?va1a3) rfl (by kernel_rfl) (by kernel_rfl) (by kernel_rfl) (fun _ _ _ h => h) (hSS) (Or.inl ⟨by rfl, ?ya1a3⟩) ?ra1a3
              case ya1a3 => intro w hSw; (try dsimp only at hSw); go_simp; try rfl
              case' ra1a3 => try simp only [List.getElem_toArray, List.getElem_cons_succ, List.getElem_cons_zero, Act.put, List.setIfInBounds_toArray, List.set_cons_zero, List.set_cons_succ]
              refine walk_take 4 (v := ?va1a4) rfl (by kernel_rfl) (by kernel_rfl) (by kernel_rfl) (fun _ _ _ h => h) (hSS) (Or.inl ⟨by rfl, ?ya1a4⟩) ?ra1a4
              case ya1a4 => intro w hSw; (try dsimp only at hSw); go_simp; try rfl
              case' ra1a4 => try simp only [List.getElem_toArray, List.getElem_cons_succ, List.getElem_cons_zero, Act.put, List.setIfInBounds_toArray, List.set_cons_zero, List.set_cons_succ]
              refine walk_take 5 (v := ?va1a5) rfl (by kernel_rfl) (by kernel_rfl) (by kernel_rfl) (fun _ _ _ h => h) (hSS) (Or.inl ⟨by rfl, ?ya1a5⟩) ?ra1a5
              case ya1a5 => intro w hSw; (try dsimp only at hSw); go_simp; try rfl
              case' ra1a5 => try simp only [List.getElem_toArray, List.getElem_cons_succ, List.getElem_cons_zero, Act.put, List.setIfInBounds_toArray, List.set_cons_zero, List.set_cons_succ]
              refine walk_take 8 (v := ?va1a8) rfl (by kernel_rfl) (by kernel_rfl) (by kernel_rfl) (fun _ _ _ h => h) (hSS) (Or.inl ⟨by rfl, ?ya1a8⟩) ?ra1a8
              case ya1a8 => intro w hSw; (try dsimp only at hSw); go_simp; try rfl
              case' ra1a8 => try simp only [List.getElem_toArray, List.getElem_cons_succ, List.getElem_cons_zero, Act.put, List.setIfInBounds_toArray, List.set_cons_zero, List.set_cons_succ]
              refine walk_take 9 (v := ?va1a9) rfl (by kernel_rfl) (by kernel_rfl) (by kernel_rfl) (fun _ _ _ h => h) (hSS) (Or.inl ⟨by rfl, ?ya1a9⟩) ?ra1a9
              case ya1a9 => intro w hSw; (try dsimp only at hSw); go_simp; try rfl
              case' ra1a9 => try simp only [List.getElem_toArray, List.getElem_cons_succ, List.getElem_cons_zero, Act.put, List.setIfInBounds_toArray, List.set_cons_zero, List.set_cons_succ]
              refine walk_take 10 (v := ?va1a10) rfl (by kernel_rfl) (by kernel_rfl) (by kernel_rfl) (fun _ _ _ h => h) (hSS) (Or.inl ⟨by rfl, ?ya1a10⟩) ?ra1a10
              case ya1a10 => intro w hSw; (try dsimp only at hSw); go_simp; try rfl
              case' ra1a10 => try simp only [List.getElem_toArray, List.getElem_cons_succ, List.getElem_cons_zero, Act.put, List.setIfInBounds_toArray, List.set_cons_zero, List.set_cons_succ]
              refine walk_take 11 (v := ?va1a11) rfl (by kernel_rfl) (by kernel_rfl) (by kernel_rfl) (fun _ _ _ h => h) (hSS) (Or.inl ⟨by rfl, ?ya1a11⟩) ?ra1a11
              case ya1a11 => intro w hSw; (try dsimp only at hSw); go_simp; try rfl
              case' ra1a11 => try simp only [List.getElem_toArray, List.getElem_cons_succ, List.getElem_cons_zero, Act.put, List.setIfInBounds_toArray, List.set_cons_zero, List.set_cons_succ]
              refine walk_take 12 (v := ?va1a12) rfl (by kernel_rfl) (by kernel_rfl) (by kernel_rfl) (fun _ _ _ h => h) (hSS) (Or.inl ⟨by rfl, ?ya1a12⟩) ?ra1a12
              case ya1a12 => intro w hSw; (try dsimp only at hSw); go_simp; try rfl
              case' ra1a12 => try simp only [List.getElem_toArray, List.getElem_cons_succ, List.getElem_cons_zero, Act.put, List.setIfInBounds_toArray, List.set_cons_zero, List.set_cons_succ]
              refine walk_step 6 rfl (by kernel_rfl) (by kernel_rfl) (fun K hK => ?lda1)
              case lda1 =>
                go_simp
                refine hK _ _ k4 ?_
                clear hK K
                try simp only [List.getElem_toArray, List.getElem_cons_succ, List.getElem_cons_zero, Act.put, List.setIfInBounds_toArray, List.set_cons_zero, List.set_cons_succ]
                refine walk_step 7 rfl (by kernel_rfl) (by kernel_rfl) (fun K hK => ?csa1)
                case csa1 =>
                  go_simp
                  refine (CS.out w4.drew hRs).mono ?_
                  rintro e v1 ⟨S7, c7, rfl, ⟨sl7, hsl7, hO7s⟩, hb⟩
                  have bl1 : Below w4.heap.size w4 v1 := ((Below.refl w4.heap.size w4).drew).trans hb
                  have hO7s : OwnRs v1 w4.heap.size S7 k3n c7 sl7 := hO7s
                  have hl7s := fun (q : Nat) (hq : Touch S7 sl7 q) => (hO7s.lt hq).2
                  refine hK _ _ ((pV.step bl1).cell' (i := 4) rfl) ?_
                  clear hK K hb hSS
                  try simp only [List.getElem_toArray, List.getElem_cons_succ, List.getElem_cons_zero, Act.put, List.setIfInBounds_toArray, List.set_cons_zero, List.set_cons_succ]
                  refine walk_step 13 rfl (by kernel_rfl) (by kernel_rfl) (fun K hK => ?caa1)
                  case caa1 =>
                    go_simp
                    refine (CA.out v1 (hRa.below bl1)).mono ?_
                    rintro e v2 ⟨A7, d7, rfl, ⟨al7, hal7, hO7a⟩, hb⟩
                    have bl2 := bl1.trans (hb.mono bl1.size)
                    have hO7s2 := hO7s.step hb
                    have dsa : Disj S7 sl7 A7 al7 := fun q h1 h2 => by have := (hO7a.lt h2).1; have := hl7s q h1; omega
                    refine hK _ _ ((pV.step bl2).cell' (i := 4) rfl) ?_
                    clear hK K hb
                    try simp only [List.getElem_toArray, List.getElem_cons_succ, List.getElem_cons_zero, Act.put, List.setIfInBounds_toArray, List.set_cons_zero, List.set_cons_succ]
                    refine walk_take 14 (v := ?va1c14) rfl (by kernel_rfl) (by kernel_rfl) (by kernel_rfl) (fun _ _ _ h => h) ((pV.step bl2).cell' (i := 4) rfl) (Or.inl ⟨by rfl, ?ya1c14⟩) ?ra1c14
                    case ya1c14 => intro w hSw; (try dsimp only at hSw); go_simp; try rfl
                    case' ra1c14 => try simp only [List.getElem_toArray, List.getElem_cons_succ, List.getElem_cons_zero, Act.put, List.setIfInBounds_toArray, List.set_cons_zero, List.set_cons_succ]
                    refine walk_take 15 (v := ?va1c15) rfl (by kernel_rfl) (by kernel_rfl) (by kernel_rfl) (fun _ _ _ h => h) ((pV.step bl2).cell' (i := 4) rfl) (Or.inl ⟨by rfl, ?ya1c15⟩) ?ra1c15
                    case ya1c15 => intro w hSw; (try dsimp only at hSw); go_simp; try rfl
                    case' ra1c15 => try simp only [List.getElem_toArray, List.getElem_cons_succ, List.getElem_cons_zero, Act.put, List.setIfInBounds_toArray, List.set_cons_zero, List.set_cons_succ]
                    refine walk_take 16 (v := ?va1c16) rfl (by kernel_rfl) (by kernel_rfl) (by kernel_rfl) (fun _ _ _ h => h) ((pV.step bl2).cell' (i := 4) rfl) (Or.inl ⟨by rfl, ?ya1c16⟩) ?ra1c16
                    case ya1c16 => intro w hSw; (try dsimp only at hSw); go_simp; try rfl
                    case' ra1c16 => try simp only [List.getElem_toArray, List.getElem_cons_succ, List.getElem_cons_zero, Act.put, List.setIfInBounds_toArray, List.set_cons_zero, List.set_cons_succ]
                    have pe := pV.step bl2
                    have q3 := pe.cell' (i := 3) rfl
                    have kf := pe.frozen
                    have pf := pe.set_ 3 (.slice S7 k3n c7)
                    have q4 := pf.cell' (i := 4) rfl
                    have kf' := pf.frozen
                    refine walk_step 17 rfl (by kernel_rfl) (by kernel_rfl) (fun K hK => ?sta1)
                    case sta1 =>
                      go_simp
                      refine hK _ _ q4 ?_
                      clear hK K
                      try simp only [List.getElem_toArray, List.getElem_cons_succ, List.getElem_cons_zero, Act.put, List.setIfInBounds_toArray, List.set_cons_zero, List.set_cons_succ]
                      refine walk_tail (by kernel_rfl) ?_
                      simp only [List.drop_succ_cons, List.drop_zero]
                      have hOr2 := hOr.step bl2
                      have T7 := TV.step bl2
                      have hlr := fun (q : Nat) (hq : Touch R4 rl4 q) => hOr.lt hq
                      have hplt := pV.lt
                      have hnr : ¬ Touch R4 rl4 p := fun hq => by
                        rcases hq with e | ⟨i, r, hr, e⟩
                        · exact hOr.arr.notBlk pV (by decide) e
                        · exact (hOr.bs.1 i r hr).notBlk pV (by decide) e
                      have hs7 : ∀ q, Touch S7 sl7 q → w4.heap.size ≤ q := fun q hq => (hO7s.lt hq).1
                      have ha7 : ∀ q, Touch A7 al7 q → w4.heap.size ≤ q := fun q hq => by have := (hO7a.lt hq).1; have := bl1.size; omega
                      have hzb : base ≤ w4.heap.size := by omega
                      have hz1 := bl1.size
                      go_wp2_with fail
                      obtain ⟨rfl, rfl, rfl⟩ : h3 = H ∧ rl4.map RowR.b = rows ∧ err = 0 := by have := HRf.out; simp only [Prod.mk.injEq] at this; exact ⟨this.1, this.2.1, this.2.2.symm⟩
                      obtain rfl : k3n = m1 := by rw [← hsL, M1.out]
                      obtain rfl : n2 = m2 := by rw [← haL, M2.out]
                      obtain rfl : nR4 = nR := by rw [← NR.out, List.length_map]; exact hOr.len.symm
                      refine bodyPost_ret (v := .int .i64 0) (by simp [results, Try.results33, go_sem]) rfl ?_
                      refine ⟨S7, c7, A7, d7, R4, cR4, sl7, al7, rl4, rfl, ⟨hsl7, hal7, rfl⟩, pf.set_ 4 _, ?_, ?_, (hOr2.far (p := ⟨p, 3, none⟩) hnr _).far (p := ⟨p, 4, none⟩) hnr _, dsa, fun q h1 h2 => by have := hs7 q h1; have := (hlr q h2).2; omega, fun q h1 h2 => by have := ha7 q h1; have := (hlr q h2).2; omega, (T7.set (p := ⟨p, 3, none⟩) (fun _ => .inl rfl) _).set (p := ⟨p, 4, none⟩) (fun _ => .inl rfl) _⟩
                      · exact ((hO7s2.far (p := ⟨p, 3, none⟩) (fun ht => by have : w4.heap.size ≤ p := hs7 _ ht; omega) _).far (p := ⟨p, 4, none⟩) (fun ht => by have : w4.heap.size ≤ p := hs7 _ ht; omega) _).mono hzb
                      · exact ((hO7a.far (p := ⟨p, 3, none⟩) (fun ht => by have : w4.heap.size ≤ p := ha7 _ ht; omega) _).far (p := ⟨p, 4, none⟩) (fun ht => by have : w4.heap.size ≤ p := ha7 _ ht; omega) _).mono (by omega)
            · skip
              have HM := Lib.hid (more_any h3 S3 Ak R4 k3n c3 n2 dk nR4 cR4 p base sl3 al rl4 w4 p4 MS3 MA3 hOs4 hOa4 hO4r dj3 (fun q h1 h2 => by have := hT4' q h2; have := hl3s q h1; omega) (fun q h1 h2 => by have := hT4' q h2; have := hl3a q h1; omega) t3 (by omega) (by have := p4.lt; omega))
              go_wp2_with fail
              refine HM.out.mono ?_
              rintro e w6 ⟨rfl, S6, c6, A6, d6, R6, cR6, rl6, p6, hRs, hRa, hOr, hrl6, hT6, T6⟩
              clear HM
              have hmn : moreN h3 ≤ n2 := by rw [← hla3]; exact Nat.min_le_right _ _
              have hsL : (moreH h3).1.sent.length = k3n + moreN h3 := by show (h3.sent ++ h3.asked.take (moreN h3)).length = _; rw [List.length_append, List.length_take, hln3, hla3]; omega
              have haL : (moreH h3).1.asked.length = n2 - moreN h3 := by show (h3.asked.drop (moreN h3)).length = _; rw [List.length_drop, hla3]
              have HRf := Lib.hid (show (((moreH h3).1, rl6.map RowR.b, (0 : Int)) : Hnd × List (List UInt8) × Int) = (H, rows, err) by have := HR5.out; rw [if_pos (by simp)] at this; rw [hrl6, hrl4]; simpa using this)
              have TV : Turned W w6 (fun q => q = p ∨ Touch Sk sl q ∨ Touch Ak al q) := T34.trans T6 (fun i hi e => by
                rcases e with e | e | e
                · exact .inl e
                · exact .inr (.inl (hT3 i e))
                · have := hT4' i e; omega)
              clear HR5 hrl6 hT6 T6 hO4r T34 p4 hOs4 hOa4 g4
              obtain ⟨h5, hh5⟩ : ∃ x, (moreH h3).1 = x := ⟨_, rfl⟩
              obtain ⟨ks, hks⟩ : ∃ x, k3n + moreN h3 = x := ⟨_, rfl⟩
              obtain ⟨ka, hka⟩ : ∃ x, n2 - moreN h3 = x := ⟨_, rfl⟩
              obtain ⟨kr, hkrr⟩ : ∃ x, nR4 + moreN h3 = x := ⟨_, rfl⟩
              rw [hh5, hks, hka, hkrr] at p6
              rw [hh5] at hRs hRa HRf hsL haL
              rw [hks] at hsL
              rw [hka] at haL
              rw [hkrr] at hOr
              clear hh5 hks hka hkrr hmn
              have hH : h5 = H := by have := HRf.out; simp only [Prod.mk.injEq] at this; exact this.1
              have f1 : RowsFit h5.sent ks := by rw [← hsL, hH]; exact hfit.1
              have f2 : RowsFit h5.asked ka := by rw [← haL, hH]; exact hfit.2.1
              have pV := p6
              clear hH p6
              go_upto_region 11 with fail
              have CS := Lib.hid (fun w (hS : RdRows w S6 h5.sent) => clones_any S6 h5.sent ks c6 w hsL hS f1.1 f1.2)
              have CA := Lib.hid (fun w (hA : RdRows w A6 h5.asked) => clones_any A6 h5.asked ka d6 w haL hA f2.1 f2.2)
              have k3 := pV.cell' (i := 3) rfl
              have k4 := pV.cell' (i := 4) rfl
              have zV := TV.size
              refine heldRegion (fun v => v.cell? ⟨p, 4, none⟩ = some (.slice A6 ka d6)) 18 (by kernel_rfl) (by kernel_rfl) k4 (fun hSS => ?_)
              refine walk_take 0 (v := ?va2a0) rfl (by kernel_rfl) (by kernel_rfl) (by kernel_rfl) (fun _ _ _ h => h) (hSS) (Or.inl ⟨by rfl, ?ya2a0⟩) ?ra2a0
              case ya2a0 => intro w hSw; (try dsimp only at hSw); go_simp; try rfl
              case' ra2a0 => try simp only [List.getElem_toArray, List.getElem_cons_succ, List.getElem_cons_zero, Act.put, List.setIfInBounds_toArray, List.set_cons_zero, List.set_cons_succ]
              refine walk_take 1 (v := ?va2a1) rfl (by kernel_rfl) (by kernel_rfl) (by kernel_rfl) (fun _ _ _ h => h) (hSS) (Or.inl ⟨by rfl, ?ya2a1⟩) ?ra2a1
              case ya2a1 => intro w hSw; (try dsimp only at hSw); go_simp; try rfl
              case' ra2a1 => try simp only [List.getElem_toArray, List.getElem_cons_succ, List.getElem_cons_zero, Act.put, List.setIfInBounds_toArray, List.set_cons_zero, List.set_cons_succ]
              refine walk_take 2 (v := ?va2a2) rfl (by kernel_rfl) (by kernel_rfl) (by kernel_rfl) (fun _ _ _ h => h) (hSS) (Or.inl ⟨by rfl, ?ya2a2⟩) ?ra2a2
              case ya2a2 => intro w hSw; (try dsimp only at hSw); go_simp; try rfl
              case' ra2a2 => try simp only [List.getElem_toArray, List.getElem_cons_succ, List.getElem_cons_zero, Act.put, List.setIfInBounds_toArray, List.set_cons_zero, List.set_cons_succ]
              refine walk_take 3 (v := ?va2a3) rfl (by kernel_rfl) (by kernel_rfl) (by kernel_rfl) (fun _ _ _ h => h) (hSS) (Or.inl ⟨by rfl, ?ya2a3⟩) ?ra2a3
              case ya2a3 => intro w hSw; (try dsimp only at hSw); go_simp; try rfl
              case' ra2a3 => try simp only [List.getElem_toArray, List.getElem_cons_succ, List.getElem_cons_zero, Act.put, List.setIfInBounds_toArray, List.set_cons_zero, List.set_cons_succ]
              refine walk_take 4 (v := ?va2a4) rfl (by kernel_rfl) (by kernel_rfl) (by kernel_rfl) (fun _ _ _ h => h) (hSS) (Or.inl ⟨by rfl, ?ya2a4⟩) ?ra2a4
              case ya2a4 => intro w hSw; (try dsimp only at hSw); go_simp; try rfl
              case' ra2a4 => try simp only [List.getElem_toArray, List.getElem_cons_succ, List.getElem_cons_zero, Act.put, List.setIfInBounds_toArray, List.set_cons_zero, List.set_cons_succ]
              refine walk_take 5 (v := ?va2a5) rfl (by kernel_rfl) (by kernel_rfl) (by kernel_rfl) (fun _ _ _ h => h) (hSS) (Or.inl ⟨by rfl, ?ya2a5⟩) ?ra2a5
              case ya2a5 => intro w hSw; (try dsimp only at hSw); go_simp; try rfl
              case' ra2a5 => try simp only [List.getElem_toArray, List.getElem_cons_succ, List.getElem_cons_zero, Act.put, List.setIfInBounds_toArray, List.set_cons_zero, List.set_cons_succ]
              refine walk_take 8 (v := ?va2a8) rfl (by kernel_rfl) (by kernel_rfl) (by kernel_rfl) (fun _ _ _ h => h) (hSS) (Or.inl ⟨by rfl, ?ya2a8⟩) ?ra2a8
              case ya2a8 => intro w hSw; (try dsimp only at hSw); go_simp; try rfl
              case' ra2a8 => try simp only [List.getElem_toArray, List.getElem_cons_succ, List.getElem_cons_zero, Act.put, List.setIfInBounds_toArray, List.set_cons_zero, List.set_cons_succ]
              refine walk_take 9 (v := ?va2a9) rfl (by kernel_rfl) (by kernel_rfl) (by kernel_rfl) (fun _ _ _ h => h) (hSS) (Or.inl ⟨by rfl, ?ya2a9⟩) ?ra2a9
              case ya2a9 => intro w hSw; (try dsimp only at hSw); go_simp; try rfl
              case' ra2a9 => try simp only [List.getElem_toArray, List.getElem_cons_succ, List.getElem_cons_zero, Act.put, List.setIfInBounds_toArray, List.set_cons_zero, List.set_cons_succ]
              refine walk_take 10 (v := ?va2a10) rfl (by kernel_rfl) (by kernel_rfl) (by kernel_rfl) (fun _ _ _ h => h) (hSS) (Or.inl ⟨by rfl, ?ya2a10⟩) ?ra2a10
              case ya2a10 => intro w hSw; (try dsimp only at hSw); go_simp; try rfl
              case' ra2a10 => try simp only [List.getElem_toArray, List.getElem_cons_succ, List.getElem_cons_zero, Act.put, List.setIfInBounds_toArray, List.set_cons_zero, List.set_cons_succ]
              refine walk_take 11 (v := ?va2a11) rfl (by kernel_rfl) (by kernel_rfl) (by kernel_rfl) (fun _ _ _ h => h) (hSS) (Or.inl ⟨by rfl, ?ya2a11⟩) ?ra2a11
              case ya2a11 => intro w hSw; (try dsimp only at hSw); go_simp; try rfl
              case' ra2a11 => try simp only [List.getElem_toArray, List.getElem_cons_succ, List.getElem_cons_zero, Act.put, List.setIfInBounds_toArray, List.set_cons_zero, List.set_cons_succ]
              refine walk_take 12 (v := ?va2a12) rfl (by kernel_rfl) (by kernel_rfl) (by kernel_rfl) (fun _ _ _ h => h) (hSS) (Or.inl ⟨by rfl, ?ya2a12⟩) ?ra2a12
              case ya2a12 => intro w hSw; (try dsimp only at hSw); go_simp; try rfl
              case' ra2a12 => try simp only [List.getElem_toArray, List.getElem_cons_succ, List.getElem_cons_zero, Act.put, List.setIfInBounds_toArray, List.set_cons_zero, List.set_cons_succ]
              refine walk_step 6 rfl (by kernel_rfl) (by kernel_rfl) (fun K hK => ?lda2)
              case lda2 =>
                go_simp
                refine hK _ _ k4 ?_
                clear hK K
                try simp only [List.getElem_toArray, List.getElem_cons_succ, List.getElem_cons_zero, Act.put, List.setIfInBounds_toArray, List.set_cons_zero, List.set_cons_succ]
                refine walk_step 7 rfl (by kernel_rfl) (by kernel_rfl) (fun K hK => ?csa2)
                case csa2 =>
                  go_simp
                  refine (CS.out w6.drew hRs).mono ?_
                  rintro e v1 ⟨S7, c7, rfl, ⟨sl7, hsl7, hO7s⟩, hb⟩
                  have bl1 : Below w6.heap.size w6 v1 := ((Below.refl w6.heap.size w6).drew).trans hb
                  have hO7s : OwnRs v1 w6.heap.size S7 ks c7 sl7 := hO7s
                  have hl7s := fun (q : Nat) (hq : Touch S7 sl7 q) => (hO7s.lt hq).2
                  refine hK _ _ ((pV.step bl1).cell' (i := 4) rfl) ?_
                  clear hK K hb hSS
                  try simp only [List.getElem_toArray, List.getElem_cons_succ, List.getElem_cons_zero, Act.put, List.setIfInBounds_toArray, List.set_cons_zero, List.set_cons_succ]
                  refine walk_step 13 rfl (by kernel_rfl) (by kernel_rfl) (fun K hK => ?caa2)
                  case caa2 =>
                    go_simp
                    refine (CA.out v1 (hRa.below bl1)).mono ?_
                    rintro e v2 ⟨A7, d7, rfl, ⟨al7, hal7, hO7a⟩, hb⟩
                    have bl2 := bl1.trans (hb.mono bl1.size)
                    have hO7s2 := hO7s.step hb
                    have dsa : Disj S7 sl7 A7 al7 := fun q h1 h2 => by have := (hO7a.lt h2).1; have := hl7s q h1; omega
                    refine hK _ _ ((pV.step bl2).cell' (i := 4) rfl) ?_
                    clear hK K hb
                    try simp only [List.getElem_toArray, List.getElem_cons_succ, List.getElem_cons_zero, Act.put, List.setIfInBounds_toArray, List.set_cons_zero, List.set_cons_succ]
                    refine walk_take 14 (v := ?va2c14) rfl (by kernel_rfl) (by kernel_rfl) (by kernel_rfl) (fun _ _ _ h => h) ((pV.step bl2).cell' (i := 4) rfl) (Or.inl ⟨by rfl, ?ya2c14⟩) ?ra2c14
                    case ya2c14 => intro w hSw; (try dsimp only at hSw); go_simp; try rfl
                    case' ra2c14 => try simp only [List.getElem_toArray, List.getElem_cons_succ, List.getElem_cons_zero, Act.put, List.setIfInBounds_toArray, List.set_cons_zero, List.set_cons_succ]
                    refine walk_take 15 (v := ?va2c15) rfl (by kernel_rfl) (by kernel_rfl) (by kernel_rfl) (fun _ _ _ h => h) ((pV.step bl2).cell' (i := 4) rfl) (Or.inl ⟨by rfl, ?ya2c15⟩) ?ra2c15
                    case ya2c15 => intro w hSw; (try dsimp only at hSw); go_simp; try rfl
                    case' ra2c15 => try simp only [List.getElem_toArray, List.getElem_cons_succ, List.getElem_cons_zero, Act.put, List.setIfInBounds_toArray, List.set_cons_zero, List.set_cons_succ]
                    refine walk_take 16 (v := ?va2c16) rfl (by kernel_rfl) (by kernel_rfl) (by kernel_rfl) (fun _ _ _ h => h) ((pV.step bl2).cell' (i := 4) rfl) (Or.inl ⟨by rfl, ?ya2c16⟩) ?ra2c16
                    case ya2c16 => intro w hSw; (try dsimp only at hSw); go_simp; try rfl
                    case' ra2c16 => try simp only [List.getElem_toArray, List.getElem_cons_succ, List.getElem_cons_zero, Act.put, List.setIfInBounds_toArray, List.set_cons_zero, List.set_cons_succ]
                    have pe := pV.step bl2
                    have q3 := pe.cell' (i := 3) rfl
                    have kf := pe.frozen
                    have pf := pe.set_ 3 (.slice S7 ks c7)
                    have q4 := pf.cell' (i := 4) rfl
                    have kf' := pf.frozen
                    refine walk_step 17 rfl (by kernel_rfl) (by kernel_rfl) (fun K hK => ?sta2)
                    case sta2 =>
                      go_simp
                      refine hK _ _ q4 ?_
                      clear hK K
                      try simp only [List.getElem_toArray, List.getElem_cons_succ, List.getElem_cons_zero, Act.put, List.setIfInBounds_toArray, List.set_cons_zero, List.set_cons_succ]
                      refine walk_tail (by kernel_rfl) ?_
                      simp only [List.drop_succ_cons, List.drop_zero]
                      have hOr2 := hOr.step bl2
                      have T7 := TV.step bl2
                      have hlr := fun (q : Nat) (hq : Touch R6 rl6 q) => hOr.lt hq
                      have hplt := pV.lt
                      have hnr : ¬ Touch R6 rl6 p := fun hq => by
                        rcases hq with e | ⟨i, r, hr, e⟩
                        · exact hOr.arr.notBlk pV (by decide) e
                        · exact (hOr.bs.1 i r hr).notBlk pV (by decide) e
                      have hs7 : ∀ q, Touch S7 sl7 q → w6.heap.size ≤ q := fun q hq => (hO7s.lt hq).1
                      have ha7 : ∀ q, Touch A7 al7 q → w6.heap.size ≤ q := fun q hq => by have := (hO7a.lt hq).1; have := bl1.size; omega
                      have hzb : base ≤ w6.heap.size := by omega
                      have hz1 := bl1.size
                      go_wp2_with fail
                      obtain ⟨rfl, rfl, rfl⟩ : h5 = H ∧ rl6.map RowR.b = rows ∧ err = 0 := by have := HRf.out; simp only [Prod.mk.injEq] at this; exact ⟨this.1, this.2.1, this.2.2.symm⟩
                      obtain rfl : ks = m1 := by rw [← hsL, M1.out]
                      obtain rfl : ka = m2 := by rw [← haL, M2.out]
                      obtain rfl : kr = nR := by rw [← NR.out, List.length_map]; exact hOr.len.symm
                      refine bodyPost_ret (v := .int .i64 0) (by simp [results, Try.results33, go_sem]) rfl ?_
                      refine ⟨S7, c7, A7, d7, R6, cR6, sl7, al7, rl6, rfl, ⟨hsl7, hal7, rfl⟩, pf.set_ 4 _, ?_, ?_, (hOr2.far (p := ⟨p, 3, none⟩) hnr _).far (p := ⟨p, 4, none⟩) hnr _, dsa, fun q h1 h2 => by have := hs7 q h1; have := (hlr q h2).2; omega, fun q h1 h2 => by have := ha7 q h1; have := (hlr q h2).2; omega, (T7.set (p := ⟨p, 3, none⟩) (fun _ => .inl rfl) _).set (p := ⟨p, 4, none⟩) (fun _ => .inl rfl) _⟩
                      · exact ((hO7s2.far (p := ⟨p, 3, none⟩) (fun ht => by have : w6.heap.size ≤ p := hs7 _ ht; omega) _).far (p := ⟨p, 4, none⟩) (fun ht => by have : w6.heap.size ≤ p := hs7 _ ht; omega) _).mono hzb
                      · exact ((hO7a.far (p := ⟨p, 3, none⟩) (fun ht => by have : w6.heap.size ≤ p := ha7 _ ht; omega) _).far (p := ⟨p, 4, none⟩) (fun ht => by have : w6.heap.size ≤ p := ha7 _ ht; omega) _).mono (by omega)
          · skip
            go_upto_region 9 with fail
            have y4 := g3.cell' (i := 4) rfl
            have y5 := g3.cell' (i := 5) rfl
            have y9 := p3.cell' (i := 9) rfl
            have y10 := p3.cell' (i := 10) rfl
            refine heldRegion (fun v => v.cell? ⟨q5, 4, none⟩ = some (.bool true) ∧ v.cell? ⟨q5, 5, none⟩ = some (.bool false) ∧ v.cell? ⟨p, 9, none⟩ = some (.int .i64 h2.since) ∧ v.cell? ⟨p, 10, none⟩ = some (.int .i64 h2.pause)) 21 (by kernel_rfl) (by kernel_rfl) ⟨y4, y5, y9, y10⟩ (fun hSS => ?_)
            refine walk_take 0 (v := ?vb0) rfl (by kernel_rfl) (by kernel_rfl) (by kernel_rfl) (fun _ _ _ h => h) (hSS) (Or.inl ⟨by rfl, ?yb0⟩) ?rb0
            case yb0 => intro w hSw; obtain ⟨hw1, hw2, hw3, hw4⟩ := hSw; (try dsimp only at hSw); go_simp; try rfl
            case' rb0 => try simp only [List.getElem_toArray, List.getElem_cons_succ, List.getElem_cons_zero, Act.put, List.setIfInBounds_toArray, List.set_cons_zero, List.set_cons_succ]
            refine walk_take 1 (v := ?vb1) rfl (by kernel_rfl) (by kernel_rfl) (by kernel_rfl) (fun _ _ _ h => h) (hSS) (Or.inl ⟨by rfl, ?yb1⟩) ?rb1
            case yb1 => intro w hSw; obtain ⟨hw1, hw2, hw3, hw4⟩ := hSw; (try dsimp only at hSw); go_simp; try rfl
            case' rb1 => try simp only [List.getElem_toArray, List.getElem_cons_succ, List.getElem_cons_zero, Act.put, List.setIfInBounds_toArray, List.set_cons_zero, List.set_cons_succ]
            refine walk_take 2 (v := ?vb2) rfl (by kernel_rfl) (by kernel_rfl) (by kernel_rfl) (fun _ _ _ h => h) (hSS) (Or.inl ⟨by rfl, ?yb2⟩) ?rb2
            case yb2 => intro w hSw; obtain ⟨hw1, hw2, hw3, hw4⟩ := hSw; (try dsimp only at hSw); go_simp; try rfl
            case' rb2 => try simp only [List.getElem_toArray, List.getElem_cons_succ, List.getElem_cons_zero, Act.put, List.setIfInBounds_toArray, List.set_cons_zero, List.set_cons_succ]
            refine walk_take 3 (v := ?vb3) rfl (by kernel_rfl) (by kernel_rfl) (by kernel_rfl) (fun _ _ _ h => h) (hSS) (Or.inl ⟨by rfl, ?yb3⟩) ?rb3
            case yb3 => intro w hSw; obtain ⟨hw1, hw2, hw3, hw4⟩ := hSw; (try dsimp only at hSw); go_simp; try rfl
            case' rb3 => try simp only [List.getElem_toArray, List.getElem_cons_succ, List.getElem_cons_zero, Act.put, List.setIfInBounds_toArray, List.set_cons_zero, List.set_cons_succ]
            refine walk_take 4 (v := undef) rfl (by kernel_rfl) (by kernel_rfl) (by kernel_rfl) (fun _ _ _ h => h) (hSS) (Or.inr ⟨by rfl, rfl⟩) ?rb4
            case' rb4 => try simp only [List.getElem_toArray, List.getElem_cons_succ, List.getElem_cons_zero, Act.put, List.setIfInBounds_toArray, List.set_cons_zero, List.set_cons_succ]
            refine walk_take 5 (v := undef) rfl (by kernel_rfl) (by kernel_rfl) (by kernel_rfl) (fun _ _ _ h => h) (hSS) (Or.inr ⟨by rfl, rfl⟩) ?rb5
            case' rb5 => try simp only [List.getElem_toArray, List.getElem_cons_succ, List.getElem_cons_zero, Act.put, List.setIfInBounds_toArray, List.set_cons_zero, List.set_cons_succ]
            refine walk_take 6 (v := undef) rfl (by kernel_rfl) (by kernel_rfl) (by kernel_rfl) (fun _ _ _ h => h) (hSS) (Or.inr ⟨by rfl, rfl⟩) ?rb6
            case' rb6 => try simp only [List.getElem_toArray, List.getElem_cons_succ, List.getElem_cons_zero, Act.put, List.setIfInBounds_toArray, List.set_cons_zero, List.set_cons_succ]
            refine walk_take 7 (v := ?vb7) rfl (by kernel_rfl) (by kernel_rfl) (by kernel_rfl) (fun _ _ _ h => h) (hSS) (Or.inl ⟨by rfl, ?yb7⟩) ?rb7
            case yb7 => intro w hSw; obtain ⟨hw1, hw2, hw3, hw4⟩ := hSw; (try dsimp only at hSw); go_simp; try rfl
            case' rb7 => try simp only [List.getElem_toArray, List.getElem_cons_succ, List.getElem_cons_zero, Act.put, List.setIfInBounds_toArray, List.set_cons_zero, List.set_cons_succ]
            refine walk_take 8 (v := ?vb8) rfl (by kernel_rfl) (by kernel_rfl) (by kernel_rfl) (fun _ _ _ h => h) (hSS) (Or.inl ⟨by rfl, ?yb8⟩) ?rb8
            case yb8 => intro w hSw; obtain ⟨hw1, hw2, hw3, hw4⟩ := hSw; (try dsimp only at hSw); go_simp; try rfl
            case' rb8 => try simp only [List.getElem_toArray, List.getElem_cons_succ, List.getElem_cons_zero, Act.put, List.setIfInBounds_toArray, List.set_cons_zero, List.set_cons_succ]
            refine walk_take 9 (v := undef) rfl (by kernel_rfl) (by kernel_rfl) (by kernel_rfl) (fun _ _ _ h => h) (hSS) (Or.inr ⟨by rfl, rfl⟩) ?rb9
            case' rb9 => try simp only [List.getElem_toArray, List.getElem_cons_succ, List.getElem_cons_zero, Act.put, List.setIfInBounds_toArray, List.set_cons_zero, List.set_cons_succ]
            refine walk_take 10 (v := undef) rfl (by kernel_rfl) (by kernel_rfl) (by kernel_rfl) (fun _ _ _ h => h) (hSS) (Or.inr ⟨by rfl, rfl⟩) ?rb10
            case' rb10 => try simp only [List.getElem_toArray, List.getElem_cons_succ, List.getElem_cons_zero, Act.put, List.setIfInBounds_toArray, List.set_cons_zero, List.set_cons_succ]
            refine walk_take 11 (v := undef) rfl (by kernel_rfl) (by kernel_rfl) (by kernel_rfl) (fun _ _ _ h => h) (hSS) (Or.inr ⟨by rfl, rfl⟩) ?rb11
            case' rb11 => try simp only [List.getElem_toArray, List.getElem_cons_succ, List.getElem_cons_zero, Act.put, List.setIfInBounds_toArray, List.set_cons_zero, List.set_cons_succ]
            refine walk_take 12 (v := undef) rfl (by kernel_rfl) (by kernel_rfl) (by kernel_rfl) (fun _ _ _ h => h) (hSS) (Or.inr ⟨by rfl, rfl⟩) ?rb12
            case' rb12 => try simp only [List.getElem_toArray, List.getElem_cons_succ, List.getElem_cons_zero, Act.put, List.setIfInBounds_toArray, List.set_cons_zero, List.set_cons_succ]
            refine walk_take 13 (v := undef) rfl (by kernel_rfl) (by kernel_rfl) (by kernel_rfl) (fun _ _ _ h => h) (hSS) (Or.inr ⟨by rfl, rfl⟩) ?rb13
            case' rb13 => try simp only [List.getElem_toArray, List.getElem_cons_succ, List.getElem_cons_zero, Act.put, List.setIfInBounds_toArray, List.set_cons_zero, List.set_cons_succ]
            refine walk_take 14 (v := undef) rfl (by kernel_rfl) (by kernel_rfl) (by kernel_rfl) (fun _ _ _ h => h) (hSS) (Or.inr ⟨by rfl, rfl⟩) ?rb14
            case' rb14 => try simp only [List.getElem_toArray, List.getElem_cons_succ, List.getElem_cons_zero, Act.put, List.setIfInBounds_toArray, List.set_cons_zero, List.set_cons_succ]
            refine walk_take 15 (v := undef) rfl (by kernel_rfl) (by kernel_rfl) (by kernel_rfl) (fun _ _ _ h => h) (hSS) (Or.inr ⟨by rfl, rfl⟩) ?rb15
            case' rb15 => try simp only [List.getElem_toArray, List.getElem_cons_succ, List.getElem_cons_zero, Act.put, List.setIfInBounds_toArray, List.set_cons_zero, List.set_cons_succ]
            refine walk_take 16 (v := undef) rfl (by kernel_rfl) (by kernel_rfl) (by kernel_rfl) (fun _ _ _ h => h) (hSS) (Or.inr ⟨by rfl, rfl⟩) ?rb16
            case' rb16 => try simp only [List.getElem_toArray, List.getElem_cons_succ, List.getElem_cons_zero, Act.put, List.setIfInBounds_toArray, List.set_cons_zero, List.set_cons_succ]
            refine walk_take 17 (v := undef) rfl (by kernel_rfl) (by kernel_rfl) (by kernel_rfl) (fun _ _ _ h => h) (hSS) (Or.inr ⟨by rfl, rfl⟩) ?rb17
            case' rb17 => try simp only [List.getElem_toArray, List.getElem_cons_succ, List.getElem_cons_zero, Act.put, List.setIfInBounds_toArray, List.set_cons_zero, List.set_cons_succ]
            refine walk_take 18 (v := undef) rfl (by kernel_rfl) (by kernel_rfl) (by kernel_rfl) (fun _ _ _ h => h) (hSS) (Or.inr ⟨by rfl, rfl⟩) ?rb18
            case' rb18 => try simp only [List.getElem_toArray, List.getElem_cons_succ, List.getElem_cons_zero, Act.put, List.setIfInBounds_toArray, List.set_cons_zero, List.set_cons_succ]
            refine walk_take 19 (v := undef) rfl (by kernel_rfl) (by kernel_rfl) (by kernel_rfl) (fun _ _ _ h => h) (hSS) (Or.inr ⟨by rfl, rfl⟩) ?rb19
            case' rb19 => try simp only [List.getElem_toArray, List.getElem_cons_succ, List.getElem_cons_zero, Act.put, List.setIfInBounds_toArray, List.set_cons_zero, List.set_cons_succ]
            refine walk_take 20 (v := ?vb20) rfl (by kernel_rfl) (by kernel_rfl) (by kernel_rfl) (fun _ _ _ h => h) (hSS) (Or.inl ⟨by rfl, ?yb20⟩) ?rb20
            case yb20 => intro w hSw; obtain ⟨hw1, hw2, hw3, hw4⟩ := hSw; (try dsimp only at hSw); go_simp; try rfl
            case' rb20 => try simp only [List.getElem_toArray, List.getElem_cons_succ, List.getElem_cons_zero, Act.put, List.setIfInBounds_toArray, List.set_cons_zero, List.set_cons_succ]
            clear hSS y4 y5 y9 y10
            refine walk_tail (by kernel_rfl) ?_
            simp only [List.drop_succ_cons, List.drop_zero]
            have zb3 : base ≤ w3.drew.heap.size := by have := p3.lt; show base ≤ w3.heap.size; omega
            have HL := Lib.hid (late_any h2 false S3 Ak none k3n c3 n2 dk 0 0 p base sl3 [] w3.drew p3.drew MS2.out hOs3.drew (OwnRs.nil _ _) (Disj.nil _ _) t2 (by omega) zb3)
            go_wp2_with fail
            refine HL.out.mono ?_
            rintro e w4 ⟨rfl, R4, nR4, cR4, rl4, p4, hO4r, hrl4, hT4, T4⟩
            clear HL
            have hfit := fits_go t2 false true
            rw [HR4.out] at hfit
            have t3 := tick_late t2 false
            have hrw := late_rows t2 false
            obtain ⟨eks, eka⟩ := late_keeps h2 false
            have HR5 := Lib.hid HR4.out
            unfold goH at HR5
            clear HR4
            obtain ⟨r, hr⟩ : ∃ r, lateH h2 false = r := ⟨_, rfl⟩
            rw [hr] at HR5 p4 hrl4 t3 hrw eks eka ⊢
            clear hr
            obtain ⟨h3, r1, on⟩ := r
            dsimp only at HR5 p4 hrl4 t3 hrw eks eka ⊢
            have g4 := g3.drew.turned T4 (fun hq => by
              rcases hq with e | e
              · omega
              · exact nilT e)
            have nts : ∀ q, Touch S3 sl3 q → ¬ (q = p ∨ Touch (none : Option Addr) [] q) := fun q hq h => by
              rcases h with e | e
              · exact hns (e ▸ hT3 q hq)
              · exact nilT e
            have nta : ∀ q, Touch Ak al q → ¬ (q = p ∨ Touch (none : Option Addr) [] q) := fun q hq h => by
              rcases h with e | e
              · exact hna (e ▸ hq)
              · exact nilT e
            have hOs4 := hOs3.drew.turned T4 nts
            have hOa4 := hOa3.drew.turned T4 nta
            have hl3s := fun (q : Nat) (hq : Touch S3 sl3 q) => (hOs3.lt hq).2
            have hl3a := fun (q : Nat) (hq : Touch Ak al q) => (hOa3.lt hq).2
            have hT4' : ∀ q, Touch R4 rl4 q → w3.heap.size ≤ q := fun q hq => by
              rcases hT4 q hq with e | e
              · exact (nilT e).elim
              · exact e
            have T34 : Turned W w4 (fun q => q = p ∨ Touch Sk sl q ∨ Touch Ak al q) := (T23.drewN 1).trans T4 (fun i _ e => by
              rcases e with e | e
              · exact .inl e
              · exact (nilT e).elim)
            have MS3 : sl3.map RowR.b = h3.sent := MS2.out.trans eks.symm
            have MA3 : al.map RowR.b = h3.asked := MA2.out.trans eka.symm
            have hln3 : h3.sent.length = k3n := by rw [← MS3, List.length_map]; exact hOs4.len
            have hla3 : h3.asked.length = n2 := by rw [← MA3, List.length_map]; exact hOa4.len
            have hkr : nR4 ≤ 127 := by
              have e1 := hO4r.len
              have e2 : (rl4.map RowR.b).length = r1.length := by rw [hrl4]; simp
              rw [List.length_map] at e2
              have := hrw.1
              omega
            have z34 := T23.size
            have x4 := g4.cell' (i := 4) rfl
            clear eks eka hT4 T4 g3 hOs3 hOa3 T23 p3
            cases on
            · skip
              have HRf := Lib.hid (show ((h3, rl4.map RowR.b, (0 : Int)) : Hnd × List (List UInt8) × Int) = (H, rows, err) by have := HR5.out; rw [if_neg (by simp)] at this; rw [hrl4]; simpa using this)
              have hH : h3 = H := by have := HRf.out; simp only [Prod.mk.injEq] at this; exact this.1
              have hRs : RdRows w4 S3 h3.sent := by rw [← MS3]; exact hOs4.rd
              have hRa : RdRows w4 Ak h3.asked := by rw [← MA3]; exact hOa4.rd
              have f1 : RowsFit h3.sent k3n := by rw [← hln3, hH]; exact hfit.1
              have f2 : RowsFit h3.asked n2 := by rw [← hla3, hH]; exact hfit.2.1
              have hsL := hln3
              have haL := hla3
              have hOr := hO4r
              have TV := T34
              have pV := p4
              clear HR5 hH hO4r T34 p4 hln3 hla3 hOs4 hOa4 g4
              go_upto_region 11 with fail
              have CS := Lib.hid (fun w (hS : RdRows w S3 h3.sent) => clones_any S3 h3.sent k3n c3 w hsL hS f1.1 f1.2)
              have CA := Lib.hid (fun w (hA : RdRows w Ak h3.asked) => clones_any Ak h3.asked n2 dk w haL hA f2.1 f2.2)
              have k3 := pV.cell' (i := 3) rfl
              have k4 := pV.cell' (i := 4) rfl
              have zV := TV.size
              refine heldRegion (fun v => v.cell? ⟨p, 4, none⟩ = some (.slice Ak n2 dk)) 18 (by kernel_rfl) (by kernel_rfl) k4 (fun hSS => ?_)
              refine walk_take 0 (v := ?vb1a0) rfl (by kernel_rfl) (by kernel_rfl) (by kernel_rfl) (fun _ _ _ h => h) (hSS) (Or.inl ⟨by rfl, ?yb1a0⟩) ?rb1a0
              case yb1a0 => intro w hSw; (try dsimp only at hSw); go_simp; try rfl
              case' rb1a0 => try simp only [List.getElem_toArray, List.getElem_cons_succ, List.getElem_cons_zero, Act.put, List.setIfInBounds_toArray, List.set_cons_zero, List.set_cons_succ]
              refine walk_take 1 (v := ?vb1a1) rfl (by kernel_rfl) (by kernel_rfl) (by kernel_rfl) (fun _ _ _ h => h) (hSS) (Or.inl ⟨by rfl, ?yb1a1⟩) ?rb1a1
              case yb1a1 => intro w hSw; (try dsimp only at hSw); go_simp; try rfl
              case' rb1a1 => try simp only [List.getElem_toArray, List.getElem_cons_succ, List.getElem_cons_zero, Act.put, List.setIfInBounds_toArray, List.set_cons_zero, List.set_cons_succ]
              refine walk_take 2 (v := ?vb1a2) rfl (by kernel_rfl) (by kernel_rfl) (by kernel_rfl) (fun _ _ _ h => h) (hSS) (Or.inl ⟨by rfl, ?yb1a2⟩) ?rb1a2
              case yb1a2 => intro w hSw; (try dsimp only at hSw); go_simp; try rfl
              case' rb1a2 => try simp only [List.getElem_toArray, List.getElem_cons_succ, List.getElem_cons_zero, Act.put, List.setIfInBounds_toArray, List.set_cons_zero, List.set_cons_succ]
              refine walk_take 3 (v := ?vb1a3) rfl (by kernel_rfl) (by kernel_rfl) (by kernel_rfl) (fun _ _ _ h => h) (hSS) (Or.inl ⟨by rfl, ?yb1a3⟩) ?rb1a3
              case yb1a3 => intro w hSw; (try dsimp only at hSw); go_simp; try rfl
              case' rb1a3 => try simp only [List.getElem_toArray, List.getElem_cons_succ, List.getElem_cons_zero, Act.put, List.setIfInBounds_toArray, List.set_cons_zero, List.set_cons_succ]
              refine walk_take 4 (v := ?vb1a4) rfl (by kernel_rfl) (by kernel_rfl) (by kernel_rfl) (fun _ _ _ h => h) (hSS) (Or.inl ⟨by rfl, ?yb1a4⟩) ?rb1a4
              case yb1a4 => intro w hSw; (try dsimp only at hSw); go_simp; try rfl
              case' rb1a4 => try simp only [List.getElem_toArray, List.getElem_cons_succ, List.getElem_cons_zero, Act.put, List.setIfInBounds_toArray, List.set_cons_zero, List.set_cons_succ]
              refine walk_take 5 (v := ?vb1a5) rfl (by kernel_rfl) (by kernel_rfl) (by kernel_rfl) (fun _ _ _ h => h) (hSS) (Or.inl ⟨by rfl, ?yb1a5⟩) ?rb1a5
              case yb1a5 => intro w hSw; (try dsimp only at hSw); go_simp; try rfl
              case' rb1a5 => try simp only [List.getElem_toArray, List.getElem_cons_succ, List.getElem_cons_zero, Act.put, List.setIfInBounds_toArray, List.set_cons_zero, List.set_cons_succ]
              refine walk_take 8 (v := ?vb1a8) rfl (by kernel_rfl) (by kernel_rfl) (by kernel_rfl) (fun _ _ _ h => h) (hSS) (Or.inl ⟨by rfl, ?yb1a8⟩) ?rb1a8
              case yb1a8 => intro w hSw; (try dsimp only at hSw); go_simp; try rfl
              case' rb1a8 => try simp only [List.getElem_toArray, List.getElem_cons_succ, List.getElem_cons_zero, Act.put, List.setIfInBounds_toArray, List.set_cons_zero, List.set_cons_succ]
              refine walk_take 9 (v := ?vb1a9) rfl (by kernel_rfl) (by kernel_rfl) (by kernel_rfl) (fun _ _ _ h => h) (hSS) (Or.inl ⟨by rfl, ?yb1a9⟩) ?rb1a9
              case yb1a9 => intro w hSw; (try dsimp only at hSw); go_simp; try rfl
              case' rb1a9 => try simp only [List.getElem_toArray, List.getElem_cons_succ, List.getElem_cons_zero, Act.put, List.setIfInBounds_toArray, List.set_cons_zero, List.set_cons_succ]
              refine walk_take 10 (v := ?vb1a10) rfl (by kernel_rfl) (by kernel_rfl) (by kernel_rfl) (fun _ _ _ h => h) (hSS) (Or.inl ⟨by rfl, ?yb1a10⟩) ?rb1a10
              case yb1a10 => intro w hSw; (try dsimp only at hSw); go_simp; try rfl
              case' rb1a10 => try simp only [List.getElem_toArray, List.getElem_cons_succ, List.getElem_cons_zero, Act.put, List.setIfInBounds_toArray, List.set_cons_zero, List.set_cons_succ]
              refine walk_take 11 (v := ?vb1a11) rfl (by kernel_rfl) (by kernel_rfl) (by kernel_rfl) (fun _ _ _ h => h) (hSS) (Or.inl ⟨by rfl, ?yb1a11⟩) ?rb1a11
              case yb1a11 => intro w hSw; (try dsimp only at hSw); go_simp; try rfl
              case' rb1a11 => try simp only [List.getElem_toArray, List.getElem_cons_succ, List.getElem_cons_zero, Act.put, List.setIfInBounds_toArray, List.set_cons_zero, List.set_cons_succ]
              refine walk_take 12 (v := ?vb1a12) rfl (by kernel_rfl) (by kernel_rfl) (by kernel_rfl) (fun _ _ _ h => h) (hSS) (Or.inl ⟨by rfl, ?yb1a12⟩) ?rb1a12
              case yb1a12 => intro w hSw; (try dsimp only at hSw); go_simp; try rfl
              case' rb1a12 => try simp only [List.getElem_toArray, List.getElem_cons_succ, List.getElem_cons_zero, Act.put, List.setIfInBounds_toArray, List.set_cons_zero, List.set_cons_succ]
              refine walk_step 6 rfl (by kernel_rfl) (by kernel_rfl) (fun K hK => ?ldb1)
              case ldb1 =>
                go_simp
                refine hK _ _ k4 ?_
                clear hK K
                try simp only [List.getElem_toArray, List.getElem_cons_succ, List.getElem_cons_zero, Act.put, List.setIfInBounds_toArray, List.set_cons_zero, List.set_cons_succ]
                refine walk_step 7 rfl (by kernel_rfl) (by kernel_rfl) (fun K hK => ?csb1)
                case csb1 =>
                  go_simp
                  refine (CS.out w4.drew hRs).mono ?_
                  rintro e v1 ⟨S7, c7, rfl, ⟨sl7, hsl7, hO7s⟩, hb⟩
                  have bl1 : Below w4.heap.size w4 v1 := ((Below.refl w4.heap.size w4).drew).trans hb
                  have hO7s : OwnRs v1 w4.heap.size S7 k3n c7 sl7 := hO7s
                  have hl7s := fun (q : Nat) (hq : Touch S7 sl7 q) => (hO7s.lt hq).2
                  refine hK _ _ ((pV.step bl1).cell' (i := 4) rfl) ?_
                  clear hK K hb hSS
                  try simp only [List.getElem_toArray, List.getElem_cons_succ, List.getElem_cons_zero, Act.put, List.setIfInBounds_toArray, List.set_cons_zero, List.set_cons_succ]
                  refine walk_step 13 rfl (by kernel_rfl) (by kernel_rfl) (fun K hK => ?cab1)
                  case cab1 =>
                    go_simp
                    refine (CA.out v1 (hRa.below bl1)).mono ?_
                    rintro e v2 ⟨A7, d7, rfl, ⟨al7, hal7, hO7a⟩, hb⟩
                    have bl2 := bl1.trans (hb.mono bl1.size)
                    have hO7s2 := hO7s.step hb
                    have dsa : Disj S7 sl7 A7 al7 := fun q h1 h2 => by have := (hO7a.lt h2).1; have := hl7s q h1; omega
                    refine hK _ _ ((pV.step bl2).cell' (i := 4) rfl) ?_
                    clear hK K hb
                    try simp only [List.getElem_toArray, List.getElem_cons_succ, List.getElem_cons_zero, Act.put, List.setIfInBounds_toArray, List.set_cons_zero, List.set_cons_succ]
                    refine walk_take 14 (v := ?vb1c14) rfl (by kernel_rfl) (by kernel_rfl) (by kernel_rfl) (fun _ _ _ h => h) ((pV.step bl2).cell' (i := 4) rfl) (Or.inl ⟨by rfl, ?yb1c14⟩) ?rb1c14
                    case yb1c14 => intro w hSw; (try dsimp only at hSw); go_simp; try rfl
                    case' rb1c14 => try simp only [List.getElem_toArray, List.getElem_cons_succ, List.getElem_cons_zero, Act.put, List.setIfInBounds_toArray, List.set_cons_zero, List.set_cons_succ]
                    refine walk_take 15 (v := ?vb1c15) rfl (by kernel_rfl) (by kernel_rfl) (by kernel_rfl) (fun _ _ _ h => h) ((pV.step bl2).cell' (i := 4) rfl) (Or.inl ⟨by rfl, ?yb1c15⟩) ?rb1c15
                    case yb1c15 => intro w hSw; (try dsimp only at hSw); go_simp; try rfl
                    case' rb1c15 => try simp only [List.getElem_toArray, List.getElem_cons_succ, List.getElem_cons_zero, Act.put, List.setIfInBounds_toArray, List.set_cons_zero, List.set_cons_succ]
                    refine walk_take 16 (v := ?vb1c16) rfl (by kernel_rfl) (by kernel_rfl) (by kernel_rfl) (fun _ _ _ h => h) ((pV.step bl2).cell' (i := 4) rfl) (Or.inl ⟨by rfl, ?yb1c16⟩) ?rb1c16
                    case yb1c16 => intro w hSw; (try dsimp only at hSw); go_simp; try rfl
                    case' rb1c16 => try simp only [List.getElem_toArray, List.getElem_cons_succ, List.getElem_cons_zero, Act.put, List.setIfInBounds_toArray, List.set_cons_zero, List.set_cons_succ]
                    have pe := pV.step bl2
                    have q3 := pe.cell' (i := 3) rfl
                    have kf := pe.frozen
                    have pf := pe.set_ 3 (.slice S7 k3n c7)
                    have q4 := pf.cell' (i := 4) rfl
                    have kf' := pf.frozen
                    refine walk_step 17 rfl (by kernel_rfl) (by kernel_rfl) (fun K hK => ?stb1)
                    case stb1 =>
                      go_simp
                      refine hK _ _ q4 ?_
                      clear hK K
                      try simp only [List.getElem_toArray, List.getElem_cons_succ, List.getElem_cons_zero, Act.put, List.setIfInBounds_toArray, List.set_cons_zero, List.set_cons_succ]
                      refine walk_tail (by kernel_rfl) ?_
                      simp only [List.drop_succ_cons, List.drop_zero]
                      have hOr2 := hOr.step bl2
                      have T7 := TV.step bl2
                      have hlr := fun (q : Nat) (hq : Touch R4 rl4 q) => hOr.lt hq
                      have hplt := pV.lt
                      have hnr : ¬ Touch R4 rl4 p := fun hq => by
                        rcases hq with e | ⟨i, r, hr, e⟩
                        · exact hOr.arr.notBlk pV (by decide) e
                        · exact (hOr.bs.1 i r hr).notBlk pV (by decide) e
                      have hs7 : ∀ q, Touch S7 sl7 q → w4.heap.size ≤ q := fun q hq => (hO7s.lt hq).1
                      have ha7 : ∀ q, Touch A7 al7 q → w4.heap.size ≤ q := fun q hq => by have := (hO7a.lt hq).1; have := bl1.size; omega
                      have hzb : base ≤ w4.heap.size := by omega
                      have hz1 := bl1.size
                      go_wp2_with fail
                      obtain ⟨rfl, rfl, rfl⟩ : h3 = H ∧ rl4.map RowR.b = rows ∧ err = 0 := by have := HRf.out; simp only [Prod.mk.injEq] at this; exact ⟨this.1, this.2.1, this.2.2.symm⟩
                      obtain rfl : k3n = m1 := by rw [← hsL, M1.out]
                      obtain rfl : n2 = m2 := by rw [← haL, M2.out]
                      obtain rfl : nR4 = nR := by rw [← NR.out, List.length_map]; exact hOr.len.symm
                      refine bodyPost_ret (v := .int .i64 0) (by simp [results, Try.results33, go_sem]) rfl ?_
                      refine ⟨S7, c7, A7, d7, R4, cR4, sl7, al7, rl4, rfl, ⟨hsl7, hal7, rfl⟩, pf.set_ 4 _, ?_, ?_, (hOr2.far (p := ⟨p, 3, none⟩) hnr _).far (p := ⟨p, 4, none⟩) hnr _, dsa, fun q h1 h2 => by have := hs7 q h1; have := (hlr q h2).2; omega, fun q h1 h2 => by have := ha7 q h1; have := (hlr q h2).2; omega, (T7.set (p := ⟨p, 3, none⟩) (fun _ => .inl rfl) _).set (p := ⟨p, 4, none⟩) (fun _ => .inl rfl) _⟩
                      · exact ((hO7s2.far (p := ⟨p, 3, none⟩) (fun ht => by have : w4.heap.size ≤ p := hs7 _ ht; omega) _).far (p := ⟨p, 4, none⟩) (fun ht => by have : w4.heap.size ≤ p := hs7 _ ht; omega) _).mono hzb
                      · exact ((hO7a.far (p := ⟨p, 3, none⟩) (fun ht => by have : w4.heap.size ≤ p := ha7 _ ht; omega) _).far (p := ⟨p, 4, none⟩) (fun ht => by have : w4.heap.size ≤ p := ha7 _ ht; omega) _).mono (by omega)
            · skip
              have HRf := Lib.hid (show ((h3, rl4.map RowR.b, (0 : Int)) : Hnd × List (List UInt8) × Int) = (H, rows, err) by have := HR5.out; rw [if_neg (by simp)] at this; rw [hrl4]; simpa using this)
              have hH : h3 = H := by have := HRf.out; simp only [Prod.mk.injEq] at this; exact this.1
              have hRs : RdRows w4 S3 h3.sent := by rw [← MS3]; exact hOs4.rd
              have hRa : RdRows w4 Ak h3.asked := by rw [← MA3]; exact hOa4.rd
              have f1 : RowsFit h3.sent k3n := by rw [← hln3, hH]; exact hfit.1
              have f2 : RowsFit h3.asked n2 := by rw [← hla3, hH]; exact hfit.2.1
              have hsL := hln3
              have haL := hla3
              have hOr := hO4r
              have TV := T34
              have pV := p4
              clear HR5 hH hO4r T34 p4 hln3 hla3 hOs4 hOa4 g4
              go_upto_region 11 with fail
              have CS := Lib.hid (fun w (hS : RdRows w S3 h3.sent) => clones_any S3 h3.sent k3n c3 w hsL hS f1.1 f1.2)
              have CA := Lib.hid (fun w (hA : RdRows w Ak h3.asked) => clones_any Ak h3.asked n2 dk w haL hA f2.1 f2.2)
              have k3 := pV.cell' (i := 3) rfl
              have k4 := pV.cell' (i := 4) rfl
              have zV := TV.size
              refine heldRegion (fun v => v.cell? ⟨p, 4, none⟩ = some (.slice Ak n2 dk)) 18 (by kernel_rfl) (by kernel_rfl) k4 (fun hSS => ?_)
              refine walk_take 0 (v := ?vb2a0) rfl (by kernel_rfl) (by kernel_rfl) (by kernel_rfl) (fun _ _ _ h => h) (hSS) (Or.inl ⟨by rfl, ?yb2a0⟩) ?rb2a0
              case yb2a0 => intro w hSw; (try dsimp only at hSw); go_simp; try rfl
              case' rb2a0 => try simp only [List.getElem_toArray, List.getElem_cons_succ, List.getElem_cons_zero, Act.put, List.setIfInBounds_toArray, List.set_cons_zero, List.set_cons_succ]
              refine walk_take 1 (v := ?vb2a1) rfl (by kernel_rfl) (by kernel_rfl) (by kernel_rfl) (fun _ _ _ h => h) (hSS) (Or.inl ⟨by rfl, ?yb2a1⟩) ?rb2a1
              case yb2a1 => intro w hSw; (try dsimp only at hSw); go_simp; try rfl
              case' rb2a1 => try simp only [List.getElem_toArray, List.getElem_cons_succ, List.getElem_cons_zero, Act.put, List.setIfInBounds_toArray, List.set_cons_zero, List.set_cons_succ]
              refine walk_take 2 (v := ?vb2a2) rfl (by kernel_rfl) (by kernel_rfl) (by kernel_rfl) (fun _ _ _ h => h) (hSS) (Or.inl ⟨by rfl, ?yb2a2⟩) ?rb2a2
              case yb2a2 => intro w hSw; (try dsimp only at hSw); go_simp; try rfl
              case' rb2a2 => try simp only [List.getElem_toArray, List.getElem_cons_succ, List.getElem_cons_zero, Act.put, List.setIfInBounds_toArray, List.set_cons_zero, List.set_cons_succ]
              refine walk_take 3 (v := ?vb2a3) rfl (by kernel_rfl) (by kernel_rfl) (by kernel_rfl) (fun _ _ _ h => h) (hSS) (Or.inl ⟨by rfl, ?yb2a3⟩) ?rb2a3
              case yb2a3 => intro w hSw; (try dsimp only at hSw); go_simp; try rfl
              case' rb2a3 => try simp only [List.getElem_toArray, List.getElem_cons_succ, List.getElem_cons_zero, Act.put, List.setIfInBounds_toArray, List.set_cons_zero, List.set_cons_succ]
              refine walk_take 4 (v := ?vb2a4) rfl (by kernel_rfl) (by kernel_rfl) (by kernel_rfl) (fun _ _ _ h => h) (hSS) (Or.inl ⟨by rfl, ?yb2a4⟩) ?rb2a4
              case yb2a4 => intro w hSw; (try dsimp only at hSw); go_simp; try rfl
              case' rb2a4 => try simp only [List.getElem_toArray, List.getElem_cons_succ, List.getElem_cons_zero, Act.put, List.setIfInBounds_toArray, List.set_cons_zero, List.set_cons_succ]
              refine walk_take 5 (v := ?vb2a5) rfl (by kernel_rfl) (by kernel_rfl) (by kernel_rfl) (fun _ _ _ h => h) (hSS) (Or.inl ⟨by rfl, ?yb2a5⟩) ?rb2a5
              case yb2a5 => intro w hSw; (try dsimp only at hSw); go_simp; try rfl
              case' rb2a5 => try simp only [List.getElem_toArray, List.getElem_cons_succ, List.getElem_cons_zero, Act.put, List.setIfInBounds_toArray, List.set_cons_zero, List.set_cons_succ]
              refine walk_take 8 (v := ?vb2a8) rfl (by kernel_rfl) (by kernel_rfl) (by kernel_rfl) (fun _ _ _ h => h) (hSS) (Or.inl ⟨by rfl, ?yb2a8⟩) ?rb2a8
              case yb2a8 => intro w hSw; (try dsimp only at hSw); go_simp; try rfl
              case' rb2a8 => try simp only [List.getElem_toArray, List.getElem_cons_succ, List.getElem_cons_zero, Act.put, List.setIfInBounds_toArray, List.set_cons_zero, List.set_cons_succ]
              refine walk_take 9 (v := ?vb2a9) rfl (by kernel_rfl) (by kernel_rfl) (by kernel_rfl) (fun _ _ _ h => h) (hSS) (Or.inl ⟨by rfl, ?yb2a9⟩) ?rb2a9
              case yb2a9 => intro w hSw; (try dsimp only at hSw); go_simp; try rfl
              case' rb2a9 => try simp only [List.getElem_toArray, List.getElem_cons_succ, List.getElem_cons_zero, Act.put, List.setIfInBounds_toArray, List.set_cons_zero, List.set_cons_succ]
              refine walk_take 10 (v := ?vb2a10) rfl (by kernel_rfl) (by kernel_rfl) (by kernel_rfl) (fun _ _ _ h => h) (hSS) (Or.inl ⟨by rfl, ?yb2a10⟩) ?rb2a10
              case yb2a10 => intro w hSw; (try dsimp only at hSw); go_simp; try rfl
              case' rb2a10 => try simp only [List.getElem_toArray, List.getElem_cons_succ, List.getElem_cons_zero, Act.put, List.setIfInBounds_toArray, List.set_cons_zero, List.set_cons_succ]
              refine walk_take 11 (v := ?vb2a11) rfl (by kernel_rfl) (by kernel_rfl) (by kernel_rfl) (fun _ _ _ h => h) (hSS) (Or.inl ⟨by rfl, ?yb2a11⟩) ?rb2a11
              case yb2a11 => intro w hSw; (try dsimp only at hSw); go_simp; try rfl
              case' rb2a11 => try simp only [List.getElem_toArray, List.getElem_cons_succ, List.getElem_cons_zero, Act.put, List.setIfInBounds_toArray, List.set_cons_zero, List.set_cons_succ]
              refine walk_take 12 (v := ?vb2a12) rfl (by kernel_rfl) (by kernel_rfl) (by kernel_rfl) (fun _ _ _ h => h) (hSS) (Or.inl ⟨by rfl, ?yb2a12⟩) ?rb2a12
              case yb2a12 => intro w hSw; (try dsimp only at hSw); go_simp; try rfl
              case' rb2a12 => try simp only [List.getElem_toArray, List.getElem_cons_succ, List.getElem_cons_zero, Act.put, List.setIfInBounds_toArray, List.set_cons_zero, List.set_cons_succ]
              refine walk_step 6 rfl (by kernel_rfl) (by kernel_rfl) (fun K hK => ?ldb2)
              case ldb2 =>
                go_simp
                refine hK _ _ k4 ?_
                clear hK K
                try simp only [List.getElem_toArray, List.getElem_cons_succ, List.getElem_cons_zero, Act.put, List.setIfInBounds_toArray, List.set_cons_zero, List.set_cons_succ]
                refine walk_step 7 rfl (by kernel_rfl) (by kernel_rfl) (fun K hK => ?csb2)
                case csb2 =>
                  go_simp
                  refine (CS.out w4.drew hRs).mono ?_
                  rintro e v1 ⟨S7, c7, rfl, ⟨sl7, hsl7, hO7s⟩, hb⟩
                  have bl1 : Below w4.heap.size w4 v1 := ((Below.refl w4.heap.size w4).drew).trans hb
                  have hO7s : OwnRs v1 w4.heap.size S7 k3n c7 sl7 := hO7s
                  have hl7s := fun (q : Nat) (hq : Touch S7 sl7 q) => (hO7s.lt hq).2
                  refine hK _ _ ((pV.step bl1).cell' (i := 4) rfl) ?_
                  clear hK K hb hSS
                  try simp only [List.getElem_toArray, List.getElem_cons_succ, List.getElem_cons_zero, Act.put, List.setIfInBounds_toArray, List.set_cons_zero, List.set_cons_succ]
                  refine walk_step 13 rfl (by kernel_rfl) (by kernel_rfl) (fun K hK => ?cab2)
                  case cab2 =>
                    go_simp
                    refine (CA.out v1 (hRa.below bl1)).mono ?_
                    rintro e v2 ⟨A7, d7, rfl, ⟨al7, hal7, hO7a⟩, hb⟩
                    have bl2 := bl1.trans (hb.mono bl1.size)
                    have hO7s2 := hO7s.step hb
                    have dsa : Disj S7 sl7 A7 al7 := fun q h1 h2 => by have := (hO7a.lt h2).1; have := hl7s q h1; omega
                    refine hK _ _ ((pV.step bl2).cell' (i := 4) rfl) ?_
                    clear hK K hb
                    try simp only [List.getElem_toArray, List.getElem_cons_succ, List.getElem_cons_zero, Act.put, List.setIfInBounds_toArray, List.set_cons_zero, List.set_cons_succ]
                    refine walk_take 14 (v := ?vb2c14) rfl (by kernel_rfl) (by kernel_rfl) (by kernel_rfl) (fun _ _ _ h => h) ((pV.step bl2).cell' (i := 4) rfl) (Or.inl ⟨by rfl, ?yb2c14⟩) ?rb2c14
                    case yb2c14 => intro w hSw; (try dsimp only at hSw); go_simp; try rfl
                    case' rb2c14 => try simp only [List.getElem_toArray, List.getElem_cons_succ, List.getElem_cons_zero, Act.put, List.setIfInBounds_toArray, List.set_cons_zero, List.set_cons_succ]
                    refine walk_take 15 (v := ?vb2c15) rfl (by kernel_rfl) (by kernel_rfl) (by kernel_rfl) (fun _ _ _ h => h) ((pV.step bl2).cell' (i := 4) rfl) (Or.inl ⟨by rfl, ?yb2c15⟩) ?rb2c15
                    case yb2c15 => intro w hSw; (try dsimp only at hSw); go_simp; try rfl
                    case' rb2c15 => try simp only [List.getElem_toArray, List.getElem_cons_succ, List.getElem_cons_zero, Act.put, List.setIfInBounds_toArray, List.set_cons_zero, List.set_cons_succ]
                    refine walk_take 16 (v := ?vb2c16) rfl (by kernel_rfl) (by kernel_rfl) (by kernel_rfl) (fun _ _ _ h => h) ((pV.step bl2).cell' (i := 4) rfl) (Or.inl ⟨by rfl, ?yb2c16⟩) ?rb2c16
                    case yb2c16 => intro w hSw; (try dsimp only at hSw); go_simp; try rfl
                    case' rb2c16 => try simp only [List.getElem_toArray, List.getElem_cons_succ, List.getElem_cons_zero, Act.put, List.setIfInBounds_toArray, List.set_cons_zero, List.set_cons_succ]
                    have pe := pV.step bl2
                    have q3 := pe.cell' (i := 3) rfl
                    have kf := pe.frozen
                    have pf := pe.set_ 3 (.slice S7 k3n c7)
                    have q4 := pf.cell' (i := 4) rfl
                    have kf' := pf.frozen
                    refine walk_step 17 rfl (by kernel_rfl) (by kernel_rfl) (fun K hK => ?stb2)
                    case stb2 =>
                      go_simp
                      refine hK _ _ q4 ?_
                      clear hK K
                      try simp only [List.getElem_toArray, List.getElem_cons_succ, List.getElem_cons_zero, Act.put, List.setIfInBounds_toArray, List.set_cons_zero, List.set_cons_succ]
                      refine walk_tail (by kernel_rfl) ?_
                      simp only [List.drop_succ_cons, List.drop_zero]
                      have hOr2 := hOr.step bl2
                      have T7 := TV.step bl2
                      have hlr := fun (q : Nat) (hq : Touch R4 rl4 q) => hOr.lt hq
                      have hplt := pV.lt
                      have hnr : ¬ Touch R4 rl4 p := fun hq => by
                        rcases hq with e | ⟨i, r, hr, e⟩
                        · exact hOr.arr.notBlk pV (by decide) e
                        · exact (hOr.bs.1 i r hr).notBlk pV (by decide) e
                      have hs7 : ∀ q, Touch S7 sl7 q → w4.heap.size ≤ q := fun q hq => (hO7s.lt hq).1
                      have ha7 : ∀ q, Touch A7 al7 q → w4.heap.size ≤ q := fun q hq => by have := (hO7a.lt hq).1; have := bl1.size; omega
                      have hzb : base ≤ w4.heap.size := by omega
                      have hz1 := bl1.size
                      go_wp2_with fail
                      obtain ⟨rfl, rfl, rfl⟩ : h3 = H ∧ rl4.map RowR.b = rows ∧ err = 0 := by have := HRf.out; simp only [Prod.mk.injEq] at this; exact ⟨this.1, this.2.1, this.2.2.symm⟩
                      obtain rfl : k3n = m1 := by rw [← hsL, M1.out]
                      obtain rfl : n2 = m2 := by rw [← haL, M2.out]
                      obtain rfl : nR4 = nR := by rw [← NR.out, List.length_map]; exact hOr.len.symm
                      refine bodyPost_ret (v := .int .i64 0) (by simp [results, Try.results33, go_sem]) rfl ?_
                      refine ⟨S7, c7, A7, d7, R4, cR4, sl7, al7, rl4, rfl, ⟨hsl7, hal7, rfl⟩, pf.set_ 4 _, ?_, ?_, (hOr2.far (p := ⟨p, 3, none⟩) hnr _).far (p := ⟨p, 4, none⟩) hnr _, dsa, fun q h1 h2 => by have := hs7 q h1; have := (hlr q h2).2; omega, fun q h1 h2 => by have := ha7 q h1; have := (hlr q h2).2; omega, (T7.set (p := ⟨p, 3, none⟩) (fun _ => .inl rfl) _).set (p := ⟨p, 4, none⟩) (fun _ => .inl rfl) _⟩
                      · exact ((hO7s2.far (p := ⟨p, 3, none⟩) (fun ht => by have : w4.heap.size ≤ p := hs7 _ ht; omega) _).far (p := ⟨p, 4, none⟩) (fun ht => by have : w4.heap.size ≤ p := hs7 _ ht; omega) _).mono hzb
                      · exact ((hO7a.far (p := ⟨p, 3, none⟩) (fun ht => by have : w4.heap.size ≤ p := ha7 _ ht; omega) _).far (p := ⟨p, 4, none⟩) (fun ht => by have : w4.heap.size ≤ p := ha7 _ ht; omega) _).mono (by omega)
        · cases gw
          · by_cases hsp : h2.since = h2.pause
            · have esp : (h2.since == h2.pause) = true := by rw [beq_iff_eq]; exact hsp
              have HR4 := Lib.hid (show goH h2 true false = (H, rows, err) by have := HR3.out; rw [esp] at this; exact this)
              clear HR3 hsp
              go_upto_region 9 with fail
              have y4 := g3.cell' (i := 4) rfl
              have y5 := g3.cell' (i := 5) rfl
              have y9 := p3.cell' (i := 9) rfl
              have y10 := p3.cell' (i := 10) rfl
              refine heldRegion (fun v => v.cell? ⟨q5, 4, none⟩ = some (.bool false) ∧ v.cell? ⟨q5, 5, none⟩ = some (.bool true) ∧ v.cell? ⟨p, 9, none⟩ = some (.int .i64 h2.since) ∧ v.cell? ⟨p, 10, none⟩ = some (.int .i64 h2.pause)) 21 (by kernel_rfl) (by kernel_rfl) ⟨y4, y5, y9, y10⟩ (fun hSS => ?_)
              refine walk_take 0 (v := ?vc0) rfl (by kernel_rfl) (by kernel_rfl) (by kernel_rfl) (fun _ _ _ h => h) (hSS) (Or.inl ⟨by rfl, ?yc0⟩) ?rc0
              case yc0 => intro w hSw; obtain ⟨hw1, hw2, hw3, hw4⟩ := hSw; (try dsimp only at hSw); go_simp; try rfl
              case' rc0 => try simp only [List.getElem_toArray, List.getElem_cons_succ, List.getElem_cons_zero, Act.put, List.setIfInBounds_toArray, List.set_cons_zero, List.set_cons_succ]
              refine walk_take 1 (v := ?vc1) rfl (by kernel_rfl) (by kernel_rfl) (by kernel_rfl) (fun _ _ _ h => h) (hSS) (Or.inl ⟨by rfl, ?yc1⟩) ?rc1
              case yc1 => intro w hSw; obtain ⟨hw1, hw2, hw3, hw4⟩ := hSw; (try dsimp only at hSw); go_simp; try rfl
              case' rc1 => try simp only [List.getElem_toArray, List.getElem_cons_succ, List.getElem_cons_zero, Act.put, List.setIfInBounds_toArray, List.set_cons_zero, List.set_cons_succ]
              refine walk_take 2 (v := ?vc2) rfl (by kernel_rfl) (by kernel_rfl) (by kernel_rfl) (fun _ _ _ h => h) (hSS) (Or.inl ⟨by rfl, ?yc2⟩) ?rc2
              case yc2 => intro w hSw; obtain ⟨hw1, hw2, hw3, hw4⟩ := hSw; (try dsimp only at hSw); go_simp; try rfl
              case' rc2 => try simp only [List.getElem_toArray, List.getElem_cons_succ, List.getElem_cons_zero, Act.put, List.setIfInBounds_toArray, List.set_cons_zero, List.set_cons_succ]
              refine walk_take 3 (v := ?vc3) rfl (by kernel_rfl) (by kernel_rfl) (by kernel_rfl) (fun _ _ _ h => h) (hSS) (Or.inl ⟨by rfl, ?yc3⟩) ?rc3
              case yc3 => intro w hSw; obtain ⟨hw1, hw2, hw3, hw4⟩ := hSw; (try dsimp only at hSw); go_simp; try rfl
              case' rc3 => try simp only [List.getElem_toArray, List.getElem_cons_succ, List.getElem_cons_zero, Act.put, List.setIfInBounds_toArray, List.set_cons_zero, List.set_cons_succ]
              refine walk_take 4 (v := ?vc4) rfl (by kernel_rfl) (by kernel_rfl) (by kernel_rfl) (fun _ _ _ h => h) (hSS) (Or.inl ⟨by rfl, ?yc4⟩) ?rc4
              case yc4 => intro w hSw; obtain ⟨hw1, hw2, hw3, hw4⟩ := hSw; (try dsimp only at hSw); go_simp; try rfl
              case' rc4 => try simp only [List.getElem_toArray, List.getElem_cons_succ, List.getElem_cons_zero, Act.put, List.setIfInBounds_toArray, List.set_cons_zero, List.set_cons_succ]
              refine walk_take 5 (v := ?vc5) rfl (by kernel_rfl) (by kernel_rfl) (by kernel_rfl) (fun _ _ _ h => h) (hSS) (Or.inl ⟨by rfl, ?yc5⟩) ?rc5
              case yc5 => intro w hSw; obtain ⟨hw1, hw2, hw3, hw4⟩ := hSw; (try dsimp only at hSw); go_simp; try rfl
              case' rc5 => try simp only [List.getElem_toArray, List.getElem_cons_succ, List.getElem_cons_zero, Act.put, List.setIfInBounds_toArray, List.set_cons_zero, List.set_cons_succ]
              refine walk_take 6 (v := ?vc6) rfl (by kernel_rfl) (by kernel_rfl) (by kernel_rfl) (fun _ _ _ h => h) (hSS) (Or.inl ⟨by rfl, ?yc6⟩) ?rc6
              case yc6 => intro w hSw; obtain ⟨hw1, hw2, hw3, hw4⟩ := hSw; (try dsimp only at hSw); go_simp; try rfl
              case' rc6 => try simp only [List.getElem_toArray, List.getElem_cons_succ, List.getElem_cons_zero, Act.put, List.setIfInBounds_toArray, List.set_cons_zero, List.set_cons_succ]
              refine walk_take 7 (v := ?vc7) rfl (by kernel_rfl) (by kernel_rfl) (by kernel_rfl) (fun _ _ _ h => h) (hSS) (Or.inl ⟨by rfl, ?yc7⟩) ?rc7
              case yc7 => intro w hSw; obtain ⟨hw1, hw2, hw3, hw4⟩ := hSw; (try dsimp only at hSw); go_simp; try rfl
              case' rc7 => try simp only [List.getElem_toArray, List.getElem_cons_succ, List.getElem_cons_zero, Act.put, List.setIfInBounds_toArray, List.set_cons_zero, List.set_cons_succ]
              refine walk_take 8 (v := ?vc8) rfl (by kernel_rfl) (by kernel_rfl) (by kernel_rfl) (fun _ _ _ h => h) (hSS) (Or.inl ⟨by rfl, ?yc8⟩) ?rc8
              case yc8 => intro w hSw; obtain ⟨hw1, hw2, hw3, hw4⟩ := hSw; (try dsimp only at hSw); go_simp; try rfl
              case' rc8 => try simp only [List.getElem_toArray, List.getElem_cons_succ, List.getElem_cons_zero, Act.put, List.setIfInBounds_toArray, List.set_cons_zero, List.set_cons_succ]
              refine walk_take 9 (v := ?vc9) rfl (by kernel_rfl) (by kernel_rfl) (by kernel_rfl) (fun _ _ _ h => h) (hSS) (Or.inl ⟨by rfl, ?yc9⟩) ?rc9
              case yc9 => intro w hSw; obtain ⟨hw1, hw2, hw3, hw4⟩ := hSw; (try dsimp only at hSw); go_simp; try rfl
              case' rc9 => try simp only [List.getElem_toArray, List.getElem_cons_succ, List.getElem_cons_zero, Act.put, List.setIfInBounds_toArray, List.set_cons_zero, List.set_cons_succ]
              refine walk_take 10 (v := ?vc10) rfl (by kernel_rfl) (by kernel_rfl) (by kernel_rfl) (fun _ _ _ h => h) (hSS) (Or.inl ⟨by rfl, ?yc10⟩) ?rc10
              case yc10 => intro w hSw; obtain ⟨hw1, hw2, hw3, hw4⟩ := hSw; (try dsimp only at hSw); go_simp; try rfl
              case' rc10 => try simp only [List.getElem_toArray, List.getElem_cons_succ, List.getElem_cons_zero, Act.put, List.setIfInBounds_toArray, List.set_cons_zero, List.set_cons_succ]
              refine walk_take 11 (v := ?vc11) rfl (by kernel_rfl) (by kernel_rfl) (by kernel_rfl) (fun _ _ _ h => h) (hSS) (Or.inl ⟨by rfl, ?yc11⟩) ?rc11
              case yc11 => intro w hSw; obtain ⟨hw1, hw2, hw3, hw4⟩ := hSw; (try dsimp only at hSw); go_simp; try rfl
              case' rc11 => try simp only [List.getElem_toArray, List.getElem_cons_succ, List.getElem_cons_zero, Act.put, List.setIfInBounds_toArray, List.set_cons_zero, List.set_cons_succ]
              refine walk_take 12 (v := ?vc12) rfl (by kernel_rfl) (by kernel_rfl) (by kernel_rfl) (fun _ _ _ h => h) (hSS) (Or.inl ⟨by rfl, ?yc12⟩) ?rc12
              case yc12 => intro w hSw; obtain ⟨hw1, hw2, hw3, hw4⟩ := hSw; (try dsimp only at hSw); go_simp; try rfl
              case' rc12 => try simp only [List.getElem_toArray, List.getElem_cons_succ, List.getElem_cons_zero, Act.put, List.setIfInBounds_toArray, List.set_cons_zero, List.set_cons_succ]
              refine walk_take 13 (v := ?vc13) rfl (by kernel_rfl) (by kernel_rfl) (by kernel_rfl) (fun _ _ _ h => h) (hSS) (Or.inl ⟨by rfl, ?yc13⟩) ?rc13
              case yc13 => intro w hSw; obtain ⟨hw1, hw2, hw3, hw4⟩ := hSw; (try dsimp only at hSw); go_simp; try rfl
              case' rc13 => try simp only [List.getElem_toArray, List.getElem_cons_succ, List.getElem_cons_zero, Act.put, List.setIfInBounds_toArray, List.set_cons_zero, List.set_cons_succ]
              refine walk_take 14 (v := ?vc14) rfl (by kernel_rfl) (by kernel_rfl) (by kernel_rfl) (fun _ _ _ h => h) (hSS) (Or.inl ⟨by rfl, ?yc14⟩) ?rc14
              case yc14 => intro w hSw; obtain ⟨hw1, hw2, hw3, hw4⟩ := hSw; (try dsimp only at hSw); go_simp; try rfl
              case' rc14 => try simp only [List.getElem_toArray, List.getElem_cons_succ, List.getElem_cons_zero, Act.put, List.setIfInBounds_toArray, List.set_cons_zero, List.set_cons_succ]
              refine walk_take 15 (v := ?vc15) rfl (by kernel_rfl) (by kernel_rfl) (by kernel_rfl) (fun _ _ _ h => h) (hSS) (Or.inl ⟨by rfl, ?yc15⟩) ?rc15
              case yc15 => intro w hSw; obtain ⟨hw1, hw2, hw3, hw4⟩ := hSw; (try dsimp only at hSw); go_simp; try rfl
              case' rc15 => try simp only [List.getElem_toArray, List.getElem_cons_succ, List.getElem_cons_zero, Act.put, List.setIfInBounds_toArray, List.set_cons_zero, List.set_cons_succ]
              refine walk_take 16 (v := ?vc16) rfl (by kernel_rfl) (by kernel_rfl) (by kernel_rfl) (fun _ _ _ h => h) (hSS) (Or.inl ⟨by rfl, ?yc16⟩) ?rc16
              case yc16 => intro w hSw; obtain ⟨hw1, hw2, hw3, hw4⟩ := hSw; (try dsimp only at hSw); go_simp; try rfl
              case' rc16 => try simp only [List.getElem_toArray, List.getElem_cons_succ, List.getElem_cons_zero, Act.put, List.setIfInBounds_toArray, List.set_cons_zero, List.set_cons_succ]
              refine walk_take 17 (v := ?vc17) rfl (by kernel_rfl) (by kernel_rfl) (by kernel_rfl) (fun _ _ _ h => h) (hSS) (Or.inl ⟨by rfl, ?yc17⟩) ?rc17
              case yc17 => intro w hSw; obtain ⟨hw1, hw2, hw3, hw4⟩ := hSw; (try dsimp only at hSw); go_simp; try rfl
              case' rc17 => try simp only [List.getElem_toArray, List.getElem_cons_succ, List.getElem_cons_zero, Act.put, List.setIfInBounds_toArray, List.set_cons_zero, List.set_cons_succ]
              refine walk_take 18 (v := ?vc18) rfl (by kernel_rfl) (by kernel_rfl) (by kernel_rfl) (fun _ _ _ h => h) (hSS) (Or.inl ⟨by rfl, ?yc18⟩) ?rc18
              case yc18 => intro w hSw; obtain ⟨hw1, hw2, hw3, hw4⟩ := hSw; (try dsimp only at hSw); go_simp; try rfl
              case' rc18 => try simp only [List.getElem_toArray, List.getElem_cons_succ, List.getElem_cons_zero, Act.put, List.setIfInBounds_toArray, List.set_cons_zero, List.set_cons_succ]
              refine walk_take 19 (v := ?vc19) rfl (by kernel_rfl) (by kernel_rfl) (by kernel_rfl) (fun _ _ _ h => h) (hSS) (Or.inl ⟨by rfl, ?yc19⟩) ?rc19
              case yc19 => intro w hSw; obtain ⟨hw1, hw2, hw3, hw4⟩ := hSw; (try dsimp only at hSw); go_simp; try rfl
              case' rc19 => try simp only [List.getElem_toArray, List.getElem_cons_succ, List.getElem_cons_zero, Act.put, List.setIfInBounds_toArray, List.set_cons_zero, List.set_cons_succ]
              refine walk_take 20 (v := ?vc20) rfl (by kernel_rfl) (by kernel_rfl) (by kernel_rfl) (fun _ _ _ h => h) (hSS) (Or.inl ⟨by rfl, ?yc20⟩) ?rc20
              case yc20 => intro w hSw; obtain ⟨hw1, hw2, hw3, hw4⟩ := hSw; (try dsimp only at hSw); go_simp; try rfl
              case' rc20 => try simp only [List.getElem_toArray, List.getElem_cons_succ, List.getElem_cons_zero, Act.put, List.setIfInBounds_toArray, List.set_cons_zero, List.set_cons_succ]
              clear hSS y4 y5 y9 y10 esp
              refine walk_tail (by kernel_rfl) ?_
              simp only [List.drop_succ_cons, List.drop_zero]
              have zb3 : base ≤ w3.drew.heap.size := by have := p3.lt; show base ≤ w3.heap.size; omega
              have HL := Lib.hid (late_any h2 true S3 Ak none k3n c3 n2 dk 0 0 p base sl3 [] w3.drew p3.drew MS2.out hOs3.drew (OwnRs.nil _ _) (Disj.nil _ _) t2 (by omega) zb3)
              go_wp2_with fail
              refine HL.out.mono ?_
              rintro e w4 ⟨rfl, R4, nR4, cR4, rl4, p4, hO4r, hrl4, hT4, T4⟩
              clear HL
              have hfit := fits_go t2 true false
              rw [HR4.out] at hfit
              have t3 := tick_late t2 true
              have hrw := late_rows t2 true
              obtain ⟨eks, eka⟩ := late_keeps h2 true
              have HR5 := Lib.hid HR4.out
              unfold goH at HR5
              clear HR4
              obtain ⟨r, hr⟩ : ∃ r, lateH h2 true = r := ⟨_, rfl⟩
              rw [hr] at HR5 p4 hrl4 t3 hrw eks eka ⊢
              clear hr
              obtain ⟨h3, r1, on⟩ := r
              dsimp only at HR5 p4 hrl4 t3 hrw eks eka ⊢
              have g4 := g3.drew.turned T4 (fun hq => by
                rcases hq with e | e
                · omega
                · exact nilT e)
              have nts : ∀ q, Touch S3 sl3 q → ¬ (q = p ∨ Touch (none : Option Addr) [] q) := fun q hq h => by
                rcases h with e | e
                · exact hns (e ▸ hT3 q hq)
                · exact nilT e
              have nta : ∀ q, Touch Ak al q → ¬ (q = p ∨ Touch (none : Option Addr) [] q) := fun q hq h => by
                rcases h with e | e
                · exact hna (e ▸ hq)
                · exact nilT e
              have hOs4 := hOs3.drew.turned T4 nts
              have hOa4 := hOa3.drew.turned T4 nta
              have hl3s := fun (q : Nat) (hq : Touch S3 sl3 q) => (hOs3.lt hq).2
              have hl3a := fun (q : Nat) (hq : Touch Ak al q) => (hOa3.lt hq).2
              have hT4' : ∀ q, Touch R4 rl4 q → w3.heap.size ≤ q := fun q hq => by
                rcases hT4 q hq with e | e
                · exact (nilT e).elim
                · exact e
              have T34 : Turned W w4 (fun q => q = p ∨ Touch Sk sl q ∨ Touch Ak al q) := (T23.drewN 1).trans T4 (fun i _ e => by
                rcases e with e | e
                · exact .inl e
                · exact (nilT e).elim)
              have MS3 : sl3.map RowR.b = h3.sent := MS2.out.trans eks.symm
              have MA3 : al.map RowR.b = h3.asked := MA2.out.trans eka.symm
              have hln3 : h3.sent.length = k3n := by rw [← MS3, List.length_map]; exact hOs4.len
              have hla3 : h3.asked.length = n2 := by rw [← MA3, List.length_map]; exact hOa4.len
              have hkr : nR4 ≤ 127 := by
                have e1 := hO4r.len
                have e2 : (rl4.map RowR.b).length = r1.length := by rw [hrl4]; simp
                rw [List.length_map] at e2
                have := hrw.1
                omega
              have z34 := T23.size
              have x4 := g4.cell' (i := 4) rfl
              clear eks eka hT4 T4 g3 hOs3 hOa3 T23 p3
              cases on
              · skip
                have HRf := Lib.hid (show ((h3, rl4.map RowR.b, (0 : Int)) : Hnd × List (List UInt8) × Int) = (H, rows, err) by have := HR5.out; rw [if_neg (by simp)] at this; rw [hrl4]; simpa using this)
                have hH : h3 = H := by have := HRf.out; simp only [Prod.mk.injEq] at this; exact this.1
                have hRs : RdRows w4 S3 h3.sent := by rw [← MS3]; exact hOs4.rd
                have hRa : RdRows w4 Ak h3.asked := by rw [← MA3]; exact hOa4.rd
                have f1 : RowsFit h3.sent k3n := by rw [← hln3, hH]; exact hfit.1
                have f2 : RowsFit h3.asked n2 := by rw [← hla3, hH]; exact hfit.2.1
                have hsL := hln3
                have haL := hla3
                have hOr := hO4r
                have TV := T34
                have pV := p4
                clear HR5 hH hO4r T34 p4 hln3 hla3 hOs4 hOa4 g4
                go_upto_region 11 with fail
                have CS := Lib.hid (fun w (hS : RdRows w S3 h3.sent) => clones_any S3 h3.sent k3n c3 w hsL hS f1.1 f1.2)
                have CA := Lib.hid (fun w (hA : RdRows w Ak h3.asked) => clones_any Ak h3.asked n2 dk w haL hA f2.1 f2.2)
                have k3 := pV.cell' (i := 3) rfl
                have k4 := pV.cell' (i := 4) rfl
                have zV := TV.size
                refine heldRegion (fun v => v.cell? ⟨p, 4, none⟩ = some (.slice Ak n2 dk)) 18 (by kernel_rfl) (by kernel_rfl) k4 (fun hSS => ?_)
                refine walk_take 0 (v := ?vc1a0) rfl (by kernel_rfl) (by kernel_rfl) (by kernel_rfl) (fun _ _ _ h => h) (hSS) (Or.inl ⟨by rfl, ?yc1a0⟩) ?rc1a0
                case yc1a0 => intro w hSw; (try dsimp only at hSw); go_simp; try rfl
                case' rc1a0 => try simp only [List.getElem_toArray, List.getElem_cons_succ, List.getElem_cons_zero, Act.put, List.setIfInBounds_toArray, List.set_cons_zero, List.set_cons_succ]
                refine walk_take 1 (v := ?vc1a1) rfl (by kernel_rfl) (by kernel_rfl) (by kernel_rfl) (fun _ _ _ h => h) (hSS) (Or.inl ⟨by rfl, ?yc1a1⟩) ?rc1a1
                case yc1a1 => intro w hSw; (try dsimp only at hSw); go_simp; try rfl
                case' rc1a1 => try simp only [List.getElem_toArray, List.getElem_cons_succ, List.getElem_cons_zero, Act.put, List.setIfInBounds_toArray, List.set_cons_zero, List.set_cons_succ]
                refine walk_take 2 (v := ?vc1a2) rfl (by kernel_rfl) (by kernel_rfl) (by kernel_rfl) (fun _ _ _ h => h) (hSS) (Or.inl ⟨by rfl, ?yc1a2⟩) ?rc1a2
                case yc1a2 => intro w hSw; (try dsimp only at hSw); go_simp; try rfl
                case' rc1a2 => try simp only [List.getElem_toArray, List.getElem_cons_succ, List.getElem_cons_zero, Act.put, List.setIfInBounds_toArray, List.set_cons_zero, List.set_cons_succ]
                refine walk_take 3 (v := ?vc1a3) rfl (by kernel_rfl) (by kernel_rfl) (by kernel_rfl) (fun _ _ _ h => h) (hSS) (Or.inl ⟨by rfl, ?yc1a3⟩) ?rc1a3
                case yc1a3 => intro w hSw; (try dsimp only at hSw); go_simp; try rfl
                case' rc1a3 => try simp only [List.getElem_toArray, List.getElem_cons_succ, List.getElem_cons_zero, Act.put, List.setIfInBounds_toArray, List.set_cons_zero, List.set_cons_succ]
                refine walk_take 4 (v := ?vc1a4) rfl (by kernel_rfl) (by kernel_rfl) (by kernel_rfl) (fun _ _ _ h => h) (hSS) (Or.inl ⟨by rfl, ?yc1a4⟩) ?rc1a4
                case yc1a4 => intro w hSw; (try dsimp only at hSw); go_simp; try rfl
                case' rc1a4 => try simp only [List.getElem_toArray, List.getElem_cons_succ, List.getElem_cons_zero, Act.put, List.setIfInBounds_toArray, List.set_cons_zero, List.set_cons_succ]
                refine walk_take 5 (v := ?vc1a5) rfl (by kernel_rfl) (by kernel_rfl) (by kernel_rfl) (fun _ _ _ h => h) (hSS) (Or.inl ⟨by rfl, ?yc1a5⟩) ?rc1a5
                case yc1a5 => intro w hSw; (try dsimp only at hSw); go_simp; try rfl
                case' rc1a5 => try simp only [List.getElem_toArray, List.getElem_cons_succ, List.getElem_cons_zero, Act.put, List.setIfInBounds_toArray, List.set_cons_zero, List.set_cons_succ]
                refine walk_take 8 (v := ?vc1a8) rfl (by kernel_rfl) (by kernel_rfl) (by kernel_rfl) (fun _ _ _ h => h) (hSS) (Or.inl ⟨by rfl, ?yc1a8⟩) ?rc1a8
                case yc1a8 => intro w hSw; (try dsimp only at hSw); go_simp; try rfl
                case' rc1a8 => try simp only [List.getElem_toArray, List.getElem_cons_succ, List.getElem_cons_zero, Act.put, List.setIfInBounds_toArray, List.set_cons_zero, List.set_cons_succ]
                refine walk_take 9 (v := ?vc1a9) rfl (by kernel_rfl) (by kernel_rfl) (by kernel_rfl) (fun _ _ _ h => h) (hSS) (Or.inl ⟨by rfl, ?yc1a9⟩) ?rc1a9
                case yc1a9 => intro w hSw; (try dsimp only at hSw); go_simp; try rfl
                case' rc1a9 => try simp only [List.getElem_toArray, List.getElem_cons_succ, List.getElem_cons_zero, Act.put, List.setIfInBounds_toArray, List.set_cons_zero, List.set_cons_succ]
                refine walk_take 10 (v := ?vc1a10) rfl (by kernel_rfl) (by kernel_rfl) (by kernel_rfl) (fun _ _ _ h => h) (hSS) (Or.inl ⟨by rfl, ?yc1a10⟩) ?rc1a10
                case yc1a10 => intro w hSw; (try dsimp only at hSw); go_simp; try rfl
                case' rc1a10 => try simp only [List.getElem_toArray, List.getElem_cons_succ, List.getElem_cons_zero, Act.put, List.setIfInBounds_toArray, List.set_cons_zero, List.set_cons_succ]
                refine walk_take 11 (v := ?vc1a11) rfl (by kernel_rfl) (by kernel_rfl) (by kernel_rfl) (fun _ _ _ h => h) (hSS) (Or.inl ⟨by rfl, ?yc1a11⟩) ?rc1a11
                case yc1a11 => intro w hSw; (try dsimp only at hSw); go_simp; try rfl
                case' rc1a11 => try simp only [List.getElem_toArray, List.getElem_cons_succ, List.getElem_cons_zero, Act.put, List.setIfInBounds_toArray, List.set_cons_zero, List.set_cons_succ]
                refine walk_take 12 (v := ?vc1a12) rfl (by kernel_rfl) (by kernel_rfl) (by kernel_rfl) (fun _ _ _ h => h) (hSS) (Or.inl ⟨by rfl, ?yc1a12⟩) ?rc1a12
                case yc1a12 => intro w hSw; (try dsimp only at hSw); go_simp; try rfl
                case' rc1a12 => try simp only [List.getElem_toArray, List.getElem_cons_succ, List.getElem_cons_zero, Act.put, List.setIfInBounds_toArray, List.set_cons_zero, List.set_cons_succ]
                refine walk_step 6 rfl (by kernel_rfl) (by kernel_rfl) (fun K hK => ?ldc1)
                case ldc1 =>
                  go_simp
                  refine hK _ _ k4 ?_
                  clear hK K
                  try simp only [List.getElem_toArray, List.getElem_cons_succ, List.getElem_cons_zero, Act.put, List.setIfInBounds_toArray, List.set_cons_zero, List.set_cons_succ]
                  refine walk_step 7 rfl (by kernel_rfl) (by kernel_rfl) (fun K hK => ?csc1)
                  case csc1 =>
                    go_simp
                    refine (CS.out w4.drew hRs).mono ?_
                    rintro e v1 ⟨S7, c7, rfl, ⟨sl7, hsl7, hO7s⟩, hb⟩
                    have bl1 : Below w4.heap.size w4 v1 := ((Below.refl w4.heap.size w4).drew).trans hb
                    have hO7s : OwnRs v1 w4.heap.size S7 k3n c7 sl7 := hO7s
                    have hl7s := fun (q : Nat) (hq : Touch S7 sl7 q) => (hO7s.lt hq).2
                    refine hK _ _ ((pV.step bl1).cell' (i := 4) rfl) ?_
                    clear hK K hb hSS
                    try simp only [List.getElem_toArray, List.getElem_cons_succ, List.getElem_cons_zero, Act.put, List.setIfInBounds_toArray, List.set_cons_zero, List.set_cons_succ]
                    refine walk_step 13 rfl (by kernel_rfl) (by kernel_rfl) (fun K hK => ?cac1)
                    case cac1 =>
                      go_simp
                      refine (CA.out v1 (hRa.below bl1)).mono ?_
                      rintro e v2 ⟨A7, d7, rfl, ⟨al7, hal7, hO7a⟩, hb⟩
                      have bl2 := bl1.trans (hb.mono bl1.size)
                      have hO7s2 := hO7s.step hb
                      have dsa : Disj S7 sl7 A7 al7 := fun q h1 h2 => by have := (hO7a.lt h2).1; have := hl7s q h1; omega
                      refine hK _ _ ((pV.step bl2).cell' (i := 4) rfl) ?_
                      clear hK K hb
                      try simp only [List.getElem_toArray, List.getElem_cons_succ, List.getElem_cons_zero, Act.put, List.setIfInBounds_toArray, List.set_cons_zero, List.set_cons_succ]
                      refine walk_take 14 (v := ?vc1c14) rfl (by kernel_rfl) (by kernel_rfl) (by kernel_rfl) (fun _ _ _ h => h) ((pV.step bl2).cell' (i := 4) rfl) (Or.inl ⟨by rfl, ?yc1c14⟩) ?rc1c14
                      case yc1c14 => intro w hSw; (try dsimp only at hSw); go_simp; try rfl
                      case' rc1c14 => try simp only [List.getElem_toArray, List.getElem_cons_succ, List.getElem_cons_zero, Act.put, List.setIfInBounds_toArray, List.set_cons_zero, List.set_cons_succ]
                      refine walk_take 15 (v := ?vc1c15) rfl (by kernel_rfl) (by kernel_rfl) (by kernel_rfl) (fun _ _ _ h => h) ((pV.step bl2).cell' (i := 4) rfl) (Or.inl ⟨by rfl, ?yc1c15⟩) ?rc1c15
                      case yc1c15 => intro w hSw; (try dsimp only at hSw); go_simp; try rfl
                      case' rc1c15 => try simp only [List.getElem_toArray, List.getElem_cons_succ, List.getElem_cons_zero, Act.put, List.setIfInBounds_toArray, List.set_cons_zero, List.set_cons_succ]
                      refine walk_take 16 (v := ?vc1c16) rfl (by kernel_rfl) (by kernel_rfl) (by kernel_rfl) (fun _ _ _ h => h) ((pV.step bl2).cell' (i := 4) rfl) (Or.inl ⟨by rfl, ?yc1c16⟩) ?rc1c16
                      case yc1c16 => intro w hSw; (try dsimp only at hSw); go_simp; try rfl
                      case' rc1c16 => try simp only [List.getElem_toArray, List.getElem_cons_succ, List.getElem_cons_zero, Act.put, List.setIfInBounds_toArray, List.set_cons_zero, List.set_cons_succ]
                      have pe := pV.step bl2
                      have q3 := pe.cell' (i := 3) rfl
                      have kf := pe.frozen
                      have pf := pe.set_ 3 (.slice S7 k3n c7)
                      have q4 := pf.cell' (i := 4) rfl
                      have kf' := pf.frozen
                      refine walk_step 17 rfl (by kernel_rfl) (by kernel_rfl) (fun K hK => ?stc1)
                      case stc1 =>
                        go_simp
                        refine hK _ _ q4 ?_
                        clear hK K
                        try simp only [List.getElem_toArray, List.getElem_cons_succ, List.getElem_cons_zero, Act.put, List.setIfInBounds_toArray, List.set_cons_zero, List.set_cons_succ]
                        refine walk_tail (by kernel_rfl) ?_
                        simp only [List.drop_succ_cons, List.drop_zero]
                        have hOr2 := hOr.step bl2
                        have T7 := TV.step bl2
                        have hlr := fun (q : Nat) (hq : Touch R4 rl4 q) => hOr.lt hq
                        have hplt := pV.lt
                        have hnr : ¬ Touch R4 rl4 p := fun hq => by
                          rcases hq with e | ⟨i, r, hr, e⟩
                          · exact hOr.arr.notBlk pV (by decide) e
                          · exact (hOr.bs.1 i r hr).notBlk pV (by decide) e
                        have hs7 : ∀ q, Touch S7 sl7 q → w4.heap.size ≤ q := fun q hq => (hO7s.lt hq).1
                        have ha7 : ∀ q, Touch A7 al7 q → w4.heap.size ≤ q := fun q hq => by have := (hO7a.lt hq).1; have := bl1.size; omega
                        have hzb : base ≤ w4.heap.size := by omega
                        have hz1 := bl1.size
                        go_wp2_with fail
                        obtain ⟨rfl, rfl, rfl⟩ : h3 = H ∧ rl4.map RowR.b = rows ∧ err = 0 := by have := HRf.out; simp only [Prod.mk.injEq] at this; exact ⟨this.1, this.2.1, this.2.2.symm⟩
                        obtain rfl : k3n = m1 := by rw [← hsL, M1.out]
                        obtain rfl : n2 = m2 := by rw [← haL, M2.out]
                        obtain rfl : nR4 = nR := by rw [← NR.out, List.length_map]; exact hOr.len.symm
                        refine bodyPost_ret (v := .int .i64 0) (by simp [results, Try.results33, go_sem]) rfl ?_
                        refine ⟨S7, c7, A7, d7, R4, cR4, sl7, al7, rl4, rfl, ⟨hsl7, hal7, rfl⟩, pf.set_ 4 _, ?_, ?_, (hOr2.far (p := ⟨p, 3, none⟩) hnr _).far (p := ⟨p, 4, none⟩) hnr _, dsa, fun q h1 h2 => by have := hs7 q h1; have := (hlr q h2).2; omega, fun q h1 h2 => by have := ha7 q h1; have := (hlr q h2).2; omega, (T7.set (p := ⟨p, 3, none⟩) (fun _ => .inl rfl) _).set (p := ⟨p, 4, none⟩) (fun _ => .inl rfl) _⟩
                        · exact ((hO7s2.far (p := ⟨p, 3, none⟩) (fun ht => by have : w4.heap.size ≤ p := hs7 _ ht; omega) _).far (p := ⟨p, 4, none⟩) (fun ht => by have : w4.heap.size ≤ p := hs7 _ ht; omega) _).mono hzb
                        · exact ((hO7a.far (p := ⟨p, 3, none⟩) (fun ht => by have : w4.heap.size ≤ p := ha7 _ ht; omega) _).far (p := ⟨p, 4, none⟩) (fun ht => by have : w4.heap.size ≤ p := ha7 _ ht; omega) _).mono (by omega)
              · skip
                have HM := Lib.hid (more_any h3 S3 Ak R4 k3n c3 n2 dk nR4 cR4 p base sl3 al rl4 w4 p4 MS3 MA3 hOs4 hOa4 hO4r dj3 (fun q h1 h2 => by have := hT4' q h2; have := hl3s q h1; omega) (fun q h1 h2 => by have := hT4' q h2; have := hl3a q h1; omega) t3 (by omega) (by have := p4.lt; omega))
                go_wp2_with fail
                refine HM.out.mono ?_
                rintro e w6 ⟨rfl, S6, c6, A6, d6, R6, cR6, rl6, p6, hRs, hRa, hOr, hrl6, hT6, T6⟩
                clear HM
                have hmn : moreN h3 ≤ n2 := by rw [← hla3]; exact Nat.min_le_right _ _
                have hsL : (moreH h3).1.sent.length = k3n + moreN h3 := by show (h3.sent ++ h3.asked.take (moreN h3)).length = _; rw [List.length_append, List.length_take, hln3, hla3]; omega
                have haL : (moreH h3).1.asked.length = n2 - moreN h3 := by show (h3.asked.drop (moreN h3)).length = _; rw [List.length_drop, hla3]
                have HRf := Lib.hid (show (((moreH h3).1, rl6.map RowR.b, (0 : Int)) : Hnd × List (List UInt8) × Int) = (H, rows, err) by have := HR5.out; rw [if_pos (by simp)] at this; rw [hrl6, hrl4]; simpa using this)
                have TV : Turned W w6 (fun q => q = p ∨ Touch Sk sl q ∨ Touch Ak al q) := T34.trans T6 (fun i hi e => by
                  rcases e with e | e | e
                  · exact .inl e
                  · exact .inr (.inl (hT3 i e))
                  · have := hT4' i e; omega)
                clear HR5 hrl6 hT6 T6 hO4r T34 p4 hOs4 hOa4 g4
                obtain ⟨h5, hh5⟩ : ∃ x, (moreH h3).1 = x := ⟨_, rfl⟩
                obtain ⟨ks, hks⟩ : ∃ x, k3n + moreN h3 = x := ⟨_, rfl⟩
                obtain ⟨ka, hka⟩ : ∃ x, n2 - moreN h3 = x := ⟨_, rfl⟩
                obtain ⟨kr, hkrr⟩ : ∃ x, nR4 + moreN h3 = x := ⟨_, rfl⟩
                rw [hh5, hks, hka, hkrr] at p6
                rw [hh5] at hRs hRa HRf hsL haL
                rw [hks] at hsL
                rw [hka] at haL
                rw [hkrr] at hOr
                clear hh5 hks hka hkrr hmn
                have hH : h5 = H := by have := HRf.out; simp only [Prod.mk.injEq] at this; exact this.1
                have f1 : RowsFit h5.sent ks := by rw [← hsL, hH]; exact hfit.1
                have f2 : RowsFit h5.asked ka := by rw [← haL, hH]; exact hfit.2.1
                have pV := p6
                clear hH p6
                go_upto_region 11 with fail
                have CS := Lib.hid (fun w (hS : RdRows w S6 h5.sent) => clones_any S6 h5.sent ks c6 w hsL hS f1.1 f1.2)
                have CA := Lib.hid (fun w (hA : RdRows w A6 h5.asked) => clones_any A6 h5.asked ka d6 w haL hA f2.1 f2.2)
                have k3 := pV.cell' (i := 3) rfl
                have k4 := pV.cell' (i := 4) rfl
                have zV := TV.size
                refine heldRegion (fun v => v.cell? ⟨p, 4, none⟩ = some (.slice A6 ka d6)) 18 (by kernel_rfl) (by kernel_rfl) k4 (fun hSS => ?_)
                refine walk_take 0 (v := ?vc2a0) rfl (by kernel_rfl) (by kernel_rfl) (by kernel_rfl) (fun _ _ _ h => h) (hSS) (Or.inl ⟨by rfl, ?yc2a0⟩) ?rc2a0
                case yc2a0 => intro w hSw; (try dsimp only at hSw); go_simp; try rfl
                case' rc2a0 => try simp only [List.getElem_toArray, List.getElem_cons_succ, List.getElem_cons_zero, Act.put, List.setIfInBounds_toArray, List.set_cons_zero, List.set_cons_succ]
                refine walk_take 1 (v := ?vc2a1) rfl (by kernel_rfl) (by kernel_rfl) (by kernel_rfl) (fun _ _ _ h => h) (hSS) (Or.inl ⟨by rfl, ?yc2a1⟩) ?rc2a1
                case yc2a1 => intro w hSw; (try dsimp only at hSw); go_simp; try rfl
                case' rc2a1 => try simp only [List.getElem_toArray, List.getElem_cons_succ, List.getElem_cons_zero, Act.put, List.setIfInBounds_toArray, List.set_cons_zero, List.set_cons_succ]
                refine walk_take 2 (v := ?vc2a2) rfl (by kernel_rfl) (by kernel_rfl) (by kernel_rfl) (fun _ _ _ h => h) (hSS) (Or.inl ⟨by rfl, ?yc2a2⟩) ?rc2a2
                case yc2a2 => intro w hSw; (try dsimp only at hSw); go_simp; try rfl
                case' rc2a2 => try simp only [List.getElem_toArray, List.getElem_cons_succ, List.getElem_cons_zero, Act.put, List.setIfInBounds_toArray, List.set_cons_zero, List.set_cons_succ]
                refine walk_take 3 (v := ?vc2a3) rfl (by kernel_rfl) (by kernel_rfl) (by kernel_rfl) (fun _ _ _ h => h) (hSS) (Or.inl ⟨by rfl, ?yc2a3⟩) ?rc2a3
                case yc2a3 => intro w hSw; (try dsimp only at hSw); go_simp; try rfl
                case' rc2a3 => try simp only [List.getElem_toArray, List.getElem_cons_succ, List.getElem_cons_zero, Act.put, List.setIfInBounds_toArray, List.set_cons_zero, List.set_cons_succ]
                refine walk_take 4 (v := ?vc2a4) rfl (by kernel_rfl) (by kernel_rfl) (by kernel_rfl) (fun _ _ _ h => h) (hSS) (Or.inl ⟨by rfl, ?yc2a4⟩) ?rc2a4
                case yc2a4 => intro w hSw; (try dsimp only at hSw); go_simp; try rfl
                case' rc2a4 => try simp only [List.getElem_toArray, List.getElem_cons_succ, List.getElem_cons_zero, Act.put, List.setIfInBounds_toArray, List.set_cons_zero, List.set_cons_succ]
                refine walk_take 5 (v := ?vc2a5) rfl (by kernel_rfl) (by kernel_rfl) (by kernel_rfl) (fun _ _ _ h => h) (hSS) (Or.inl ⟨by rfl, ?yc2a5⟩) ?rc2a5
                case yc2a5 => intro w hSw; (try dsimp only at hSw); go_simp; try rfl
                case' rc2a5 => try simp only [List.getElem_toArray, List.getElem_cons_succ, List.getElem_cons_zero, Act.put, List.setIfInBounds_toArray, List.set_cons_zero, List.set_cons_succ]
                refine walk_take 8 (v := ?vc2a8) rfl (by kernel_rfl) (by kernel_rfl) (by kernel_rfl) (fun _ _ _ h => h) (hSS) (Or.inl ⟨by rfl, ?yc2a8⟩) ?rc2a8
                case yc2a8 => intro w hSw; (try dsimp only at hSw); go_simp; try rfl
                case' rc2a8 => try simp only [List.getElem_toArray, List.getElem_cons_succ, List.getElem_cons_zero, Act.put, List.setIfInBounds_toArray, List.set_cons_zero, List.set_cons_succ]
                refine walk_take 9 (v := ?vc2a9) rfl (by kernel_rfl) (by kernel_rfl) (by kernel_rfl) (fun _ _ _ h => h) (hSS) (Or.inl ⟨by rfl, ?yc2a9⟩) ?rc2a9
                case yc2a9 => intro w hSw; (try dsimp only at hSw); go_simp; try rfl
                case' rc2a9 => try simp only [List.getElem_toArray, List.getElem_cons_succ, List.getElem_cons_zero, Act.put, List.setIfInBounds_toArray, List.set_cons_zero, List.set_cons_succ]
                refine walk_take 10 (v := ?vc2a10) rfl (by kernel_rfl) (by kernel_rfl) (by kernel_rfl) (fun _ _ _ h => h) (hSS) (Or.inl ⟨by rfl, ?yc2a10⟩) ?rc2a10
                case yc2a10 => intro w hSw; (try dsimp only at hSw); go_simp; try rfl
                case' rc2a10 => try simp only [List.getElem_toArray, List.getElem_cons_succ, List.getElem_cons_zero, Act.put, List.setIfInBounds_toArray, List.set_cons_zero, List.set_cons_succ]
                refine walk_take 11 (v := ?vc2a11) rfl (by kernel_rfl) (by kernel_rfl) (by kernel_rfl) (fun _ _ _ h => h) (hSS) (Or.inl ⟨by rfl, ?yc2a11⟩) ?rc2a11
                case yc2a11 => intro w hSw; (try dsimp only at hSw); go_simp; try rfl
                case' rc2a11 => try simp only [List.getElem_toArray, List.getElem_cons_succ, List.getElem_cons_zero, Act.put, List.setIfInBounds_toArray, List.set_cons_zero, List.set_cons_succ]
                refine walk_take 12 (v := ?vc2a12) rfl (by kernel_rfl) (by kernel_rfl) (by kernel_rfl) (fun _ _ _ h => h) (hSS) (Or.inl ⟨by rfl, ?yc2a12⟩) ?rc2a12
                case yc2a12 => intro w hSw; (try dsimp only at hSw); go_simp; try rfl
                case' rc2a12 => try simp only [List.getElem_toArray, List.getElem_cons_succ, List.getElem_cons_zero, Act.put, List.setIfInBounds_toArray, List.set_cons_zero, List.set_cons_succ]
                refine walk_step 6 rfl (by kernel_rfl) (by kernel_rfl) (fun K hK => ?ldc2)
                case ldc2 =>
                  go_simp
                  refine hK _ _ k4 ?_
                  clear hK K
                  try simp only [List.getElem_toArray, List.getElem_cons_succ, List.getElem_cons_zero, Act.put, List.setIfInBounds_toArray, List.set_cons_zero, List.set_cons_succ]
                  refine walk_step 7 rfl (by kernel_rfl) (by kernel_rfl) (fun K hK => ?csc2)
                  case csc2 =>
                    go_simp
                    refine (CS.out w6.drew hRs).mono ?_
                    rintro e v1 ⟨S7, c7, rfl, ⟨sl7, hsl7, hO7s⟩, hb⟩
                    have bl1 : Below w6.heap.size w6 v1 := ((Below.refl w6.heap.size w6).drew).trans hb
                    have hO7s : OwnRs v1 w6.heap.size S7 ks c7 sl7 := hO7s
                    have hl7s := fun (q : Nat) (hq : Touch S7 sl7 q) => (hO7s.lt hq).2
                    refine hK _ _ ((pV.step bl1).cell' (i := 4) rfl) ?_
                    clear hK K hb hSS
                    try simp only [List.getElem_toArray, List.getElem_cons_succ, List.getElem_cons_zero, Act.put, List.setIfInBounds_toArray, List.set_cons_zero, List.set_cons_succ]
                    refine walk_step 13 rfl (by kernel_rfl) (by kernel_rfl) (fun K hK => ?cac2)
                    case cac2 =>
                      go_simp
                      refine (CA.out v1 (hRa.below bl1)).mono ?_
                      rintro e v2 ⟨A7, d7, rfl, ⟨al7, hal7, hO7a⟩, hb⟩
                      have bl2 := bl1.trans (hb.mono bl1.size)
                      have hO7s2 := hO7s.step hb
                      have dsa : Disj S7 sl7 A7 al7 := fun q h1 h2 => by have := (hO7a.lt h2).1; have := hl7s q h1; omega
                      refine hK _ _ ((pV.step bl2).cell' (i := 4) rfl) ?_
                      clear hK K hb
                      try simp only [List.getElem_toArray, List.getElem_cons_succ, List.getElem_cons_zero, Act.put, List.setIfInBounds_toArray, List.set_cons_zero, List.set_cons_succ]
                      refine walk_take 14 (v := ?vc2c14) rfl (by kernel_rfl) (by kernel_rfl) (by kernel_rfl) (fun _ _ _ h => h) ((pV.step bl2).cell' (i := 4) rfl) (Or.inl ⟨by rfl, ?yc2c14⟩) ?rc2c14
                      case yc2c14 => intro w hSw; (try dsimp only at hSw); go_simp; try rfl
                      case' rc2c14 => try simp only [List.getElem_toArray, List.getElem_cons_succ, List.getElem_cons_zero, Act.put, List.setIfInBounds_toArray, List.set_cons_zero, List.set_cons_succ]
                      refine walk_take 15 (v := ?vc2c15) rfl (by kernel_rfl) (by kernel_rfl) (by kernel_rfl) (fun _ _ _ h => h) ((pV.step bl2).cell' (i := 4) rfl) (Or.inl ⟨by rfl, ?yc2c15⟩) ?rc2c15
                      case yc2c15 => intro w hSw; (try dsimp only at hSw); go_simp; try rfl
                      case' rc2c15 => try simp only [List.getElem_toArray, List.getElem_cons_succ, List.getElem_cons_zero, Act.put, List.setIfInBounds_toArray, List.set_cons_zero, List.set_cons_succ]
                      refine walk_take 16 (v := ?vc2c16) rfl (by kernel_rfl) (by kernel_rfl) (by kernel_rfl) (fun _ _ _ h => h) ((pV.step bl2).cell' (i := 4) rfl) (Or.inl ⟨by rfl, ?yc2c16⟩) ?rc2c16
                      case yc2c16 => intro w hSw; (try dsimp only at hSw); go_simp; try rfl
                      case' rc2c16 => try simp only [List.getElem_toArray, List.getElem_cons_succ, List.getElem_cons_zero, Act.put, List.setIfInBounds_toArray, List.set_cons_zero, List.set_cons_succ]
                      have pe := pV.step bl2
                      have q3 := pe.cell' (i := 3) rfl
                      have kf := pe.frozen
                      have pf := pe.set_ 3 (.slice S7 ks c7)
                      have q4 := pf.cell' (i := 4) rfl
                      have kf' := pf.frozen
                      refine walk_step 17 rfl (by kernel_rfl) (by kernel_rfl) (fun K hK => ?stc2)
                      case stc2 =>
                        go_simp
                        refine hK _ _ q4 ?_
                        clear hK K
                        try simp only [List.getElem_toArray, List.getElem_cons_succ, List.getElem_cons_zero, Act.put, List.setIfInBounds_toArray, List.set_cons_zero, List.set_cons_succ]
                        refine walk_tail (by kernel_rfl) ?_
                        simp only [List.drop_succ_cons, List.drop_zero]
                        have hOr2 := hOr.step bl2
                        have T7 := TV.step bl2
                        have hlr := fun (q : Nat) (hq : Touch R6 rl6 q) => hOr.lt hq
                        have hplt := pV.lt
                        have hnr : ¬ Touch R6 rl6 p := fun hq => by
                          rcases hq with e | ⟨i, r, hr, e⟩
                          · exact hOr.arr.notBlk pV (by decide) e
                          · exact (hOr.bs.1 i r hr).notBlk pV (by decide) e
                        have hs7 : ∀ q, Touch S7 sl7 q → w6.heap.size ≤ q := fun q hq => (hO7s.lt hq).1
                        have ha7 : ∀ q, Touch A7 al7 q → w6.heap.size ≤ q := fun q hq => by have := (hO7a.lt hq).1; have := bl1.size; omega
                        have hzb : base ≤ w6.heap.size := by omega
                        have hz1 := bl1.size
                        go_wp2_with fail
                        obtain ⟨rfl, rfl, rfl⟩ : h5 = H ∧ rl6.map RowR.b = rows ∧ err = 0 := by have := HRf.out; simp only [Prod.mk.injEq] at this; exact ⟨this.1, this.2.1, this.2.2.symm⟩
                        obtain rfl : ks = m1 := by rw [← hsL, M1.out]
                        obtain rfl : ka = m2 := by rw [← haL, M2.out]
                        obtain rfl : kr = nR := by rw [← NR.out, List.length_map]; exact hOr.len.symm
                        refine bodyPost_ret (v := .int .i64 0) (by simp [results, Try.results33, go_sem]) rfl ?_
                        refine ⟨S7, c7, A7, d7, R6, cR6, sl7, al7, rl6, rfl, ⟨hsl7, hal7, rfl⟩, pf.set_ 4 _, ?_, ?_, (hOr2.far (p := ⟨p, 3, none⟩) hnr _).far (p := ⟨p, 4, none⟩) hnr _, dsa, fun q h1 h2 => by have := hs7 q h1; have := (hlr q h2).2; omega, fun q h1 h2 => by have := ha7 q h1; have := (hlr q h2).2; omega, (T7.set (p := ⟨p, 3, none⟩) (fun _ => .inl rfl) _).set (p := ⟨p, 4, none⟩) (fun _ => .inl rfl) _⟩
                        · exact ((hO7s2.far (p := ⟨p, 3, none⟩) (fun ht => by have : w6.heap.size ≤ p := hs7 _ ht; omega) _).far (p := ⟨p, 4, none⟩) (fun ht => by have : w6.heap.size ≤ p := hs7 _ ht; omega) _).mono hzb
                        · exact ((hO7a.far (p := ⟨p, 3, none⟩) (fun ht => by have : w6.heap.size ≤ p := ha7 _ ht; omega) _).far (p := ⟨p, 4, none⟩) (fun ht => by have : w6.heap.size ≤ p := ha7 _ ht; omega) _).mono (by omega)
            · have esp : (h2.since == h2.pause) = false := by rw [beq_eq_false_iff_ne]; exact hsp
              have HR4 := Lib.hid (show goH h2 false false = (H, rows, err) by have := HR3.out; rw [esp] at this; exact this)
              clear HR3 hsp
              go_upto_region 9 with fail
              have y4 := g3.cell' (i := 4) rfl
              have y5 := g3.cell' (i := 5) rfl
              have y9 := p3.cell' (i := 9) rfl
              have y10 := p3.cell' (i := 10) rfl
              refine heldRegion (fun v => v.cell? ⟨q5, 4, none⟩ = some (.bool false) ∧ v.cell? ⟨q5, 5, none⟩ = some (.bool true) ∧ v.cell? ⟨p, 9, none⟩ = some (.int .i64 h2.since) ∧ v.cell? ⟨p, 10, none⟩ = some (.int .i64 h2.pause)) 21 (by kernel_rfl) (by kernel_rfl) ⟨y4, y5, y9, y10⟩ (fun hSS => ?_)
              refine walk_take 0 (v := ?vd0) rfl (by kernel_rfl) (by kernel_rfl) (by kernel_rfl) (fun _ _ _ h => h) (hSS) (Or.inl ⟨by rfl, ?yd0⟩) ?rd0
              case yd0 => intro w hSw; obtain ⟨hw1, hw2, hw3, hw4⟩ := hSw; (try dsimp only at hSw); go_simp; try rfl
              case' rd0 => try simp only [List.getElem_toArray, List.getElem_cons_succ, List.getElem_cons_zero, Act.put, List.setIfInBounds_toArray, List.set_cons_zero, List.set_cons_succ]
              refine walk_take 1 (v := ?vd1) rfl (by kernel_rfl) (by kernel_rfl) (by kernel_rfl) (fun _ _ _ h => h) (hSS) (Or.inl ⟨by rfl, ?yd1⟩) ?rd1
              case yd1 => intro w hSw; obtain ⟨hw1, hw2, hw3, hw4⟩ := hSw; (try dsimp only at hSw); go_simp; try rfl
              case' rd1 => try simp only [List.getElem_toArray, List.getElem_cons_succ, List.getElem_cons_zero, Act.put, List.setIfInBounds_toArray, List.set_cons_zero, List.set_cons_succ]
              refine walk_take 2 (v := ?vd2) rfl (by kernel_rfl) (by kernel_rfl) (by kernel_rfl) (fun _ _ _ h => h) (hSS) (Or.inl ⟨by rfl, ?yd2⟩) ?rd2
              case yd2 => intro w hSw; obtain ⟨hw1, hw2, hw3, hw4⟩ := hSw; (try dsimp only at hSw); go_simp; try rfl
              case' rd2 => try simp only [List.getElem_toArray, List.getElem_cons_succ, List.getElem_cons_zero, Act.put, List.setIfInBounds_toArray, List.set_cons_zero, List.set_cons_succ]
              refine walk_take 3 (v := ?vd3) rfl (by kernel_rfl) (by kernel_rfl) (by kernel_rfl) (fun _ _ _ h => h) (hSS) (Or.inl ⟨by rfl, ?yd3⟩) ?rd3
              case yd3 => intro w hSw; obtain ⟨hw1, hw2, hw3, hw4⟩ := hSw; (try dsimp only at hSw); go_simp; try rfl
              case' rd3 => try simp only [List.getElem_toArray, List.getElem_cons_succ, List.getElem_cons_zero, Act.put, List.setIfInBounds_toArray, List.set_cons_zero, List.set_cons_succ]
              refine walk_take 4 (v := ?vd4) rfl (by kernel_rfl) (by kernel_rfl) (by kernel_rfl) (fun _ _ _ h => h) (hSS) (Or.inl ⟨by rfl, ?yd4⟩) ?rd4
              case yd4 => intro w hSw; obtain ⟨hw1, hw2, hw3, hw4⟩ := hSw; (try dsimp only at hSw); go_simp; try rfl
              case' rd4 => try simp only [List.getElem_toArray, List.getElem_cons_succ, List.getElem_cons_zero, Act.put, List.setIfInBounds_toArray, List.set_cons_zero, List.set_cons_succ]
              refine walk_take 5 (v := ?vd5) rfl (by kernel_rfl) (by kernel_rfl) (by kernel_rfl) (fun _ _ _ h => h) (hSS) (Or.inl ⟨by rfl, ?yd5⟩) ?rd5
              case yd5 => intro w hSw; obtain ⟨hw1, hw2, hw3, hw4⟩ := hSw; (try dsimp only at hSw); go_simp; try rfl
              case' rd5 => try simp only [List.getElem_toArray, List.getElem_cons_succ, List.getElem_cons_zero, Act.put, List.setIfInBounds_toArray, List.set_cons_zero, List.set_cons_succ]
              refine walk_take 6 (v := ?vd6) rfl (by kernel_rfl) (by kernel_rfl) (by kernel_rfl) (fun _ _ _ h => h) (hSS) (Or.inl ⟨by rfl, ?yd6⟩) ?rd6
              case yd6 => intro w hSw; obtain ⟨hw1, hw2, hw3, hw4⟩ := hSw; (try dsimp only at hSw); go_simp; try rfl
              case' rd6 => try simp only [List.getElem_toArray, List.getElem_cons_succ, List.getElem_cons_zero, Act.put, List.setIfInBounds_toArray, List.set_cons_zero, List.set_cons_succ]
              refine walk_take 7 (v := ?vd7) rfl (by kernel_rfl) (by kernel_rfl) (by kernel_rfl) (fun _ _ _ h => h) (hSS) (Or.inl ⟨by rfl, ?yd7⟩) ?rd7
              case yd7 => intro w hSw; obtain ⟨hw1, hw2, hw3, hw4⟩ := hSw; (try dsimp only at hSw); go_simp; try rfl
              case' rd7 => try simp only [List.getElem_toArray, List.getElem_cons_succ, List.getElem_cons_zero, Act.put, List.setIfInBounds_toArray, List.set_cons_zero, List.set_cons_succ]
              refine walk_take 8 (v := ?vd8) rfl (by kernel_rfl) (by kernel_rfl) (by kernel_rfl) (fun _ _ _ h => h) (hSS) (Or.inl ⟨by rfl, ?yd8⟩) ?rd8
              case yd8 => intro w hSw; obtain ⟨hw1, hw2, hw3, hw4⟩ := hSw; (try dsimp only at hSw); go_simp; try rfl
              case' rd8 => try simp only [List.getElem_toArray, List.getElem_cons_succ, List.getElem_cons_zero, Act.put, List.setIfInBounds_toArray, List.set_cons_zero, List.set_cons_succ]
              refine walk_take 9 (v := ?vd9) rfl (by kernel_rfl) (by kernel_rfl) (by kernel_rfl) (fun _ _ _ h => h) (hSS) (Or.inl ⟨by rfl, ?yd9⟩) ?rd9
              case yd9 => intro w hSw; obtain ⟨hw1, hw2, hw3, hw4⟩ := hSw; (try dsimp only at hSw); go_simp; try rfl
              case' rd9 => try simp only [List.getElem_toArray, List.getElem_cons_succ, List.getElem_cons_zero, Act.put, List.setIfInBounds_toArray, List.set_cons_zero, List.set_cons_succ]
              refine walk_take 10 (v := ?vd10) rfl (by kernel_rfl) (by kernel_rfl) (by kernel_rfl) (fun _ _ _ h => h) (hSS) (Or.inl ⟨by rfl, ?yd10⟩) ?rd10
              case yd10 => intro w hSw; obtain ⟨hw1, hw2, hw3, hw4⟩ := hSw; (try dsimp only at hSw); go_simp; try rfl
              case' rd10 => try simp only [List.getElem_toArray, List.getElem_cons_succ, List.getElem_cons_zero, Act.put, List.setIfInBounds_toArray, List.set_cons_zero, List.set_cons_succ]
              refine walk_take 11 (v := ?vd11) rfl (by kernel_rfl) (by kernel_rfl) (by kernel_rfl) (fun _ _ _ h => h) (hSS) (Or.inl ⟨by rfl, ?yd11⟩) ?rd11
              case yd11 => intro w hSw; obtain ⟨hw1, hw2, hw3, hw4⟩ := hSw; (try dsimp only at hSw); go_simp; try rfl
              case' rd11 => try simp only [List.getElem_toArray, List.getElem_cons_succ, List.getElem_cons_zero, Act.put, List.setIfInBounds_toArray, List.set_cons_zero, List.set_cons_succ]
              refine walk_take 12 (v := ?vd12) rfl (by kernel_rfl) (by kernel_rfl) (by kernel_rfl) (fun _ _ _ h => h) (hSS) (Or.inl ⟨by rfl, ?yd12⟩) ?rd12
              case yd12 => intro w hSw; obtain ⟨hw1, hw2, hw3, hw4⟩ := hSw; (try dsimp only at hSw); go_simp; try rfl
              case' rd12 => try simp only [List.getElem_toArray, List.getElem_cons_succ, List.getElem_cons_zero, Act.put, List.setIfInBounds_toArray, List.set_cons_zero, List.set_cons_succ]
              refine walk_take 13 (v := ?vd13) rfl (by kernel_rfl) (by kernel_rfl) (by kernel_rfl) (fun _ _ _ h => h) (hSS) (Or.inl ⟨by rfl, ?yd13⟩) ?rd13
              case yd13 => intro w hSw; obtain ⟨hw1, hw2, hw3, hw4⟩ := hSw; (try dsimp only at hSw); go_simp; try rfl
              case' rd13 => try simp only [List.getElem_toArray, List.getElem_cons_succ, List.getElem_cons_zero, Act.put, List.setIfInBounds_toArray, List.set_cons_zero, List.set_cons_succ]
              refine walk_take 14 (v := ?vd14) rfl (by kernel_rfl) (by kernel_rfl) (by kernel_rfl) (fun _ _ _ h => h) (hSS) (Or.inl ⟨by rfl, ?yd14⟩) ?rd14
              case yd14 => intro w hSw; obtain ⟨hw1, hw2, hw3, hw4⟩ := hSw; (try dsimp only at hSw); go_simp; try rfl
              case' rd14 => try simp only [List.getElem_toArray, List.getElem_cons_succ, List.getElem_cons_zero, Act.put, List.setIfInBounds_toArray, List.set_cons_zero, List.set_cons_succ]
              refine walk_take 15 (v := ?vd15) rfl (by kernel_rfl) (by kernel_rfl) (by kernel_rfl) (fun _ _ _ h => h) (hSS) (Or.inl ⟨by rfl, ?yd15⟩) ?rd15
              case yd15 => intro w hSw; obtain ⟨hw1, hw2, hw3, hw4⟩ := hSw; (try dsimp only at hSw); go_simp; try rfl
              case' rd15 => try simp only [List.getElem_toArray, List.getElem_cons_succ, List.getElem_cons_zero, Act.put, List.setIfInBounds_toArray, List.set_cons_zero, List.set_cons_succ]
              refine walk_take 16 (v := ?vd16) rfl (by kernel_rfl) (by kernel_rfl) (by kernel_rfl) (fun _ _ _ h => h) (hSS) (Or.inl ⟨by rfl, ?yd16⟩) ?rd16
              case yd16 => intro w hSw; obtain ⟨hw1, hw2, hw3, hw4⟩ := hSw; (try dsimp only at hSw); go_simp; try rfl
              case' rd16 => try simp only [List.getElem_toArray, List.getElem_cons_succ, List.getElem_cons_zero, Act.put, List.setIfInBounds_toArray, List.set_cons_zero, List.set_cons_succ]
              refine walk_take 17 (v := ?vd17) rfl (by kernel_rfl) (by kernel_rfl) (by kernel_rfl) (fun _ _ _ h => h) (hSS) (Or.inl ⟨by rfl, ?yd17⟩) ?rd17
              case yd17 => intro w hSw; obtain ⟨hw1, hw2, hw3, hw4⟩ := hSw; (try dsimp only at hSw); go_simp; try rfl
              case' rd17 => try simp only [List.getElem_toArray, List.getElem_cons_succ, List.getElem_cons_zero, Act.put, List.setIfInBounds_toArray, List.set_cons_zero, List.set_cons_succ]
              refine walk_take 18 (v := ?vd18) rfl (by kernel_rfl) (by kernel_rfl) (by kernel_rfl) (fun _ _ _ h => h) (hSS) (Or.inl ⟨by rfl, ?yd18⟩) ?rd18
              case yd18 => intro w hSw; obtain ⟨hw1, hw2, hw3, hw4⟩ := hSw; (try dsimp only at hSw); go_simp; try rfl
              case' rd18 => try simp only [List.getElem_toArray, List.getElem_cons_succ, List.getElem_cons_zero, Act.put, List.setIfInBounds_toArray, List.set_cons_zero, List.set_cons_succ]
              refine walk_take 19 (v := ?vd19) rfl (by kernel_rfl) (by kernel_rfl) (by kernel_rfl) (fun _ _ _ h => h) (hSS) (Or.inl ⟨by rfl, ?yd19⟩) ?rd19
              case yd19 => intro w hSw; obtain ⟨hw1, hw2, hw3, hw4⟩ := hSw; (try dsimp only at hSw); go_simp; try rfl
              case' rd19 => try simp only [List.getElem_toArray, List.getElem_cons_succ, List.getElem_cons_zero, Act.put, List.setIfInBounds_toArray, List.set_cons_zero, List.set_cons_succ]
              refine walk_take 20 (v := ?vd20) rfl (by kernel_rfl) (by kernel_rfl) (by kernel_rfl) (fun _ _ _ h => h) (hSS) (Or.inl ⟨by rfl, ?yd20⟩) ?rd20
              case yd20 => intro w hSw; obtain ⟨hw1, hw2, hw3, hw4⟩ := hSw; (try dsimp only at hSw); go_simp; try rfl
              case' rd20 => try simp only [List.getElem_toArray, List.getElem_cons_succ, List.getElem_cons_zero, Act.put, List.setIfInBounds_toArray, List.set_cons_zero, List.set_cons_succ]
              clear hSS y4 y5 y9 y10 esp
              refine walk_tail (by kernel_rfl) ?_
              simp only [List.drop_succ_cons, List.drop_zero]
              have zb3 : base ≤ w3.drew.heap.size := by have := p3.lt; show base ≤ w3.heap.size; omega
              have HL := Lib.hid (late_any h2 false S3 Ak none k3n c3 n2 dk 0 0 p base sl3 [] w3.drew p3.drew MS2.out hOs3.drew (OwnRs.nil _ _) (Disj.nil _ _) t2 (by omega) zb3)
              go_wp2_with fail
              refine HL.out.mono ?_
              rintro e w4 ⟨rfl, R4, nR4, cR4, rl4, p4, hO4r, hrl4, hT4, T4⟩
              clear HL
              have hfit := fits_go t2 false false
              rw [HR4.out] at hfit
              have t3 := tick_late t2 false
              have hrw := late_rows t2 false
              obtain ⟨eks, eka⟩ := late_keeps h2 false
              have HR5 := Lib.hid HR4.out
              unfold goH at HR5
              clear HR4
              obtain ⟨r, hr⟩ : ∃ r, lateH h2 false = r := ⟨_, rfl⟩
              rw [hr] at HR5 p4 hrl4 t3 hrw eks eka ⊢
              clear hr
              obtain ⟨h3, r1, on⟩ := r
              dsimp only at HR5 p4 hrl4 t3 hrw eks eka ⊢
              have g4 := g3.drew.turned T4 (fun hq => by
                rcases hq with e | e
                · omega
                · exact nilT e)
              have nts : ∀ q, Touch S3 sl3 q → ¬ (q = p ∨ Touch (none : Option Addr) [] q) := fun q hq h => by
                rcases h with e | e
                · exact hns (e ▸ hT3 q hq)
                · exact nilT e
              have nta : ∀ q, Touch Ak al q → ¬ (q = p ∨ Touch (none : Option Addr) [] q) := fun q hq h => by
                rcases h with e | e
                · exact hna (e ▸ hq)
                · exact nilT e
              have hOs4 := hOs3.drew.turned T4 nts
              have hOa4 := hOa3.drew.turned T4 nta
              have hl3s := fun (q : Nat) (hq : Touch S3 sl3 q) => (hOs3.lt hq).2
              have hl3a := fun (q : Nat) (hq : Touch Ak al q) => (hOa3.lt hq).2
              have hT4' : ∀ q, Touch R4 rl4 q → w3.heap.size ≤ q := fun q hq => by
                rcases hT4 q hq with e | e
                · exact (nilT e).elim
                · exact e
              have T34 : Turned W w4 (fun q => q = p ∨ Touch Sk sl q ∨ Touch Ak al q) := (T23.drewN 1).trans T4 (fun i _ e => by
                rcases e with e | e
                · exact .inl e
                · exact (nilT e).elim)
              have MS3 : sl3.map RowR.b = h3.sent := MS2.out.trans eks.symm
              have MA3 : al.map RowR.b = h3.asked := MA2.out.trans eka.symm
              have hln3 : h3.sent.length = k3n := by rw [← MS3, List.length_map]; exact hOs4.len
              have hla3 : h3.asked.length = n2 := by rw [← MA3, List.length_map]; exact hOa4.len
              have hkr : nR4 ≤ 127 := by
                have e1 := hO4r.len
                have e2 : (rl4.map RowR.b).length = r1.length := by rw [hrl4]; simp
                rw [List.length_map] at e2
                have := hrw.1
                omega
              have z34 := T23.size
              have x4 := g4.cell' (i := 4) rfl
              clear eks eka hT4 T4 g3 hOs3 hOa3 T23 p3
              cases on
              · skip
                have HRf := Lib.hid (show ((h3, rl4.map RowR.b, (0 : Int)) : Hnd × List (List UInt8) × Int) = (H, rows, err) by have := HR5.out; rw [if_neg (by simp)] at this; rw [hrl4]; simpa using this)
                have hH : h3 = H := by have := HRf.out; simp only [Prod.mk.injEq] at this; exact this.1
                have hRs : RdRows w4 S3 h3.sent := by rw [← MS3]; exact hOs4.rd
                have hRa : RdRows w4 Ak h3.asked := by rw [← MA3]; exact hOa4.rd
                have f1 : RowsFit h3.sent k3n := by rw [← hln3, hH]; exact hfit.1
                have f2 : RowsFit h3.asked n2 := by rw [← hla3, hH]; exact hfit.2.1
                have hsL := hln3
                have haL := hla3
                have hOr := hO4r
                have TV := T34
                have pV := p4
                clear HR5 hH hO4r T34 p4 hln3 hla3 hOs4 hOa4 g4
                go_upto_region 11 with fail
                have CS := Lib.hid (fun w (hS : RdRows w S3 h3.sent) => clones_any S3 h3.sent k3n c3 w hsL hS f1.1 f1.2)
                have CA := Lib.hid (fun w (hA : RdRows w Ak h3.asked) => clones_any Ak h3.asked n2 dk w haL hA f2.1 f2.2)
                have k3 := pV.cell' (i := 3) rfl
                have k4 := pV.cell' (i := 4) rfl
                have zV := TV.size
                refine heldRegion (fun v => v.cell? ⟨p, 4, none⟩ = some (.slice Ak n2 dk)) 18 (by kernel_rfl) (by kernel_rfl) k4 (fun hSS => ?_)
                refine walk_take 0 (v := ?vd1a0) rfl (by kernel_rfl) (by kernel_rfl) (by kernel_rfl) (fun _ _ _ h => h) (hSS) (Or.inl ⟨by rfl, ?yd1a0⟩) ?rd1a0
                case yd1a0 => intro w hSw; (try dsimp only at hSw); go_simp; try rfl
                case' rd1a0 => try simp only [List.getElem_toArray, List.getElem_cons_succ, List.getElem_cons_zero, Act.put, List.setIfInBounds_toArray, List.set_cons_zero, List.set_cons_succ]
                refine walk_take 1 (v := ?vd1a1) rfl (by kernel_rfl) (by kernel_rfl) (by kernel_rfl) (fun _ _ _ h => h) (hSS) (Or.inl ⟨by rfl, ?yd1a1⟩) ?rd1a1
                case yd1a1 => intro w hSw; (try dsimp only at hSw); go_simp; try rfl
                case' rd1a1 => try simp only [List.getElem_toArray, List.getElem_cons_succ, List.getElem_cons_zero, Act.put, List.setIfInBounds_toArray, List.set_cons_zero, List.set_cons_succ]
                refine walk_take 2 (v := ?vd1a2) rfl (by kernel_rfl) (by kernel_rfl) (by kernel_rfl) (fun _ _ _ h => h) (hSS) (Or.inl ⟨by rfl, ?yd1a2⟩) ?rd1a2
                case yd1a2 => intro w hSw; (try dsimp only at hSw); go_simp; try rfl
                case' rd1a2 => try simp only [List.getElem_toArray, List.getElem_cons_succ, List.getElem_cons_zero, Act.put, List.setIfInBounds_toArray, List.set_cons_zero, List.set_cons_succ]
                refine walk_take 3 (v := ?vd1a3) rfl (by kernel_rfl) (by kernel_rfl) (by kernel_rfl) (fun _ _ _ h => h) (hSS) (Or.inl ⟨by rfl, ?yd1a3⟩) ?rd1a3
                case yd1a3 => intro w hSw; (try dsimp only at hSw); go_simp; try rfl
                case' rd1a3 => try simp only [List.getElem_toArray, List.getElem_cons_succ, List.getElem_cons_zero, Act.put, List.setIfInBounds_toArray, List.set_cons_zero, List.set_cons_succ]
                refine walk_take 4 (v := ?vd1a4) rfl (by kernel_rfl) (by kernel_rfl) (by kernel_rfl) (fun _ _ _ h => h) (hSS) (Or.inl ⟨by rfl, ?yd1a4⟩) ?rd1a4
                case yd1a4 => intro w hSw; (try dsimp only at hSw); go_simp; try rfl
                case' rd1a4 => try simp only [List.getElem_toArray, List.getElem_cons_succ, List.getElem_cons_zero, Act.put, List.setIfInBounds_toArray, List.set_cons_zero, List.set_cons_succ]
                refine walk_take 5 (v := ?vd1a5) rfl (by kernel_rfl) (by kernel_rfl) (by kernel_rfl) (fun _ _ _ h => h) (hSS) (Or.inl ⟨by rfl, ?yd1a5⟩) ?rd1a5
                case yd1a5 => intro w hSw; (try dsimp only at hSw); go_simp; try rfl
                case' rd1a5 => try simp only [List.getElem_toArray, List.getElem_cons_succ, List.getElem_cons_zero, Act.put, List.setIfInBounds_toArray, List.set_cons_zero, List.set_cons_succ]
                refine walk_take 8 (v := ?vd1a8) rfl (by kernel_rfl) (by kernel_rfl) (by kernel_rfl) (fun _ _ _ h => h) (hSS) (Or.inl ⟨by rfl, ?yd1a8⟩) ?rd1a8
                case yd1a8 => intro w hSw; (try dsimp only at hSw); go_simp; try rfl
                case' rd1a8 => try simp only [List.getElem_toArray, List.getElem_cons_succ, List.getElem_cons_zero, Act.put, List.setIfInBounds_toArray, List.set_cons_zero, List.set_cons_succ]
                refine walk_take 9 (v := ?vd1a9) rfl (by kernel_rfl) (by kernel_rfl) (by kernel_rfl) (fun _ _ _ h => h) (hSS) (Or.inl ⟨by rfl, ?yd1a9⟩) ?rd1a9
                case yd1a9 => intro w hSw; (try dsimp only at hSw); go_simp; try rfl
                case' rd1a9 => try simp only [List.getElem_toArray, List.getElem_cons_succ, List.getElem_cons_zero, Act.put, List.setIfInBounds_toArray, List.set_cons_zero, List.set_cons_succ]
                refine walk_take 10 (v := ?vd1a10) rfl (by kernel_rfl) (by kernel_rfl) (by kernel_rfl) (fun _ _ _ h => h) (hSS) (Or.inl ⟨by rfl, ?yd1a10⟩) ?rd1a10
                case yd1a10 => intro w hSw; (try dsimp only at hSw); go_simp; try rfl
                case' rd1a10 => try simp only [List.getElem_toArray, List.getElem_cons_succ, List.getElem_cons_zero, Act.put, List.setIfInBounds_toArray, List.set_cons_zero, List.set_cons_succ]
                refine walk_take 11 (v := ?vd1a11) rfl (by kernel_rfl) (by kernel_rfl) (by kernel_rfl) (fun _ _ _ h => h) (hSS) (Or.inl ⟨by rfl, ?yd1a11⟩) ?rd1a11
                case yd1a11 => intro w hSw; (try dsimp only at hSw); go_simp; try rfl
                case' rd1a11 => try simp only [List.getElem_toArray, List.getElem_cons_succ, List.getElem_cons_zero, Act.put, List.setIfInBounds_toArray, List.set_cons_zero, List.set_cons_succ]
                refine walk_take 12 (v := ?vd1a12) rfl (by kernel_rfl) (by kernel_rfl) (by kernel_rfl) (fun _ _ _ h => h) (hSS) (Or.inl ⟨by rfl, ?yd1a12⟩) ?rd1a12
                case yd1a12 => intro w hSw; (try dsimp only at hSw); go_simp; try rfl
                case' rd1a12 => try simp only [List.getElem_toArray, List.getElem_cons_succ, List.getElem_cons_zero, Act.put, List.setIfInBounds_toArray, List.set_cons_zero, List.set_cons_succ]
                refine walk_step 6 rfl (by kernel_rfl) (by kernel_rfl) (fun K hK => ?ldd1)
                case ldd1 =>
                  go_simp
                  refine hK _ _ k4 ?_
                  clear hK K
                  try simp only [List.getElem_toArray, List.getElem_cons_succ, List.getElem_cons_zero, Act.put, List.setIfInBounds_toArray, List.set_cons_zero, List.set_cons_succ]
                  refine walk_step 7 rfl (by kernel_rfl) (by kernel_rfl) (fun K hK => ?csd1)
                  case csd1 =>
                    go_simp
                    refine (CS.out w4.drew hRs).mono ?_
                    rintro e v1 ⟨S7, c7, rfl, ⟨sl7, hsl7, hO7s⟩, hb⟩
                    have bl1 : Below w4.heap.size w4 v1 := ((Below.refl w4.heap.size w4).drew).trans hb
                    have hO7s : OwnRs v1 w4.heap.size S7 k3n c7 sl7 := hO7s
                    have hl7s := fun (q : Nat) (hq : Touch S7 sl7 q) => (hO7s.lt hq).2
                    refine hK _ _ ((pV.step bl1).cell' (i := 4) rfl) ?_
                    clear hK K hb hSS
                    try simp only [List.getElem_toArray, List.getElem_cons_succ, List.getElem_cons_zero, Act.put, List.setIfInBounds_toArray, List.set_cons_zero, List.set_cons_succ]
                    refine walk_step 13 rfl (by kernel_rfl) (by kernel_rfl) (fun K hK => ?cad1)
                    case cad1 =>
                      go_simp
                      refine (CA.out v1 (hRa.below bl1)).mono ?_
                      rintro e v2 ⟨A7, d7, rfl, ⟨al7, hal7, hO7a⟩, hb⟩
                      have bl2 := bl1.trans (hb.mono bl1.size)
                      have hO7s2 := hO7s.step hb
                      have dsa : Disj S7 sl7 A7 al7 := fun q h1 h2 => by have := (hO7a.lt h2).1; have := hl7s q h1; omega
                      refine hK _ _ ((pV.step bl2).cell' (i := 4) rfl) ?_
                      clear hK K hb
                      try simp only [List.getElem_toArray, List.getElem_cons_succ, List.getElem_cons_zero, Act.put, List.setIfInBounds_toArray, List.set_cons_zero, List.set_cons_succ]
                      refine walk_take 14 (v := ?vd1c14) rfl (by kernel_rfl) (by kernel_rfl) (by kernel_rfl) (fun _ _ _ h => h) ((pV.step bl2).cell' (i := 4) rfl) (Or.inl ⟨by rfl, ?yd1c14⟩) ?rd1c14
                      case yd1c14 => intro w hSw; (try dsimp only at hSw); go_simp; try rfl
                      case' rd1c14 => try simp only [List.getElem_toArray, List.getElem_cons_succ, List.getElem_cons_zero, Act.put, List.setIfInBounds_toArray, List.set_cons_zero, List.set_cons_succ]
                      refine walk_take 15 (v := ?vd1c15) rfl (by kernel_rfl) (by kernel_rfl) (by kernel_rfl) (fun _ _ _ h => h) ((pV.step bl2).cell' (i := 4) rfl) (Or.inl ⟨by rfl, ?yd1c15⟩) ?rd1c15
                      case yd1c15 => intro w hSw; (try dsimp only at hSw); go_simp; try rfl
                      case' rd1c15 => try simp only [List.getElem_toArray, List.getElem_cons_succ, List.getElem_cons_zero, Act.put, List.setIfInBounds_toArray, List.set_cons_zero, List.set_cons_succ]
                      refine walk_take 16 (v := ?vd1c16) rfl (by kernel_rfl) (by kernel_rfl) (by kernel_rfl) (fun _ _ _ h => h) ((pV.step bl2).cell' (i := 4) rfl) (Or.inl ⟨by rfl, ?yd1c16⟩) ?rd1c16
                      case yd1c16 => intro w hSw; (try dsimp only at hSw); go_simp; try rfl
                      case' rd1c16 => try simp only [List.getElem_toArray, List.getElem_cons_succ, List.getElem_cons_zero, Act.put, List.setIfInBounds_toArray, List.set_cons_zero, List.set_cons_succ]
                      have pe := pV.step bl2
                      have q3 := pe.cell' (i := 3) rfl
                      have kf := pe.frozen
                      have pf := pe.set_ 3 (.slice S7 k3n c7)
                      have q4 := pf.cell' (i := 4) rfl
                      have kf' := pf.frozen
                      refine walk_step 17 rfl (by kernel_rfl) (by kernel_rfl) (fun K hK => ?std1)
                      case std1 =>
                        go_simp
                        refine hK _ _ q4 ?_
                        clear hK K
                        try simp only [List.getElem_toArray, List.getElem_cons_succ, List.getElem_cons_zero, Act.put, List.setIfInBounds_toArray, List.set_cons_zero, List.set_cons_succ]
                        refine walk_tail (by kernel_rfl) ?_
                        simp only [List.drop_succ_cons, List.drop_zero]
                        have hOr2 := hOr.step bl2
                        have T7 := TV.step bl2
                        have hlr := fun (q : Nat) (hq : Touch R4 rl4 q) => hOr.lt hq
                        have hplt := pV.lt
                        have hnr : ¬ Touch R4 rl4 p := fun hq => by
                          rcases hq with e | ⟨i, r, hr, e⟩
                          · exact hOr.arr.notBlk pV (by decide) e
                          · exact (hOr.bs.1 i r hr).notBlk pV (by decide) e
                        have hs7 : ∀ q, Touch S7 sl7 q → w4.heap.size ≤ q := fun q hq => (hO7s.lt hq).1
                        have ha7 : ∀ q, Touch A7 al7 q → w4.heap.size ≤ q := fun q hq => by have := (hO7a.lt hq).1; have := bl1.size; omega
                        have hzb : base ≤ w4.heap.size := by omega
                        have hz1 := bl1.size
                        go_wp2_with fail
                        obtain ⟨rfl, rfl, rfl⟩ : h3 = H ∧ rl4.map RowR.b = rows ∧ err = 0 := by have := HRf.out; simp only [Prod.mk.injEq] at this; exact ⟨this.1, this.2.1, this.2.2.symm⟩
                        obtain rfl : k3n = m1 := by rw [← hsL, M1.out]
                        obtain rfl : n2 = m2 := by rw [← haL, M2.out]
                        obtain rfl : nR4 = nR := by rw [← NR.out, List.length_map]; exact hOr.len.symm
                        refine bodyPost_ret (v := .int .i64 0) (by simp [results, Try.results33, go_sem]) rfl ?_
                        refine ⟨S7, c7, A7, d7, R4, cR4, sl7, al7, rl4, rfl, ⟨hsl7, hal7, rfl⟩, pf.set_ 4 _, ?_, ?_, (hOr2.far (p := ⟨p, 3, none⟩) hnr _).far (p := ⟨p, 4, none⟩) hnr _, dsa, fun q h1 h2 => by have := hs7 q h1; have := (hlr q h2).2; omega, fun q h1 h2 => by have := ha7 q h1; have := (hlr q h2).2; omega, (T7.set (p := ⟨p, 3, none⟩) (fun _ => .inl rfl) _).set (p := ⟨p, 4, none⟩) (fun _ => .inl rfl) _⟩
                        · exact ((hO7s2.far (p := ⟨p, 3, none⟩) (fun ht => by have : w4.heap.size ≤ p := hs7 _ ht; omega) _).far (p := ⟨p, 4, none⟩) (fun ht => by have : w4.heap.size ≤ p := hs7 _ ht; omega) _).mono hzb
                        · exact ((hO7a.far (p := ⟨p, 3, none⟩) (fun ht => by have : w4.heap.size ≤ p := ha7 _ ht; omega) _).far (p := ⟨p, 4, none⟩) (fun ht => by have : w4.heap.size ≤ p := ha7 _ ht; omega) _).mono (by omega)
              · skip
                have HM := Lib.hid (more_any h3 S3 Ak R4 k3n c3 n2 dk nR4 cR4 p base sl3 al rl4 w4 p4 MS3 MA3 hOs4 hOa4 hO4r dj3 (fun q h1 h2 => by have := hT4' q h2; have := hl3s q h1; omega) (fun q h1 h2 => by have := hT4' q h2; have := hl3a q h1; omega) t3 (by omega) (by have := p4.lt; omega))
                go_wp2_with fail
                refine HM.out.mono ?_
                rintro e w6 ⟨rfl, S6, c6, A6, d6, R6, cR6, rl6, p6, hRs, hRa, hOr, hrl6, hT6, T6⟩
                clear HM
                have hmn : moreN h3 ≤ n2 := by rw [← hla3]; exact Nat.min_le_right _ _
                have hsL : (moreH h3).1.sent.length = k3n + moreN h3 := by show (h3.sent ++ h3.asked.take (moreN h3)).length = _; rw [List.length_append, List.length_take, hln3, hla3]; omega
                have haL : (moreH h3).1.asked.length = n2 - moreN h3 := by show (h3.asked.drop (moreN h3)).length = _; rw [List.length_drop, hla3]
                have HRf := Lib.hid (show (((moreH h3).1, rl6.map RowR.b, (0 : Int)) : Hnd × List (List UInt8) × Int) = (H, rows, err) by have := HR5.out; rw [if_pos (by simp)] at this; rw [hrl6, hrl4]; simpa using this)
                have TV : Turned W w6 (fun q => q = p ∨ Touch Sk sl q ∨ Touch Ak al q) := T34.trans T6 (fun i hi e => by
                  rcases e with e | e | e
                  · exact .inl e
                  · exact .inr (.inl (hT3 i e))
                  · have := hT4' i e; omega)
                clear HR5 hrl6 hT6 T6 hO4r T34 p4 hOs4 hOa4 g4
                obtain ⟨h5, hh5⟩ : ∃ x, (moreH h3).1 = x := ⟨_, rfl⟩
                obtain ⟨ks, hks⟩ : ∃ x, k3n + moreN h3 = x := ⟨_, rfl⟩
                obtain ⟨ka, hka⟩ : ∃ x, n2 - moreN h3 = x := ⟨_, rfl⟩
                obtain ⟨kr, hkrr⟩ : ∃ x, nR4 + moreN h3 = x := ⟨_, rfl⟩
                rw [hh5, hks, hka, hkrr] at p6
                rw [hh5] at hRs hRa HRf hsL haL
                rw [hks] at hsL
                rw [hka] at haL
                rw [hkrr] at hOr
                clear hh5 hks hka hkrr hmn
                have hH : h5 = H := by have := HRf.out; simp only [Prod.mk.injEq] at this; exact this.1
                have f1 : RowsFit h5.sent ks := by rw [← hsL, hH]; exact hfit.1
                have f2 : RowsFit h5.asked ka := by rw [← haL, hH]; exact hfit.2.1
                have pV := p6
                clear hH p6
                go_upto_region 11 with fail
                have CS := Lib.hid (fun w (hS : RdRows w S6 h5.sent) => clones_any S6 h5.sent ks c6 w hsL hS f1.1 f1.2)
                have CA := Lib.hid (fun w (hA : RdRows w A6 h5.asked) => clones_any A6 h5.asked ka d6 w haL hA f2.1 f2.2)
                have k3 := pV.cell' (i := 3) rfl
                have k4 := pV.cell' (i := 4) rfl
                have zV := TV.size
                refine heldRegion (fun v => v.cell? ⟨p, 4, none⟩ = some (.slice A6 ka d6)) 18 (by kernel_rfl) (by kernel_rfl) k4 (fun hSS => ?_)
                refine walk_take 0 (v := ?vd2a0) rfl (by kernel_rfl) (by kernel_rfl) (by kernel_rfl) (fun _ _ _ h => h) (hSS) (Or.inl ⟨by rfl, ?yd2a0⟩) ?rd2a0
                case yd2a0 => intro w hSw; (try dsimp only at hSw); go_simp; try rfl
                case' rd2a0 => try simp only [List.getElem_toArray, List.getElem_cons_succ, List.getElem_cons_zero, Act.put, List.setIfInBounds_toArray, List.set_cons_zero, List.set_cons_succ]
                refine walk_take 1 (v := ?vd2a1) rfl (by kernel_rfl) (by kernel_rfl) (by kernel_rfl) (fun _ _ _ h => h) (hSS) (Or.inl ⟨by rfl, ?yd2a1⟩) ?rd2a1
                case yd2a1 => intro w hSw; (try dsimp only at hSw); go_simp; try rfl
                case' rd2a1 => try simp only [List.getElem_toArray, List.getElem_cons_succ, List.getElem_cons_zero, Act.put, List.setIfInBounds_toArray, List.set_cons_zero, List.set_cons_succ]
                refine walk_take 2 (v := ?vd2a2) rfl (by kernel_rfl) (by kernel_rfl) (by kernel_rfl) (fun _ _ _ h => h) (hSS) (Or.inl ⟨by rfl, ?yd2a2⟩) ?rd2a2
                case yd2a2 => intro w hSw; (try dsimp only at hSw); go_simp; try rfl
                case' rd2a2 => try simp only [List.getElem_toArray, List.getElem_cons_succ, List.getElem_cons_zero, Act.put, List.setIfInBounds_toArray, List.set_cons_zero, List.set_cons_succ]
                refine walk_take 3 (v := ?vd2a3) rfl (by kernel_rfl) (by kernel_rfl) (by kernel_rfl) (fun _ _ _ h => h) (hSS) (Or.inl ⟨by rfl, ?yd2a3⟩) ?rd2a3
                case yd2a3 => intro w hSw; (try dsimp only at hSw); go_simp; try rfl
                case' rd2a3 => try simp only [List.getElem_toArray, List.getElem_cons_succ, List.getElem_cons_zero, Act.put, List.setIfInBounds_toArray, List.set_cons_zero, List.set_cons_succ]
                refine walk_take 4 (v := ?vd2a4) rfl (by kernel_rfl) (by kernel_rfl) (by kernel_rfl) (fun _ _ _ h => h) (hSS) (Or.inl ⟨by rfl, ?yd2a4⟩) ?rd2a4
                case yd2a4 => intro w hSw; (try dsimp only at hSw); go_simp; try rfl
                case' rd2a4 => try simp only [List.getElem_toArray, List.getElem_cons_succ, List.getElem_cons_zero, Act.put, List.setIfInBounds_toArray, List.set_cons_zero, List.set_cons_succ]
                refine walk_take 5 (v := ?vd2a5) rfl (by kernel_rfl) (by kernel_rfl) (by kernel_rfl) (fun _ _ _ h => h) (hSS) (Or.inl ⟨by rfl, ?yd2a5⟩) ?rd2a5
                case yd2a5 => intro w hSw; (try dsimp only at hSw); go_simp; try rfl
                case' rd2a5 => try simp only [List.getElem_toArray, List.getElem_cons_succ, List.getElem_cons_zero, Act.put, List.setIfInBounds_toArray, List.set_cons_zero, List.set_cons_succ]
                refine walk_take 8 (v := ?vd2a8) rfl (by kernel_rfl) (by kernel_rfl) (by kernel_rfl) (fun _ _ _ h => h) (hSS) (Or.inl ⟨by rfl, ?yd2a8⟩) ?rd2a8
                case yd2a8 => intro w hSw; (try dsimp only at hSw); go_simp; try rfl
                case' rd2a8 => try simp only [List.getElem_toArray, List.getElem_cons_succ, List.getElem_cons_zero, Act.put, List.setIfInBounds_toArray, List.set_cons_zero, List.set_cons_succ]
                refine walk_take 9 (v := ?vd2a9) rfl (by kernel_rfl) (by kernel_rfl) (by kernel_rfl) (fun _ _ _ h => h) (hSS) (Or.inl ⟨by rfl, ?yd2a9⟩) ?rd2a9
                case yd2a9 => intro w hSw; (try dsimp only at hSw); go_simp; try rfl
                case' rd2a9 => try simp only [List.getElem_toArray, List.getElem_cons_succ, List.getElem_cons_zero, Act.put, List.setIfInBounds_toArray, List.set_cons_zero, List.set_cons_succ]
                refine walk_take 10 (v := ?vd2a10) rfl (by kernel_rfl) (by kernel_rfl) (by kernel_rfl) (fun _ _ _ h => h) (hSS) (Or.inl ⟨by rfl, ?yd2a10⟩) ?rd2a10
                case yd2a10 => intro w hSw; (try dsimp only at hSw); go_simp; try rfl
                case' rd2a10 => try simp only [List.getElem_toArray, List.getElem_cons_succ, List.getElem_cons_zero, Act.put, List.setIfInBounds_toArray, List.set_cons_zero, List.set_cons_succ]
                refine walk_take 11 (v := ?vd2a11) rfl (by kernel_rfl) (by kernel_rfl) (by kernel_rfl) (fun _ _ _ h => h) (hSS) (Or.inl ⟨by rfl, ?yd2a11⟩) ?rd2a11
                case yd2a11 => intro w hSw; (try dsimp only at hSw); go_simp; try rfl
                case' rd2a11 => try simp only [List.getElem_toArray, List.getElem_cons_succ, List.getElem_cons_zero, Act.put, List.setIfInBounds_toArray, List.set_cons_zero, List.set_cons_succ]
                refine walk_take 12 (v := ?vd2a12) rfl (by kernel_rfl) (by kernel_rfl) (by kernel_rfl) (fun _ _ _ h => h) (hSS) (Or.inl ⟨by rfl, ?yd2a12⟩) ?rd2a12
                case yd2a12 => intro w hSw; (try dsimp only at hSw); go_simp; try rfl
                case' rd2a12 => try simp only [List.getElem_toArray, List.getElem_cons_succ, List.getElem_cons_zero, Act.put, List.setIfInBounds_toArray, List.set_cons_zero, List.set_cons_succ]
                refine walk_step 6 rfl (by kernel_rfl) (by kernel_rfl) (fun K hK => ?ldd2)
                case ldd2 =>
                  go_simp
                  refine hK _ _ k4 ?_
                  clear hK K
                  try simp only [List.getElem_toArray, List.getElem_cons_succ, List.getElem_cons_zero, Act.put, List.setIfInBounds_toArray, List.set_cons_zero, List.set_cons_succ]
                  refine walk_step 7 rfl (by kernel_rfl) (by kernel_rfl) (fun K hK => ?csd2)
                  case csd2 =>
                    go_simp
                    refine (CS.out w6.drew hRs).mono ?_
                    rintro e v1 ⟨S7, c7, rfl, ⟨sl7, hsl7, hO7s⟩, hb⟩
                    have bl1 : Below w6.heap.size w6 v1 := ((Below.refl w6.heap.size w6).drew).trans hb
                    have hO7s : OwnRs v1 w6.heap.size S7 ks c7 sl7 := hO7s
                    have hl7s := fun (q : Nat) (hq : Touch S7 sl7 q) => (hO7s.lt hq).2
                    refine hK _ _ ((pV.step bl1).cell' (i := 4) rfl) ?_
                    clear hK K hb hSS
                    try simp only [List.getElem_toArray, List.getElem_cons_succ, List.getElem_cons_zero, Act.put, List.setIfInBounds_toArray, List.set_cons_zero, List.set_cons_succ]
                    refine walk_step 13 rfl (by kernel_rfl) (by kernel_rfl) (fun K hK => ?cad2)
                    case cad2 =>
                      go_simp
                      refine (CA.out v1 (hRa.below bl1)).mono ?_
                      rintro e v2 ⟨A7, d7, rfl, ⟨al7, hal7, hO7a⟩, hb⟩
                      have bl2 := bl1.trans (hb.mono bl1.size)
                      have hO7s2 := hO7s.step hb
                      have dsa : Disj S7 sl7 A7 al7 := fun q h1 h2 => by have := (hO7a.lt h2).1; have := hl7s q h1; omega
                      refine hK _ _ ((pV.step bl2).cell' (i := 4) rfl) ?_
                      clear hK K hb
                      try simp only [List.getElem_toArray, List.getElem_cons_succ, List.getElem_cons_zero, Act.put, List.setIfInBounds_toArray, List.set_cons_zero, List.set_cons_succ]
                      refine walk_take 14 (v := ?vd2c14) rfl (by kernel_rfl) (by kernel_rfl) (by kernel_rfl) (fun _ _ _ h => h) ((pV.step bl2).cell' (i := 4) rfl) (Or.inl ⟨by rfl, ?yd2c14⟩) ?rd2c14
                      case yd2c14 => intro w hSw; (try dsimp only at hSw); go_simp; try rfl
                      case' rd2c14 => try simp only [List.getElem_toArray, List.getElem_cons_succ, List.getElem_cons_zero, Act.put, List.setIfInBounds_toArray, List.set_cons_zero, List.set_cons_succ]
                      refine walk_take 15 (v := ?vd2c15) rfl (by kernel_rfl) (by kernel_rfl) (by kernel_rfl) (fun _ _ _ h => h) ((pV.step bl2).cell' (i := 4) rfl) (Or.inl ⟨by rfl, ?yd2c15⟩) ?rd2c15
                      case yd2c15 => intro w hSw; (try dsimp only at hSw); go_simp; try rfl
                      case' rd2c15 => try simp only [List.getElem_toArray, List.getElem_cons_succ, List.getElem_cons_zero, Act.put, List.setIfInBounds_toArray, List.set_cons_zero, List.set_cons_succ]
                      refine walk_take 16 (v := ?vd2c16) rfl (by kernel_rfl) (by kernel_rfl) (by kernel_rfl) (fun _ _ _ h => h) ((pV.step bl2).cell' (i := 4) rfl) (Or.inl ⟨by rfl, ?yd2c16⟩) ?rd2c16
                      case yd2c16 => intro w hSw; (try dsimp only at hSw); go_simp; try rfl
                      case' rd2c16 => try simp only [List.getElem_toArray, List.getElem_cons_succ, List.getElem_cons_zero, Act.put, List.setIfInBounds_toArray, List.set_cons_zero, List.set_cons_succ]
                      have pe := pV.step bl2
                      have q3 := pe.cell' (i := 3) rfl
                      have kf := pe.frozen
                      have pf := pe.set_ 3 (.slice S7 ks c7)
                      have q4 := pf.cell' (i := 4) rfl
                      have kf' := pf.frozen
                      refine walk_step 17 rfl (by kernel_rfl) (by kernel_rfl) (fun K hK => ?std2)
                      case std2 =>
                        go_simp
                        refine hK _ _ q4 ?_
                        clear hK K
                        try simp only [List.getElem_toArray, List.getElem_cons_succ, List.getElem_cons_zero, Act.put, List.setIfInBounds_toArray, List.set_cons_zero, List.set_cons_succ]
                        refine walk_tail (by kernel_rfl) ?_
                        simp only [List.drop_succ_cons, List.drop_zero]
                        have hOr2 := hOr.step bl2
                        have T7 := TV.step bl2
                        have hlr := fun (q : Nat) (hq : Touch R6 rl6 q) => hOr.lt hq
                        have hplt := pV.lt
                        have hnr : ¬ Touch R6 rl6 p := fun hq => by
                          rcases hq with e | ⟨i, r, hr, e⟩
                          · exact hOr.arr.notBlk pV (by decide) e
                          · exact (hOr.bs.1 i r hr).notBlk pV (by decide) e
                        have hs7 : ∀ q, Touch S7 sl7 q → w6.heap.size ≤ q := fun q hq => (hO7s.lt hq).1
                        have ha7 : ∀ q, Touch A7 al7 q → w6.heap.size ≤ q := fun q hq => by have := (hO7a.lt hq).1; have := bl1.size; omega
                        have hzb : base ≤ w6.heap.size := by omega
                        have hz1 := bl1.size
                        go_wp2_with fail
                        obtain ⟨rfl, rfl, rfl⟩ : h5 = H ∧ rl6.map RowR.b = rows ∧ err = 0 := by have := HRf.out; simp only [Prod.mk.injEq] at this; exact ⟨this.1, this.2.1, this.2.2.symm⟩
                        obtain rfl : ks = m1 := by rw [← hsL, M1.out]
                        obtain rfl : ka = m2 := by rw [← haL, M2.out]
                        obtain rfl : kr = nR := by rw [← NR.out, List.length_map]; exact hOr.len.symm
                        refine bodyPost_ret (v := .int .i64 0) (by simp [results, Try.results33, go_sem]) rfl ?_
                        refine ⟨S7, c7, A7, d7, R6, cR6, sl7, al7, rl6, rfl, ⟨hsl7, hal7, rfl⟩, pf.set_ 4 _, ?_, ?_, (hOr2.far (p := ⟨p, 3, none⟩) hnr _).far (p := ⟨p, 4, none⟩) hnr _, dsa, fun q h1 h2 => by have := hs7 q h1; have := (hlr q h2).2; omega, fun q h1 h2 => by have := ha7 q h1; have := (hlr q h2).2; omega, (T7.set (p := ⟨p, 3, none⟩) (fun _ => .inl rfl) _).set (p := ⟨p, 4, none⟩) (fun _ => .inl rfl) _⟩
                        · exact ((hO7s2.far (p := ⟨p, 3, none⟩) (fun ht => by have : w6.heap.size ≤ p := hs7 _ ht; omega) _).far (p := ⟨p, 4, none⟩) (fun ht => by have : w6.heap.size ≤ p := hs7 _ ht; omega) _).mono hzb
                        · exact ((hO7a.far (p := ⟨p, 3, none⟩) (fun ht => by have : w6.heap.size ≤ p := ha7 _ ht; omega) _).far (p := ⟨p, 4, none⟩) (fun ht => by have : w6.heap.size ≤ p := ha7 _ ht; omega) _).mono (by omega)
          · have HR4 := Lib.hid (show goH h2 false true = (H, rows, err) from HR3.out)
            clear HR3
            go_upto_region 9 with fail
            have y4 := g3.cell' (i := 4) rfl
            have y5 := g3.cell' (i := 5) rfl
            have y9 := p3.cell' (i := 9) rfl
            have y10 := p3.cell' (i := 10) rfl
            refine heldRegion (fun v => v.cell? ⟨q5, 4, none⟩ = some (.bool true) ∧ v.cell? ⟨q5, 5, none⟩ = some (.bool true) ∧ v.cell? ⟨p, 9, none⟩ = some (.int .i64 h2.since) ∧ v.cell? ⟨p, 10, none⟩ = some (.int .i64 h2.pause)) 21 (by kernel_rfl) (by kernel_rfl) ⟨y4, y5, y9, y10⟩ (fun hSS => ?_)
            refine walk_take 0 (v := ?ve0) rfl (by kernel_rfl) (by kernel_rfl) (by kernel_rfl) (fun _ _ _ h => h) (hSS) (Or.inl ⟨by rfl, ?ye0⟩) ?re0
            case ye0 => intro w hSw; obtain ⟨hw1, hw2, hw3, hw4⟩ := hSw; (try dsimp only at hSw); go_simp; try rfl
            case' re0 => try simp only [List.getElem_toArray, List.getElem_cons_succ, List.getElem_cons_zero, Act.put, List.setIfInBounds_toArray, List.set_cons_zero, List.set_cons_succ]
            refine walk_take 1 (v := ?ve1) rfl (by kernel_rfl) (by kernel_rfl) (by kernel_rfl) (fun _ _ _ h => h) (hSS) (Or.inl ⟨by rfl, ?ye1⟩) ?re1
            case ye1 => intro w hSw; obtain ⟨hw1, hw2, hw3, hw4⟩ := hSw; (try dsimp only at hSw); go_simp; try rfl
            case' re1 => try simp only [List.getElem_toArray, List.getElem_cons_succ, List.getElem_cons_zero, Act.put, List.setIfInBounds_toArray, List.set_cons_zero, List.set_cons_succ]
            refine walk_take 2 (v := ?ve2) rfl (by kernel_rfl) (by kernel_rfl) (by kernel_rfl) (fun _ _ _ h => h) (hSS) (Or.inl ⟨by rfl, ?ye2⟩) ?re2
            case ye2 => intro w hSw; obtain ⟨hw1, hw2, hw3, hw4⟩ := hSw; (try dsimp only at hSw); go_simp; try rfl
            case' re2 => try simp only [List.getElem_toArray, List.getElem_cons_succ, List.getElem_cons_zero, Act.put, List.setIfInBounds_toArray, List.set_cons_zero, List.set_cons_succ]
            refine walk_take 3 (v := ?ve3) rfl (by kernel_rfl) (by kernel_rfl) (by kernel_rfl) (fun _ _ _ h => h) (hSS) (Or.inl ⟨by rfl, ?ye3⟩) ?re3
            case ye3 => intro w hSw; obtain ⟨hw1, hw2, hw3, hw4⟩ := hSw; (try dsimp only at hSw); go_simp; try rfl
            case' re3 => try simp only [List.getElem_toArray, List.getElem_cons_succ, List.getElem_cons_zero, Act.put, List.setIfInBounds_toArray, List.set_cons_zero, List.set_cons_succ]
            refine walk_take 4 (v := ?ve4) rfl (by kernel_rfl) (by kernel_rfl) (by kernel_rfl) (fun _ _ _ h => h) (hSS) (Or.inl ⟨by rfl, ?ye4⟩) ?re4
            case ye4 => intro w hSw; obtain ⟨hw1, hw2, hw3, hw4⟩ := hSw; (try dsimp only at hSw); go_simp; try rfl
            case' re4 => try simp only [List.getElem_toArray, List.getElem_cons_succ, List.getElem_cons_zero, Act.put, List.setIfInBounds_toArray, List.set_cons_zero, List.set_cons_succ]
            refine walk_take 5 (v := ?ve5) rfl (by kernel_rfl) (by kernel_rfl) (by kernel_rfl) (fun _ _ _ h => h) (hSS) (Or.inl ⟨by rfl, ?ye5⟩) ?re5
            case ye5 => intro w hSw; obtain ⟨hw1, hw2, hw3, hw4⟩ := hSw; (try dsimp only at hSw); go_simp; try rfl
            case' re5 => try simp only [List.getElem_toArray, List.getElem_cons_succ, List.getElem_cons_zero, Act.put, List.setIfInBounds_toArray, List.set_cons_zero, List.set_cons_succ]
            refine walk_take 6 (v := ?ve6) rfl (by kernel_rfl) (by kernel_rfl) (by kernel_rfl) (fun _ _ _ h => h) (hSS) (Or.inl ⟨by rfl, ?ye6⟩) ?re6
            case ye6 => intro w hSw; obtain ⟨hw1, hw2, hw3, hw4⟩ := hSw; (try dsimp only at hSw); go_simp; try rfl
            case' re6 => try simp only [List.getElem_toArray, List.getElem_cons_succ, List.getElem_cons_zero, Act.put, List.setIfInBounds_toArray, List.set_cons_zero, List.set_cons_succ]
            refine walk_take 7 (v := ?ve7) rfl (by kernel_rfl) (by kernel_rfl) (by kernel_rfl) (fun _ _ _ h => h) (hSS) (Or.inl ⟨by rfl, ?ye7⟩) ?re7
            case ye7 => intro w hSw; obtain ⟨hw1, hw2, hw3, hw4⟩ := hSw; (try dsimp only at hSw); go_simp; try rfl
            case' re7 => try simp only [List.getElem_toArray, List.getElem_cons_succ, List.getElem_cons_zero, Act.put, List.setIfInBounds_toArray, List.set_cons_zero, List.set_cons_succ]
            refine walk_take 8 (v := ?ve8) rfl (by kernel_rfl) (by kernel_rfl) (by kernel_rfl) (fun _ _ _ h => h) (hSS) (Or.inl ⟨by rfl, ?ye8⟩) ?re8
            case ye8 => intro w hSw; obtain ⟨hw1, hw2, hw3, hw4⟩ := hSw; (try dsimp only at hSw); go_simp; try rfl
            case' re8 => try simp only [List.getElem_toArray, List.getElem_cons_succ, List.getElem_cons_zero, Act.put, List.setIfInBounds_toArray, List.set_cons_zero, List.set_cons_succ]
            refine walk_take 9 (v := undef) rfl (by kernel_rfl) (by kernel_rfl) (by kernel_rfl) (fun _ _ _ h => h) (hSS) (Or.inr ⟨by rfl, rfl⟩) ?re9
            case' re9 => try simp only [List.getElem_toArray, List.getElem_cons_succ, List.getElem_cons_zero, Act.put, List.setIfInBounds_toArray, List.set_cons_zero, List.set_cons_succ]
            refine walk_take 10 (v := undef) rfl (by kernel_rfl) (by kernel_rfl) (by kernel_rfl) (fun _ _ _ h => h) (hSS) (Or.inr ⟨by rfl, rfl⟩) ?re10
            case' re10 => try simp only [List.getElem_toArray, List.getElem_cons_succ, List.getElem_cons_zero, Act.put, List.setIfInBounds_toArray, List.set_cons_zero, List.set_cons_succ]
            refine walk_take 11 (v := undef) rfl (by kernel_rfl) (by kernel_rfl) (by kernel_rfl) (fun _ _ _ h => h) (hSS) (Or.inr ⟨by rfl, rfl⟩) ?re11
            case' re11 => try simp only [List.getElem_toArray, List.getElem_cons_succ, List.getElem_cons_zero, Act.put, List.setIfInBounds_toArray, List.set_cons_zero, List.set_cons_succ]
            refine walk_take 12 (v := undef) rfl (by kernel_rfl) (by kernel_rfl) (by kernel_rfl) (fun _ _ _ h => h) (hSS) (Or.inr ⟨by rfl, rfl⟩) ?re12
            case' re12 => try simp only [List.getElem_toArray, List.getElem_cons_succ, List.getElem_cons_zero, Act.put, List.setIfInBounds_toArray, List.set_cons_zero, List.set_cons_succ]
            refine walk_take 13 (v := undef) rfl (by kernel_rfl) (by kernel_rfl) (by kernel_rfl) (fun _ _ _ h => h) (hSS) (Or.inr ⟨by rfl, rfl⟩) ?re13
            case' re13 => try simp only [List.getElem_toArray, List.getElem_cons_succ, List.getElem_cons_zero, Act.put, List.setIfInBounds_toArray, List.set_cons_zero, List.set_cons_succ]
            refine walk_take 14 (v := undef) rfl (by kernel_rfl) (by kernel_rfl) (by kernel_rfl) (fun _ _ _ h => h) (hSS) (Or.inr ⟨by rfl, rfl⟩) ?re14
            case' re14 => try simp only [List.getElem_toArray, List.getElem_cons_succ, List.getElem_cons_zero, Act.put, List.setIfInBounds_toArray, List.set_cons_zero, List.set_cons_succ]
            refine walk_take 15 (v := undef) rfl (by kernel_rfl) (by kernel_rfl) (by kernel_rfl) (fun _ _ _ h => h) (hSS) (Or.inr ⟨by rfl, rfl⟩) ?re15
            case' re15 => try simp only [List.getElem_toArray, List.getElem_cons_succ, List.getElem_cons_zero, Act.put, List.setIfInBounds_toArray, List.set_cons_zero, List.set_cons_succ]
            refine walk_take 16 (v := undef) rfl (by kernel_rfl) (by kernel_rfl) (by kernel_rfl) (fun _ _ _ h => h) (hSS) (Or.inr ⟨by rfl, rfl⟩) ?re16
            case' re16 => try simp only [List.getElem_toArray, List.getElem_cons_succ, List.getElem_cons_zero, Act.put, List.setIfInBounds_toArray, List.set_cons_zero, List.set_cons_succ]
            refine walk_take 17 (v := undef) rfl (by kernel_rfl) (by kernel_rfl) (by kernel_rfl) (fun _ _ _ h => h) (hSS) (Or.inr ⟨by rfl, rfl⟩) ?re17
            case' re17 => try simp only [List.getElem_toArray, List.getElem_cons_succ, List.getElem_cons_zero, Act.put, List.setIfInBounds_toArray, List.set_cons_zero, List.set_cons_succ]
            refine walk_take 18 (v := undef) rfl (by kernel_rfl) (by kernel_rfl) (by kernel_rfl) (fun _ _ _ h => h) (hSS) (Or.inr ⟨by rfl, rfl⟩) ?re18
            case' re18 => try simp only [List.getElem_toArray, List.getElem_cons_succ, List.getElem_cons_zero, Act.put, List.setIfInBounds_toArray, List.set_cons_zero, List.set_cons_succ]
            refine walk_take 19 (v := undef) rfl (by kernel_rfl) (by kernel_rfl) (by kernel_rfl) (fun _ _ _ h => h) (hSS) (Or.inr ⟨by rfl, rfl⟩) ?re19
            case' re19 => try simp only [List.getElem_toArray, List.getElem_cons_succ, List.getElem_cons_zero, Act.put, List.setIfInBounds_toArray, List.set_cons_zero, List.set_cons_succ]
            refine walk_take 20 (v := ?ve20) rfl (by kernel_rfl) (by kernel_rfl) (by kernel_rfl) (fun _ _ _ h => h) (hSS) (Or.inl ⟨by rfl, ?ye20⟩) ?re20
            case ye20 => intro w hSw; obtain ⟨hw1, hw2, hw3, hw4⟩ := hSw; (try dsimp only at hSw); go_simp; try rfl
            case' re20 => try simp only [List.getElem_toArray, List.getElem_cons_succ, List.getElem_cons_zero, Act.put, List.setIfInBounds_toArray, List.set_cons_zero, List.set_cons_succ]
            clear hSS y4 y5 y9 y10
            refine walk_tail (by kernel_rfl) ?_
            simp only [List.drop_succ_cons, List.drop_zero]
            have zb3 : base ≤ w3.drew.heap.size := by have := p3.lt; show base ≤ w3.heap.size; omega
            have HL := Lib.hid (late_any h2 false S3 Ak none k3n c3 n2 dk 0 0 p base sl3 [] w3.drew p3.drew MS2.out hOs3.drew (OwnRs.nil _ _) (Disj.nil _ _) t2 (by omega) zb3)
            go_wp2_with fail
            refine HL.out.mono ?_
            rintro e w4 ⟨rfl, R4, nR4, cR4, rl4, p4, hO4r, hrl4, hT4, T4⟩
            clear HL
            have hfit := fits_go t2 false true
            rw [HR4.out] at hfit
            have t3 := tick_late t2 false
            have hrw := late_rows t2 false
            obtain ⟨eks, eka⟩ := late_keeps h2 false
            have HR5 := Lib.hid HR4.out
            unfold goH at HR5
            clear HR4
            obtain ⟨r, hr⟩ : ∃ r, lateH h2 false = r := ⟨_, rfl⟩
            rw [hr] at HR5 p4 hrl4 t3 hrw eks eka ⊢
            clear hr
            obtain ⟨h3, r1, on⟩ := r
            dsimp only at HR5 p4 hrl4 t3 hrw eks eka ⊢
            have g4 := g3.drew.turned T4 (fun hq => by
              rcases hq with e | e
              · omega
              · exact nilT e)
            have nts : ∀ q, Touch S3 sl3 q → ¬ (q = p ∨ Touch (none : Option Addr) [] q) := fun q hq h => by
              rcases h with e | e
              · exact hns (e ▸ hT3 q hq)
              · exact nilT e
            have nta : ∀ q, Touch Ak al q → ¬ (q = p ∨ Touch (none : Option Addr) [] q) := fun q hq h => by
              rcases h with e | e
              · exact hna (e ▸ hq)
              · exact nilT e
            have hOs4 := hOs3.drew.turned T4 nts
            have hOa4 := hOa3.drew.turned T4 nta
            have hl3s := fun (q : Nat) (hq : Touch S3 sl3 q) => (hOs3.lt hq).2
            have hl3a := fun (q : Nat) (hq : Touch Ak al q) => (hOa3.lt hq).2
            have hT4' : ∀ q, Touch R4 rl4 q → w3.heap.size ≤ q := fun q hq => by
              rcases hT4 q hq with e | e
              · exact (nilT e).elim
              · exact e
            have T34 : Turned W w4 (fun q => q = p ∨ Touch Sk sl q ∨ Touch Ak al q) := (T23.drewN 1).trans T4 (fun i _ e => by
              rcases e with e | e
              · exact .inl e
              · exact (nilT e).elim)
            have MS3 : sl3.map RowR.b = h3.sent := MS2.out.trans eks.symm
            have MA3 : al.map RowR.b = h3.asked := MA2.out.trans eka.symm
            have hln3 : h3.sent.length = k3n := by rw [← MS3, List.length_map]; exact hOs4.len
            have hla3 : h3.asked.length = n2 := by rw [← MA3, List.length_map]; exact hOa4.len
            have hkr : nR4 ≤ 127 := by
              have e1 := hO4r.len
              have e2 : (rl4.map RowR.b).length = r1.length := by rw [hrl4]; simp
              rw [List.length_map] at e2
              have := hrw.1
              omega
            have z34 := T23.size
            have x4 := g4.cell' (i := 4) rfl
            clear eks eka hT4 T4 g3 hOs3 hOa3 T23 p3
            cases on
            · skip
              have HRf := Lib.hid (show ((h3, rl4.map RowR.b, (0 : Int)) : Hnd × List (List UInt8) × Int) = (H, rows, err) by have := HR5.out; rw [if_neg (by simp)] at this; rw [hrl4]; simpa using this)
              have hH : h3 = H := by have := HRf.out; simp only [Prod.mk.injEq] at this; exact this.1
              have hRs : RdRows w4 S3 h3.sent := by rw [← MS3]; exact hOs4.rd
              have hRa : RdRows w4 Ak h3.asked := by rw [← MA3]; exact hOa4.rd
              have f1 : RowsFit h3.sent k3n := by rw [← hln3, hH]; exact hfit.1
              have f2 : RowsFit h3.asked n2 := by rw [← hla3, hH]; exact hfit.2.1
              have hsL := hln3
              have haL := hla3
              have hOr := hO4r
              have TV := T34
              have pV := p4
              clear HR5 hH hO4r T34 p4 hln3 hla3 hOs4 hOa4 g4
              go_upto_region 11 with fail
              have CS := Lib.hid (fun w (hS : RdRows w S3 h3.sent) => clones_any S3 h3.sent k3n c3 w hsL hS f1.1 f1.2)
              have CA := Lib.hid (fun w (hA : RdRows w Ak h3.asked) => clones_any Ak h3.asked n2 dk w haL hA f2.1 f2.2)
              have k3 := pV.cell' (i := 3) rfl
              have k4 := pV.cell' (i := 4) rfl
              have zV := TV.size
              refine heldRegion (fun v => v.cell? ⟨p, 4, none⟩ = some (.slice Ak n2 dk)) 18 (by kernel_rfl) (by kernel_rfl) k4 (fun hSS => ?_)
              refine walk_take 0 (v := ?ve1a0) rfl (by kernel_rfl) (by kernel_rfl) (by kernel_rfl) (fun _ _ _ h => h) (hSS) (Or.inl ⟨by rfl, ?ye1a0⟩) ?re1a0
              case ye1a0 => intro w hSw; (try dsimp only at hSw); go_simp; try rfl
              case' re1a0 => try simp only [List.getElem_toArray, List.getElem_cons_succ, List.getElem_cons_zero, Act.put, List.setIfInBounds_toArray, List.set_cons_zero, List.set_cons_succ]
              refine walk_take 1 (v := ?ve1a1) rfl (by kernel_rfl) (by kernel_rfl) (by kernel_rfl) (fun _ _ _ h => h) (hSS) (Or.inl ⟨by rfl, ?ye1a1⟩) ?re1a1
              case ye1a1 => intro w hSw; (try dsimp only at hSw); go_simp; try rfl
              case' re1a1 => try simp only [List.getElem_toArray, List.getElem_cons_succ, List.getElem_cons_zero, Act.put, List.setIfInBounds_toArray, List.set_cons_zero, List.set_cons_succ]
              refine walk_take 2 (v := ?ve1a2) rfl (by kernel_rfl) (by kernel_rfl) (by kernel_rfl) (fun _ _ _ h => h) (hSS) (Or.inl ⟨by rfl, ?ye1a2⟩) ?re1a2
              case ye1a2 => intro w hSw; (try dsimp only at hSw); go_simp; try rfl
              case' re1a2 => try simp only [List.getElem_toArray, List.getElem_cons_succ, List.getElem_cons_zero, Act.put, List.setIfInBounds_toArray, List.set_cons_zero, List.set_cons_succ]
              refine walk_take 3 (v := ?ve1a3) rfl (by kernel_rfl) (by kernel_rfl) (by kernel_rfl) (fun _ _ _ h => h) (hSS) (Or.inl ⟨by rfl, ?ye1a3⟩) ?re1a3
              case ye1a3 => intro w hSw; (try dsimp only at hSw); go_simp; try rfl
              case' re1a3 => try simp only [List.getElem_toArray, List.getElem_cons_succ, List.getElem_cons_zero, Act.put, List.setIfInBounds_toArray, List.set_cons_zero, List.set_cons_succ]
              refine walk_take 4 (v := ?ve1a4) rfl (by kernel_rfl) (by kernel_rfl) (by kernel_rfl) (fun _ _ _ h => h) (hSS) (Or.inl ⟨by rfl, ?ye1a4⟩) ?re1a4
              case ye1a4 => intro w hSw; (try dsimp only at hSw); go_simp; try rfl
              case' re1a4 => try simp only [List.getElem_toArray, List.getElem_cons_succ, List.getElem_cons_zero, Act.put, List.setIfInBounds_toArray, List.set_cons_zero, List.set_cons_succ]
              refine walk_take 5 (v := ?ve1a5) rfl (by kernel_rfl) (by kernel_rfl) (by kernel_rfl) (fun _ _ _ h => h) (hSS) (Or.inl ⟨by rfl, ?ye1a5⟩) ?re1a5
              case ye1a5 => intro w hSw; (try dsimp only at hSw); go_simp; try rfl
              case' re1a5 => try simp only [List.getElem_toArray, List.getElem_cons_succ, List.getElem_cons_zero, Act.put, List.setIfInBounds_toArray, List.set_cons_zero, List.set_cons_succ]
              refine walk_take 8 (v := ?ve1a8) rfl (by kernel_rfl) (by kernel_rfl) (by kernel_rfl) (fun _ _ _ h => h) (hSS) (Or.inl ⟨by rfl, ?ye1a8⟩) ?re1a8
              case ye1a8 => intro w hSw; (try dsimp only at hSw); go_simp; try rfl
              case' re1a8 => try simp only [List.getElem_toArray, List.getElem_cons_succ, List.getElem_cons_zero, Act.put, List.setIfInBounds_toArray, List.set_cons_zero, List.set_cons_succ]
              refine walk_take 9 (v := ?ve1a9) rfl (by kernel_rfl) (by kernel_rfl) (by kernel_rfl) (fun _ _ _ h => h) (hSS) (Or.inl ⟨by rfl, ?ye1a9⟩) ?re1a9
              case ye1a9 => intro w hSw; (try dsimp only at hSw); go_simp; try rfl
              case' re1a9 => try simp only [List.getElem_toArray, List.getElem_cons_succ, List.getElem_cons_zero, Act.put, List.setIfInBounds_toArray, List.set_cons_zero, List.set_cons_succ]
              refine walk_take 10 (v := ?ve1a10) rfl (by kernel_rfl) (by kernel_rfl) (by kernel_rfl) (fun _ _ _ h => h) (hSS) (Or.inl ⟨by rfl, ?ye1a10⟩) ?re1a10
              case ye1a10 => intro w hSw; (try dsimp only at hSw); go_simp; try rfl
              case' re1a10 => try simp only [List.getElem_toArray, List.getElem_cons_succ, List.getElem_cons_zero, Act.put, List.setIfInBounds_toArray, List.set_cons_zero, List.set_cons_succ]
              refine walk_take 11 (v := ?ve1a11) rfl (by kernel_rfl) (by kernel_rfl) (by kernel_rfl) (fun _ _ _ h => h) (hSS) (Or.inl ⟨by rfl, ?ye1a11⟩) ?re1a11
              case ye1a11 => intro w hSw; (try dsimp only at hSw); go_simp; try rfl
              case' re1a11 => try simp only [List.getElem_toArray, List.getElem_cons_succ, List.getElem_cons_zero, Act.put, List.setIfInBounds_toArray, List.set_cons_zero, List.set_cons_succ]
              refine walk_take 12 (v := ?ve1a12) rfl (by kernel_rfl) (by kernel_rfl) (by kernel_rfl) (fun _ _ _ h => h) (hSS) (Or.inl ⟨by rfl, ?ye1a12⟩) ?re1a12
              case ye1a12 => intro w hSw; (try dsimp only at hSw); go_simp; try rfl
              case' re1a12 => try simp only [List.getElem_toArray, List.getElem_cons_succ, List.getElem_cons_zero, Act.put, List.setIfInBounds_toArray, List.set_cons_zero, List.set_cons_succ]
              refine walk_step 6 rfl (by kernel_rfl) (by kernel_rfl) (fun K hK => ?lde1)
              case lde1 =>
                go_simp
                refine hK _ _ k4 ?_
                clear hK K
                try simp only [List.getElem_toArray, List.getElem_cons_succ, List.getElem_cons_zero, Act.put, List.setIfInBounds_toArray, List.set_cons_zero, List.set_cons_succ]
                refine walk_step 7 rfl (by kernel_rfl) (by kernel_rfl) (fun K hK => ?cse1)
                case cse1 =>
                  go_simp
                  refine (CS.out w4.drew hRs).mono ?_
                  rintro e v1 ⟨S7, c7, rfl, ⟨sl7, hsl7, hO7s⟩, hb⟩
                  have bl1 : Below w4.heap.size w4 v1 := ((Below.refl w4.heap.size w4).drew).trans hb
                  have hO7s : OwnRs v1 w4.heap.size S7 k3n c7 sl7 := hO7s
                  have hl7s := fun (q : Nat) (hq : Touch S7 sl7 q) => (hO7s.lt hq).2
                  refine hK _ _ ((pV.step bl1).cell' (i := 4) rfl) ?_
                  clear hK K hb hSS
                  try simp only [List.getElem_toArray, List.getElem_cons_succ, List.getElem_cons_zero, Act.put, List.setIfInBounds_toArray, List.set_cons_zero, List.set_cons_succ]
                  refine walk_step 13 rfl (by kernel_rfl) (by kernel_rfl) (fun K hK => ?cae1)
                  case cae1 =>
                    go_simp
                    refine (CA.out v1 (hRa.below bl1)).mono ?_
                    rintro e v2 ⟨A7, d7, rfl, ⟨al7, hal7, hO7a⟩, hb⟩
                    have bl2 := bl1.trans (hb.mono bl1.size)
                    have hO7s2 := hO7s.step hb
                    have dsa : Disj S7 sl7 A7 al7 := fun q h1 h2 => by have := (hO7a.lt h2).1; have := hl7s q h1; omega
                    refine hK _ _ ((pV.step bl2).cell' (i := 4) rfl) ?_
                    clear hK K hb
                    try simp only [List.getElem_toArray, List.getElem_cons_succ, List.getElem_cons_zero, Act.put, List.setIfInBounds_toArray, List.set_cons_zero, List.set_cons_succ]
                    refine walk_take 14 (v := ?ve1c14) rfl (by kernel_rfl) (by kernel_rfl) (by kernel_rfl) (fun _ _ _ h => h) ((pV.step bl2).cell' (i := 4) rfl) (Or.inl ⟨by rfl, ?ye1c14⟩) ?re1c14
                    case ye1c14 => intro w hSw; (try dsimp only at hSw); go_simp; try rfl
                    case' re1c14 => try simp only [List.getElem_toArray, List.getElem_cons_succ, List.getElem_cons_zero, Act.put, List.setIfInBounds_toArray, List.set_cons_zero, List.set_cons_succ]
                    refine walk_take 15 (v := ?ve1c15) rfl (by kernel_rfl) (by kernel_rfl) (by kernel_rfl) (fun _ _ _ h => h) ((pV.step bl2).cell' (i := 4) rfl) (Or.inl ⟨by rfl, ?ye1c15⟩) ?re1c15
                    case ye1c15 => intro w hSw; (try dsimp only at hSw); go_simp; try rfl
                    case' re1c15 => try simp only [List.getElem_toArray, List.getElem_cons_succ, List.getElem_cons_zero, Act.put, List.setIfInBounds_toArray, List.set_cons_zero, List.set_cons_succ]
                    refine walk_take 16 (v := ?ve1c16) rfl (by kernel_rfl) (by kernel_rfl) (by kernel_rfl) (fun _ _ _ h => h) ((pV.step bl2).cell' (i := 4) rfl) (Or.inl ⟨by rfl, ?ye1c16⟩) ?re1c16
                    case ye1c16 => intro w hSw; (try dsimp only at hSw); go_simp; try rfl
                    case' re1c16 => try simp only [List.getElem_toArray, List.getElem_cons_succ, List.getElem_cons_zero, Act.put, List.setIfInBounds_toArray, List.set_cons_zero, List.set_cons_succ]
                    have pe := pV.step bl2
                    have q3 := pe.cell' (i := 3) rfl
                    have kf := pe.frozen
                    have pf := pe.set_ 3 (.slice S7 k3n c7)
                    have q4 := pf.cell' (i := 4) rfl
                    have kf' := pf.frozen
                    refine walk_step 17 rfl (by kernel_rfl) (by kernel_rfl) (fun K hK => ?ste1)
                    case ste1 =>
                      go_simp
                      refine hK _ _ q4 ?_
                      clear hK K
                      try simp only [List.getElem_toArray, List.getElem_cons_succ, List.getElem_cons_zero, Act.put, List.setIfInBounds_toArray, List.set_cons_zero, List.set_cons_succ]
                      refine walk_tail (by kernel_rfl) ?_
                      simp only [List.drop_succ_cons, List.drop_zero]
                      have hOr2 := hOr.step bl2
                      have T7 := TV.step bl2
                      have hlr := fun (q : Nat) (hq : Touch R4 rl4 q) => hOr.lt hq
                      have hplt := pV.lt
                      have hnr : ¬ Touch R4 rl4 p := fun hq => by
                        rcases hq with e | ⟨i, r, hr, e⟩
                        · exact hOr.arr.notBlk pV (by decide) e
                        · exact (hOr.bs.1 i r hr).notBlk pV (by decide) e
                      have hs7 : ∀ q, Touch S7 sl7 q → w4.heap.size ≤ q := fun q hq => (hO7s.lt hq).1
                      have ha7 : ∀ q, Touch A7 al7 q → w4.heap.size ≤ q := fun q hq => by have := (hO7a.lt hq).1; have := bl1.size; omega
                      have hzb : base ≤ w4.heap.size := by omega
                      have hz1 := bl1.size
                      go_wp2_with fail
                      obtain ⟨rfl, rfl, rfl⟩ : h3 = H ∧ rl4.map RowR.b = rows ∧ err = 0 := by have := HRf.out; simp only [Prod.mk.injEq] at this; exact ⟨this.1, this.2.1, this.2.2.symm⟩
                      obtain rfl : k3n = m1 := by rw [← hsL, M1.out]
                      obtain rfl : n2 = m2 := by rw [← haL, M2.out]
                      obtain rfl : nR4 = nR := by rw [← NR.out, List.length_map]; exact hOr.len.symm
                      refine bodyPost_ret (v := .int .i64 0) (by simp [results, Try.results33, go_sem]) rfl ?_
                      refine ⟨S7, c7, A7, d7, R4, cR4, sl7, al7, rl4, rfl, ⟨hsl7, hal7, rfl⟩, pf.set_ 4 _, ?_, ?_, (hOr2.far (p := ⟨p, 3, none⟩) hnr _).far (p := ⟨p, 4, none⟩) hnr _, dsa, fun q h1 h2 => by have := hs7 q h1; have := (hlr q h2).2; omega, fun q h1 h2 => by have := ha7 q h1; have := (hlr q h2).2; omega, (T7.set (p := ⟨p, 3, none⟩) (fun _ => .inl rfl) _).set (p := ⟨p, 4, none⟩) (fun _ => .inl rfl) _⟩
                      · exact ((hO7s2.far (p := ⟨p, 3, none⟩) (fun ht => by have : w4.heap.size ≤ p := hs7 _ ht; omega) _).far (p := ⟨p, 4, none⟩) (fun ht => by have : w4.heap.size ≤ p := hs7 _ ht; omega) _).mono hzb
                      · exact ((hO7a.far (p := ⟨p, 3, none⟩) (fun ht => by have : w4.heap.size ≤ p := ha7 _ ht; omega) _).far (p := ⟨p, 4, none⟩) (fun ht => by have : w4.heap.size ≤ p := ha7 _ ht; omega) _).mono (by omega)
            · skip
              have HRf := Lib.hid (show ((h3, rl4.map RowR.b, (0 : Int)) : Hnd × List (List UInt8) × Int) = (H, rows, err) by have := HR5.out; rw [if_neg (by simp)] at this; rw [hrl4]; simpa using this)
              have hH : h3 = H := by have := HRf.out; simp only [Prod.mk.injEq] at this; exact this.1
              have hRs : RdRows w4 S3 h3.sent := by rw [← MS3]; exact hOs4.rd
              have hRa : RdRows w4 Ak h3.asked := by rw [← MA3]; exact hOa4.rd
              have f1 : RowsFit h3.sent k3n := by rw [← hln3, hH]; exact hfit.1
              have f2 : RowsFit h3.asked n2 := by rw [← hla3, hH]; exact hfit.2.1
              have hsL := hln3
              have haL := hla3
              have hOr := hO4r
              have TV := T34
              have pV := p4
              clear HR5 hH hO4r T34 p4 hln3 hla3 hOs4 hOa4 g4
              go_upto_region 11 with fail
              have CS := Lib.hid (fun w (hS : RdRows w S3 h3.sent) => clones_any S3 h3.sent k3n c3 w hsL hS f1.1 f1.2)
              have CA := Lib.hid (fun w (hA : RdRows w Ak h3.asked) => clones_any Ak h3.asked n2 dk w haL hA f2.1 f2.2)
              have k3 := pV.cell' (i := 3) rfl
              have k4 := pV.cell' (i := 4) rfl
              have zV := TV.size
              refine heldRegion (fun v => v.cell? ⟨p, 4, none⟩ = some (.slice Ak n2 dk)) 18 (by kernel_rfl) (by kernel_rfl) k4 (fun hSS => ?_)
              refine walk_take 0 (v := ?ve2a0) rfl (by kernel_rfl) (by kernel_rfl) (by kernel_rfl) (fun _ _ _ h => h) (hSS) (Or.inl ⟨by rfl, ?ye2a0⟩) ?re2a0
              case ye2a0 => intro w hSw; (try dsimp only at hSw); go_simp; try rfl
              case' re2a0 => try simp only [List.getElem_toArray, List.getElem_cons_succ, List.getElem_cons_zero, Act.put, List.setIfInBounds_toArray, List.set_cons_zero, List.set_cons_succ]
              refine walk_take 1 (v := ?ve2a1) rfl (by kernel_rfl) (by kernel_rfl) (by kernel_rfl) (fun _ _ _ h => h) (hSS) (Or.inl ⟨by rfl, ?ye2a1⟩) ?re2a1
              case ye2a1 => intro w hSw; (try dsimp only at hSw); go_simp; try rfl
              case' re2a1 => try simp only [List.getElem_toArray, List.getElem_cons_succ, List.getElem_cons_zero, Act.put, List.setIfInBounds_toArray, List.set_cons_zero, List.set_cons_succ]
              refine walk_take 2 (v := ?ve2a2) rfl (by kernel_rfl) (by kernel_rfl) (by kernel_rfl) (fun _ _ _ h => h) (hSS) (Or.inl ⟨by rfl, ?ye2a2⟩) ?re2a2
              case ye2a2 => intro w hSw; (try dsimp only at hSw); go_simp; try rfl
              case' re2a2 => try simp only [List.getElem_toArray, List.getElem_cons_succ, List.getElem_cons_zero, Act.put, List.setIfInBounds_toArray, List.set_cons_zero, List.set_cons_succ]
              refine walk_take 3 (v := ?ve2a3) rfl (by kernel_rfl) (by kernel_rfl) (by kernel_rfl) (fun _ _ _ h => h) (hSS) (Or.inl ⟨by rfl, ?ye2a3⟩) ?re2a3
              case ye2a3 => intro w hSw; (try dsimp only at hSw); go_simp; try rfl
              case' re2a3 => try simp only [List.getElem_toArray, List.getElem_cons_succ, List.getElem_cons_zero, Act.put, List.setIfInBounds_toArray, List.set_cons_zero, List.set_cons_succ]
              refine walk_take 4 (v := ?ve2a4) rfl (by kernel_rfl) (by kernel_rfl) (by kernel_rfl) (fun _ _ _ h => h) (hSS) (Or.inl ⟨by rfl, ?ye2a4⟩) ?re2a4
              case ye2a4 => intro w hSw; (try dsimp only at hSw); go_simp; try rfl
              case' re2a4 => try simp only [List.getElem_toArray, List.getElem_cons_succ, List.getElem_cons_zero, Act.put, List.setIfInBounds_toArray, List.set_cons_zero, List.set_cons_succ]
              refine walk_take 5 (v := ?ve2a5) rfl (by kernel_rfl) (by kernel_rfl) (by kernel_rfl) (fun _ _ _ h => h) (hSS) (Or.inl ⟨by rfl, ?ye2a5⟩) ?re2a5
              case ye2a5 => intro w hSw; (try dsimp only at hSw); go_simp; try rfl
              case' re2a5 => try simp only [List.getElem_toArray, List.getElem_cons_succ, List.getElem_cons_zero, Act.put, List.setIfInBounds_toArray, List.set_cons_zero, List.set_cons_succ]
              refine walk_take 8 (v := ?ve2a8) rfl (by kernel_rfl) (by kernel_rfl) (by kernel_rfl) (fun _ _ _ h => h) (hSS) (Or.inl ⟨by rfl, ?ye2a8⟩) ?re2a8
              case ye2a8 => intro w hSw; (try dsimp only at hSw); go_simp; try rfl
              case' re2a8 => try simp only [List.getElem_toArray, List.getElem_cons_succ, List.getElem_cons_zero, Act.put, List.setIfInBounds_toArray, List.set_cons_zero, List.set_cons_succ]
              refine walk_take 9 (v := ?ve2a9) rfl (by kernel_rfl) (by kernel_rfl) (by kernel_rfl) (fun _ _ _ h => h) (hSS) (Or.inl ⟨by rfl, ?ye2a9⟩) ?re2a9
              case ye2a9 => intro w hSw; (try dsimp only at hSw); go_simp; try rfl
              case' re2a9 => try simp only [List.getElem_toArray, List.getElem_cons_succ, List.getElem_cons_zero, Act.put, List.setIfInBounds_toArray, List.set_cons_zero, List.set_cons_succ]
              refine walk_take 10 (v := ?ve2a10) rfl (by kernel_rfl) (by kernel_rfl) (by kernel_rfl) (fun _ _ _ h => h) (hSS) (Or.inl ⟨by rfl, ?ye2a10⟩) ?re2a10
              case ye2a10 => intro w hSw; (try dsimp only at hSw); go_simp; try rfl
              case' re2a10 => try simp only [List.getElem_toArray, List.getElem_cons_succ, List.getElem_cons_zero, Act.put, List.setIfInBounds_toArray, List.set_cons_zero, List.set_cons_succ]
              refine walk_take 11 (v := ?ve2a11) rfl (by kernel_rfl) (by kernel_rfl) (by kernel_rfl) (fun _ _ _ h => h) (hSS) (Or.inl ⟨by rfl, ?ye2a11⟩) ?re2a11
              case ye2a11 => intro w hSw; (try dsimp only at hSw); go_simp; try rfl
              case' re2a11 => try simp only [List.getElem_toArray, List.getElem_cons_succ, List.getElem_cons_zero, Act.put, List.setIfInBounds_toArray, List.set_cons_zero, List.set_cons_succ]
              refine walk_take 12 (v := ?ve2a12) rfl (by kernel_rfl) (by kernel_rfl) (by kernel_rfl) (fun _ _ _ h => h) (hSS) (Or.inl ⟨by rfl, ?ye2a12⟩) ?re2a12
              case ye2a12 => intro w hSw; (try dsimp only at hSw); go_simp; try rfl
              case' re2a12 => try simp only [List.getElem_toArray, List.getElem_cons_succ, List.getElem_cons_zero, Act.put, List.setIfInBounds_toArray, List.set_cons_zero, List.set_cons_succ]
              refine walk_step 6 rfl (by kernel_rfl) (by kernel_rfl) (fun K hK => ?lde2)
              case lde2 =>
                go_simp
                refine hK _ _ k4 ?_
                clear hK K
                try simp only [List.getElem_toArray, List.getElem_cons_succ, List.getElem_cons_zero, Act.put, List.setIfInBounds_toArray, List.set_cons_zero, List.set_cons_succ]
                refine walk_step 7 rfl (by kernel_rfl) (by kernel_rfl) (fun K hK => ?cse2)
                case cse2 =>
                  go_simp
                  refine (CS.out w4.drew hRs).mono ?_
                  rintro e v1 ⟨S7, c7, rfl, ⟨sl7, hsl7, hO7s⟩, hb⟩
                  have bl1 : Below w4.heap.size w4 v1 := ((Below.refl w4.heap.size w4).drew).trans hb
                  have hO7s : OwnRs v1 w4.heap.size S7 k3n c7 sl7 := hO7s
                  have hl7s := fun (q : Nat) (hq : Touch S7 sl7 q) => (hO7s.lt hq).2
                  refine hK _ _ ((pV.step bl1).cell' (i := 4) rfl) ?_
                  clear hK K hb hSS
                  try simp only [List.getElem_toArray, List.getElem_cons_succ, List.getElem_cons_zero, Act.put, List.setIfInBounds_toArray, List.set_cons_zero, List.set_cons_succ]
                  refine walk_step 13 rfl (by kernel_rfl) (by kernel_rfl) (fun K hK => ?cae2)
                  case cae2 =>
                    go_simp
                    refine (CA.out v1 (hRa.below bl1)).mono ?_
                    rintro e v2 ⟨A7, d7, rfl, ⟨al7, hal7, hO7a⟩, hb⟩
                    have bl2 := bl1.trans (hb.mono bl1.size)
                    have hO7s2 := hO7s.step hb
                    have dsa : Disj S7 sl7 A7 al7 := fun q h1 h2 => by have := (hO7a.lt h2).1; have := hl7s q h1; omega
                    refine hK _ _ ((pV.step bl2).cell' (i := 4) rfl) ?_
                    clear hK K hb
                    try simp only [List.getElem_toArray, List.getElem_cons_succ, List.getElem_cons_zero, Act.put, List.setIfInBounds_toArray, List.set_cons_zero, List.set_cons_succ]
                    refine walk_take 14 (v := ?ve2c14) rfl (by kernel_rfl) (by kernel_rfl) (by kernel_rfl) (fun _ _ _ h => h) ((pV.step bl2).cell' (i := 4) rfl) (Or.inl ⟨by rfl, ?ye2c14⟩) ?re2c14
                    case ye2c14 => intro w hSw; (try dsimp only at hSw); go_simp; try rfl
                    case' re2c14 => try simp only [List.getElem_toArray, List.getElem_cons_succ, List.getElem_cons_zero, Act.put, List.setIfInBounds_toArray, List.set_cons_zero, List.set_cons_succ]
                    refine walk_take 15 (v := ?ve2c15) rfl (by kernel_rfl) (by kernel_rfl) (by kernel_rfl) (fun _ _ _ h => h) ((pV.step bl2).cell' (i := 4) rfl) (Or.inl ⟨by rfl, ?ye2c15⟩) ?re2c15
                    case ye2c15 => intro w hSw; (try dsimp only at hSw); go_simp; try rfl
                    case' re2c15 => try simp only [List.getElem_toArray, List.getElem_cons_succ, List.getElem_cons_zero, Act.put, List.setIfInBounds_toArray, List.set_cons_zero, List.set_cons_succ]
                    refine walk_take 16 (v := ?ve2c16) rfl (by kernel_rfl) (by kernel_rfl) (by kernel_rfl) (fun _ _ _ h => h) ((pV.step bl2).cell' (i := 4) rfl) (Or.inl ⟨by rfl, ?ye2c16⟩) ?re2c16
                    case ye2c16 => intro w hSw; (try dsimp only at hSw); go_simp; try rfl
                    case' re2c16 => try simp only [List.getElem_toArray, List.getElem_cons_succ, List.getElem_cons_zero, Act.put, List.setIfInBounds_toArray, List.set_cons_zero, List.set_cons_succ]
                    have pe := pV.step bl2
                    have q3 := pe.cell' (i := 3) rfl
                    have kf := pe.frozen
                    have pf := pe.set_ 3 (.slice S7 k3n c7)
                    have q4 := pf.cell' (i := 4) rfl
                    have kf' := pf.frozen
                    refine walk_step 17 rfl (by kernel_rfl) (by kernel_rfl) (fun K hK => ?ste2)
                    case ste2 =>
                      go_simp
                      refine hK _ _ q4 ?_
                      clear hK K
                      try simp only [List.getElem_toArray, List.getElem_cons_succ, List.getElem_cons_zero, Act.put, List.setIfInBounds_toArray, List.set_cons_zero, List.set_cons_succ]
                      refine walk_tail (by kernel_rfl) ?_
                      simp only [List.drop_succ_cons, List.drop_zero]
                      have hOr2 := hOr.step bl2
                      have T7 := TV.step bl2
                      have hlr := fun (q : Nat) (hq : Touch R4 rl4 q) => hOr.lt hq
                      have hplt := pV.lt
                      have hnr : ¬ Touch R4 rl4 p := fun hq => by
                        rcases hq with e | ⟨i, r, hr, e⟩
                        · exact hOr.arr.notBlk pV (by decide) e
                        · exact (hOr.bs.1 i r hr).notBlk pV (by decide) e
                      have hs7 : ∀ q, Touch S7 sl7 q → w4.heap.size ≤ q := fun q hq => (hO7s.lt hq).1
                      have ha7 : ∀ q, Touch A7 al7 q → w4.heap.size ≤ q := fun q hq => by have := (hO7a.lt hq).1; have := bl1.size; omega
                      have hzb : base ≤ w4.heap.size := by omega
                      have hz1 := bl1.size
                      go_wp2_with fail
                      obtain ⟨rfl, rfl, rfl⟩ : h3 = H ∧ rl4.map RowR.b = rows ∧ err = 0 := by have := HRf.out; simp only [Prod.mk.injEq] at this; exact ⟨this.1, this.2.1, this.2.2.symm⟩
                      obtain rfl : k3n = m1 := by rw [← hsL, M1.out]
                      obtain rfl : n2 = m2 := by rw [← haL, M2.out]
                      obtain rfl : nR4 = nR := by rw [← NR.out, List.length_map]; exact hOr.len.symm
                      refine bodyPost_ret (v := .int .i64 0) (by simp [results, Try.results33, go_sem]) rfl ?_
                      refine ⟨S7, c7, A7, d7, R4, cR4, sl7, al7, rl4, rfl, ⟨hsl7, hal7, rfl⟩, pf.set_ 4 _, ?_, ?_, (hOr2.far (p := ⟨p, 3, none⟩) hnr _).far (p := ⟨p, 4, none⟩) hnr _, dsa, fun q h1 h2 => by have := hs7 q h1; have := (hlr q h2).2; omega, fun q h1 h2 => by have := ha7 q h1; have := (hlr q h2).2; omega, (T7.set (p := ⟨p, 3, none⟩) (fun _ => .inl rfl) _).set (p := ⟨p, 4, none⟩) (fun _ => .inl rfl) _⟩
                      · exact ((hO7s2.far (p := ⟨p, 3, none⟩) (fun ht => by have : w4.heap.size ≤ p := hs7 _ ht; omega) _).far (p := ⟨p, 4, none⟩) (fun ht => by have : w4.heap.size ≤ p := hs7 _ ht; omega) _).mono hzb
                      · exact ((hO7a.far (p := ⟨p, 3, none⟩) (fun ht => by have : w4.heap.size ≤ p := ha7 _ ht; omega) _).far (p := ⟨p, 4, none⟩) (fun ht => by have : w4.heap.size ≤ p := ha7 _ ht; omega) _).mono (by omega)
    · have HR2 := Lib.hid (show _ = (H, rows, err) from (if_neg hbr).symm.trans HR1.out)
      clear HR1
      have hold : ∀ k, Touch Sk sl k → k ≠ q5 := fun k hk => by have := (hlts.out k hk).2; omega
      have holda : ∀ k, Touch Ak al k → k ≠ q5 := fun k hk => by have := (hlta.out k hk).2; omega
      obtain ⟨h2, S3, k3n, c3, sl3, w3, t2, MS2, MA2, p3, hOs3, hOa3, dj3, hT3, g3, T23, HR4, hw3⟩ : ∃ (h2 : Hnd) (S3 : Option Addr) (k3n c3 : Nat) (sl3 : List RowR) (w3 : World), Tick h2 ∧ Hid (sl3.map RowR.b = h2.sent) ∧ Hid (al.map RowR.b = h2.asked) ∧ Blk w3 p 45 #[.int .i64 h2.craft, .int .i64 h2.next, .int .i64 h2.ahead, .slice S3 k3n c3, .slice Ak n2 dk, .int .i64 h2.timer, .int .i64 h2.patience, .int .i64 h2.tries, .int .i64 h2.limit, .int .i64 h2.since, .int .i64 h2.pause, .int .i64 h2.halt, .slice none 0 0] ∧ OwnRs w3 base S3 k3n c3 sl3 ∧ OwnRs w3 base Ak n2 dk al ∧ Disj S3 sl3 Ak al ∧ (∀ q, Touch S3 sl3 q → Touch Sk sl q) ∧ Blk w3 q5 56 #[.int .i64 0, .int .i64 0, .int .i64 0, .bool false, .bool false, .bool false, .int .i64 0] ∧ Turned W w3 (fun q => q = p ∨ Touch Sk sl q ∨ Touch Ak al q) ∧ Hid (goH h2 false false = (H, rows, err)) ∧ W2.setRow q5 #[.int .i64 0, .int .i64 0, .int .i64 0, .bool false, .bool false, .bool false, .int .i64 0] = w3 :=
        ⟨h1, Sk, n1, ck, sl, _, t0, MS, MA, p2.farRow (by omega) _, hOs2.keep (fun k hk => setRow_other _ _ k _ (hold k hk)), hOa2.keep (fun k hk => setRow_other _ _ k _ (holda k hk)), DD.out, fun q hq => hq, g5.row _, T2.grown (grown_row W2 q5 _) (fun q hq hl => by have := Option.some.inj hq; omega), HR2, rfl⟩
      have hEE : heard = true → E ≠ 0 := fun h e => hbr ⟨h, e⟩
      clear hbr HR2 hold holda hOs2 hOa2 T2 p2 MS MA t0
      cases heard
      · skip
        clear hEE
        go_upto_region 9 with (refine wpList_store_row rfl 56 (.tmp 5) (.tmp 40) rfl q5 #[.int .i64 0, .int .i64 0, .int .i64 0, .bool false, .bool false, .bool false, .int .i64 0] rfl rfl 56 _ g5 gatesz rfl (by simp [Value.oneCell']) ?_)
        clear hc2 g5
        rw [hw3]
        clear hw3
        have y4 := g3.cell' (i := 4) rfl
        have y5 := g3.cell' (i := 5) rfl
        have y9 := p3.cell' (i := 9) rfl
        have y10 := p3.cell' (i := 10) rfl
        refine heldRegion (fun v => v.cell? ⟨q5, 4, none⟩ = some (.bool false) ∧ v.cell? ⟨q5, 5, none⟩ = some (.bool false) ∧ v.cell? ⟨p, 9, none⟩ = some (.int .i64 h2.since) ∧ v.cell? ⟨p, 10, none⟩ = some (.int .i64 h2.pause)) 21 (by kernel_rfl) (by kernel_rfl) ⟨y4, y5, y9, y10⟩ (fun hSS => ?_)
        refine walk_take 0 (v := ?vza0) rfl (by kernel_rfl) (by kernel_rfl) (by kernel_rfl) (fun _ _ _ h => h) (hSS) (Or.inl ⟨by rfl, ?yza0⟩) ?rza0
        case yza0 => intro w hSw; obtain ⟨hw1, hw2, hw3, hw4⟩ := hSw; (try dsimp only at hSw); go_simp; try rfl
        case' rza0 => try simp only [List.getElem_toArray, List.getElem_cons_succ, List.getElem_cons_zero, Act.put, List.setIfInBounds_toArray, List.set_cons_zero, List.set_cons_succ]
        refine walk_take 1 (v := ?vza1) rfl (by kernel_rfl) (by kernel_rfl) (by kernel_rfl) (fun _ _ _ h => h) (hSS) (Or.inl ⟨by rfl, ?yza1⟩) ?rza1
        case yza1 => intro w hSw; obtain ⟨hw1, hw2, hw3, hw4⟩ := hSw; (try dsimp only at hSw); go_simp; try rfl
        case' rza1 => try simp only [List.getElem_toArray, List.getElem_cons_succ, List.getElem_cons_zero, Act.put, List.setIfInBounds_toArray, List.set_cons_zero, List.set_cons_succ]
        refine walk_take 2 (v := ?vza2) rfl (by kernel_rfl) (by kernel_rfl) (by kernel_rfl) (fun _ _ _ h => h) (hSS) (Or.inl ⟨by rfl, ?yza2⟩) ?rza2
        case yza2 => intro w hSw; obtain ⟨hw1, hw2, hw3, hw4⟩ := hSw; (try dsimp only at hSw); go_simp; try rfl
        case' rza2 => try simp only [List.getElem_toArray, List.getElem_cons_succ, List.getElem_cons_zero, Act.put, List.setIfInBounds_toArray, List.set_cons_zero, List.set_cons_succ]
        refine walk_take 3 (v := ?vza3) rfl (by kernel_rfl) (by kernel_rfl) (by kernel_rfl) (fun _ _ _ h => h) (hSS) (Or.inl ⟨by rfl, ?yza3⟩) ?rza3
        case yza3 => intro w hSw; obtain ⟨hw1, hw2, hw3, hw4⟩ := hSw; (try dsimp only at hSw); go_simp; try rfl
        case' rza3 => try simp only [List.getElem_toArray, List.getElem_cons_succ, List.getElem_cons_zero, Act.put, List.setIfInBounds_toArray, List.set_cons_zero, List.set_cons_succ]
        refine walk_take 4 (v := undef) rfl (by kernel_rfl) (by kernel_rfl) (by kernel_rfl) (fun _ _ _ h => h) (hSS) (Or.inr ⟨by rfl, rfl⟩) ?rza4
        case' rza4 => try simp only [List.getElem_toArray, List.getElem_cons_succ, List.getElem_cons_zero, Act.put, List.setIfInBounds_toArray, List.set_cons_zero, List.set_cons_succ]
        refine walk_take 5 (v := undef) rfl (by kernel_rfl) (by kernel_rfl) (by kernel_rfl) (fun _ _ _ h => h) (hSS) (Or.inr ⟨by rfl, rfl⟩) ?rza5
        case' rza5 => try simp only [List.getElem_toArray, List.getElem_cons_succ, List.getElem_cons_zero, Act.put, List.setIfInBounds_toArray, List.set_cons_zero, List.set_cons_succ]
        refine walk_take 6 (v := undef) rfl (by kernel_rfl) (by kernel_rfl) (by kernel_rfl) (fun _ _ _ h => h) (hSS) (Or.inr ⟨by rfl, rfl⟩) ?rza6
        case' rza6 => try simp only [List.getElem_toArray, List.getElem_cons_succ, List.getElem_cons_zero, Act.put, List.setIfInBounds_toArray, List.set_cons_zero, List.set_cons_succ]
        refine walk_take 7 (v := ?vza7) rfl (by kernel_rfl) (by kernel_rfl) (by kernel_rfl) (fun _ _ _ h => h) (hSS) (Or.inl ⟨by rfl, ?yza7⟩) ?rza7
        case yza7 => intro w hSw; obtain ⟨hw1, hw2, hw3, hw4⟩ := hSw; (try dsimp only at hSw); go_simp; try rfl
        case' rza7 => try simp only [List.getElem_toArray, List.getElem_cons_succ, List.getElem_cons_zero, Act.put, List.setIfInBounds_toArray, List.set_cons_zero, List.set_cons_succ]
        refine walk_take 8 (v := ?vza8) rfl (by kernel_rfl) (by kernel_rfl) (by kernel_rfl) (fun _ _ _ h => h) (hSS) (Or.inl ⟨by rfl, ?yza8⟩) ?rza8
        case yza8 => intro w hSw; obtain ⟨hw1, hw2, hw3, hw4⟩ := hSw; (try dsimp only at hSw); go_simp; try rfl
        case' rza8 => try simp only [List.getElem_toArray, List.getElem_cons_succ, List.getElem_cons_zero, Act.put, List.setIfInBounds_toArray, List.set_cons_zero, List.set_cons_succ]
        refine walk_take 9 (v := undef) rfl (by kernel_rfl) (by kernel_rfl) (by kernel_rfl) (fun _ _ _ h => h) (hSS) (Or.inr ⟨by rfl, rfl⟩) ?rza9
        case' rza9 => try simp only [List.getElem_toArray, List.getElem_cons_succ, List.getElem_cons_zero, Act.put, List.setIfInBounds_toArray, List.set_cons_zero, List.set_cons_succ]
        refine walk_take 10 (v := undef) rfl (by kernel_rfl) (by kernel_rfl) (by kernel_rfl) (fun _ _ _ h => h) (hSS) (Or.inr ⟨by rfl, rfl⟩) ?rza10
        case' rza10 => try simp only [List.getElem_toArray, List.getElem_cons_succ, List.getElem_cons_zero, Act.put, List.setIfInBounds_toArray, List.set_cons_zero, List.set_cons_succ]
        refine walk_take 11 (v := undef) rfl (by kernel_rfl) (by kernel_rfl) (by kernel_rfl) (fun _ _ _ h => h) (hSS) (Or.inr ⟨by rfl, rfl⟩) ?rza11
        case' rza11 => try simp only [List.getElem_toArray, List.getElem_cons_succ, List.getElem_cons_zero, Act.put, List.setIfInBounds_toArray, List.set_cons_zero, List.set_cons_succ]
        refine walk_take 12 (v := undef) rfl (by kernel_rfl) (by kernel_rfl) (by kernel_rfl) (fun _ _ _ h => h) (hSS) (Or.inr ⟨by rfl, rfl⟩) ?rza12
        case' rza12 => try simp only [List.getElem_toArray, List.getElem_cons_succ, List.getElem_cons_zero, Act.put, List.setIfInBounds_toArray, List.set_cons_zero, List.set_cons_succ]
        refine walk_take 13 (v := undef) rfl (by kernel_rfl) (by kernel_rfl) (by kernel_rfl) (fun _ _ _ h => h) (hSS) (Or.inr ⟨by rfl, rfl⟩) ?rza13
        case' rza13 => try simp only [List.getElem_toArray, List.getElem_cons_succ, List.getElem_cons_zero, Act.put, List.setIfInBounds_toArray, List.set_cons_zero, List.set_cons_succ]
        refine walk_take 14 (v := undef) rfl (by kernel_rfl) (by kernel_rfl) (by kernel_rfl) (fun _ _ _ h => h) (hSS) (Or.inr ⟨by rfl, rfl⟩) ?rza14
        case' rza14 => try simp only [List.getElem_toArray, List.getElem_cons_succ, List.getElem_cons_zero, Act.put, List.setIfInBounds_toArray, List.set_cons_zero, List.set_cons_succ]
        refine walk_take 15 (v := undef) rfl (by kernel_rfl) (by kernel_rfl) (by kernel_rfl) (fun _ _ _ h => h) (hSS) (Or.inr ⟨by rfl, rfl⟩) ?rza15
        case' rza15 => try simp only [List.getElem_toArray, List.getElem_cons_succ, List.getElem_cons_zero, Act.put, List.setIfInBounds_toArray, List.set_cons_zero, List.set_cons_succ]
        refine walk_take 16 (v := undef) rfl (by kernel_rfl) (by kernel_rfl) (by kernel_rfl) (fun _ _ _ h => h) (hSS) (Or.inr ⟨by rfl, rfl⟩) ?rza16
        case' rza16 => try simp only [List.getElem_toArray, List.getElem_cons_succ, List.getElem_cons_zero, Act.put, List.setIfInBounds_toArray, List.set_cons_zero, List.set_cons_succ]
        refine walk_take 17 (v := undef) rfl (by kernel_rfl) (by kernel_rfl) (by kernel_rfl) (fun _ _ _ h => h) (hSS) (Or.inr ⟨by rfl, rfl⟩) ?rza17
        case' rza17 => try simp only [List.getElem_toArray, List.getElem_cons_succ, List.getElem_cons_zero, Act.put, List.setIfInBounds_toArray, List.set_cons_zero, List.set_cons_succ]
        refine walk_take 18 (v := undef) rfl (by kernel_rfl) (by kernel_rfl) (by kernel_rfl) (fun _ _ _ h => h) (hSS) (Or.inr ⟨by rfl, rfl⟩) ?rza18
        case' rza18 => try simp only [List.getElem_toArray, List.getElem_cons_succ, List.getElem_cons_zero, Act.put, List.setIfInBounds_toArray, List.set_cons_zero, List.set_cons_succ]
        refine walk_take 19 (v := undef) rfl (by kernel_rfl) (by kernel_rfl) (by kernel_rfl) (fun _ _ _ h => h) (hSS) (Or.inr ⟨by rfl, rfl⟩) ?rza19
        case' rza19 => try simp only [List.getElem_toArray, List.getElem_cons_succ, List.getElem_cons_zero, Act.put, List.setIfInBounds_toArray, List.set_cons_zero, List.set_cons_succ]
        refine walk_take 20 (v := ?vza20) rfl (by kernel_rfl) (by kernel_rfl) (by kernel_rfl) (fun _ _ _ h => h) (hSS) (Or.inl ⟨by rfl, ?yza20⟩) ?rza20
        case yza20 => intro w hSw; obtain ⟨hw1, hw2, hw3, hw4⟩ := hSw; (try dsimp only at hSw); go_simp; try rfl
        case' rza20 => try simp only [List.getElem_toArray, List.getElem_cons_succ, List.getElem_cons_zero, Act.put, List.setIfInBounds_toArray, List.set_cons_zero, List.set_cons_succ]
        clear hSS y4 y5 y9 y10
        refine walk_tail (by kernel_rfl) ?_
        simp only [List.drop_succ_cons, List.drop_zero]
        have zb3 : base ≤ w3.drew.heap.size := by have := p3.lt; show base ≤ w3.heap.size; omega
        have HL := Lib.hid (late_any h2 false S3 Ak none k3n c3 n2 dk 0 0 p base sl3 [] w3.drew p3.drew MS2.out hOs3.drew (OwnRs.nil _ _) (Disj.nil _ _) t2 (by omega) zb3)
        go_wp2_with fail
        refine HL.out.mono ?_
        rintro e w4 ⟨rfl, R4, nR4, cR4, rl4, p4, hO4r, hrl4, hT4, T4⟩
        clear HL
        have hfit := fits_go t2 false false
        rw [HR4.out] at hfit
        have t3 := tick_late t2 false
        have hrw := late_rows t2 false
        obtain ⟨eks, eka⟩ := late_keeps h2 false
        have HR5 := Lib.hid HR4.out
        unfold goH at HR5
        clear HR4
        obtain ⟨r, hr⟩ : ∃ r, lateH h2 false = r := ⟨_, rfl⟩
        rw [hr] at HR5 p4 hrl4 t3 hrw eks eka ⊢
        clear hr
        obtain ⟨h3, r1, on⟩ := r
        dsimp only at HR5 p4 hrl4 t3 hrw eks eka ⊢
        have g4 := g3.drew.turned T4 (fun hq => by
          rcases hq with e | e
          · omega
          · exact nilT e)
        have nts : ∀ q, Touch S3 sl3 q → ¬ (q = p ∨ Touch (none : Option Addr) [] q) := fun q hq h => by
          rcases h with e | e
          · exact hns (e ▸ hT3 q hq)
          · exact nilT e
        have nta : ∀ q, Touch Ak al q → ¬ (q = p ∨ Touch (none : Option Addr) [] q) := fun q hq h => by
          rcases h with e | e
          · exact hna (e ▸ hq)
          · exact nilT e
        have hOs4 := hOs3.drew.turned T4 nts
        have hOa4 := hOa3.drew.turned T4 nta
        have hl3s := fun (q : Nat) (hq : Touch S3 sl3 q) => (hOs3.lt hq).2
        have hl3a := fun (q : Nat) (hq : Touch Ak al q) => (hOa3.lt hq).2
        have hT4' : ∀ q, Touch R4 rl4 q → w3.heap.size ≤ q := fun q hq => by
          rcases hT4 q hq with e | e
          · exact (nilT e).elim
          · exact e
        have T34 : Turned W w4 (fun q => q = p ∨ Touch Sk sl q ∨ Touch Ak al q) := (T23.drewN 1).trans T4 (fun i _ e => by
          rcases e with e | e
          · exact .inl e
          · exact (nilT e).elim)
        have MS3 : sl3.map RowR.b = h3.sent := MS2.out.trans eks.symm
        have MA3 : al.map RowR.b = h3.asked := MA2.out.trans eka.symm
        have hln3 : h3.sent.length = k3n := by rw [← MS3, List.length_map]; exact hOs4.len
        have hla3 : h3.asked.length = n2 := by rw [← MA3, List.length_map]; exact hOa4.len
        have hkr : nR4 ≤ 127 := by
          have e1 := hO4r.len
          have e2 : (rl4.map RowR.b).length = r1.length := by rw [hrl4]; simp
          rw [List.length_map] at e2
          have := hrw.1
          omega
        have z34 := T23.size
        have x4 := g4.cell' (i := 4) rfl
        clear eks eka hT4 T4 g3 hOs3 hOa3 T23 p3
        cases on
        · skip
          have HRf := Lib.hid (show ((h3, rl4.map RowR.b, (0 : Int)) : Hnd × List (List UInt8) × Int) = (H, rows, err) by have := HR5.out; rw [if_neg (by simp)] at this; rw [hrl4]; simpa using this)
          have hH : h3 = H := by have := HRf.out; simp only [Prod.mk.injEq] at this; exact this.1
          have hRs : RdRows w4 S3 h3.sent := by rw [← MS3]; exact hOs4.rd
          have hRa : RdRows w4 Ak h3.asked := by rw [← MA3]; exact hOa4.rd
          have f1 : RowsFit h3.sent k3n := by rw [← hln3, hH]; exact hfit.1
          have f2 : RowsFit h3.asked n2 := by rw [← hla3, hH]; exact hfit.2.1
          have hsL := hln3
          have haL := hla3
          have hOr := hO4r
          have TV := T34
          have pV := p4
          clear HR5 hH hO4r T34 p4 hln3 hla3 hOs4 hOa4 g4
          go_upto_region 11 with fail
          have CS := Lib.hid (fun w (hS : RdRows w S3 h3.sent) => clones_any S3 h3.sent k3n c3 w hsL hS f1.1 f1.2)
          have CA := Lib.hid (fun w (hA : RdRows w Ak h3.asked) => clones_any Ak h3.asked n2 dk w haL hA f2.1 f2.2)
          have k3 := pV.cell' (i := 3) rfl
          have k4 := pV.cell' (i := 4) rfl
          have zV := TV.size
          refine heldRegion (fun v => v.cell? ⟨p, 4, none⟩ = some (.slice Ak n2 dk)) 18 (by kernel_rfl) (by kernel_rfl) k4 (fun hSS => ?_)
          refine walk_take 0 (v := ?vza1a0) rfl (by kernel_rfl) (by kernel_rfl) (by kernel_rfl) (fun _ _ _ h => h) (hSS) (Or.inl ⟨by rfl, ?yza1a0⟩) ?rza1a0
          case yza1a0 => intro w hSw; (try dsimp only at hSw); go_simp; try rfl
          case' rza1a0 => try simp only [List.getElem_toArray, List.getElem_cons_succ, List.getElem_cons_zero, Act.put, List.setIfInBounds_toArray, List.set_cons_zero, List.set_cons_succ]
          refine walk_take 1 (v := ?vza1a1) rfl (by kernel_rfl) (by kernel_rfl) (by kernel_rfl) (fun _ _ _ h => h) (hSS) (Or.inl ⟨by rfl, ?yza1a1⟩) ?rza1a1
          case yza1a1 => intro w hSw; (try dsimp only at hSw); go_simp; try rfl
          case' rza1a1 => try simp only [List.getElem_toArray, List.getElem_cons_succ, List.getElem_cons_zero, Act.put, List.setIfInBounds_toArray, List.set_cons_zero, List.set_cons_succ]
          refine walk_take 2 (v := ?vza1a2) rfl (by kernel_rfl) (by kernel_rfl) (by kernel_rfl) (fun _ _ _ h => h) (hSS) (Or.inl ⟨by rfl, ?yza1a2⟩) ?rza1a2
          case yza1a2 => intro w hSw; (try dsimp only at hSw); go_simp; try rfl
          case' rza1a2 => try simp only [List.getElem_toArray, List.getElem_cons_succ, List.getElem_cons_zero, Act.put, List.setIfInBounds_toArray, List.set_cons_zero, List.set_cons_succ]
          refine walk_take 3 (v := ?vza1a3) rfl (by kernel_rfl) (by kernel_rfl) (by kernel_rfl) (fun _ _ _ h => h) (hSS) (Or.inl ⟨by rfl, ?yza1a3⟩) ?rza1a3
          case yza1a3 => intro w hSw; (try dsimp only at hSw); go_simp; try rfl
          case' rza1a3 => try simp only [List.getElem_toArray, List.getElem_cons_succ, List.getElem_cons_zero, Act.put, List.setIfInBounds_toArray, List.set_cons_zero, List.set_cons_succ]
          refine walk_take 4 (v := ?vza1a4) rfl (by kernel_rfl) (by kernel_rfl) (by kernel_rfl) (fun _ _ _ h => h) (hSS) (Or.inl ⟨by rfl, ?yza1a4⟩) ?rza1a4
          case yza1a4 => intro w hSw; (try dsimp only at hSw); go_simp; try rfl
          case' rza1a4 => try simp only [List.getElem_toArray, List.getElem_cons_succ, List.getElem_cons_zero, Act.put, List.setIfInBounds_toArray, List.set_cons_zero, List.set_cons_succ]
          refine walk_take 5 (v := ?vza1a5) rfl (by kernel_rfl) (by kernel_rfl) (by kernel_rfl) (fun _ _ _ h => h) (hSS) (Or.inl ⟨by rfl, ?yza1a5⟩) ?rza1a5
          case yza1a5 => intro w hSw; (try dsimp only at hSw); go_simp; try rfl
          case' rza1a5 => try simp only [List.getElem_toArray, List.getElem_cons_succ, List.getElem_cons_zero, Act.put, List.setIfInBounds_toArray, List.set_cons_zero, List.set_cons_succ]
          refine walk_take 8 (v := ?vza1a8) rfl (by kernel_rfl) (by kernel_rfl) (by kernel_rfl) (fun _ _ _ h => h) (hSS) (Or.inl ⟨by rfl, ?yza1a8⟩) ?rza1a8
          case yza1a8 => intro w hSw; (try dsimp only at hSw); go_simp; try rfl
          case' rza1a8 => try simp only [List.getElem_toArray, List.getElem_cons_succ, List.getElem_cons_zero, Act.put, List.setIfInBounds_toArray, List.set_cons_zero, List.set_cons_succ]
          refine walk_take 9 (v := ?vza1a9) rfl (by kernel_rfl) (by kernel_rfl) (by kernel_rfl) (fun _ _ _ h => h) (hSS) (Or.inl ⟨by rfl, ?yza1a9⟩) ?rza1a9
          case yza1a9 => intro w hSw; (try dsimp only at hSw); go_simp; try rfl
          case' rza1a9 => try simp only [List.getElem_toArray, List.getElem_cons_succ, List.getElem_cons_zero, Act.put, List.setIfInBounds_toArray, List.set_cons_zero, List.set_cons_succ]
          refine walk_take 10 (v := ?vza1a10) rfl (by kernel_rfl) (by kernel_rfl) (by kernel_rfl) (fun _ _ _ h => h) (hSS) (Or.inl ⟨by rfl, ?yza1a10⟩) ?rza1a10
          case yza1a10 => intro w hSw; (try dsimp only at hSw); go_simp; try rfl
          case' rza1a10 => try simp only [List.getElem_toArray, List.getElem_cons_succ, List.getElem_cons_zero, Act.put, List.setIfInBounds_toArray, List.set_cons_zero, List.set_cons_succ]
          refine walk_take 11 (v := ?vza1a11) rfl (by kernel_rfl) (by kernel_rfl) (by kernel_rfl) (fun _ _ _ h => h) (hSS) (Or.inl ⟨by rfl, ?yza1a11⟩) ?rza1a11
          case yza1a11 => intro w hSw; (try dsimp only at hSw); go_simp; try rfl
          case' rza1a11 => try simp only [List.getElem_toArray, List.getElem_cons_succ, List.getElem_cons_zero, Act.put, List.setIfInBounds_toArray, List.set_cons_zero, List.set_cons_succ]
          refine walk_take 12 (v := ?vza1a12) rfl (by kernel_rfl) (by kernel_rfl) (by kernel_rfl) (fun _ _ _ h => h) (hSS) (Or.inl ⟨by rfl, ?yza1a12⟩) ?rza1a12
          case yza1a12 => intro w hSw; (try dsimp only at hSw); go_simp; try rfl
          case' rza1a12 => try simp only [List.getElem_toArray, List.getElem_cons_succ, List.getElem_cons_zero, Act.put, List.setIfInBounds_toArray, List.set_cons_zero, List.set_cons_succ]
          refine walk_step 6 rfl (by kernel_rfl) (by kernel_rfl) (fun K hK => ?ldza1)
          case ldza1 =>
            go_simp
            refine hK _ _ k4 ?_
            clear hK K
            try simp only [List.getElem_toArray, List.getElem_cons_succ, List.getElem_cons_zero, Act.put, List.setIfInBounds_toArray, List.set_cons_zero, List.set_cons_succ]
            refine walk_step 7 rfl (by kernel_rfl) (by kernel_rfl) (fun K hK => ?csza1)
            case csza1 =>
              go_simp
              refine (CS.out w4.drew hRs).mono ?_
              rintro e v1 ⟨S7, c7, rfl, ⟨sl7, hsl7, hO7s⟩, hb⟩
              have bl1 : Below w4.heap.size w4 v1 := ((Below.refl w4.heap.size w4).drew).trans hb
              have hO7s : OwnRs v1 w4.heap.size S7 k3n c7 sl7 := hO7s
              have hl7s := fun (q : Nat) (hq : Touch S7 sl7 q) => (hO7s.lt hq).2
              refine hK _ _ ((pV.step bl1).cell' (i := 4) rfl) ?_
              clear hK K hb hSS
              try simp only [List.getElem_toArray, List.getElem_cons_succ, List.getElem_cons_zero, Act.put, List.setIfInBounds_toArray, List.set_cons_zero, List.set_cons_succ]
              refine walk_step 13 rfl (by kernel_rfl) (by kernel_rfl) (fun K hK => ?caza1)
              case caza1 =>
                go_simp
                refine (CA.out v1 (hRa.below bl1)).mono ?_
                rintro e v2 ⟨A7, d7, rfl, ⟨al7, hal7, hO7a⟩, hb⟩
                have bl2 := bl1.trans (hb.mono bl1.size)
                have hO7s2 := hO7s.step hb
                have dsa : Disj S7 sl7 A7 al7 := fun q h1 h2 => by have := (hO7a.lt h2).1; have := hl7s q h1; omega
                refine hK _ _ ((pV.step bl2).cell' (i := 4) rfl) ?_
                clear hK K hb
                try simp only [List.getElem_toArray, List.getElem_cons_succ, List.getElem_cons_zero, Act.put, List.setIfInBounds_toArray, List.set_cons_zero, List.set_cons_succ]
                refine walk_take 14 (v := ?vza1c14) rfl (by kernel_rfl) (by kernel_rfl) (by kernel_rfl) (fun _ _ _ h => h) ((pV.step bl2).cell' (i := 4) rfl) (Or.inl ⟨by rfl, ?yza1c14⟩) ?rza1c14
                case yza1c14 => intro w hSw; (try dsimp only at hSw); go_simp; try rfl
                case' rza1c14 => try simp only [List.getElem_toArray, List.getElem_cons_succ, List.getElem_cons_zero, Act.put, List.setIfInBounds_toArray, List.set_cons_zero, List.set_cons_succ]
                refine walk_take 15 (v := ?vza1c15) rfl (by kernel_rfl) (by kernel_rfl) (by kernel_rfl) (fun _ _ _ h => h) ((pV.step bl2).cell' (i := 4) rfl) (Or.inl ⟨by rfl, ?yza1c15⟩) ?rza1c15
                case yza1c15 => intro w hSw; (try dsimp only at hSw); go_simp; try rfl
                case' rza1c15 => try simp only [List.getElem_toArray, List.getElem_cons_succ, List.getElem_cons_zero, Act.put, List.setIfInBounds_toArray, List.set_cons_zero, List.set_cons_succ]
                refine walk_take 16 (v := ?vza1c16) rfl (by kernel_rfl) (by kernel_rfl) (by kernel_rfl) (fun _ _ _ h => h) ((pV.step bl2).cell' (i := 4) rfl) (Or.inl ⟨by rfl, ?yza1c16⟩) ?rza1c16
                case yza1c16 => intro w hSw; (try dsimp only at hSw); go_simp; try rfl
                case' rza1c16 => try simp only [List.getElem_toArray, List.getElem_cons_succ, List.getElem_cons_zero, Act.put, List.setIfInBounds_toArray, List.set_cons_zero, List.set_cons_succ]
                have pe := pV.step bl2
                have q3 := pe.cell' (i := 3) rfl
                have kf := pe.frozen
                have pf := pe.set_ 3 (.slice S7 k3n c7)
                have q4 := pf.cell' (i := 4) rfl
                have kf' := pf.frozen
                refine walk_step 17 rfl (by kernel_rfl) (by kernel_rfl) (fun K hK => ?stza1)
                case stza1 =>
                  go_simp
                  refine hK _ _ q4 ?_
                  clear hK K
                  try simp only [List.getElem_toArray, List.getElem_cons_succ, List.getElem_cons_zero, Act.put, List.setIfInBounds_toArray, List.set_cons_zero, List.set_cons_succ]
                  refine walk_tail (by kernel_rfl) ?_
                  simp only [List.drop_succ_cons, List.drop_zero]
                  have hOr2 := hOr.step bl2
                  have T7 := TV.step bl2
                  have hlr := fun (q : Nat) (hq : Touch R4 rl4 q) => hOr.lt hq
                  have hplt := pV.lt
                  have hnr : ¬ Touch R4 rl4 p := fun hq => by
                    rcases hq with e | ⟨i, r, hr, e⟩
                    · exact hOr.arr.notBlk pV (by decide) e
                    · exact (hOr.bs.1 i r hr).notBlk pV (by decide) e
                  have hs7 : ∀ q, Touch S7 sl7 q → w4.heap.size ≤ q := fun q hq => (hO7s.lt hq).1
                  have ha7 : ∀ q, Touch A7 al7 q → w4.heap.size ≤ q := fun q hq => by have := (hO7a.lt hq).1; have := bl1.size; omega
                  have hzb : base ≤ w4.heap.size := by omega
                  have hz1 := bl1.size
                  go_wp2_with fail
                  obtain ⟨rfl, rfl, rfl⟩ : h3 = H ∧ rl4.map RowR.b = rows ∧ err = 0 := by have := HRf.out; simp only [Prod.mk.injEq] at this; exact ⟨this.1, this.2.1, this.2.2.symm⟩
                  obtain rfl : k3n = m1 := by rw [← hsL, M1.out]
                  obtain rfl : n2 = m2 := by rw [← haL, M2.out]
                  obtain rfl : nR4 = nR := by rw [← NR.out, List.length_map]; exact hOr.len.symm
                  refine bodyPost_ret (v := .int .i64 0) (by simp [results, Try.results33, go_sem]) rfl ?_
                  refine ⟨S7, c7, A7, d7, R4, cR4, sl7, al7, rl4, rfl, ⟨hsl7, hal7, rfl⟩, pf.set_ 4 _, ?_, ?_, (hOr2.far (p := ⟨p, 3, none⟩) hnr _).far (p := ⟨p, 4, none⟩) hnr _, dsa, fun q h1 h2 => by have := hs7 q h1; have := (hlr q h2).2; omega, fun q h1 h2 => by have := ha7 q h1; have := (hlr q h2).2; omega, (T7.set (p := ⟨p, 3, none⟩) (fun _ => .inl rfl) _).set (p := ⟨p, 4, none⟩) (fun _ => .inl rfl) _⟩
                  · exact ((hO7s2.far (p := ⟨p, 3, none⟩) (fun ht => by have : w4.heap.size ≤ p := hs7 _ ht; omega) _).far (p := ⟨p, 4, none⟩) (fun ht => by have : w4.heap.size ≤ p := hs7 _ ht; omega) _).mono hzb
                  · exact ((hO7a.far (p := ⟨p, 3, none⟩) (fun ht => by have : w4.heap.size ≤ p := ha7 _ ht; omega) _).far (p := ⟨p, 4, none⟩) (fun ht => by have : w4.heap.size ≤ p := ha7 _ ht; omega) _).mono (by omega)
        · skip
          have HM := Lib.hid (more_any h3 S3 Ak R4 k3n c3 n2 dk nR4 cR4 p base sl3 al rl4 w4 p4 MS3 MA3 hOs4 hOa4 hO4r dj3 (fun q h1 h2 => by have := hT4' q h2; have := hl3s q h1; omega) (fun q h1 h2 => by have := hT4' q h2; have := hl3a q h1; omega) t3 (by omega) (by have := p4.lt; omega))
          go_wp2_with fail
          refine HM.out.mono ?_
          rintro e w6 ⟨rfl, S6, c6, A6, d6, R6, cR6, rl6, p6, hRs, hRa, hOr, hrl6, hT6, T6⟩
          clear HM
          have hmn : moreN h3 ≤ n2 := by rw [← hla3]; exact Nat.min_le_right _ _
          have hsL : (moreH h3).1.sent.length = k3n + moreN h3 := by show (h3.sent ++ h3.asked.take (moreN h3)).length = _; rw [List.length_append, List.length_take, hln3, hla3]; omega
          have haL : (moreH h3).1.asked.length = n2 - moreN h3 := by show (h3.asked.drop (moreN h3)).length = _; rw [List.length_drop, hla3]
          have HRf := Lib.hid (show (((moreH h3).1, rl6.map RowR.b, (0 : Int)) : Hnd × List (List UInt8) × Int) = (H, rows, err) by have := HR5.out; rw [if_pos (by simp)] at this; rw [hrl6, hrl4]; simpa using this)
          have TV : Turned W w6 (fun q => q = p ∨ Touch Sk sl q ∨ Touch Ak al q) := T34.trans T6 (fun i hi e => by
            rcases e with e | e | e
            · exact .inl e
            · exact .inr (.inl (hT3 i e))
            · have := hT4' i e; omega)
          clear HR5 hrl6 hT6 T6 hO4r T34 p4 hOs4 hOa4 g4
          obtain ⟨h5, hh5⟩ : ∃ x, (moreH h3).1 = x := ⟨_, rfl⟩
          obtain ⟨ks, hks⟩ : ∃ x, k3n + moreN h3 = x := ⟨_, rfl⟩
          obtain ⟨ka, hka⟩ : ∃ x, n2 - moreN h3 = x := ⟨_, rfl⟩
          obtain ⟨kr, hkrr⟩ : ∃ x, nR4 + moreN h3 = x := ⟨_, rfl⟩
          rw [hh5, hks, hka, hkrr] at p6
          rw [hh5] at hRs hRa HRf hsL haL
          rw [hks] at hsL
          rw [hka] at haL
          rw [hkrr] at hOr
          clear hh5 hks hka hkrr hmn
          have hH : h5 = H := by have := HRf.out; simp only [Prod.mk.injEq] at this; exact this.1
          have f1 : RowsFit h5.sent ks := by rw [← hsL, hH]; exact hfit.1
          have f2 : RowsFit h5.asked ka := by rw [← haL, hH]; exact hfit.2.1
          have pV := p6
          clear hH p6
          go_upto_region 11 with fail
          have CS := Lib.hid (fun w (hS : RdRows w S6 h5.sent) => clones_any S6 h5.sent ks c6 w hsL hS f1.1 f1.2)
          have CA := Lib.hid (fun w (hA : RdRows w A6 h5.asked) => clones_any A6 h5.asked ka d6 w haL hA f2.1 f2.2)
          have k3 := pV.cell' (i := 3) rfl
          have k4 := pV.cell' (i := 4) rfl
          have zV := TV.size
          refine heldRegion (fun v => v.cell? ⟨p, 4, none⟩ = some (.slice A6 ka d6)) 18 (by kernel_rfl) (by kernel_rfl) k4 (fun hSS => ?_)
          refine walk_take 0 (v := ?vza2a0) rfl (by kernel_rfl) (by kernel_rfl) (by kernel_rfl) (fun _ _ _ h => h) (hSS) (Or.inl ⟨by rfl, ?yza2a0⟩) ?rza2a0
          case yza2a0 => intro w hSw; (try dsimp only at hSw); go_simp; try rfl
          case' rza2a0 => try simp only [List.getElem_toArray, List.getElem_cons_succ, List.getElem_cons_zero, Act.put, List.setIfInBounds_toArray, List.set_cons_zero, List.set_cons_succ]
          refine walk_take 1 (v := ?vza2a1) rfl (by kernel_rfl) (by kernel_rfl) (by kernel_rfl) (fun _ _ _ h => h) (hSS) (Or.inl ⟨by rfl, ?yza2a1⟩) ?rza2a1
          case yza2a1 => intro w hSw; (try dsimp only at hSw); go_simp; try rfl
          case' rza2a1 => try simp only [List.getElem_toArray, List.getElem_cons_succ, List.getElem_cons_zero, Act.put, List.setIfInBounds_toArray, List.set_cons_zero, List.set_cons_succ]
          refine walk_take 2 (v := ?vza2a2) rfl (by kernel_rfl) (by kernel_rfl) (by kernel_rfl) (fun _ _ _ h => h) (hSS) (Or.inl ⟨by rfl, ?yza2a2⟩) ?rza2a2
          case yza2a2 => intro w hSw; (try dsimp only at hSw); go_simp; try rfl
          case' rza2a2 => try simp only [List.getElem_toArray, List.getElem_cons_succ, List.getElem_cons_zero, Act.put, List.setIfInBounds_toArray, List.set_cons_zero, List.set_cons_succ]
          refine walk_take 3 (v := ?vza2a3) rfl (by kernel_rfl) (by kernel_rfl) (by kernel_rfl) (fun _ _ _ h => h) (hSS) (Or.inl ⟨by rfl, ?yza2a3⟩) ?rza2a3
          case yza2a3 => intro w hSw; (try dsimp only at hSw); go_simp; try rfl
          case' rza2a3 => try simp only [List.getElem_toArray, List.getElem_cons_succ, List.getElem_cons_zero, Act.put, List.setIfInBounds_toArray, List.set_cons_zero, List.set_cons_succ]
          refine walk_take 4 (v := ?vza2a4) rfl (by kernel_rfl) (by kernel_rfl) (by kernel_rfl) (fun _ _ _ h => h) (hSS) (Or.inl ⟨by rfl, ?yza2a4⟩) ?rza2a4
          case yza2a4 => intro w hSw; (try dsimp only at hSw); go_simp; try rfl
          case' rza2a4 => try simp only [List.getElem_toArray, List.getElem_cons_succ, List.getElem_cons_zero, Act.put, List.setIfInBounds_toArray, List.set_cons_zero, List.set_cons_succ]
          refine walk_take 5 (v := ?vza2a5) rfl (by kernel_rfl) (by kernel_rfl) (by kernel_rfl) (fun _ _ _ h => h) (hSS) (Or.inl ⟨by rfl, ?yza2a5⟩) ?rza2a5
          case yza2a5 => intro w hSw; (try dsimp only at hSw); go_simp; try rfl
          case' rza2a5 => try simp only [List.getElem_toArray, List.getElem_cons_succ, List.getElem_cons_zero, Act.put, List.setIfInBounds_toArray, List.set_cons_zero, List.set_cons_succ]
          refine walk_take 8 (v := ?vza2a8) rfl (by kernel_rfl) (by kernel_rfl) (by kernel_rfl) (fun _ _ _ h => h) (hSS) (Or.inl ⟨by rfl, ?yza2a8⟩) ?rza2a8
          case yza2a8 => intro w hSw; (try dsimp only at hSw); go_simp; try rfl
          case' rza2a8 => try simp only [List.getElem_toArray, List.getElem_cons_succ, List.getElem_cons_zero, Act.put, List.setIfInBounds_toArray, List.set_cons_zero, List.set_cons_succ]
          refine walk_take 9 (v := ?vza2a9) rfl (by kernel_rfl) (by kernel_rfl) (by kernel_rfl) (fun _ _ _ h => h) (hSS) (Or.inl ⟨by rfl, ?yza2a9⟩) ?rza2a9
          case yza2a9 => intro w hSw; (try dsimp only at hSw); go_simp; try rfl
          case' rza2a9 => try simp only [List.getElem_toArray, List.getElem_cons_succ, List.getElem_cons_zero, Act.put, List.setIfInBounds_toArray, List.set_cons_zero, List.set_cons_succ]
          refine walk_take 10 (v := ?vza2a10) rfl (by kernel_rfl) (by kernel_rfl) (by kernel_rfl) (fun _ _ _ h => h) (hSS) (Or.inl ⟨by rfl, ?yza2a10⟩) ?rza2a10
          case yza2a10 => intro w hSw; (try dsimp only at hSw); go_simp; try rfl
          case' rza2a10 => try simp only [List.getElem_toArray, List.getElem_cons_succ, List.getElem_cons_zero, Act.put, List.setIfInBounds_toArray, List.set_cons_zero, List.set_cons_succ]
          refine walk_take 11 (v := ?vza2a11) rfl (by kernel_rfl) (by kernel_rfl) (by kernel_rfl) (fun _ _ _ h => h) (hSS) (Or.inl ⟨by rfl, ?yza2a11⟩) ?rza2a11
          case yza2a11 => intro w hSw; (try dsimp only at hSw); go_simp; try rfl
          case' rza2a11 => try simp only [List.getElem_toArray, List.getElem_cons_succ, List.getElem_cons_zero, Act.put, List.setIfInBounds_toArray, List.set_cons_zero, List.set_cons_succ]
          refine walk_take 12 (v := ?vza2a12) rfl (by kernel_rfl) (by kernel_rfl) (by kernel_rfl) (fun _ _ _ h => h) (hSS) (Or.inl ⟨by rfl, ?yza2a12⟩) ?rza2a12
          case yza2a12 => intro w hSw; (try dsimp only at hSw); go_simp; try rfl
          case' rza2a12 => try simp only [List.getElem_toArray, List.getElem_cons_succ, List.getElem_cons_zero, Act.put, List.setIfInBounds_toArray, List.set_cons_zero, List.set_cons_succ]
          refine walk_step 6 rfl (by kernel_rfl) (by kernel_rfl) (fun K hK => ?ldza2)
          case ldza2 =>
            go_simp
            refine hK _ _ k4 ?_
            clear hK K
            try simp only [List.getElem_toArray, List.getElem_cons_succ, List.getElem_cons_zero, Act.put, List.setIfInBounds_toArray, List.set_cons_zero, List.set_cons_succ]
            refine walk_step 7 rfl (by kernel_rfl) (by kernel_rfl) (fun K hK => ?csza2)
            case csza2 =>
              go_simp
              refine (CS.out w6.drew hRs).mono ?_
              rintro e v1 ⟨S7, c7, rfl, ⟨sl7, hsl7, hO7s⟩, hb⟩
              have bl1 : Below w6.heap.size w6 v1 := ((Below.refl w6.heap.size w6).drew).trans hb
              have hO7s : OwnRs v1 w6.heap.size S7 ks c7 sl7 := hO7s
              have hl7s := fun (q : Nat) (hq : Touch S7 sl7 q) => (hO7s.lt hq).2
              refine hK _ _ ((pV.step bl1).cell' (i := 4) rfl) ?_
              clear hK K hb hSS
              try simp only [List.getElem_toArray, List.getElem_cons_succ, List.getElem_cons_zero, Act.put, List.setIfInBounds_toArray, List.set_cons_zero, List.set_cons_succ]
              refine walk_step 13 rfl (by kernel_rfl) (by kernel_rfl) (fun K hK => ?caza2)
              case caza2 =>
                go_simp
                refine (CA.out v1 (hRa.below bl1)).mono ?_
                rintro e v2 ⟨A7, d7, rfl, ⟨al7, hal7, hO7a⟩, hb⟩
                have bl2 := bl1.trans (hb.mono bl1.size)
                have hO7s2 := hO7s.step hb
                have dsa : Disj S7 sl7 A7 al7 := fun q h1 h2 => by have := (hO7a.lt h2).1; have := hl7s q h1; omega
                refine hK _ _ ((pV.step bl2).cell' (i := 4) rfl) ?_
                clear hK K hb
                try simp only [List.getElem_toArray, List.getElem_cons_succ, List.getElem_cons_zero, Act.put, List.setIfInBounds_toArray, List.set_cons_zero, List.set_cons_succ]
                refine walk_take 14 (v := ?vza2c14) rfl (by kernel_rfl) (by kernel_rfl) (by kernel_rfl) (fun _ _ _ h => h) ((pV.step bl2).cell' (i := 4) rfl) (Or.inl ⟨by rfl, ?yza2c14⟩) ?rza2c14
                case yza2c14 => intro w hSw; (try dsimp only at hSw); go_simp; try rfl
                case' rza2c14 => try simp only [List.getElem_toArray, List.getElem_cons_succ, List.getElem_cons_zero, Act.put, List.setIfInBounds_toArray, List.set_cons_zero, List.set_cons_succ]
                refine walk_take 15 (v := ?vza2c15) rfl (by kernel_rfl) (by kernel_rfl) (by kernel_rfl) (fun _ _ _ h => h) ((pV.step bl2).cell' (i := 4) rfl) (Or.inl ⟨by rfl, ?yza2c15⟩) ?rza2c15
                case yza2c15 => intro w hSw; (try dsimp only at hSw); go_simp; try rfl
                case' rza2c15 => try simp only [List.getElem_toArray, List.getElem_cons_succ, List.getElem_cons_zero, Act.put, List.setIfInBounds_toArray, List.set_cons_zero, List.set_cons_succ]
                refine walk_take 16 (v := ?vza2c16) rfl (by kernel_rfl) (by kernel_rfl) (by kernel_rfl) (fun _ _ _ h => h) ((pV.step bl2).cell' (i := 4) rfl) (Or.inl ⟨by rfl, ?yza2c16⟩) ?rza2c16
                case yza2c16 => intro w hSw; (try dsimp only at hSw); go_simp; try rfl
                case' rza2c16 => try simp only [List.getElem_toArray, List.getElem_cons_succ, List.getElem_cons_zero, Act.put, List.setIfInBounds_toArray, List.set_cons_zero, List.set_cons_succ]
                have pe := pV.step bl2
                have q3 := pe.cell' (i := 3) rfl
                have kf := pe.frozen
                have pf := pe.set_ 3 (.slice S7 ks c7)
                have q4 := pf.cell' (i := 4) rfl
                have kf' := pf.frozen
                refine walk_step 17 rfl (by kernel_rfl) (by kernel_rfl) (fun K hK => ?stza2)
                case stza2 =>
                  go_simp
                  refine hK _ _ q4 ?_
                  clear hK K
                  try simp only [List.getElem_toArray, List.getElem_cons_succ, List.getElem_cons_zero, Act.put, List.setIfInBounds_toArray, List.set_cons_zero, List.set_cons_succ]
                  refine walk_tail (by kernel_rfl) ?_
                  simp only [List.drop_succ_cons, List.drop_zero]
                  have hOr2 := hOr.step bl2
                  have T7 := TV.step bl2
                  have hlr := fun (q : Nat) (hq : Touch R6 rl6 q) => hOr.lt hq
                  have hplt := pV.lt
                  have hnr : ¬ Touch R6 rl6 p := fun hq => by
                    rcases hq with e | ⟨i, r, hr, e⟩
                    · exact hOr.arr.notBlk pV (by decide) e
                    · exact (hOr.bs.1 i r hr).notBlk pV (by decide) e
                  have hs7 : ∀ q, Touch S7 sl7 q → w6.heap.size ≤ q := fun q hq => (hO7s.lt hq).1
                  have ha7 : ∀ q, Touch A7 al7 q → w6.heap.size ≤ q := fun q hq => by have := (hO7a.lt hq).1; have := bl1.size; omega
                  have hzb : base ≤ w6.heap.size := by omega
                  have hz1 := bl1.size
                  go_wp2_with fail
                  obtain ⟨rfl, rfl, rfl⟩ : h5 = H ∧ rl6.map RowR.b = rows ∧ err = 0 := by have := HRf.out; simp only [Prod.mk.injEq] at this; exact ⟨this.1, this.2.1, this.2.2.symm⟩
                  obtain rfl : ks = m1 := by rw [← hsL, M1.out]
                  obtain rfl : ka = m2 := by rw [← haL, M2.out]
                  obtain rfl : kr = nR := by rw [← NR.out, List.length_map]; exact hOr.len.symm
                  refine bodyPost_ret (v := .int .i64 0) (by simp [results, Try.results33, go_sem]) rfl ?_
                  refine ⟨S7, c7, A7, d7, R6, cR6, sl7, al7, rl6, rfl, ⟨hsl7, hal7, rfl⟩, pf.set_ 4 _, ?_, ?_, (hOr2.far (p := ⟨p, 3, none⟩) hnr _).far (p := ⟨p, 4, none⟩) hnr _, dsa, fun q h1 h2 => by have := hs7 q h1; have := (hlr q h2).2; omega, fun q h1 h2 => by have := ha7 q h1; have := (hlr q h2).2; omega, (T7.set (p := ⟨p, 3, none⟩) (fun _ => .inl rfl) _).set (p := ⟨p, 4, none⟩) (fun _ => .inl rfl) _⟩
                  · exact ((hO7s2.far (p := ⟨p, 3, none⟩) (fun ht => by have : w6.heap.size ≤ p := hs7 _ ht; omega) _).far (p := ⟨p, 4, none⟩) (fun ht => by have : w6.heap.size ≤ p := hs7 _ ht; omega) _).mono hzb
                  · exact ((hO7a.far (p := ⟨p, 3, none⟩) (fun ht => by have : w6.heap.size ≤ p := ha7 _ ht; omega) _).far (p := ⟨p, 4, none⟩) (fun ht => by have : w6.heap.size ≤ p := ha7 _ ht; omega) _).mono (by omega)
      · have eE : (E == 0) = false := by rw [beq_eq_false_iff_ne]; exact hEE rfl
        have eE' : (E != 0) = true := by rw [bne_iff_ne]; exact hEE rfl
        clear hEE
        go_upto_region 9 with (refine wpList_store_row rfl 56 (.tmp 5) (.tmp 40) rfl q5 #[.int .i64 0, .int .i64 0, .int .i64 0, .bool false, .bool false, .bool false, .int .i64 0] rfl rfl 56 _ g5 gatesz rfl (by simp [Value.oneCell']) ?_)
        clear hc2 g5
        rw [hw3]
        clear hw3
        have y4 := g3.cell' (i := 4) rfl
        have y5 := g3.cell' (i := 5) rfl
        have y9 := p3.cell' (i := 9) rfl
        have y10 := p3.cell' (i := 10) rfl
        refine heldRegion (fun v => v.cell? ⟨q5, 4, none⟩ = some (.bool false) ∧ v.cell? ⟨q5, 5, none⟩ = some (.bool false) ∧ v.cell? ⟨p, 9, none⟩ = some (.int .i64 h2.since) ∧ v.cell? ⟨p, 10, none⟩ = some (.int .i64 h2.pause)) 21 (by kernel_rfl) (by kernel_rfl) ⟨y4, y5, y9, y10⟩ (fun hSS => ?_)
        refine walk_take 0 (v := ?vzb0) rfl (by kernel_rfl) (by kernel_rfl) (by kernel_rfl) (fun _ _ _ h => h) (hSS) (Or.inl ⟨by rfl, ?yzb0⟩) ?rzb0
        case yzb0 => intro w hSw; obtain ⟨hw1, hw2, hw3, hw4⟩ := hSw; (try dsimp only at hSw); go_simp; try rfl
        case' rzb0 => try simp only [List.getElem_toArray, List.getElem_cons_succ, List.getElem_cons_zero, Act.put, List.setIfInBounds_toArray, List.set_cons_zero, List.set_cons_succ]
        refine walk_take 1 (v := ?vzb1) rfl (by kernel_rfl) (by kernel_rfl) (by kernel_rfl) (fun _ _ _ h => h) (hSS) (Or.inl ⟨by rfl, ?yzb1⟩) ?rzb1
        case yzb1 => intro w hSw; obtain ⟨hw1, hw2, hw3, hw4⟩ := hSw; (try dsimp only at hSw); go_simp; try rfl
        case' rzb1 => try simp only [List.getElem_toArray, List.getElem_cons_succ, List.getElem_cons_zero, Act.put, List.setIfInBounds_toArray, List.set_cons_zero, List.set_cons_succ]
        refine walk_take 2 (v := ?vzb2) rfl (by kernel_rfl) (by kernel_rfl) (by kernel_rfl) (fun _ _ _ h => h) (hSS) (Or.inl ⟨by rfl, ?yzb2⟩) ?rzb2
        case yzb2 => intro w hSw; obtain ⟨hw1, hw2, hw3, hw4⟩ := hSw; (try dsimp only at hSw); go_simp; try rfl
        case' rzb2 => try simp only [List.getElem_toArray, List.getElem_cons_succ, List.getElem_cons_zero, Act.put, List.setIfInBounds_toArray, List.set_cons_zero, List.set_cons_succ]
        refine walk_take 3 (v := ?vzb3) rfl (by kernel_rfl) (by kernel_rfl) (by kernel_rfl) (fun _ _ _ h => h) (hSS) (Or.inl ⟨by rfl, ?yzb3⟩) ?rzb3
        case yzb3 => intro w hSw; obtain ⟨hw1, hw2, hw3, hw4⟩ := hSw; (try dsimp only at hSw); go_simp; try rfl
        case' rzb3 => try simp only [List.getElem_toArray, List.getElem_cons_succ, List.getElem_cons_zero, Act.put, List.setIfInBounds_toArray, List.set_cons_zero, List.set_cons_succ]
        refine walk_take 4 (v := undef) rfl (by kernel_rfl) (by kernel_rfl) (by kernel_rfl) (fun _ _ _ h => h) (hSS) (Or.inr ⟨by rfl, rfl⟩) ?rzb4
        case' rzb4 => try simp only [List.getElem_toArray, List.getElem_cons_succ, List.getElem_cons_zero, Act.put, List.setIfInBounds_toArray, List.set_cons_zero, List.set_cons_succ]
        refine walk_take 5 (v := undef) rfl (by kernel_rfl) (by kernel_rfl) (by kernel_rfl) (fun _ _ _ h => h) (hSS) (Or.inr ⟨by rfl, rfl⟩) ?rzb5
        case' rzb5 => try simp only [List.getElem_toArray, List.getElem_cons_succ, List.getElem_cons_zero, Act.put, List.setIfInBounds_toArray, List.set_cons_zero, List.set_cons_succ]
        refine walk_take 6 (v := undef) rfl (by kernel_rfl) (by kernel_rfl) (by kernel_rfl) (fun _ _ _ h => h) (hSS) (Or.inr ⟨by rfl, rfl⟩) ?rzb6
        case' rzb6 => try simp only [List.getElem_toArray, List.getElem_cons_succ, List.getElem_cons_zero, Act.put, List.setIfInBounds_toArray, List.set_cons_zero, List.set_cons_succ]
        refine walk_take 7 (v := ?vzb7) rfl (by kernel_rfl) (by kernel_rfl) (by kernel_rfl) (fun _ _ _ h => h) (hSS) (Or.inl ⟨by rfl, ?yzb7⟩) ?rzb7
        case yzb7 => intro w hSw; obtain ⟨hw1, hw2, hw3, hw4⟩ := hSw; (try dsimp only at hSw); go_simp; try rfl
        case' rzb7 => try simp only [List.getElem_toArray, List.getElem_cons_succ, List.getElem_cons_zero, Act.put, List.setIfInBounds_toArray, List.set_cons_zero, List.set_cons_succ]
        refine walk_take 8 (v := ?vzb8) rfl (by kernel_rfl) (by kernel_rfl) (by kernel_rfl) (fun _ _ _ h => h) (hSS) (Or.inl ⟨by rfl, ?yzb8⟩) ?rzb8
        case yzb8 => intro w hSw; obtain ⟨hw1, hw2, hw3, hw4⟩ := hSw; (try dsimp only at hSw); go_simp; try rfl
        case' rzb8 => try simp only [List.getElem_toArray, List.getElem_cons_succ, List.getElem_cons_zero, Act.put, List.setIfInBounds_toArray, List.set_cons_zero, List.set_cons_succ]
        refine walk_take 9 (v := undef) rfl (by kernel_rfl) (by kernel_rfl) (by kernel_rfl) (fun _ _ _ h => h) (hSS) (Or.inr ⟨by rfl, rfl⟩) ?rzb9
        case' rzb9 => try simp only [List.getElem_toArray, List.getElem_cons_succ, List.getElem_cons_zero, Act.put, List.setIfInBounds_toArray, List.set_cons_zero, List.set_cons_succ]
        refine walk_take 10 (v := undef) rfl (by kernel_rfl) (by kernel_rfl) (by kernel_rfl) (fun _ _ _ h => h) (hSS) (Or.inr ⟨by rfl, rfl⟩) ?rzb10
        case' rzb10 => try simp only [List.getElem_toArray, List.getElem_cons_succ, List.getElem_cons_zero, Act.put, List.setIfInBounds_toArray, List.set_cons_zero, List.set_cons_succ]
        refine walk_take 11 (v := undef) rfl (by kernel_rfl) (by kernel_rfl) (by kernel_rfl) (fun _ _ _ h => h) (hSS) (Or.inr ⟨by rfl, rfl⟩) ?rzb11
        case' rzb11 => try simp only [List.getElem_toArray, List.getElem_cons_succ, List.getElem_cons_zero, Act.put, List.setIfInBounds_toArray, List.set_cons_zero, List.set_cons_succ]
        refine walk_take 12 (v := undef) rfl (by kernel_rfl) (by kernel_rfl) (by kernel_rfl) (fun _ _ _ h => h) (hSS) (Or.inr ⟨by rfl, rfl⟩) ?rzb12
        case' rzb12 => try simp only [List.getElem_toArray, List.getElem_cons_succ, List.getElem_cons_zero, Act.put, List.setIfInBounds_toArray, List.set_cons_zero, List.set_cons_succ]
        refine walk_take 13 (v := undef) rfl (by kernel_rfl) (by kernel_rfl) (by kernel_rfl) (fun _ _ _ h => h) (hSS) (Or.inr ⟨by rfl, rfl⟩) ?rzb13
        case' rzb13 => try simp only [List.getElem_toArray, List.getElem_cons_succ, List.getElem_cons_zero, Act.put, List.setIfInBounds_toArray, List.set_cons_zero, List.set_cons_succ]
        refine walk_take 14 (v := undef) rfl (by kernel_rfl) (by kernel_rfl) (by kernel_rfl) (fun _ _ _ h => h) (hSS) (Or.inr ⟨by rfl, rfl⟩) ?rzb14
        case' rzb14 => try simp only [List.getElem_toArray, List.getElem_cons_succ, List.getElem_cons_zero, Act.put, List.setIfInBounds_toArray, List.set_cons_zero, List.set_cons_succ]
        refine walk_take 15 (v := undef) rfl (by kernel_rfl) (by kernel_rfl) (by kernel_rfl) (fun _ _ _ h => h) (hSS) (Or.inr ⟨by rfl, rfl⟩) ?rzb15
        case' rzb15 => try simp only [List.getElem_toArray, List.getElem_cons_succ, List.getElem_cons_zero, Act.put, List.setIfInBounds_toArray, List.set_cons_zero, List.set_cons_succ]
        refine walk_take 16 (v := undef) rfl (by kernel_rfl) (by kernel_rfl) (by kernel_rfl) (fun _ _ _ h => h) (hSS) (Or.inr ⟨by rfl, rfl⟩) ?rzb16
        case' rzb16 => try simp only [List.getElem_toArray, List.getElem_cons_succ, List.getElem_cons_zero, Act.put, List.setIfInBounds_toArray, List.set_cons_zero, List.set_cons_succ]
        refine walk_take 17 (v := undef) rfl (by kernel_rfl) (by kernel_rfl) (by kernel_rfl) (fun _ _ _ h => h) (hSS) (Or.inr ⟨by rfl, rfl⟩) ?rzb17
        case' rzb17 => try simp only [List.getElem_toArray, List.getElem_cons_succ, List.getElem_cons_zero, Act.put, List.setIfInBounds_toArray, List.set_cons_zero, List.set_cons_succ]
        refine walk_take 18 (v := undef) rfl (by kernel_rfl) (by kernel_rfl) (by kernel_rfl) (fun _ _ _ h => h) (hSS) (Or.inr ⟨by rfl, rfl⟩) ?rzb18
        case' rzb18 => try simp only [List.getElem_toArray, List.getElem_cons_succ, List.getElem_cons_zero, Act.put, List.setIfInBounds_toArray, List.set_cons_zero, List.set_cons_succ]
        refine walk_take 19 (v := undef) rfl (by kernel_rfl) (by kernel_rfl) (by kernel_rfl) (fun _ _ _ h => h) (hSS) (Or.inr ⟨by rfl, rfl⟩) ?rzb19
        case' rzb19 => try simp only [List.getElem_toArray, List.getElem_cons_succ, List.getElem_cons_zero, Act.put, List.setIfInBounds_toArray, List.set_cons_zero, List.set_cons_succ]
        refine walk_take 20 (v := ?vzb20) rfl (by kernel_rfl) (by kernel_rfl) (by kernel_rfl) (fun _ _ _ h => h) (hSS) (Or.inl ⟨by rfl, ?yzb20⟩) ?rzb20
        case yzb20 => intro w hSw; obtain ⟨hw1, hw2, hw3, hw4⟩ := hSw; (try dsimp only at hSw); go_simp; try rfl
        case' rzb20 => try simp only [List.getElem_toArray, List.getElem_cons_succ, List.getElem_cons_zero, Act.put, List.setIfInBounds_toArray, List.set_cons_zero, List.set_cons_succ]
        clear hSS y4 y5 y9 y10
        refine walk_tail (by kernel_rfl) ?_
        simp only [List.drop_succ_cons, List.drop_zero]
        have zb3 : base ≤ w3.drew.heap.size := by have := p3.lt; show base ≤ w3.heap.size; omega
        have HL := Lib.hid (late_any h2 false S3 Ak none k3n c3 n2 dk 0 0 p base sl3 [] w3.drew p3.drew MS2.out hOs3.drew (OwnRs.nil _ _) (Disj.nil _ _) t2 (by omega) zb3)
        go_wp2_with fail
        refine HL.out.mono ?_
        rintro e w4 ⟨rfl, R4, nR4, cR4, rl4, p4, hO4r, hrl4, hT4, T4⟩
        clear HL
        have hfit := fits_go t2 false false
        rw [HR4.out] at hfit
        have t3 := tick_late t2 false
        have hrw := late_rows t2 false
        obtain ⟨eks, eka⟩ := late_keeps h2 false
        have HR5 := Lib.hid HR4.out
        unfold goH at HR5
        clear HR4
        obtain ⟨r, hr⟩ : ∃ r, lateH h2 false = r := ⟨_, rfl⟩
        rw [hr] at HR5 p4 hrl4 t3 hrw eks eka ⊢
        clear hr
        obtain ⟨h3, r1, on⟩ := r
        dsimp only at HR5 p4 hrl4 t3 hrw eks eka ⊢
        have g4 := g3.drew.turned T4 (fun hq => by
          rcases hq with e | e
          · omega
          · exact nilT e)
        have nts : ∀ q, Touch S3 sl3 q → ¬ (q = p ∨ Touch (none : Option Addr) [] q) := fun q hq h => by
          rcases h with e | e
          · exact hns (e ▸ hT3 q hq)
          · exact nilT e
        have nta : ∀ q, Touch Ak al q → ¬ (q = p ∨ Touch (none : Option Addr) [] q) := fun q hq h => by
          rcases h with e | e
          · exact hna (e ▸ hq)
          · exact nilT e
        have hOs4 := hOs3.drew.turned T4 nts
        have hOa4 := hOa3.drew.turned T4 nta
        have hl3s := fun (q : Nat) (hq : Touch S3 sl3 q) => (hOs3.lt hq).2
        have hl3a := fun (q : Nat) (hq : Touch Ak al q) => (hOa3.lt hq).2
        have hT4' : ∀ q, Touch R4 rl4 q → w3.heap.size ≤ q := fun q hq => by
          rcases hT4 q hq with e | e
          · exact (nilT e).elim
          · exact e
        have T34 : Turned W w4 (fun q => q = p ∨ Touch Sk sl q ∨ Touch Ak al q) := (T23.drewN 1).trans T4 (fun i _ e => by
          rcases e with e | e
          · exact .inl e
          · exact (nilT e).elim)
        have MS3 : sl3.map RowR.b = h3.sent := MS2.out.trans eks.symm
        have MA3 : al.map RowR.b = h3.asked := MA2.out.trans eka.symm
        have hln3 : h3.sent.length = k3n := by rw [← MS3, List.length_map]; exact hOs4.len
        have hla3 : h3.asked.length = n2 := by rw [← MA3, List.length_map]; exact hOa4.len
        have hkr : nR4 ≤ 127 := by
          have e1 := hO4r.len
          have e2 : (rl4.map RowR.b).length = r1.length := by rw [hrl4]; simp
          rw [List.length_map] at e2
          have := hrw.1
          omega
        have z34 := T23.size
        have x4 := g4.cell' (i := 4) rfl
        clear eks eka hT4 T4 g3 hOs3 hOa3 T23 p3
        cases on
        · skip
          have HRf := Lib.hid (show ((h3, rl4.map RowR.b, (0 : Int)) : Hnd × List (List UInt8) × Int) = (H, rows, err) by have := HR5.out; rw [if_neg (by simp)] at this; rw [hrl4]; simpa using this)
          have hH : h3 = H := by have := HRf.out; simp only [Prod.mk.injEq] at this; exact this.1
          have hRs : RdRows w4 S3 h3.sent := by rw [← MS3]; exact hOs4.rd
          have hRa : RdRows w4 Ak h3.asked := by rw [← MA3]; exact hOa4.rd
          have f1 : RowsFit h3.sent k3n := by rw [← hln3, hH]; exact hfit.1
          have f2 : RowsFit h3.asked n2 := by rw [← hla3, hH]; exact hfit.2.1
          have hsL := hln3
          have haL := hla3
          have hOr := hO4r
          have TV := T34
          have pV := p4
          clear HR5 hH hO4r T34 p4 hln3 hla3 hOs4 hOa4 g4
          go_upto_region 11 with fail
          have CS := Lib.hid (fun w (hS : RdRows w S3 h3.sent) => clones_any S3 h3.sent k3n c3 w hsL hS f1.1 f1.2)
          have CA := Lib.hid (fun w (hA : RdRows w Ak h3.asked) => clones_any Ak h3.asked n2 dk w haL hA f2.1 f2.2)
          have k3 := pV.cell' (i := 3) rfl
          have k4 := pV.cell' (i := 4) rfl
          have zV := TV.size
          refine heldRegion (fun v => v.cell? ⟨p, 4, none⟩ = some (.slice Ak n2 dk)) 18 (by kernel_rfl) (by kernel_rfl) k4 (fun hSS => ?_)
          refine walk_take 0 (v := ?vzb1a0) rfl (by kernel_rfl) (by kernel_rfl) (by kernel_rfl) (fun _ _ _ h => h) (hSS) (Or.inl ⟨by rfl, ?yzb1a0⟩) ?rzb1a0
          case yzb1a0 => intro w hSw; (try dsimp only at hSw); go_simp; try rfl
          case' rzb1a0 => try simp only [List.getElem_toArray, List.getElem_cons_succ, List.getElem_cons_zero, Act.put, List.setIfInBounds_toArray, List.set_cons_zero, List.set_cons_succ]
          refine walk_take 1 (v := ?vzb1a1) rfl (by kernel_rfl) (by kernel_rfl) (by kernel_rfl) (fun _ _ _ h => h) (hSS) (Or.inl ⟨by rfl, ?yzb1a1⟩) ?rzb1a1
          case yzb1a1 => intro w hSw; (try dsimp only at hSw); go_simp; try rfl
          case' rzb1a1 => try simp only [List.getElem_toArray, List.getElem_cons_succ, List.getElem_cons_zero, Act.put, List.setIfInBounds_toArray, List.set_cons_zero, List.set_cons_succ]
          refine walk_take 2 (v := ?vzb1a2) rfl (by kernel_rfl) (by kernel_rfl) (by kernel_rfl) (fun _ _ _ h => h) (hSS) (Or.inl ⟨by rfl, ?yzb1a2⟩) ?rzb1a2
          case yzb1a2 => intro w hSw; (try dsimp only at hSw); go_simp; try rfl
          case' rzb1a2 => try simp only [List.getElem_toArray, List.getElem_cons_succ, List.getElem_cons_zero, Act.put, List.setIfInBounds_toArray, List.set_cons_zero, List.set_cons_succ]
          refine walk_take 3 (v := ?vzb1a3) rfl (by kernel_rfl) (by kernel_rfl) (by kernel_rfl) (fun _ _ _ h => h) (hSS) (Or.inl ⟨by rfl, ?yzb1a3⟩) ?rzb1a3
          case yzb1a3 => intro w hSw; (try dsimp only at hSw); go_simp; try rfl
          case' rzb1a3 => try simp only [List.getElem_toArray, List.getElem_cons_succ, List.getElem_cons_zero, Act.put, List.setIfInBounds_toArray, List.set_cons_zero, List.set_cons_succ]
          refine walk_take 4 (v := ?vzb1a4) rfl (by kernel_rfl) (by kernel_rfl) (by kernel_rfl) (fun _ _ _ h => h) (hSS) (Or.inl ⟨by rfl, ?yzb1a4⟩) ?rzb1a4
          case yzb1a4 => intro w hSw; (try dsimp only at hSw); go_simp; try rfl
          case' rzb1a4 => try simp only [List.getElem_toArray, List.getElem_cons_succ, List.getElem_cons_zero, Act.put, List.setIfInBounds_toArray, List.set_cons_zero, List.set_cons_succ]
          refine walk_take 5 (v := ?vzb1a5) rfl (by kernel_rfl) (by kernel_rfl) (by kernel_rfl) (fun _ _ _ h => h) (hSS) (Or.inl ⟨by rfl, ?yzb1a5⟩) ?rzb1a5
          case yzb1a5 => intro w hSw; (try dsimp only at hSw); go_simp; try rfl
          case' rzb1a5 => try simp only [List.getElem_toArray, List.getElem_cons_succ, List.getElem_cons_zero, Act.put, List.setIfInBounds_toArray, List.set_cons_zero, List.set_cons_succ]
          refine walk_take 8 (v := ?vzb1a8) rfl (by kernel_rfl) (by kernel_rfl) (by kernel_rfl) (fun _ _ _ h => h) (hSS) (Or.inl ⟨by rfl, ?yzb1a8⟩) ?rzb1a8
          case yzb1a8 => intro w hSw; (try dsimp only at hSw); go_simp; try rfl
          case' rzb1a8 => try simp only [List.getElem_toArray, List.getElem_cons_succ, List.getElem_cons_zero, Act.put, List.setIfInBounds_toArray, List.set_cons_zero, List.set_cons_succ]
          refine walk_take 9 (v := ?vzb1a9) rfl (by kernel_rfl) (by kernel_rfl) (by kernel_rfl) (fun _ _ _ h => h) (hSS) (Or.inl ⟨by rfl, ?yzb1a9⟩) ?rzb1a9
          case yzb1a9 => intro w hSw; (try dsimp only at hSw); go_simp; try rfl
          case' rzb1a9 => try simp only [List.getElem_toArray, List.getElem_cons_succ, List.getElem_cons_zero, Act.put, List.setIfInBounds_toArray, List.set_cons_zero, List.set_cons_succ]
          refine walk_take 10 (v := ?vzb1a10) rfl (by kernel_rfl) (by kernel_rfl) (by kernel_rfl) (fun _ _ _ h => h) (hSS) (Or.inl ⟨by rfl, ?yzb1a10⟩) ?rzb1a10
          case yzb1a10 => intro w hSw; (try dsimp only at hSw); go_simp; try rfl
          case' rzb1a10 => try simp only [List.getElem_toArray, List.getElem_cons_succ, List.getElem_cons_zero, Act.put, List.setIfInBounds_toArray, List.set_cons_zero, List.set_cons_succ]
          refine walk_take 11 (v := ?vzb1a11) rfl (by kernel_rfl) (by kernel_rfl) (by kernel_rfl) (fun _ _ _ h => h) (hSS) (Or.inl ⟨by rfl, ?yzb1a11⟩) ?rzb1a11
          case yzb1a11 => intro w hSw; (try dsimp only at hSw); go_simp; try rfl
          case' rzb1a11 => try simp only [List.getElem_toArray, List.getElem_cons_succ, List.getElem_cons_zero, Act.put, List.setIfInBounds_toArray, List.set_cons_zero, List.set_cons_succ]
          refine walk_take 12 (v := ?vzb1a12) rfl (by kernel_rfl) (by kernel_rfl) (by kernel_rfl) (fun _ _ _ h => h) (hSS) (Or.inl ⟨by rfl, ?yzb1a12⟩) ?rzb1a12
          case yzb1a12 => intro w hSw; (try dsimp only at hSw); go_simp; try rfl
          case' rzb1a12 => try simp only [List.getElem_toArray, List.getElem_cons_succ, List.getElem_cons_zero, Act.put, List.setIfInBounds_toArray, List.set_cons_zero, List.set_cons_succ]
          refine walk_step 6 rfl (by kernel_rfl) (by kernel_rfl) (fun K hK => ?ldzb1)
          case ldzb1 =>
            go_simp
            refine hK _ _ k4 ?_
            clear hK K
            try simp only [List.getElem_toArray, List.getElem_cons_succ, List.getElem_cons_zero, Act.put, List.setIfInBounds_toArray, List.set_cons_zero, List.set_cons_succ]
            refine walk_step 7 rfl (by kernel_rfl) (by kernel_rfl) (fun K hK => ?cszb1)
            case cszb1 =>
              go_simp
              refine (CS.out w4.drew hRs).mono ?_
              rintro e v1 ⟨S7, c7, rfl, ⟨sl7, hsl7, hO7s⟩, hb⟩
              have bl1 : Below w4.heap.size w4 v1 := ((Below.refl w4.heap.size w4).drew).trans hb
              have hO7s : OwnRs v1 w4.heap.size S7 k3n c7 sl7 := hO7s
              have hl7s := fun (q : Nat) (hq : Touch S7 sl7 q) => (hO7s.lt hq).2
              refine hK _ _ ((pV.step bl1).cell' (i := 4) rfl) ?_
              clear hK K hb hSS
              try simp only [List.getElem_toArray, List.getElem_cons_succ, List.getElem_cons_zero, Act.put, List.setIfInBounds_toArray, List.set_cons_zero, List.set_cons_succ]
              refine walk_step 13 rfl (by kernel_rfl) (by kernel_rfl) (fun K hK => ?cazb1)
              case cazb1 =>
                go_simp
                refine (CA.out v1 (hRa.below bl1)).mono ?_
                rintro e v2 ⟨A7, d7, rfl, ⟨al7, hal7, hO7a⟩, hb⟩
                have bl2 := bl1.trans (hb.mono bl1.size)
                have hO7s2 := hO7s.step hb
                have dsa : Disj S7 sl7 A7 al7 := fun q h1 h2 => by have := (hO7a.lt h2).1; have := hl7s q h1; omega
                refine hK _ _ ((pV.step bl2).cell' (i := 4) rfl) ?_
                clear hK K hb
                try simp only [List.getElem_toArray, List.getElem_cons_succ, List.getElem_cons_zero, Act.put, List.setIfInBounds_toArray, List.set_cons_zero, List.set_cons_succ]
                refine walk_take 14 (v := ?vzb1c14) rfl (by kernel_rfl) (by kernel_rfl) (by kernel_rfl) (fun _ _ _ h => h) ((pV.step bl2).cell' (i := 4) rfl) (Or.inl ⟨by rfl, ?yzb1c14⟩) ?rzb1c14
                case yzb1c14 => intro w hSw; (try dsimp only at hSw); go_simp; try rfl
                case' rzb1c14 => try simp only [List.getElem_toArray, List.getElem_cons_succ, List.getElem_cons_zero, Act.put, List.setIfInBounds_toArray, List.set_cons_zero, List.set_cons_succ]
                refine walk_take 15 (v := ?vzb1c15) rfl (by kernel_rfl) (by kernel_rfl) (by kernel_rfl) (fun _ _ _ h => h) ((pV.step bl2).cell' (i := 4) rfl) (Or.inl ⟨by rfl, ?yzb1c15⟩) ?rzb1c15
                case yzb1c15 => intro w hSw; (try dsimp only at hSw); go_simp; try rfl
                case' rzb1c15 => try simp only [List.getElem_toArray, List.getElem_cons_succ, List.getElem_cons_zero, Act.put, List.setIfInBounds_toArray, List.set_cons_zero, List.set_cons_succ]
                refine walk_take 16 (v := ?vzb1c16) rfl (by kernel_rfl) (by kernel_rfl) (by kernel_rfl) (fun _ _ _ h => h) ((pV.step bl2).cell' (i := 4) rfl) (Or.inl ⟨by rfl, ?yzb1c16⟩) ?rzb1c16
                case yzb1c16 => intro w hSw; (try dsimp only at hSw); go_simp; try rfl
                case' rzb1c16 => try simp only [List.getElem_toArray, List.getElem_cons_succ, List.getElem_cons_zero, Act.put, List.setIfInBounds_toArray, List.set_cons_zero, List.set_cons_succ]
                have pe := pV.step bl2
                have q3 := pe.cell' (i := 3) rfl
                have kf := pe.frozen
                have pf := pe.set_ 3 (.slice S7 k3n c7)
                have q4 := pf.cell' (i := 4) rfl
                have kf' := pf.frozen
                refine walk_step 17 rfl (by kernel_rfl) (by kernel_rfl) (fun K hK => ?stzb1)
                case stzb1 =>
                  go_simp
                  refine hK _ _ q4 ?_
                  clear hK K
                  try simp only [List.getElem_toArray, List.getElem_cons_succ, List.getElem_cons_zero, Act.put, List.setIfInBounds_toArray, List.set_cons_zero, List.set_cons_succ]
                  refine walk_tail (by kernel_rfl) ?_
                  simp only [List.drop_succ_cons, List.drop_zero]
                  have hOr2 := hOr.step bl2
                  have T7 := TV.step bl2
                  have hlr := fun (q : Nat) (hq : Touch R4 rl4 q) => hOr.lt hq
                  have hplt := pV.lt
                  have hnr : ¬ Touch R4 rl4 p := fun hq => by
                    rcases hq with e | ⟨i, r, hr, e⟩
                    · exact hOr.arr.notBlk pV (by decide) e
                    · exact (hOr.bs.1 i r hr).notBlk pV (by decide) e
                  have hs7 : ∀ q, Touch S7 sl7 q → w4.heap.size ≤ q := fun q hq => (hO7s.lt hq).1
                  have ha7 : ∀ q, Touch A7 al7 q → w4.heap.size ≤ q := fun q hq => by have := (hO7a.lt hq).1; have := bl1.size; omega
                  have hzb : base ≤ w4.heap.size := by omega
                  have hz1 := bl1.size
                  go_wp2_with fail
                  obtain ⟨rfl, rfl, rfl⟩ : h3 = H ∧ rl4.map RowR.b = rows ∧ err = 0 := by have := HRf.out; simp only [Prod.mk.injEq] at this; exact ⟨this.1, this.2.1, this.2.2.symm⟩
                  obtain rfl : k3n = m1 := by rw [← hsL, M1.out]
                  obtain rfl : n2 = m2 := by rw [← haL, M2.out]
                  obtain rfl : nR4 = nR := by rw [← NR.out, List.length_map]; exact hOr.len.symm
                  refine bodyPost_ret (v := .int .i64 0) (by simp [results, Try.results33, go_sem]) rfl ?_
                  refine ⟨S7, c7, A7, d7, R4, cR4, sl7, al7, rl4, rfl, ⟨hsl7, hal7, rfl⟩, pf.set_ 4 _, ?_, ?_, (hOr2.far (p := ⟨p, 3, none⟩) hnr _).far (p := ⟨p, 4, none⟩) hnr _, dsa, fun q h1 h2 => by have := hs7 q h1; have := (hlr q h2).2; omega, fun q h1 h2 => by have := ha7 q h1; have := (hlr q h2).2; omega, (T7.set (p := ⟨p, 3, none⟩) (fun _ => .inl rfl) _).set (p := ⟨p, 4, none⟩) (fun _ => .inl rfl) _⟩
                  · exact ((hO7s2.far (p := ⟨p, 3, none⟩) (fun ht => by have : w4.heap.size ≤ p := hs7 _ ht; omega) _).far (p := ⟨p, 4, none⟩) (fun ht => by have : w4.heap.size ≤ p := hs7 _ ht; omega) _).mono hzb
                  · exact ((hO7a.far (p := ⟨p, 3, none⟩) (fun ht => by have : w4.heap.size ≤ p := ha7 _ ht; omega) _).far (p := ⟨p, 4, none⟩) (fun ht => by have : w4.heap.size ≤ p := ha7 _ ht; omega) _).mono (by omega)
        · skip
          have HM := Lib.hid (more_any h3 S3 Ak R4 k3n c3 n2 dk nR4 cR4 p base sl3 al rl4 w4 p4 MS3 MA3 hOs4 hOa4 hO4r dj3 (fun q h1 h2 => by have := hT4' q h2; have := hl3s q h1; omega) (fun q h1 h2 => by have := hT4' q h2; have := hl3a q h1; omega) t3 (by omega) (by have := p4.lt; omega))
          go_wp2_with fail
          refine HM.out.mono ?_
          rintro e w6 ⟨rfl, S6, c6, A6, d6, R6, cR6, rl6, p6, hRs, hRa, hOr, hrl6, hT6, T6⟩
          clear HM
          have hmn : moreN h3 ≤ n2 := by rw [← hla3]; exact Nat.min_le_right _ _
          have hsL : (moreH h3).1.sent.length = k3n + moreN h3 := by show (h3.sent ++ h3.asked.take (moreN h3)).length = _; rw [List.length_append, List.length_take, hln3, hla3]; omega
          have haL : (moreH h3).1.asked.length = n2 - moreN h3 := by show (h3.asked.drop (moreN h3)).length = _; rw [List.length_drop, hla3]
          have HRf := Lib.hid (show (((moreH h3).1, rl6.map RowR.b, (0 : Int)) : Hnd × List (List UInt8) × Int) = (H, rows, err) by have := HR5.out; rw [if_pos (by simp)] at this; rw [hrl6, hrl4]; simpa using this)
          have TV : Turned W w6 (fun q => q = p ∨ Touch Sk sl q ∨ Touch Ak al q) := T34.trans T6 (fun i hi e => by
            rcases e with e | e | e
            · exact .inl e
            · exact .inr (.inl (hT3 i e))
            · have := hT4' i e; omega)
          clear HR5 hrl6 hT6 T6 hO4r T34 p4 hOs4 hOa4 g4
          obtain ⟨h5, hh5⟩ : ∃ x, (moreH h3).1 = x := ⟨_, rfl⟩
          obtain ⟨ks, hks⟩ : ∃ x, k3n + moreN h3 = x := ⟨_, rfl⟩
          obtain ⟨ka, hka⟩ : ∃ x, n2 - moreN h3 = x := ⟨_, rfl⟩
          obtain ⟨kr, hkrr⟩ : ∃ x, nR4 + moreN h3 = x := ⟨_, rfl⟩
          rw [hh5, hks, hka, hkrr] at p6
          rw [hh5] at hRs hRa HRf hsL haL
          rw [hks] at hsL
          rw [hka] at haL
          rw [hkrr] at hOr
          clear hh5 hks hka hkrr hmn
          have hH : h5 = H := by have := HRf.out; simp only [Prod.mk.injEq] at this; exact this.1
          have f1 : RowsFit h5.sent ks := by rw [← hsL, hH]; exact hfit.1
          have f2 : RowsFit h5.asked ka := by rw [← haL, hH]; exact hfit.2.1
          have pV := p6
          clear hH p6
          go_upto_region 11 with fail
          have CS := Lib.hid (fun w (hS : RdRows w S6 h5.sent) => clones_any S6 h5.sent ks c6 w hsL hS f1.1 f1.2)
          have CA := Lib.hid (fun w (hA : RdRows w A6 h5.asked) => clones_any A6 h5.asked ka d6 w haL hA f2.1 f2.2)
          have k3 := pV.cell' (i := 3) rfl
          have k4 := pV.cell' (i := 4) rfl
          have zV := TV.size
          refine heldRegion (fun v => v.cell? ⟨p, 4, none⟩ = some (.slice A6 ka d6)) 18 (by kernel_rfl) (by kernel_rfl) k4 (fun hSS => ?_)
          refine walk_take 0 (v := ?vzb2a0) rfl (by kernel_rfl) (by kernel_rfl) (by kernel_rfl) (fun _ _ _ h => h) (hSS) (Or.inl ⟨by rfl, ?yzb2a0⟩) ?rzb2a0
          case yzb2a0 => intro w hSw; (try dsimp only at hSw); go_simp; try rfl
          case' rzb2a0 => try simp only [List.getElem_toArray, List.getElem_cons_succ, List.getElem_cons_zero, Act.put, List.setIfInBounds_toArray, List.set_cons_zero, List.set_cons_succ]
          refine walk_take 1 (v := ?vzb2a1) rfl (by kernel_rfl) (by kernel_rfl) (by kernel_rfl) (fun _ _ _ h => h) (hSS) (Or.inl ⟨by rfl, ?yzb2a1⟩) ?rzb2a1
          case yzb2a1 => intro w hSw; (try dsimp only at hSw); go_simp; try rfl
          case' rzb2a1 => try simp only [List.getElem_toArray, List.getElem_cons_succ, List.getElem_cons_zero, Act.put, List.setIfInBounds_toArray, List.set_cons_zero, List.set_cons_succ]
          refine walk_take 2 (v := ?vzb2a2) rfl (by kernel_rfl) (by kernel_rfl) (by kernel_rfl) (fun _ _ _ h => h) (hSS) (Or.inl ⟨by rfl, ?yzb2a2⟩) ?rzb2a2
          case yzb2a2 => intro w hSw; (try dsimp only at hSw); go_simp; try rfl
          case' rzb2a2 => try simp only [List.getElem_toArray, List.getElem_cons_succ, List.getElem_cons_zero, Act.put, List.setIfInBounds_toArray, List.set_cons_zero, List.set_cons_succ]
          refine walk_take 3 (v := ?vzb2a3) rfl (by kernel_rfl) (by kernel_rfl) (by kernel_rfl) (fun _ _ _ h => h) (hSS) (Or.inl ⟨by rfl, ?yzb2a3⟩) ?rzb2a3
          case yzb2a3 => intro w hSw; (try dsimp only at hSw); go_simp; try rfl
          case' rzb2a3 => try simp only [List.getElem_toArray, List.getElem_cons_succ, List.getElem_cons_zero, Act.put, List.setIfInBounds_toArray, List.set_cons_zero, List.set_cons_succ]
          refine walk_take 4 (v := ?vzb2a4) rfl (by kernel_rfl) (by kernel_rfl) (by kernel_rfl) (fun _ _ _ h => h) (hSS) (Or.inl ⟨by rfl, ?yzb2a4⟩) ?rzb2a4
          case yzb2a4 => intro w hSw; (try dsimp only at hSw); go_simp; try rfl
          case' rzb2a4 => try simp only [List.getElem_toArray, List.getElem_cons_succ, List.getElem_cons_zero, Act.put, List.setIfInBounds_toArray, List.set_cons_zero, List.set_cons_succ]
          refine walk_take 5 (v := ?vzb2a5) rfl (by kernel_rfl) (by kernel_rfl) (by kernel_rfl) (fun _ _ _ h => h) (hSS) (Or.inl ⟨by rfl, ?yzb2a5⟩) ?rzb2a5
          case yzb2a5 => intro w hSw; (try dsimp only at hSw); go_simp; try rfl
          case' rzb2a5 => try simp only [List.getElem_toArray, List.getElem_cons_succ, List.getElem_cons_zero, Act.put, List.setIfInBounds_toArray, List.set_cons_zero, List.set_cons_succ]
          refine walk_take 8 (v := ?vzb2a8) rfl (by kernel_rfl) (by kernel_rfl) (by kernel_rfl) (fun _ _ _ h => h) (hSS) (Or.inl ⟨by rfl, ?yzb2a8⟩) ?rzb2a8
          case yzb2a8 => intro w hSw; (try dsimp only at hSw); go_simp; try rfl
          case' rzb2a8 => try simp only [List.getElem_toArray, List.getElem_cons_succ, List.getElem_cons_zero, Act.put, List.setIfInBounds_toArray, List.set_cons_zero, List.set_cons_succ]
          refine walk_take 9 (v := ?vzb2a9) rfl (by kernel_rfl) (by kernel_rfl) (by kernel_rfl) (fun _ _ _ h => h) (hSS) (Or.inl ⟨by rfl, ?yzb2a9⟩) ?rzb2a9
          case yzb2a9 => intro w hSw; (try dsimp only at hSw); go_simp; try rfl
          case' rzb2a9 => try simp only [List.getElem_toArray, List.getElem_cons_succ, List.getElem_cons_zero, Act.put, List.setIfInBounds_toArray, List.set_cons_zero, List.set_cons_succ]
          refine walk_take 10 (v := ?vzb2a10) rfl (by kernel_rfl) (by kernel_rfl) (by kernel_rfl) (fun _ _ _ h => h) (hSS) (Or.inl ⟨by rfl, ?yzb2a10⟩) ?rzb2a10
          case yzb2a10 => intro w hSw; (try dsimp only at hSw); go_simp; try rfl
          case' rzb2a10 => try simp only [List.getElem_toArray, List.getElem_cons_succ, List.getElem_cons_zero, Act.put, List.setIfInBounds_toArray, List.set_cons_zero, List.set_cons_succ]
          refine walk_take 11 (v := ?vzb2a11) rfl (by kernel_rfl) (by kernel_rfl) (by kernel_rfl) (fun _ _ _ h => h) (hSS) (Or.inl ⟨by rfl, ?yzb2a11⟩) ?rzb2a11
          case yzb2a11 => intro w hSw; (try dsimp only at hSw); go_simp; try rfl
          case' rzb2a11 => try simp only [List.getElem_toArray, List.getElem_cons_succ, List.getElem_cons_zero, Act.put, List.setIfInBounds_toArray, List.set_cons_zero, List.set_cons_succ]
          refine walk_take 12 (v := ?vzb2a12) rfl (by kernel_rfl) (by kernel_rfl) (by kernel_rfl) (fun _ _ _ h => h) (hSS) (Or.inl ⟨by rfl, ?yzb2a12⟩) ?rzb2a12
          case yzb2a12 => intro w hSw; (try dsimp only at hSw); go_simp; try rfl
          case' rzb2a12 => try simp only [List.getElem_toArray, List.getElem_cons_succ, List.getElem_cons_zero, Act.put, List.setIfInBounds_toArray, List.set_cons_zero, List.set_cons_succ]
          refine walk_step 6 rfl (by kernel_rfl) (by kernel_rfl) (fun K hK => ?ldzb2)
          case ldzb2 =>
            go_simp
            refine hK _ _ k4 ?_
            clear hK K
            try simp only [List.getElem_toArray, List.getElem_cons_succ, List.getElem_cons_zero, Act.put, List.setIfInBounds_toArray, List.set_cons_zero, List.set_cons_succ]
            refine walk_step 7 rfl (by kernel_rfl) (by kernel_rfl) (fun K hK => ?cszb2)
            case cszb2 =>
              go_simp
              refine (CS.out w6.drew hRs).mono ?_
              rintro e v1 ⟨S7, c7, rfl, ⟨sl7, hsl7, hO7s⟩, hb⟩
              have bl1 : Below w6.heap.size w6 v1 := ((Below.refl w6.heap.size w6).drew).trans hb
              have hO7s : OwnRs v1 w6.heap.size S7 ks c7 sl7 := hO7s
              have hl7s := fun (q : Nat) (hq : Touch S7 sl7 q) => (hO7s.lt hq).2
              refine hK _ _ ((pV.step bl1).cell' (i := 4) rfl) ?_
              clear hK K hb hSS
              try simp only [List.getElem_toArray, List.getElem_cons_succ, List.getElem_cons_zero, Act.put, List.setIfInBounds_toArray, List.set_cons_zero, List.set_cons_succ]
              refine walk_step 13 rfl (by kernel_rfl) (by kernel_rfl) (fun K hK => ?cazb2)
              case cazb2 =>
                go_simp
                refine (CA.out v1 (hRa.below bl1)).mono ?_
                rintro e v2 ⟨A7, d7, rfl, ⟨al7, hal7, hO7a⟩, hb⟩
                have bl2 := bl1.trans (hb.mono bl1.size)
                have hO7s2 := hO7s.step hb
                have dsa : Disj S7 sl7 A7 al7 := fun q h1 h2 => by have := (hO7a.lt h2).1; have := hl7s q h1; omega
                refine hK _ _ ((pV.step bl2).cell' (i := 4) rfl) ?_
                clear hK K hb
                try simp only [List.getElem_toArray, List.getElem_cons_succ, List.getElem_cons_zero, Act.put, List.setIfInBounds_toArray, List.set_cons_zero, List.set_cons_succ]
                refine walk_take 14 (v := ?vzb2c14) rfl (by kernel_rfl) (by kernel_rfl) (by kernel_rfl) (fun _ _ _ h => h) ((pV.step bl2).cell' (i := 4) rfl) (Or.inl ⟨by rfl, ?yzb2c14⟩) ?rzb2c14
                case yzb2c14 => intro w hSw; (try dsimp only at hSw); go_simp; try rfl
                case' rzb2c14 => try simp only [List.getElem_toArray, List.getElem_cons_succ, List.getElem_cons_zero, Act.put, List.setIfInBounds_toArray, List.set_cons_zero, List.set_cons_succ]
                refine walk_take 15 (v := ?vzb2c15) rfl (by kernel_rfl) (by kernel_rfl) (by kernel_rfl) (fun _ _ _ h => h) ((pV.step bl2).cell' (i := 4) rfl) (Or.inl ⟨by rfl, ?yzb2c15⟩) ?rzb2c15
                case yzb2c15 => intro w hSw; (try dsimp only at hSw); go_simp; try rfl
                case' rzb2c15 => try simp only [List.getElem_toArray, List.getElem_cons_succ, List.getElem_cons_zero, Act.put, List.setIfInBounds_toArray, List.set_cons_zero, List.set_cons_succ]
                refine walk_take 16 (v := ?vzb2c16) rfl (by kernel_rfl) (by kernel_rfl) (by kernel_rfl) (fun _ _ _ h => h) ((pV.step bl2).cell' (i := 4) rfl) (Or.inl ⟨by rfl, ?yzb2c16⟩) ?rzb2c16
                case yzb2c16 => intro w hSw; (try dsimp only at hSw); go_simp; try rfl
                case' rzb2c16 => try simp only [List.getElem_toArray, List.getElem_cons_succ, List.getElem_cons_zero, Act.put, List.setIfInBounds_toArray, List.set_cons_zero, List.set_cons_succ]
                have pe := pV.step bl2
                have q3 := pe.cell' (i := 3) rfl
                have kf := pe.frozen
                have pf := pe.set_ 3 (.slice S7 ks c7)
                have q4 := pf.cell' (i := 4) rfl
                have kf' := pf.frozen
                refine walk_step 17 rfl (by kernel_rfl) (by kernel_rfl) (fun K hK => ?stzb2)
                case stzb2 =>
                  go_simp
                  refine hK _ _ q4 ?_
                  clear hK K
                  try simp only [List.getElem_toArray, List.getElem_cons_succ, List.getElem_cons_zero, Act.put, List.setIfInBounds_toArray, List.set_cons_zero, List.set_cons_succ]
                  refine walk_tail (by kernel_rfl) ?_
                  simp only [List.drop_succ_cons, List.drop_zero]
                  have hOr2 := hOr.step bl2
                  have T7 := TV.step bl2
                  have hlr := fun (q : Nat) (hq : Touch R6 rl6 q) => hOr.lt hq
                  have hplt := pV.lt
                  have hnr : ¬ Touch R6 rl6 p := fun hq => by
                    rcases hq with e | ⟨i, r, hr, e⟩
                    · exact hOr.arr.notBlk pV (by decide) e
                    · exact (hOr.bs.1 i r hr).notBlk pV (by decide) e
                  have hs7 : ∀ q, Touch S7 sl7 q → w6.heap.size ≤ q := fun q hq => (hO7s.lt hq).1
                  have ha7 : ∀ q, Touch A7 al7 q → w6.heap.size ≤ q := fun q hq => by have := (hO7a.lt hq).1; have := bl1.size; omega
                  have hzb : base ≤ w6.heap.size := by omega
                  have hz1 := bl1.size
                  go_wp2_with fail
                  obtain ⟨rfl, rfl, rfl⟩ : h5 = H ∧ rl6.map RowR.b = rows ∧ err = 0 := by have := HRf.out; simp only [Prod.mk.injEq] at this; exact ⟨this.1, this.2.1, this.2.2.symm⟩
                  obtain rfl : ks = m1 := by rw [← hsL, M1.out]
                  obtain rfl : ka = m2 := by rw [← haL, M2.out]
                  obtain rfl : kr = nR := by rw [← NR.out, List.length_map]; exact hOr.len.symm
                  refine bodyPost_ret (v := .int .i64 0) (by simp [results, Try.results33, go_sem]) rfl ?_
                  refine ⟨S7, c7, A7, d7, R6, cR6, sl7, al7, rl6, rfl, ⟨hsl7, hal7, rfl⟩, pf.set_ 4 _, ?_, ?_, (hOr2.far (p := ⟨p, 3, none⟩) hnr _).far (p := ⟨p, 4, none⟩) hnr _, dsa, fun q h1 h2 => by have := hs7 q h1; have := (hlr q h2).2; omega, fun q h1 h2 => by have := ha7 q h1; have := (hlr q h2).2; omega, (T7.set (p := ⟨p, 3, none⟩) (fun _ => .inl rfl) _).set (p := ⟨p, 4, none⟩) (fun _ => .inl rfl) _⟩
                  · exact ((hO7s2.far (p := ⟨p, 3, none⟩) (fun ht => by have : w6.heap.size ≤ p := hs7 _ ht; omega) _).far (p := ⟨p, 4, none⟩) (fun ht => by have : w6.heap.size ≤ p := hs7 _ ht; omega) _).mono hzb
                  · exact ((hO7a.far (p := ⟨p, 3, none⟩) (fun ht => by have : w6.heap.size ≤ p := ha7 _ ht; omega) _).far (p := ⟨p, 4, none⟩) (fun ht => by have : w6.heap.size ≤ p := ha7 _ ht; omega) _).mono (by omega)
  · obtain ⟨rfl, rfl, rfl⟩ : h = H ∧ [] = rows ∧ err = 0 := by unfold stepS at hR; rw [if_pos hh] at hR; simp only [Prod.mk.injEq] at hR; exact ⟨hR.1, hR.2.1, hR.2.2.symm⟩
    obtain rfl : n1 = m1 := by rw [← N1.out, M1.out]
    obtain rfl : n2 = m2 := by rw [← N2.out, M2.out]
    obtain rfl : nR = 0 := by rw [← NR.out]; rfl
    have e0 : (h.halt == 0) = false := by rw [beq_eq_false_iff_ne]; exact hh
    have e0' : (h.halt != 0) = true := by rw [bne_iff_ne]; exact hh
    clear HR hR hh
    go_enter Try.func33, Try.ntmps33
    go_wp2_with fail
    refine bodyPost_ret (v := .int .i64 0) (by simp [results, Try.results33, go_sem]) rfl ?_
    exact ⟨Sk, ck, Ak, dk, none, 0, sl, al, [], rfl, ⟨MS.out, MA.out, rfl⟩, hp, hOs, hOa, OwnRs.nil _ _, DD.out, Disj.nil _ _, Disj.nil _ _, Turned.refl _ _⟩
end Go.Proofs.Ytppmdamcdhmcpaa
