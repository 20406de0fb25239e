/-
  command.Ask's func: what is asked waits behind the others.
-/
import Derived.Test.YtppmdamcdhmcpaaDoOut
import Derived.Test.YtppmdamcdhmcpaaHeld4
namespace Go.Proofs.Ytppmdamcdhmcpaa
set_option linter.unusedSimpArgs false
set_option linter.unusedVariables false
open Go.RowKit

def askS (h : Hnd) (l : List UInt8) : Hnd × Int := if askOk l then (if 100 ≤ h.asked.length then (h, 12) else ({ h with asked := h.asked ++ [l] }, 0)) else (h, 1)
theorem askR_ok {h : Hnd} (hok : handOk h) (l : List UInt8) : askR h l = askS h l := by unfold askR askS; rw [if_pos hok]
set_option maxHeartbeats 12800000 in
set_option maxRecDepth 100000 in
theorem ask1_any (h : Hnd) (l : List UInt8) (nl cl b : Nat) (X : Option Addr) (n1 n2 p ck dk base : Nat) (Sk Ak : Option Addr) (sl al : List RowR) (W : World) (hp : Blk W p 45 #[.int .i64 h.craft, .int .i64 h.next, .int .i64 h.ahead, .slice Sk n1 ck, .slice Ak n2 dk, .int .i64 h.timer, .int .i64 h.patience, .int .i64 h.tries, .int .i64 h.limit, .int .i64 h.since, .int .i64 h.pause, .int .i64 h.halt, .slice none 0 0]) (hb_ : Blk W b 26 #[.slice X nl cl]) (hX : Rd W X (bvs l)) (hnl : l.length = nl) (hbase : base ≤ p) (hbb : b < base)
    (hsl : sl.map RowR.b = h.sent) (hal : al.map RowR.b = h.asked) (hOs : OwnRs W base Sk n1 ck sl) (hOa : OwnRs W base Ak n2 dk al) (hdj : Disj Sk sl Ak al) (hn100 : n2 ≤ 100) (H : Hnd) (m1 m2 : Nat) (err : Int) (hR : askS h l = (H, err)) (hm1 : H.sent.length = m1) (hm2 : H.asked.length = m2) :
    Calls Try.prog 22 #[.pointer (some ⟨p, 0, none⟩), .pointer (some ⟨b, 0, none⟩)] W fun e w' => DoOut W w' base p Sk sl Ak al H m1 m2 [] 0 err e := by
  obtain ⟨j0, hj0, hy0, hy1, hy2⟩ := info_parts rowsinfo
  have N1 : h.sent.length = n1 := by rw [← hsl, List.length_map]; exact hOs.len
  have N2 : h.asked.length = n2 := by rw [← hal, List.length_map]; exact hOa.len
  have N1 := Lib.hid N1
  have N2 := Lib.hid N2
  have NL := Lib.hid hnl
  have M1 := Lib.hid hm1
  have M2 := Lib.hid hm2
  have MS := Lib.hid hsl
  have MA := Lib.hid hal
  have HR := Lib.hid hR
  have DD := Lib.hid hdj
  clear hnl hm1 hm2 hsl hal hR hdj
  have k0 := hb_.cell' (i := 0) rfl
  have k4 := hp.cell' (i := 4) rfl
  by_cases hask : askOk l
  · have HR2 : Hid ((if 100 ≤ h.asked.length then (h, 12) else ({ h with asked := h.asked ++ [l] }, 0) : Hnd × Int) = (H, err)) := Lib.hid (by have := HR.out; unfold askS at this; rw [if_pos hask] at this; exact this)
    have hk1 : (1 : Int) ≤ (nl : Int) := by have := hask.1; rw [NL.out] at this; omega
    have hk2 : (nl : Int) ≤ 1017 := by have := hask.2; rw [NL.out] at this; omega
    have hnl2 : nl ≤ 1017 := by omega
    have CI := cin_yes (nl : Int) 1 1017 W hk1 hk2
    clear hask HR hk1 hk2
    by_cases hfull : n2 = 100
    · rw [if_pos (by rw [N2.out]; omega)] at HR2
      obtain ⟨rfl, rfl⟩ : h = H ∧ err = 12 := by have := HR2.out; simp only [Prod.mk.injEq] at this; exact ⟨this.1, this.2.symm⟩
      obtain rfl : n1 = m1 := by rw [← N1.out, M1.out]
      obtain rfl : n2 = m2 := by rw [← N2.out, M2.out]
      clear HR2
      have hf : ((n2 : Int) == 100) = true := by rw [beq_iff_eq]; omega
      go_enter Try.func22, Try.ntmps22
      go_wp2_with fail
      refine CI.mono ?_
      rintro e w1 ⟨rfl, rfl⟩
      go_wp2_with fail
      refine bodyPost_ret (v := .int .i64 12) (by simp [results, Try.results22, go_sem]) rfl ?_
      exact ⟨Sk, ck, Ak, dk, none, 0, sl, al, [], rfl, ⟨MS.out, MA.out, rfl⟩, hp, hOs, hOa, OwnRs.nil _ _, DD.out, Disj.nil _ _, Disj.nil _ _, Turned.refl _ _⟩
    · rw [if_neg (by rw [N2.out]; omega)] at HR2
      have hf : ((n2 : Int) == 100) = false := by rw [beq_eq_false_iff_ne]; omega
      have CL := Lib.hid (fun w (hX : Rd w X (bvs l)) => clone_n X l nl cl w NL.out hX (by omega))
      go_enter Try.func22, Try.ntmps22
      go_wp2_with fail
      refine CI.mono ?_
      rintro e w1 ⟨rfl, rfl⟩
      go_upto_region 5 with fail
      trace "A"
      have q4 : n2 + 1 ≤ maxLen := by unfold maxLen; omega
      have q5 : (n2 + 1) * 24 ≤ 140737488355328 := by omega
      refine heldRegion (fun v => v.cell? ⟨p, 4, none⟩ = some (.slice Ak n2 dk) ∧ v.cell? ⟨b, 0, none⟩ = some (.slice X nl cl)) 13 (by kernel_rfl) (by kernel_rfl) ⟨k4, k0⟩ (fun hSS => ?_)
      refine walk_take 0 (v := ?v10) rfl (by kernel_rfl) (by kernel_rfl) (by kernel_rfl) (fun _ _ _ h => h) (hSS) (Or.inl ⟨by rfl, ?y10⟩) ?r10
      case y10 => intro w hSw; obtain ⟨hw1, hw2⟩ := hSw; (try dsimp only at hSw); go_simp; try rfl
      case' r10 => try simp only [List.getElem_toArray, List.getElem_cons_succ, List.getElem_cons_zero, Act.put, List.setIfInBounds_toArray, List.set_cons_zero, List.set_cons_succ]
      refine walk_take 1 (v := ?v11) rfl (by kernel_rfl) (by kernel_rfl) (by kernel_rfl) (fun _ _ _ h => h) (hSS) (Or.inl ⟨by rfl, ?y11⟩) ?r11
      case y11 => intro w hSw; obtain ⟨hw1, hw2⟩ := hSw; (try dsimp only at hSw); go_simp; try rfl
      case' r11 => try simp only [List.getElem_toArray, List.getElem_cons_succ, List.getElem_cons_zero, Act.put, List.setIfInBounds_toArray, List.set_cons_zero, List.set_cons_succ]
      refine walk_take 2 (v := ?v12) rfl (by kernel_rfl) (by kernel_rfl) (by kernel_rfl) (fun _ _ _ h => h) (hSS) (Or.inl ⟨by rfl, ?y12⟩) ?r12
      case y12 => intro w hSw; obtain ⟨hw1, hw2⟩ := hSw; (try dsimp only at hSw); go_simp; try rfl
      case' r12 => try simp only [List.getElem_toArray, List.getElem_cons_succ, List.getElem_cons_zero, Act.put, List.setIfInBounds_toArray, List.set_cons_zero, List.set_cons_succ]
      refine walk_take 3 (v := ?v13) rfl (by kernel_rfl) (by kernel_rfl) (by kernel_rfl) (fun _ _ _ h => h) (hSS) (Or.inl ⟨by rfl, ?y13⟩) ?r13
      case y13 => intro w hSw; obtain ⟨hw1, hw2⟩ := hSw; (try dsimp only at hSw); go_simp; try rfl
      case' r13 => try simp only [List.getElem_toArray, List.getElem_cons_succ, List.getElem_cons_zero, Act.put, List.setIfInBounds_toArray, List.set_cons_zero, List.set_cons_succ]
      refine walk_take 4 (v := ?v14) rfl (by kernel_rfl) (by kernel_rfl) (by kernel_rfl) (fun _ _ _ h => h) (hSS) (Or.inl ⟨by rfl, ?y14⟩) ?r14
      case y14 => intro w hSw; obtain ⟨hw1, hw2⟩ := hSw; (try dsimp only at hSw); go_simp; try rfl
      case' r14 => try simp only [List.getElem_toArray, List.getElem_cons_succ, List.getElem_cons_zero, Act.put, List.setIfInBounds_toArray, List.set_cons_zero, List.set_cons_succ]
      refine walk_take 5 (v := ?v15) rfl (by kernel_rfl) (by kernel_rfl) (by kernel_rfl) (fun _ _ _ h => h) (hSS) (Or.inl ⟨by rfl, ?y15⟩) ?r15
      case y15 => intro w hSw; obtain ⟨hw1, hw2⟩ := hSw; (try dsimp only at hSw); go_simp; try rfl
      case' r15 => try simp only [List.getElem_toArray, List.getElem_cons_succ, List.getElem_cons_zero, Act.put, List.setIfInBounds_toArray, List.set_cons_zero, List.set_cons_succ]
      refine walk_take 6 (v := ?v16) rfl (by kernel_rfl) (by kernel_rfl) (by kernel_rfl) (fun _ _ _ h => h) (hSS) (Or.inl ⟨by rfl, ?y16⟩) ?r16
      case y16 => intro w hSw; obtain ⟨hw1, hw2⟩ := hSw; (try dsimp only at hSw); go_simp; try rfl
      case' r16 => try simp only [List.getElem_toArray, List.getElem_cons_succ, List.getElem_cons_zero, Act.put, List.setIfInBounds_toArray, List.set_cons_zero, List.set_cons_succ]
      trace "B"
      refine walk_step 7 rfl (by kernel_rfl) (by kernel_rfl) (fun K hK => ?cl)
      case cl =>
        go_simp
        refine (CL.out W.drew hX.drew).mono ?_
        rintro e w4 ⟨A4, c4, rfl, hO4, hb⟩
        have hb4 : Below W.heap.size W w4 := ((Below.refl W.heap.size W).drew).trans hb
        have hb5 : Below W.heap.size W (w4.alloc (.cells #[.slice A4 nl c4] 26)) := hb4.alloc hb4.size _
        have hO4 : Own w4 W.heap.size 5 1 A4 nl c4 (bvs l) := hO4
        have hxm : ∀ q, blk A4 = some q → W.heap.size ≤ q := fun q hq => (hO4.lt q hq).1
        have z4 := hb4.size
        have k44 := (hp.step hb4).cell' (i := 4) rfl
        have k04 := (hb_.step hb4).cell' (i := 0) rfl
        have p5 := hp.step hb5
        have k45 := p5.cell' (i := 4) rfl
        have k05 := (hb_.step hb5).cell' (i := 0) rfl
        have hltb := fun (i : Nat) (y : RowR) (hy : al[i]? = some y) (q : Nat) (hq : blk y.A = some q) => (hOa.bs.lt hy hq).2
        have hlta := fun (q : Nat) (hq : Touch Ak al q) => hOa.lt hq
        have hlts := fun (q : Nat) (hq : Touch Sk sl q) => hOs.lt hq
        have hpl := hp.lt
        have hnp : blk Ak ≠ some p := hOa.arr.notBlk hp (by decide)
        have hnb : blk Ak ≠ some b := fun e => by
          have h1 := (hOa.arr.lt b e).1
          omega
        have hns : ¬ Touch Sk sl p := fun ht => by
          rcases ht with e | ⟨i, r, hr, e⟩
          · exact hOs.arr.notBlk hp (by decide) e
          · exact (hOs.bs.1 i r hr).notBlk hp (by decide) e
        have T5 : Turned W (w4.alloc (.cells #[.slice A4 nl c4] 26)) (fun q => q = p ∨ Touch Sk sl q ∨ Touch Ak al q) := (below_turned hb5).mono (fun _ _ f => f.elim)
        have hOs5 := hOs.step hb5
        have hOa5 := hOa.step hb5
        have hx5 := hO4.alloc (.cells #[.slice A4 nl c4] 26)
        have z5 : (w4.alloc (.cells #[.slice A4 nl c4] 26)).heap.size = w4.heap.size + 1 := by simp
        have hR5 := Rd_new w4 [.slice A4 nl c4] 26
        refine hK _ _ ⟨k44, k04⟩ ?_
        clear hK K hb k44 k04
        try simp only [List.getElem_toArray, List.getElem_cons_succ, List.getElem_cons_zero, Act.put, List.setIfInBounds_toArray, List.set_cons_zero, List.set_cons_succ]
        refine walk_step 8 rfl (by kernel_rfl) (by kernel_rfl) (fun K hK => ?bs)
        case bs =>
          go_simp
          refine hK _ _ ⟨k45, k05⟩ ?_
          clear hK K
          try simp only [List.getElem_toArray, List.getElem_cons_succ, List.getElem_cons_zero, Act.put, List.setIfInBounds_toArray, List.set_cons_zero, List.set_cons_succ]
          trace "C"
          refine walk_step 9 rfl (by kernel_rfl) (by kernel_rfl) (fun K hK => ?ap)
          case ap =>
            rw [if_pos (by kernel_rfl)]
            trace "D"
            refine wp_append_Own _ (.tmp 22) (.tmp 25) 22 rfl base 26 j0 _ 1 24 Try.underlying22 hj0 hy0 hy1 hy2 rfl Ak n2 dk (rowvs al) rfl hOa5.arr (some ⟨w4.heap.size, 0, none⟩) 1 1 [.slice A4 nl c4] rfl rfl hR5 (one_slice A4 nl c4) q4 q5 (by omega) ?_
            intro B6 d6 w6 hB6 hg6 hor6
            have p6 := p5.over hg6 (fun q hq e => hnp (by rw [hq]; exact e.symm))
            have k46 := p6.cell' (i := 4) rfl
            have kf6 := p6.frozen
            have k06 := ((hb_.step hb5).over hg6 (fun q hq e => hnb (by rw [hq]; exact e.symm))).cell' (i := 0) rfl
            refine hK _ _ ⟨k46, k06⟩ ?_
            clear hK K
            try simp only [List.getElem_toArray, List.getElem_cons_succ, List.getElem_cons_zero, Act.put, List.setIfInBounds_toArray, List.set_cons_zero, List.set_cons_succ]
            refine walk_take 10 (v := ?v210) rfl (by kernel_rfl) (by kernel_rfl) (by kernel_rfl) (fun _ _ _ h => h) (⟨k46, k06⟩) (Or.inl ⟨by rfl, ?y210⟩) ?r210
            case y210 => intro w hSw; obtain ⟨hw1, hw2⟩ := hSw; (try dsimp only at hSw); go_simp; try rfl
            case' r210 => try simp only [List.getElem_toArray, List.getElem_cons_succ, List.getElem_cons_zero, Act.put, List.setIfInBounds_toArray, List.set_cons_zero, List.set_cons_succ]
            refine walk_take 11 (v := ?v211) rfl (by kernel_rfl) (by kernel_rfl) (by kernel_rfl) (fun _ _ _ h => h) (⟨k46, k06⟩) (Or.inl ⟨by rfl, ?y211⟩) ?r211
            case y211 => intro w hSw; obtain ⟨hw1, hw2⟩ := hSw; (try dsimp only at hSw); go_simp; try rfl
            case' r211 => try simp only [List.getElem_toArray, List.getElem_cons_succ, List.getElem_cons_zero, Act.put, List.setIfInBounds_toArray, List.set_cons_zero, List.set_cons_succ]
            refine walk_take 12 (v := ?v212) rfl (by kernel_rfl) (by kernel_rfl) (by kernel_rfl) (fun _ _ _ h => h) (⟨k46, k06⟩) (Or.inl ⟨by rfl, ?y212⟩) ?r212
            case y212 => intro w hSw; obtain ⟨hw1, hw2⟩ := hSw; (try dsimp only at hSw); go_simp; try rfl
            case' r212 => try simp only [List.getElem_toArray, List.getElem_cons_succ, List.getElem_cons_zero, Act.put, List.setIfInBounds_toArray, List.set_cons_zero, List.set_cons_succ]
            trace "E"
            refine walk_tail (by kernel_rfl) ?_
            simp only [List.drop_succ_cons, List.drop_zero]
            go_wp2_with fail
            have hx6 := add_row (x := ⟨l, A4, c4⟩) (hOa5.bs) (by show Own _ _ _ _ A4 l.length c4 (bvs l); rw [NL.out]; exact hx5.mono (by omega)) hOa5.arr hg6 (m := W.heap.size) hltb hxm (by show Own _ _ _ _ _ _ _ (rowvs al ++ [.slice A4 l.length c4]); rw [NL.out]; exact hB6)
            have hOs6 : OwnRs w6 base Sk n1 ck sl := hOs5.over hg6 (fun q hq ht => DD.out q ht (.inl hq))
            have T6 := T5.grown hg6 (fun q hq _ => .inr (.inr (.inl hq)))
            have hdj6 : Disj Sk sl B6 (al ++ [⟨l, A4, c4⟩]) := fun q h1 h2 => by
              have hs := hlts q h1
              rcases h2 with hq | ⟨i, r, hr, hq⟩
              · rcases hor6 with e | e
                · rw [e] at hq; exact DD.out q h1 (.inl hq)
                · rw [e] at hq; injection hq with hq; omega
              · rcases Nat.lt_or_ge i al.length with h3 | h3
                · rw [List.getElem?_append_left h3] at hr
                  exact DD.out q h1 (.inr ⟨i, r, hr, hq⟩)
                · have hi : i < (al ++ [(⟨l, A4, c4⟩ : RowR)]).length := (List.getElem?_eq_some_iff.1 hr).1
                  rw [List.length_append, List.length_singleton] at hi
                  rw [List.getElem?_append_right h3, show i - al.length = 0 by omega] at hr
                  injection hr with hr
                  subst hr
                  have := hxm q hq
                  omega
            have hnx : ¬ Touch B6 (al ++ [⟨l, A4, c4⟩]) p := fun ht => by
              rcases ht with e | ⟨i, r, hr, e⟩
              · exact hx6.arr.notBlk p6 (by decide) e
              · exact (hx6.bs.1 i r hr).notBlk p6 (by decide) e
            have p7 : Blk (w6.setCell ⟨p, 4, none⟩ (.slice B6 (n2 + 1) d6)) p 45 #[.int .i64 h.craft, .int .i64 h.next, .int .i64 h.ahead, .slice Sk n1 ck, .slice B6 (n2 + 1) d6, .int .i64 h.timer, .int .i64 h.patience, .int .i64 h.tries, .int .i64 h.limit, .int .i64 h.since, .int .i64 h.pause, .int .i64 h.halt, .slice none 0 0] := p6.set_ 4 _
            have hOs7 := hOs6.far (p := ⟨p, 4, none⟩) hns (.slice B6 (n2 + 1) d6)
            have hOa7 := hx6.far (p := ⟨p, 4, none⟩) hnx (.slice B6 (n2 + 1) d6)
            have T7 := T6.set (p := ⟨p, 4, none⟩) (fun _ => .inl rfl) (.slice B6 (n2 + 1) d6)
            obtain ⟨rfl, rfl⟩ : { h with asked := h.asked ++ [l] } = H ∧ err = 0 := by have := HR2.out; simp only [Prod.mk.injEq] at this; exact ⟨this.1, this.2.symm⟩
            obtain rfl : n1 = m1 := by rw [← N1.out, ← M1.out]
            obtain rfl : m2 = n2 + 1 := by rw [← N2.out, ← M2.out]; simp
            refine bodyPost_ret (v := .int .i64 0) (by simp [results, Try.results22, go_sem]) rfl ?_
            exact ⟨Sk, ck, B6, d6, none, 0, sl, al ++ [⟨l, A4, c4⟩], [], rfl, ⟨MS.out, by rw [List.map_append, MA.out]; rfl, rfl⟩, p7, hOs7, hOa7, OwnRs.nil _ _, hdj6, Disj.nil _ _, Disj.nil _ _, T7⟩
  · have hE : H = h ∧ err = 1 := by have := HR.out; unfold askS at this; rw [if_neg hask] at this; simp only [Prod.mk.injEq] at this; exact ⟨this.1.symm, this.2.symm⟩
    obtain ⟨rfl, rfl⟩ := hE
    obtain rfl : n1 = m1 := by rw [← N1.out, M1.out]
    obtain rfl : n2 = m2 := by rw [← N2.out, M2.out]
    have CI := cin_no (nl : Int) 1 1017 W (fun hh => hask ⟨by rw [NL.out]; omega, by rw [NL.out]; omega⟩)
    clear HR hask
    go_enter Try.func22, Try.ntmps22
    go_wp2_with fail
    refine CI.mono ?_
    rintro e w1 ⟨rfl, rfl⟩
    go_wp2_with fail
    refine bodyPost_ret (v := .int .i64 1) (by simp [results, Try.results22, go_sem]) rfl ?_
    exact ⟨Sk, ck, Ak, dk, none, 0, sl, al, [], rfl, ⟨MS.out, MA.out, rfl⟩, hp, hOs, hOa, OwnRs.nil _ _, DD.out, Disj.nil _ _, Disj.nil _ _, Turned.refl _ _⟩
end Go.Proofs.Ytppmdamcdhmcpaa
