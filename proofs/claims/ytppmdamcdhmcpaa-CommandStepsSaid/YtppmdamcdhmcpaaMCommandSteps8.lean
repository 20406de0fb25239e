/-
  A hand: whether it may be, by the document. A hand: whether it may be, by the program.
-/
import Derived.Test.YtppmdamcdhmcpaaMCommandSteps4
import Derived.Test.YtppmdamcdhmcpaaMCommandSteps7
namespace Go.Proofs.Ytppmdamcdhmcpaa
set_option linter.unusedSimpArgs false
set_option linter.unusedVariables false
open Go.RowKit

def ordOk (ls : List (List UInt8)) : Prop := ∀ l ∈ ls, 1 ≤ l.length ∧ l.length ≤ 1017
instance (ls : List (List UInt8)) : Decidable (ordOk ls) := by unfold ordOk; infer_instance
def ordB (ls : List (List UInt8)) : Bool := decide (ordOk ls)
def handOk (h : Hnd) : Prop := rdOk h.craft h.ahead h.patience h.pause h.limit ∧ (0 ≤ h.next ∧ h.next ≤ 255) ∧ (h.sent.length : Int) ≤ h.ahead ∧ h.asked.length ≤ 100 ∧ ordOk h.sent ∧ ordOk h.asked ∧ (h.halt = 0 ∨ h.halt = 15 ∨ h.halt = 11 ∨ h.halt = 19) ∧ (0 ≤ h.timer ∧ h.timer < h.patience) ∧ (0 ≤ h.tries ∧ h.tries ≤ h.limit) ∧ (0 ≤ h.since ∧ h.since ≤ h.pause)
instance (a b c d e : Int) : Decidable (rdOk a b c d e) := by unfold rdOk; infer_instance
instance (h : Hnd) : Decidable (handOk h) := by unfold handOk; infer_instance
def handB (h : Hnd) : Bool := decide (handOk h)
theorem rows_one (ls : List (List UInt8)) {k : Nat} {x : List UInt8} (hx : ls[k]? = some x) (h : ¬ (1 ≤ x.length ∧ x.length ≤ 1017)) : ordB ls = false := decide_eq_false (fun hh => h (hh x (List.mem_of_getElem? hx)))
theorem rows_all (ls : List (List UInt8)) (h : ∀ (k : Nat) (x : List UInt8), ls[k]? = some x → 1 ≤ x.length ∧ x.length ≤ 1017) : ordB ls = true := decide_eq_true (fun x hx => by
  obtain ⟨k, hk, rfl⟩ := List.getElem_of_mem hx
  exact h k _ (List.getElem?_eq_getElem hk))

set_option maxHeartbeats 3200000 in
set_option maxRecDepth 100000 in
theorem ordered_any (A : Option Addr) (ls : List (List UInt8)) (n c : Nat) (w : World) (hl : ls.length = n) (h : RdRows w A ls) (hn : n ≤ 5864062014634) (hb : ∀ l ∈ ls, l.length ≤ 140737488351300) :
    Calls Try.prog 40 #[.slice A n c] w fun e w' => e = .returned (.bool (ordB ls)) ∧ w = w' := by
  obtain ⟨r, hr⟩ : ∃ r, r = ordB ls := ⟨_, rfl⟩
  rw [← hr]
  have HRr := Lib.hid hr
  have HL := Lib.hid hl
  have HR := Lib.hid h
  have HBb := Lib.hid hb
  clear hr hl h hb
  go_enter Try.func40, Try.ntmps40
  go_wp2_with fail
  go_loop [3] (fun iv => ∃ k : Nat, k ≤ n ∧ iv = .int .i64 (k : Int) ∧ Hid (∀ (j : Nat) (x : List UInt8), j < k → ls[j]? = some x → 1 ≤ x.length ∧ x.length ≤ 1017)) (fun iv => n - (intOf iv).toNat)
  case atStart => exact ⟨0, Nat.zero_le _, rfl, Lib.hid (fun j x hj => by omega)⟩
  case round =>
    obtain ⟨k, hk, rfl, HF⟩ := hrel
    by_cases h5 : k < n
    · have h5i : (k : Int) < (n : Int) := by omega
      have hkl : k < ls.length := by rw [HL.out]; exact h5
      have hbk := HBb.out _ (List.getElem_mem hkl)
      have HX := Lib.hid (List.getElem?_eq_getElem hkl)
      obtain ⟨g, o, D, dc, rfl, hc, _, _⟩ := HR.out.at_ hkl
      generalize ls[k] = x at *
      obtain ⟨m, hm⟩ : ∃ m, x.length = m := ⟨_, rfl⟩
      rw [hm] at hc hbk
      have HM := Lib.hid hm
      clear hm
      by_cases h1 : m < 1
      · obtain rfl : r = false := HRr.out.trans (rows_one ls HX.out (by rw [HM.out]; omega))
        have h1i : (m : Int) < 1 := by omega
        go_wp2_with fail
        go_ret
        exact ⟨rfl, rfl⟩
      have h1i : ¬ (m : Int) < 1 := by omega
      by_cases h2 : 1017 < m
      · obtain rfl : r = false := HRr.out.trans (rows_one ls HX.out (by rw [HM.out]; omega))
        have h2i : (1017 : Int) < (m : Int) := by omega
        go_wp2_with fail
        go_ret
        exact ⟨rfl, rfl⟩
      have h2i : ¬ (1017 : Int) < (m : Int) := by omega
      have HF2 : Hid (∀ (j : Nat) (x : List UInt8), j < k + 1 → ls[j]? = some x → 1 ≤ x.length ∧ x.length ≤ 1017) := Lib.hid (fun j y hj hy => by
        by_cases hjk : j < k
        · exact HF.out j y hjk hy
        · obtain rfl : j = k := by omega
          rw [HX.out] at hy
          injection hy with hy
          subst hy
          rw [HM.out]
          omega)
      go_wp2_with fail
      go_round
      case rel => exact ⟨k + 1, by omega, by go_num, HF2⟩
      case measure => simp [intOf]; omega
    · obtain rfl : k = n := by omega
      have h5i : ¬ (k : Int) < (k : Int) := by omega
      obtain rfl : r = true := HRr.out.trans (rows_all ls (fun j x hx => HF.out j x (by have := (List.getElem?_eq_some_iff.1 hx).1; rw [HL.out] at this; exact this) hx))
      go_wp2_with fail
      go_ret
      exact ⟨rfl, rfl⟩
theorem handB_no {h : Hnd} (k : ¬ handOk h) : handB h = false := decide_eq_false k
set_option maxHeartbeats 6400000 in
set_option maxRecDepth 100000 in
theorem rhandMay_any (h : Hnd) (S : Option Addr) (c : Nat) (A : Option Addr) (d : Nat) (w : World) (hS : RdRows w S h.sent) (hA : RdRows w A h.asked) (hsn : h.sent.length ≤ 5864062014634) (han : h.asked.length ≤ 5864062014634) (hsb : ∀ l ∈ h.sent, l.length ≤ 140737488351300) (hab : ∀ l ∈ h.asked, l.length ≤ 140737488351300) :
    Calls Try.prog 20 #[hdv h S c A d] w fun e w' => e = .returned (.bool (handB h)) ∧ Below w.heap.size w w' := by
  obtain ⟨r, hr⟩ : ∃ r, r = handB h := ⟨_, rfl⟩
  rw [← hr]
  unfold hdv
  obtain ⟨craft, next, ahead, sent, asked, timer, patience, tries, limit, since, pause, halt⟩ := h
  dsimp only at *
  obtain ⟨n1, hn1⟩ : ∃ n1, sent.length = n1 := ⟨_, rfl⟩
  obtain ⟨n2, hn2⟩ : ∃ n2, asked.length = n2 := ⟨_, rfl⟩
  rw [hn1] at hsn ⊢
  rw [hn2] at han ⊢
  have C1 := Lib.hid (fun w (h : RdRows w S sent) => ordered_any S sent n1 c w hn1 h hsn hsb)
  have C2 := Lib.hid (fun w (h : RdRows w A asked) => ordered_any A asked n2 d w hn2 h han hab)
  have HS := Lib.hid hS
  have HA := Lib.hid hA
  have b0 := Blk.new w 25 #[.int .i64 craft, .int .i64 next, .int .i64 ahead, .slice S n1 c, .slice A n2 d, .int .i64 timer, .int .i64 patience, .int .i64 tries, .int .i64 limit, .int .i64 since, .int .i64 pause, .int .i64 halt]
  have hB0 : Below w.heap.size w (w.alloc (.cells #[.int .i64 craft, .int .i64 next, .int .i64 ahead, .slice S n1 c, .slice A n2 d, .int .i64 timer, .int .i64 patience, .int .i64 tries, .int .i64 limit, .int .i64 since, .int .i64 pause, .int .i64 halt] 25)) := (Below.refl _ _).alloc (Nat.le_refl _) _
  obtain ⟨k0, k1, k2, k3, k4, k5, k6, k7, k8, k9, k10, k11, kf⟩ := b0.twelve
  have HR : Hid (r = handB ⟨craft, next, ahead, sent, asked, timer, patience, tries, limit, since, pause, halt⟩) := Lib.hid hr
  have HO : Hid (handOk ⟨craft, next, ahead, sent, asked, timer, patience, tries, limit, since, pause, halt⟩ ↔ rdOk craft ahead patience pause limit ∧ (0 ≤ next ∧ next ≤ 255) ∧ (n1 : Int) ≤ ahead ∧ n2 ≤ 100 ∧ ordOk sent ∧ ordOk asked ∧ (halt = 0 ∨ halt = 15 ∨ halt = 11 ∨ halt = 19) ∧ (0 ≤ timer ∧ timer < patience) ∧ (0 ≤ tries ∧ tries ≤ limit) ∧ (0 ≤ since ∧ since ≤ pause)) := Lib.hid (by rw [← hn1, ← hn2]; exact Iff.rfl)
  have HB1 : Hid (ordB sent = true ↔ ordOk sent) := Lib.hid (by unfold ordB; exact decide_eq_true_iff)
  have HB2 : Hid (ordB asked = true ↔ ordOk asked) := Lib.hid (by unfold ordB; exact decide_eq_true_iff)
  clear hn1 hn2 hr hS hA hsb hab
  by_cases hrd : rdOk craft ahead patience pause limit
  · go_enter Try.func20, Try.ntmps20
    go_wp2_with fail
    generalize w.alloc (.cells #[.int .i64 craft, .int .i64 next, .int .i64 ahead, .slice S n1 c, .slice A n2 d, .int .i64 timer, .int .i64 patience, .int .i64 tries, .int .i64 limit, .int .i64 since, .int .i64 pause, .int .i64 halt] 25) = W at *
    clear k0 k1 k2 k3 k4 k5 k6 k7 k8 k9 k10 k11 kf
    refine (readied_yes craft ahead patience pause limit W hrd).mono ?_
    rintro e w1 ⟨rfl, hb⟩
    replace b0 := b0.step hb
    replace hB0 := hB0.trans (hb.mono hB0.size)
    replace b0 := b0.alloc (.cells #[.int .i64 craft, .int .i64 0, .int .i64 ahead, .slice none 0 0, .slice none 0 0, .int .i64 0, .int .i64 patience, .int .i64 0, .int .i64 limit, .int .i64 pause, .int .i64 pause, .int .i64 0] 25)
    replace hB0 := hB0.alloc hB0.size (.cells #[.int .i64 craft, .int .i64 0, .int .i64 ahead, .slice none 0 0, .slice none 0 0, .int .i64 0, .int .i64 patience, .int .i64 0, .int .i64 limit, .int .i64 pause, .int .i64 pause, .int .i64 0] 25)
    unfold handNew
    have C1' := Lib.hid (C1.out _ (HS.out.below hB0))
    have C2' := Lib.hid (C2.out _ (HA.out.below hB0))
    obtain ⟨k0, k1, k2, k3, k4, k5, k6, k7, k8, k9, k10, k11, kf⟩ := b0.twelve
    clear C1 C2
    go_wp2_with (go_at_call 40; first | ((with_reducible refine C1'.out.mono ?_); rintro e w' ⟨rfl, rfl⟩) | ((with_reducible refine C2'.out.mono ?_); rintro e w' ⟨rfl, rfl⟩))
    all_goals (go_ret; refine ⟨ret_bool ?_, hB0⟩)
    all_goals (rw [HR.out]; unfold handB)
    all_goals first
      | (refine (decide_eq_false (fun hh => ?_)).symm
         obtain ⟨_, g1, g2, g3, g4, g5, g6, g7, g8, g9⟩ := HO.out.1 hh
         first
           | omega
           | (have g10 := HB1.out.2 g4
              suffices g11 : ordB sent = false from absurd (g10.symm.trans g11) (by decide)
              assumption)
           | (have g10 := HB2.out.2 g5
              suffices g11 : (!ordB asked) = true from (by rw [g10] at g11; cases g11)
              assumption))
      | (have g10 : ordB sent = true := by assumption
         have g11 : (!ordB asked) = false := by assumption
         have g12 : ordB asked = true := by simpa using g11
         exact decide_eq_decide.2 ⟨fun hp => HO.out.2 ⟨hrd, ⟨by omega, by omega⟩, by omega, by omega, HB1.out.1 g10, HB2.out.1 g12, by omega, ⟨by omega, by omega⟩, ⟨by omega, by omega⟩, ⟨by omega, hp⟩⟩, fun hh => (HO.out.1 hh).2.2.2.2.2.2.2.2.2.2⟩)
  · have hno : r = false := HR.out.trans (handB_no (fun h => hrd (HO.out.1 h).1))
    subst hno
    go_enter Try.func20, Try.ntmps20
    go_wp2_with fail
    generalize w.alloc (.cells #[.int .i64 craft, .int .i64 next, .int .i64 ahead, .slice S n1 c, .slice A n2 d, .int .i64 timer, .int .i64 patience, .int .i64 tries, .int .i64 limit, .int .i64 since, .int .i64 pause, .int .i64 halt] 25) = W at *
    refine (readied_no craft ahead patience pause limit W hrd).mono ?_
    rintro e w1 ⟨rfl, hb⟩
    unfold handZero
    replace hB0 := hB0.trans (hb.mono hB0.size)
    go_wp2_with fail
    go_ret
    exact ⟨rfl, hB0.alloc hB0.size _⟩
end Go.Proofs.Ytppmdamcdhmcpaa
namespace Go.Proofs.Ytppmdamcdhmcpaa
set_option linter.unusedSimpArgs false
set_option linter.unusedVariables false
open Go.RowKit

def inB (n l m : Int) : Bool := decide (l ≤ n ∧ n ≤ m)
theorem inB_iff (n l m : Int) : inB n l m = true ↔ (l ≤ n ∧ n ≤ m) := by unfold inB; exact decide_eq_true_iff
theorem cin_any (n l m : Int) (w : World) : Calls Try.prog 23 #[.int .i64 n, .int .i64 l, .int .i64 m] w fun e w' => e = .returned (.bool (inB n l m)) ∧ w = w' := by
  by_cases h : l ≤ n ∧ n ≤ m
  · rw [(inB_iff n l m).2 h]
    exact cin_yes n l m w h.1 h.2
  · rw [show inB n l m = false from decide_eq_false h]
    exact cin_no n l m w h
def oddB (n : Nat) : Bool := !inB (n : Int) 1 1017
theorem odd_any (A : Option Addr) (n c : Nat) (w : World) : Calls Try.prog 48 #[.slice A n c] w fun e w' => e = .returned (.bool (oddB n)) ∧ w = w' := by
  unfold oddB
  go_enter Try.func48, Try.ntmps48
  go_wp2_with fail
  refine (cin_any (n : Int) 1 1017 _).mono ?_
  rintro e w' ⟨rfl, rfl⟩
  go_wp2_with fail
  go_ret
  exact ⟨rfl, rfl⟩
theorem oddB_iff (n : Nat) : oddB n = false ↔ 1 ≤ n ∧ n ≤ 1017 := by
  unfold oddB
  rw [Bool.not_eq_false', inB_iff]
  omega
set_option maxHeartbeats 3200000 in
set_option maxRecDepth 100000 in
theorem indexR_any (A : Option Addr) (ls : List (List UInt8)) (n c : Nat) (w : World) (hl : ls.length = n) (h : RdRows w A ls) (hn : n ≤ 5864062014634) (hb : ∀ l ∈ ls, l.length ≤ 140737488351300) :
    Calls Try.prog 53 #[.slice A n c, .func (.func 48) #[] #[]] w fun e w' => (∃ i : Int, e = .returned (.int .i64 i) ∧ (decide (0 ≤ i) = !ordB ls)) ∧ w = w' := by
  obtain ⟨r, hr⟩ : ∃ r, r = ordB ls := ⟨_, rfl⟩
  rw [← hr]
  have HRr := Lib.hid hr
  have HL := Lib.hid hl
  have HR := Lib.hid h
  have HBb := Lib.hid hb
  clear hr hl h hb
  go_enter Try.func53, Try.ntmps53
  go_wp2_with fail
  go_loop [8] (fun iv => ∃ k : Nat, k ≤ n ∧ iv = .int .i64 (k : Int) ∧ Hid (∀ (j : Nat) (x : List UInt8), j < k → ls[j]? = some x → 1 ≤ x.length ∧ x.length ≤ 1017)) (fun iv => n - (intOf iv).toNat)
  case atStart => exact ⟨0, Nat.zero_le _, rfl, Lib.hid (fun j x hj => by omega)⟩
  case round =>
    obtain ⟨k, hk, rfl, HF⟩ := hrel
    by_cases h5 : k < n
    · have h5i : (k : Int) < (n : Int) := by omega
      have hkl : k < ls.length := by rw [HL.out]; exact h5
      have hbk := HBb.out _ (List.getElem_mem hkl)
      have HX := Lib.hid (List.getElem?_eq_getElem hkl)
      obtain ⟨g, o, D, dc, rfl, hc, _, _⟩ := HR.out.at_ hkl
      generalize ls[k] = x at *
      obtain ⟨m, hm⟩ : ∃ m, x.length = m := ⟨_, rfl⟩
      rw [hm] at hc hbk
      have HM := Lib.hid hm
      clear hm
      have CO := Lib.hid (odd_any D m dc w)
      by_cases h1 : oddB m = true
      · have hno : ¬ (1 ≤ m ∧ m ≤ 1017) := fun hh => by rw [(oddB_iff m).2 hh] at h1; cases h1
        obtain rfl : r = false := HRr.out.trans (rows_one ls HX.out (by rw [HM.out]; exact hno))
        rw [h1] at CO
        clear h1 hno
        go_wp2_with fail
        refine CO.out.mono ?_
        rintro e w' ⟨rfl, rfl⟩
        go_wp2_with fail
        go_ret
        exact ⟨⟨k, rfl, by simp⟩, rfl⟩
      · have hof : oddB m = false := by simpa using h1
        have hok := (oddB_iff m).1 hof
        rw [hof] at CO
        have HF2 : Hid (∀ (j : Nat) (x : List UInt8), j < k + 1 → ls[j]? = some x → 1 ≤ x.length ∧ x.length ≤ 1017) := Lib.hid (fun j y hj hy => by
          by_cases hjk : j < k
          · exact HF.out j y hjk hy
          · obtain rfl : j = k := by omega
            rw [HX.out] at hy
            injection hy with hy
            subst hy
            rw [HM.out]
            exact hok)
        clear h1 hof hok
        go_wp2_with fail
        refine CO.out.mono ?_
        rintro e w' ⟨rfl, rfl⟩
        go_wp2_with fail
        go_round
        case rel => exact ⟨k + 1, by omega, by go_num, HF2⟩
        case measure => simp [intOf]; omega
    · obtain rfl : k = n := by omega
      have h5i : ¬ (k : Int) < (k : Int) := by omega
      obtain rfl : r = true := HRr.out.trans (rows_all ls (fun j x hx => HF.out j x (by have := (List.getElem?_eq_some_iff.1 hx).1; rw [HL.out] at this; exact this) hx))
      go_wp2_with fail
      go_ret
      exact ⟨⟨-1, rfl, by decide⟩, rfl⟩
theorem containsR_any (A : Option Addr) (ls : List (List UInt8)) (n c : Nat) (w : World) (hl : ls.length = n) (h : RdRows w A ls) (hn : n ≤ 5864062014634) (hb : ∀ l ∈ ls, l.length ≤ 140737488351300) :
    Calls Try.prog 50 #[.slice A n c, .func (.func 48) #[] #[]] w fun e w' => e = .returned (.bool (!ordB ls)) ∧ w = w' := by
  have CI := Lib.hid (indexR_any A ls n c w hl h hn hb)
  clear hl h hb
  go_enter Try.func50, Try.ntmps50
  go_wp2_with fail
  refine CI.out.mono ?_
  rintro e w' ⟨⟨i, rfl, hi⟩, rfl⟩
  have HI := Lib.hid hi
  clear hi CI
  go_wp2_with fail
  go_ret
  exact ⟨ret_bool HI.out, rfl⟩
end Go.Proofs.Ytppmdamcdhmcpaa
