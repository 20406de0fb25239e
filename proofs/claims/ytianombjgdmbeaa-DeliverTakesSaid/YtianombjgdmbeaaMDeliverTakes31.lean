/-
  sameNotes of two slices that are the same; notes are written over by their owner. overNotes: notes are written over by their owner.
-/
import Derived.Test.YtianombjgdmbeaaMDeliverTakes18
import Derived.Test.YtianombjgdmbeaaMDeliverTakes30
import Derived.StillTail
import Derived.StillTactics
import Derived.StillTailTactics
namespace Go.Proofs.Ytianombjgdmbeaa
set_option linter.unusedSimpArgs false
set_option linter.unusedVariables false
open Go.RowKit

set_option maxHeartbeats 6400000 in
set_option maxRecDepth 100000 in
theorem sameNotes_yes (l m : List NtR) (N : List Nt) (B C : Option Addr) (n c d : Nat) (w : World) (hl : l.map NtR.n = N) (hm : m.map NtR.n = N) (hn : N.length = n) (h : RdNotes w B l) (h' : RdNotes w C m) (hf : ∀ x ∈ N, NoteFits x) (hnn : n ≤ 1099511627000) :
    Calls Try.prog 53 #[.slice B n c, .slice C n d] w fun e w' => e = .returned (.bool true) ∧ Below w.heap.size w w' := by
  have HN := Lib.hid hn
  have HRd := Lib.hid h
  have HRd' := Lib.hid h'
  clear hn h h'
  go_enter Try.func53, Try.ntmps53
  go_wp2_with fail
  go_loopw [5] (fun iv wr => ∃ i : Nat, i ≤ n ∧ iv = .int .i64 (i : Int) ∧ Below w.heap.size w wr) (fun iv _ => n - (intOf iv).toNat)
  case atStart => exact ⟨0, Nat.zero_le _, rfl, Below.refl _ _⟩
  case round =>
    obtain ⟨i, hi, rfl, hB⟩ := hrel
    by_cases h5 : i < n
    · have h5i : (i : Int) < (n : Int) := by omega
      have hip : (0 : Int) ≤ (i : Int) := by omega
      have hiL : i < N.length := by rw [HN.out]; exact h5
      obtain ⟨xD, xdc, xG, xgc, hx⟩ := nt_at hl hiL
      obtain ⟨yD, ydc, yG, ygc, hy⟩ := nt_at hm hiL
      have hff := hf _ (List.getElem_mem hiL)
      have hRx := HRd.out.below hB
      have hRy := HRd'.out.below hB
      generalize N[i] = nx at *
      have hxp := hRx.2 i _ hx
      have hyp := hRy.2 i _ hy
      dsimp only at hxp hyp
      have CS := Lib.hid (sameNote_yes nx xD yD nx.data.length xdc ydc xG yG nx.gaps.length xgc ygc wr.drew rfl rfl (by have := hff.1; omega) (by have := hff.2; omega) hxp.1.drew hyp.1.drew hxp.2.drew hyp.2.drew)
      obtain ⟨g, o, rfl, -⟩ := hRx.1 (i * 10 + 0) _ ((nts_get hx (j := 0) (by omega)).trans rfl)
      obtain ⟨g', o', rfl, -⟩ := hRy.1 (i * 10 + 0) _ ((nts_get hy (j := 0) (by omega)).trans rfl)
      have hcx : wr.rangeAt g (o + i * 10) (ncs ⟨nx, xD, xdc, xG, xgc⟩) := fun j v hv => by
        have hj : j < 10 := (List.getElem?_eq_some_iff.1 hv).1
        rw [Nat.add_assoc]
        exact hRx.1.cell ((nts_get hx hj).trans hv)
      have hcy : wr.rangeAt g' (o' + i * 10) (ncs ⟨nx, yD, ydc, yG, ygc⟩) := fun j v hv => by
        have hj : j < 10 := (List.getElem?_eq_some_iff.1 hv).1
        rw [Nat.add_assoc]
        exact hRy.1.cell ((nts_get hy hj).trans hv)
      clear hRx hRy hx hy hxp hyp hff
      have x0 : wr.cell? ⟨g, o + i * 10, none⟩ = some (.int .i64 nx.kind) := hcx 0 _ rfl
      have y0 : wr.cell? ⟨g', o' + i * 10, none⟩ = some (.int .i64 nx.kind) := hcy 0 _ rfl
      have x1 : wr.cell? ⟨g, o + i * 10 + 1, none⟩ = some (.int .i64 nx.id) := hcx 1 _ rfl
      have y1 : wr.cell? ⟨g', o' + i * 10 + 1, none⟩ = some (.int .i64 nx.id) := hcy 1 _ rfl
      have x2 : wr.cell? ⟨g, o + i * 10 + 2, none⟩ = some (.string nx.name) := hcx 2 _ rfl
      have y2 : wr.cell? ⟨g', o' + i * 10 + 2, none⟩ = some (.string nx.name) := hcy 2 _ rfl
      have x3 : wr.cell? ⟨g, o + i * 10 + 3, none⟩ = some (.int .i64 nx.size) := hcx 3 _ rfl
      have y3 : wr.cell? ⟨g', o' + i * 10 + 3, none⟩ = some (.int .i64 nx.size) := hcy 3 _ rfl
      have x4 : wr.cell? ⟨g, o + i * 10 + 4, none⟩ = some (.int .i64 nx.sum) := hcx 4 _ rfl
      have y4 : wr.cell? ⟨g', o' + i * 10 + 4, none⟩ = some (.int .i64 nx.sum) := hcy 4 _ rfl
      have x5 : wr.cell? ⟨g, o + i * 10 + 5, none⟩ = some (.int .i64 nx.at_) := hcx 5 _ rfl
      have y5 : wr.cell? ⟨g', o' + i * 10 + 5, none⟩ = some (.int .i64 nx.at_) := hcy 5 _ rfl
      have x8 : wr.cell? ⟨g, o + i * 10 + 8, none⟩ = some (.int .i64 nx.of_) := hcx 8 _ rfl
      have y8 : wr.cell? ⟨g', o' + i * 10 + 8, none⟩ = some (.int .i64 nx.of_) := hcy 8 _ rfl
      have x9 : wr.cell? ⟨g, o + i * 10 + 9, none⟩ = some (.int .i64 nx.code) := hcx 9 _ rfl
      have y9 : wr.cell? ⟨g', o' + i * 10 + 9, none⟩ = some (.int .i64 nx.code) := hcy 9 _ rfl
      have x6 : wr.cell? ⟨g, o + i * 10 + 6, none⟩ = some (.slice xD nx.data.length xdc) := hcx 6 _ rfl
      have x7 : wr.cell? ⟨g, o + i * 10 + 7, none⟩ = some (.slice xG nx.gaps.length xgc) := hcx 7 _ rfl
      have y6 : wr.cell? ⟨g', o' + i * 10 + 6, none⟩ = some (.slice yD nx.data.length ydc) := hcy 6 _ rfl
      have y7 : wr.cell? ⟨g', o' + i * 10 + 7, none⟩ = some (.slice yG nx.gaps.length ygc) := hcy 7 _ rfl
      clear hcx hcy
      unfold ntv at CS
      go_wp2_with fail
      go_still_tail 8, (by kernel_rfl)
      go_wp2_with fail
      refine (CS.out).mono ?_
      rintro e w1 ⟨rfl, hb1⟩
      have hb1' : Below wr.heap.size wr w1 := ((Below.refl wr.heap.size wr).drew).trans hb1
      have hB' := hB.trans (hb1'.mono hB.size)
      clear x0 x1 x2 x3 x4 x5 x6 x7 x8 x9 y0 y1 y2 y3 y4 y5 y6 y7 y8 y9 CS hb1 hb1' hB
      go_wp2_with fail
      go_roundw
      case rel => exact ⟨i + 1, by omega, by go_num, hB'⟩
      case measure => simp [intOf]; omega
    · have h5i : ¬ (i : Int) < (n : Int) := by omega
      go_wp2_with fail
      go_ret
      exact ⟨rfl, hB⟩
end Go.Proofs.Ytianombjgdmbeaa
namespace Go.Proofs.Ytianombjgdmbeaa
set_option linter.unusedSimpArgs false
set_option linter.unusedVariables false
open Go.RowKit

def badN : List Value := [.int .i64 0, .int .i64 (-7), .string ⟨#[]⟩, .int .i64 0, .int .i64 0, .int .i64 0, .slice none 0 0, .slice none 0 0, .int .i64 0, .int .i64 0]
theorem badN_one : ∀ u ∈ badN ++ badN, u.oneCell' = true := by
  have h : (badN ++ badN).all (fun u => u.oneCell') = true := by simp [badN, Value.oneCell']
  exact List.all_eq_true.1 h
/-- From base on, below top. -/
def Within (base top q : Nat) : Prop := base ≤ q ∧ q < top
set_option maxHeartbeats 6400000 in
set_option maxRecDepth 100000 in
theorem overNotes_any (l : List NtR) (N : List Nt) (B : Option Addr) (n d base top : Nat) (w : World) (hl : l.map NtR.n = N) (hn : N.length = n) (hO : Own w base 27 10 B n d (nts l)) (hD : OwnParts w base l) (hbase : base ≤ w.heap.size) (hBt : ∀ q, blk B = some q → q < top)
    (hDt : ∀ (i : Nat) (y : NtR), l[i]? = some y → (∀ q, blk y.D = some q → q < top) ∧ (∀ q, blk y.G = some q → q < top)) (hf : ∀ x ∈ N, NoteFits x) (hnn : n ≤ 1099511627000) :
    Calls Try.prog 54 #[.slice B n d] w fun e w' => e = .returned (.tuple #[]) ∧ Turned w w' (Within base top) := by
  obtain ⟨j0, hj0, hy0, hy1, hy2⟩ := info_parts noteinfo
  have HN := Lib.hid hn
  have HL := Lib.hid hl
  have HDd := Lib.hid hD.2
  have hlt : ∀ q, blk B = some q → base ≤ q ∧ q < top := fun q hq => ⟨(hO.lt q hq).1, hBt q hq⟩
  have hltD := Lib.hid (fun (i : Nat) (y : NtR) (hy : l[i]? = some y) => (⟨fun q hq => ⟨(hD.ltD hy hq).1, (hDt i y hy).1 q hq⟩, fun q hq => ⟨(hD.ltG hy hq).1, (hDt i y hy).2 q hq⟩⟩ : (∀ q, blk y.D = some q → base ≤ q ∧ q < top) ∧ (∀ q, blk y.G = some q → base ≤ q ∧ q < top)))
  clear hn hl hDt hBt
  go_enter Try.func54, Try.ntmps54
  go_wp2_with fail
  go_loopw [2] (fun iv wr => ∃ (i : Nat) (xs : List Value), i ≤ n ∧ iv = .int .i64 (i : Int) ∧ Turned w wr (Within base top) ∧ Own wr base 27 10 B n d xs ∧ Hid (∀ j, i * 10 ≤ j → xs[j]? = (nts l)[j]?) ∧ Hid (∀ (j : Nat) (x : NtR), i ≤ j → l[j]? = some x → Own wr base 5 1 x.D x.n.data.length x.dc (bvs x.n.data) ∧ Own wr base 66 2 x.G x.n.gaps.length x.gc (gps x.n.gaps))) (fun iv _ => n - (intOf iv).toNat)
  case atStart => exact ⟨0, nts l, Nat.zero_le _, rfl, Turned.refl _ _, hO, Lib.hid (fun j _ => rfl), Lib.hid (fun j x _ hx => hD.1 j x hx)⟩
  case round =>
    clear hO hD
    obtain ⟨i, xs, hi, rfl, hT, hO, HX, HP⟩ := hrel
    have zT := hT.size
    by_cases h5 : i < n
    · have h5i : (i : Int) < (n : Int) := by omega
      have hip : (0 : Int) ≤ (i : Int) := by omega
      have hiL : i < N.length := by rw [HN.out]; exact h5
      obtain ⟨xD, xdc, xG, xgc, hx⟩ := nt_at HL.out hiL
      have hff := hf _ (List.getElem_mem hiL)
      generalize N[i] = nx at *
      obtain ⟨g, o, rfl, hg1, hg2⟩ := hO.form (by have := hO.le; omega)
      have hglt := (hlt g rfl).2
      have c6 : wr.cell? ⟨g, o + i * 10 + 6, none⟩ = some (.slice xD nx.data.length xdc) := by
        have := hO.cell ((HX.out (i * 10 + 6) (by omega)).trans ((nts_get hx (j := 6) (by omega)).trans rfl))
        rw [Nat.add_assoc]; exact this
      obtain ⟨hxD, hxG⟩ := HP.out i _ (Nat.le_refl _) hx
      obtain ⟨hxlD, hxlG⟩ := hltD.out i _ hx
      dsimp only at hxD hxG hxlD hxlG
      have CSp := Lib.hid (spoil_any base xD nx.data.length xdc nx.data wr hxD (by have := hff.1; omega) (by omega))
      go_wp2_with fail
      refine (CSp.out).mono ?_
      rintro e w1 ⟨rfl, hgr1⟩
      have z1 := hgr1.size
      have hT1 := hT.grown hgr1 (fun q hq _ => hxlD q hq)
      have hO1 := hO.over hgr1 (hxD.apart hO (by decide))
      have hxG1 := hxG.over hgr1 (hxD.apart hxG (by decide))
      have HP1 : Hid (∀ (j : Nat) (x : NtR), i + 1 ≤ j → l[j]? = some x → Own w1 base 5 1 x.D x.n.data.length x.dc (bvs x.n.data) ∧ Own w1 base 66 2 x.G x.n.gaps.length x.gc (gps x.n.gaps)) := Lib.hid (fun j x hj hxj => ⟨(HP.out j x (by omega) hxj).1.over hgr1 ((HDd.out i j _ x (by omega) hx hxj).1), (HP.out j x (by omega) hxj).2.over hgr1 (hxD.apart (HP.out j x (by omega) hxj).2 (by decide))⟩)
      clear CSp hT hO HP c6 hgr1
      have c7 : w1.cell? ⟨g, o + i * 10 + 7, none⟩ = some (.slice xG nx.gaps.length xgc) := by
        have := hO1.cell ((HX.out (i * 10 + 7) (by omega)).trans ((nts_get hx (j := 7) (by omega)).trans rfl))
        rw [Nat.add_assoc]; exact this
      have CG := Lib.hid (overGaps_any base xG nx.gaps.length xgc nx.gaps w1 hxG1 (by have := hff.2; omega) (by omega))
      go_wp2_with fail
      refine (CG.out).mono ?_
      rintro e w2 ⟨rfl, hgr2⟩
      have z2 := hgr2.size
      have hT2 := hT1.grown hgr2 (fun q hq _ => hxlG q hq)
      have hO2 := hO1.over hgr2 (hxG1.apart hO1 (by decide))
      have HP2 : Hid (∀ (j : Nat) (x : NtR), i + 1 ≤ j → l[j]? = some x → Own w2 base 5 1 x.D x.n.data.length x.dc (bvs x.n.data) ∧ Own w2 base 66 2 x.G x.n.gaps.length x.gc (gps x.n.gaps)) := Lib.hid (fun j x hj hxj => ⟨(HP1.out j x hj hxj).1.over hgr2 (hxG1.apart (HP1.out j x hj hxj).1 (by decide)), (HP1.out j x hj hxj).2.over hgr2 ((HDd.out i j _ x (by omega) hx hxj).2)⟩)
      clear CG hT1 hO1 HP1 c7 hgr2 hxG1 hxD hxG
      have hth := hO2.there (i := i * 10) (m := 10) (by omega)
      obtain ⟨ys, hO3, hY, -⟩ := Own.setCells badN (i * 10) w2 xs hO2 (by show i * 10 + 10 ≤ n * 10; omega)
      have hT3 := Turned.setCells (S := Within base top) (w := w) (g := g) (fun _ => ⟨hg1, hglt⟩) badN (o + i * 10) w2 hT2
      have HX3 : Hid (∀ j, (i + 1) * 10 ≤ j → ys[j]? = (nts l)[j]?) := Lib.hid (fun j hj => by rw [hY j (by show i * 10 + 10 ≤ j; omega)]; exact HX.out j (by omega))
      have HP3 : Hid (∀ (j : Nat) (x : NtR), i + 1 ≤ j → l[j]? = some x → Own (w2.setCells g (o + i * 10) badN) base 5 1 x.D x.n.data.length x.dc (bvs x.n.data) ∧ Own (w2.setCells g (o + i * 10) badN) base 66 2 x.G x.n.gaps.length x.gc (gps x.n.gaps)) := Lib.hid (fun j x hj hxj => by
        have hTg := Turned.setCells (S := fun q => q = g) (w := w2) (g := g) (fun _ => rfl) badN (o + i * 10) w2 (Turned.refl _ _)
        obtain ⟨p1, p2⟩ := HP2.out j x hj hxj
        exact ⟨p1.turned hTg (fun q hq e => (p1.apart hO2 (by decide)) q hq (by rw [e]; rfl)), p2.turned hTg (fun q hq e => (p2.apart hO2 (by decide)) q hq (by rw [e]; rfl))⟩)
      clear hT2 hO2 HP2 hY HX hx
      have hone3 : Hid ((#[.int .i64 0, .int .i64 (-7), .string ⟨#[]⟩, .int .i64 0, .int .i64 0, .int .i64 0, .slice none 0 0, .slice none 0 0, .int .i64 0, .int .i64 0] : Array Value).all (·.oneCell') = true) := Lib.hid (by simp [Value.oneCell'])
      have hth3 := Lib.hid hth
      clear hth
      go_upto_region 2 with (go_loud (refine wpList_store_mid rfl 27 (.tmp 24) (.tmp 23) rfl g (o + i * 10) #[.int .i64 0, .int .i64 (-7), .string ⟨#[]⟩, .int .i64 0, .int .i64 0, .int .i64 0, .slice none 0 0, .slice none 0 0, .int .i64 0, .int .i64 0] rfl rfl hth3.out notesz hone3.out ?_))
      go_wp2_with fail
      go_roundw
      case rel => exact ⟨i + 1, ys, by omega, by go_num, hT3, hO3, HX3, HP3⟩
      case measure => simp [intOf]; omega
    · have h5i : ¬ (i : Int) < (n : Int) := by omega
      have q4 : n + 2 ≤ maxLen := by unfold maxLen; omega
      have q5 : (n + 2) * 120 ≤ 140737488355328 := by omega
      have hOn := hO.alloc (.cells #[.int .i64 0, .int .i64 (-7), .string ⟨#[]⟩, .int .i64 0, .int .i64 0, .int .i64 0, .slice none 0 0, .slice none 0 0, .int .i64 0, .int .i64 0, .int .i64 0, .int .i64 (-7), .string ⟨#[]⟩, .int .i64 0, .int .i64 0, .int .i64 0, .slice none 0 0, .slice none 0 0, .int .i64 0, .int .i64 0] 27)
      have hR5 := Rd_lit wr [.int .i64 0, .int .i64 (-7), .string ⟨#[]⟩, .int .i64 0, .int .i64 0, .int .i64 0, .slice none 0 0, .slice none 0 0, .int .i64 0, .int .i64 0, .int .i64 0, .int .i64 (-7), .string ⟨#[]⟩, .int .i64 0, .int .i64 0, .int .i64 0, .slice none 0 0, .slice none 0 0, .int .i64 0, .int .i64 0] 27
      have hbs : base ≤ (wr.alloc (.cells #[.int .i64 0, .int .i64 (-7), .string ⟨#[]⟩, .int .i64 0, .int .i64 0, .int .i64 0, .slice none 0 0, .slice none 0 0, .int .i64 0, .int .i64 0, .int .i64 0, .int .i64 (-7), .string ⟨#[]⟩, .int .i64 0, .int .i64 0, .int .i64 0, .slice none 0 0, .slice none 0 0, .int .i64 0, .int .i64 0] 27)).heap.size := by simp; omega
      have hT5 := hT.step (v' := wr.alloc (.cells #[.int .i64 0, .int .i64 (-7), .string ⟨#[]⟩, .int .i64 0, .int .i64 0, .int .i64 0, .slice none 0 0, .slice none 0 0, .int .i64 0, .int .i64 0, .int .i64 0, .int .i64 (-7), .string ⟨#[]⟩, .int .i64 0, .int .i64 0, .int .i64 0, .slice none 0 0, .slice none 0 0, .int .i64 0, .int .i64 0] 27)) ((Below.refl _ _).alloc (Nat.le_refl _) _)
      have hone : Hid (∀ u ∈ ([.int .i64 0, .int .i64 (-7), .string ⟨#[]⟩, .int .i64 0, .int .i64 0, .int .i64 0, .slice none 0 0, .slice none 0 0, .int .i64 0, .int .i64 0, .int .i64 0, .int .i64 (-7), .string ⟨#[]⟩, .int .i64 0, .int .i64 0, .int .i64 0, .slice none 0 0, .slice none 0 0, .int .i64 0, .int .i64 0] : List Value), u.oneCell' = true) := Lib.hid badN_one
      go_wp2_with (at_builtin; refine wpList_append_Own _ rfl (.tmp 25) (.tmp 28) 45 rfl base 27 j0 _ 10 120 Try.underlying45 hj0 hy0 hy1 hy2 rfl B n d xs rfl hOn (some ⟨wr.heap.size, 0, none⟩) 2 2 [.int .i64 0, .int .i64 (-7), .string ⟨#[]⟩, .int .i64 0, .int .i64 0, .int .i64 0, .slice none 0 0, .slice none 0 0, .int .i64 0, .int .i64 0, .int .i64 0, .int .i64 (-7), .string ⟨#[]⟩, .int .i64 0, .int .i64 0, .int .i64 0, .slice none 0 0, .slice none 0 0, .int .i64 0, .int .i64 0] rfl rfl hR5 hone.out q4 q5 hbs ?_; intro A6 c6 w6 hO6 hg6 hor6)
      go_end0
      exact ⟨rfl, hT5.grown hg6 (fun q hq _ => hlt q hq)⟩
end Go.Proofs.Ytianombjgdmbeaa
