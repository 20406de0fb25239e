/-
  The document's NoteMay, of any note. deliver.may of any note.
-/
import Derived.Test.YtianombjgdmbeaaMDeliverTakes22
import Derived.Test.YtianombjgdmbeaaMDeliverTakes23
import Derived.Test.YtianombjgdmbeaaMDeliverTakes24
import Derived.Test.YtianombjgdmbeaaMDeliverTakes20
import Derived.Test.YtianombjgdmbeaaMDeliverTakes21
namespace Go.Proofs.Ytianombjgdmbeaa
set_option linter.unusedSimpArgs false
set_option linter.unusedVariables false
open Go.RowKit

theorem kind_in {k : Int} (h : rngOk k 1 6 = true) : k = 1 ∨ k = 2 ∨ k = 3 ∨ k = 4 ∨ k = 5 ∨ k = 6 := by
  unfold rngOk at h
  rw [decide_eq_true_iff] at h
  omega
theorem noteMay_any (n : Nt) (D : Option Addr) (dn dc : Nat) (G : Option Addr) (gn gc : Nat) (w : World) (hd : n.data.length = dn) (hg : n.gaps.length = gn) (hG : Rd w G (gps n.gaps)) (hdn : dn ≤ 140737488351232) (hgn : gn ≤ 8796093022200) :
    Calls Try.prog 38 #[ntv n D dn dc G gn gc] w fun e w' => e = .returned (.bool (noteOk n)) ∧ Below w.heap.size w w' := by
  cases h1 : rngOk n.kind 1 6
  · exact noteMay_bad n D dn dc G gn gc w (.inl h1)
  cases h2 : rngOk n.id 0 65535
  · exact noteMay_bad n D dn dc G gn gc w (.inr h2)
  obtain ⟨kind, id, name, size, sum, at_, data, gaps, of_, code⟩ := n
  dsimp only at h1 h2 hd hg hG
  rcases kind_in h1 with rfl | rfl | rfl | rfl | rfl | rfl
  · exact noteMay_1 id name size sum at_ data gaps of_ code D dn dc G gn gc w h2 hd hg hG hdn hgn
  · exact noteMay_2 id name size sum at_ data gaps of_ code D dn dc G gn gc w h2 hd hg hG hdn hgn
  · exact noteMay_3 id name size sum at_ data gaps of_ code D dn dc G gn gc w h2 hd hg hG hdn hgn
  · exact noteMay_4 id name size sum at_ data gaps of_ code D dn dc G gn gc w h2 hd hg hG hdn hgn
  · exact noteMay_5 id name size sum at_ data gaps of_ code D dn dc G gn gc w h2 hd hg hG hdn hgn
  · exact noteMay_6 id name size sum at_ data gaps of_ code D dn dc G gn gc w h2 hd hg hG hdn hgn
end Go.Proofs.Ytianombjgdmbeaa
namespace Go.Proofs.Ytianombjgdmbeaa
set_option linter.unusedSimpArgs false
set_option linter.unusedVariables false
open Go.RowKit

set_option maxHeartbeats 6400000 in
set_option maxRecDepth 100000 in
theorem may_bad (n : Nt) (D : Option Addr) (dn dc : Nat) (G : Option Addr) (gn gc : Nat) (w : World) (h : rngOk n.kind 1 6 = false ∨ rngOk n.id 0 65535 = false) :
    Calls Try.prog 40 #[ntv n D dn dc G gn gc] w fun e w' => e = .returned (.bool (noteOk n)) ∧ Below w.heap.size w w' := by
  have hno : noteOk n = false := by
    unfold noteOk
    rcases h with h | h <;> rw [h] <;> simp
  obtain ⟨kind, id, name, size, sum, at_, data, gaps, of_, code⟩ := n
  rw [hno]
  clear hno
  unfold ntv
  dsimp only at h ⊢
  have b1 := Blk.new w 27 #[.int .i64 kind, .int .i64 id, .string name, .int .i64 size, .int .i64 sum, .int .i64 at_, .slice D dn dc, .slice G gn gc, .int .i64 of_, .int .i64 code]
  have hB : Below w.heap.size w (w.alloc (.cells #[.int .i64 kind, .int .i64 id, .string name, .int .i64 size, .int .i64 sum, .int .i64 at_, .slice D dn dc, .slice G gn gc, .int .i64 of_, .int .i64 code] 27)) := (Below.refl _ _).alloc (Nat.le_refl _) _
  cases hk : rngOk kind 1 6
  · have HK := Lib.hid hk
    clear hk h
    go_enter Try.func40, Try.ntmps40
    go_upto_region 1 with fail
    generalize w.alloc (.cells #[.int .i64 kind, .int .i64 id, .string name, .int .i64 size, .int .i64 sum, .int .i64 at_, .slice D dn dc, .slice G gn gc, .int .i64 of_, .int .i64 code] 27) = W at *
    have hX0 : Below W.heap.size W W.drew := (Below.refl _ _).drew
    refine heldRegion (fun v => Below W.heap.size W v) 16 (by kernel_rfl) (by kernel_rfl) hX0 (fun hSS => ?_)
    generalize W.drew = V at *
    refine walk_take 0 (v := ?vpa0) rfl (by kernel_rfl) (by kernel_rfl) (by kernel_rfl) (fun _ _ _ h => h) (hSS) (Or.inl ⟨by rfl, ?ypa0⟩) ?rpa0
    case ypa0 => intro w hSw; obtain hwZ := _root_.id hSw; have e0 := (b1.step hwZ).cell' (i := 0) rfl; have e1 := (b1.step hwZ).cell' (i := 1) rfl; have hSx := hSw; (try dsimp only at hSw); go_simp; try rfl
    case' rpa0 => try simp only [List.getElem_toArray, List.getElem_cons_succ, List.getElem_cons_zero, Act.put, List.setIfInBounds_toArray, List.set_cons_zero, List.set_cons_succ]
    refine walk_take 1 (v := ?vpa1) rfl (by kernel_rfl) (by kernel_rfl) (by kernel_rfl) (fun _ _ _ h => h) (hSS) (Or.inl ⟨by rfl, ?ypa1⟩) ?rpa1
    case ypa1 => intro w hSw; obtain hwZ := _root_.id hSw; have e0 := (b1.step hwZ).cell' (i := 0) rfl; have e1 := (b1.step hwZ).cell' (i := 1) rfl; have hSx := hSw; (try dsimp only at hSw); go_simp; try rfl
    case' rpa1 => try simp only [List.getElem_toArray, List.getElem_cons_succ, List.getElem_cons_zero, Act.put, List.setIfInBounds_toArray, List.set_cons_zero, List.set_cons_succ]
    refine walk_step 2 rfl (by kernel_rfl) (by kernel_rfl) (fun K hK => ?c1)
    case c1 =>
      go_simp
      refine (din_is _ _ _ _ _ HK).mono ?_
      rintro e _ ⟨rfl, rfl⟩
      refine hK _ _ hSS ?_
      clear hK K
      try simp only [List.getElem_toArray, List.getElem_cons_succ, List.getElem_cons_zero, Act.put, List.setIfInBounds_toArray, List.set_cons_zero, List.set_cons_succ]
      refine walk_take 3 (v := ?vpb3) rfl (by kernel_rfl) (by kernel_rfl) (by kernel_rfl) (fun _ _ _ h => h) (hSS) (Or.inl ⟨by rfl, ?ypb3⟩) ?rpb3
      case ypb3 => intro w hSw; (try dsimp only at hSw); go_simp; try rfl
      case' rpb3 => try simp only [List.getElem_toArray, List.getElem_cons_succ, List.getElem_cons_zero, Act.put, List.setIfInBounds_toArray, List.set_cons_zero, List.set_cons_succ]
      refine walk_take 4 (v := ?vpb4) rfl (by kernel_rfl) (by kernel_rfl) (by kernel_rfl) (fun _ _ _ h => h) (hSS) (Or.inl ⟨by rfl, ?ypb4⟩) ?rpb4
      case ypb4 => intro w hSw; (try dsimp only at hSw); go_simp; try rfl
      case' rpb4 => try simp only [List.getElem_toArray, List.getElem_cons_succ, List.getElem_cons_zero, Act.put, List.setIfInBounds_toArray, List.set_cons_zero, List.set_cons_succ]
      refine walk_take 5 (v := undef) rfl (by kernel_rfl) (by kernel_rfl) (by kernel_rfl) (fun _ _ _ h => h) (hSS) (Or.inr ⟨by rfl, rfl⟩) ?rpc5
      case' rpc5 => try simp only [List.getElem_toArray, List.getElem_cons_succ, List.getElem_cons_zero, Act.put, List.setIfInBounds_toArray, List.set_cons_zero, List.set_cons_succ]
      refine walk_take 6 (v := undef) rfl (by kernel_rfl) (by kernel_rfl) (by kernel_rfl) (fun _ _ _ h => h) (hSS) (Or.inr ⟨by rfl, rfl⟩) ?rpc6
      case' rpc6 => try simp only [List.getElem_toArray, List.getElem_cons_succ, List.getElem_cons_zero, Act.put, List.setIfInBounds_toArray, List.set_cons_zero, List.set_cons_succ]
      refine walk_take 7 (v := undef) rfl (by kernel_rfl) (by kernel_rfl) (by kernel_rfl) (fun _ _ _ h => h) (hSS) (Or.inr ⟨by rfl, rfl⟩) ?rpc7
      case' rpc7 => try simp only [List.getElem_toArray, List.getElem_cons_succ, List.getElem_cons_zero, Act.put, List.setIfInBounds_toArray, List.set_cons_zero, List.set_cons_succ]
      refine walk_take 8 (v := undef) rfl (by kernel_rfl) (by kernel_rfl) (by kernel_rfl) (fun _ _ _ h => h) (hSS) (Or.inr ⟨by rfl, rfl⟩) ?rpc8
      case' rpc8 => try simp only [List.getElem_toArray, List.getElem_cons_succ, List.getElem_cons_zero, Act.put, List.setIfInBounds_toArray, List.set_cons_zero, List.set_cons_succ]
      refine walk_take 9 (v := ?vpd9) rfl (by kernel_rfl) (by kernel_rfl) (by kernel_rfl) (fun _ _ _ h => h) (hSS) (Or.inl ⟨by rfl, ?ypd9⟩) ?rpd9
      case ypd9 => intro w hSw; (try dsimp only at hSw); go_simp; try rfl
      case' rpd9 => try simp only [List.getElem_toArray, List.getElem_cons_succ, List.getElem_cons_zero, Act.put, List.setIfInBounds_toArray, List.set_cons_zero, List.set_cons_succ]
      refine walk_take 10 (v := ?vpd10) rfl (by kernel_rfl) (by kernel_rfl) (by kernel_rfl) (fun _ _ _ h => h) (hSS) (Or.inl ⟨by rfl, ?ypd10⟩) ?rpd10
      case ypd10 => intro w hSw; (try dsimp only at hSw); go_simp; try rfl
      case' rpd10 => try simp only [List.getElem_toArray, List.getElem_cons_succ, List.getElem_cons_zero, Act.put, List.setIfInBounds_toArray, List.set_cons_zero, List.set_cons_succ]
      refine walk_take 11 (v := undef) rfl (by kernel_rfl) (by kernel_rfl) (by kernel_rfl) (fun _ _ _ h => h) (hSS) (Or.inr ⟨by rfl, rfl⟩) ?rpe11
      case' rpe11 => try simp only [List.getElem_toArray, List.getElem_cons_succ, List.getElem_cons_zero, Act.put, List.setIfInBounds_toArray, List.set_cons_zero, List.set_cons_succ]
      refine walk_take 12 (v := undef) rfl (by kernel_rfl) (by kernel_rfl) (by kernel_rfl) (fun _ _ _ h => h) (hSS) (Or.inr ⟨by rfl, rfl⟩) ?rpe12
      case' rpe12 => try simp only [List.getElem_toArray, List.getElem_cons_succ, List.getElem_cons_zero, Act.put, List.setIfInBounds_toArray, List.set_cons_zero, List.set_cons_succ]
      refine walk_take 13 (v := undef) rfl (by kernel_rfl) (by kernel_rfl) (by kernel_rfl) (fun _ _ _ h => h) (hSS) (Or.inr ⟨by rfl, rfl⟩) ?rpe13
      case' rpe13 => try simp only [List.getElem_toArray, List.getElem_cons_succ, List.getElem_cons_zero, Act.put, List.setIfInBounds_toArray, List.set_cons_zero, List.set_cons_succ]
      refine walk_take 14 (v := undef) rfl (by kernel_rfl) (by kernel_rfl) (by kernel_rfl) (fun _ _ _ h => h) (hSS) (Or.inr ⟨by rfl, rfl⟩) ?rpe14
      case' rpe14 => try simp only [List.getElem_toArray, List.getElem_cons_succ, List.getElem_cons_zero, Act.put, List.setIfInBounds_toArray, List.set_cons_zero, List.set_cons_succ]
      refine walk_take 15 (v := undef) rfl (by kernel_rfl) (by kernel_rfl) (by kernel_rfl) (fun _ _ _ h => h) (hSS) (Or.inr ⟨by rfl, rfl⟩) ?rpe15
      case' rpe15 => try simp only [List.getElem_toArray, List.getElem_cons_succ, List.getElem_cons_zero, Act.put, List.setIfInBounds_toArray, List.set_cons_zero, List.set_cons_succ]
      refine walk_tail (by kernel_rfl) ?_
      simp only [List.drop_succ_cons, List.drop_zero]
      go_wp2_with fail
      go_ret
      exact ⟨rfl, hB.trans (hSS.mono hB.size)⟩
  · have H0 : Hid (rngOk id 0 65535 = false) := Lib.hid (by
      rcases h with h | h
      · rw [hk] at h; cases h
      · exact h)
    have HK := Lib.hid hk
    clear hk h
    go_enter Try.func40, Try.ntmps40
    go_upto_region 1 with fail
    generalize w.alloc (.cells #[.int .i64 kind, .int .i64 id, .string name, .int .i64 size, .int .i64 sum, .int .i64 at_, .slice D dn dc, .slice G gn gc, .int .i64 of_, .int .i64 code] 27) = W at *
    have hX0 : Below W.heap.size W W.drew := (Below.refl _ _).drew
    refine heldRegion (fun v => Below W.heap.size W v) 16 (by kernel_rfl) (by kernel_rfl) hX0 (fun hSS => ?_)
    generalize W.drew = V at *
    refine walk_take 0 (v := ?vqa0) rfl (by kernel_rfl) (by kernel_rfl) (by kernel_rfl) (fun _ _ _ h => h) (hSS) (Or.inl ⟨by rfl, ?yqa0⟩) ?rqa0
    case yqa0 => intro w hSw; obtain hwZ := _root_.id hSw; have e0 := (b1.step hwZ).cell' (i := 0) rfl; have e1 := (b1.step hwZ).cell' (i := 1) rfl; have hSx := hSw; (try dsimp only at hSw); go_simp; try rfl
    case' rqa0 => try simp only [List.getElem_toArray, List.getElem_cons_succ, List.getElem_cons_zero, Act.put, List.setIfInBounds_toArray, List.set_cons_zero, List.set_cons_succ]
    refine walk_take 1 (v := ?vqa1) rfl (by kernel_rfl) (by kernel_rfl) (by kernel_rfl) (fun _ _ _ h => h) (hSS) (Or.inl ⟨by rfl, ?yqa1⟩) ?rqa1
    case yqa1 => intro w hSw; obtain hwZ := _root_.id hSw; have e0 := (b1.step hwZ).cell' (i := 0) rfl; have e1 := (b1.step hwZ).cell' (i := 1) rfl; have hSx := hSw; (try dsimp only at hSw); go_simp; try rfl
    case' rqa1 => try simp only [List.getElem_toArray, List.getElem_cons_succ, List.getElem_cons_zero, Act.put, List.setIfInBounds_toArray, List.set_cons_zero, List.set_cons_succ]
    refine walk_step 2 rfl (by kernel_rfl) (by kernel_rfl) (fun K hK => ?d1)
    case d1 =>
      go_simp
      refine (din_is _ _ _ _ _ HK).mono ?_
      rintro e _ ⟨rfl, rfl⟩
      refine hK _ _ hSS ?_
      clear hK K
      try simp only [List.getElem_toArray, List.getElem_cons_succ, List.getElem_cons_zero, Act.put, List.setIfInBounds_toArray, List.set_cons_zero, List.set_cons_succ]
      refine walk_take 3 (v := ?vqb3) rfl (by kernel_rfl) (by kernel_rfl) (by kernel_rfl) (fun _ _ _ h => h) (hSS) (Or.inl ⟨by rfl, ?yqb3⟩) ?rqb3
      case yqb3 => intro w hSw; obtain hwZ := _root_.id hSw; have e0 := (b1.step hwZ).cell' (i := 0) rfl; have e1 := (b1.step hwZ).cell' (i := 1) rfl; have hSx := hSw; (try dsimp only at hSw); go_simp; try rfl
      case' rqb3 => try simp only [List.getElem_toArray, List.getElem_cons_succ, List.getElem_cons_zero, Act.put, List.setIfInBounds_toArray, List.set_cons_zero, List.set_cons_succ]
      refine walk_take 4 (v := ?vqb4) rfl (by kernel_rfl) (by kernel_rfl) (by kernel_rfl) (fun _ _ _ h => h) (hSS) (Or.inl ⟨by rfl, ?yqb4⟩) ?rqb4
      case yqb4 => intro w hSw; obtain hwZ := _root_.id hSw; have e0 := (b1.step hwZ).cell' (i := 0) rfl; have e1 := (b1.step hwZ).cell' (i := 1) rfl; have hSx := hSw; (try dsimp only at hSw); go_simp; try rfl
      case' rqb4 => try simp only [List.getElem_toArray, List.getElem_cons_succ, List.getElem_cons_zero, Act.put, List.setIfInBounds_toArray, List.set_cons_zero, List.set_cons_succ]
      refine walk_take 5 (v := ?vqb5) rfl (by kernel_rfl) (by kernel_rfl) (by kernel_rfl) (fun _ _ _ h => h) (hSS) (Or.inl ⟨by rfl, ?yqb5⟩) ?rqb5
      case yqb5 => intro w hSw; obtain hwZ := _root_.id hSw; have e0 := (b1.step hwZ).cell' (i := 0) rfl; have e1 := (b1.step hwZ).cell' (i := 1) rfl; have hSx := hSw; (try dsimp only at hSw); go_simp; try rfl
      case' rqb5 => try simp only [List.getElem_toArray, List.getElem_cons_succ, List.getElem_cons_zero, Act.put, List.setIfInBounds_toArray, List.set_cons_zero, List.set_cons_succ]
      refine walk_take 6 (v := ?vqb6) rfl (by kernel_rfl) (by kernel_rfl) (by kernel_rfl) (fun _ _ _ h => h) (hSS) (Or.inl ⟨by rfl, ?yqb6⟩) ?rqb6
      case yqb6 => intro w hSw; obtain hwZ := _root_.id hSw; have e0 := (b1.step hwZ).cell' (i := 0) rfl; have e1 := (b1.step hwZ).cell' (i := 1) rfl; have hSx := hSw; (try dsimp only at hSw); go_simp; try rfl
      case' rqb6 => try simp only [List.getElem_toArray, List.getElem_cons_succ, List.getElem_cons_zero, Act.put, List.setIfInBounds_toArray, List.set_cons_zero, List.set_cons_succ]
      refine walk_step 7 rfl (by kernel_rfl) (by kernel_rfl) (fun K hK => ?d2)
      case d2 =>
        go_simp
        refine (din_is _ _ _ _ _ H0).mono ?_
        rintro e _ ⟨rfl, rfl⟩
        refine hK _ _ hSS ?_
        clear hK K
        try simp only [List.getElem_toArray, List.getElem_cons_succ, List.getElem_cons_zero, Act.put, List.setIfInBounds_toArray, List.set_cons_zero, List.set_cons_succ]
        refine walk_take 8 (v := ?vqd8) rfl (by kernel_rfl) (by kernel_rfl) (by kernel_rfl) (fun _ _ _ h => h) (hSS) (Or.inl ⟨by rfl, ?yqd8⟩) ?rqd8
        case yqd8 => intro w hSw; (try dsimp only at hSw); go_simp; try rfl
        case' rqd8 => try simp only [List.getElem_toArray, List.getElem_cons_succ, List.getElem_cons_zero, Act.put, List.setIfInBounds_toArray, List.set_cons_zero, List.set_cons_succ]
        refine walk_take 9 (v := ?vqd9) rfl (by kernel_rfl) (by kernel_rfl) (by kernel_rfl) (fun _ _ _ h => h) (hSS) (Or.inl ⟨by rfl, ?yqd9⟩) ?rqd9
        case yqd9 => intro w hSw; (try dsimp only at hSw); go_simp; try rfl
        case' rqd9 => try simp only [List.getElem_toArray, List.getElem_cons_succ, List.getElem_cons_zero, Act.put, List.setIfInBounds_toArray, List.set_cons_zero, List.set_cons_succ]
        refine walk_take 10 (v := ?vqd10) rfl (by kernel_rfl) (by kernel_rfl) (by kernel_rfl) (fun _ _ _ h => h) (hSS) (Or.inl ⟨by rfl, ?yqd10⟩) ?rqd10
        case yqd10 => intro w hSw; (try dsimp only at hSw); go_simp; try rfl
        case' rqd10 => try simp only [List.getElem_toArray, List.getElem_cons_succ, List.getElem_cons_zero, Act.put, List.setIfInBounds_toArray, List.set_cons_zero, List.set_cons_succ]
        refine walk_take 11 (v := undef) rfl (by kernel_rfl) (by kernel_rfl) (by kernel_rfl) (fun _ _ _ h => h) (hSS) (Or.inr ⟨by rfl, rfl⟩) ?rqe11
        case' rqe11 => try simp only [List.getElem_toArray, List.getElem_cons_succ, List.getElem_cons_zero, Act.put, List.setIfInBounds_toArray, List.set_cons_zero, List.set_cons_succ]
        refine walk_take 12 (v := undef) rfl (by kernel_rfl) (by kernel_rfl) (by kernel_rfl) (fun _ _ _ h => h) (hSS) (Or.inr ⟨by rfl, rfl⟩) ?rqe12
        case' rqe12 => try simp only [List.getElem_toArray, List.getElem_cons_succ, List.getElem_cons_zero, Act.put, List.setIfInBounds_toArray, List.set_cons_zero, List.set_cons_succ]
        refine walk_take 13 (v := undef) rfl (by kernel_rfl) (by kernel_rfl) (by kernel_rfl) (fun _ _ _ h => h) (hSS) (Or.inr ⟨by rfl, rfl⟩) ?rqe13
        case' rqe13 => try simp only [List.getElem_toArray, List.getElem_cons_succ, List.getElem_cons_zero, Act.put, List.setIfInBounds_toArray, List.set_cons_zero, List.set_cons_succ]
        refine walk_take 14 (v := undef) rfl (by kernel_rfl) (by kernel_rfl) (by kernel_rfl) (fun _ _ _ h => h) (hSS) (Or.inr ⟨by rfl, rfl⟩) ?rqe14
        case' rqe14 => try simp only [List.getElem_toArray, List.getElem_cons_succ, List.getElem_cons_zero, Act.put, List.setIfInBounds_toArray, List.set_cons_zero, List.set_cons_succ]
        refine walk_take 15 (v := undef) rfl (by kernel_rfl) (by kernel_rfl) (by kernel_rfl) (fun _ _ _ h => h) (hSS) (Or.inr ⟨by rfl, rfl⟩) ?rqe15
        case' rqe15 => try simp only [List.getElem_toArray, List.getElem_cons_succ, List.getElem_cons_zero, Act.put, List.setIfInBounds_toArray, List.set_cons_zero, List.set_cons_succ]
        refine walk_tail (by kernel_rfl) ?_
        simp only [List.drop_succ_cons, List.drop_zero]
        go_wp2_with fail
        go_ret
        exact ⟨rfl, hB.trans (hSS.mono hB.size)⟩
theorem may_any (n : Nt) (D : Option Addr) (dn dc : Nat) (G : Option Addr) (gn gc : Nat) (w : World) (hd : n.data.length = dn) (hg : n.gaps.length = gn) (hG : Rd w G (gps n.gaps)) :
    Calls Try.prog 40 #[ntv n D dn dc G gn gc] w fun e w' => e = .returned (.bool (noteOk n)) ∧ Below w.heap.size w w' := by
  cases h1 : rngOk n.kind 1 6
  · exact may_bad n D dn dc G gn gc w (.inl h1)
  cases h2 : rngOk n.id 0 65535
  · exact may_bad n D dn dc G gn gc w (.inr h2)
  obtain ⟨kind, id, name, size, sum, at_, data, gaps, of_, code⟩ := n
  dsimp only at h1 h2 hd hg hG
  rcases kind_in h1 with rfl | rfl | rfl | rfl | rfl | rfl
  · exact may_1 id name size sum at_ data gaps of_ code D dn dc G gn gc w h2 hd hg
  · exact may_2 id name size sum at_ data gaps of_ code D dn dc G gn gc w h2 hd hg
  · exact may_3 id name size sum at_ data gaps of_ code D dn dc G gn gc w h2 hd hg
  · exact may_4 id name size sum at_ data gaps of_ code D dn dc G gn gc w h2 hd hg hG
  · exact may_5 id name size sum at_ data gaps of_ code D dn dc G gn gc w h2 hd hg
  · exact may_6 id name size sum at_ data gaps of_ code D dn dc G gn gc w h2 hd hg
end Go.Proofs.Ytianombjgdmbeaa
