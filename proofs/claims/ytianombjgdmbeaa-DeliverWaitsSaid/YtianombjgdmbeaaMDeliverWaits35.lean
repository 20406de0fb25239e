/-
  A taker at work: a note more; done, seen. What is missing, by the document (missing).
-/
import Derived.Test.YtianombjgdmbeaaMDeliverWaits30
import Derived.Test.YtianombjgdmbeaaMDeliverWaits9
import Derived.Test.YtianombjgdmbeaaMDeliverWaits32
import Derived.Test.YtianombjgdmbeaaMDeliverWaits6
import Derived.Test.YtianombjgdmbeaaMDeliverWaits7
namespace Go.Proofs.Ytianombjgdmbeaa
set_option linter.unusedSimpArgs false
set_option linter.unusedVariables false
open Go.RowKit

theorem tk_more {w w' : World} {base q : Nat} {x : Gv} {ns : List Nt} {F A O O' : Option Addr} {fn fc an ac on oc oc' : Nat} {l : List NtR} {t : TypeId} {cs : Array Value} {n : Nt} {G : Option Addr} {gc : Nat} (hM : GvMem w base x ns F fn fc A an ac O on oc l) (hq : Blk w q t cs) (h1 : 5 ≠ t) (h2 : 66 ≠ t)
    (hT : Turned w w' (fun i => i = q ∨ blk O = some i)) (hO : Own w' base 27 10 O' (on + 1) oc' (nts (l ++ [⟨n, none, 0, G, gc⟩]))) (hd : n.data = []) (hG : Own w base 66 2 G n.gaps.length gc (gps n.gaps)) (hGA : ∀ i, blk A = some i → blk G ≠ some i) (hGl : ∀ (j : Nat) (y : NtR), l[j]? = some y → ∀ i, blk y.G = some i → blk G ≠ some i) : GvMem w' base x (ns ++ [n]) F fn fc A an ac O' (on + 1) oc' (l ++ [⟨n, none, 0, G, gc⟩]) := by
  have kf : ∀ {e : TypeId} {s : Nat} {B : Option Addr} {m c : Nat} {xs : List Value}, (e = 5 ∨ e = 66) → Own w base e s B m c xs → Own w' base e s B m c xs := by
    intro e s B m c xs he h
    refine h.turned hT (fun i hi hS => ?_)
    rcases hS with k | k
    · refine (h.notBlk hq (by rcases he with rfl | rfl <;> assumption)) ?_
      rw [hi, k]
    · exact (h.apart hM.out (by rcases he with rfl | rfl <;> decide)) i hi k
  have hp : OwnParts w' base l := hM.parts.map (fun e s B m c xs h he => kf he h)
  refine ⟨hM.fl, hM.al, by rw [List.length_append, hM.nl]; rfl, by rw [List.map_append, hM.ln]; rfl, kf (.inl rfl) hM.file, kf (.inr rfl) hM.again, hO, hp.snoc ⟨?_, kf (.inr rfl) hG⟩ ?_, ?_⟩
  · show Own w' base 5 1 none n.data.length 0 (bvs n.data)
    rw [hd]
    exact Own.none_ _ _ _ _
  · exact fun i y hy => ⟨fun k hk => by simp [blk], fun k hk => hGl i y hy k hk⟩
  · intro i y hy
    rcases Nat.lt_or_ge i l.length with hi | hi
    · rw [List.getElem?_append_left hi] at hy
      exact hM.far i y hy
    · rw [List.getElem?_append_right hi] at hy
      rcases h0 : i - l.length with _ | k
      · rw [h0] at hy
        simp at hy
        subst hy
        exact ⟨fun k hk => by simp [blk], fun k hk => hGA k hk⟩
      · rw [h0] at hy
        simp at hy
/-- What a note more leaves. -/
def SayT (w w' : World) (base q : Nat) (x : Tk) (ns : List Nt) (F : Option Addr) (fn fc : Nat) (A : Option Addr) (an ac : Nat) (e : Ending) : Prop :=
  ∃ O on oc l, e = .returned (.tuple #[]) ∧ Blk w' q 86 (tw x A an ac F fn fc O on oc) ∧ GvMem w' base (pg x) ns F fn fc A an ac O on oc l ∧ Below base w w'
theorem tsay_at (x : Tk) (F : Option Addr) (fn fc : Nat) (A : Option Addr) (an ac : Nat) (O : Option Addr) (on oc : Nat) (l : List NtR) (n m : Nt) (G : Option Addr) (gn gc base q : Nat) (ns : List Nt) (w : World) (hq : Blk w q 86 (tw x A an ac F fn fc O on oc)) (hM : GvMem w base (pg x) ns F fn fc A an ac O on oc l)
    (hm : m = { n with id := x.id }) (hd : n.data = []) (hgn : n.gaps.length = gn) (hG : Own w base 66 2 G gn gc (gps n.gaps)) (hGA : ∀ i, blk A = some i → blk G ≠ some i) (hGl : ∀ (j : Nat) (y : NtR), l[j]? = some y → ∀ i, blk y.G = some i → blk G ≠ some i) (hon : ns.length ≤ 100000) (hbase : base ≤ w.heap.size) (hbq : base ≤ q) :
    Calls Try.prog 97 #[.pointer (some ⟨q, 0, none⟩), ntv n none 0 0 G gn gc] w fun e w' => SayT w w' base q x (ns ++ [m]) F fn fc A an ac e := by
  subst hgn
  have h := tsay_any x A an ac F fn fc O on oc l ⟨n, none, 0, G, gc⟩ base q w hq hM.out (by rw [← hM.nl]; exact hon) hbase
  have hdl : n.data.length = 0 := by rw [hd]; rfl
  dsimp only at h
  rw [hdl] at h
  refine h.mono ?_
  rintro e w' ⟨O', oc', rfl, hb, hO, hT⟩
  subst hm
  refine ⟨O', on + 1, oc', _, rfl, hb, tk_more hM hq (by decide) (by decide) hT hO hd hG hGA hGl, hT.below (fun k hk => ?_) hbase⟩
  rcases hk with rfl | hk
  · exact hbq
  · exact (hM.out.lt k hk).1
set_option maxHeartbeats 1600000 in
set_option maxRecDepth 100000 in
theorem done_at (c : Int) (x : Tk) (F : Option Addr) (fn fc : Nat) (A : Option Addr) (an ac : Nat) (O : Option Addr) (on oc : Nat) (l : List NtR) (base q : Nat) (ns : List Nt) (w : World) (hq : Blk w q 86 (tw x A an ac F fn fc O on oc)) (hM : GvMem w base (pg x) ns F fn fc A an ac O on oc l) (hon : ns.length ≤ 100000) (hbase : base ≤ w.heap.size) (hbq : base ≤ q) :
    Calls Try.prog 59 #[.pointer (some ⟨q, 0, none⟩), .int .i64 c] w fun e w' => SayT w w' base q x (ns ++ [doneN x c]) F fn fc A an ac e := by
  have CS := Lib.hid (tsay_at x F fn fc A an ac O on oc l ⟨5, 0, ⟨#[]⟩, 0, 0, 0, [], [], 0, c⟩ (doneN x c) none 0 0 base q ns w hq hM rfl rfl rfl (Own.none_ _ _ _ _) (fun i _ h => by simp [blk] at h) (fun j y _ i _ h => by simp [blk] at h) hon hbase hbq)
  unfold ntv at CS
  dsimp only at CS
  clear hq hM
  go_enter Try.func59, Try.ntmps59
  go_wp2_with fail
  refine CS.out.mono ?_
  intro e w' h
  obtain ⟨O1, on1, oc1, l1, rfl, h1, h2, h3⟩ := h
  go_wp2_with fail
  go_end0
  exact ⟨O1, on1, oc1, l1, rfl, h1, h2, h3⟩
set_option maxHeartbeats 3200000 in
set_option maxRecDepth 100000 in
theorem late_at (x : Tk) (A : Option Addr) (an ac : Nat) (F : Option Addr) (fn fc : Nat) (O : Option Addr) (on oc q : Nat) (w : World) (hq : Blk w q 86 (tw x A an ac F fn fc O on oc)) (ht : 0 ≤ x.timer) (htp : x.timer < x.patience) (hp : x.patience ≤ 1000) :
    Calls Try.prog 57 #[.pointer (some ⟨q, 0, none⟩)] w fun e w' => e = .returned (.bool (decide (x.timer + 1 = x.patience))) ∧ Blk w' q 86 (tw { x with timer := if x.timer + 1 = x.patience then 0 else x.timer + 1 } A an ac F fn fc O on oc) ∧ Turned w w' (fun i => i = q) := by
  obtain ⟨r, hr⟩ : ∃ r, (if x.timer + 1 = x.patience then 0 else x.timer + 1) = r := ⟨_, rfl⟩
  obtain ⟨b, hb⟩ : ∃ b, decide (x.timer + 1 = x.patience) = b := ⟨_, rfl⟩
  rw [hr, hb]
  have hmod : (x.timer + 1).tmod x.patience = r := by
    rw [Int.tmod_eq_emod_of_nonneg (by omega), ← hr]
    split
    · rename_i h; rw [h, Int.emod_self]
    · exact Int.emod_eq_of_lt (by omega) (by omega)
  have hr0 : 0 ≤ r ∧ r < 1000 := by rw [← hr]; split <;> omega
  have hbr : (r == 0) = b := by
    rw [← hb, ← hr]
    by_cases h : x.timer + 1 = x.patience
    · rw [if_pos h, decide_eq_true h]; rfl
    · rw [if_neg h, decide_eq_false h, beq_eq_false_iff_ne]; omega
  clear hr hb
  obtain ⟨id, known, name, size, ended, last, sum, have_, file, stage, timer, patience, tries, limit⟩ := x
  unfold tw at hq ⊢
  dsimp only at hq hmod ht htp hp ⊢
  have y10 := hq.drew.cell' (i := 10) rfl
  have y11 := hq.drew.cell' (i := 11) rfl
  have pne : ¬ patience = 0 := by omega
  have pneb : (patience == 0) = false := by rw [beq_eq_false_iff_ne]; exact pne
  go_enter Try.func57, Try.ntmps57
  go_upto_region 1 with fail
  refine heldRegion (fun v => v.cell? ⟨q, 10, none⟩ = some (.int .i64 timer) ∧ v.cell? ⟨q, 11, none⟩ = some (.int .i64 patience)) 13 (by kernel_rfl) (by kernel_rfl) ⟨y10, y11⟩ (fun hSS => ?_)
  clear hSS
  replace hq := hq.drew
  have hT : Turned w w.drew (fun i => i = q) := (Turned.refl w _).drewN 1
  generalize w.drew = V at *
  refine walk_take 0 (v := ?va0) rfl (by kernel_rfl) (by kernel_rfl) (by kernel_rfl) (fun _ _ _ h => h) (⟨y10, y11⟩) (Or.inl ⟨by rfl, ?ya0⟩) ?ra0
  case ya0 => intro w hSw; obtain ⟨hw0, hw1⟩ := hSw; (try dsimp only at hSw); go_simp; try rfl
  case' ra0 => try simp only [List.getElem_toArray, List.getElem_cons_succ, List.getElem_cons_zero, Act.put, List.setIfInBounds_toArray, List.set_cons_zero, List.set_cons_succ]
  refine walk_take 1 (v := ?va1) rfl (by kernel_rfl) (by kernel_rfl) (by kernel_rfl) (fun _ _ _ h => h) (⟨y10, y11⟩) (Or.inl ⟨by rfl, ?ya1⟩) ?ra1
  case ya1 => intro w hSw; obtain ⟨hw0, hw1⟩ := hSw; (try dsimp only at hSw); go_simp; try rfl
  case' ra1 => try simp only [List.getElem_toArray, List.getElem_cons_succ, List.getElem_cons_zero, Act.put, List.setIfInBounds_toArray, List.set_cons_zero, List.set_cons_succ]
  refine walk_take 2 (v := ?va2) rfl (by kernel_rfl) (by kernel_rfl) (by kernel_rfl) (fun _ _ _ h => h) (⟨y10, y11⟩) (Or.inl ⟨by rfl, ?ya2⟩) ?ra2
  case ya2 => intro w hSw; obtain ⟨hw0, hw1⟩ := hSw; (try dsimp only at hSw); go_simp; try rfl
  case' ra2 => try simp only [List.getElem_toArray, List.getElem_cons_succ, List.getElem_cons_zero, Act.put, List.setIfInBounds_toArray, List.set_cons_zero, List.set_cons_succ]
  refine walk_take 3 (v := ?va3) rfl (by kernel_rfl) (by kernel_rfl) (by kernel_rfl) (fun _ _ _ h => h) (⟨y10, y11⟩) (Or.inl ⟨by rfl, ?ya3⟩) ?ra3
  case ya3 => intro w hSw; obtain ⟨hw0, hw1⟩ := hSw; (try dsimp only at hSw); go_simp; try rfl
  case' ra3 => try simp only [List.getElem_toArray, List.getElem_cons_succ, List.getElem_cons_zero, Act.put, List.setIfInBounds_toArray, List.set_cons_zero, List.set_cons_succ]
  refine walk_take 4 (v := ?va4) rfl (by kernel_rfl) (by kernel_rfl) (by kernel_rfl) (fun _ _ _ h => h) (⟨y10, y11⟩) (Or.inl ⟨by rfl, ?ya4⟩) ?ra4
  case ya4 => intro w hSw; obtain ⟨hw0, hw1⟩ := hSw; (try dsimp only at hSw); go_simp; try rfl
  case' ra4 => try simp only [List.getElem_toArray, List.getElem_cons_succ, List.getElem_cons_zero, Act.put, List.setIfInBounds_toArray, List.set_cons_zero, List.set_cons_succ]
  refine walk_take 5 (v := ?va5) rfl (by kernel_rfl) (by kernel_rfl) (by kernel_rfl) (fun _ _ _ h => h) (⟨y10, y11⟩) (Or.inl ⟨by rfl, ?ya5⟩) ?ra5
  case ya5 => intro w hSw; obtain ⟨hw0, hw1⟩ := hSw; (try dsimp only at hSw); go_simp; try rfl
  case' ra5 => try simp only [List.getElem_toArray, List.getElem_cons_succ, List.getElem_cons_zero, Act.put, List.setIfInBounds_toArray, List.set_cons_zero, List.set_cons_succ]
  refine walk_take 6 (v := ?va6) rfl (by kernel_rfl) (by kernel_rfl) (by kernel_rfl) (fun _ _ _ h => h) (⟨y10, y11⟩) (Or.inl ⟨by rfl, ?ya6⟩) ?ra6
  case ya6 => intro w hSw; obtain ⟨hw0, hw1⟩ := hSw; (try dsimp only at hSw); go_simp; try rfl
  case' ra6 => try simp only [List.getElem_toArray, List.getElem_cons_succ, List.getElem_cons_zero, Act.put, List.setIfInBounds_toArray, List.set_cons_zero, List.set_cons_succ]
  have w1 : IntKind.i64.wrap (timer + 1) = timer + 1 := by rw [IntKind.wrap_i64]; omega
  simp only [w1]
  clear w1
  refine walk_take 7 (v := ?vb7) rfl (by kernel_rfl) (by kernel_rfl) (by kernel_rfl) (fun _ _ _ h => h) (⟨y10, y11⟩) (Or.inl ⟨by rfl, ?yb7⟩) ?rb7
  case yb7 => intro w hSw; obtain ⟨hw0, hw1⟩ := hSw; (try dsimp only at hSw); go_simp; try rfl
  case' rb7 => try simp only [List.getElem_toArray, List.getElem_cons_succ, List.getElem_cons_zero, Act.put, List.setIfInBounds_toArray, List.set_cons_zero, List.set_cons_succ]
  refine walk_take 8 (v := ?vb8) rfl (by kernel_rfl) (by kernel_rfl) (by kernel_rfl) (fun _ _ _ h => h) (⟨y10, y11⟩) (Or.inl ⟨by rfl, ?yb8⟩) ?rb8
  case yb8 => intro w hSw; obtain ⟨hw0, hw1⟩ := hSw; (try dsimp only at hSw); go_simp; try rfl
  case' rb8 => try simp only [List.getElem_toArray, List.getElem_cons_succ, List.getElem_cons_zero, Act.put, List.setIfInBounds_toArray, List.set_cons_zero, List.set_cons_succ]
  refine walk_take 9 (v := ?vb9) rfl (by kernel_rfl) (by kernel_rfl) (by kernel_rfl) (fun _ _ _ h => h) (⟨y10, y11⟩) (Or.inl ⟨by rfl, ?yb9⟩) ?rb9
  case yb9 => intro w hSw; obtain ⟨hw0, hw1⟩ := hSw; (try dsimp only at hSw); go_simp; try rfl
  case' rb9 => try simp only [List.getElem_toArray, List.getElem_cons_succ, List.getElem_cons_zero, Act.put, List.setIfInBounds_toArray, List.set_cons_zero, List.set_cons_succ]
  refine walk_take 10 (v := ?vb10) rfl (by kernel_rfl) (by kernel_rfl) (by kernel_rfl) (fun _ _ _ h => h) (⟨y10, y11⟩) (Or.inl ⟨by rfl, ?yb10⟩) ?rb10
  case yb10 => intro w hSw; obtain ⟨hw0, hw1⟩ := hSw; (try dsimp only at hSw); go_simp; try rfl
  case' rb10 => try simp only [List.getElem_toArray, List.getElem_cons_succ, List.getElem_cons_zero, Act.put, List.setIfInBounds_toArray, List.set_cons_zero, List.set_cons_succ]
  refine walk_take 11 (v := ?vb11) rfl (by kernel_rfl) (by kernel_rfl) (by kernel_rfl) (fun _ _ _ h => h) (⟨y10, y11⟩) (Or.inl ⟨by rfl, ?yb11⟩) ?rb11
  case yb11 => intro w hSw; obtain ⟨hw0, hw1⟩ := hSw; (try dsimp only at hSw); go_simp; try rfl
  case' rb11 => try simp only [List.getElem_toArray, List.getElem_cons_succ, List.getElem_cons_zero, Act.put, List.setIfInBounds_toArray, List.set_cons_zero, List.set_cons_succ]
  refine walk_take 12 (v := ?vb12) rfl (by kernel_rfl) (by kernel_rfl) (by kernel_rfl) (fun _ _ _ h => h) (⟨y10, y11⟩) (Or.inl ⟨by rfl, ?yb12⟩) ?rb12
  case yb12 => intro w hSw; obtain ⟨hw0, hw1⟩ := hSw; (try dsimp only at hSw); go_simp; try rfl
  case' rb12 => try simp only [List.getElem_toArray, List.getElem_cons_succ, List.getElem_cons_zero, Act.put, List.setIfInBounds_toArray, List.set_cons_zero, List.set_cons_succ]
  refine walk_tail (by kernel_rfl) ?_
  simp only [List.drop_succ_cons, List.drop_zero]
  have kf := hq.frozen
  go_upto_region 2 with fail
  replace hq := hq.set_ 10 (.int .i64 r)
  replace hT := hT.set (p := ⟨q, 10, none⟩) (fun _ => rfl) (.int .i64 r)
  clear kf y10 y11
  generalize V.setCell ⟨q, 10, none⟩ (.int .i64 r) = V2 at *
  have y := hq.cell' (i := 10) rfl
  clear hmod
  go_wp2_with fail
  go_ret
  exact ⟨rfl, hq, hT⟩
end Go.Proofs.Ytianombjgdmbeaa
namespace Go.Proofs.Ytianombjgdmbeaa
set_option linter.unusedSimpArgs false
set_option linter.unusedVariables false
open Go.RowKit

theorem gps_app (l m : List (Int × Int)) : gps (l ++ m) = gps l ++ gps m := by simp [gps]
theorem gps_take (l : List (Int × Int)) : ∀ n, gps (l.take n) = (gps l).take (n * 2) := by
  intro n
  induction l generalizing n with
  | nil => simp [gps]
  | cons g l ih =>
    cases n with
    | zero => simp [gps]
    | succ n =>
      show gpc g ++ gps (l.take n) = (gpc g ++ gps l).take ((n + 1) * 2)
      rw [ih, show (n + 1) * 2 = (gpc g).length + n * 2 by rw [gpc_len]; omega, List.take_length_add_append]
set_option maxHeartbeats 3200000 in
set_option maxRecDepth 100000 in
theorem missing_any (x : Tk) (H : Option Addr) (hn hc : Nat) (F : Option Addr) (fn fc : Nat) (w : World) (hh : x.have_.length = hn) (hH : Rd w H (gps x.have_)) (hhn : hn ≤ 8796093022200) (hp : ∀ g ∈ x.have_, (0 : Int) ≤ g.1) (hl : 0 ≤ x.last ∧ x.last ≤ 65536) :
    Calls Try.prog 49 #[tkv x H hn hc F fn fc] w fun e w' => ∃ G gc, e = .returned (.slice G (missT x).length gc) ∧ Own w' w.heap.size 66 2 G (missT x).length gc (gps (missT x)) ∧ Below w.heap.size w w' := by
  obtain ⟨j0, hj0, hy0, hy1, hy2⟩ := info_parts pairinfoR
  obtain ⟨lastn, hln⟩ : ∃ n : Nat, x.last = (n : Int) := ⟨x.last.toNat, by omega⟩
  have hl2 : lastn ≤ 65536 := by omega
  have HM : Hid (missT x = capG ((if x.known then [] else [(0, 0)]) ++ rowsF (fun i => !inR x.have_ i) lastn)) := Lib.hid (by unfold missT; rw [hln]; rfl)
  obtain ⟨mt, hmt⟩ : ∃ mt, missT x = mt := ⟨_, rfl⟩
  rw [hmt] at HM ⊢
  clear hmt
  have HH := Lib.hid hH
  have HHL := Lib.hid hh
  have HPO := Lib.hid hp
  clear hh hH hp hl
  obtain ⟨id, known, name, size, ended, last, sum, have_, file, stage, timer, patience, tries, limit⟩ := x
  unfold tkv tkc
  dsimp only at HH HHL HPO HM hln ⊢
  subst hln
  have b1 := Blk.new w 44 #[.int .i64 id, .bool known, .string name, .int .i64 size, .bool ended, .int .i64 (lastn : Int), .int .i64 sum, .slice H hn hc, .slice F fn fc, .int .i64 stage, .int .i64 timer, .int .i64 patience, .int .i64 tries, .int .i64 limit]
  have hB : Below w.heap.size w (w.alloc (.cells #[.int .i64 id, .bool known, .string name, .int .i64 size, .bool ended, .int .i64 (lastn : Int), .int .i64 sum, .slice H hn hc, .slice F fn fc, .int .i64 stage, .int .i64 timer, .int .i64 patience, .int .i64 tries, .int .i64 limit] 44)) := (Below.refl _ _).alloc (Nat.le_refl _) _
  go_enter Try.func49, Try.ntmps49
  go_upto_region 2 with fail
  generalize w.alloc (.cells #[.int .i64 id, .bool known, .string name, .int .i64 size, .bool ended, .int .i64 (lastn : Int), .int .i64 sum, .slice H hn hc, .slice F fn fc, .int .i64 stage, .int .i64 timer, .int .i64 patience, .int .i64 tries, .int .i64 limit] 44) = W at *
  have x1 := b1.cell' (i := 1) rfl
  have zW := hB.size
  trace "A"
  cases known
  ·
    have hOz : Own (W.alloc (.cells #[.int .i64 0, .int .i64 0] 66)) w.heap.size 66 2 none 0 0 [] := Own.none_ _ _ _ _
    have hRn := Rd_lit W [.int .i64 0, .int .i64 0] 66
    have hone : Hid (∀ u ∈ ([.int .i64 0, .int .i64 0] : List Value), u.oneCell' = true) := Lib.hid (gps_one [(0, 0)])
    have b2 := b1.alloc (.cells #[.int .i64 0, .int .i64 0] 66)
    have hB2 := hB.alloc hB.size (.cells #[.int .i64 0, .int .i64 0] 66)
    have q4 : 0 + 1 ≤ maxLen := by unfold maxLen; omega
    have q6 := hB2.size
    go_upto_region 4 with (at_builtin; refine wpList_append_Own (W.alloc (.cells #[.int .i64 0, .int .i64 0] 66)) rfl (.tmp 7) (.tmp 9) 24 rfl w.heap.size 66 j0 _ 2 16 Try.underlying24 hj0 hy0 hy1 hy2 rfl none 0 0 [] rfl hOz (some ⟨W.heap.size, 0, none⟩) 1 1 [.int .i64 0, .int .i64 0] rfl rfl hRn hone.out q4 (by omega) q6 ?_; intro A c w2 hOA hgA horA; simp only [Nat.zero_add, List.nil_append] at hOA; simp only [Nat.zero_add])
    replace b1 := b2.step (below_of_grown hgA)
    replace hB := hB2.trans ((below_of_grown hgA).mono q6)
    have hP : Own w2 w.heap.size 66 2 A 1 c (gps [(0, 0)]) := hOA
    clear hOz hRn hone b2 hB2 q4 q6 hgA horA hOA x1
    trace "B"
    have x7 := b1.cell' (i := 7) rfl
    have x5 := b1.cell' (i := 5) rfl
    go_upto_region 4 with fail
    go_wp2_with fail
    refine (has_any have_ H hn hc lastn w2 HHL.out (HH.out.below hB) hhn (by omega) HPO.out).mono ?_
    rintro e w3 ⟨rfl, hO3, hb3⟩
    have hP3 := hP.step hb3
    have hB3 := hB.trans (hb3.mono hB.size)
    have z3 := hB3.size
    clear x7 x5
    go_wp2_with fail
    refine (rowsIn_any (hasL have_ lastn) false (some ⟨w2.heap.size, 0, none⟩) lastn lastn w3 (hasL_len _ _) hO3.rd (by omega) (fun i => !inR have_ i) (fun j b hj => by
      have hjl : j < lastn := by
        rcases Nat.lt_or_ge j lastn with h | h
        · exact h
        · rw [List.getElem?_eq_none (by rw [hasL_len]; exact h)] at hj; cases hj
      unfold hasL at hj
      rw [range_get _ hjl] at hj
      rw [← Option.some.inj hj]
      cases inR have_ j <;> rfl)).mono ?_
    rintro e w4 ⟨R, rc, rfl, hO4, hb4⟩
    have hP4 := hP3.step hb4
    have hB4 := hB3.trans (hb4.mono hB3.size)
    have z4 := hB4.size
    have hrl := rowsF_len (fun i => !inR have_ i) lastn
    obtain ⟨rs, hrs⟩ : ∃ rs, rowsF (fun i => !inR have_ i) lastn = rs := ⟨_, rfl⟩
    rw [hrs] at hO4 hrl HM
    rw [hrs]
    have hRR := hO4.rd
    obtain ⟨rn, hrn⟩ : ∃ rn, rs.length = rn := ⟨_, rfl⟩
    rw [hrn] at hrl ⊢
    have HRL : Hid ((gps rs).length = rn * 2) := Lib.hid (by rw [gps_len, hrn])
    have HRN := Lib.hid hrn
    clear hO3 hP3 hb3 hb4 hB3 hO4 hrs hrn
    have q4 : 1 + rn ≤ maxLen := by unfold maxLen; omega
    have q5 : (1 + rn) * 16 ≤ 140737488355328 := by omega
    go_upto_region 5 with (at_builtin; refine wpList_append_Own w4 rfl (.tmp 11) (.tmp 17) 24 rfl w.heap.size 66 j0 _ 2 16 Try.underlying24 hj0 hy0 hy1 hy2 rfl A 1 c (gps [(0, 0)]) rfl hP4 R rn rc (gps rs) rfl HRL.out hRR (gps_one rs) q4 q5 z4 ?_; intro B bc w5 hO5 hg5 hor5; (try simp only [Nat.zero_add, List.nil_append] at hO5); (try simp only [Nat.zero_add]))
    have hB5 := Below.grown' (A := A) hB4 hg5 hB4.size (fun q hq => (hP4.lt q hq).1)
    clear hP4 hRR q4 q5 hg5 hor5 hB4 HRL
    trace "C"
    have HFM : Hid (mt = capG ([(0, 0)] ++ rs)) := Lib.hid HM.out
    have hO6 : Own w5 w.heap.size 66 2 B (1 + rn) bc (gps ([(0, 0)] ++ rs)) := by rw [gps_app]; exact hO5
    have HLL : Hid (([(0, 0)] ++ rs : List (Int × Int)).length = 1 + rn) := Lib.hid (by rw [List.length_append, HRN.out]; rfl)
    clear hO5
    by_cases h20 : 20 < 1 + rn
    ·
      have h20i : (20 : Int) < 1 + (rn : Int) := by omega
      have hcap := hO6.le
      have hcapi : (20 : Int) ≤ (bc : Int) := by omega
      have hO7 := hO6.cut (m := 20) (by omega)
      rw [← gps_take] at hO7
      have HML : Hid (mt.length = 20 ∧ Own w5 w.heap.size 66 2 B 20 bc (gps mt)) := Lib.hid (by
        have e : mt = ([(0, 0)] ++ rs : List (Int × Int)).take 20 := HFM.out
        rw [e, List.length_take, HLL.out]
        exact ⟨by omega, hO7⟩)
      go_wp2_with fail
      go_ret
      exact ⟨B, bc, by rw [HML.out.1] <;> rfl, by rw [HML.out.1]; exact HML.out.2, hB5⟩
    ·
      have h20i : ¬ (20 : Int) < 1 + (rn : Int) := by omega
      have HML : Hid (mt.length = 1 + rn ∧ Own w5 w.heap.size 66 2 B (1 + rn) bc (gps mt)) := Lib.hid (by
        have e : mt = ([(0, 0)] ++ rs : List (Int × Int)) := HFM.out.trans (by unfold capG; exact List.take_of_length_le (by rw [HLL.out]; omega))
        rw [e, HLL.out]
        exact ⟨rfl, hO6⟩)
      go_wp2_with fail
      go_ret
      exact ⟨B, bc, by rw [HML.out.1] <;> rfl, by rw [HML.out.1]; exact HML.out.2, hB5⟩
  ·
    have hP : Own W w.heap.size 66 2 none 0 0 (gps []) := Own.none_ _ _ _ _
    go_upto_region 4 with fail
    clear x1
    have x7 := b1.cell' (i := 7) rfl
    have x5 := b1.cell' (i := 5) rfl
    go_upto_region 4 with fail
    go_wp2_with fail
    refine (has_any have_ H hn hc lastn W HHL.out (HH.out.below hB) hhn (by omega) HPO.out).mono ?_
    rintro e w3 ⟨rfl, hO3, hb3⟩
    have hP3 := hP.step hb3
    have hB3 := hB.trans (hb3.mono hB.size)
    have z3 := hB3.size
    clear x7 x5
    go_wp2_with fail
    refine (rowsIn_any (hasL have_ lastn) false (some ⟨W.heap.size, 0, none⟩) lastn lastn w3 (hasL_len _ _) hO3.rd (by omega) (fun i => !inR have_ i) (fun j b hj => by
      have hjl : j < lastn := by
        rcases Nat.lt_or_ge j lastn with h | h
        · exact h
        · rw [List.getElem?_eq_none (by rw [hasL_len]; exact h)] at hj; cases hj
      unfold hasL at hj
      rw [range_get _ hjl] at hj
      rw [← Option.some.inj hj]
      cases inR have_ j <;> rfl)).mono ?_
    rintro e w4 ⟨R, rc, rfl, hO4, hb4⟩
    have hP4 := hP3.step hb4
    have hB4 := hB3.trans (hb4.mono hB3.size)
    have z4 := hB4.size
    have hrl := rowsF_len (fun i => !inR have_ i) lastn
    obtain ⟨rs, hrs⟩ : ∃ rs, rowsF (fun i => !inR have_ i) lastn = rs := ⟨_, rfl⟩
    rw [hrs] at hO4 hrl HM
    rw [hrs]
    have hRR := hO4.rd
    obtain ⟨rn, hrn⟩ : ∃ rn, rs.length = rn := ⟨_, rfl⟩
    rw [hrn] at hrl ⊢
    have HRL : Hid ((gps rs).length = rn * 2) := Lib.hid (by rw [gps_len, hrn])
    have HRN := Lib.hid hrn
    clear hO3 hP3 hb3 hb4 hB3 hO4 hrs hrn
    have q4 : 0 + rn ≤ maxLen := by unfold maxLen; omega
    have q5 : (0 + rn) * 16 ≤ 140737488355328 := by omega
    go_upto_region 5 with (at_builtin; refine wpList_append_Own w4 rfl (.tmp 11) (.tmp 17) 24 rfl w.heap.size 66 j0 _ 2 16 Try.underlying24 hj0 hy0 hy1 hy2 rfl none 0 0 (gps []) rfl hP4 R rn rc (gps rs) rfl HRL.out hRR (gps_one rs) q4 q5 z4 ?_; intro B bc w5 hO5 hg5 hor5; (try simp only [Nat.zero_add, List.nil_append] at hO5); (try simp only [Nat.zero_add]))
    have hB5 := Below.grown' (A := none) hB4 hg5 hB4.size (fun q hq => (hP4.lt q hq).1)
    clear hP4 hRR q4 q5 hg5 hor5 hB4 HRL
    trace "D"
    have HFM : Hid (mt = capG rs) := Lib.hid HM.out
    have hO6 : Own w5 w.heap.size 66 2 B rn bc (gps rs) := hO5
    clear hO5
    by_cases h20 : 20 < rn
    ·
      have h20i : (20 : Int) < (rn : Int) := by omega
      have hcap := hO6.le
      have hcapi : (20 : Int) ≤ (bc : Int) := by omega
      have hO7 := hO6.cut (m := 20) (by omega)
      rw [← gps_take] at hO7
      have HML : Hid (mt.length = 20 ∧ Own w5 w.heap.size 66 2 B 20 bc (gps mt)) := Lib.hid (by
        have e : mt = rs.take 20 := HFM.out
        rw [e, List.length_take, HRN.out]
        exact ⟨by omega, hO7⟩)
      go_wp2_with fail
      go_ret
      exact ⟨B, bc, by rw [HML.out.1] <;> rfl, by rw [HML.out.1]; exact HML.out.2, hB5⟩
    ·
      have h20i : ¬ (20 : Int) < (rn : Int) := by omega
      have HML : Hid (mt.length = rn ∧ Own w5 w.heap.size 66 2 B rn bc (gps mt)) := Lib.hid (by
        have e : mt = rs := HFM.out.trans (by unfold capG; exact List.take_of_length_le (by rw [HRN.out]; omega))
        rw [e, HRN.out]
        exact ⟨rfl, hO6⟩)
      go_wp2_with fail
      go_ret
      exact ⟨B, bc, by rw [HML.out.1] <;> rfl, by rw [HML.out.1]; exact HML.out.2, hB5⟩
end Go.Proofs.Ytianombjgdmbeaa
