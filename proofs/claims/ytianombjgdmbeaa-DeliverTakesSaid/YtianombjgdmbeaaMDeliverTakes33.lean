/-
  What a func does to a taker at work; the taker at work in one word. Who is expected (Expected, Expect): is there an error?
-/
import Derived.Test.YtianombjgdmbeaaMDeliverTakes32
import Derived.Test.YtianombjgdmbeaaMDeliverTakes9
import Derived.Test.YtianombjgdmbeaaMDeliverTakes10
import Derived.Test.YtianombjgdmbeaaMDeliverTakes11
namespace Go.Proofs.Ytianombjgdmbeaa
set_option linter.unusedSimpArgs false
set_option linter.unusedVariables false
open Go.RowKit

/-- What a func does to the taker at work in block q: all that is its own lies from base on. -/
def DoT (w w' : World) (base q : Nat) (y : Tk) (ns : List Nt) (k : Int) (e : Ending) : Prop :=
  ∃ F fn fc A an ac O on oc l, e = .returned (.int .i64 k) ∧ Blk w' q 86 (tw y A an ac F fn fc O on oc) ∧ GvMem w' base (pg y) ns F fn fc A an ac O on oc l ∧ Below base w w'
end Go.Proofs.Ytianombjgdmbeaa
namespace Go.Proofs.Ytianombjgdmbeaa
set_option linter.unusedSimpArgs false
set_option linter.unusedVariables false
open Go.RowKit

theorem results_cs {P : Program} {fn : Func} {p q : Tmp} {ty : TypeId} (h : fn.results = #[.cell p ty, .tmp q]) (tmps : Array Value) (w : World) (g : Nat) (t : TypeId) (cs : Array Value) (fr : Nat × Nat) (d : TypeDesc)
    {v : Value} (hp : tmps.getD p undef = .pointer (some ⟨g, 0, none⟩)) (hq : tmps.getD q undef = v) (hg : w.heap[g]? = some (.cells cs t fr))
    (hu : P.underlying ty = some d) (hd : (match d with | .struct _ | .array _ _ => true | _ => false) = true) (hi : (P.info? ty).map (·.size) = some cs.size) :
    (results fn tmps).run P w = .ok (.tuple #[.agg cs, v]) w := by
  have hq' : tmps[q]?.getD undef = v := by simpa using hq
  have hp' : tmps[p]?.getD undef = .pointer (some ⟨g, 0, none⟩) := by simpa using hp
  simp [results, h, hp', hq', asAddr, run_loadVar_row w g t ty cs fr d hg hu hd hi]
theorem takerszE : (Try.prog.info? 44).map (·.size) = some 14 := by kernel_rfl
def tkE (id p l : Int) : Tk := ⟨id, false, ⟨#[]⟩, 0, false, 0, 0, [], [], 0, 0, p, 0, l⟩
set_option maxHeartbeats 3200000 in
set_option maxRecDepth 100000 in
theorem expected_is (id p l : Int) (w : World) :
    Calls Try.prog 90 #[.int .i64 id, .int .i64 p, .int .i64 l] w fun e w' => ∃ y k, e = .returned (.tuple #[tkv y none 0 0 none 0 0, .int .i64 k]) ∧ decide (k = 0) = (rngOk id 0 65535 && rngOk p 1 1000 && rngOk l 1 100) ∧ Below w.heap.size w w' := by
  have k1 := Blk.new w 44 #[.int .i64 0, .bool false, .string ⟨#[]⟩, .int .i64 0, .bool false, .int .i64 0, .int .i64 0, .slice none 0 0, .slice none 0 0, .int .i64 0, .int .i64 0, .int .i64 0, .int .i64 0, .int .i64 0]
  have hB : Below w.heap.size w (w.alloc (.cells #[.int .i64 0, .bool false, .string ⟨#[]⟩, .int .i64 0, .bool false, .int .i64 0, .int .i64 0, .slice none 0 0, .slice none 0 0, .int .i64 0, .int .i64 0, .int .i64 0, .int .i64 0, .int .i64 0] 44)) := (Below.refl _ _).alloc (Nat.le_refl _) _
  go_enter Try.func90, Try.ntmps90
  go_upto_region 1 with fail
  generalize w.alloc (.cells #[.int .i64 0, .bool false, .string ⟨#[]⟩, .int .i64 0, .bool false, .int .i64 0, .int .i64 0, .slice none 0 0, .slice none 0 0, .int .i64 0, .int .i64 0, .int .i64 0, .int .i64 0, .int .i64 0] 44) = W at *
  go_wp2_with fail
  cases h10 : rngOk id 0 65535
  · have h1 := Lib.hid h10
    refine (rin_is id 0 65535 false _ h1).mono ?_
    rintro e _ ⟨rfl, rfl⟩
    have HX : Hid ((rngOk id 0 65535 && rngOk p 1 1000 && rngOk l 1 100) = false) := Lib.hid (by rw [h1.out]; rfl)
    clear h10
    go_wp2_with (refine wpList_store_row rfl 44 (.tmp 6) (.tmp 21) rfl w.heap.size #[.int .i64 0, .bool false, .string ⟨#[]⟩, .int .i64 0, .bool false, .int .i64 0, .int .i64 0, .slice none 0 0, .slice none 0 0, .int .i64 0, .int .i64 0, .int .i64 0, .int .i64 0, .int .i64 0] rfl rfl 44 _ k1 takerszE rfl (by simp [Value.oneCell']) ?_)
    have k2 := k1.row #[.int .i64 0, .bool false, .string ⟨#[]⟩, .int .i64 0, .bool false, .int .i64 0, .int .i64 0, .slice none 0 0, .slice none 0 0, .int .i64 0, .int .i64 0, .int .i64 0, .int .i64 0, .int .i64 0]
    refine bodyPost_ret (v := .tuple #[.agg #[.int .i64 0, .bool false, .string ⟨#[]⟩, .int .i64 0, .bool false, .int .i64 0, .int .i64 0, .slice none 0 0, .slice none 0 0, .int .i64 0, .int .i64 0, .int .i64 0, .int .i64 0, .int .i64 0], .int .i64 2]) (results_cs (ty := 44) Try.results90 _ _ w.heap.size 44 _ (0, 0) _ rfl rfl k2 Try.underlying44 rfl takerszE) rfl ?_
    exact ⟨tkZero, 2, rfl, by rw [HX.out]; rfl, below_row hB (Nat.le_refl _) _⟩
  have h1 := Lib.hid h10
  refine (rin_is id 0 65535 true _ h1).mono ?_
  rintro e _ ⟨rfl, rfl⟩
  clear h10
  go_wp2_with fail
  cases h20 : rngOk p 1 1000
  · have h2 := Lib.hid h20
    refine (rin_is p 1 1000 false _ h2).mono ?_
    rintro e _ ⟨rfl, rfl⟩
    have HX : Hid ((rngOk id 0 65535 && rngOk p 1 1000 && rngOk l 1 100) = false) := Lib.hid (by rw [h2.out]; simp)
    clear h20
    go_wp2_with (refine wpList_store_row rfl 44 (.tmp 6) (.tmp 21) rfl w.heap.size #[.int .i64 0, .bool false, .string ⟨#[]⟩, .int .i64 0, .bool false, .int .i64 0, .int .i64 0, .slice none 0 0, .slice none 0 0, .int .i64 0, .int .i64 0, .int .i64 0, .int .i64 0, .int .i64 0] rfl rfl 44 _ k1 takerszE rfl (by simp [Value.oneCell']) ?_)
    have k2 := k1.row #[.int .i64 0, .bool false, .string ⟨#[]⟩, .int .i64 0, .bool false, .int .i64 0, .int .i64 0, .slice none 0 0, .slice none 0 0, .int .i64 0, .int .i64 0, .int .i64 0, .int .i64 0, .int .i64 0]
    refine bodyPost_ret (v := .tuple #[.agg #[.int .i64 0, .bool false, .string ⟨#[]⟩, .int .i64 0, .bool false, .int .i64 0, .int .i64 0, .slice none 0 0, .slice none 0 0, .int .i64 0, .int .i64 0, .int .i64 0, .int .i64 0, .int .i64 0], .int .i64 2]) (results_cs (ty := 44) Try.results90 _ _ w.heap.size 44 _ (0, 0) _ rfl rfl k2 Try.underlying44 rfl takerszE) rfl ?_
    exact ⟨tkZero, 2, rfl, by rw [HX.out]; rfl, below_row hB (Nat.le_refl _) _⟩
  have h2 := Lib.hid h20
  refine (rin_is p 1 1000 true _ h2).mono ?_
  rintro e _ ⟨rfl, rfl⟩
  clear h20
  go_wp2_with fail
  cases h30 : rngOk l 1 100
  · have h3 := Lib.hid h30
    refine (rin_is l 1 100 false _ h3).mono ?_
    rintro e _ ⟨rfl, rfl⟩
    have HX : Hid ((rngOk id 0 65535 && rngOk p 1 1000 && rngOk l 1 100) = false) := Lib.hid (by rw [h3.out]; simp)
    clear h30
    go_wp2_with (refine wpList_store_row rfl 44 (.tmp 6) (.tmp 21) rfl w.heap.size #[.int .i64 0, .bool false, .string ⟨#[]⟩, .int .i64 0, .bool false, .int .i64 0, .int .i64 0, .slice none 0 0, .slice none 0 0, .int .i64 0, .int .i64 0, .int .i64 0, .int .i64 0, .int .i64 0] rfl rfl 44 _ k1 takerszE rfl (by simp [Value.oneCell']) ?_)
    have k2 := k1.row #[.int .i64 0, .bool false, .string ⟨#[]⟩, .int .i64 0, .bool false, .int .i64 0, .int .i64 0, .slice none 0 0, .slice none 0 0, .int .i64 0, .int .i64 0, .int .i64 0, .int .i64 0, .int .i64 0]
    refine bodyPost_ret (v := .tuple #[.agg #[.int .i64 0, .bool false, .string ⟨#[]⟩, .int .i64 0, .bool false, .int .i64 0, .int .i64 0, .slice none 0 0, .slice none 0 0, .int .i64 0, .int .i64 0, .int .i64 0, .int .i64 0, .int .i64 0], .int .i64 2]) (results_cs (ty := 44) Try.results90 _ _ w.heap.size 44 _ (0, 0) _ rfl rfl k2 Try.underlying44 rfl takerszE) rfl ?_
    exact ⟨tkZero, 2, rfl, by rw [HX.out]; rfl, below_row hB (Nat.le_refl _) _⟩
  have h3 := Lib.hid h30
  refine (rin_is l 1 100 true _ h3).mono ?_
  rintro e _ ⟨rfl, rfl⟩
  clear h30
  go_wp2_with (refine wpList_store_row rfl 44 (.tmp 6) (.tmp 25) rfl w.heap.size #[.int .i64 id, .bool false, .string ⟨#[]⟩, .int .i64 0, .bool false, .int .i64 0, .int .i64 0, .slice none 0 0, .slice none 0 0, .int .i64 0, .int .i64 0, .int .i64 p, .int .i64 0, .int .i64 l] rfl rfl 44 _ k1 takerszE rfl (by simp [Value.oneCell']) ?_)
  have k2 := k1.row #[.int .i64 id, .bool false, .string ⟨#[]⟩, .int .i64 0, .bool false, .int .i64 0, .int .i64 0, .slice none 0 0, .slice none 0 0, .int .i64 0, .int .i64 0, .int .i64 p, .int .i64 0, .int .i64 l]
  refine bodyPost_ret (v := .tuple #[.agg #[.int .i64 id, .bool false, .string ⟨#[]⟩, .int .i64 0, .bool false, .int .i64 0, .int .i64 0, .slice none 0 0, .slice none 0 0, .int .i64 0, .int .i64 0, .int .i64 p, .int .i64 0, .int .i64 l], .int .i64 0]) (results_cs (ty := 44) Try.results90 _ _ w.heap.size 44 _ (0, 0) _ rfl rfl k2 Try.underlying44 rfl takerszE) rfl ?_
  exact ⟨tkE id p l, 0, rfl, by rw [h1.out, h2.out, h3.out]; rfl, below_row hB (Nat.le_refl _) _⟩
set_option maxHeartbeats 3200000 in
set_option maxRecDepth 100000 in
theorem expect_is (id p l : Int) (w : World) :
    Calls Try.prog 91 #[.int .i64 id, .int .i64 p, .int .i64 l] w fun e w' => ∃ y k, e = .returned (.tuple #[tkv y none 0 0 none 0 0, .int .i64 k]) ∧ decide (k = 0) = (rngOk id 0 65535 && rngOk p 1 1000 && rngOk l 1 100) ∧ Below w.heap.size w w' := by
  have k1 := Blk.new w 44 #[.int .i64 0, .bool false, .string ⟨#[]⟩, .int .i64 0, .bool false, .int .i64 0, .int .i64 0, .slice none 0 0, .slice none 0 0, .int .i64 0, .int .i64 0, .int .i64 0, .int .i64 0, .int .i64 0]
  have hB : Below w.heap.size w (w.alloc (.cells #[.int .i64 0, .bool false, .string ⟨#[]⟩, .int .i64 0, .bool false, .int .i64 0, .int .i64 0, .slice none 0 0, .slice none 0 0, .int .i64 0, .int .i64 0, .int .i64 0, .int .i64 0, .int .i64 0] 44)) := (Below.refl _ _).alloc (Nat.le_refl _) _
  go_enter Try.func91, Try.ntmps91
  go_upto_region 1 with fail
  generalize w.alloc (.cells #[.int .i64 0, .bool false, .string ⟨#[]⟩, .int .i64 0, .bool false, .int .i64 0, .int .i64 0, .slice none 0 0, .slice none 0 0, .int .i64 0, .int .i64 0, .int .i64 0, .int .i64 0, .int .i64 0] 44) = W at *
  go_wp2_with fail
  cases h10 : rngOk id 0 65535
  · have h1 := Lib.hid h10
    refine (din_is id 0 65535 false _ h1).mono ?_
    rintro e _ ⟨rfl, rfl⟩
    have HX : Hid ((rngOk id 0 65535 && rngOk p 1 1000 && rngOk l 1 100) = false) := Lib.hid (by rw [h1.out]; rfl)
    clear h10
    go_wp2_with (refine wpList_store_row rfl 44 (.tmp 6) (.tmp 21) rfl w.heap.size #[.int .i64 0, .bool false, .string ⟨#[]⟩, .int .i64 0, .bool false, .int .i64 0, .int .i64 0, .slice none 0 0, .slice none 0 0, .int .i64 0, .int .i64 0, .int .i64 0, .int .i64 0, .int .i64 0] rfl rfl 44 _ k1 takerszE rfl (by simp [Value.oneCell']) ?_)
    have k2 := k1.row #[.int .i64 0, .bool false, .string ⟨#[]⟩, .int .i64 0, .bool false, .int .i64 0, .int .i64 0, .slice none 0 0, .slice none 0 0, .int .i64 0, .int .i64 0, .int .i64 0, .int .i64 0, .int .i64 0]
    refine bodyPost_ret (v := .tuple #[.agg #[.int .i64 0, .bool false, .string ⟨#[]⟩, .int .i64 0, .bool false, .int .i64 0, .int .i64 0, .slice none 0 0, .slice none 0 0, .int .i64 0, .int .i64 0, .int .i64 0, .int .i64 0, .int .i64 0], .int .i64 2]) (results_cs (ty := 44) Try.results91 _ _ w.heap.size 44 _ (0, 0) _ rfl rfl k2 Try.underlying44 rfl takerszE) rfl ?_
    exact ⟨tkZero, 2, rfl, by rw [HX.out]; rfl, below_row hB (Nat.le_refl _) _⟩
  have h1 := Lib.hid h10
  refine (din_is id 0 65535 true _ h1).mono ?_
  rintro e _ ⟨rfl, rfl⟩
  clear h10
  go_wp2_with fail
  cases h20 : rngOk p 1 1000
  · have h2 := Lib.hid h20
    refine (din_is p 1 1000 false _ h2).mono ?_
    rintro e _ ⟨rfl, rfl⟩
    have HX : Hid ((rngOk id 0 65535 && rngOk p 1 1000 && rngOk l 1 100) = false) := Lib.hid (by rw [h2.out]; simp)
    clear h20
    go_wp2_with (refine wpList_store_row rfl 44 (.tmp 6) (.tmp 21) rfl w.heap.size #[.int .i64 0, .bool false, .string ⟨#[]⟩, .int .i64 0, .bool false, .int .i64 0, .int .i64 0, .slice none 0 0, .slice none 0 0, .int .i64 0, .int .i64 0, .int .i64 0, .int .i64 0, .int .i64 0] rfl rfl 44 _ k1 takerszE rfl (by simp [Value.oneCell']) ?_)
    have k2 := k1.row #[.int .i64 0, .bool false, .string ⟨#[]⟩, .int .i64 0, .bool false, .int .i64 0, .int .i64 0, .slice none 0 0, .slice none 0 0, .int .i64 0, .int .i64 0, .int .i64 0, .int .i64 0, .int .i64 0]
    refine bodyPost_ret (v := .tuple #[.agg #[.int .i64 0, .bool false, .string ⟨#[]⟩, .int .i64 0, .bool false, .int .i64 0, .int .i64 0, .slice none 0 0, .slice none 0 0, .int .i64 0, .int .i64 0, .int .i64 0, .int .i64 0, .int .i64 0], .int .i64 2]) (results_cs (ty := 44) Try.results91 _ _ w.heap.size 44 _ (0, 0) _ rfl rfl k2 Try.underlying44 rfl takerszE) rfl ?_
    exact ⟨tkZero, 2, rfl, by rw [HX.out]; rfl, below_row hB (Nat.le_refl _) _⟩
  have h2 := Lib.hid h20
  refine (din_is p 1 1000 true _ h2).mono ?_
  rintro e _ ⟨rfl, rfl⟩
  clear h20
  go_wp2_with fail
  cases h30 : rngOk l 1 100
  · have h3 := Lib.hid h30
    refine (din_is l 1 100 false _ h3).mono ?_
    rintro e _ ⟨rfl, rfl⟩
    have HX : Hid ((rngOk id 0 65535 && rngOk p 1 1000 && rngOk l 1 100) = false) := Lib.hid (by rw [h3.out]; simp)
    clear h30
    go_wp2_with (refine wpList_store_row rfl 44 (.tmp 6) (.tmp 21) rfl w.heap.size #[.int .i64 0, .bool false, .string ⟨#[]⟩, .int .i64 0, .bool false, .int .i64 0, .int .i64 0, .slice none 0 0, .slice none 0 0, .int .i64 0, .int .i64 0, .int .i64 0, .int .i64 0, .int .i64 0] rfl rfl 44 _ k1 takerszE rfl (by simp [Value.oneCell']) ?_)
    have k2 := k1.row #[.int .i64 0, .bool false, .string ⟨#[]⟩, .int .i64 0, .bool false, .int .i64 0, .int .i64 0, .slice none 0 0, .slice none 0 0, .int .i64 0, .int .i64 0, .int .i64 0, .int .i64 0, .int .i64 0]
    refine bodyPost_ret (v := .tuple #[.agg #[.int .i64 0, .bool false, .string ⟨#[]⟩, .int .i64 0, .bool false, .int .i64 0, .int .i64 0, .slice none 0 0, .slice none 0 0, .int .i64 0, .int .i64 0, .int .i64 0, .int .i64 0, .int .i64 0], .int .i64 2]) (results_cs (ty := 44) Try.results91 _ _ w.heap.size 44 _ (0, 0) _ rfl rfl k2 Try.underlying44 rfl takerszE) rfl ?_
    exact ⟨tkZero, 2, rfl, by rw [HX.out]; rfl, below_row hB (Nat.le_refl _) _⟩
  have h3 := Lib.hid h30
  refine (din_is l 1 100 true _ h3).mono ?_
  rintro e _ ⟨rfl, rfl⟩
  clear h30
  go_wp2_with (refine wpList_store_row rfl 44 (.tmp 6) (.tmp 25) rfl w.heap.size #[.int .i64 id, .bool false, .string ⟨#[]⟩, .int .i64 0, .bool false, .int .i64 0, .int .i64 0, .slice none 0 0, .slice none 0 0, .int .i64 0, .int .i64 0, .int .i64 p, .int .i64 0, .int .i64 l] rfl rfl 44 _ k1 takerszE rfl (by simp [Value.oneCell']) ?_)
  have k2 := k1.row #[.int .i64 id, .bool false, .string ⟨#[]⟩, .int .i64 0, .bool false, .int .i64 0, .int .i64 0, .slice none 0 0, .slice none 0 0, .int .i64 0, .int .i64 0, .int .i64 p, .int .i64 0, .int .i64 l]
  refine bodyPost_ret (v := .tuple #[.agg #[.int .i64 id, .bool false, .string ⟨#[]⟩, .int .i64 0, .bool false, .int .i64 0, .int .i64 0, .slice none 0 0, .slice none 0 0, .int .i64 0, .int .i64 0, .int .i64 p, .int .i64 0, .int .i64 l], .int .i64 0]) (results_cs (ty := 44) Try.results91 _ _ w.heap.size 44 _ (0, 0) _ rfl rfl k2 Try.underlying44 rfl takerszE) rfl ?_
  exact ⟨tkE id p l, 0, rfl, by rw [h1.out, h2.out, h3.out]; rfl, below_row hB (Nat.le_refl _) _⟩
end Go.Proofs.Ytianombjgdmbeaa
