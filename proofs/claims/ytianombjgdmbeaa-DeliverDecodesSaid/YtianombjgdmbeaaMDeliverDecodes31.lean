/-
  A reader's note, of any bytes; the func that Decode defers. Decode, by the program.
-/
import Derived.Test.YtianombjgdmbeaaMDeliverDecodes30
import Derived.Defers
import Derived.Recover
import Derived.Test.YtianombjgdmbeaaMDeliverDecodes24
namespace Go.Proofs.Ytianombjgdmbeaa
set_option linter.unusedSimpArgs false
set_option linter.unusedVariables false
open Go.RowKit

theorem note_any (b N : Nat) (l : List UInt8) (w : World) (h : RdrAt w b N l) (hN : N ≤ b) (hbw : b < w.heap.size) (hz : l.length ≤ 140737488351300) :
    Calls Try.prog 46 #[.pointer (some ⟨b, 0, none⟩)] w fun e w' => NotePost w w' b N (noteR l) e := by
  by_cases h3 : l.length < 3
  · exact note_short b N l w h hN hbw h3
  have hl : 3 ≤ l.length := by omega
  obtain ⟨kd, hk⟩ : ∃ kd, (bAt l 0 : Int) = kd := ⟨_, rfl⟩
  by_cases k1 : kd = 1
  · exact note_1 b N l w h hN hbw hl (hk.trans k1) hz
  by_cases k2 : kd = 2
  · exact note_2 b N l w h hN hbw hl (hk.trans k2) hz
  by_cases k3 : kd = 3
  · exact note_3 b N l w h hN hbw hl (hk.trans k3)
  by_cases k4 : kd = 4
  · exact note_4 b N l w h hN hbw hl (hk.trans k4)
  by_cases k5 : kd = 5
  · exact note_5 b N l w h hN hbw hl (hk.trans k5) hz
  by_cases k6 : kd = 6
  · exact note_6 b N l w h hN hbw hl (hk.trans k6) hz
  exact note_o kd b N l w h hN hbw hl hk k1 k2 k3 k4 k5 k6
/-- Nothing is recovered where nothing panicked. -/
theorem catch_idle (p q : Addr) (w : World) :
    CallsD Try.prog 45 #[.pointer (some p), .pointer (some q)] .returning w fun e u' w' => e = .returned (.tuple #[]) ∧ u' = .returning ∧ w' = w := by
  refine callsD_of_wpS Try.func45 rfl fun c₀ cs hu => ?_
  apply wpS_seq
  apply wpS_region
  simp [wpOpsS, go_sem, recoverD, hu, Try.ntmps45, Exit.thenS]
  refine wpS_of_wp ?_
  go_wp2_with fail
  cases c₀
  simp_all [bodyPostS, results, Try.results45]
set_option maxHeartbeats 3200000 in
set_option maxRecDepth 100000 in
theorem catch_panics (p q : Nat) (ds : Array Value) (x : Int) (w : World) (hp : Blk w p 27 ds) (hds : ds.size = 10) (hq : Blk w q 25 #[.int .i64 x]) (hpq : p ≠ q) :
    CallsD Try.prog 45 #[.pointer (some ⟨p, 0, none⟩), .pointer (some ⟨q, 0, none⟩)] (.panicking shortP) w fun e u' w' => e = .returned (.tuple #[]) ∧ u' = .panicking [{ v := .iface 71 (.agg #[]), recovered := true }] ∧ w' = ((w.alloc (.cells #[] 71)).setRow p #[.int .i64 0, .int .i64 0, .string ⟨#[]⟩, .int .i64 0, .int .i64 0, .int .i64 0, .slice none 0 0, .slice none 0 0, .int .i64 0, .int .i64 0]).setCell ⟨q, 0, none⟩ (.int .i64 8) := by
  have hta : ∀ w, (Instr.typeAssert (.iface 71 (.agg #[])) 20 71 true).run Try.prog w = .ok (.tuple #[.agg #[], .bool true]) w := fun w => by kernel_rfl
  refine callsD_of_wpS Try.func45 rfl fun c₀ cs hu => ?_
  apply wpS_seq
  apply wpS_region
  simp [wpOpsS, go_sem, recoverD, hu, shortP, Try.ntmps45, Exit.thenS]
  refine wpS_of_wp ?_
  go_upto_region 7 with fail
  have bp := hp.alloc (.cells #[] 71)
  have bq := (hq.alloc (.cells #[] 71)).farRow (g := p) (Ne.symm hpq) #[.int .i64 0, .int .i64 0, .string ⟨#[]⟩, .int .i64 0, .int .i64 0, .int .i64 0, .slice none 0 0, .slice none 0 0, .int .i64 0, .int .i64 0]
  have kf := bq.frozen
  have y0 := bq.cell' (i := 0) rfl
  go_wp2_with (refine wpList_store_row rfl 27 (.tmp 0) (.tmp 11) rfl p #[.int .i64 0, .int .i64 0, .string ⟨#[]⟩, .int .i64 0, .int .i64 0, .int .i64 0, .slice none 0 0, .slice none 0 0, .int .i64 0, .int .i64 0] rfl rfl 27 _ bp notesz hds (by simp [Value.oneCell']) ?_)
  clear bp bq kf y0 hp hq
  simp [bodyPostS, results, Try.results45]
end Go.Proofs.Ytianombjgdmbeaa
namespace Go.Proofs.Ytianombjgdmbeaa
set_option linter.unusedSimpArgs false
set_option linter.unusedVariables false
open Go.RowKit

/-- A note and an error come out; the note's data lie in memory of their own. -/
def DecRes (w w' : World) (r : Nt × Int) (e : Ending) : Prop :=
  ∃ D dc G gc, e = .returned (.tuple #[ntv r.1 D r.1.data.length dc G r.1.gaps.length gc, .int .i64 r.2]) ∧ Own w' w.heap.size 5 1 D r.1.data.length dc (bvs r.1.data) ∧ Own w' w.heap.size 66 2 G r.1.gaps.length gc (gps r.1.gaps) ∧ Below w.heap.size w w'
set_option maxRecDepth 100000 in
theorem results_dec (tmps : Array Value) (w : World) (p q : Nat) (cs : Array Value) (fr : Nat × Nat) (x : Int) (hp : tmps.getD 2 undef = .pointer (some ⟨p, 0, none⟩)) (hq : tmps.getD 3 undef = .pointer (some ⟨q, 0, none⟩)) (hg : w.heap[p]? = some (.cells cs 27 fr)) (hs : cs.size = 10) (hx : w.cell? ⟨q, 0, none⟩ = some (.int .i64 x)) :
    (results Try.f16 tmps).run Try.prog w = .ok (.tuple #[.agg cs, .int .i64 x]) w := by
  have hp' : tmps[2]?.getD undef = .pointer (some ⟨p, 0, none⟩) := by simpa using hp
  have hq' : tmps[3]?.getD undef = .pointer (some ⟨q, 0, none⟩) := by simpa using hq
  have hl := run_loadVar_row (P := Try.prog) w p 27 27 cs fr _ hg Try.underlying27 rfl (by rw [notesz, hs])
  simp [results, Try.results16, hp', hq', asAddr, hl]
  rw [show (loadVar 25 ⟨q, 0, none⟩).run Try.prog w = .ok (.int .i64 x) w by simp [go_sem, hx]]
  rfl
set_option maxHeartbeats 6400000 in
set_option maxRecDepth 100000 in
theorem decode_no (A : Option Addr) (l : List UInt8) (n c : Nat) (w : World) (hl : l.length = n) (ha : Rd w A (bvs l)) (hAlt : ∀ q, blk A = some q → q < w.heap.size) (hc : n ≤ c) (hz : c ≤ 9223372036854775807) (hn : n ≤ 140737488351300) (hno : noteR l = none) :
    Calls Try.prog 16 #[.slice A n c] w fun e w' => DecRes w w' (decQ l) e := by
  have hmf : ∀ (fn : Fn) (first cap : Array Value) (w : World), (Instr.makeFunc fn first cap).run Try.prog w = .ok (.func fn first cap) w := fun _ _ _ _ => rfl
  have HQ := Lib.hid (decQ_none hno)
  have br := ((Blk.new w 27 #[.int .i64 0, .int .i64 0, .string ⟨#[]⟩, .int .i64 0, .int .i64 0, .int .i64 0, .slice none 0 0, .slice none 0 0, .int .i64 0, .int .i64 0]).alloc (.cells #[.int .i64 0] 25)).alloc (.cells #[.slice A n c] 72)
  have be := (Blk.new (w.alloc (.cells #[.int .i64 0, .int .i64 0, .string ⟨#[]⟩, .int .i64 0, .int .i64 0, .int .i64 0, .slice none 0 0, .slice none 0 0, .int .i64 0, .int .i64 0] 27)) 25 #[.int .i64 0]).alloc (.cells #[.slice A n c] 72)
  have bb := Blk.new ((w.alloc (.cells #[.int .i64 0, .int .i64 0, .string ⟨#[]⟩, .int .i64 0, .int .i64 0, .int .i64 0, .slice none 0 0, .slice none 0 0, .int .i64 0, .int .i64 0] 27)).alloc (.cells #[.int .i64 0] 25)) 72 #[.slice A n c]
  rw [show (w.alloc (.cells #[.int .i64 0, .int .i64 0, .string ⟨#[]⟩, .int .i64 0, .int .i64 0, .int .i64 0, .slice none 0 0, .slice none 0 0, .int .i64 0, .int .i64 0] 27)).heap.size = w.heap.size + 1 by simp] at be
  rw [show ((w.alloc (.cells #[.int .i64 0, .int .i64 0, .string ⟨#[]⟩, .int .i64 0, .int .i64 0, .int .i64 0, .slice none 0 0, .slice none 0 0, .int .i64 0, .int .i64 0] 27)).alloc (.cells #[.int .i64 0] 25)).heap.size = w.heap.size + 1 + 1 by simp] at bb
  have hB : Below w.heap.size w (((w.alloc (.cells #[.int .i64 0, .int .i64 0, .string ⟨#[]⟩, .int .i64 0, .int .i64 0, .int .i64 0, .slice none 0 0, .slice none 0 0, .int .i64 0, .int .i64 0] 27)).alloc (.cells #[.int .i64 0] 25)).alloc (.cells #[.slice A n c] 72)) := (((Below.refl _ _).alloc (Nat.le_refl _) _).alloc (by simp) _).alloc (by simp; omega) _
  have hRd : RdrAt (((w.alloc (.cells #[.int .i64 0, .int .i64 0, .string ⟨#[]⟩, .int .i64 0, .int .i64 0, .int .i64 0, .slice none 0 0, .slice none 0 0, .int .i64 0, .int .i64 0] 27)).alloc (.cells #[.int .i64 0] 25)).alloc (.cells #[.slice A n c] 72)) (w.heap.size + 1 + 1) w.heap.size l := ⟨A, c, by rw [hl]; exact bb, ha.below hB, by omega, hz, hAlt⟩
  have hzs : w.heap.size + 1 + 1 < (((w.alloc (.cells #[.int .i64 0, .int .i64 0, .string ⟨#[]⟩, .int .i64 0, .int .i64 0, .int .i64 0, .slice none 0 0, .slice none 0 0, .int .i64 0, .int .i64 0] 27)).alloc (.cells #[.int .i64 0] 25)).alloc (.cells #[.slice A n c] 72)).heap.size := bb.lt
  have CN := Lib.hid (note_any (w.heap.size + 1 + 1) w.heap.size l (((w.alloc (.cells #[.int .i64 0, .int .i64 0, .string ⟨#[]⟩, .int .i64 0, .int .i64 0, .int .i64 0, .slice none 0 0, .slice none 0 0, .int .i64 0, .int .i64 0] 27)).alloc (.cells #[.int .i64 0] 25)).alloc (.cells #[.slice A n c] 72)) hRd (by omega) hzs (by omega))
  rw [hno] at CN
  clear hRd bb ha hAlt hzs hno
  go_enter_defers Try.func16, Try.ntmps16
  go_upto_region 3 with fail
  generalize ((w.alloc (.cells #[.int .i64 0, .int .i64 0, .string ⟨#[]⟩, .int .i64 0, .int .i64 0, .int .i64 0, .slice none 0 0, .slice none 0 0, .int .i64 0, .int .i64 0] 27)).alloc (.cells #[.int .i64 0] 25)).alloc (.cells #[.slice A n c] 72) = W at *
  go_wp2_with fail
  refine CN.out.mono ?_
  rintro e w1 ⟨rfl, hT⟩
  replace br := br.turned hT (by omega)
  replace be := be.turned hT (by omega)
  have hB1 : Below w.heap.size w w1 := hB.trans (hT.below (fun k hk => by omega) hB.size)
  clear CN hT hB
  go_wp2_with fail
  refine leaves_cons (f := 45) (args := #[.pointer (some ⟨w.heap.size, 0, none⟩), .pointer (some ⟨w.heap.size + 1, 0, none⟩)]) (by simp) (by simp [go_sem]) ?_
  refine (catch_panics w.heap.size (w.heap.size + 1) _ 0 w1 br rfl be (by omega)).mono ?_
  rintro e u' w'' ⟨rfl, rfl, rfl⟩
  have br2 := ((br.alloc (.cells #[] 71)).row #[.int .i64 0, .int .i64 0, .string ⟨#[]⟩, .int .i64 0, .int .i64 0, .int .i64 0, .slice none 0 0, .slice none 0 0, .int .i64 0, .int .i64 0]).far (p := ⟨w.heap.size + 1, 0, none⟩) (by show w.heap.size ≠ w.heap.size + 1; omega) (.int .i64 8)
  have be2 := ((be.alloc (.cells #[] 71)).farRow (g := w.heap.size) (by omega) #[.int .i64 0, .int .i64 0, .string ⟨#[]⟩, .int .i64 0, .int .i64 0, .int .i64 0, .slice none 0 0, .slice none 0 0, .int .i64 0, .int .i64 0]).set_ 0 (.int .i64 8)
  refine (show ∃ v, (results Try.f16 _).run Try.prog _ = .ok v _ ∧ DecRes w _ (decQ l) (.returned v) from ⟨_, results_dec _ _ w.heap.size (w.heap.size + 1) #[.int .i64 0, .int .i64 0, .string ⟨#[]⟩, .int .i64 0, .int .i64 0, .int .i64 0, .slice none 0 0, .slice none 0 0, .int .i64 0, .int .i64 0] (0, 0) 8 rfl rfl br2 rfl (be2.cell' (i := 0) rfl), ?_⟩)
  rw [HQ.out]
  exact ⟨none, 0, none, 0, rfl, Own.none_ _ _ _ _, Own.none_ _ _ _ _, (below_row (hB1.alloc hB1.size _) (Nat.le_refl _) _).setCell (p := ⟨w.heap.size + 1, 0, none⟩) (by show w.heap.size ≤ w.heap.size + 1; omega) _⟩
set_option maxHeartbeats 6400000 in
set_option maxRecDepth 100000 in
theorem decode_yes (A : Option Addr) (l : List UInt8) (n c : Nat) (w : World) (hl : l.length = n) (ha : Rd w A (bvs l)) (hAlt : ∀ q, blk A = some q → q < w.heap.size) (hc : n ≤ c) (hz : c ≤ 9223372036854775807) (hn : n ≤ 140737488351300) (nt : Nt) (r : List UInt8) (hno : noteR l = some (nt, r)) :
    Calls Try.prog 16 #[.slice A n c] w fun e w' => DecRes w w' (decQ l) e := by
  have hmf : ∀ (fn : Fn) (first cap : Array Value) (w : World), (Instr.makeFunc fn first cap).run Try.prog w = .ok (.func fn first cap) w := fun _ _ _ _ => rfl
  have HNO := Lib.hid hno
  have br := ((Blk.new w 27 #[.int .i64 0, .int .i64 0, .string ⟨#[]⟩, .int .i64 0, .int .i64 0, .int .i64 0, .slice none 0 0, .slice none 0 0, .int .i64 0, .int .i64 0]).alloc (.cells #[.int .i64 0] 25)).alloc (.cells #[.slice A n c] 72)
  have be := (Blk.new (w.alloc (.cells #[.int .i64 0, .int .i64 0, .string ⟨#[]⟩, .int .i64 0, .int .i64 0, .int .i64 0, .slice none 0 0, .slice none 0 0, .int .i64 0, .int .i64 0] 27)) 25 #[.int .i64 0]).alloc (.cells #[.slice A n c] 72)
  have bb := Blk.new ((w.alloc (.cells #[.int .i64 0, .int .i64 0, .string ⟨#[]⟩, .int .i64 0, .int .i64 0, .int .i64 0, .slice none 0 0, .slice none 0 0, .int .i64 0, .int .i64 0] 27)).alloc (.cells #[.int .i64 0] 25)) 72 #[.slice A n c]
  rw [show (w.alloc (.cells #[.int .i64 0, .int .i64 0, .string ⟨#[]⟩, .int .i64 0, .int .i64 0, .int .i64 0, .slice none 0 0, .slice none 0 0, .int .i64 0, .int .i64 0] 27)).heap.size = w.heap.size + 1 by simp] at be
  rw [show ((w.alloc (.cells #[.int .i64 0, .int .i64 0, .string ⟨#[]⟩, .int .i64 0, .int .i64 0, .int .i64 0, .slice none 0 0, .slice none 0 0, .int .i64 0, .int .i64 0] 27)).alloc (.cells #[.int .i64 0] 25)).heap.size = w.heap.size + 1 + 1 by simp] at bb
  have hB : Below w.heap.size w (((w.alloc (.cells #[.int .i64 0, .int .i64 0, .string ⟨#[]⟩, .int .i64 0, .int .i64 0, .int .i64 0, .slice none 0 0, .slice none 0 0, .int .i64 0, .int .i64 0] 27)).alloc (.cells #[.int .i64 0] 25)).alloc (.cells #[.slice A n c] 72)) := (((Below.refl _ _).alloc (Nat.le_refl _) _).alloc (by simp) _).alloc (by simp; omega) _
  have hRd : RdrAt (((w.alloc (.cells #[.int .i64 0, .int .i64 0, .string ⟨#[]⟩, .int .i64 0, .int .i64 0, .int .i64 0, .slice none 0 0, .slice none 0 0, .int .i64 0, .int .i64 0] 27)).alloc (.cells #[.int .i64 0] 25)).alloc (.cells #[.slice A n c] 72)) (w.heap.size + 1 + 1) w.heap.size l := ⟨A, c, by rw [hl]; exact bb, ha.below hB, by omega, hz, hAlt⟩
  have hzs : w.heap.size + 1 + 1 < (((w.alloc (.cells #[.int .i64 0, .int .i64 0, .string ⟨#[]⟩, .int .i64 0, .int .i64 0, .int .i64 0, .slice none 0 0, .slice none 0 0, .int .i64 0, .int .i64 0] 27)).alloc (.cells #[.int .i64 0] 25)).alloc (.cells #[.slice A n c] 72)).heap.size := bb.lt
  have CN := Lib.hid (note_any (w.heap.size + 1 + 1) w.heap.size l (((w.alloc (.cells #[.int .i64 0, .int .i64 0, .string ⟨#[]⟩, .int .i64 0, .int .i64 0, .int .i64 0, .slice none 0 0, .slice none 0 0, .int .i64 0, .int .i64 0] 27)).alloc (.cells #[.int .i64 0] 25)).alloc (.cells #[.slice A n c] 72)) hRd (by omega) hzs (by omega))
  rw [hno] at CN
  clear hRd bb ha hAlt hno
  go_enter_defers Try.func16, Try.ntmps16
  go_upto_region 3 with fail
  generalize ((w.alloc (.cells #[.int .i64 0, .int .i64 0, .string ⟨#[]⟩, .int .i64 0, .int .i64 0, .int .i64 0, .slice none 0 0, .slice none 0 0, .int .i64 0, .int .i64 0] 27)).alloc (.cells #[.int .i64 0] 25)).alloc (.cells #[.slice A n c] 72) = W at *
  go_wp2_with fail
  refine CN.out.mono ?_
  intro e w1 hnp
  obtain ⟨D, dc, G, gc, rfl, hD, hG, hA1, hT⟩ := hnp
  replace br := br.turned hT (by omega)
  replace be := be.turned hT (by omega)
  have hB1 : Below w.heap.size w w1 := hB.trans (hT.below (fun k hk => by omega) hB.size)
  obtain ⟨nk, nid, nn, ns_, nsum, nat_, nd, ng, nof, ncode⟩ := nt
  unfold ntv
  dsimp only at hD hG ⊢
  clear CN hT hB
  go_upto_region 4 with (refine wpList_store_row rfl 27 (.tmp 2) (.tmp 7) rfl w.heap.size #[.int .i64 nk, .int .i64 nid, .string nn, .int .i64 ns_, .int .i64 nsum, .int .i64 nat_, .slice D nd.length dc, .slice G ng.length gc, .int .i64 nof, .int .i64 ncode] rfl rfl 27 _ br notesz rfl (by simp [Value.oneCell']) ?_)
  have zb : w.heap.size < W.heap.size := by omega
  have br2 := br.row #[.int .i64 nk, .int .i64 nid, .string nn, .int .i64 ns_, .int .i64 nsum, .int .i64 nat_, .slice D nd.length dc, .slice G ng.length gc, .int .i64 nof, .int .i64 ncode]
  have be2 := be.farRow (g := w.heap.size) (by omega) #[.int .i64 nk, .int .i64 nid, .string nn, .int .i64 ns_, .int .i64 nsum, .int .i64 nat_, .slice D nd.length dc, .slice G ng.length gc, .int .i64 nof, .int .i64 ncode]
  have hD2 := hD.rowFar (r := w.heap.size) zb #[.int .i64 nk, .int .i64 nid, .string nn, .int .i64 ns_, .int .i64 nsum, .int .i64 nat_, .slice D nd.length dc, .slice G ng.length gc, .int .i64 nof, .int .i64 ncode]
  have hG2 := hG.rowFar (r := w.heap.size) zb #[.int .i64 nk, .int .i64 nid, .string nn, .int .i64 ns_, .int .i64 nsum, .int .i64 nat_, .slice D nd.length dc, .slice G ng.length gc, .int .i64 nof, .int .i64 ncode]
  have hA2 : RdrAt (w1.setRow w.heap.size #[.int .i64 nk, .int .i64 nid, .string nn, .int .i64 ns_, .int .i64 nsum, .int .i64 nat_, .slice D nd.length dc, .slice G ng.length gc, .int .i64 nof, .int .i64 ncode]) (w.heap.size + 1 + 1) w.heap.size r := hA1.turned (grownBy_turned (grown_row w1 w.heap.size #[.int .i64 nk, .int .i64 nid, .string nn, .int .i64 ns_, .int .i64 nsum, .int .i64 nat_, .slice D nd.length dc, .slice G ng.length gc, .int .i64 nof, .int .i64 ncode])) (fun e => by have := Option.some.inj e; omega) (fun k hk e => by have := Option.some.inj e; omega)
  have hB2 := below_row hB1 (Nat.le_refl _) #[.int .i64 nk, .int .i64 nid, .string nn, .int .i64 ns_, .int .i64 nsum, .int .i64 nat_, .slice D nd.length dc, .slice G ng.length gc, .int .i64 nof, .int .i64 ncode]
  clear br be hD hG hA1 hB1
  generalize w1.setRow w.heap.size #[.int .i64 nk, .int .i64 nid, .string nn, .int .i64 ns_, .int .i64 nsum, .int .i64 nat_, .slice D nd.length dc, .slice G ng.length gc, .int .i64 nof, .int .i64 ncode] = W2 at *
  have CM := Lib.hid (may_any (⟨nk, nid, nn, ns_, nsum, nat_, nd, ng, nof, ncode⟩ : Nt) D nd.length dc G ng.length gc W2 rfl rfl hG2.rd)
  unfold ntv at CM
  dsimp only at CM
  obtain ⟨A9, c9, r1, r2, r3, r4, r5⟩ := hA2
  have d0 : W2.cell? ⟨w.heap.size + 1 + 1, 0, none⟩ = some (.slice A9 r.length c9) := r1.cell' (i := 0) rfl
  by_cases hr0 : r = []
  rotate_left
  ·
    have hrl : 0 < r.length := List.length_pos_iff.2 hr0
    have hrli : (0 : Int) < (r.length : Int) := by omega
    have HQ := Lib.hid (decQ_left HNO.out hr0)
    clear hr0 r1 r2 r5
    go_upto_region 5 with fail
    clear d0
    have kf := be2.frozen
    have y0 := be2.cell' (i := 0) rfl
    have br3 := (br2.row #[.int .i64 0, .int .i64 0, .string ⟨#[]⟩, .int .i64 0, .int .i64 0, .int .i64 0, .slice none 0 0, .slice none 0 0, .int .i64 0, .int .i64 0]).far (p := ⟨w.heap.size + 1, 0, none⟩) (by show w.heap.size ≠ w.heap.size + 1; omega) (.int .i64 8)
    have be3 := be2.farRow (g := w.heap.size) (by omega) #[.int .i64 0, .int .i64 0, .string ⟨#[]⟩, .int .i64 0, .int .i64 0, .int .i64 0, .slice none 0 0, .slice none 0 0, .int .i64 0, .int .i64 0]
    have be4 := be3.set_ 0 (.int .i64 8)
    have kf3 := be3.frozen
    have y3 := be3.cell' (i := 0) rfl
    go_wp2_with (refine wpList_store_row rfl 27 (.tmp 2) (.tmp 16) rfl w.heap.size #[.int .i64 0, .int .i64 0, .string ⟨#[]⟩, .int .i64 0, .int .i64 0, .int .i64 0, .slice none 0 0, .slice none 0 0, .int .i64 0, .int .i64 0] rfl rfl 27 _ br2 notesz rfl (by simp [Value.oneCell']) ?_)
    refine leaves_cons (f := 45) (args := #[.pointer (some ⟨w.heap.size, 0, none⟩), .pointer (some ⟨w.heap.size + 1, 0, none⟩)]) (by simp) (by simp [go_sem]) ?_
    refine (catch_idle ⟨w.heap.size, 0, none⟩ ⟨w.heap.size + 1, 0, none⟩ _).mono ?_
    rintro e u' w'' ⟨rfl, rfl, rfl⟩
    refine (show ∃ v, (results Try.f16 _).run Try.prog _ = .ok v _ ∧ DecRes w _ (decQ l) (.returned v) from ⟨_, results_dec _ _ w.heap.size (w.heap.size + 1) #[.int .i64 0, .int .i64 0, .string ⟨#[]⟩, .int .i64 0, .int .i64 0, .int .i64 0, .slice none 0 0, .slice none 0 0, .int .i64 0, .int .i64 0] (0, 0) 8 rfl rfl br3 rfl (be4.cell' (i := 0) rfl), ?_⟩)
    rw [HQ.out]
    exact ⟨none, 0, none, 0, rfl, Own.none_ _ _ _ _, Own.none_ _ _ _ _, (below_row hB2 (Nat.le_refl _) _).setCell (p := ⟨w.heap.size + 1, 0, none⟩) (by show w.heap.size ≤ w.heap.size + 1; omega) _⟩
  subst hr0
  have d00 : W2.cell? ⟨w.heap.size + 1 + 1, 0, none⟩ = some (.slice A9 0 c9) := d0
  obtain ⟨ok, hok⟩ : ∃ ok, noteOk (⟨nk, nid, nn, ns_, nsum, nat_, nd, ng, nof, ncode⟩ : Nt) = ok := ⟨_, rfl⟩
  rw [hok] at CM
  have HOK := Lib.hid hok
  clear d0 hok r1 r2 r5
  have x0 := br2.cell' (i := 0) rfl
  have x1 := br2.cell' (i := 1) rfl
  have x2 := br2.cell' (i := 2) rfl
  have x3 := br2.cell' (i := 3) rfl
  have x4 := br2.cell' (i := 4) rfl
  have x5 := br2.cell' (i := 5) rfl
  have x6 := br2.cell' (i := 6) rfl
  have x7 := br2.cell' (i := 7) rfl
  have x8 := br2.cell' (i := 8) rfl
  have x9 := br2.cell' (i := 9) rfl
  go_wp2_with fail
  refine CM.out.mono ?_
  rintro e w3 ⟨rfl, hb⟩
  replace br2 := br2.step hb
  replace be2 := be2.step hb
  replace hD2 := hD2.step hb
  replace hG2 := hG2.step hb
  replace hB2 := hB2.trans (hb.mono hB2.size)
  clear hb CM d00 x0 x1 x2 x3 x4 x5 x6 x7 x8 x9 W2
  cases ok
  ·
    have HQ := Lib.hid (decQ_bad HNO.out HOK.out)
    go_upto_region 5 with fail
    have kf := be2.frozen
    have y0 := be2.cell' (i := 0) rfl
    have br3 := (br2.row #[.int .i64 0, .int .i64 0, .string ⟨#[]⟩, .int .i64 0, .int .i64 0, .int .i64 0, .slice none 0 0, .slice none 0 0, .int .i64 0, .int .i64 0]).far (p := ⟨w.heap.size + 1, 0, none⟩) (by show w.heap.size ≠ w.heap.size + 1; omega) (.int .i64 8)
    have be3 := be2.farRow (g := w.heap.size) (by omega) #[.int .i64 0, .int .i64 0, .string ⟨#[]⟩, .int .i64 0, .int .i64 0, .int .i64 0, .slice none 0 0, .slice none 0 0, .int .i64 0, .int .i64 0]
    have be4 := be3.set_ 0 (.int .i64 8)
    have kf3 := be3.frozen
    have y3 := be3.cell' (i := 0) rfl
    go_wp2_with (refine wpList_store_row rfl 27 (.tmp 2) (.tmp 16) rfl w.heap.size #[.int .i64 0, .int .i64 0, .string ⟨#[]⟩, .int .i64 0, .int .i64 0, .int .i64 0, .slice none 0 0, .slice none 0 0, .int .i64 0, .int .i64 0] rfl rfl 27 _ br2 notesz rfl (by simp [Value.oneCell']) ?_)
    refine leaves_cons (f := 45) (args := #[.pointer (some ⟨w.heap.size, 0, none⟩), .pointer (some ⟨w.heap.size + 1, 0, none⟩)]) (by simp) (by simp [go_sem]) ?_
    refine (catch_idle ⟨w.heap.size, 0, none⟩ ⟨w.heap.size + 1, 0, none⟩ _).mono ?_
    rintro e u' w'' ⟨rfl, rfl, rfl⟩
    refine (show ∃ v, (results Try.f16 _).run Try.prog _ = .ok v _ ∧ DecRes w _ (decQ l) (.returned v) from ⟨_, results_dec _ _ w.heap.size (w.heap.size + 1) #[.int .i64 0, .int .i64 0, .string ⟨#[]⟩, .int .i64 0, .int .i64 0, .int .i64 0, .slice none 0 0, .slice none 0 0, .int .i64 0, .int .i64 0] (0, 0) 8 rfl rfl br3 rfl (be4.cell' (i := 0) rfl), ?_⟩)
    rw [HQ.out]
    exact ⟨none, 0, none, 0, rfl, Own.none_ _ _ _ _, Own.none_ _ _ _ _, (below_row hB2 (Nat.le_refl _) _).setCell (p := ⟨w.heap.size + 1, 0, none⟩) (by show w.heap.size ≤ w.heap.size + 1; omega) _⟩
  ·
    have HQ := Lib.hid (decQ_good HNO.out HOK.out)
    have kf := be2.frozen
    have y0 := be2.cell' (i := 0) rfl
    have br3 := (br2.row #[.int .i64 nk, .int .i64 nid, .string nn, .int .i64 ns_, .int .i64 nsum, .int .i64 nat_, .slice D nd.length dc, .slice G ng.length gc, .int .i64 nof, .int .i64 ncode]).far (p := ⟨w.heap.size + 1, 0, none⟩) (by show w.heap.size ≠ w.heap.size + 1; omega) (.int .i64 0)
    have be3 := be2.farRow (g := w.heap.size) (by omega) #[.int .i64 nk, .int .i64 nid, .string nn, .int .i64 ns_, .int .i64 nsum, .int .i64 nat_, .slice D nd.length dc, .slice G ng.length gc, .int .i64 nof, .int .i64 ncode]
    have be4 := be3.set_ 0 (.int .i64 0)
    have kf3 := be3.frozen
    have y3 := be3.cell' (i := 0) rfl
    go_wp2_with (first
      | (refine wpList_load_row rfl 27 (.tmp 2) rfl w.heap.size rfl 27 #[.int .i64 nk, .int .i64 nid, .string nn, .int .i64 ns_, .int .i64 nsum, .int .i64 nat_, .slice D nd.length dc, .slice G ng.length gc, .int .i64 nof, .int .i64 ncode] (0, 0) _ br2 Try.underlying27 rfl notesz ?_)
      | (refine wpList_store_row rfl 27 (.tmp 2) (.tmp 17) rfl w.heap.size #[.int .i64 nk, .int .i64 nid, .string nn, .int .i64 ns_, .int .i64 nsum, .int .i64 nat_, .slice D nd.length dc, .slice G ng.length gc, .int .i64 nof, .int .i64 ncode] rfl rfl 27 _ br2 notesz rfl (by simp [Value.oneCell']) ?_))
    refine leaves_cons (f := 45) (args := #[.pointer (some ⟨w.heap.size, 0, none⟩), .pointer (some ⟨w.heap.size + 1, 0, none⟩)]) (by simp) (by simp [go_sem]) ?_
    refine (catch_idle ⟨w.heap.size, 0, none⟩ ⟨w.heap.size + 1, 0, none⟩ _).mono ?_
    rintro e u' w'' ⟨rfl, rfl, rfl⟩
    refine (show ∃ v, (results Try.f16 _).run Try.prog _ = .ok v _ ∧ DecRes w _ (decQ l) (.returned v) from ⟨_, results_dec _ _ w.heap.size (w.heap.size + 1) #[.int .i64 nk, .int .i64 nid, .string nn, .int .i64 ns_, .int .i64 nsum, .int .i64 nat_, .slice D nd.length dc, .slice G ng.length gc, .int .i64 nof, .int .i64 ncode] (0, 0) 0 rfl rfl br3 rfl (be4.cell' (i := 0) rfl), ?_⟩)
    rw [HQ.out]
    have hD3 := (hD2.rowFar (r := w.heap.size) zb #[.int .i64 nk, .int .i64 nid, .string nn, .int .i64 ns_, .int .i64 nsum, .int .i64 nat_, .slice D nd.length dc, .slice G ng.length gc, .int .i64 nof, .int .i64 ncode])
    have hG3 := (hG2.rowFar (r := w.heap.size) zb #[.int .i64 nk, .int .i64 nid, .string nn, .int .i64 ns_, .int .i64 nsum, .int .i64 nat_, .slice D nd.length dc, .slice G ng.length gc, .int .i64 nof, .int .i64 ncode])
    exact ⟨D, dc, G, gc, rfl, (hD3.setFar (p := ⟨w.heap.size + 1, 0, none⟩) (hD3.notBlk be3 (by decide)) _).mono (by omega), (hG3.setFar (p := ⟨w.heap.size + 1, 0, none⟩) (hG3.notBlk be3 (by decide)) _).mono (by omega), (below_row hB2 (Nat.le_refl _) _).setCell (p := ⟨w.heap.size + 1, 0, none⟩) (by show w.heap.size ≤ w.heap.size + 1; omega) _⟩
theorem decode_any (A : Option Addr) (l : List UInt8) (n c : Nat) (w : World) (hl : l.length = n) (ha : Rd w A (bvs l)) (hAlt : ∀ q, blk A = some q → q < w.heap.size) (hc : n ≤ c) (hz : c ≤ 9223372036854775807) (hn : n ≤ 140737488351300) :
    Calls Try.prog 16 #[.slice A n c] w fun e w' => DecRes w w' (decR l) e := by
  rw [← decQ_eq l]
  cases h : noteR l with
  | none => exact decode_no A l n c w hl ha hAlt hc hz hn h
  | some x => obtain ⟨nt, r⟩ := x; exact decode_yes A l n c w hl ha hAlt hc hz hn nt r h
end Go.Proofs.Ytianombjgdmbeaa
