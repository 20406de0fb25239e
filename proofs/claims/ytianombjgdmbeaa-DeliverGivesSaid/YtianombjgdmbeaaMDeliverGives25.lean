/-
  One who gives a file, and one who takes it, at first: by the document and by the program.
-/
import Derived.Test.YtianombjgdmbeaaMDeliverGives3
import Derived.WalkSpells
import Derived.Test.YtianombjgdmbeaaMDeliverGives2
namespace Go.Proofs.Ytianombjgdmbeaa
set_option linter.unusedSimpArgs false
set_option linter.unusedVariables false
open Go.RowKit

set_option maxHeartbeats 1600000 in
set_option maxRecDepth 100000 in
/-- slices.Clone of bytes: memory of its own. -/
theorem clone_any (A : Option Addr) (l : List UInt8) (c : Nat) (w : World) (ha : Rd w A (bvs l)) (hn : l.length ≤ 140737488351300) :
    Calls Try.prog 52 #[.slice A l.length c] w fun e w' => ∃ A' c', e = .returned (.slice A' l.length c') ∧ Own w' w.heap.size 5 1 A' l.length c' (bvs l) ∧ Below w.heap.size w w' := by
  obtain ⟨i0, hi0, hz0, hz1, hz2⟩ := info_parts u8info
  have q2 : 0 + l.length ≤ maxLen := by unfold maxLen; omega
  have q3 : (0 + l.length) * 1 ≤ 140737488355328 := by omega
  have q1 : Hid ((bvs l).length = l.length * 1) := by show _ = _; simp [bvs]
  have hE := fun (W : World) (a : Option Addr) (n c : Nat) => Lib.run_eql_slice_nil (P := Try.prog) W 23 5 a n c 0 0 Try.underlying23
  rcases A with _ | a
  · have hl : l = [] := by
      rcases l with _ | ⟨x, l⟩
      · rfl
      · obtain ⟨b, off, e, _⟩ := ha.byte (k := 0) (by simp)
        cases e
    subst hl
    clear q1 q2 q3
    go_enter Try.func52, Try.ntmps52
    go_wp2
    go_ret
    exact ⟨none, 0, rfl, Own.none_ _ _ _ _, Below.refl _ _⟩
  · have hO : Own (w.alloc (.cells #[] 5)) w.heap.size 5 1 (some ⟨w.heap.size, 0, none⟩) 0 0 [] := Own.of_block (heap_alloc_new w _) (Nat.le_refl _) rfl (Nat.le_refl _) (Nat.zero_le _) (by simp) (fun i u h => by simp at h)
    have hR2 := ha.alloc (.cells #[] 5)
    have q4 : w.heap.size ≤ (w.alloc (.cells #[] 5)).heap.size := by simp
    go_enter Try.func52, Try.ntmps52
    go_wp2_with (at_builtin; refine wpList_append_Own _ rfl (.tmp 5) (.tmp 6) 23 rfl w.heap.size 5 i0 _ 1 1 Try.underlying23 hi0 hz0 hz1 hz2 rfl _ 0 0 [] rfl hO (some a) l.length c (bvs l) rfl q1.out hR2 (bvs_one _) q2 q3 q4 ?_; intro A' c' w1 hO1 hg1 hor)
    go_ret
    rw [Nat.zero_add, List.nil_append] at hO1
    refine ⟨A', c', rfl, hO1, ?_⟩
    exact ((Below.refl _ _).alloc (Nat.le_refl _) _).grown hg1 (by simp) (fun k hk => by simp [blk] at hk; omega)
theorem clone_n (A : Option Addr) (l : List UInt8) (n c : Nat) (w : World) (hl : l.length = n) (ha : Rd w A (bvs l)) (hn : n ≤ 140737488351300) :
    Calls Try.prog 52 #[.slice A n c] w fun e w' => ∃ A' c', e = .returned (.slice A' n c') ∧ Own w' w.heap.size 5 1 A' n c' (bvs l) ∧ Below w.heap.size w w' := by
  subst hl
  exact clone_any A l c w ha hn
end Go.Proofs.Ytianombjgdmbeaa
namespace Go.Proofs.Ytianombjgdmbeaa
set_option linter.unusedSimpArgs false
set_option linter.unusedVariables false
open Go.RowKit

theorem ri_yes (n l m : Int) (w : World) (h0 : l ≤ n) (h1 : n ≤ m) :
    Calls Try.prog 79 #[.int .i64 n, .int .i64 l, .int .i64 m] w fun e w' => e = .returned (.bool true) ∧ w = w' := by
  go_enter Try.func79, Try.ntmps79
  go_wp2
  go_ret
  exact ⟨rfl, rfl⟩
theorem ri_no (n l m : Int) (w : World) (h : ¬ (l ≤ n ∧ n ≤ m)) :
    Calls Try.prog 79 #[.int .i64 n, .int .i64 l, .int .i64 m] w fun e w' => e = .returned (.bool false) ∧ w = w' := by
  by_cases h0 : l ≤ n
  · have h1 : m < n := by omega
    go_enter Try.func79, Try.ntmps79
    go_wp2
    go_ret
    exact ⟨ret_bool (by simp; omega), rfl⟩
  · have h1 : n < l := by omega
    go_enter Try.func79, Try.ntmps79
    go_wp2
    go_ret
    exact ⟨rfl, rfl⟩
theorem di_yes (n l m : Int) (w : World) (h0 : l ≤ n) (h1 : n ≤ m) :
    Calls Try.prog 81 #[.int .i64 n, .int .i64 l, .int .i64 m] w fun e w' => e = .returned (.bool true) ∧ w = w' := by
  go_enter Try.func81, Try.ntmps81
  go_wp2
  go_ret
  exact ⟨rfl, rfl⟩
theorem di_no (n l m : Int) (w : World) (h : ¬ (l ≤ n ∧ n ≤ m)) :
    Calls Try.prog 81 #[.int .i64 n, .int .i64 l, .int .i64 m] w fun e w' => e = .returned (.bool false) ∧ w = w' := by
  by_cases h0 : l ≤ n
  · have h1 : m < n := by omega
    go_enter Try.func81, Try.ntmps81
    go_wp2
    go_ret
    exact ⟨ret_bool (by simp; omega), rfl⟩
  · have h1 : n < l := by omega
    go_enter Try.func81, Try.ntmps81
    go_wp2
    go_ret
    exact ⟨rfl, rfl⟩

def offOk (id mo bu pa li : Int) : Prop := (0 ≤ id ∧ id ≤ 65535) ∧ (1 ≤ mo ∧ mo ≤ 1024) ∧ (1 ≤ bu ∧ bu ≤ 50) ∧ (1 ≤ pa ∧ pa ≤ 1000) ∧ (1 ≤ li ∧ li ≤ 100)
def expOk (id pa li : Int) : Prop := (0 ≤ id ∧ id ≤ 65535) ∧ (1 ≤ pa ∧ pa ≤ 1000) ∧ (1 ≤ li ∧ li ≤ 100)
/-- What comes of an offer: the file in memory of its own. -/
def GivRes (w w' : World) (id : Int) (s : ByteArray) (l : List UInt8) (mo bu : Int) (fi : Bool) (pa li k : Int) (e : Ending) : Prop :=
  ∃ A c, e = .returned (.tuple #[.agg #[.int .i64 id, .string s, .slice A l.length c, .int .i64 mo, .int .i64 bu, .int .i64 0, .bool fi, .int .i64 0, .slice none 0 0, .int .i64 0, .int .i64 pa, .int .i64 0, .int .i64 li], .int .i64 k]) ∧ Own w' w.heap.size 5 1 A l.length c (bvs l) ∧ Below w.heap.size w w'
theorem GivRes.zero {w w' : World} {k : Int} (h : Below w.heap.size w w') : GivRes w w' 0 ⟨#[]⟩ [] 0 0 false 0 0 k (.returned (.tuple #[.agg #[.int .i64 0, .string ⟨#[]⟩, .slice none 0 0, .int .i64 0, .int .i64 0, .int .i64 0, .bool false, .int .i64 0, .slice none 0 0, .int .i64 0, .int .i64 0, .int .i64 0, .int .i64 0], .int .i64 k])) := ⟨none, 0, rfl, Own.none_ _ _ _ _, h⟩

set_option maxHeartbeats 1600000 in
set_option maxRecDepth 100000 in
theorem offered_no (id : Int) (s : ByteArray) (A : Option Addr) (n c : Nat) (mo bu pa li : Int) (w : World) (h : ¬ offOk id mo bu pa li) :
    Calls Try.prog 98 #[.int .i64 id, .string s, .slice A n c, .int .i64 mo, .int .i64 bu, .int .i64 pa, .int .i64 li] w fun e w' => GivRes w w' 0 ⟨#[]⟩ [] 0 0 false 0 0 2 e := by
  have H := Lib.hid h
  clear h
  go_enter Try.func98, Try.ntmps98
  go_wp2_with fail
  by_cases gid : 0 ≤ id ∧ id ≤ 65535
  rotate_left
  · refine (ri_no id 0 65535 _ gid).mono ?_
    rintro e w' ⟨rfl, rfl⟩
    go_wp2
    refine bodyPost_ret (v := .tuple #[.agg #[.int .i64 0, .string ⟨#[]⟩, .slice none 0 0, .int .i64 0, .int .i64 0, .int .i64 0, .bool false, .int .i64 0, .slice none 0 0, .int .i64 0, .int .i64 0, .int .i64 0, .int .i64 0], .int .i64 2]) (by simp [results, Try.results98, go_sem]) rfl ?_
    exact GivRes.zero (by repeat (first | with_reducible exact Below.refl _ _ | with_reducible assumption | with_reducible refine below_drewN ?_ _ | with_reducible refine Below.drew ?_ | with_reducible refine Below.alloc ?_ ?_ _ | with_reducible refine Below.setCell ?_ ?_ _ | with_reducible exact Nat.le_refl _ | (simp; omega) | (simp; done)))
  refine (ri_yes id 0 65535 _ gid.1 gid.2).mono ?_
  rintro e w' ⟨rfl, rfl⟩
  go_wp2_with fail
  by_cases gmo : 1 ≤ mo ∧ mo ≤ 1024
  rotate_left
  · refine (ri_no mo 1 1024 _ gmo).mono ?_
    rintro e w' ⟨rfl, rfl⟩
    go_wp2
    refine bodyPost_ret (v := .tuple #[.agg #[.int .i64 0, .string ⟨#[]⟩, .slice none 0 0, .int .i64 0, .int .i64 0, .int .i64 0, .bool false, .int .i64 0, .slice none 0 0, .int .i64 0, .int .i64 0, .int .i64 0, .int .i64 0], .int .i64 2]) (by simp [results, Try.results98, go_sem]) rfl ?_
    exact GivRes.zero (by repeat (first | with_reducible exact Below.refl _ _ | with_reducible assumption | with_reducible refine below_drewN ?_ _ | with_reducible refine Below.drew ?_ | with_reducible refine Below.alloc ?_ ?_ _ | with_reducible refine Below.setCell ?_ ?_ _ | with_reducible exact Nat.le_refl _ | (simp; omega) | (simp; done)))
  refine (ri_yes mo 1 1024 _ gmo.1 gmo.2).mono ?_
  rintro e w' ⟨rfl, rfl⟩
  go_wp2_with fail
  by_cases gbu : 1 ≤ bu ∧ bu ≤ 50
  rotate_left
  · refine (ri_no bu 1 50 _ gbu).mono ?_
    rintro e w' ⟨rfl, rfl⟩
    go_wp2
    refine bodyPost_ret (v := .tuple #[.agg #[.int .i64 0, .string ⟨#[]⟩, .slice none 0 0, .int .i64 0, .int .i64 0, .int .i64 0, .bool false, .int .i64 0, .slice none 0 0, .int .i64 0, .int .i64 0, .int .i64 0, .int .i64 0], .int .i64 2]) (by simp [results, Try.results98, go_sem]) rfl ?_
    exact GivRes.zero (by repeat (first | with_reducible exact Below.refl _ _ | with_reducible assumption | with_reducible refine below_drewN ?_ _ | with_reducible refine Below.drew ?_ | with_reducible refine Below.alloc ?_ ?_ _ | with_reducible refine Below.setCell ?_ ?_ _ | with_reducible exact Nat.le_refl _ | (simp; omega) | (simp; done)))
  refine (ri_yes bu 1 50 _ gbu.1 gbu.2).mono ?_
  rintro e w' ⟨rfl, rfl⟩
  go_wp2_with fail
  by_cases gpa : 1 ≤ pa ∧ pa ≤ 1000
  rotate_left
  · refine (ri_no pa 1 1000 _ gpa).mono ?_
    rintro e w' ⟨rfl, rfl⟩
    go_wp2
    refine bodyPost_ret (v := .tuple #[.agg #[.int .i64 0, .string ⟨#[]⟩, .slice none 0 0, .int .i64 0, .int .i64 0, .int .i64 0, .bool false, .int .i64 0, .slice none 0 0, .int .i64 0, .int .i64 0, .int .i64 0, .int .i64 0], .int .i64 2]) (by simp [results, Try.results98, go_sem]) rfl ?_
    exact GivRes.zero (by repeat (first | with_reducible exact Below.refl _ _ | with_reducible assumption | with_reducible refine below_drewN ?_ _ | with_reducible refine Below.drew ?_ | with_reducible refine Below.alloc ?_ ?_ _ | with_reducible refine Below.setCell ?_ ?_ _ | with_reducible exact Nat.le_refl _ | (simp; omega) | (simp; done)))
  refine (ri_yes pa 1 1000 _ gpa.1 gpa.2).mono ?_
  rintro e w' ⟨rfl, rfl⟩
  go_wp2_with fail
  refine (ri_no li 1 100 _ (fun h => H.out ⟨gid, gmo, gbu, gpa, h⟩)).mono ?_
  rintro e w' ⟨rfl, rfl⟩
  go_wp2
  refine bodyPost_ret (v := .tuple #[.agg #[.int .i64 0, .string ⟨#[]⟩, .slice none 0 0, .int .i64 0, .int .i64 0, .int .i64 0, .bool false, .int .i64 0, .slice none 0 0, .int .i64 0, .int .i64 0, .int .i64 0, .int .i64 0], .int .i64 2]) (by simp [results, Try.results98, go_sem]) rfl ?_
  exact GivRes.zero (by repeat (first | with_reducible exact Below.refl _ _ | with_reducible assumption | with_reducible refine below_drewN ?_ _ | with_reducible refine Below.drew ?_ | with_reducible refine Below.alloc ?_ ?_ _ | with_reducible refine Below.setCell ?_ ?_ _ | with_reducible exact Nat.le_refl _ | (simp; omega) | (simp; done)))

set_option maxHeartbeats 1600000 in
set_option maxRecDepth 100000 in
theorem offered_name (id : Int) (s : ByteArray) (A : Option Addr) (n c : Nat) (mo bu pa li : Int) (w : World) (h : offOk id mo bu pa li) (hs : ¬ (1 ≤ s.size ∧ s.size ≤ 32)) :
    Calls Try.prog 98 #[.int .i64 id, .string s, .slice A n c, .int .i64 mo, .int .i64 bu, .int .i64 pa, .int .i64 li] w fun e w' => GivRes w w' 0 ⟨#[]⟩ [] 0 0 false 0 0 1 e := by
  obtain ⟨o0, o1, o2, o3, o4⟩ := h
  go_enter Try.func98, Try.ntmps98
  go_wp2_with fail
  refine (ri_yes id 0 65535 _ o0.1 o0.2).mono ?_
  rintro e w' ⟨rfl, rfl⟩
  go_wp2_with fail
  refine (ri_yes mo 1 1024 _ o1.1 o1.2).mono ?_
  rintro e w' ⟨rfl, rfl⟩
  go_wp2_with fail
  refine (ri_yes bu 1 50 _ o2.1 o2.2).mono ?_
  rintro e w' ⟨rfl, rfl⟩
  go_wp2_with fail
  refine (ri_yes pa 1 1000 _ o3.1 o3.2).mono ?_
  rintro e w' ⟨rfl, rfl⟩
  go_wp2_with fail
  refine (ri_yes li 1 100 _ o4.1 o4.2).mono ?_
  rintro e w' ⟨rfl, rfl⟩
  go_wp2_with fail
  refine (ri_no (s.size : Int) 1 32 _ (fun h => hs ⟨by omega, by omega⟩)).mono ?_
  rintro e w' ⟨rfl, rfl⟩
  clear hs
  go_wp2
  refine bodyPost_ret (v := .tuple #[.agg #[.int .i64 0, .string ⟨#[]⟩, .slice none 0 0, .int .i64 0, .int .i64 0, .int .i64 0, .bool false, .int .i64 0, .slice none 0 0, .int .i64 0, .int .i64 0, .int .i64 0, .int .i64 0], .int .i64 1]) (by simp [results, Try.results98, go_sem]) rfl ?_
  exact GivRes.zero (by repeat (first | with_reducible exact Below.refl _ _ | with_reducible assumption | with_reducible refine below_drewN ?_ _ | with_reducible refine Below.drew ?_ | with_reducible refine Below.alloc ?_ ?_ _ | with_reducible refine Below.setCell ?_ ?_ _ | with_reducible exact Nat.le_refl _ | (simp; omega) | (simp; done)))

set_option maxHeartbeats 1600000 in
set_option maxRecDepth 100000 in
theorem offered_file (id : Int) (s : ByteArray) (A : Option Addr) (n c : Nat) (mo bu pa li : Int) (w : World) (h : offOk id mo bu pa li) (hs1 : 1 ≤ s.size) (hs2 : s.size ≤ 32) (hn : 65536 < n) :
    Calls Try.prog 98 #[.int .i64 id, .string s, .slice A n c, .int .i64 mo, .int .i64 bu, .int .i64 pa, .int .i64 li] w fun e w' => GivRes w w' 0 ⟨#[]⟩ [] 0 0 false 0 0 1 e := by
  obtain ⟨o0, o1, o2, o3, o4⟩ := h
  go_enter Try.func98, Try.ntmps98
  go_wp2_with fail
  refine (ri_yes id 0 65535 _ o0.1 o0.2).mono ?_
  rintro e w' ⟨rfl, rfl⟩
  go_wp2_with fail
  refine (ri_yes mo 1 1024 _ o1.1 o1.2).mono ?_
  rintro e w' ⟨rfl, rfl⟩
  go_wp2_with fail
  refine (ri_yes bu 1 50 _ o2.1 o2.2).mono ?_
  rintro e w' ⟨rfl, rfl⟩
  go_wp2_with fail
  refine (ri_yes pa 1 1000 _ o3.1 o3.2).mono ?_
  rintro e w' ⟨rfl, rfl⟩
  go_wp2_with fail
  refine (ri_yes li 1 100 _ o4.1 o4.2).mono ?_
  rintro e w' ⟨rfl, rfl⟩
  go_wp2_with fail
  refine (ri_yes (s.size : Int) 1 32 _ (by omega) (by omega)).mono ?_
  rintro e w' ⟨rfl, rfl⟩
  go_wp2
  refine bodyPost_ret (v := .tuple #[.agg #[.int .i64 0, .string ⟨#[]⟩, .slice none 0 0, .int .i64 0, .int .i64 0, .int .i64 0, .bool false, .int .i64 0, .slice none 0 0, .int .i64 0, .int .i64 0, .int .i64 0, .int .i64 0], .int .i64 1]) (by simp [results, Try.results98, go_sem]) rfl ?_
  exact GivRes.zero (by repeat (first | with_reducible exact Below.refl _ _ | with_reducible assumption | with_reducible refine below_drewN ?_ _ | with_reducible refine Below.drew ?_ | with_reducible refine Below.alloc ?_ ?_ _ | with_reducible refine Below.setCell ?_ ?_ _ | with_reducible exact Nat.le_refl _ | (simp; omega) | (simp; done)))

set_option maxHeartbeats 1600000 in
set_option maxRecDepth 100000 in
theorem offered_good (id : Int) (s : ByteArray) (A : Option Addr) (l : List UInt8) (n c : Nat) (mo bu pa li : Int) (w : World) (hl : l.length = n) (ha : Rd w A (bvs l)) (h : offOk id mo bu pa li) (hs1 : 1 ≤ s.size) (hs2 : s.size ≤ 32) (hn : n ≤ 65536) :
    Calls Try.prog 98 #[.int .i64 id, .string s, .slice A n c, .int .i64 mo, .int .i64 bu, .int .i64 pa, .int .i64 li] w fun e w' => GivRes w w' id s l mo bu true pa li 0 e := by
  obtain ⟨o0, o1, o2, o3, o4⟩ := h
  have HL := Lib.hid hl
  clear hl
  obtain ⟨i0, hi0, hz0, hz1, hz2⟩ := info_parts u8info
  have q1 : Hid ((bvs l).length = n * 1) := by show _ = _; simp [bvs, HL.out]
  have q2 : 0 + n ≤ maxLen := by unfold maxLen; omega
  have q3 : (0 + n) * 1 ≤ 140737488355328 := by omega
  go_enter Try.func98, Try.ntmps98
  go_wp2_with fail
  refine (ri_yes id 0 65535 _ o0.1 o0.2).mono ?_
  rintro e w' ⟨rfl, rfl⟩
  go_wp2_with fail
  refine (ri_yes mo 1 1024 _ o1.1 o1.2).mono ?_
  rintro e w' ⟨rfl, rfl⟩
  go_wp2_with fail
  refine (ri_yes bu 1 50 _ o2.1 o2.2).mono ?_
  rintro e w' ⟨rfl, rfl⟩
  go_wp2_with fail
  refine (ri_yes pa 1 1000 _ o3.1 o3.2).mono ?_
  rintro e w' ⟨rfl, rfl⟩
  go_wp2_with fail
  refine (ri_yes li 1 100 _ o4.1 o4.2).mono ?_
  rintro e w' ⟨rfl, rfl⟩
  go_wp2_with fail
  refine (ri_yes (s.size : Int) 1 32 _ (by omega) (by omega)).mono ?_
  rintro e w' ⟨rfl, rfl⟩
  have hR := ha.alloc (.cells #[.int .i64 0, .string ⟨#[]⟩, .slice none 0 0, .int .i64 0, .int .i64 0, .int .i64 0, .bool false, .int .i64 0, .slice none 0 0, .int .i64 0, .int .i64 0, .int .i64 0, .int .i64 0] 55)
  have hK := Blk.new w 55 #[.int .i64 0, .string ⟨#[]⟩, .slice none 0 0, .int .i64 0, .int .i64 0, .int .i64 0, .bool false, .int .i64 0, .slice none 0 0, .int .i64 0, .int .i64 0, .int .i64 0, .int .i64 0]
  have hz9 : (w.alloc (.cells #[.int .i64 0, .string ⟨#[]⟩, .slice none 0 0, .int .i64 0, .int .i64 0, .int .i64 0, .bool false, .int .i64 0, .slice none 0 0, .int .i64 0, .int .i64 0, .int .i64 0, .int .i64 0] 55)).heap.size ≤ (w.alloc (.cells #[.int .i64 0, .string ⟨#[]⟩, .slice none 0 0, .int .i64 0, .int .i64 0, .int .i64 0, .bool false, .int .i64 0, .slice none 0 0, .int .i64 0, .int .i64 0, .int .i64 0, .int .i64 0] 55)).heap.size := Nat.le_refl _
  go_wp2_with (at_builtin; refine wpList_append_Own _ rfl (.const (.slice none 0 0)) (.tmp 52) 23 rfl (w.heap.size + 1) 5 i0 _ 1 1 Try.underlying23 hi0 hz0 hz1 hz2 rfl none 0 0 [] rfl (Own.none_ _ _ _ _) A n c (bvs l) rfl q1.out hR (bvs_one _) q2 q3 (by simp) ?_; intro A' c' w1 hO1 hg1 hor; have hb : Below (w.alloc (.cells #[.int .i64 0, .string ⟨#[]⟩, .slice none 0 0, .int .i64 0, .int .i64 0, .int .i64 0, .bool false, .int .i64 0, .slice none 0 0, .int .i64 0, .int .i64 0, .int .i64 0, .int .i64 0] 55)).heap.size (w.alloc (.cells #[.int .i64 0, .string ⟨#[]⟩, .slice none 0 0, .int .i64 0, .int .i64 0, .int .i64 0, .bool false, .int .i64 0, .slice none 0 0, .int .i64 0, .int .i64 0, .int .i64 0, .int .i64 0] 55)) w1 := below_of_grown hg1; have hKw := hK.below' hb; obtain ⟨K0, K1, K2, K3, K4, K5, K6, K7, K8, K9, K10, K11, K12, FK⟩ := hKw.thirteen)
  rw [Nat.zero_add, List.nil_append] at hO1
  have hA : ∀ k, blk A' = some k → w.heap.size + 1 ≤ k := fun k hk => (hO1.lt k hk).1
  have eN : 0 + n = n := Nat.zero_add n
  have hB1 : Below w.heap.size w w1 := ((Below.refl _ _).alloc (Nat.le_refl _) _).trans (hb.mono (by simp))
  have hne : ∀ p : Addr, p.block = w.heap.size → blk A' ≠ some p.block := fun p hp e => by have := hA _ e; omega
  refine bodyPost_ret (v := .tuple #[.agg #[.int .i64 id, .string s, .slice A' n c', .int .i64 mo, .int .i64 bu, .int .i64 0, .bool true, .int .i64 0, .slice none 0 0, .int .i64 0, .int .i64 pa, .int .i64 0, .int .i64 li], .int .i64 0]) (by simp [results, Try.results98, go_sem, K0, K1, K2, K3, K4, K5, K6, K7, K8, K9, K10, K11, K12]) rfl ?_
  refine ⟨A', c', by rw [HL.out], ?_, (by repeat (first | with_reducible exact Below.refl _ _ | with_reducible assumption | with_reducible refine below_drewN ?_ _ | with_reducible refine Below.drew ?_ | with_reducible refine Below.alloc ?_ ?_ _ | with_reducible refine Below.setCell ?_ ?_ _ | with_reducible exact Nat.le_refl _ | (simp; omega) | (simp; done)))⟩
  rw [HL.out]
  repeat refine Own.setFar ?_ (hne _ rfl) _
  exact hO1.mono (by simp)

set_option maxHeartbeats 1600000 in
set_option maxRecDepth 100000 in
theorem offer_no (id : Int) (s : ByteArray) (A : Option Addr) (n c : Nat) (mo bu pa li : Int) (w : World) (h : ¬ offOk id mo bu pa li) :
    Calls Try.prog 110 #[.int .i64 id, .string s, .slice A n c, .int .i64 mo, .int .i64 bu, .int .i64 pa, .int .i64 li] w fun e w' => GivRes w w' 0 ⟨#[]⟩ [] 0 0 false 0 0 2 e := by
  have H := Lib.hid h
  clear h
  go_enter Try.func110, Try.ntmps110
  go_wp2_with fail
  by_cases gid : 0 ≤ id ∧ id ≤ 65535
  rotate_left
  · refine (di_no id 0 65535 _ gid).mono ?_
    rintro e w' ⟨rfl, rfl⟩
    go_wp2
    refine bodyPost_ret (v := .tuple #[.agg #[.int .i64 0, .string ⟨#[]⟩, .slice none 0 0, .int .i64 0, .int .i64 0, .int .i64 0, .bool false, .int .i64 0, .slice none 0 0, .int .i64 0, .int .i64 0, .int .i64 0, .int .i64 0], .int .i64 2]) (by simp [results, Try.results110, go_sem]) rfl ?_
    exact GivRes.zero (by repeat (first | with_reducible exact Below.refl _ _ | with_reducible assumption | with_reducible refine below_drewN ?_ _ | with_reducible refine Below.drew ?_ | with_reducible refine Below.alloc ?_ ?_ _ | with_reducible refine Below.setCell ?_ ?_ _ | with_reducible exact Nat.le_refl _ | (simp; omega) | (simp; done)))
  refine (di_yes id 0 65535 _ gid.1 gid.2).mono ?_
  rintro e w' ⟨rfl, rfl⟩
  go_wp2_with fail
  by_cases gmo : 1 ≤ mo ∧ mo ≤ 1024
  rotate_left
  · refine (di_no mo 1 1024 _ gmo).mono ?_
    rintro e w' ⟨rfl, rfl⟩
    go_wp2
    refine bodyPost_ret (v := .tuple #[.agg #[.int .i64 0, .string ⟨#[]⟩, .slice none 0 0, .int .i64 0, .int .i64 0, .int .i64 0, .bool false, .int .i64 0, .slice none 0 0, .int .i64 0, .int .i64 0, .int .i64 0, .int .i64 0], .int .i64 2]) (by simp [results, Try.results110, go_sem]) rfl ?_
    exact GivRes.zero (by repeat (first | with_reducible exact Below.refl _ _ | with_reducible assumption | with_reducible refine below_drewN ?_ _ | with_reducible refine Below.drew ?_ | with_reducible refine Below.alloc ?_ ?_ _ | with_reducible refine Below.setCell ?_ ?_ _ | with_reducible exact Nat.le_refl _ | (simp; omega) | (simp; done)))
  refine (di_yes mo 1 1024 _ gmo.1 gmo.2).mono ?_
  rintro e w' ⟨rfl, rfl⟩
  go_wp2_with fail
  by_cases gbu : 1 ≤ bu ∧ bu ≤ 50
  rotate_left
  · refine (di_no bu 1 50 _ gbu).mono ?_
    rintro e w' ⟨rfl, rfl⟩
    go_wp2
    refine bodyPost_ret (v := .tuple #[.agg #[.int .i64 0, .string ⟨#[]⟩, .slice none 0 0, .int .i64 0, .int .i64 0, .int .i64 0, .bool false, .int .i64 0, .slice none 0 0, .int .i64 0, .int .i64 0, .int .i64 0, .int .i64 0], .int .i64 2]) (by simp [results, Try.results110, go_sem]) rfl ?_
    exact GivRes.zero (by repeat (first | with_reducible exact Below.refl _ _ | with_reducible assumption | with_reducible refine below_drewN ?_ _ | with_reducible refine Below.drew ?_ | with_reducible refine Below.alloc ?_ ?_ _ | with_reducible refine Below.setCell ?_ ?_ _ | with_reducible exact Nat.le_refl _ | (simp; omega) | (simp; done)))
  refine (di_yes bu 1 50 _ gbu.1 gbu.2).mono ?_
  rintro e w' ⟨rfl, rfl⟩
  go_wp2_with fail
  by_cases gpa : 1 ≤ pa ∧ pa ≤ 1000
  rotate_left
  · refine (di_no pa 1 1000 _ gpa).mono ?_
    rintro e w' ⟨rfl, rfl⟩
    go_wp2
    refine bodyPost_ret (v := .tuple #[.agg #[.int .i64 0, .string ⟨#[]⟩, .slice none 0 0, .int .i64 0, .int .i64 0, .int .i64 0, .bool false, .int .i64 0, .slice none 0 0, .int .i64 0, .int .i64 0, .int .i64 0, .int .i64 0], .int .i64 2]) (by simp [results, Try.results110, go_sem]) rfl ?_
    exact GivRes.zero (by repeat (first | with_reducible exact Below.refl _ _ | with_reducible assumption | with_reducible refine below_drewN ?_ _ | with_reducible refine Below.drew ?_ | with_reducible refine Below.alloc ?_ ?_ _ | with_reducible refine Below.setCell ?_ ?_ _ | with_reducible exact Nat.le_refl _ | (simp; omega) | (simp; done)))
  refine (di_yes pa 1 1000 _ gpa.1 gpa.2).mono ?_
  rintro e w' ⟨rfl, rfl⟩
  go_wp2_with fail
  refine (di_no li 1 100 _ (fun h => H.out ⟨gid, gmo, gbu, gpa, h⟩)).mono ?_
  rintro e w' ⟨rfl, rfl⟩
  go_wp2
  refine bodyPost_ret (v := .tuple #[.agg #[.int .i64 0, .string ⟨#[]⟩, .slice none 0 0, .int .i64 0, .int .i64 0, .int .i64 0, .bool false, .int .i64 0, .slice none 0 0, .int .i64 0, .int .i64 0, .int .i64 0, .int .i64 0], .int .i64 2]) (by simp [results, Try.results110, go_sem]) rfl ?_
  exact GivRes.zero (by repeat (first | with_reducible exact Below.refl _ _ | with_reducible assumption | with_reducible refine below_drewN ?_ _ | with_reducible refine Below.drew ?_ | with_reducible refine Below.alloc ?_ ?_ _ | with_reducible refine Below.setCell ?_ ?_ _ | with_reducible exact Nat.le_refl _ | (simp; omega) | (simp; done)))

set_option maxHeartbeats 1600000 in
set_option maxRecDepth 100000 in
theorem offer_name (id : Int) (s : ByteArray) (A : Option Addr) (n c : Nat) (mo bu pa li : Int) (w : World) (h : offOk id mo bu pa li) (hs : ¬ (1 ≤ s.size ∧ s.size ≤ 32)) :
    Calls Try.prog 110 #[.int .i64 id, .string s, .slice A n c, .int .i64 mo, .int .i64 bu, .int .i64 pa, .int .i64 li] w fun e w' => GivRes w w' 0 ⟨#[]⟩ [] 0 0 false 0 0 1 e := by
  obtain ⟨o0, o1, o2, o3, o4⟩ := h
  go_enter Try.func110, Try.ntmps110
  go_wp2_with fail
  refine (di_yes id 0 65535 _ o0.1 o0.2).mono ?_
  rintro e w' ⟨rfl, rfl⟩
  go_wp2_with fail
  refine (di_yes mo 1 1024 _ o1.1 o1.2).mono ?_
  rintro e w' ⟨rfl, rfl⟩
  go_wp2_with fail
  refine (di_yes bu 1 50 _ o2.1 o2.2).mono ?_
  rintro e w' ⟨rfl, rfl⟩
  go_wp2_with fail
  refine (di_yes pa 1 1000 _ o3.1 o3.2).mono ?_
  rintro e w' ⟨rfl, rfl⟩
  go_wp2_with fail
  refine (di_yes li 1 100 _ o4.1 o4.2).mono ?_
  rintro e w' ⟨rfl, rfl⟩
  go_wp2_with fail
  refine (di_no (s.size : Int) 1 32 _ (fun h => hs ⟨by omega, by omega⟩)).mono ?_
  rintro e w' ⟨rfl, rfl⟩
  clear hs
  go_wp2
  refine bodyPost_ret (v := .tuple #[.agg #[.int .i64 0, .string ⟨#[]⟩, .slice none 0 0, .int .i64 0, .int .i64 0, .int .i64 0, .bool false, .int .i64 0, .slice none 0 0, .int .i64 0, .int .i64 0, .int .i64 0, .int .i64 0], .int .i64 1]) (by simp [results, Try.results110, go_sem]) rfl ?_
  exact GivRes.zero (by repeat (first | with_reducible exact Below.refl _ _ | with_reducible assumption | with_reducible refine below_drewN ?_ _ | with_reducible refine Below.drew ?_ | with_reducible refine Below.alloc ?_ ?_ _ | with_reducible refine Below.setCell ?_ ?_ _ | with_reducible exact Nat.le_refl _ | (simp; omega) | (simp; done)))

set_option maxHeartbeats 1600000 in
set_option maxRecDepth 100000 in
theorem offer_file (id : Int) (s : ByteArray) (A : Option Addr) (n c : Nat) (mo bu pa li : Int) (w : World) (h : offOk id mo bu pa li) (hs1 : 1 ≤ s.size) (hs2 : s.size ≤ 32) (hn : 65536 < n) :
    Calls Try.prog 110 #[.int .i64 id, .string s, .slice A n c, .int .i64 mo, .int .i64 bu, .int .i64 pa, .int .i64 li] w fun e w' => GivRes w w' 0 ⟨#[]⟩ [] 0 0 false 0 0 1 e := by
  obtain ⟨o0, o1, o2, o3, o4⟩ := h
  go_enter Try.func110, Try.ntmps110
  go_wp2_with fail
  refine (di_yes id 0 65535 _ o0.1 o0.2).mono ?_
  rintro e w' ⟨rfl, rfl⟩
  go_wp2_with fail
  refine (di_yes mo 1 1024 _ o1.1 o1.2).mono ?_
  rintro e w' ⟨rfl, rfl⟩
  go_wp2_with fail
  refine (di_yes bu 1 50 _ o2.1 o2.2).mono ?_
  rintro e w' ⟨rfl, rfl⟩
  go_wp2_with fail
  refine (di_yes pa 1 1000 _ o3.1 o3.2).mono ?_
  rintro e w' ⟨rfl, rfl⟩
  go_wp2_with fail
  refine (di_yes li 1 100 _ o4.1 o4.2).mono ?_
  rintro e w' ⟨rfl, rfl⟩
  go_wp2_with fail
  refine (di_yes (s.size : Int) 1 32 _ (by omega) (by omega)).mono ?_
  rintro e w' ⟨rfl, rfl⟩
  go_wp2
  refine bodyPost_ret (v := .tuple #[.agg #[.int .i64 0, .string ⟨#[]⟩, .slice none 0 0, .int .i64 0, .int .i64 0, .int .i64 0, .bool false, .int .i64 0, .slice none 0 0, .int .i64 0, .int .i64 0, .int .i64 0, .int .i64 0], .int .i64 1]) (by simp [results, Try.results110, go_sem]) rfl ?_
  exact GivRes.zero (by repeat (first | with_reducible exact Below.refl _ _ | with_reducible assumption | with_reducible refine below_drewN ?_ _ | with_reducible refine Below.drew ?_ | with_reducible refine Below.alloc ?_ ?_ _ | with_reducible refine Below.setCell ?_ ?_ _ | with_reducible exact Nat.le_refl _ | (simp; omega) | (simp; done)))

set_option maxHeartbeats 1600000 in
set_option maxRecDepth 100000 in
theorem offer_good (id : Int) (s : ByteArray) (A : Option Addr) (l : List UInt8) (n c : Nat) (mo bu pa li : Int) (w : World) (hl : l.length = n) (ha : Rd w A (bvs l)) (h : offOk id mo bu pa li) (hs1 : 1 ≤ s.size) (hs2 : s.size ≤ 32) (hn : n ≤ 65536) :
    Calls Try.prog 110 #[.int .i64 id, .string s, .slice A n c, .int .i64 mo, .int .i64 bu, .int .i64 pa, .int .i64 li] w fun e w' => GivRes w w' id s l mo bu true pa li 0 e := by
  obtain ⟨o0, o1, o2, o3, o4⟩ := h
  have HL := Lib.hid hl
  clear hl
  go_enter Try.func110, Try.ntmps110
  go_wp2_with fail
  refine (di_yes id 0 65535 _ o0.1 o0.2).mono ?_
  rintro e w' ⟨rfl, rfl⟩
  go_wp2_with fail
  refine (di_yes mo 1 1024 _ o1.1 o1.2).mono ?_
  rintro e w' ⟨rfl, rfl⟩
  go_wp2_with fail
  refine (di_yes bu 1 50 _ o2.1 o2.2).mono ?_
  rintro e w' ⟨rfl, rfl⟩
  go_wp2_with fail
  refine (di_yes pa 1 1000 _ o3.1 o3.2).mono ?_
  rintro e w' ⟨rfl, rfl⟩
  go_wp2_with fail
  refine (di_yes li 1 100 _ o4.1 o4.2).mono ?_
  rintro e w' ⟨rfl, rfl⟩
  go_wp2_with fail
  refine (di_yes (s.size : Int) 1 32 _ (by omega) (by omega)).mono ?_
  rintro e w' ⟨rfl, rfl⟩
  have hK := Blk.new w 55 #[.int .i64 0, .string ⟨#[]⟩, .slice none 0 0, .int .i64 0, .int .i64 0, .int .i64 0, .bool false, .int .i64 0, .slice none 0 0, .int .i64 0, .int .i64 0, .int .i64 0, .int .i64 0]
  go_wp2_with fail
  refine (clone_n A l n c _ HL.out (ha.alloc _) (by omega)).mono ?_
  rintro e w1 ⟨A', c', rfl, hO1, hb⟩
  have hKw := hK.below' hb
  obtain ⟨K0, K1, K2, K3, K4, K5, K6, K7, K8, K9, K10, K11, K12, FK⟩ := hKw.thirteen
  have hA : ∀ k, blk A' = some k → w.heap.size + 1 ≤ k := fun k hk => by have := (hO1.lt k hk).1; simpa using this
  go_wp2
  have hB1 : Below w.heap.size w w1 := ((Below.refl _ _).alloc (Nat.le_refl _) _).trans (hb.mono (by simp))
  have hne : ∀ p : Addr, p.block = w.heap.size → blk A' ≠ some p.block := fun p hp e => by have := hA _ e; omega
  refine bodyPost_ret (v := .tuple #[.agg #[.int .i64 id, .string s, .slice A' n c', .int .i64 mo, .int .i64 bu, .int .i64 0, .bool true, .int .i64 0, .slice none 0 0, .int .i64 0, .int .i64 pa, .int .i64 0, .int .i64 li], .int .i64 0]) (by simp [results, Try.results110, go_sem, K0, K1, K2, K3, K4, K5, K6, K7, K8, K9, K10, K11, K12]) rfl ?_
  refine ⟨A', c', by rw [HL.out], ?_, (by repeat (first | with_reducible exact Below.refl _ _ | with_reducible assumption | with_reducible refine below_drewN ?_ _ | with_reducible refine Below.drew ?_ | with_reducible refine Below.alloc ?_ ?_ _ | with_reducible refine Below.setCell ?_ ?_ _ | with_reducible exact Nat.le_refl _ | (simp; omega) | (simp; done)))⟩
  rw [HL.out]
  repeat refine Own.setFar ?_ (hne _ rfl) _
  exact hO1.mono (by simp)
end Go.Proofs.Ytianombjgdmbeaa
