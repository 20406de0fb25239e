import Derived.Test.YtgfkpolklianeaaSame
import Derived.Test.YtgfkpolklianeaaMore
import Derived.Test.YtgfkpolklianeaaVoteP
import Derived.Deep.DeepCutAuto
namespace Go.Proofs.Ytgfkpolklianeaa
set_option linter.unusedSimpArgs false
set_option linter.unusedVariables false
open Go.RowKit

theorem i64info : (Try.prog.info? 3).map (fun i => (i.zero, i.size, i.bytes)) = some (some (.int .i64 0), 1, 8) := by kernel_rfl

/-- What comes of a vote: bytes and places, in memory of their own. -/
def VoteRes (w w' : World) (r : List UInt8 × List Int × Int) (e : Ending) : Prop :=
  ∃ A c B d, e = .returned (.tuple #[.slice A r.1.length c, .slice B r.2.1.length d, .int .i64 r.2.2]) ∧ Own w' w.heap.size 5 1 A r.1.length c (bvs r.1) ∧ Own w' w.heap.size 3 1 B r.2.1.length d (ivs r.2.1) ∧
    (∀ q, blk A = some q → blk B ≠ some q) ∧ Below w.heap.size w w'
theorem VoteRes.none_ {w w' : World} {k : Int} (h : Below w.heap.size w w') : VoteRes w w' ([], [], k) (.returned (.tuple #[.slice none 0 0, .slice none 0 0, .int .i64 k])) :=
  ⟨none, 0, none, 0, rfl, Own.none_ _ _ _ _, Own.none_ _ _ _ _, (fun q hq => by simp [blk] at hq), h⟩
theorem at_get {l : List UInt8} {k : Nat} (h : k < l.length) : l[k] = l.getD k 0 := by simp [List.getD, List.getElem?_eq_getElem h]
theorem Rd.byteD {w : World} {A : Option Addr} {l : List UInt8} {k : Nat} (h : Rd w A (bvs l)) (hk : k < l.length) : ∃ b off, A = some ⟨b, off, none⟩ ∧ w.cell? ⟨b, off + k, none⟩ = some (.int .u8 ((l.getD k 0).toNat : Int)) := by
  rw [← at_get hk]
  exact h.byte hk
theorem oddAt_eq {a b c : List UInt8} {k : Nat} (h : oddAt a b c k) : oddTo a b c (k + 1) = oddTo a b c k ++ [(k : Int)] := by
  show (if _ then _ else _) = _
  rw [if_pos h]
theorem oddAt_ne {a b c : List UInt8} {k : Nat} (h : ¬ oddAt a b c k) : oddTo a b c (k + 1) = oddTo a b c k := by
  show (if _ then _ else _) = _
  rw [if_neg h]
theorem ivs_snoc (l : List Int) (k : Nat) : ivs l ++ [.int .i64 (k : Int)] = ivs (l ++ [(k : Int)]) := by simp [ivs, iv]
theorem Rd_one (W : World) (u : Value) (t : TypeId) : Rd (W.alloc (.cells #[u] t)) (some ⟨W.heap.size, 0, none⟩) [u] := Rd_lit W [u] t
theorem one_int (k : Int) : ∀ u ∈ [Value.int .i64 k], u.oneCell' = true := by
  intro u hu
  simp at hu
  subst hu
  rfl
theorem one_byte (k : Int) : ∀ u ∈ [Value.int .u8 k], u.oneCell' = true := by
  intro u hu
  simp at hu
  subst hu
  rfl

set_option maxHeartbeats 1600000 in
set_option maxRecDepth 100000 in
theorem vote_size (A B C : Option Addr) (n m p c d f : Nat) (w : World) (h : n ≠ m ∨ m ≠ p) :
    Calls Try.prog 22 #[.slice A n c, .slice B m d, .slice C p f] w fun e w' => VoteRes w w' ([], [], 1) e := by
  by_cases h1 : n = m
  · have h2 : m ≠ p := by omega
    have d1 : (((n : Nat) : Int) != ((m : Nat) : Int)) = false := by simp; omega
    have d2 : (((m : Nat) : Int) != ((p : Nat) : Int)) = true := by simp; omega
    clear h h1 h2
    go_enter Try.func22, Try.ntmps22
    go_wp2
    go_ret3
    exact VoteRes.none_ (Below.refl _ _)
  · have d1 : (((n : Nat) : Int) != ((m : Nat) : Int)) = true := by simp; omega
    clear h h1
    go_enter Try.func22, Try.ntmps22
    go_wp2
    go_ret3
    exact VoteRes.none_ (Below.refl _ _)
set_option maxHeartbeats 1600000 in
set_option maxRecDepth 100000 in
theorem voteOf_size (A B C : Option Addr) (n m p c d f : Nat) (w : World) (h : n ≠ m ∨ m ≠ p) :
    Calls Try.prog 21 #[.slice A n c, .slice B m d, .slice C p f] w fun e w' => VoteRes w w' ([], [], 1) e := by
  by_cases h1 : n = m
  · have h2 : m ≠ p := by omega
    have d1 : (((n : Nat) : Int) != ((m : Nat) : Int)) = false := by simp; omega
    have d2 : (((m : Nat) : Int) != ((p : Nat) : Int)) = true := by simp; omega
    clear h h1 h2
    go_enter Try.func21, Try.ntmps21
    go_wp2
    go_ret3
    exact VoteRes.none_ (Below.refl _ _)
  · have d1 : (((n : Nat) : Int) != ((m : Nat) : Int)) = true := by simp; omega
    clear h h1
    go_enter Try.func21, Try.ntmps21
    go_wp2
    go_ret3
    exact VoteRes.none_ (Below.refl _ _)
end Go.Proofs.Ytgfkpolklianeaa
