/-
  The document's Over, of any two polynomials.
-/
import Derived.Test.YtolcaolmdfbfhaaOverR
namespace Go.Proofs.Ytolcaolmdfbfhaa
set_option linter.unusedSimpArgs false
set_option linter.unusedVariables false
open Go.RowKit

set_option maxHeartbeats 3200000 in
set_option maxRecDepth 100000 in
theorem rover_any (A B : Option Addr) (p q : List UInt8) (n m c d : Nat) (w : World) (hp : p.length = n) (hq : q.length = m) (ra : Rd w A (bvs p)) (rb : Rd w B (bvs q)) (hd : m ≤ d) (hn : n ≤ 140737488351300) (hm : m ≤ 140737488351300) :
    Calls Try.prog 34 #[.slice A n c, .slice B m d] w fun e w' => OverRes w w' (overF p q) e := by
  by_cases h1 : 512 < n
  · have e : overF p q = ([], [], 1) := by unfold overF; rw [if_pos (by omega)]
    rw [e]
    have d1 : decide ((512 : Int) < (n : Int)) = true := by simp; omega
    clear e hp hq
    go_enter Try.func34, Try.ntmps34
    go_wp2
    refine bodyPost_ret (v := .tuple #[.slice none 0 0, .slice none 0 0, .int .i64 1]) (by simp [results, Try.results34, go_sem]) rfl ?_
    exact OverRes.none_ (Below.refl _ _)
  by_cases h2 : 512 < m
  · have e : overF p q = ([], [], 1) := by unfold overF; rw [if_pos (by omega)]
    rw [e]
    have d1 : decide ((512 : Int) < (n : Int)) = false := by simp; omega
    have d2 : decide ((512 : Int) < (m : Int)) = true := by simp; omega
    clear e hp hq
    go_enter Try.func34, Try.ntmps34
    go_wp2
    refine bodyPost_ret (v := .tuple #[.slice none 0 0, .slice none 0 0, .int .i64 1]) (by simp [results, Try.results34, go_sem]) rfl ?_
    exact OverRes.none_ (Below.refl _ _)
  by_cases h3 : trimL q = []
  · have e : overF p q = ([], [], 3) := by unfold overF; rw [if_neg (by omega), if_pos h3]
    rw [e]
    have d1 : decide ((512 : Int) < (n : Int)) = false := by simp; omega
    have d2 : decide ((512 : Int) < (m : Int)) = false := by simp; omega
    have hT := Lib.hid (fun w ha => h3 ▸ trim_any B q m d w hq ha hd (by omega))
    simp only [List.length_nil] at hT
    clear e hp hq h3
    go_enter Try.func34, Try.ntmps34
    go_wp2_with fail
    refine (hT.out _ rb).mono ?_
    rintro e w1 ⟨A1, c1, rfl, hO1, hb1⟩
    go_wp2
    refine bodyPost_ret (v := .tuple #[.slice none 0 0, .slice none 0 0, .int .i64 3]) (by simp [results, Try.results34, go_sem]) rfl ?_
    exact OverRes.none_ hb1
  · have e : overF p q = (trimL (overE (trimL q) p).1, trimL (overE (trimL q) p).2, 0) := by unfold overF; rw [if_neg (by omega), if_neg h3]
    rw [e]
    exact rover_good A B p q n m c d w hp hq ra rb hd (by omega) (by omega) h3
end Go.Proofs.Ytolcaolmdfbfhaa
