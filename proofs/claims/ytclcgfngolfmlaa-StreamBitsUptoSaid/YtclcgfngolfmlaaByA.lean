/-
  The program's Bytes, of any bits.
-/
import Derived.Test.YtclcgfngolfmlaaByG
namespace Go.Proofs.Ytclcgfngolfmlaa
set_option linter.unusedSimpArgs false
set_option linter.unusedVariables false
open Go.RowKit

set_option maxRecDepth 100000 in
theorem pbytes_any (b off n c : Nat) (l : List UInt8) (w : World) (hl : l.length = n) (ha : Rd w (some ⟨b, off, none⟩) (bvs l)) (hn : n ≤ 1048576) (hc : n ≤ c) (hb : b < w.heap.size) :
    Calls Try.prog 22 #[.slice (some ⟨b, off, none⟩) n c] w fun e w' => BytesRes w w' (bytesF l) e := by
  by_cases h8 : n % 8 = 0
  · obtain ⟨N, rfl⟩ : ∃ N, n = 8 * N := ⟨n / 8, by omega⟩
    exact pbytes_good b off c N l w hl ha hn hc hb
  · have d8 : ((n : Int) % 8 != 0) = true := by rw [bne_iff_ne]; omega
    have HR := Lib.hid (bytesF_size (l := l) (by rw [hl]; exact h8))
    go_enter Try.func22, Try.ntmps22
    go_wp2_with fail
    have e0 := ((Blk.new w 22 #[.slice none 0 0]).alloc (.cells #[.int .i64 1] 25)).one.1
    have e1 := (Blk.new (w.alloc (.cells #[.slice none 0 0] 22)) 25 #[.int .i64 1]).one.1
    rw [show (w.alloc (.cells #[.slice none 0 0] 22)).heap.size = w.heap.size + 1 from by simp] at e1
    refine bodyPost_ret (v := .tuple #[.slice none 0 0, .int .i64 1]) (by simp [results, Try.results22, go_sem, e0, e1]) rfl ?_
    rw [HR.out]
    exact BytesRes.none_ (((Below.refl _ _).alloc (Nat.le_refl _) _).alloc (by simp) _)
end Go.Proofs.Ytclcgfngolfmlaa
