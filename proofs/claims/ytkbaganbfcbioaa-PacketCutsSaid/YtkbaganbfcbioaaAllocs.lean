/-
  Blocks, one behind the other.
-/
import Derived.Test.YtkbaganbfcbioaaBase
import Derived.Test.YtkbaganbfcbioaaMore
namespace Go.Proofs.Ytkbaganbfcbioaa
set_option linter.unusedSimpArgs false
set_option linter.unusedVariables false
open Go.RowKit

def allocs (w : World) (os : List Obj) : World := os.foldl World.alloc w
theorem allocs_old : ∀ (os : List Obj) (w : World) (k : Nat), k < w.heap.size → (allocs w os).heap[k]? = w.heap[k]?
  | [], _, _, _ => rfl
  | o :: os, w, k, h => (allocs_old os (w.alloc o) k (by simp; omega)).trans (Below.heap_alloc w o k h)
theorem allocs_at : ∀ (os : List Obj) (w : World) (i : Nat) (o : Obj), os[i]? = some o → (allocs w os).heap[w.heap.size + i]? = some o
  | [], _, _, _, h => by simp at h
  | o' :: os, w, 0, o, h => by
    simp at h
    subst h
    exact (allocs_old os (w.alloc o') w.heap.size (by simp)).trans (heap_alloc_new w o')
  | o' :: os, w, i + 1, o, h => by
    have := allocs_at os (w.alloc o') i o (by simpa using h)
    rwa [World.size_alloc, show w.heap.size + 1 + i = w.heap.size + (i + 1) from by omega] at this
theorem allocs_size : ∀ (os : List Obj) (w : World), (allocs w os).heap.size = w.heap.size + os.length
  | [], _ => rfl
  | o :: os, w => by
    show (allocs (w.alloc o) os).heap.size = _
    rw [allocs_size os, World.size_alloc, List.length_cons]
    omega
theorem allocs_below : ∀ (os : List Obj) (w : World) (n : Nat), n ≤ w.heap.size → Below n w (allocs w os)
  | [], w, n, _ => Below.refl _ _
  | o :: os, w, n, h => ((Below.refl n w).alloc h o).trans (allocs_below os (w.alloc o) n (by simp; omega))
end Go.Proofs.Ytkbaganbfcbioaa
