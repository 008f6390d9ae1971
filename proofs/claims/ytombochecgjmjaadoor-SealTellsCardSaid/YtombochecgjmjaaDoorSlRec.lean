/- Records: '==' of one with itself; boxes that stay. -/
import Derived.Test.YtombochecgjmjaaDoorSlOpenR
import Derived.Laws.StructEq
namespace Go.Proofs.YtombochecgjmjaaDoor.Sl
set_option linter.unusedSimpArgs false
open Go.RowKit

theorem keep {W W' : World} {b : Nat} {o : Obj} (h : W.heap[b]? = some o) (hb : Below W.heap.size W W') : W'.heap[b]? = some o :=
  (hb.block _ (Array.getElem?_eq_some_iff.1 h).1).trans h
theorem keep_alloc {W : World} {b : Nat} {o q : Obj} (h : W.heap[b]? = some o) : (W.alloc q).heap[b]? = some o := keep h ((Below.refl _ _).alloc (Nat.le_refl _) _)
theorem keep_set {W : World} {b p : Nat} {o : Obj} {cs : Array Value} (h : W.heap[b]? = some o) (hp : b ≠ p) : (W.setRow p cs).heap[b]? = some o :=
  (setRow_other W p b cs hp).trans h

theorem boxed_new (W : World) (zc cs : Array Value) (t : TypeId) : ((W.alloc (.cells zc t)).setRow W.heap.size cs).heap[W.heap.size]? = some (.cells cs t (0, 0)) :=
  setRow_heap _ _ _ _ _ _ (heap_alloc_new W (.cells zc t))
theorem boxed_below (W : World) (zc cs : Array Value) (t : TypeId) : Below W.heap.size W ((W.alloc (.cells zc t)).setRow W.heap.size cs) :=
  below_setRow ((Below.refl _ _).alloc (Nat.le_refl _) _) (Nat.le_refl _) _

set_option maxRecDepth 100000 in
theorem recEq (r : Rec) (w : World) : (Op.equalIn 10000 33 (.agg (recV r)) (.agg (recV r))).run Tryd.prog w = .ok true w := by
  rw [run_equalIn_agg w 9999 33 _ _ (by kernel_rfl) (by kernel_rfl)]
  simp [recV, go_sem, Tryd.underlying33]
end Go.Proofs.YtombochecgjmjaaDoor.Sl
