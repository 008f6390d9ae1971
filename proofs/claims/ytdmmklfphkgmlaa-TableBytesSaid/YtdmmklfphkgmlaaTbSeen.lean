/- table: Seen, the program's and the document's. -/
import Derived.Test.YtdmmklfphkgmlaaTbAddR
namespace Go.Proofs.Ytdmmklfphkgmlaa.Tb
open Go.RowKit Go.Proofs.YtdmmklfphkgmlaaW.PrintWords Go.Proofs.YtdmmklfphkgmlaaW.PrintLast Go.Proofs.YtdmmklfphkgmlaaW.PrintMore Go.Proofs.Ytdmmklfphkgmlaa.Om

def seenX (l r : Int) : Int × Int := if r ≤ l then (l, 14) else (r, 0)

set_option maxRecDepth 100000 in
theorem seen_calls (xs : List Int) (l r : Int) (w : World) (hx : xs.length = 136) :
    Calls Try.prog 20 #[.agg (tabV xs l), .int .u64 r] w fun e w' => e = .returned (.tuple #[.agg (tabV xs (seenX l r).1), .int .i64 (seenX l r).2]) ∧ Below w.heap.size w w' := by
  have hA := heap_alloc2_old w (.cells (tabV xs l) 39) (.cells Try.zeroCells39 39)
  have hZ := heap_alloc2_new w (.cells (tabV xs l) 39) (.cells Try.zeroCells39 39)
  have hB : Below w.heap.size w ((w.alloc (.cells (tabV xs l) 39)).alloc (.cells Try.zeroCells39 39)) := below_alloc (below_alloc (Below.refl _ _) _) _
  have hi := tab_info39 xs l hx
  have ho := tab_one xs l
  have hz := tab_zero39 xs l hx
  have g1 : (tabV xs l)[136]? = some (.int .u64 l) := by rw [← hx]; exact tabV_last xs l
  unfold seenX
  by_cases h : r ≤ l
  · rw [if_pos h]
    have c1 : decide (r ≤ l) = true := decide_eq_true h
    go_enter Try.func20, Try.ntmps20
    go_wp2_with (first | refine wpList_load_row rfl 39 _ rfl w.heap.size rfl 39 _ (0, 0) _ hA Try.underlying39 rfl hi ?_ | refine wpList_store_row rfl 39 _ _ rfl (w.heap.size + 1) _ rfl rfl 39 _ hZ hi hz ho ?_)
    exact bodyPost_ret (end_tab rfl _ _ _ _ _ hZ rfl Try.underlying39 hi) rfl ⟨rfl, below_setRow hB (by omega) _⟩
  · rw [if_neg h]
    have c1 : decide (r ≤ l) = false := decide_eq_false h
    have s1 : (tabV xs l).setIfInBounds 136 (.int .u64 r) = tabV xs r := by rw [← hx]; exact tabV_setLast xs l r
    have hA' := heap_alloc2_old w (.cells (tabV xs r) 39) (.cells Try.zeroCells39 39)
    have hZ' := heap_alloc2_new w (.cells (tabV xs r) 39) (.cells Try.zeroCells39 39)
    have hB' : Below w.heap.size w ((w.alloc (.cells (tabV xs r) 39)).alloc (.cells Try.zeroCells39 39)) := below_alloc (below_alloc (Below.refl _ _) _) _
    have hi' := tab_info39 xs r hx
    have ho' := tab_one xs r
    have hz' := tab_zero39 xs r hx
    go_enter Try.func20, Try.ntmps20
    go_wp2_with (first | refine wpList_load_row rfl 39 _ rfl w.heap.size rfl 39 _ (0, 0) _ hA' Try.underlying39 rfl hi' ?_ | refine wpList_store_row rfl 39 _ _ rfl (w.heap.size + 1) _ rfl rfl 39 _ hZ' hi' hz' ho' ?_)
    exact bodyPost_ret (end_tab rfl _ _ _ _ _ hZ' rfl Try.underlying39 hi') rfl ⟨rfl, below_setRow hB' (by omega) _⟩

set_option maxRecDepth 100000 in
theorem rseen_calls (xs : List Int) (l r : Int) (w : World) (hx : xs.length = 136) :
    Calls Try.prog 21 #[.agg (tabV xs l), .int .u64 r] w fun e w' => e = .returned (.tuple #[.agg (tabV xs (seenX l r).1), .int .i64 (seenX l r).2]) ∧ Below w.heap.size w w' := by
  have hA := heap_alloc2_old w (.cells (tabV xs l) 44) (.cells Try.zeroCells44 44)
  have hZ := heap_alloc2_new w (.cells (tabV xs l) 44) (.cells Try.zeroCells44 44)
  have hB : Below w.heap.size w ((w.alloc (.cells (tabV xs l) 44)).alloc (.cells Try.zeroCells44 44)) := below_alloc (below_alloc (Below.refl _ _) _) _
  have hi := tab_info44 xs l hx
  have ho := tab_one xs l
  have hz := tab_zero44 xs l hx
  have g1 : (tabV xs l)[136]? = some (.int .u64 l) := by rw [← hx]; exact tabV_last xs l
  unfold seenX
  by_cases h : r ≤ l
  · rw [if_pos h]
    have c1 : decide (r ≤ l) = true := decide_eq_true h
    go_enter Try.func21, Try.ntmps21
    go_wp2_with (first | refine wpList_load_row rfl 44 _ rfl w.heap.size rfl 44 _ (0, 0) _ hA Try.underlying44 rfl hi ?_ | refine wpList_store_row rfl 44 _ _ rfl (w.heap.size + 1) _ rfl rfl 44 _ hZ hi hz ho ?_)
    exact bodyPost_ret (end_tab rfl _ _ _ _ _ hZ rfl Try.underlying44 hi) rfl ⟨rfl, below_setRow hB (by omega) _⟩
  · rw [if_neg h]
    have c1 : decide (r ≤ l) = false := decide_eq_false h
    have s1 : (tabV xs l).setIfInBounds 136 (.int .u64 r) = tabV xs r := by rw [← hx]; exact tabV_setLast xs l r
    have hA' := heap_alloc2_old w (.cells (tabV xs r) 44) (.cells Try.zeroCells44 44)
    have hZ' := heap_alloc2_new w (.cells (tabV xs r) 44) (.cells Try.zeroCells44 44)
    have hB' : Below w.heap.size w ((w.alloc (.cells (tabV xs r) 44)).alloc (.cells Try.zeroCells44 44)) := below_alloc (below_alloc (Below.refl _ _) _) _
    have hi' := tab_info44 xs r hx
    have ho' := tab_one xs r
    have hz' := tab_zero44 xs r hx
    go_enter Try.func21, Try.ntmps21
    go_wp2_with (first | refine wpList_load_row rfl 44 _ rfl w.heap.size rfl 44 _ (0, 0) _ hA' Try.underlying44 rfl hi' ?_ | refine wpList_store_row rfl 44 _ _ rfl (w.heap.size + 1) _ rfl rfl 44 _ hZ' hi' hz' ho' ?_)
    exact bodyPost_ret (end_tab rfl _ _ _ _ _ hZ' rfl Try.underlying44 hi') rfl ⟨rfl, below_setRow hB' (by omega) _⟩
end Go.Proofs.Ytdmmklfphkgmlaa.Tb
