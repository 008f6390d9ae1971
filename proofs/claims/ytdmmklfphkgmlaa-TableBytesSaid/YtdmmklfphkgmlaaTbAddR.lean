/- table: the document's Add, Seen; the program's Seen. -/
import Derived.Test.YtdmmklfphkgmlaaTbAdd
namespace Go.Proofs.Ytdmmklfphkgmlaa.Tb
open Go.RowKit Go.Proofs.YtdmmklfphkgmlaaW.PrintWords Go.Proofs.YtdmmklfphkgmlaaW.PrintLast Go.Proofs.YtdmmklfphkgmlaaW.PrintMore Go.Proofs.Ytdmmklfphkgmlaa.Om

set_option maxRecDepth 100000 in
theorem radd_ok (xs : List Int) (l : Int) (c k : Nat) (w : World) (hx : xs.length = 136) (hr : ∀ x ∈ xs, 0 ≤ x ∧ x < 4294967296) (hc : c < 16) (hk : k < 8) (h3 : gx xs k ≠ 4294967295) (h4 : gx xs (8 + c * 8 + k) ≠ 4294967295) :
    Calls Try.prog 23 #[.agg (tabV xs l), .int .i64 (c : Int), .int .i64 (k : Int)] w fun e w' =>
      e = .returned (.tuple #[.agg (tabV ((xs.set k (gx xs k + 1)).set (8 + c * 8 + k) (gx xs (8 + c * 8 + k) + 1)) l), .int .i64 0]) ∧ Below w.heap.size w w' := by
  have c1 : decide ((c : Int) < 0) = false := decide_eq_false (by omega)
  have c2 : decide (16 ≤ (c : Int)) = false := decide_eq_false (by omega)
  have c3 : decide ((k : Int) < 0) = false := decide_eq_false (by omega)
  have c4 : decide (8 ≤ (k : Int)) = false := decide_eq_false (by omega)
  have g1 := tabV_get xs l k (by omega)
  have g2 := tabV_get xs l (8 + c * 8 + k) (by omega)
  have c5 : (gx xs k == 4294967295) = false := by simpa using h3
  have c6 : (gx xs (8 + c * 8 + k) == 4294967295) = false := by simpa using h4
  have r1 : 0 ≤ (c : Int) ∧ (c : Int) < 16 := by omega
  have r2 : 0 ≤ (k : Int) ∧ (k : Int) < 8 := by omega
  have s1 := tabV_set xs l k (gx xs k + 1) (by omega)
  have m1 : (gx xs k + 1) % 4294967296 = gx xs k + 1 := by have := gx_range hr k; omega
  have m2 : (gx xs (8 + c * 8 + k) + 1) % 4294967296 = gx xs (8 + c * 8 + k) + 1 := by have := gx_range hr (8 + c * 8 + k); omega
  have g3 : (tabV (xs.set k (gx xs k + 1)) l)[8 + c * 8 + k]? = some (.int .u32 (gx xs (8 + c * 8 + k))) := by
    rw [tabV_get _ _ _ (by rw [List.length_set]; omega), gx_set _ _ _ _ (by omega), if_neg (by omega)]
  have s2 := tabV_set (xs.set k (gx xs k + 1)) l (8 + c * 8 + k) (gx xs (8 + c * 8 + k) + 1) (by rw [List.length_set]; omega)
  go_enter Try.func23, Try.ntmps23
  go_wp2
  have hA := heap_alloc_old (w.alloc (.cells (tabV (xs.set k (gx xs k + 1)) l) 44)) (.cells Try.zeroCells44 44) (show w.heap.size < _ by simp) |>.trans (heap_alloc_new w (.cells (tabV (xs.set k (gx xs k + 1)) l) 44))
  have hZ := heap_alloc2_new w (.cells (tabV (xs.set k (gx xs k + 1)) l) 44) (.cells Try.zeroCells44 44)
  have hB : Below w.heap.size w ((w.alloc (.cells (tabV (xs.set k (gx xs k + 1)) l) 44)).alloc (.cells Try.zeroCells44 44)) := below_alloc (below_alloc (Below.refl _ _) _) _
  generalize hW : (w.alloc (.cells (tabV (xs.set k (gx xs k + 1)) l) 44)).alloc (.cells Try.zeroCells44 44) = W at hA hZ hB ⊢
  have q1 : W.drew.cell? ⟨w.heap.size, 8 + c * 8 + k, none⟩ = some (.int .u32 (gx xs (8 + c * 8 + k))) := (cell_of_row W.drew _ _ _ _ _ hA).trans g3
  have q2 : W.drew.frozen? ⟨w.heap.size, 8 + c * 8 + k, none⟩ = false := frozen_of_row W.drew _ _ _ _ hA
  go_still_tail 10, (by kernel_rfl)
  change wpList _ _ _ _ _ W.drew
  have hA2 : W.drew.heap[w.heap.size]? = some (.cells (tabV (xs.set k (gx xs k + 1)) l) 44 (0, 0)) := hA
  have hZ2 : W.drew.heap[w.heap.size + 1]? = some (.cells Try.zeroCells44 44 (0, 0)) := hZ
  have hB2 : Below w.heap.size w W.drew := hB.drew
  generalize W.drew = V at q1 q2 hA2 hZ2 hB2 ⊢
  have hA3 := (heap_setCell_same V w.heap.size (8 + c * 8 + k) _ 44 (.int .u32 (gx xs (8 + c * 8 + k) + 1)) hA2).trans (congrArg (fun z => some (Obj.cells z 44 (0, 0))) s2)
  have hZ3 := (heap_setCell_other V ⟨w.heap.size, 8 + c * 8 + k, none⟩ (w.heap.size + 1) (.int .u32 (gx xs (8 + c * 8 + k) + 1)) (by simp)).trans hZ2
  have hB3 := below_set (g := w.heap.size) (j := 8 + c * 8 + k) (v := .int .u32 (gx xs (8 + c * 8 + k) + 1)) hB2 (Nat.le_refl _)
  generalize hy : (xs.set k (gx xs k + 1)).set (8 + c * 8 + k) (gx xs (8 + c * 8 + k) + 1) = ys at hA3 s2 ⊢
  have hlen : ys.length = 136 := by rw [← hy, List.length_set, List.length_set]; exact hx
  have hi := tab_info44 ys l hlen
  have ho := tab_one ys l
  have hz := tab_zero44 ys l hlen
  generalize hV : V.setCell ⟨w.heap.size, 8 + c * 8 + k, none⟩ (.int .u32 (gx xs (8 + c * 8 + k) + 1)) = U at hA3 hZ3 hB3
  clear hA hZ hB hW g1 g2 g3 s1 s2 hx hr
  go_wp2_with (first | (rw [hV]; clear hV; refine wpList_load_row rfl 44 _ rfl w.heap.size rfl 44 _ (0, 0) _ hA3 Try.underlying44 rfl hi ?_) | refine wpList_store_row rfl 44 _ _ rfl (w.heap.size + 1) _ rfl rfl 44 _ hZ3 hi hz ho ?_)
  exact bodyPost_ret (end_tab rfl _ U _ _ _ hZ3 rfl Try.underlying44 hi) rfl ⟨by rw [hy]; rfl, below_setRow hB3 (by omega) _⟩

set_option maxRecDepth 100000 in
theorem radd_err (xs : List Int) (l c k e : Int) (w : World) (hx : xs.length = 136) (h : (c < 0 ∨ 16 ≤ c) ∧ e = 12 ∨ (0 ≤ c ∧ c < 16 ∧ (k < 0 ∨ 8 ≤ k)) ∧ e = 13 ∨
      (0 ≤ c ∧ c < 16 ∧ 0 ≤ k ∧ k < 8 ∧ (gx xs k.toNat = 4294967295 ∨ gx xs (8 + c.toNat * 8 + k.toNat) = 4294967295)) ∧ e = 9) :
    Calls Try.prog 23 #[.agg (tabV xs l), .int .i64 c, .int .i64 k] w fun r w' => r = .returned (.tuple #[.agg (tabV xs l), .int .i64 e]) ∧ Below w.heap.size w w' := by
  have hA := heap_alloc2_old w (.cells (tabV xs l) 44) (.cells Try.zeroCells44 44)
  have hZ := heap_alloc2_new w (.cells (tabV xs l) 44) (.cells Try.zeroCells44 44)
  have hB : Below w.heap.size w ((w.alloc (.cells (tabV xs l) 44)).alloc (.cells Try.zeroCells44 44)) := below_alloc (below_alloc (Below.refl _ _) _) _
  have hi := tab_info44 xs l hx
  have ho := tab_one xs l
  have hz := tab_zero44 xs l hx
  rcases h with ⟨h, rfl⟩ | ⟨⟨h1, h2, h⟩, rfl⟩ | ⟨⟨h1, h2, h3, h4, h⟩, rfl⟩
  · have c1 : (decide (c < 0) || decide (16 ≤ c)) = true := by simpa using h
    by_cases h1 : c < 0
    · have c2 : decide (c < 0) = true := decide_eq_true h1
      go_enter Try.func23, Try.ntmps23
      go_wp2_with (first | refine wpList_load_row rfl 44 _ rfl w.heap.size rfl 44 _ (0, 0) _ hA Try.underlying44 rfl hi ?_ | refine wpList_store_row rfl 44 _ _ rfl (w.heap.size + 1) _ rfl rfl 44 _ hZ hi hz ho ?_)
      exact bodyPost_ret (end_tab rfl _ _ _ _ _ hZ rfl Try.underlying44 hi) rfl ⟨rfl, below_setRow hB (by omega) _⟩
    · have c2 : decide (c < 0) = false := decide_eq_false h1
      have c3 : decide (16 ≤ c) = true := decide_eq_true (by omega)
      go_enter Try.func23, Try.ntmps23
      go_wp2_with (first | refine wpList_load_row rfl 44 _ rfl w.heap.size rfl 44 _ (0, 0) _ hA Try.underlying44 rfl hi ?_ | refine wpList_store_row rfl 44 _ _ rfl (w.heap.size + 1) _ rfl rfl 44 _ hZ hi hz ho ?_)
      exact bodyPost_ret (end_tab rfl _ _ _ _ _ hZ rfl Try.underlying44 hi) rfl ⟨rfl, below_setRow hB (by omega) _⟩
  · have c1 : decide (c < 0) = false := decide_eq_false (by omega)
    have c2 : decide (16 ≤ c) = false := decide_eq_false (by omega)
    by_cases h3 : k < 0
    · have c3 : decide (k < 0) = true := decide_eq_true h3
      go_enter Try.func23, Try.ntmps23
      go_wp2_with (first | refine wpList_load_row rfl 44 _ rfl w.heap.size rfl 44 _ (0, 0) _ hA Try.underlying44 rfl hi ?_ | refine wpList_store_row rfl 44 _ _ rfl (w.heap.size + 1) _ rfl rfl 44 _ hZ hi hz ho ?_)
      exact bodyPost_ret (end_tab rfl _ _ _ _ _ hZ rfl Try.underlying44 hi) rfl ⟨rfl, below_setRow hB (by omega) _⟩
    · have c3 : decide (k < 0) = false := decide_eq_false h3
      have c4 : decide (8 ≤ k) = true := decide_eq_true (by omega)
      go_enter Try.func23, Try.ntmps23
      go_wp2_with (first | refine wpList_load_row rfl 44 _ rfl w.heap.size rfl 44 _ (0, 0) _ hA Try.underlying44 rfl hi ?_ | refine wpList_store_row rfl 44 _ _ rfl (w.heap.size + 1) _ rfl rfl 44 _ hZ hi hz ho ?_)
      exact bodyPost_ret (end_tab rfl _ _ _ _ _ hZ rfl Try.underlying44 hi) rfl ⟨rfl, below_setRow hB (by omega) _⟩
  · obtain ⟨C, rfl⟩ := Int.eq_ofNat_of_zero_le h1
    obtain ⟨K, rfl⟩ := Int.eq_ofNat_of_zero_le h3
    rw [Int.toNat_natCast, Int.toNat_natCast] at h
    have c1 : decide ((C : Int) < 0) = false := decide_eq_false (by omega)
    have c2 : decide (16 ≤ (C : Int)) = false := decide_eq_false (by omega)
    have c3 : decide ((K : Int) < 0) = false := decide_eq_false (by omega)
    have c4 : decide (8 ≤ (K : Int)) = false := decide_eq_false (by omega)
    have g1 := tabV_get xs l K (by omega)
    have g2 := tabV_get xs l (8 + C * 8 + K) (by omega)
    by_cases h5 : gx xs K = 4294967295
    · have c5 : (gx xs K == 4294967295) = true := by simpa using h5
      go_enter Try.func23, Try.ntmps23
      go_wp2_with (first | refine wpList_load_row rfl 44 _ rfl w.heap.size rfl 44 _ (0, 0) _ hA Try.underlying44 rfl hi ?_ | refine wpList_store_row rfl 44 _ _ rfl (w.heap.size + 1) _ rfl rfl 44 _ hZ hi hz ho ?_)
      exact bodyPost_ret (end_tab rfl _ _ _ _ _ hZ rfl Try.underlying44 hi) rfl ⟨rfl, below_setRow hB (by omega) _⟩
    · have c5 : (gx xs K == 4294967295) = false := by simpa using h5
      have c6 : (gx xs (8 + C * 8 + K) == 4294967295) = true := by simpa using h.resolve_left h5
      go_enter Try.func23, Try.ntmps23
      go_wp2_with (first | refine wpList_load_row rfl 44 _ rfl w.heap.size rfl 44 _ (0, 0) _ hA Try.underlying44 rfl hi ?_ | refine wpList_store_row rfl 44 _ _ rfl (w.heap.size + 1) _ rfl rfl 44 _ hZ hi hz ho ?_)
      exact bodyPost_ret (end_tab rfl _ _ _ _ _ hZ rfl Try.underlying44 hi) rfl ⟨rfl, below_setRow hB (by omega) _⟩

theorem radd_calls (xs : List Int) (l c k : Int) (w : World) (hx : xs.length = 136) (hr : ∀ x ∈ xs, 0 ≤ x ∧ x < 4294967296) :
    Calls Try.prog 23 #[.agg (tabV xs l), .int .i64 c, .int .i64 k] w fun e w' => e = .returned (.tuple #[.agg (tabV (addX xs c k).1 l), .int .i64 (addX xs c k).2]) ∧ Below w.heap.size w w' := by
  unfold addX
  by_cases h1 : c < 0 ∨ 16 ≤ c
  · rw [if_pos h1]; exact radd_err xs l c k 12 w hx (.inl ⟨h1, rfl⟩)
  rw [if_neg h1]
  by_cases h2 : k < 0 ∨ 8 ≤ k
  · rw [if_pos h2]; exact radd_err xs l c k 13 w hx (.inr (.inl ⟨⟨by omega, by omega, h2⟩, rfl⟩))
  rw [if_neg h2]
  by_cases h3 : gx xs k.toNat = 4294967295 ∨ gx xs (8 + c.toNat * 8 + k.toNat) = 4294967295
  · rw [if_pos h3]; exact radd_err xs l c k 9 w hx (.inr (.inr ⟨⟨by omega, by omega, by omega, by omega, h3⟩, rfl⟩))
  rw [if_neg h3]
  have := radd_ok xs l c.toNat k.toNat w hx hr (by omega) (by omega) (fun h => h3 (.inl h)) (fun h => h3 (.inr h))
  rw [Int.toNat_of_nonneg (by omega), Int.toNat_of_nonneg (by omega)] at this
  exact this
end Go.Proofs.Ytdmmklfphkgmlaa.Tb
