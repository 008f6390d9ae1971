/- table: sizes, and what is clipped of a row and of a table. -/
import Derived.Test.YtdmmklfphkgmlaaTbBytP
namespace Go.Proofs.Ytdmmklfphkgmlaa.Tb
set_option linter.unusedSimpArgs false
open Go.Proofs.Ytdmmklfphkgmlaa.Seg Go.RowKit Go.Proofs.YtdmmklfphkgmlaaW.PrintWords Go.Proofs.YtdmmklfphkgmlaaW.PrintLast Go.Proofs.YtdmmklfphkgmlaaW.PrintMore Go.Proofs.Ytdmmklfphkgmlaa.Om

theorem sizes_calls (m n : Int) (w : World) : Calls Try.prog 59 #[.int .i64 m, .int .i64 n] w fun e w' => e = .returned (.bool (szB m n)) ∧ w = w' := by
  by_cases h1 : 1 ≤ m
  · have c1 : decide (1 ≤ m) = true := decide_eq_true h1
    by_cases h2 : m ≤ 16
    · have c2 : decide (m ≤ 16) = true := decide_eq_true h2
      by_cases h3 : 1 ≤ n
      · have c3 : decide (1 ≤ n) = true := decide_eq_true h3
        by_cases h4 : n ≤ 8
        · have c4 : decide (n ≤ 8) = true := decide_eq_true h4
          have E : szB m n = true := decide_eq_true ⟨h1, h2, h3, h4⟩
          rw [E]
          clear E
          go_enter Try.func59, Try.ntmps59
          go_wp2
          go_ret
          exact ⟨rfl, rfl⟩
        · have c4 : decide (n ≤ 8) = false := decide_eq_false h4
          have E : szB m n = false := decide_eq_false (by omega)
          rw [E]
          clear E
          go_enter Try.func59, Try.ntmps59
          go_wp2
          go_ret
          exact ⟨rfl, rfl⟩
      · have c3 : decide (1 ≤ n) = false := decide_eq_false h3
        have E : szB m n = false := decide_eq_false (by omega)
        rw [E]
        clear E
        go_enter Try.func59, Try.ntmps59
        go_wp2
        go_ret
        exact ⟨rfl, rfl⟩
    · have c2 : decide (m ≤ 16) = false := decide_eq_false h2
      have E : szB m n = false := decide_eq_false (by omega)
      rw [E]
      clear E
      go_enter Try.func59, Try.ntmps59
      go_wp2
      go_ret
      exact ⟨rfl, rfl⟩
  · have c1 : decide (1 ≤ m) = false := decide_eq_false h1
    have E : szB m n = false := decide_eq_false (by omega)
    rw [E]
    clear E
    go_enter Try.func59, Try.ntmps59
    go_wp2
    go_ret
    exact ⟨rfl, rfl⟩

/-- A row whose counts from n on, below i, are struck. -/
def rowC (r : List Int) (n i : Nat) : List Int := (List.range 8).map fun j => if n ≤ j ∧ j < i then 0 else gx r j
theorem rowC_len (r : List Int) (n i : Nat) : (rowC r n i).length = 8 := by simp [rowC]
theorem rowC_same (r : List Int) (n : Nat) (h : r.length = 8) : rowC r n n = r := by
  apply List.ext_getElem (by rw [rowC_len, h])
  intro j h1 h2
  simp only [rowC, List.getElem_map, List.getElem_range]
  rw [if_neg (by omega)]
  simp [gx, List.getD, List.getElem?_eq_getElem h2]
theorem rowC_set (r : List Int) (n i : Nat) (h : n ≤ i) : (rowV (rowC r n i)).setIfInBounds i (.int .u32 0) = rowV (rowC r n (i + 1)) := by
  have e : (rowC r n i).set i 0 = rowC r n (i + 1) := by
    apply List.ext_getElem (by simp [rowC])
    intro j h1 h2
    rw [List.getElem_set]
    simp only [rowC, List.getElem_map, List.getElem_range]
    by_cases h3 : i = j
    · subst h3; rw [if_pos rfl, if_pos ⟨h, by omega⟩]
    · rw [if_neg h3]
      by_cases h4 : n ≤ j ∧ j < i
      · rw [if_pos h4, if_pos ⟨h4.1, by omega⟩]
      · rw [if_neg h4, if_neg (by omega)]
  simp only [rowV, List.setIfInBounds_toArray, ← e, List.map_set]
theorem rowV_one (r : List Int) : (rowV r).all (·.oneCell') = true := by
  rw [Array.all_eq_true_iff_forall_mem]
  intro v hv
  simp only [rowV, List.mem_toArray, List.mem_map] at hv
  obtain ⟨x, _, rfl⟩ := hv
  rfl
theorem rowV_size (r : List Int) (h : r.length = 8) : (rowV r).size = 8 := by simp [rowV, h]

set_option maxRecDepth 100000 in
theorem rclip_calls (r : List Int) (n : Nat) (w : World) (hl : r.length = 8) (hn : n ≤ 8) :
    Calls Try.prog 64 #[.agg (rowV r), .int .i64 (n : Int)] w fun e w' => e = .returned (.agg (rowV (rowC r n 8))) ∧ Below w.heap.size w w' := by
  have hR := heap_alloc2_old w (.cells (rowV r) 36) (.cells #[.int .u32 0, .int .u32 0, .int .u32 0, .int .u32 0, .int .u32 0, .int .u32 0, .int .u32 0, .int .u32 0] 36)
  have hZ := heap_alloc2_new w (.cells (rowV r) 36) (.cells #[.int .u32 0, .int .u32 0, .int .u32 0, .int .u32 0, .int .u32 0, .int .u32 0, .int .u32 0, .int .u32 0] 36)
  have HB := Aside0.mk (show Below w.heap.size w ((w.alloc (.cells (rowV r) 36)).alloc (.cells #[.int .u32 0, .int .u32 0, .int .u32 0, .int .u32 0, .int .u32 0, .int .u32 0, .int .u32 0, .int .u32 0] 36)) from below_alloc (below_alloc (Below.refl _ _) _) _)
  go_enter Try.func64, Try.ntmps64
  go_wp2_with fail
  generalize (w.alloc (.cells (rowV r) 36)).alloc (.cells #[.int .u32 0, .int .u32 0, .int .u32 0, .int .u32 0, .int .u32 0, .int .u32 0, .int .u32 0, .int .u32 0] 36) = W at hR hZ HB ⊢
  have H0 := Aside0.mk (show RS2 w (rowV (rowC r n n)) #[.int .u32 0, .int .u32 0, .int .u32 0, .int .u32 0, .int .u32 0, .int .u32 0, .int .u32 0, .int .u32 0] W from ⟨HB.out, by rw [rowC_same r n hl]; exact hR, hZ⟩)
  clear hR hZ HB
  go_loopw [5] (fun i wr => ∃ (j : Nat), i = .int .i64 j ∧ n ≤ j ∧ j ≤ 8 ∧ Aside0 (RS2 w (rowV (rowC r n j)) #[.int .u32 0, .int .u32 0, .int .u32 0, .int .u32 0, .int .u32 0, .int .u32 0, .int .u32 0, .int .u32 0] wr)) (fun i _ => 8 - (intOf i).toNat)
  case atStart => exact ⟨n, rfl, Nat.le_refl _, hn, H0⟩
  case round =>
    obtain ⟨j, rfl, hnj, hj, HS⟩ := hrel
    clear H0
    by_cases hlt : j < 8
    · have hx1 : 0 ≤ (j : Int) := by omega
      have hx2 : (j : Int) < 8 := by omega
      have g1 := cell_of_row wr w.heap.size j _ _ _ HS.out.2.1
      rw [rowV_get (rowC r n j) j (by rw [rowC_len]; omega)] at g1
      have f1 := frozen_of_row wr w.heap.size j _ _ HS.out.2.1
      have e1 := rowC_set r n j hnj
      have H2 := Aside0.mk (show RS2 w (rowV (rowC r n (j + 1))) #[.int .u32 0, .int .u32 0, .int .u32 0, .int .u32 0, .int .u32 0, .int .u32 0, .int .u32 0, .int .u32 0] (wr.setCell ⟨w.heap.size, j, none⟩ (.int .u32 0)) from
        ⟨below_set (g := w.heap.size) (j := j) HS.out.1 (Nat.le_refl _), (heap_setCell_same wr w.heap.size j _ 36 _ HS.out.2.1).trans (congrArg (fun z => some (Obj.cells z 36 (0, 0))) e1),
          (heap_setCell_other wr ⟨w.heap.size, j, none⟩ (w.heap.size + 1) _ (by simp)).trans HS.out.2.2⟩)
      clear HS e1
      go_wp2
      go_roundw
      case rel => exact ⟨j + 1, by go_num, by omega, by omega, H2⟩
      case measure => simp [intOf]; omega
    · have hge : j = 8 := by omega
      subst hge
      have hA := HS.out.2.1
      have hZ := HS.out.2.2
      have hi : (Try.prog.info? 36).map (·.size) = some (rowV (rowC r n 8)).size := by rw [rowV_size _ (rowC_len _ _ _)]; exact info36
      have ho := rowV_one (rowC r n 8)
      have hz : (#[.int .u32 0, .int .u32 0, .int .u32 0, .int .u32 0, .int .u32 0, .int .u32 0, .int .u32 0, .int .u32 0] : Array Value).size = (rowV (rowC r n 8)).size := by rw [rowV_size _ (rowC_len _ _ _)]; rfl
      go_wp2_with (first | refine wpList_load_row rfl 36 _ rfl w.heap.size rfl 36 _ (0, 0) _ hA Try.underlying36 rfl hi ?_ | refine wpList_store_row rfl 36 _ _ rfl (w.heap.size + 1) _ rfl rfl 36 _ hZ hi hz ho ?_)
      exact bodyPost_ret (results_cell_row rfl _ _ (w.heap.size + 1) 36 _ (0, 0) _ rfl (setRow_heap _ _ _ _ _ _ hZ) Try.underlying36 rfl hi) rfl ⟨rfl, below_setRow HS.out.1 (by omega) _⟩

/-- A table whose first j contacts' rows (and the row of all) are clipped. -/
def clipJ (xs : List Int) (m n j : Nat) : List Int := (List.range 136).map fun q => if q < 8 + j * 8 then (if q / 8 ≤ m ∧ q % 8 < n then gx xs q else 0) else gx xs q
theorem clipJ_len (xs : List Int) (m n j : Nat) : (clipJ xs m n j).length = 136 := by simp [clipJ]
theorem gx_clipJ (xs : List Int) (m n j q : Nat) (h : q < 136) : gx (clipJ xs m n j) q = if q < 8 + j * 8 then (if q / 8 ≤ m ∧ q % 8 < n then gx xs q else 0) else gx xs q := gx_map _ q h
theorem clipJ_all (xs : List Int) (m n : Nat) : clipJ xs m n 16 = clipL xs m n := by
  apply ext_gx (clipJ_len _ _ _ _) (clipL_len _ _ _)
  intro q hq
  rw [gx_clipJ _ _ _ _ _ hq, gx_clipL _ _ _ _ hq, if_pos (by omega)]
theorem gx_rowC (r : List Int) (n i j : Nat) (hj : j < 8) : gx (rowC r n i) j = if n ≤ j ∧ j < i then 0 else gx r j := by
  simp [gx, rowC, List.getD, List.getElem?_map, List.getElem?_range hj]
/-- A row put into a table's cells. -/
theorem spl_row (ys zs r : List Int) (l : Int) (k : Nat) (hy : ys.length = 136) (hz : zs.length = 136) (hr : r.length = 8) (hk : k ≤ 128)
    (h : ∀ q, q < 136 → gx zs q = if k ≤ q ∧ q < k + 8 then gx r (q - k) else gx ys q) : spl (tabV ys l) k (rowV r).toList = tabV zs l := by
  have hl : (rowV r).toList.length = 8 := by simp [rowV, hr]
  apply Array.ext_getElem?
  intro q
  rw [spl_get _ _ _ (by rw [hl, tabV_size, hy]; omega), hl, tabV_at _ _ hy, tabV_at _ _ hz]
  by_cases hq : q < 136
  · rw [if_pos hq, if_pos hq, h q hq]
    by_cases h1 : k ≤ q ∧ q < k + 8
    · rw [if_pos h1, if_pos h1, Array.getElem?_toList, rowV_get _ _ (by omega)]
    · rw [if_neg h1, if_neg h1]
  · rw [if_neg hq, if_neg hq, if_neg (by omega)]
end Go.Proofs.Ytdmmklfphkgmlaa.Tb
