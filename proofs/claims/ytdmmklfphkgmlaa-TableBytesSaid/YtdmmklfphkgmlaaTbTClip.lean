/- table: what is clipped of a table. -/
import Derived.Test.YtdmmklfphkgmlaaTbClip
namespace Go.Proofs.Ytdmmklfphkgmlaa.Tb
set_option linter.unusedSimpArgs false
open Go.Proofs.Ytdmmklfphkgmlaa.Seg Go.RowKit Go.Proofs.YtdmmklfphkgmlaaW.PrintWords Go.Proofs.YtdmmklfphkgmlaaW.PrintLast Go.Proofs.YtdmmklfphkgmlaaW.PrintMore Go.Proofs.Ytdmmklfphkgmlaa.Om

theorem clipJ_start (xs : List Int) (l : Int) (m n : Nat) (hx : xs.length = 136) : spl (tabV xs l) 0 (rowV (rowC (rowI xs 0) n 8)).toList = tabV (clipJ xs m n 0) l := by
  apply spl_row _ _ _ _ _ hx (clipJ_len _ _ _ _) (rowC_len _ _ _) (by omega)
  intro q hq
  rw [gx_clipJ _ _ _ _ _ hq]
  by_cases h : q < 8
  · rw [if_pos (show q < 8 + 0 * 8 by omega), if_pos (show 0 ≤ q ∧ q < 0 + 8 by omega), Nat.sub_zero, gx_rowC _ _ _ _ h, gx_rowI _ _ _ h, Nat.zero_add]
    by_cases h2 : q < n
    · rw [if_pos (show q / 8 ≤ m ∧ q % 8 < n by omega), if_neg (show ¬ (n ≤ q ∧ q < 8) by omega)]
    · rw [if_neg (show ¬ (q / 8 ≤ m ∧ q % 8 < n) by omega), if_pos (show n ≤ q ∧ q < 8 by omega)]
  · rw [if_neg (show ¬ q < 8 + 0 * 8 by omega), if_neg (show ¬ (0 ≤ q ∧ q < 0 + 8) by omega)]
theorem clipJ_next (xs : List Int) (l : Int) (m n j : Nat) (hj : j < 16) (hm : j < m) :
    spl (tabV (clipJ xs m n j) l) (8 + j * 8) (rowV (rowC (rowI (clipJ xs m n j) (8 + j * 8)) n 8)).toList = tabV (clipJ xs m n (j + 1)) l := by
  apply spl_row _ _ _ _ _ (clipJ_len _ _ _ _) (clipJ_len _ _ _ _) (rowC_len _ _ _) (by omega)
  intro q hq
  rw [gx_clipJ _ _ _ _ _ hq]
  by_cases h : 8 + j * 8 ≤ q ∧ q < 8 + j * 8 + 8
  · rw [if_pos (show q < 8 + (j + 1) * 8 by omega), if_pos h, gx_rowC _ _ _ _ (by omega), gx_rowI _ _ _ (by omega), show 8 + j * 8 + (q - (8 + j * 8)) = q by omega, gx_clipJ _ _ _ _ _ hq, if_neg (show ¬ q < 8 + j * 8 by omega)]
    by_cases h2 : q % 8 < n
    · rw [if_pos (show q / 8 ≤ m ∧ q % 8 < n by omega), if_neg (show ¬ (n ≤ q - (8 + j * 8) ∧ q - (8 + j * 8) < 8) by omega)]
    · rw [if_neg (show ¬ (q / 8 ≤ m ∧ q % 8 < n) by omega), if_pos (show n ≤ q - (8 + j * 8) ∧ q - (8 + j * 8) < 8 by omega)]
  · rw [if_neg h, gx_clipJ _ _ _ _ _ hq]
    by_cases h2 : q < 8 + j * 8
    · rw [if_pos (show q < 8 + (j + 1) * 8 by omega), if_pos h2]
    · rw [if_neg (show ¬ q < 8 + (j + 1) * 8 by omega), if_neg h2]
theorem clipJ_zero (xs : List Int) (l : Int) (m n j : Nat) (hj : j < 16) (hm : m ≤ j) :
    spl (tabV (clipJ xs m n j) l) (8 + j * 8) (rowV (List.replicate 8 0)).toList = tabV (clipJ xs m n (j + 1)) l := by
  apply spl_row _ _ _ _ _ (clipJ_len _ _ _ _) (clipJ_len _ _ _ _) (by simp) (by omega)
  intro q hq
  rw [gx_clipJ _ _ _ _ _ hq]
  by_cases h : 8 + j * 8 ≤ q ∧ q < 8 + j * 8 + 8
  · rw [if_pos (show q < 8 + (j + 1) * 8 by omega), if_neg (show ¬ (q / 8 ≤ m ∧ q % 8 < n) by omega), if_pos h]
    simp only [gx, List.getD_eq_getElem?_getD, List.getElem?_replicate]
    split <;> rfl
  · rw [if_neg h, gx_clipJ _ _ _ _ _ hq]
    by_cases h2 : q < 8 + j * 8
    · rw [if_pos (show q < 8 + (j + 1) * 8 by omega), if_pos h2]
    · rw [if_neg (show ¬ q < 8 + (j + 1) * 8 by omega), if_neg h2]
theorem clipJ_still (xs : List Int) (l : Int) (m n j : Nat) (hj : j < 16) (hm : m ≤ j) :
    spl (tabV (clipJ xs m n (j + 1)) l) (8 + j * 8) (rowV (rowC (rowI (clipJ xs m n (j + 1)) (8 + j * 8)) n 8)).toList = tabV (clipJ xs m n (j + 1)) l := by
  apply spl_row _ _ _ _ _ (clipJ_len _ _ _ _) (clipJ_len _ _ _ _) (rowC_len _ _ _) (by omega)
  intro q hq
  rw [gx_clipJ _ _ _ _ _ hq]
  by_cases h : 8 + j * 8 ≤ q ∧ q < 8 + j * 8 + 8
  · rw [if_pos h, gx_rowC _ _ _ _ (by omega), gx_rowI _ _ _ (by omega), show 8 + j * 8 + (q - (8 + j * 8)) = q by omega, gx_clipJ _ _ _ _ _ hq, if_pos (show q < 8 + (j + 1) * 8 by omega), if_neg (show ¬ (q / 8 ≤ m ∧ q % 8 < n) by omega)]
    split <;> rfl
  · rw [if_neg h]

/-- The table's box and the result's. -/
def RC (w : World) (a b : Array Value) (W : World) : Prop := Below w.heap.size w W ∧ W.heap[w.heap.size]? = some (.cells a 39 (0, 0)) ∧ W.heap[w.heap.size + 1]? = some (.cells b 39 (0, 0))
theorem RC.step {w W W' : World} {a b : Array Value} (h : RC w a b W) (hb : Below W.heap.size W W') : RC w a b W' :=
  ⟨h.1.trans (hb.mono h.1.size), (hb.block _ (Array.getElem?_eq_some_iff.1 h.2.1).1).trans h.2.1, (hb.block _ (Array.getElem?_eq_some_iff.1 h.2.2).1).trans h.2.2⟩
theorem RC.set {w W : World} {a b : Array Value} (h : RC w a b W) (c : Array Value) : RC w c b (W.setRow w.heap.size c) :=
  ⟨below_setRow h.1 (Nat.le_refl _) _, setRow_heap _ _ _ _ _ _ h.2.1, (setRow_other _ _ _ _ (by omega)).trans h.2.2⟩

set_option maxRecDepth 100000 in
set_option maxHeartbeats 1000000 in
theorem clip_calls (xs : List Int) (l : Int) (m n : Nat) (w : World) (hx : xs.length = 136) (hn : n ≤ 8) :
    Calls Try.prog 60 #[.agg (tabV xs l), .int .i64 (m : Int), .int .i64 (n : Int)] w fun e w' => e = .returned (.agg (tabV (clipL xs m n) l)) ∧ Below w.heap.size w w' := by
  have hA := heap_alloc2_old w (.cells (tabV xs l) 39) (.cells Try.zeroCells39 39)
  have hZ := heap_alloc2_new w (.cells (tabV xs l) 39) (.cells Try.zeroCells39 39)
  have H0 := Aside0.mk (show RC w (tabV xs l) Try.zeroCells39 ((w.alloc (.cells (tabV xs l) 39)).alloc (.cells Try.zeroCells39 39)) from ⟨below_alloc (below_alloc (Below.refl _ _) _) _, hA, hZ⟩)
  have hi0 : (Try.prog.info? 36).map (·.size) = some (rowL xs 0).length := by rw [rowL_len xs 0 hx (by omega)]; exact info36
  have hr0 := rowL_at xs l 0 hx (by omega)
  clear hZ
  go_enter Try.func60, Try.ntmps60
  go_wp2_with (refine wpList_load_seg rfl 36 _ rfl w.heap.size 0 rfl 39 _ (0, 0) (rowL xs 0) _ hA hr0 Try.underlying36 rfl hi0 ?_)
  refine (rclip_calls (rowI xs 0) n _ (rowI_len xs 0 hx (by omega)) hn).mono ?_
  rintro x w1 ⟨rfl, h1⟩
  have H1 := Aside0.mk (H0.out.step h1)
  have hA1 := H1.out.2.1
  have hi1 : (Try.prog.info? 36).map (·.size) = some (rowV (rowC (rowI xs 0) n 8)).size := by rw [rowV_size _ (rowC_len _ _ _)]; exact info36
  have hf1 : 0 + (rowV (rowC (rowI xs 0) n 8)).size ≤ (tabV xs l).size := by rw [rowV_size _ (rowC_len _ _ _), tabV_size, hx]; omega
  have ho1 := rowV_one (rowC (rowI xs 0) n 8)
  have E1 := Aside0.mk (clipJ_start xs l m n hx)
  have H2 := Aside0.mk (H1.out.set (tabV (clipJ xs m n 0) l))
  clear h1 hA hi0 hr0 H0 H1
  go_wp2_with (refine wpList_store_seg rfl 36 _ _ rfl w.heap.size 0 _ rfl rfl 39 _ hA1 hi1 hf1 ho1 ?_; rw [E1.out])
  clear hA1 hi1 hf1 ho1 E1
  generalize w1.setRow w.heap.size (tabV (clipJ xs m n 0) l) = W1 at H2 ⊢
  go_loopw [13] (fun i wr => ∃ (j : Nat), i = .int .i64 j ∧ j ≤ 16 ∧ Aside0 (RC w (tabV (clipJ xs m n j) l) Try.zeroCells39 wr)) (fun i _ => 16 - (intOf i).toNat)
  case atStart => exact ⟨0, rfl, by omega, H2⟩
  case round =>
    obtain ⟨j, rfl, hj, HS⟩ := hrel
    clear H2
    by_cases hlt : j < 16
    · have hx1 : 0 ≤ (j : Int) := by omega
      have hx2 : (j : Int) < 16 := by omega
      by_cases hjm : m ≤ j
      · have c1 : decide ((m : Int) ≤ (j : Int)) = true := decide_eq_true (by omega)
        have c2 : decide (m ≤ j) = true := decide_eq_true hjm
        have hA1 := HS.out.2.1
        have hi1 : (Try.prog.info? 36).map (·.size) = some (rowV (List.replicate 8 0)).size := by rw [rowV_size _ (by simp)]; exact info36
        have hf1 : 8 + j * 8 + (rowV (List.replicate 8 0)).size ≤ (tabV (clipJ xs m n j) l).size := by rw [rowV_size _ (by simp), tabV_size, clipJ_len]; omega
        have ho1 := rowV_one (List.replicate 8 0)
        have E1 := Aside0.mk (clipJ_zero xs l m n j hlt hjm)
        have H2 := Aside0.mk (HS.out.set (tabV (clipJ xs m n (j + 1)) l))
        have hA2 := H2.out.2.1
        have hlen := clipJ_len xs m n (j + 1)
        have hi2 : (Try.prog.info? 36).map (·.size) = some (rowL (clipJ xs m n (j + 1)) (8 + j * 8)).length := by rw [rowL_len _ _ hlen (by omega)]; exact info36
        have hr2 := rowL_at (clipJ xs m n (j + 1)) l (8 + j * 8) hlen (by omega)
        have KR := Aside0.mk (fun V => rclip_calls (rowI (clipJ xs m n (j + 1)) (8 + j * 8)) n V (rowI_len _ _ hlen (by omega)) hn)
        have E2 := Aside0.mk (clipJ_still xs l m n j hlt hjm)
        clear HS hjm hlen
        go_wp2_with (first | (refine wpList_store_seg rfl 36 _ (.tmp 20) rfl w.heap.size (8 + j * 8) (rowV (List.replicate 8 0)) rfl rfl 39 _ hA1 hi1 hf1 ho1 ?_; rw [E1.out]) | refine wpList_load_seg rfl 36 _ rfl w.heap.size (8 + j * 8) rfl 39 _ (0, 0) (rowL (clipJ xs m n (j + 1)) (8 + j * 8)) _ hA2 hr2 Try.underlying36 rfl hi2 ?_)
        refine (KR.out _).mono ?_
        rintro x w2 ⟨rfl, h2⟩
        have H3 := Aside0.mk (H2.out.step h2)
        have hA3 := H3.out.2.1
        have hi3 : (Try.prog.info? 36).map (·.size) = some (rowV (rowC (rowI (clipJ xs m n (j + 1)) (8 + j * 8)) n 8)).size := by rw [rowV_size _ (rowC_len _ _ _)]; exact info36
        have hf3 : 8 + j * 8 + (rowV (rowC (rowI (clipJ xs m n (j + 1)) (8 + j * 8)) n 8)).size ≤ (tabV (clipJ xs m n (j + 1)) l).size := by rw [rowV_size _ (rowC_len _ _ _), tabV_size, clipJ_len]; omega
        have ho3 := rowV_one (rowC (rowI (clipJ xs m n (j + 1)) (8 + j * 8)) n 8)
        have H4 := Aside0.mk (H3.out.set (tabV (clipJ xs m n (j + 1)) l))
        clear h2 H2 hA2 hr2 hi2 H3
        go_wp2_with (refine wpList_store_seg rfl 36 _ _ rfl w.heap.size (8 + j * 8) _ rfl rfl 39 _ hA3 hi3 hf3 ho3 ?_; rw [E2.out])
        go_roundw
        case rel => exact ⟨j + 1, by go_num, by omega, H4⟩
        case measure => simp [intOf]; omega
      · have c1 : decide ((m : Int) ≤ (j : Int)) = false := decide_eq_false (by omega)
        have c2 : decide (m ≤ j) = false := decide_eq_false hjm
        have hA2 := HS.out.2.1
        have hlen := clipJ_len xs m n j
        have hi2 : (Try.prog.info? 36).map (·.size) = some (rowL (clipJ xs m n j) (8 + j * 8)).length := by rw [rowL_len _ _ hlen (by omega)]; exact info36
        have hr2 := rowL_at (clipJ xs m n j) l (8 + j * 8) hlen (by omega)
        have KR := Aside0.mk (fun V => rclip_calls (rowI (clipJ xs m n j) (8 + j * 8)) n V (rowI_len _ _ hlen (by omega)) hn)
        have E2 := Aside0.mk (clipJ_next xs l m n j hlt (by omega))
        clear hlen hjm
        go_wp2_with (refine wpList_load_seg rfl 36 _ rfl w.heap.size (8 + j * 8) rfl 39 _ (0, 0) (rowL (clipJ xs m n j) (8 + j * 8)) _ hA2 hr2 Try.underlying36 rfl hi2 ?_)
        refine (KR.out _).mono ?_
        rintro x w2 ⟨rfl, h2⟩
        have H3 := Aside0.mk (HS.out.step h2)
        have hA3 := H3.out.2.1
        have hi3 : (Try.prog.info? 36).map (·.size) = some (rowV (rowC (rowI (clipJ xs m n j) (8 + j * 8)) n 8)).size := by rw [rowV_size _ (rowC_len _ _ _)]; exact info36
        have hf3 : 8 + j * 8 + (rowV (rowC (rowI (clipJ xs m n j) (8 + j * 8)) n 8)).size ≤ (tabV (clipJ xs m n j) l).size := by rw [rowV_size _ (rowC_len _ _ _), tabV_size, clipJ_len]; omega
        have ho3 := rowV_one (rowC (rowI (clipJ xs m n j) (8 + j * 8)) n 8)
        have H4 := Aside0.mk (H3.out.set (tabV (clipJ xs m n (j + 1)) l))
        clear h2 HS hA2 hr2 hi2 H3
        go_wp2_with (refine wpList_store_seg rfl 36 _ _ rfl w.heap.size (8 + j * 8) _ rfl rfl 39 _ hA3 hi3 hf3 ho3 ?_; rw [E2.out])
        go_roundw
        case rel => exact ⟨j + 1, by go_num, by omega, H4⟩
        case measure => simp [intOf]; omega
    · have hge : j = 16 := by omega
      subst hge
      rw [clipJ_all] at HS
      have hA := HS.out.2.1
      have hZ := HS.out.2.2
      have hlen := clipL_len xs m n
      have hi := tab_info39 (clipL xs m n) l hlen
      have ho := tab_one (clipL xs m n) l
      have hz := tab_zero39 (clipL xs m n) l hlen
      go_wp2_with (first | refine wpList_load_row rfl 39 _ rfl w.heap.size rfl 39 _ (0, 0) _ hA Try.underlying39 rfl hi ?_ | refine wpList_store_row rfl 39 _ _ rfl (w.heap.size + 1) _ rfl rfl 39 _ hZ hi hz ho ?_)
      exact bodyPost_ret (results_cell_row rfl _ _ (w.heap.size + 1) 39 _ (0, 0) _ rfl (setRow_heap _ _ _ _ _ _ hZ) Try.underlying39 rfl hi) rfl ⟨rfl, below_setRow HS.out.1 (by omega) _⟩
end Go.Proofs.Ytdmmklfphkgmlaa.Tb
