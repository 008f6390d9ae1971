/- table: Of. -/
import Derived.Test.YtdmmklfphkgmlaaTbSeen
import Derived.Test.YtdmmklfphkgmlaaSeg
namespace Go.Proofs.Ytdmmklfphkgmlaa.Tb
open Go.Proofs.Ytdmmklfphkgmlaa.Seg Go.RowKit Go.Proofs.YtdmmklfphkgmlaaW.PrintWords Go.Proofs.YtdmmklfphkgmlaaW.PrintLast Go.Proofs.YtdmmklfphkgmlaaW.PrintMore Go.Proofs.Ytdmmklfphkgmlaa.Om

/-- Eight counts from k on. -/
def rowL (xs : List Int) (k : Nat) : List Value := ((xs.drop k).take 8).map (fun x => Value.int .u32 x)
theorem rowL_len (xs : List Int) (k : Nat) (hx : xs.length = 136) (hk : k ≤ 128) : (rowL xs k).length = 8 := by simp [rowL]; omega
theorem rowL_at (xs : List Int) (l : Int) (k : Nat) (hx : xs.length = 136) (hk : k ≤ 128) (j : Nat) (v : Value) (h : (rowL xs k)[j]? = some v) : (tabV xs l)[k + j]? = some v := by
  have hj : j < 8 := by
    have := (List.getElem?_eq_some_iff.1 h).1
    rw [rowL_len xs k hx hk] at this; exact this
  rw [tabV_get xs l (k + j) (by omega), ← h]
  simp only [rowL, List.getElem?_map, List.getElem?_take, List.getElem?_drop, if_pos hj, gx, List.getD_eq_getElem?_getD]
  rw [List.getElem?_eq_getElem (show k + j < xs.length by omega)]
  rfl
theorem rowL_one (xs : List Int) (k : Nat) : (rowL xs k).toArray.all (·.oneCell') = true := by
  rw [Array.all_eq_true_iff_forall_mem]
  intro v hv
  simp only [rowL, List.mem_toArray, List.mem_map] at hv
  obtain ⟨x, _, rfl⟩ := hv
  rfl
theorem info36 : (Try.prog.info? 36).map (·.size) = some 8 := by kernel_rfl
theorem info41 : (Try.prog.info? 41).map (·.size) = some 8 := by kernel_rfl

theorem tabV_at (xs : List Int) (l : Int) (hx : xs.length = 136) (k : Nat) : (tabV xs l)[k]? = if k < 136 then some (.int .u32 (gx xs k)) else if k = 136 then some (.int .u64 l) else none := by
  by_cases h : k < 136
  · rw [if_pos h]; exact tabV_get xs l k (by omega)
  · rw [if_neg h]
    by_cases h2 : k = 136
    · rw [if_pos h2, h2, ← hx]; exact tabV_last xs l
    · rw [if_neg h2]; exact Array.getElem?_eq_none (by rw [tabV_size]; omega)
theorem rowL_get (xs : List Int) (n : Nat) (hx : xs.length = 136) (hn : n ≤ 128) (j : Nat) : (rowL xs n)[j]? = if j < 8 then some (.int .u32 (gx xs (n + j))) else none := by
  by_cases h : j < 8
  · have h2 : (rowL xs n)[j]? = some ((rowL xs n)[j]'(by rw [rowL_len xs n hx hn]; exact h)) := List.getElem?_eq_getElem _
    rw [if_pos h, h2]
    have := rowL_at xs 0 n hx hn j _ h2
    rw [tabV_at xs 0 hx, if_pos (by omega)] at this
    exact this.symm
  · rw [if_neg h]; exact List.getElem?_eq_none (by rw [rowL_len xs n hx hn]; omega)
/-- The first n counts, then zeros. -/
def pre (xs : List Int) (n : Nat) : List Int := xs.take n ++ List.replicate (136 - n) 0
theorem pre_len (xs : List Int) (n : Nat) (hx : xs.length = 136) (hn : n ≤ 136) : (pre xs n).length = 136 := by simp [pre]; omega
theorem pre_all (xs : List Int) (hx : xs.length = 136) : pre xs 136 = xs := by simp [pre, List.take_of_length_le (Nat.le_of_eq hx)]
theorem gx_pre (xs : List Int) (n k : Nat) (hx : xs.length = 136) (hn : n ≤ 136) : gx (pre xs n) k = if k < n then gx xs k else 0 := by
  unfold gx pre
  rw [List.getD_eq_getElem?_getD, List.getD_eq_getElem?_getD, List.getElem?_append]
  by_cases h : k < n
  · rw [if_pos (by simp; omega), if_pos h, List.getElem?_take, if_pos h]
  · rw [if_neg (by simp; omega), if_neg h, List.getElem?_replicate]
    split <;> rfl
theorem spl_pre (xs : List Int) (l : Int) (n : Nat) (hx : xs.length = 136) (hn : n ≤ 128) : spl (tabV (pre xs n) l) n (rowL xs n) = tabV (pre xs (n + 8)) l := by
  apply Array.ext_getElem?
  intro k
  rw [spl_get _ _ _ (by rw [rowL_len xs n hx hn, tabV_size, pre_len xs n hx (by omega)]; omega), rowL_len xs n hx hn, tabV_at _ l (pre_len xs (n + 8) hx (by omega)), tabV_at _ l (pre_len xs n hx (by omega)), rowL_get xs n hx hn, gx_pre xs n k hx (by omega), gx_pre xs (n + 8) k hx (by omega)]
  by_cases h : n ≤ k ∧ k < n + 8
  · rw [if_pos h, if_pos (by omega), if_pos (by omega), if_pos (by omega), show n + (k - n) = k by omega]
  · rw [if_neg h]
    by_cases h2 : k < 136
    · rw [if_pos h2, if_pos h2]
      by_cases h3 : k < n
      · rw [if_pos h3, if_pos (by omega)]
      · rw [if_neg h3, if_neg (by omega)]
    · rw [if_neg h2, if_neg h2]

theorem foldl_spl : ∀ (vs : List Value) (k : Nat) (cs : Array Value), k + vs.length ≤ cs.size → (vs.zipIdx k).foldl (fun cs x => cs.setIfInBounds x.2 x.1) cs = spl cs k vs
  | [], k, cs, _ => by simp [spl]
  | v :: vs, k, cs, h => by
    simp only [List.length_cons] at h
    rw [List.zipIdx_cons, List.foldl_cons, foldl_spl vs (k + 1) _ (by simp; omega)]
    apply Array.ext_getElem?
    intro i
    rw [spl_get _ _ _ (by simp; omega), spl_get _ _ _ (by simp; omega), List.length_cons]
    by_cases hk : k = i
    · subst hk
      rw [if_neg (by omega), if_pos (by omega), Nat.sub_self]
      simp [show k < cs.size by omega]
    · by_cases hk2 : k < i ∧ i < k + (vs.length + 1)
      · rw [if_pos (by omega), if_pos (by omega), show i - k = (i - (k + 1)) + 1 by omega]; simp
      · rw [if_neg (by omega), if_neg (by omega)]
        simp [hk]

theorem zero44 : Try.zeroCells44 = tabV (List.replicate 136 0) 0 := by kernel_rfl

/-- Of's state behind j rounds. -/
def OfT (w : World) (xs : List Int) (l : Int) (j : Nat) (W : World) : Prop :=
  Below w.heap.size w W ∧ W.heap[w.heap.size]? = some (.cells (tabV xs l) 39 (0, 0)) ∧ W.heap[w.heap.size + 1]? = some (.cells Try.zeroCells44 44 (0, 0)) ∧ W.heap[w.heap.size + 1 + 1]? = some (.cells (tabV (pre xs (8 + j * 8)) l) 44 (0, 0))

set_option maxRecDepth 100000 in
theorem of_calls (xs : List Int) (l : Int) (w : World) (hx : xs.length = 136) :
    Calls Try.prog 19 #[.agg (tabV xs l)] w fun e w' => e = .returned (.agg (tabV xs l)) ∧ Below w.heap.size w w' := by
  have g1 : (tabV xs l)[136]? = some (.int .u64 l) := by rw [← hx]; exact tabV_last xs l
  have hA := heap_alloc2_old w (.cells (tabV xs l) 39) (.cells Try.zeroCells44 44)
  have hZ := heap_alloc2_new w (.cells (tabV xs l) 39) (.cells Try.zeroCells44 44)
  have hB : Below w.heap.size w ((w.alloc (.cells (tabV xs l) 39)).alloc (.cells Try.zeroCells44 44)) := below_alloc (below_alloc (Below.refl _ _) _) _
  have hl0 := rowL_len xs 0 hx (by omega)
  have hi0 : (Try.prog.info? 36).map (·.size) = some (rowL xs 0).length := by rw [hl0]; exact info36
  have hf : List.foldl (fun cs x => cs.setIfInBounds x.2 x.1) Try.zeroCells44 (rowL xs 0).zipIdx = tabV (pre xs 8) 0 := by
    rw [foldl_spl _ _ _ (by rw [hl0, zero44, tabV_size]; simp), zero44, show List.replicate 136 0 = pre xs 0 by simp [pre]]
    exact spl_pre xs 0 0 hx (by omega)
  have hf2 : (tabV (pre xs 8) 0).setIfInBounds 136 (.int .u64 l) = tabV (pre xs 8) l := by
    rw [← pre_len xs 8 hx (by omega)]; exact tabV_setLast _ _ _
  have hfz : (tabV (pre xs 8) 0).size = 137 := by rw [tabV_size, pre_len xs 8 hx (by omega)]
  have hM : (((w.alloc (.cells (tabV xs l) 39)).alloc (.cells Try.zeroCells44 44)).alloc (.cells Try.zeroCells44 44)).heap[w.heap.size + 1 + 1]? = some (.cells Try.zeroCells44 44 (0, 0)) := by
    have := heap_alloc2_new (w.alloc (.cells (tabV xs l) 39)) (.cells Try.zeroCells44 44) (.cells Try.zeroCells44 44)
    simpa using this
  have hA' : (((w.alloc (.cells (tabV xs l) 39)).alloc (.cells Try.zeroCells44 44)).alloc (.cells Try.zeroCells44 44)).heap[w.heap.size]? = some (.cells (tabV xs l) 39 (0, 0)) := (heap_alloc_old _ _ (by simp; omega)).trans hA
  have hZ' : (((w.alloc (.cells (tabV xs l) 39)).alloc (.cells Try.zeroCells44 44)).alloc (.cells Try.zeroCells44 44)).heap[w.heap.size + 1]? = some (.cells Try.zeroCells44 44 (0, 0)) := (heap_alloc_old _ _ (by simp)).trans hZ
  have hB' : Below w.heap.size w (((w.alloc (.cells (tabV xs l) 39)).alloc (.cells Try.zeroCells44 44)).alloc (.cells Try.zeroCells44 44)) := below_alloc hB _
  have hfs : (tabV (pre xs 8) l).size = 137 := by rw [tabV_size, pre_len xs 8 hx (by omega)]
  have hi8 := tab_info44 (pre xs 8) l (pre_len xs 8 hx (by omega))
  have ho8 := tab_one (pre xs 8) l
  have hz8 := tab_zero44 (pre xs 8) l (pre_len xs 8 hx (by omega))
  go_enter Try.func19, Try.ntmps19
  go_wp2_with (first | refine wpList_load_seg rfl 36 _ rfl w.heap.size 0 rfl 39 _ (0, 0) (rowL xs 0) _ hA' (by simpa using rowL_at xs l 0 hx (by omega)) Try.underlying36 rfl hi0 ?_ | refine wpList_load_seg rfl 36 _ rfl w.heap.size 0 rfl 39 _ (0, 0) (rowL xs 0) _ hA (by simpa using rowL_at xs l 0 hx (by omega)) Try.underlying36 rfl hi0 ?_ | refine wpList_store_row rfl 44 _ _ rfl (w.heap.size + 1 + 1) _ rfl rfl 44 _ hM hi8 hz8 ho8 ?_)
  go_loopw [10] (fun i wr => ∃ (j : Nat), i = .int .i64 j ∧ j ≤ 16 ∧ Aside0 (OfT w xs l j wr)) (fun i _ => 16 - (intOf i).toNat)
  case atStart =>
    refine ⟨0, rfl, by omega, ⟨⟨below_setRow hB' (by omega) _, (setRow_other _ _ _ _ (by omega)).trans hA', (setRow_other _ _ _ _ (by omega)).trans hZ', setRow_heap _ _ _ _ _ _ hM⟩⟩⟩
  case round =>
    obtain ⟨j, rfl, hj, HS⟩ := hrel
    by_cases hlt : j < 16
    · have hx1 : 0 ≤ (j : Int) := by omega
      have hx2 : (j : Int) < 16 := by omega
      have hlj := rowL_len xs (8 + j * 8) hx (by omega)
      have hij : (Try.prog.info? 36).map (·.size) = some (rowL xs (8 + j * 8)).length := by rw [hlj]; exact info36
      have hijs : (Try.prog.info? 41).map (·.size) = some (rowL xs (8 + j * 8)).toArray.size := by rw [List.size_toArray, hlj]; exact info41
      have hfit : 8 + j * 8 + (rowL xs (8 + j * 8)).toArray.size ≤ (tabV (pre xs (8 + j * 8)) l).size := by rw [List.size_toArray, hlj, tabV_size, pre_len xs _ hx (by omega)]; omega
      have hone := rowL_one xs (8 + j * 8)
      have hrow := rowL_at xs l (8 + j * 8) hx (by omega)
      have hA1 := HS.out.2.1
      have hM1 := HS.out.2.2.2
      have hnext : spl (tabV (pre xs (8 + j * 8)) l) (8 + j * 8) (rowL xs (8 + j * 8)).toArray.toList = tabV (pre xs (8 + (j + 1) * 8)) l := by
        have := spl_pre xs l (8 + j * 8) hx (by omega)
        rw [show 8 + (j + 1) * 8 = 8 + j * 8 + 8 by omega, ← this]
      have HE := Aside0.mk hnext
      clear hnext hA hZ hB hl0 hi0 hf hf2 hfz hM hA' hZ' hB' hfs hi8 ho8 hz8
      go_wp2_with (first | refine wpList_load_seg rfl 36 _ rfl w.heap.size (8 + j * 8) rfl 39 _ (0, 0) (rowL xs (8 + j * 8)) _ hA1 hrow Try.underlying36 rfl hij ?_ | (refine wpList_store_seg rfl 41 _ _ rfl (w.heap.size + 1 + 1) (8 + j * 8) _ rfl rfl 44 _ hM1 hijs hfit hone ?_; rw [HE.out]))
      go_roundw
      case rel => exact ⟨j + 1, by go_num, by omega, ⟨⟨below_setRow HS.out.1 (by omega) _, (setRow_other _ _ _ _ (by omega)).trans HS.out.2.1, (setRow_other _ _ _ _ (by omega)).trans HS.out.2.2.1, setRow_heap _ _ _ _ _ _ HS.out.2.2.2⟩⟩⟩
      case measure => simp [intOf]; omega
    · have hge : j = 16 := by omega
      subst hge
      have hM1 : wr.heap[w.heap.size + 1 + 1]? = some (.cells (tabV xs l) 44 (0, 0)) := by
        have := HS.out.2.2.2
        rw [show 8 + 16 * 8 = 136 from rfl, pre_all xs hx] at this; exact this
      have hZ1 := HS.out.2.2.1
      have hi := tab_info44 xs l hx
      have ho := tab_one xs l
      have hz := tab_zero44 xs l hx
      clear hA hZ hB hl0 hi0 hf hf2 hfz hM hA' hZ' hB' hfs hi8 ho8 hz8
      go_wp2_with (first | refine wpList_load_row rfl 44 _ rfl (w.heap.size + 1 + 1) rfl 44 _ (0, 0) _ hM1 Try.underlying44 rfl hi ?_ | refine wpList_store_row rfl 44 _ _ rfl (w.heap.size + 1) _ rfl rfl 44 _ hZ1 hi hz ho ?_)
      refine bodyPost_ret (v := .agg (tabV xs l)) (results_cell_row rfl _ _ (w.heap.size + 1) 44 _ (0, 0) _ rfl (setRow_heap _ _ _ _ _ _ hZ1) Try.underlying44 rfl hi) rfl ⟨rfl, below_setRow HS.out.1 (by omega) _⟩
end Go.Proofs.Ytdmmklfphkgmlaa.Tb
