/- table: the document's row and Covers. -/
import Derived.Test.YtdmmklfphkgmlaaTbCov
namespace Go.Proofs.Ytdmmklfphkgmlaa.Tb
open Go.Proofs.Ytdmmklfphkgmlaa.Seg Go.RowKit Go.Proofs.YtdmmklfphkgmlaaW.PrintWords Go.Proofs.YtdmmklfphkgmlaaW.PrintLast Go.Proofs.YtdmmklfphkgmlaaW.PrintMore Go.Proofs.Ytdmmklfphkgmlaa.Om

set_option maxRecDepth 100000 in
theorem row_calls (xs : List Int) (l : Int) (i : Nat) (w : World) (hx : xs.length = 136) (hi : i < 17) :
    Calls Try.prog 49 #[.agg (tabV xs l), .int .i64 (i : Int)] w fun e w' => e = .returned (.agg (rowV (rowI xs (i * 8)))) ∧ Below w.heap.size w w' := by
  have hR := heap_alloc2_old w (.cells (tabV xs l) 44) (.cells #[.int .u32 0, .int .u32 0, .int .u32 0, .int .u32 0, .int .u32 0, .int .u32 0, .int .u32 0, .int .u32 0] 41)
  have hZ := heap_alloc2_new w (.cells (tabV xs l) 44) (.cells #[.int .u32 0, .int .u32 0, .int .u32 0, .int .u32 0, .int .u32 0, .int .u32 0, .int .u32 0, .int .u32 0] 41)
  have hB : Below w.heap.size w ((w.alloc (.cells (tabV xs l) 44)).alloc (.cells #[.int .u32 0, .int .u32 0, .int .u32 0, .int .u32 0, .int .u32 0, .int .u32 0, .int .u32 0, .int .u32 0] 41)) := below_alloc (below_alloc (Below.refl _ _) _) _
  have i1 : ∀ k, k ≤ 128 → (Try.prog.info? 41).map (·.size) = some (rowL xs k).length := fun k hk => by rw [rowL_len xs k hx hk]; exact info41
  have i2 : ∀ k, k ≤ 128 → (Try.prog.info? 41).map (·.size) = some (rowL xs k).toArray.size := fun k hk => by rw [List.size_toArray, rowL_len xs k hx hk]; exact info41
  have i3 : ∀ k, k ≤ 128 → (#[.int .u32 0, .int .u32 0, .int .u32 0, .int .u32 0, .int .u32 0, .int .u32 0, .int .u32 0, .int .u32 0] : Array Value).size = (rowL xs k).toArray.size := fun k hk => by simp only [List.size_toArray]; rw [rowL_len xs k hx hk]; rfl
  cases i with
  | zero =>
    have a1 := i1 0 (by omega)
    have a2 := i2 0 (by omega)
    have a3 := i3 0 (by omega)
    have r1 := rowL_at xs l 0 hx (by omega)
    have ho := rowL_one xs 0
    clear i1 i2 i3
    go_enter Try.func49, Try.ntmps49
    go_wp2_with (first | refine wpList_load_seg rfl 41 _ rfl w.heap.size 0 rfl 44 _ (0, 0) (rowL xs 0) _ hR r1 Try.underlying41 rfl a1 ?_ | refine wpList_store_row rfl 41 _ _ rfl (w.heap.size + 1) _ rfl rfl 41 _ hZ a2 a3 ho ?_)
    exact bodyPost_ret (results_cell_row rfl _ _ (w.heap.size + 1) 41 _ (0, 0) _ rfl (setRow_heap _ _ _ _ _ _ hZ) Try.underlying41 rfl a2) rfl ⟨rfl, below_setRow hB (by omega) _⟩
  | succ j =>
    have a1 := i1 (8 + j * 8) (by omega)
    have a2 := i2 (8 + j * 8) (by omega)
    have a3 := i3 (8 + j * 8) (by omega)
    have r1 := rowL_at xs l (8 + j * 8) hx (by omega)
    have ho := rowL_one xs (8 + j * 8)
    have e1 : (((j : Int) + 1) == 0) = false := by simp; omega
    have e2 : ((j + 1 : Nat) : Int) = (j : Int) + 1 := by omega
    have hj1 : 0 ≤ (j : Int) := by omega
    have hj2 : (j : Int) < 16 := by omega
    have hE : (j + 1) * 8 = 8 + j * 8 := by omega
    rw [e2, hE]
    clear hi i1 i2 i3
    go_enter Try.func49, Try.ntmps49
    go_wp2_with (first | refine wpList_load_seg rfl 41 _ rfl w.heap.size (8 + j * 8) rfl 44 _ (0, 0) (rowL xs (8 + j * 8)) _ hR r1 Try.underlying41 rfl a1 ?_ | refine wpList_store_row rfl 41 _ _ rfl (w.heap.size + 1) _ rfl rfl 41 _ hZ a2 a3 ho ?_)
    exact bodyPost_ret (results_cell_row rfl _ _ (w.heap.size + 1) 41 _ (0, 0) _ rfl (setRow_heap _ _ _ _ _ _ hZ) Try.underlying41 rfl a2) rfl ⟨rfl, below_setRow hB (by omega) _⟩

def covR (xs ys : List Int) (n : Nat) : Bool := (List.range n).all fun i => covB (rowI xs (i * 8)) (rowI ys (i * 8)) 8
theorem covR_succ (xs ys : List Int) (n : Nat) : covR xs ys (n + 1) = (covR xs ys n && covB (rowI xs (n * 8)) (rowI ys (n * 8)) 8) := by
  simp [covR, List.range_succ]
theorem covR_false (xs ys : List Int) (n m : Nat) (h : n < m) (hf : covB (rowI xs (n * 8)) (rowI ys (n * 8)) 8 = false) : covR xs ys m = false := by
  simp only [covR, Bool.eq_false_iff, ne_eq, List.all_eq_true, List.mem_range]
  intro hh; have := hh n h; rw [hf] at this; cases this
theorem covR_T (xs ys : List Int) : covR xs ys 17 = covT xs ys := by
  unfold covR covT covN
  rw [List.range_succ_eq_map, List.all_cons, List.all_map, Bool.and_comm, Nat.zero_mul]
  congr 1

theorem index_row {t e : TypeId} (ht : Try.prog.underlying t = some (.array 8 e)) (he : Try.prog.underlying e = some (.int .u32)) (hi : (Try.prog.info? e).map (·.size) = some 1) (r : List Int) (k : Nat) (hk : k < 8) (hl : r.length = 8) (w : World) :
    (Instr.index t (.agg (rowV r)) (.int .i64 (k : Int))).run Try.prog w = .ok (.int .u32 (gx r k)) w := by
  have h1 : (0 : Int) ≤ k ∧ (k : Int) < (8 : Nat) := by omega
  have g := rowV_get r k (by omega)
  cases hq : Try.prog.info? e with
  | none => simp [hq] at hi
  | some i =>
    have hs : i.size = 1 := by simpa [hq] using hi
    simp only [Instr.index, asIntOf, Sem.run_bind, Sem.run_pure, Result.andThen_ok, run_underlying ht, sizeOf, typeInfo, run_program, hq, hs, if_pos h1, Int.toNat_natCast, Nat.mul_one]
    exact run_part_int he _ _ _ g w
def RS4 (w : World) (a b : Array Value) (W : World) : Prop := Below w.heap.size w W ∧ W.heap[w.heap.size]? = some (.cells a 44 (0, 0)) ∧ W.heap[w.heap.size + 1]? = some (.cells b 44 (0, 0))
theorem RS4.step {w W W' : World} {a b : Array Value} (h : RS4 w a b W) (hb : Below W.heap.size W W') : RS4 w a b W' :=
  ⟨h.1.trans (hb.mono h.1.size), (hb.block _ (Array.getElem?_eq_some_iff.1 h.2.1).1).trans h.2.1, (hb.block _ (Array.getElem?_eq_some_iff.1 h.2.2).1).trans h.2.2⟩

set_option maxRecDepth 100000 in
set_option maxHeartbeats 4000000 in
theorem rcovers_calls (xs ys : List Int) (l m : Int) (w : World) (hx : xs.length = 136) (hy : ys.length = 136) :
    Calls Try.prog 30 #[.agg (tabV xs l), .agg (tabV ys m)] w fun e w' => e = .returned (.bool (covT xs ys)) ∧ Below w.heap.size w w' := by
  have hR := heap_alloc2_old w (.cells (tabV xs l) 44) (.cells (tabV ys m) 44)
  have hS := heap_alloc2_new w (.cells (tabV xs l) 44) (.cells (tabV ys m) 44)
  have HB := Aside0.mk (show Below w.heap.size w ((w.alloc (.cells (tabV xs l) 44)).alloc (.cells (tabV ys m) 44)) from below_alloc (below_alloc (Below.refl _ _) _) _)
  go_enter Try.func30, Try.ntmps30
  go_wp2_with fail
  generalize (w.alloc (.cells (tabV xs l) 44)).alloc (.cells (tabV ys m) 44) = W at hR hS HB ⊢
  go_loopw [5] (fun i wr => ∃ (j : Nat), i = .int .i64 j ∧ j ≤ 17 ∧ covR xs ys j = true ∧ Aside0 (RS4 w (tabV xs l) (tabV ys m) wr)) (fun i _ => 17 - (intOf i).toNat)
  case atStart => exact ⟨0, rfl, by omega, rfl, ⟨⟨HB.out, hR, hS⟩⟩⟩
  case round =>
    obtain ⟨i, rfl, hi, hcv, HS⟩ := hrel
    clear hR hS HB
    have HC := Aside0.mk hcv
    clear hcv
    by_cases hlt : i < 17
    · have hx1 : 0 ≤ (i : Int) := by omega
      have hx2 : (i : Int) < 17 := by omega
      go_wp2_with fail
      go_loopw [6] (fun k wr => ∃ (j : Nat), k = .int .i64 j ∧ j ≤ 8 ∧ covB (rowI xs (i * 8)) (rowI ys (i * 8)) j = true ∧ Aside0 (RS4 w (tabV xs l) (tabV ys m) wr)) (fun k _ => 8 - (intOf k).toNat)
      case atStart => exact ⟨0, rfl, by omega, rfl, HS⟩
      case round =>
        obtain ⟨k, rfl, hk, hck, HQ⟩ := hrel
        have HCK := Aside0.mk hck
        clear hck HS
        by_cases hlk : k < 8
        · have hy1 : 0 ≤ (k : Int) := by omega
          have hy2 : (k : Int) < 8 := by omega
          have lx := rowI_len xs (i * 8) hx (by omega)
          have ly := rowI_len ys (i * 8) hy (by omega)
          have gX := index_row Try.underlying41 Try.underlying34 info34 (rowI xs (i * 8)) k hlk lx
          have gY := index_row Try.underlying41 Try.underlying34 info34 (rowI ys (i * 8)) k hlk ly
          have k1 : ∀ V : World, Below wr.heap.size wr V → (Instr.loadAt 44 (.pointer (some ⟨w.heap.size, 0, none⟩))).run Try.prog V = .ok (.agg (tabV xs l)) V := fun V h => load44 (HQ.out.step h).2.1 (tab_info44 xs l hx)
          have k2 : ∀ V : World, Below wr.heap.size wr V → (Instr.loadAt 44 (.pointer (some ⟨w.heap.size + 1, 0, none⟩))).run Try.prog V = .ok (.agg (tabV ys m)) V := fun V h => load44 (HQ.out.step h).2.2 (tab_info44 ys m hy)
          have KX := Aside0.mk (fun V => row_calls xs l i V hx hlt)
          have KY := Aside0.mk (fun V => row_calls ys m i V hy hlt)
          go_wp2_with fail
          refine wp_region_held_drew (S := fun V => Below wr.heap.size wr V) (by kernel_rfl) (below_drew (Below.refl _ _)) (fun hHeld => ?_)
          refine take_at (i := 0) (some 15) (.agg (tabV ys m)) rfl rfl (by kernel_rfl) (by kernel_rfl) (by kernel_rfl) (fun _ _ _ h => h) (yieldsIf_load (by rfl) 44 (.tmp 3) rfl (.pointer (some ⟨w.heap.size + 1, 0, none⟩)) rfl _ k2) hHeld ?_
          refine take_at (i := 1) (some 16) (.int .i64 i) rfl rfl (by kernel_rfl) (by kernel_rfl) (by kernel_rfl) (fun _ _ _ h => h) (Or.inl ⟨by rfl, fun w hSw => by go_simp⟩) hHeld ?_
          refine take_at (i := 3) (some 18) (.int .i64 k) rfl rfl (by kernel_rfl) (by kernel_rfl) (by kernel_rfl) (fun _ _ _ h => h) (Or.inl ⟨by rfl, fun w hSw => by go_simp⟩) hHeld ?_
          refine take_at (i := 5) (some 20) (.agg (tabV xs l)) rfl rfl (by kernel_rfl) (by kernel_rfl) (by kernel_rfl) (fun _ _ _ h => h) (yieldsIf_load (by rfl) 44 (.tmp 2) rfl (.pointer (some ⟨w.heap.size, 0, none⟩)) rfl _ k1) hHeld ?_
          refine take_at (i := 6) (some 21) (.int .i64 i) rfl rfl (by kernel_rfl) (by kernel_rfl) (by kernel_rfl) (fun _ _ _ h => h) (Or.inl ⟨by rfl, fun w hSw => by go_simp⟩) hHeld ?_
          refine take_at (i := 8) (some 23) (.int .i64 k) rfl rfl (by kernel_rfl) (by kernel_rfl) (by kernel_rfl) (fun _ _ _ h => h) (Or.inl ⟨by rfl, fun w hSw => by go_simp⟩) hHeld ?_
          simp only [Act.put, List.setIfInBounds_toArray, List.set_cons_zero, List.set_cons_succ]
          refine wpAnyH_ready (rs := [2]) (by kernel_rfl) (by simp) (AllReadyH.cons rfl (fun K hK => ?_) AllReadyH.nil)
          go_simp
          refine (KY.out _).mono ?_
          rintro x w5 ⟨rfl, hb⟩
          refine hK.out _ _ (Below.trans hHeld (hb.mono (Below.size hHeld))) (fun hH2 => ?_)
          clear hK K hb hHeld
          refine take_at (i := 4) (some 19) (.int .u32 (gx (rowI ys (i * 8)) k)) rfl rfl (by kernel_rfl) (by kernel_rfl) (by kernel_rfl) (fun _ _ _ h => h) (Or.inl ⟨by rfl, fun w hSw => by go_simp⟩) hH2 ?_
          simp only [Act.put, List.setIfInBounds_toArray, List.set_cons_zero, List.set_cons_succ]
          refine wpAnyH_ready (rs := [7]) (by kernel_rfl) (by simp) (AllReadyH.cons rfl (fun K hK => ?_) AllReadyH.nil)
          go_simp
          refine (KX.out _).mono ?_
          rintro x w6 ⟨rfl, hb⟩
          refine hK.out _ _ (Below.trans hH2 (hb.mono (Below.size hH2))) (fun hH3 => ?_)
          clear hK K hb hH2
          refine take_at (i := 9) (some 24) (.int .u32 (gx (rowI xs (i * 8)) k)) rfl rfl (by kernel_rfl) (by kernel_rfl) (by kernel_rfl) (fun _ _ _ h => h) (Or.inl ⟨by rfl, fun w hSw => by go_simp⟩) hH3 ?_
          refine take_at (i := 10) (some 25) (.bool (decide (gx (rowI xs (i * 8)) k < gx (rowI ys (i * 8)) k))) rfl rfl (by kernel_rfl) (by kernel_rfl) (by kernel_rfl) (fun _ _ _ h => h) (Or.inl ⟨by rfl, fun w hSw => by go_simp⟩) hH3 ?_
          refine wpAnyH_done (by kernel_rfl) ?_ _
          simp only [Act.put, List.setIfInBounds_toArray, List.set_cons_zero, List.set_cons_succ]
          have HX := Aside0.mk (HQ.out.step hH3)
          clear hH3 k1 k2
          by_cases hc : gx (rowI xs (i * 8)) k < gx (rowI ys (i * 8)) k
          · have hd : decide (gx (rowI xs (i * 8)) k < gx (rowI ys (i * 8)) k) = true := decide_eq_true hc
            have HF := Aside0.mk (covR_false xs ys i 17 hlt (covB_false _ _ k 8 hlk hc))
            clear gX gY KX KY
            go_wp2
            go_ret
            exact ⟨by rw [← covR_T, HF.out]; rfl, HX.out.1⟩
          · have hd : decide (gx (rowI xs (i * 8)) k < gx (rowI ys (i * 8)) k) = false := decide_eq_false hc
            have HN := Aside0.mk (show covB (rowI xs (i * 8)) (rowI ys (i * 8)) (k + 1) = true by rw [covB_succ, HCK.out, Bool.true_and]; exact decide_eq_true (by omega))
            clear gX gY KX KY
            go_wp2
            go_roundw
            case rel => exact ⟨k + 1, by go_num, by omega, HN.out, HX⟩
            case measure => simp [intOf]; omega
        · have hge : k = 8 := by omega
          subst hge
          have HN := Aside0.mk (show covR xs ys (i + 1) = true by rw [covR_succ, HC.out, HCK.out]; rfl)
          go_wp2
          go_roundw
          case rel => exact ⟨i + 1, by go_num, by omega, HN.out, HQ⟩
          case measure => simp [intOf]; omega
    · have hge : i = 17 := by omega
      subst hge
      go_wp2
      go_ret
      exact ⟨by rw [← covR_T, HC.out]; rfl, HS.out.1⟩
end Go.Proofs.Ytdmmklfphkgmlaa.Tb
