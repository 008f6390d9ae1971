/- table: whether a row, and a table, covers another one. -/
import Derived.Test.YtdmmklfphkgmlaaTbSum
import Derived.Test.YtdmmklfphkgmlaaTbSteps
namespace Go.Proofs.Ytdmmklfphkgmlaa.Tb
open Go.Proofs.Ytdmmklfphkgmlaa.Seg Go.RowKit Go.Proofs.YtdmmklfphkgmlaaW.PrintWords Go.Proofs.YtdmmklfphkgmlaaW.PrintLast Go.Proofs.YtdmmklfphkgmlaaW.PrintMore Go.Proofs.Ytdmmklfphkgmlaa.Om

/-- The first n counts of s are not above r's. -/
def covB (r s : List Int) (n : Nat) : Bool := (List.range n).all fun i => decide (gx s i ≤ gx r i)
theorem covB_succ (r s : List Int) (n : Nat) : covB r s (n + 1) = (covB r s n && decide (gx s n ≤ gx r n)) := by
  simp [covB, List.range_succ]
theorem covB_false (r s : List Int) (n m : Nat) (h : n < m) (hf : gx r n < gx s n) : covB r s m = false := by
  simp only [covB, Bool.eq_false_iff, ne_eq, List.all_eq_true, decide_eq_true_eq, List.mem_range]
  intro hh; have := hh n h; omega

def RS2 (w : World) (a b : Array Value) (W : World) : Prop := Below w.heap.size w W ∧ W.heap[w.heap.size]? = some (.cells a 36 (0, 0)) ∧ W.heap[w.heap.size + 1]? = some (.cells b 36 (0, 0))
theorem RS2.drewN {w W : World} {a b : Array Value} (h : RS2 w a b W) (n : Nat) : RS2 w a b (W.drewN n) := ⟨pw_below_drewN h.1 n, by rw [World.heap_drewN]; exact h.2.1, by rw [World.heap_drewN]; exact h.2.2⟩

set_option maxRecDepth 100000 in
theorem rcov_calls (r s : List Int) (w : World) (hl : r.length = 8) (hs : s.length = 8) :
    Calls Try.prog 48 #[.agg (rowV r), .agg (rowV s)] w fun e w' => e = .returned (.bool (covB r s 8)) ∧ Below w.heap.size w w' := by
  have hR := heap_alloc2_old w (.cells (rowV r) 36) (.cells (rowV s) 36)
  have hS := heap_alloc2_new w (.cells (rowV r) 36) (.cells (rowV s) 36)
  have HB := Aside0.mk (show Below w.heap.size w ((w.alloc (.cells (rowV r) 36)).alloc (.cells (rowV s) 36)) from below_alloc (below_alloc (Below.refl _ _) _) _)
  go_enter Try.func48, Try.ntmps48
  go_wp2_with fail
  generalize (w.alloc (.cells (rowV r) 36)).alloc (.cells (rowV s) 36) = W at hR hS HB ⊢
  go_loopw [6] (fun i wr => ∃ (j : Nat), i = .int .i64 j ∧ j ≤ 8 ∧ covB r s j = true ∧ Aside0 (RS2 w (rowV r) (rowV s) wr)) (fun i _ => 8 - (intOf i).toNat)
  case atStart => exact ⟨0, rfl, by omega, rfl, ⟨⟨HB.out, hR, hS⟩⟩⟩
  case round =>
    obtain ⟨j, rfl, hj, hcv, HS⟩ := hrel
    clear hR hS HB
    have HC := Aside0.mk hcv
    clear hcv
    by_cases hlt : j < 8
    · have hx1 : 0 ≤ (j : Int) := by omega
      have hx2 : (j : Int) < 8 := by omega
      have g1 := (cell_of_row wr w.heap.size j _ _ _ HS.out.2.1).trans (rowV_get r j (by omega))
      have g2 := (cell_of_row wr (w.heap.size + 1) j _ _ _ HS.out.2.2).trans (rowV_get s j (by omega))
      by_cases hc : gx r j < gx s j
      · have hd : decide (gx r j < gx s j) = true := decide_eq_true hc
        have HF := Aside0.mk (covB_false r s j 8 hlt hc)
        go_wp2
        go_quiet (fail)
        go_wp2
        go_ret
        exact ⟨by rw [HF.out]; rfl, (HS.out.drewN nq).1⟩
      · have hd : decide (gx r j < gx s j) = false := decide_eq_false hc
        have HN := Aside0.mk (show covB r s (j + 1) = true by rw [covB_succ, HC.out, Bool.true_and]; exact decide_eq_true (by omega))
        go_wp2
        go_quiet (fail)
        go_wp2
        go_roundw
        case rel => exact ⟨j + 1, by go_num, by omega, HN.out, ⟨HS.out.drewN nq⟩⟩
        case measure => simp [intOf]; omega
    · have hge : j = 8 := by omega
      subst hge
      go_wp2
      go_ret
      exact ⟨by rw [HC.out]; rfl, HS.out.1⟩

/-- A table's counts are not above another's: the first n contacts. -/
def covN (xs ys : List Int) (n : Nat) : Bool := (List.range n).all fun i => covB (rowI xs (8 + i * 8)) (rowI ys (8 + i * 8)) 8
theorem covN_succ (xs ys : List Int) (n : Nat) : covN xs ys (n + 1) = (covN xs ys n && covB (rowI xs (8 + n * 8)) (rowI ys (8 + n * 8)) 8) := by
  simp [covN, List.range_succ]
theorem covN_false (xs ys : List Int) (n m : Nat) (h : n < m) (hf : covB (rowI xs (8 + n * 8)) (rowI ys (8 + n * 8)) 8 = false) : covN xs ys m = false := by
  simp only [covN, Bool.eq_false_iff, ne_eq, List.all_eq_true, List.mem_range]
  intro hh; have := hh n h; rw [hf] at this; cases this
def covT (xs ys : List Int) : Bool := covN xs ys 16 && covB (rowI xs 0) (rowI ys 0) 8

def RS3 (w : World) (a b : Array Value) (W : World) : Prop := Below w.heap.size w W ∧ W.heap[w.heap.size]? = some (.cells a 39 (0, 0)) ∧ W.heap[w.heap.size + 1]? = some (.cells b 39 (0, 0))
theorem RS3.step {w W W' : World} {a b : Array Value} (h : RS3 w a b W) (hb : Below W.heap.size W W') : RS3 w a b W' :=
  ⟨h.1.trans (hb.mono h.1.size), (hb.block _ (Array.getElem?_eq_some_iff.1 h.2.1).1).trans h.2.1, (hb.block _ (Array.getElem?_eq_some_iff.1 h.2.2).1).trans h.2.2⟩
theorem load_seg {W : World} {b k t q n : Nat} {e : TypeId} (hu : Try.prog.underlying t = some (.array n e)) (hi : (Try.prog.info? t).map (·.size) = some 8) {xs0 : Array Value} (h : W.heap[b]? = some (.cells xs0 q (0, 0))) (xs : List Int) (l : Int) (hx : xs.length = 136) (hk : k ≤ 128) (he : xs0 = tabV xs l := by rfl) :
    (Instr.loadAt t (.pointer (some ⟨b, k, none⟩))).run Try.prog W = .ok (.agg (rowV (rowI xs k))) W := by
  subst he
  simp only [Instr.loadAt, Instr.sureAddr, Sem.run_bind, Sem.run_pure, Result.andThen_ok, run_loadVar_seg W b k q t (tabV xs l) (0, 0) (rowL xs k) _ h (rowL_at xs l k hx hk) hu rfl (by rw [rowL_len xs k hx hk]; exact hi)]
  rfl

set_option maxRecDepth 100000 in
set_option maxHeartbeats 2000000 in
theorem cov_calls (xs ys : List Int) (l m : Int) (w : World) (hx : xs.length = 136) (hy : ys.length = 136) :
    Calls Try.prog 29 #[.agg (tabV xs l), .agg (tabV ys m)] w fun e w' => e = .returned (.bool (covT xs ys)) ∧ Below w.heap.size w w' := by
  have hR := heap_alloc2_old w (.cells (tabV xs l) 39) (.cells (tabV ys m) 39)
  have hS := heap_alloc2_new w (.cells (tabV xs l) 39) (.cells (tabV ys m) 39)
  have HB := Aside0.mk (show Below w.heap.size w ((w.alloc (.cells (tabV xs l) 39)).alloc (.cells (tabV ys m) 39)) from below_alloc (below_alloc (Below.refl _ _) _) _)
  go_enter Try.func29, Try.ntmps29
  go_wp2_with fail
  generalize (w.alloc (.cells (tabV xs l) 39)).alloc (.cells (tabV ys m) 39) = W at hR hS HB ⊢
  go_loopw [6] (fun i wr => ∃ (j : Nat), i = .int .i64 j ∧ j ≤ 16 ∧ covN xs ys j = true ∧ Aside0 (RS3 w (tabV xs l) (tabV ys m) wr)) (fun i _ => 16 - (intOf i).toNat)
  case atStart => exact ⟨0, rfl, by omega, rfl, ⟨⟨HB.out, hR, hS⟩⟩⟩
  case round =>
    obtain ⟨j, rfl, hj, hcv, HS⟩ := hrel
    clear hR hS HB
    have HC := Aside0.mk hcv
    clear hcv
    by_cases hlt : j < 16
    · have hx1 : 0 ≤ (j : Int) := by omega
      have hx2 : (j : Int) < 16 := by omega
      have k1 : ∀ V : World, Below wr.heap.size wr V → (Instr.loadAt 36 (.pointer (some ⟨w.heap.size, 8 + j * 8, none⟩))).run Try.prog V = .ok (.agg (rowV (rowI xs (8 + j * 8)))) V := fun V h =>
        load_seg Try.underlying36 info36 ((h.block _ (Array.getElem?_eq_some_iff.1 HS.out.2.1).1).trans HS.out.2.1) xs l hx (by omega)
      have k2 : ∀ V : World, Below wr.heap.size wr V → (Instr.loadAt 36 (.pointer (some ⟨w.heap.size + 1, 8 + j * 8, none⟩))).run Try.prog V = .ok (.agg (rowV (rowI ys (8 + j * 8)))) V := fun V h =>
        load_seg Try.underlying36 info36 ((h.block _ (Array.getElem?_eq_some_iff.1 HS.out.2.2).1).trans HS.out.2.2) ys m hy (by omega)
      have KO := Aside0.mk (fun V => rcov_calls (rowI xs (8 + j * 8)) (rowI ys (8 + j * 8)) V (rowI_len xs _ hx (by omega)) (rowI_len ys _ hy (by omega)))
      obtain ⟨cb, hcb⟩ : ∃ b, covB (rowI xs (8 + j * 8)) (rowI ys (8 + j * 8)) 8 = b := ⟨_, rfl⟩
      rw [hcb] at KO
      have HCB := Aside0.mk hcb
      clear hcb
      go_wp2_with fail
      refine wp_region_held_drew (S := fun V => Below wr.heap.size wr V) (by kernel_rfl) (below_drew (Below.refl _ _)) (fun hHeld => ?_)
      refine take_at (i := 0) (some 9) (.int .i64 j) rfl rfl (by kernel_rfl) (by kernel_rfl) (by kernel_rfl) (fun _ _ _ h => h) (Or.inl ⟨by rfl, fun w hSw => by go_simp⟩) hHeld ?_
      refine take_at (i := 1) (some 10) (.pointer (some ⟨w.heap.size, 8, none⟩)) rfl rfl (by kernel_rfl) (by kernel_rfl) (by kernel_rfl) (fun _ _ _ h => h) (Or.inl ⟨by rfl, fun w hSw => by go_simp⟩) hHeld ?_
      refine take_at (i := 2) (some 11) (.pointer (some ⟨w.heap.size, 8 + j * 8, none⟩)) rfl rfl (by kernel_rfl) (by kernel_rfl) (by kernel_rfl) (fun _ _ _ h => h) (Or.inl ⟨by rfl, fun w hSw => by go_simp⟩) hHeld ?_
      refine take_at (i := 3) (some 12) (.agg (rowV (rowI xs (8 + j * 8)))) rfl rfl (by kernel_rfl) (by kernel_rfl) (by kernel_rfl) (fun _ _ _ h => h) (yieldsIf_load (by rfl) 36 (.tmp 11) rfl (.pointer (some ⟨w.heap.size, 8 + j * 8, none⟩)) rfl _ k1) hHeld ?_
      refine take_at (i := 4) (some 13) (.int .i64 j) rfl rfl (by kernel_rfl) (by kernel_rfl) (by kernel_rfl) (fun _ _ _ h => h) (Or.inl ⟨by rfl, fun w hSw => by go_simp⟩) hHeld ?_
      refine take_at (i := 5) (some 14) (.pointer (some ⟨w.heap.size + 1, 8, none⟩)) rfl rfl (by kernel_rfl) (by kernel_rfl) (by kernel_rfl) (fun _ _ _ h => h) (Or.inl ⟨by rfl, fun w hSw => by go_simp⟩) hHeld ?_
      refine take_at (i := 6) (some 15) (.pointer (some ⟨w.heap.size + 1, 8 + j * 8, none⟩)) rfl rfl (by kernel_rfl) (by kernel_rfl) (by kernel_rfl) (fun _ _ _ h => h) (Or.inl ⟨by rfl, fun w hSw => by go_simp⟩) hHeld ?_
      refine take_at (i := 7) (some 16) (.agg (rowV (rowI ys (8 + j * 8)))) rfl rfl (by kernel_rfl) (by kernel_rfl) (by kernel_rfl) (fun _ _ _ h => h) (yieldsIf_load (by rfl) 36 (.tmp 15) rfl (.pointer (some ⟨w.heap.size + 1, 8 + j * 8, none⟩)) rfl _ k2) hHeld ?_
      simp only [Act.put, List.setIfInBounds_toArray, List.set_cons_zero, List.set_cons_succ]
      refine wpAnyH_ready (rs := [8]) (by kernel_rfl) (by simp) (AllReadyH.cons rfl (fun K hK => ?_) AllReadyH.nil)
      go_simp
      refine (KO.out _).mono ?_
      rintro x w5 ⟨rfl, hb⟩
      have hH5 : Below wr.heap.size wr w5 := hHeld.trans (hb.mono hHeld.size)
      refine hK.out _ _ hH5 (fun hHeld5 => ?_)
      clear hK K hb hHeld
      refine take_at (i := 9) (some 18) (.bool (!cb)) rfl rfl (by kernel_rfl) (by kernel_rfl) (by kernel_rfl) (fun _ _ _ h => h) (Or.inl ⟨by rfl, fun w hSw => by go_simp⟩) hHeld5 ?_
      refine wpAnyH_done (by kernel_rfl) ?_ _
      simp only [Act.put, List.setIfInBounds_toArray, List.set_cons_zero, List.set_cons_succ]
      have HX := Aside0.mk (HS.out.step hHeld5)
      clear hHeld5 hH5 k1 k2
      cases cb with
      | true =>
        go_wp2
        go_roundw
        case rel => exact ⟨j + 1, by go_num, by omega, by rw [covN_succ, HC.out, HCB.out]; rfl, HX⟩
        case measure => simp [intOf]; omega
      | false =>
        go_wp2
        go_ret
        exact ⟨by rw [covT, covN_false xs ys j 16 hlt HCB.out]; rfl, HX.out.1⟩
    · have hge : j = 16 := by omega
      subst hge
      have i1 : (Try.prog.info? 36).map (·.size) = some (rowL xs 0).length := by rw [rowL_len xs 0 hx (by omega)]; exact info36
      have i2 : (Try.prog.info? 36).map (·.size) = some (rowL ys 0).length := by rw [rowL_len ys 0 hy (by omega)]; exact info36
      have r1 := rowL_at xs l 0 hx (by omega)
      have r2 := rowL_at ys m 0 hy (by omega)
      have hA := HS.out.2.1
      have hB := HS.out.2.2
      go_wp2_with (first | refine wpList_load_seg rfl 36 _ rfl w.heap.size 0 rfl 39 _ (0, 0) (rowL xs 0) _ hA r1 Try.underlying36 rfl i1 ?_ | refine wpList_load_seg rfl 36 _ rfl (w.heap.size + 1) 0 rfl 39 _ (0, 0) (rowL ys 0) _ hB r2 Try.underlying36 rfl i2 ?_)
      refine (rcov_calls (rowI xs 0) (rowI ys 0) _ (rowI_len xs 0 hx (by omega)) (rowI_len ys 0 hy (by omega))).mono ?_
      rintro x w9 ⟨rfl, h9⟩
      have HZ := Aside0.mk (HS.out.1.trans (h9.mono HS.out.1.size))
      clear h9
      go_wp2
      go_ret
      exact ⟨by rw [covT, HC.out, Bool.true_and]; rfl, HZ.out⟩
end Go.Proofs.Ytdmmklfphkgmlaa.Tb
