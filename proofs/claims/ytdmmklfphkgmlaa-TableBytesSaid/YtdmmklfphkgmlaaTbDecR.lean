/- table: the document's Decode. -/
import Derived.Test.YtdmmklfphkgmlaaTbDec
import Derived.Test.YtdmmklfphkgmlaaBcOctR
namespace Go.Proofs.Ytdmmklfphkgmlaa.Tb
set_option linter.unusedSimpArgs false
open Go.Proofs.Ytdmmklfphkgmlaa.Ba Go.Proofs.Ytdmmklfphkgmlaa.Seg Go.RowKit Go.Proofs.YtdmmklfphkgmlaaW.PrintWords Go.Proofs.YtdmmklfphkgmlaaW.PrintLast Go.Proofs.YtdmmklfphkgmlaaW.PrintMore Go.Proofs.Ytdmmklfphkgmlaa.Om

theorem rtake_calls (s : ByteArray) (n : Int) (w : World) :
    Calls Try.prog 17 #[.string s, .int .i64 n] w fun e w' => e = .returned (.tuple #[.int .u64 (takeS s n).1, .string (takeS s n).2.1, .int .i64 (takeS s n).2.2]) ∧ Below w.heap.size w w' := by
  have h := rtake_any s n 12 (by decide)
  obtain ⟨⟨a, b, c⟩, e⟩ : ∃ x, takeS s n = x := ⟨_, rfl⟩
  rw [e] at h ⊢
  exact (chaffref17_Take.calls 12 s n a b c w h).mono fun _ _ ⟨e, hd⟩ => ⟨e, hd.below⟩

/-- The result's box and the table's. -/
def DS4 (w : World) (x : Array Value) (W : World) : Prop :=
  Below w.heap.size w W ∧ W.heap[w.heap.size]? = some (.cells Try.zeroCells44 44 (0, 0)) ∧ W.heap[w.heap.size + 1]? = some (.cells x 44 (0, 0))
theorem DS4.step {w W W' : World} {x : Array Value} (h : DS4 w x W) (hb : Below W.heap.size W W') : DS4 w x W' :=
  ⟨h.1.trans (hb.mono h.1.size), (hb.block _ (Array.getElem?_eq_some_iff.1 h.2.1).1).trans h.2.1, (hb.block _ (Array.getElem?_eq_some_iff.1 h.2.2).1).trans h.2.2⟩
theorem DS4.cell {w W : World} {x : Array Value} {k : Nat} (h : DS4 w x W) (v : Value) : DS4 w (x.setIfInBounds k v) (W.setCell ⟨w.heap.size + 1, k, none⟩ v) :=
  ⟨below_set (g := w.heap.size + 1) (j := k) h.1 (by omega), (heap_setCell_other W ⟨w.heap.size + 1, k, none⟩ w.heap.size _ (by simp)).trans h.2.1, heap_setCell_same W (w.heap.size + 1) k _ 44 _ h.2.2⟩
theorem info44z : (Try.prog.info? 44).map (·.size) = some Try.zeroCells44.size := by kernel_rfl

set_option maxRecDepth 100000 in
set_option maxHeartbeats 1000000 in
theorem rdecode_bad (s : ByteArray) (m n : Int) (w : World) (h : szB m n = false) :
    Calls Try.prog 47 #[.string s, .int .i64 m, .int .i64 n] w fun e w' => e = .returned (.tuple #[.agg Try.zeroCells44, .int .i64 5]) ∧ Below w.heap.size w w' := by
  have h := of_decide_eq_false h
  have hZ := heap_alloc_new w (.cells Try.zeroCells44 44)
  have hB : Below w.heap.size w (w.alloc (.cells Try.zeroCells44 44)) := below_alloc (Below.refl _ _) _
  have hi := info44z
  have ho : Try.zeroCells44.all (·.oneCell') = true := by kernel_rfl
  by_cases h1 : m < 1
  · have c1 : decide (m < 1) = true := decide_eq_true h1
    clear h
    go_enter Try.func47, Try.ntmps47
    go_wp2_with (refine wpList_store_row rfl 44 _ _ rfl w.heap.size Try.zeroCells44 rfl rfl 44 _ hZ hi rfl ho ?_)
    exact bodyPost_ret (end_tab rfl _ _ _ _ _ hZ rfl Try.underlying44 hi) rfl ⟨rfl, below_setRow hB (Nat.le_refl _) _⟩
  have c1 : decide (m < 1) = false := decide_eq_false h1
  by_cases h2 : 16 < m
  · have c2 : decide (16 < m) = true := decide_eq_true h2
    clear h
    go_enter Try.func47, Try.ntmps47
    go_wp2_with (refine wpList_store_row rfl 44 _ _ rfl w.heap.size Try.zeroCells44 rfl rfl 44 _ hZ hi rfl ho ?_)
    exact bodyPost_ret (end_tab rfl _ _ _ _ _ hZ rfl Try.underlying44 hi) rfl ⟨rfl, below_setRow hB (Nat.le_refl _) _⟩
  have c2 : decide (16 < m) = false := decide_eq_false h2
  by_cases h3 : n < 1
  · have c3 : decide (n < 1) = true := decide_eq_true h3
    clear h
    go_enter Try.func47, Try.ntmps47
    go_wp2_with (refine wpList_store_row rfl 44 _ _ rfl w.heap.size Try.zeroCells44 rfl rfl 44 _ hZ hi rfl ho ?_)
    exact bodyPost_ret (end_tab rfl _ _ _ _ _ hZ rfl Try.underlying44 hi) rfl ⟨rfl, below_setRow hB (Nat.le_refl _) _⟩
  have c3 : decide (n < 1) = false := decide_eq_false h3
  have c4 : decide (8 < n) = true := decide_eq_true (by omega)
  clear h
  go_enter Try.func47, Try.ntmps47
  go_wp2_with (refine wpList_store_row rfl 44 _ _ rfl w.heap.size Try.zeroCells44 rfl rfl 44 _ hZ hi rfl ho ?_)
  exact bodyPost_ret (end_tab rfl _ _ _ _ _ hZ rfl Try.underlying44 hi) rfl ⟨rfl, below_setRow hB (Nat.le_refl _) _⟩

set_option maxRecDepth 100000 in
set_option maxHeartbeats 1000000 in
theorem rdecode_size (s : ByteArray) (M N : Nat) (w : World) (a1 : 1 ≤ M) (a2 : M ≤ 16) (a3 : 1 ≤ N) (a4 : N ≤ 8) (e : Int) (h : (s.size : Int) < 8 + 4 * (N : Int) * ((M : Int) + 1) ∧ e = 10 ∨ (s.size : Int) > 8 + 4 * (N : Int) * ((M : Int) + 1) ∧ e = 11) :
    Calls Try.prog 47 #[.string s, .int .i64 (M : Int), .int .i64 (N : Int)] w fun r w' => r = .returned (.tuple #[.agg Try.zeroCells44, .int .i64 e]) ∧ Below w.heap.size w w' := by
  have c1 : decide ((M : Int) < 1) = false := decide_eq_false (by omega)
  have c2 : decide (16 < (M : Int)) = false := decide_eq_false (by omega)
  have c3 : decide ((N : Int) < 1) = false := decide_eq_false (by omega)
  have c4 : decide (8 < (N : Int)) = false := decide_eq_false (by omega)
  have hPb : N * (M + 1) ≤ 8 * 17 := Nat.mul_le_mul a4 (by omega)
  have hP : 4 * (N : Int) * ((M : Int) + 1) = 4 * ((N * (M + 1) : Nat) : Int) := by push_cast; rw [Int.mul_assoc]
  have hb1 : 0 ≤ 4 * (N : Int) * ((M : Int) + 1) := by omega
  have hb2 : 4 * (N : Int) * ((M : Int) + 1) ≤ 544 := by omega
  have hZ := heap_alloc_new w (.cells Try.zeroCells44 44)
  have hB : Below w.heap.size w (w.alloc (.cells Try.zeroCells44 44)) := below_alloc (Below.refl _ _) _
  have hi := info44z
  have ho : Try.zeroCells44.all (·.oneCell') = true := by kernel_rfl
  clear hP
  rcases h with ⟨h, rfl⟩ | ⟨h, rfl⟩
  · have t1 : decide ((s.size : Int) < 8 + 4 * (N : Int) * ((M : Int) + 1)) = true := decide_eq_true h
    go_enter Try.func47, Try.ntmps47
    go_wp2_with (refine wpList_store_row rfl 44 _ _ rfl w.heap.size Try.zeroCells44 rfl rfl 44 _ hZ hi rfl ho ?_)
    exact bodyPost_ret (end_tab rfl _ _ _ _ _ hZ rfl Try.underlying44 hi) rfl ⟨rfl, below_setRow hB (Nat.le_refl _) _⟩
  · have t1 : decide ((s.size : Int) < 8 + 4 * (N : Int) * ((M : Int) + 1)) = false := decide_eq_false (by omega)
    have t2 : decide (8 + 4 * (N : Int) * ((M : Int) + 1) < (s.size : Int)) = true := decide_eq_true h
    go_enter Try.func47, Try.ntmps47
    go_wp2_with (refine wpList_store_row rfl 44 _ _ rfl w.heap.size Try.zeroCells44 rfl rfl 44 _ hZ hi rfl ho ?_)
    exact bodyPost_ret (end_tab rfl _ _ _ _ _ hZ rfl Try.underlying44 hi) rfl ⟨rfl, below_setRow hB (Nat.le_refl _) _⟩

set_option maxRecDepth 100000 in
set_option maxHeartbeats 1000000 in
theorem rdecode_good (s : ByteArray) (M N : Nat) (w : World) (a1 : 1 ≤ M) (a2 : M ≤ 16) (a3 : 1 ≤ N) (a4 : N ≤ 8) (hsz : s.size = 8 + 4 * (N * (M + 1))) :
    Calls Try.prog 47 #[.string s, .int .i64 (M : Int), .int .i64 (N : Int)] w fun e w' => e = .returned (.tuple #[.agg (tabV (decT s N (N * (M + 1))) (tv s 8)), .int .i64 0]) ∧ Below w.heap.size w w' := by
  have c1 : decide ((M : Int) < 1) = false := decide_eq_false (by omega)
  have c2 : decide (16 < (M : Int)) = false := decide_eq_false (by omega)
  have c3 : decide ((N : Int) < 1) = false := decide_eq_false (by omega)
  have c4 : decide (8 < (N : Int)) = false := decide_eq_false (by omega)
  have hP : (s.size : Int) = 8 + 4 * (N : Int) * ((M : Int) + 1) := by rw [hsz]; push_cast; rw [Int.mul_assoc]
  have hPb : N * (M + 1) ≤ 8 * 17 := Nat.mul_le_mul a4 (by omega)
  have hb1 : 0 ≤ 4 * (N : Int) * ((M : Int) + 1) := by omega
  have hb2 : 4 * (N : Int) * ((M : Int) + 1) ≤ 544 := by omega
  have t1 : decide ((s.size : Int) < 8 + 4 * (N : Int) * ((M : Int) + 1)) = false := decide_eq_false (by omega)
  have t2 : decide (8 + 4 * (N : Int) * ((M : Int) + 1) < (s.size : Int)) = false := decide_eq_false (by omega)
  have HSZ := Aside0.mk hsz
  have hT8 : takeS s (8 : Nat) = (tv s 8, s.extract 8 s.size, 0) := takeS_eq s 8 (by omega) (by omega) (by omega)
  have KT := Aside0.mk (fun V => hT8 ▸ rtake_calls s (8 : Nat) V)
  clear hP hsz hT8
  have hZ2 := heap_alloc2_new w (.cells Try.zeroCells44 44) (.cells Try.zeroCells44 44)
  have hi := info44z
  have ho : Try.zeroCells44.all (·.oneCell') = true := by kernel_rfl
  have H0 := Aside0.mk (show DS4 w Try.zeroCells44 (((w.alloc (.cells Try.zeroCells44 44)).alloc (.cells Try.zeroCells44 44)).setRow (w.heap.size + 1) Try.zeroCells44) from ⟨below_setRow (below_alloc (below_alloc (Below.refl _ _) _) _) (by omega) _, (setRow_other _ _ _ _ (by omega)).trans (heap_alloc2_old _ _ _), setRow_heap _ _ _ _ _ _ hZ2⟩)
  go_enter Try.func47, Try.ntmps47
  go_wp2_with (refine wpList_store_row rfl 44 _ _ rfl (w.heap.size + 1) Try.zeroCells44 rfl rfl 44 _ hZ2 hi rfl ho ?_)
  generalize ((w.alloc (.cells Try.zeroCells44 44)).alloc (.cells Try.zeroCells44 44)).setRow (w.heap.size + 1) Try.zeroCells44 = W0 at H0 ⊢
  refine (KT.out _).mono ?_
  rintro x w2 ⟨rfl, h2⟩
  obtain ⟨l, hl⟩ : ∃ l, tv s 8 = l := ⟨_, rfl⟩
  rw [hl]
  have H1 := H0.out.step h2
  have q1 := cell_of_row _ (w.heap.size + 1) 136 _ _ _ H1.2.2
  have f1 := frozen_of_row _ (w.heap.size + 1) 136 _ _ H1.2.2
  rw [zero44, tabV_at _ _ (by simp)] at q1
  simp only [show ¬ (136 < 136) by omega, if_false, if_true] at q1
  have e1 : (tabV (List.replicate 136 0) 0).setIfInBounds 136 (.int .u64 l) = tabV (decT s N 0) l := by
    rw [decT_zero]; have := tabV_setLast (List.replicate 136 0) 0 l; simpa using this
  have H2 := H1.cell (k := 136) (.int .u64 l)
  rw [zero44, e1, ← Nat.mul_zero N] at H2
  have H3 := Aside0.mk H2
  have HL := Aside0.mk hl
  clear h2 H0 H1 H2 e1 hl KT hZ2 hi ho
  go_wp2_with fail
  clear q1 f1 t1 t2 hb1 hb2 c1 c2 c3 c4
  go_loopw [9] (fun i wr => ∃ (j : Nat), i = .int .i64 j ∧ j ≤ M + 1 ∧ Aside0 (DS4 w (tabV (decT s N (N * j)) l) wr)) (fun i _ => M + 1 - (intOf i).toNat)
  case atStart => exact ⟨0, rfl, by omega, H3⟩
  case round =>
    obtain ⟨j, rfl, hj, HS⟩ := hrel
    clear H3
    by_cases hlt : j ≤ M
    · have hx1 : 0 ≤ (j : Int) := by omega
      have hx2 : (j : Int) ≤ (M : Int) := by omega
      have hx3 : (j : Int) < 17 := by omega
      have hj1 : 0 ≤ (N : Int) * (j : Int) := Int.mul_nonneg (by omega) (by omega)
      have hj2 : (N : Int) * (j : Int) ≤ 128 := by
        have : N * j ≤ 8 * 16 := Nat.mul_le_mul a4 (by omega)
        have e : ((N * j : Nat) : Int) = (N : Int) * (j : Int) := by push_cast; rfl
        omega
      have hsz : 8 + 4 * (N * (j + 1)) ≤ s.size := by
        rw [HSZ.out]; have : N * (j + 1) ≤ N * (M + 1) := Nat.mul_le_mul_left _ (by omega)
        omega
      have HZ := Aside0.mk hsz
      clear hsz
      go_wp2_with fail
      go_loopw [10] (fun i wz => ∃ (k : Nat), i = .int .i64 k ∧ k ≤ N ∧ Aside0 (DS4 w (tabV (decT s N (N * j + k)) l) wz)) (fun i _ => N - (intOf i).toNat)
      case atStart => exact ⟨0, rfl, by omega, HS⟩
      case round =>
        obtain ⟨k, rfl, hk, HS2⟩ := hrel
        clear HS
        by_cases hlt2 : k < N
        · have hy1 : 0 ≤ (k : Int) := by omega
          have hy2 : (k : Int) < (N : Int) := by omega
          have hy3 : (k : Int) < 8 := by omega
          have hp : 8 + 4 * (N * j + k) + 4 ≤ s.size := by have := HZ.out; rw [Nat.mul_add, Nat.mul_one] at this; omega
          have hp1 : 8 + 4 * (N * j + k) ≤ s.size := by omega
          have hp2 : 8 + 4 * ((N : Int) * (j : Int) + (k : Int)) ≤ (s.size : Int) := by have e : ((N * j : Nat) : Int) = (N : Int) * (j : Int) := by push_cast; rfl
                                                                                        omega
          have hT : takeS (s.extract (8 + 4 * (N * j + k)) s.size) (4 : Nat) = (valS s (N * j + k), s.extract (8 + 4 * (N * j + (k + 1))) s.size, 0) := by
            rw [takeS_eq _ 4 (by omega) (by omega) (by rw [ByteArray.size_extract]; omega), extract_extract _ _ hp]
            rfl
          have KT := Aside0.mk (fun V => hT ▸ rtake_calls (s.extract (8 + 4 * (N * j + k)) s.size) (4 : Nat) V)
          have g2 := valS_range s (N * j + k)
          have e1 : valS s (N * j + k) % 4294967296 = valS s (N * j + k) := by omega
          clear hp hT
          go_wp2_with fail
          refine (KT.out _).mono ?_
          rintro x w5 ⟨rfl, h5⟩
          have H5 := HS2.out.step h5
          have E := decT_set s N j k a4 hlt2 (by omega)
          have Es := tabV_set (decT s N (N * j + k)) l (8 * j + k) (valS s (N * j + k)) (by rw [decT_len]; omega)
          rw [E] at Es
          by_cases h0 : j = 0
          · have c1 : ((j : Int) == 0) = true := by simp [h0]
            have c2 : (j == 0) = true := by simp [h0]
            rw [show 8 * j + k = k by omega] at Es
            have q1 := cell_of_row _ (w.heap.size + 1) k _ _ _ H5.2.2
            rw [tabV_at _ _ (decT_len _ _ _), if_pos (by omega)] at q1
            have f1 := frozen_of_row _ (w.heap.size + 1) k _ _ H5.2.2
            have H6 := H5.cell (k := k) (.int .u32 (valS s (N * j + k)))
            rw [Es] at H6
            have H7 := Aside0.mk H6
            clear h5 H5 H6 HS2 KT E Es h0
            go_wp2_with fail
            go_roundw
            case rel => exact ⟨k + 1, by go_num, by omega, H7⟩
            case measure => simp [intOf]; omega
          · have c1 : ((j : Int) == 0) = false := by simp [h0]
            have c2 : (j == 0) = false := by simp [h0]
            rw [show 8 * j + k = 8 + (j - 1) * 8 + k by omega] at Es
            have hx4 : 0 ≤ (j : Int) - 1 := by omega
            have hx5 : (j : Int) - 1 < 16 := by omega
            have q1 := cell_of_row _ (w.heap.size + 1) (8 + (j - 1) * 8 + k) _ _ _ H5.2.2
            rw [tabV_at _ _ (decT_len _ _ _), if_pos (by omega)] at q1
            have f1 := frozen_of_row _ (w.heap.size + 1) (8 + (j - 1) * 8 + k) _ _ H5.2.2
            have H6 := H5.cell (k := 8 + (j - 1) * 8 + k) (.int .u32 (valS s (N * j + k)))
            rw [Es] at H6
            have H7 := Aside0.mk H6
            clear h5 H5 H6 HS2 KT E Es h0
            go_wp2_with fail
            go_roundw
            case rel => exact ⟨k + 1, by go_num, by omega, H7⟩
            case measure => simp [intOf]; omega
        · have hge : k = N := by omega
          subst hge
          have HX := Aside0.mk (show DS4 w (tabV (decT s k (k * (j + 1))) l) wr from by rw [Nat.mul_add, Nat.mul_one]; exact HS2.out)
          clear HS2
          go_wp2_with fail
          go_roundw
          case rel => exact ⟨j + 1, by go_num, by omega, HX⟩
          case measure => simp [intOf]; omega
    · have hge : j = M + 1 := by omega
      subst hge
      have hZ := HS.out.2.1
      have hA := HS.out.2.2
      have hlen := decT_len s N (N * (M + 1))
      have hi := tab_info44 _ l hlen
      have ho := tab_one (decT s N (N * (M + 1))) l
      have hz := tab_zero44 _ l hlen
      have hM1 : ¬ (M + 1 ≤ M) := by omega
      go_wp2_with (first | refine wpList_load_row rfl 44 _ rfl (w.heap.size + 1) rfl 44 _ (0, 0) _ hA Try.underlying44 rfl hi ?_ | refine wpList_store_row rfl 44 _ _ rfl w.heap.size _ rfl rfl 44 _ hZ hi hz ho ?_)
      exact bodyPost_ret (end_tab rfl _ _ _ _ _ hZ rfl Try.underlying44 hi) rfl ⟨by rw [HL.out]; rfl, below_setRow HS.out.1 (Nat.le_refl _) _⟩

theorem rdecode_calls (s : ByteArray) (m n : Int) (w : World) :
    Calls Try.prog 47 #[.string s, .int .i64 m, .int .i64 n] w fun e w' => e = .returned (.tuple #[.agg (tabV (decX s m n).1.1 (decX s m n).1.2), .int .i64 (decX s m n).2]) ∧ Below w.heap.size w w' := by
  unfold decX
  by_cases hs : szB m n = true
  · rw [if_pos hs]
    obtain ⟨a1, a2, a3, a4⟩ := of_decide_eq_true hs
    obtain ⟨M, rfl⟩ := Int.eq_ofNat_of_zero_le (show 0 ≤ m by omega)
    obtain ⟨N, rfl⟩ := Int.eq_ofNat_of_zero_le (show 0 ≤ n by omega)
    rw [Int.toNat_natCast, Int.toNat_natCast]
    by_cases h1 : (s.size : Int) < 8 + 4 * (N : Int) * ((M : Int) + 1)
    · rw [if_pos h1]
      have := rdecode_size s M N w (by omega) (by omega) (by omega) (by omega) 10 (.inl ⟨h1, rfl⟩)
      rw [zero44] at this
      exact this
    · rw [if_neg h1]
      by_cases h2 : (s.size : Int) > 8 + 4 * (N : Int) * ((M : Int) + 1)
      · rw [if_pos h2]
        have := rdecode_size s M N w (by omega) (by omega) (by omega) (by omega) 11 (.inr ⟨h2, rfl⟩)
        rw [zero44] at this
        exact this
      · rw [if_neg h2]
        refine rdecode_good s M N w (by omega) (by omega) (by omega) (by omega) ?_
        have hP : 4 * (N : Int) * ((M : Int) + 1) = 4 * ((N * (M + 1) : Nat) : Int) := by push_cast; rw [Int.mul_assoc]
        omega
  · have hs : szB m n = false := by simpa using hs
    rw [hs, if_neg (by simp)]
    have := rdecode_bad s m n w hs
    rw [zero44] at this
    exact this
end Go.Proofs.Ytdmmklfphkgmlaa.Tb
