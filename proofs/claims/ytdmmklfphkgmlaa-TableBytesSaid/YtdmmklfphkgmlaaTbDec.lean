/- table: Decode. -/
import Derived.Test.YtdmmklfphkgmlaaTbTClip
namespace Go.Proofs.Ytdmmklfphkgmlaa.Tb
set_option linter.unusedSimpArgs false
open Go.Proofs.Ytdmmklfphkgmlaa.Ba Go.Proofs.Ytdmmklfphkgmlaa.Seg Go.RowKit Go.Proofs.YtdmmklfphkgmlaaW.PrintWords Go.Proofs.YtdmmklfphkgmlaaW.PrintLast Go.Proofs.YtdmmklfphkgmlaaW.PrintMore Go.Proofs.Ytdmmklfphkgmlaa.Om

theorem take_calls (s : ByteArray) (n : Int) (w : World) :
    Calls Try.prog 16 #[.string s, .int .i64 n] w fun e w' => e = .returned (.tuple #[.int .u64 (takeS s n).1, .string (takeS s n).2.1, .int .i64 (takeS s n).2.2]) ∧ Below w.heap.size w w' := by
  have h := take_any s n 12 (by decide)
  obtain ⟨⟨a, b, c⟩, e⟩ : ∃ x, takeS s n = x := ⟨_, rfl⟩
  rw [e] at h ⊢
  exact (octet_Take.calls 12 s n a b c w h).mono fun _ _ ⟨e, hd⟩ => ⟨e, hd.below⟩
theorem takeS_eq (s : ByteArray) (n : Nat) (h1 : 1 ≤ n) (h8 : n ≤ 8) (h : n ≤ s.size) : takeS s n = (tv s n, s.extract n s.size, 0) := by
  unfold takeS
  rw [if_neg (by omega), if_neg (by omega), Int.toNat_natCast]

/-- The result's box and the table's. -/
def DS (w : World) (x : Array Value) (W : World) : Prop :=
  Below w.heap.size w W ∧ W.heap[w.heap.size]? = some (.cells Try.zeroCells39 39 (0, 0)) ∧ W.heap[w.heap.size + 1]? = some (.cells x 39 (0, 0))
theorem DS.step {w W W' : World} {x : Array Value} (h : DS w x W) (hb : Below W.heap.size W W') : DS w x W' :=
  ⟨h.1.trans (hb.mono h.1.size), (hb.block _ (Array.getElem?_eq_some_iff.1 h.2.1).1).trans h.2.1, (hb.block _ (Array.getElem?_eq_some_iff.1 h.2.2).1).trans h.2.2⟩
theorem DS.set {w W : World} {x : Array Value} (h : DS w x W) (c : Array Value) : DS w c (W.setRow (w.heap.size + 1) c) :=
  ⟨below_setRow h.1 (by omega) _, (setRow_other _ _ _ _ (by omega)).trans h.2.1, setRow_heap _ _ _ _ _ _ h.2.2⟩
/-- .. and a row's. -/
def DR (w : World) (x : Array Value) (r : Nat) (y : Array Value) (W : World) : Prop := DS w x W ∧ W.heap[r]? = some (.cells y 36 (0, 0)) ∧ w.heap.size + 1 < r
theorem DR.step {w W W' : World} {x y : Array Value} {r : Nat} (h : DR w x r y W) (hb : Below W.heap.size W W') : DR w x r y W' :=
  ⟨h.1.step hb, (hb.block _ (Array.getElem?_eq_some_iff.1 h.2.1).1).trans h.2.1, h.2.2⟩
theorem DR.cell {w W : World} {x y : Array Value} {r k : Nat} (h : DR w x r y W) (v : Value) : DR w x r (y.setIfInBounds k v) (W.setCell ⟨r, k, none⟩ v) :=
  ⟨⟨below_set (g := r) (j := k) h.1.1 (by have := h.2.2; omega), (heap_setCell_other W ⟨r, k, none⟩ w.heap.size _ (by have := h.2.2; simp; omega)).trans h.1.2.1,
    (heap_setCell_other W ⟨r, k, none⟩ (w.heap.size + 1) _ (by have := h.2.2; simp; omega)).trans h.1.2.2⟩, heap_setCell_same W r k _ 36 _ h.2.1, h.2.2⟩

theorem info39z : (Try.prog.info? 39).map (·.size) = some Try.zeroCells39.size := by kernel_rfl

set_option maxRecDepth 100000 in
set_option maxHeartbeats 1000000 in
theorem decode_bad (s : ByteArray) (m n : Int) (w : World) (hs : szB m n = false) :
    Calls Try.prog 46 #[.string s, .int .i64 m, .int .i64 n] w fun e w' => e = .returned (.tuple #[.agg Try.zeroCells39, .int .i64 5]) ∧ Below w.heap.size w w' := by
  have hZ := heap_alloc_new w (.cells Try.zeroCells39 39)
  have hB : Below w.heap.size w (w.alloc (.cells Try.zeroCells39 39)) := below_alloc (Below.refl _ _) _
  have hi := info39z
  have ho : Try.zeroCells39.all (·.oneCell') = true := by kernel_rfl
  have KS := Aside0.mk (fun V => hs ▸ sizes_calls m n V)
  clear hs
  go_enter Try.func46, Try.ntmps46
  go_wp2_with fail
  refine (KS.out _).mono ?_
  rintro x w1 ⟨rfl, rfl⟩
  go_wp2_with (refine wpList_store_row rfl 39 _ _ rfl w.heap.size Try.zeroCells39 rfl rfl 39 _ hZ hi rfl ho ?_)
  exact bodyPost_ret (end_tab rfl _ _ _ _ _ hZ rfl Try.underlying39 hi) rfl ⟨rfl, below_setRow hB (Nat.le_refl _) _⟩

set_option maxRecDepth 100000 in
set_option maxHeartbeats 1000000 in
theorem decode_good (s : ByteArray) (M N : Nat) (w : World) (a1 : 1 ≤ M) (a2 : M ≤ 16) (a3 : 1 ≤ N) (a4 : N ≤ 8) (hsz : s.size = 8 + 4 * (N * (M + 1))) :
    Calls Try.prog 46 #[.string s, .int .i64 (M : Int), .int .i64 (N : Int)] w fun e w' => e = .returned (.tuple #[.agg (tabV (decT s N (N * (M + 1))) (tv s 8)), .int .i64 0]) ∧ Below w.heap.size w w' := by
  have hP : (s.size : Int) = 8 + 4 * (N : Int) * ((M : Int) + 1) := by rw [hsz]; push_cast; rw [Int.mul_assoc]
  have hPb : N * (M + 1) ≤ 8 * 17 := Nat.mul_le_mul a4 (by omega)
  have hb1 : 0 ≤ 4 * (N : Int) * ((M : Int) + 1) := by omega
  have hb2 : 4 * (N : Int) * ((M : Int) + 1) ≤ 544 := by omega
  have t1 : decide ((s.size : Int) < 8 + 4 * (N : Int) * ((M : Int) + 1)) = false := decide_eq_false (by omega)
  have t2 : decide (8 + 4 * (N : Int) * ((M : Int) + 1) < (s.size : Int)) = false := decide_eq_false (by omega)
  have HSZ := Aside0.mk hsz
  clear hP hsz
  have hsB : szB M N = true := decide_eq_true ⟨by omega, by omega, by omega, by omega⟩
  have KS := Aside0.mk (fun V => hsB ▸ sizes_calls (M : Int) (N : Int) V)
  clear hsB
  go_enter Try.func46, Try.ntmps46
  go_wp2_with fail
  refine (KS.out _).mono ?_
  rintro x w1 ⟨rfl, rfl⟩
  have H0 := Aside0.mk (show DS w Try.zeroCells39 ((w.alloc (.cells Try.zeroCells39 39)).alloc (.cells Try.zeroCells39 39)) from ⟨below_alloc (below_alloc (Below.refl _ _) _) _, heap_alloc2_old _ _ _, heap_alloc2_new _ _ _⟩)
  have hT8 : takeS s (8 : Nat) = (tv s 8, s.extract 8 s.size, 0) := takeS_eq s 8 (by omega) (by omega) (by have := HSZ.out; omega)
  have KT := Aside0.mk (fun V => hT8 ▸ take_calls s (8 : Nat) V)
  clear hT8
  go_wp2_with fail
  generalize (w.alloc (.cells Try.zeroCells39 39)).alloc (.cells Try.zeroCells39 39) = W0 at H0 ⊢
  refine (KT.out _).mono ?_
  rintro x w2 ⟨rfl, h2⟩
  obtain ⟨l, hl⟩ : ∃ l, tv s 8 = l := ⟨_, rfl⟩
  rw [hl]
  have H1 := H0.out.step h2
  have q1 := cell_of_row _ (w.heap.size + 1) 136 _ _ _ H1.2.2
  have f1 := frozen_of_row _ (w.heap.size + 1) 136 _ _ H1.2.2
  rw [zero39, tabV_at _ _ (by simp)] at q1
  simp only [show ¬ (136 < 136) by omega, if_false, if_true] at q1
  have e1 : (tabV (List.replicate 136 0) 0).setIfInBounds 136 (.int .u64 l) = tabV (decT s N 0) l := by
    rw [decT_zero]; have := tabV_setLast (List.replicate 136 0) 0 l; simpa using this
  have H2 := Aside0.mk (show DS w (tabV (decT s N (N * 0)) l) (w2.setCell ⟨w.heap.size + 1, 136, none⟩ (.int .u64 l)) from
    ⟨below_set (g := w.heap.size + 1) (j := 136) H1.1 (by omega), (heap_setCell_other w2 ⟨w.heap.size + 1, 136, none⟩ w.heap.size _ (by simp)).trans H1.2.1,
      by rw [Nat.mul_zero, ← e1, ← zero39]; exact heap_setCell_same w2 (w.heap.size + 1) 136 _ 39 _ H1.2.2⟩)
  have HL := Aside0.mk hl
  have HX := Aside0.mk (show Value.string (s.extract 8 s.size) = .string (s.extract (8 + 4 * (N * 0)) s.size) by rw [Nat.mul_zero])
  clear h2 H0 H1 e1 hl KT KS
  go_wp2_with fail
  clear q1 f1 t1 t2 hb1 hb2
  go_loopw [0, 49] (fun t i wr => ∃ (j : Nat), i = .int .i64 j ∧ j ≤ M + 1 ∧ t = .string (s.extract (8 + 4 * (N * j)) s.size) ∧ Aside0 (DS w (tabV (decT s N (N * j)) l) wr)) (fun _ i _ => M + 1 - (intOf i).toNat)
  case atStart => exact ⟨0, rfl, by omega, HX.out, H2⟩
  case round =>
    obtain ⟨j, rfl, hj, rfl, HS⟩ := hrel
    clear H2 HX
    by_cases hlt : j < M + 1
    · have hx1 : 0 ≤ (j : Int) := by omega
      have hx2 : (j : Int) < (M : Int) + 1 := by omega
      have hx3 : (j : Int) < 17 := by omega
      have hZ := heap_alloc_new wr (.cells #[.int .u32 0, .int .u32 0, .int .u32 0, .int .u32 0, .int .u32 0, .int .u32 0, .int .u32 0, .int .u32 0] 36)
      have H3 := Aside0.mk (show DR w (tabV (decT s N (N * j)) l) wr.heap.size (rowV (rowT s N j 0)) (wr.alloc (.cells #[.int .u32 0, .int .u32 0, .int .u32 0, .int .u32 0, .int .u32 0, .int .u32 0, .int .u32 0, .int .u32 0] 36)) from
        ⟨HS.out.step (below_alloc (Below.refl _ _) _), by rw [rowT_zero]; exact hZ, (Array.getElem?_eq_some_iff.1 HS.out.2.2).1⟩)
      have HX := Aside0.mk (show Value.string (s.extract (8 + 4 * (N * j)) s.size) = .string (s.extract (8 + 4 * (N * j + 0)) s.size) from rfl)
      have hsz : 8 + 4 * (N * (j + 1)) ≤ s.size := by
        rw [HSZ.out]; have : N * (j + 1) ≤ N * (M + 1) := Nat.mul_le_mul_left _ (by omega)
        omega
      have HZ := Aside0.mk hsz
      clear hZ hsz HS
      go_wp2_with fail
      generalize wr.alloc (.cells #[.int .u32 0, .int .u32 0, .int .u32 0, .int .u32 0, .int .u32 0, .int .u32 0, .int .u32 0, .int .u32 0] 36) = W1 at H3 ⊢
      obtain ⟨r, hr⟩ : ∃ r, wr.heap.size = r := ⟨_, rfl⟩
      rw [hr] at H3 ⊢
      clear hr
      go_loopw [0, 53] (fun t i wz => ∃ (k : Nat), i = .int .i64 k ∧ k ≤ N ∧ t = .string (s.extract (8 + 4 * (N * j + k)) s.size) ∧ Aside0 (DR w (tabV (decT s N (N * j)) l) r (rowV (rowT s N j k)) wz)) (fun _ i _ => N - (intOf i).toNat)
      case atStart => exact ⟨0, rfl, by omega, HX.out, H3⟩
      case round =>
        obtain ⟨k, rfl, hk, rfl, HS⟩ := hrel
        clear H3 HX
        by_cases hlt2 : k < N
        · have hy1 : 0 ≤ (k : Int) := by omega
          have hy2 : (k : Int) < (N : Int) := by omega
          have hy3 : (k : Int) < 8 := by omega
          have hp : 8 + 4 * (N * j + k) + 4 ≤ s.size := by have := HZ.out; rw [Nat.mul_add, Nat.mul_one] at this; omega
          have hT : takeS (s.extract (8 + 4 * (N * j + k)) s.size) (4 : Nat) = (valS s (N * j + k), s.extract (8 + 4 * (N * j + (k + 1))) s.size, 0) := by
            rw [takeS_eq _ 4 (by omega) (by omega) (by rw [ByteArray.size_extract]; omega), extract_extract _ _ hp]
            rfl
          have KT := Aside0.mk (fun V => hT ▸ take_calls (s.extract (8 + 4 * (N * j + k)) s.size) (4 : Nat) V)
          have g2 := valS_range s (N * j + k)
          have e1 : valS s (N * j + k) % 4294967296 = valS s (N * j + k) := by omega
          clear hp hT
          go_wp2_with fail
          refine (KT.out _).mono ?_
          rintro x w5 ⟨rfl, h5⟩
          have H5 := HS.out.step h5
          have q1 := cell_of_row _ r k _ _ _ H5.2.1
          rw [rowV_get (rowT s N j k) k (by rw [rowT_len]; omega)] at q1
          have f1 := frozen_of_row _ r k _ _ H5.2.1
          have H6 := H5.cell (k := k) (.int .u32 (valS s (N * j + k)))
          rw [rowT_set] at H6
          have H7 := Aside0.mk H6
          clear h5 H5 H6 HS KT
          go_wp2_with fail
          go_roundw
          case rel => exact ⟨k + 1, by go_num, by omega, rfl, H7⟩
          case measure => simp [intOf]; omega
        · have hge : k = N := by omega
          subst hge
          have hA := HS.out.2.1
          have hM := HS.out.1.2.2
          have hD := HS.out.1
          have hwr := HS.out.2.2
          have hi := (show (Try.prog.info? 36).map (·.size) = some (rowV (rowT s k j k)).size by rw [rowV_size _ (rowT_len _ _ _ _)]; exact info36)
          have ho := rowV_one (rowT s k j k)
          have E := rowT_spl s l k j a4 a3 (by omega)
          have H4 := Aside0.mk (hD.set (tabV (decT s k (k * (j + 1))) l))
          by_cases h0 : j = 0
          · have c1 : ((j : Int) == 0) = true := by simp [h0]
            have c2 : (j == 0) = true := by simp [h0]
            have hf : 0 + (rowV (rowT s k j k)).size ≤ (tabV (decT s k (k * j)) l).size := by rw [rowV_size _ (rowT_len _ _ _ _), tabV_size, decT_len]; omega
            rw [show 8 * j = 0 by omega] at E
            have EE := Aside0.mk E
            clear E h0 HS hD
            go_wp2_with (first | refine wpList_load_row rfl 36 _ rfl r rfl 36 _ (0, 0) _ hA Try.underlying36 rfl hi ?_ | (refine wpList_store_seg rfl 36 _ _ rfl (w.heap.size + 1) 0 _ rfl rfl 39 _ hM hi hf ho ?_; rw [EE.out]))
            go_roundw
            case rel => exact ⟨j + 1, by go_num, by omega, by rw [Nat.mul_add k j 1, Nat.mul_one], H4⟩
            case measure => simp [intOf]; omega
          · have c1 : ((j : Int) == 0) = false := by simp [h0]
            have c2 : (j == 0) = false := by simp [h0]
            have hf : 8 + (j - 1) * 8 + (rowV (rowT s k j k)).size ≤ (tabV (decT s k (k * j)) l).size := by rw [rowV_size _ (rowT_len _ _ _ _), tabV_size, decT_len]; omega
            rw [show 8 * j = 8 + (j - 1) * 8 by omega] at E
            have EE := Aside0.mk E
            have hx4 : 0 ≤ (j : Int) - 1 := by omega
            have hx5 : (j : Int) - 1 < 16 := by omega
            clear E h0 HS hD
            go_wp2_with (first | refine wpList_load_row rfl 36 _ rfl r rfl 36 _ (0, 0) _ hA Try.underlying36 rfl hi ?_ | (refine wpList_store_seg rfl 36 _ _ rfl (w.heap.size + 1) (8 + (j - 1) * 8) _ rfl rfl 39 _ hM hi hf ho ?_; rw [EE.out]))
            go_roundw
            case rel => exact ⟨j + 1, by go_num, by omega, by rw [Nat.mul_add k j 1, Nat.mul_one], H4⟩
            case measure => simp [intOf]; omega
    · have hge : j = M + 1 := by omega
      subst hge
      have hZ := HS.out.2.1
      have hA := HS.out.2.2
      have hlen := decT_len s N (N * (M + 1))
      have hi := tab_info39 _ l hlen
      have ho := tab_one (decT s N (N * (M + 1))) l
      have hz := tab_zero39 _ l hlen
      go_wp2_with (first | refine wpList_load_row rfl 39 _ rfl (w.heap.size + 1) rfl 39 _ (0, 0) _ hA Try.underlying39 rfl hi ?_ | refine wpList_store_row rfl 39 _ _ rfl w.heap.size _ rfl rfl 39 _ hZ hi hz ho ?_)
      exact bodyPost_ret (end_tab rfl _ _ _ _ _ hZ rfl Try.underlying39 hi) rfl ⟨by rw [HL.out]; rfl, below_setRow HS.out.1 (Nat.le_refl _) _⟩

set_option maxRecDepth 100000 in
set_option maxHeartbeats 1000000 in
theorem decode_size (s : ByteArray) (M N : Nat) (w : World) (a1 : 1 ≤ M) (a2 : M ≤ 16) (a3 : 1 ≤ N) (a4 : N ≤ 8) (e : Int) (h : (s.size : Int) < 8 + 4 * (N : Int) * ((M : Int) + 1) ∧ e = 10 ∨ (s.size : Int) > 8 + 4 * (N : Int) * ((M : Int) + 1) ∧ e = 11) :
    Calls Try.prog 46 #[.string s, .int .i64 (M : Int), .int .i64 (N : Int)] w fun r w' => r = .returned (.tuple #[.agg Try.zeroCells39, .int .i64 e]) ∧ Below w.heap.size w w' := by
  have hPb : N * (M + 1) ≤ 8 * 17 := Nat.mul_le_mul a4 (by omega)
  have hP : 4 * (N : Int) * ((M : Int) + 1) = 4 * ((N * (M + 1) : Nat) : Int) := by push_cast; rw [Int.mul_assoc]
  have hb1 : 0 ≤ 4 * (N : Int) * ((M : Int) + 1) := by omega
  have hb2 : 4 * (N : Int) * ((M : Int) + 1) ≤ 544 := by omega
  have hZ := heap_alloc_new w (.cells Try.zeroCells39 39)
  have hB : Below w.heap.size w (w.alloc (.cells Try.zeroCells39 39)) := below_alloc (Below.refl _ _) _
  have hi := info39z
  have ho : Try.zeroCells39.all (·.oneCell') = true := by kernel_rfl
  have hsB : szB M N = true := decide_eq_true ⟨by omega, by omega, by omega, by omega⟩
  have KS := Aside0.mk (fun V => hsB ▸ sizes_calls (M : Int) (N : Int) V)
  clear hsB hP
  rcases h with ⟨h, rfl⟩ | ⟨h, rfl⟩
  · have t1 : decide ((s.size : Int) < 8 + 4 * (N : Int) * ((M : Int) + 1)) = true := decide_eq_true h
    go_enter Try.func46, Try.ntmps46
    go_wp2_with fail
    refine (KS.out _).mono ?_
    rintro x w1 ⟨rfl, rfl⟩
    go_wp2_with (refine wpList_store_row rfl 39 _ _ rfl w.heap.size Try.zeroCells39 rfl rfl 39 _ hZ hi rfl ho ?_)
    exact bodyPost_ret (end_tab rfl _ _ _ _ _ hZ rfl Try.underlying39 hi) rfl ⟨rfl, below_setRow hB (Nat.le_refl _) _⟩
  · have t1 : decide ((s.size : Int) < 8 + 4 * (N : Int) * ((M : Int) + 1)) = false := decide_eq_false (by omega)
    have t2 : decide (8 + 4 * (N : Int) * ((M : Int) + 1) < (s.size : Int)) = true := decide_eq_true h
    go_enter Try.func46, Try.ntmps46
    go_wp2_with fail
    refine (KS.out _).mono ?_
    rintro x w1 ⟨rfl, rfl⟩
    go_wp2_with (refine wpList_store_row rfl 39 _ _ rfl w.heap.size Try.zeroCells39 rfl rfl 39 _ hZ hi rfl ho ?_)
    exact bodyPost_ret (end_tab rfl _ _ _ _ _ hZ rfl Try.underlying39 hi) rfl ⟨rfl, below_setRow hB (Nat.le_refl _) _⟩

theorem decode_calls (s : ByteArray) (m n : Int) (w : World) :
    Calls Try.prog 46 #[.string s, .int .i64 m, .int .i64 n] w fun e w' => e = .returned (.tuple #[.agg (tabV (decX s m n).1.1 (decX s m n).1.2), .int .i64 (decX s m n).2]) ∧ Below w.heap.size w w' := by
  unfold decX
  by_cases hs : szB m n = true
  · rw [if_pos hs]
    obtain ⟨a1, a2, a3, a4⟩ := of_decide_eq_true hs
    obtain ⟨M, rfl⟩ := Int.eq_ofNat_of_zero_le (show 0 ≤ m by omega)
    obtain ⟨N, rfl⟩ := Int.eq_ofNat_of_zero_le (show 0 ≤ n by omega)
    rw [Int.toNat_natCast, Int.toNat_natCast]
    by_cases h1 : (s.size : Int) < 8 + 4 * (N : Int) * ((M : Int) + 1)
    · rw [if_pos h1]
      have := decode_size s M N w (by omega) (by omega) (by omega) (by omega) 10 (.inl ⟨h1, rfl⟩)
      rw [zero39] at this
      exact this
    · rw [if_neg h1]
      by_cases h2 : (s.size : Int) > 8 + 4 * (N : Int) * ((M : Int) + 1)
      · rw [if_pos h2]
        have := decode_size s M N w (by omega) (by omega) (by omega) (by omega) 11 (.inr ⟨h2, rfl⟩)
        rw [zero39] at this
        exact this
      · rw [if_neg h2]
        refine decode_good s M N w (by omega) (by omega) (by omega) (by omega) ?_
        have hP : 4 * (N : Int) * ((M : Int) + 1) = 4 * ((N * (M + 1) : Nat) : Int) := by push_cast; rw [Int.mul_assoc]
        omega
  · have hs : szB m n = false := by simpa using hs
    rw [hs, if_neg (by simp)]
    have := decode_bad s m n w hs
    rw [zero39] at this
    exact this
end Go.Proofs.Ytdmmklfphkgmlaa.Tb
