/- NewsRounds: the plain facts on a round's bytes, and the law's walk. -/
import Derived.Test.YtdmmklfphkgmlaaNwOpen
namespace Go.Proofs.Ytdmmklfphkgmlaa.Ba
open Go.RowKit Go.Proofs.YtdmmklfphkgmlaaW.PrintWords Go.Proofs.YtdmmklfphkgmlaaW.PrintLast Go.Proofs.YtdmmklfphkgmlaaW.PrintMore Go.Proofs.Ytdmmklfphkgmlaa.Om

/-- What both OpenRounds answer. -/
def roundS (s : ByteArray) : Int × Int × Int × Int :=
  if s.size = 0 then (0, 0, 0, 10) else if bt s 0 ≠ 82 then (0, 0, 0, 4) else if s.size < 14 then (0, 0, 0, 10) else if 14 < s.size then (0, 0, 0, 11)
  else (tv (s.extract 1 s.size) 8, tv (s.extract 9 s.size) 4, bt s 13, 0)

theorem bt_extract (s : ByteArray) (a i : Nat) : bt (s.extract a s.size) (i : Int) = bt s ((a + i : Nat) : Int) := by
  rw [bt_eq, bt_eq, data_extract]
  congr 2
  have : (List.take (s.size - a) (List.drop a s.data.toList)) = List.drop a s.data.toList := List.take_of_length_le (by simp)
  rw [this, List.getD_eq_getElem?_getD, List.getD_eq_getElem?_getD, List.getElem?_drop]

theorem extract_extract (s : ByteArray) (a b : Nat) (h : a + b ≤ s.size) : (s.extract a s.size).extract b (s.extract a s.size).size = s.extract (a + b) s.size := by
  apply ext_list
  rw [data_extract, data_extract, data_extract]
  have h1 : (List.take (s.size - a) (List.drop a s.data.toList)) = List.drop a s.data.toList := List.take_of_length_le (by simp)
  rw [h1, List.drop_drop]
  have hz : (s.extract a s.size).size = s.size - a := by rw [ByteArray.size_extract]; omega
  rw [hz, show s.size - a - b = s.size - (a + b) by omega]

theorem size_tail (s : ByteArray) (a : Nat) : (s.extract a s.size).size = s.size - a := by rw [ByteArray.size_extract]; omega

theorem head_eq (s : ByteArray) (h : s.size ≠ 0) : (s.extract 0 1).toList = (⟨#[82]⟩ : ByteArray).toList ↔ bt s 0 = 82 := by
  rw [ByteArray.toList_eq, ByteArray.toList_eq, data_extract]
  have hb := bt_eq s 0
  have hl : 0 < s.data.toList.length := by simp; omega
  obtain ⟨x, l, hx⟩ : ∃ x l, s.data.toList = x :: l := by
    cases hs : s.data.toList with
    | nil => rw [hs] at hl; simp at hl
    | cons x l => exact ⟨x, l, rfl⟩
  rw [hx] at hb ⊢
  simp only [List.getD_cons_zero] at hb
  rw [show ((0 : Nat) : Int) = 0 from rfl] at hb
  rw [hb]
  simp only [List.drop_zero, Nat.sub_zero, List.take_succ_cons, List.take_zero, List.cons.injEq, and_true]
  constructor
  · intro e; rw [e]; rfl
  · intro e
    have : x.toNat = (82 : UInt8).toNat := by
      have : ((82 : UInt8).toNat : Int) = 82 := rfl
      omega
    exact UInt8.toNat_inj.1 this

theorem openRound_fin (s : ByteArray) (a b c e : Int) (h : roundS s = (a, b, c, e)) (w : World) :
    Calls Try.prog 34 #[.string s] w fun r w' => r = .returned (.tuple #[.agg #[.int .u64 a, .int .u32 b, .int .u8 c], .int .i64 e]) ∧ Below w.heap.size w w' := by
  unfold roundS at h
  by_cases h0 : s.size = 0
  · rw [if_pos h0] at h
    simp only [Prod.mk.injEq] at h
    obtain ⟨rfl, rfl, rfl, rfl⟩ := h
    exact openRound_head s ⟨#[]⟩ 10 (by unfold headS; rw [if_pos ((toList_eq_nil s).2 h0)]) (by decide) w
  · rw [if_neg h0] at h
    have hn : ¬ s.toList = [] := fun e => h0 ((toList_eq_nil s).1 e)
    by_cases h1 : bt s 0 = 82
    · rw [if_neg (by simpa using h1)] at h
      have hh : headS s ⟨#[82]⟩ = (s.extract 1 s.size, 0) := by
        unfold headS; rw [if_neg hn, if_pos ((head_eq s h0).2 h1)]
      have hz := size_tail s 1
      by_cases h2 : s.size < 14
      · rw [if_pos h2] at h
        simp only [Prod.mk.injEq] at h
        obtain ⟨rfl, rfl, rfl, rfl⟩ := h
        obtain ⟨X, hX⟩ : ∃ X, takeN (s.extract 1 s.size) [8, 4, 1] [] = (⟨#[]⟩, 10, X) := by
          simp only [takeN]
          by_cases q1 : s.size < 9
          · have : takeS (s.extract 1 s.size) 8 = (0, ⟨#[]⟩, 10) := by unfold takeS; rw [if_neg (by decide), if_pos (by omega)]
            rw [this]; exact ⟨_, rfl⟩
          · have e1 : takeS (s.extract 1 s.size) 8 = (tv (s.extract 1 s.size) 8, s.extract 9 s.size, 0) := by
              unfold takeS; rw [if_neg (by decide), if_neg (by omega), show ((8 : Int)).toNat = 8 from rfl, extract_extract s 1 8 (by omega)]
            rw [e1]; simp only [if_true]
            have hz9 := size_tail s 9
            by_cases q2 : s.size < 13
            · have : takeS (s.extract 9 s.size) 4 = (0, ⟨#[]⟩, 10) := by unfold takeS; rw [if_neg (by decide), if_pos (by omega)]
              rw [this]; exact ⟨_, rfl⟩
            · have e2 : takeS (s.extract 9 s.size) 4 = (tv (s.extract 9 s.size) 4, s.extract 13 s.size, 0) := by
                unfold takeS; rw [if_neg (by decide), if_neg (by omega), show ((4 : Int)).toNat = 4 from rfl, extract_extract s 9 4 (by omega)]
              rw [e2]; simp only [if_true]
              have hz13 := size_tail s 13
              have : takeS (s.extract 13 s.size) 1 = (0, ⟨#[]⟩, 10) := by unfold takeS; rw [if_neg (by decide), if_pos (by omega)]
              rw [this]; exact ⟨_, rfl⟩
        exact openRound_short s _ _ 10 X hh hX (by decide) w
      · rw [if_neg h2] at h
        have hz9 := size_tail s 9
        have hz13 := size_tail s 13
        have hX : takeN (s.extract 1 s.size) [8, 4, 1] [] = (s.extract 14 s.size, 0, [tv (s.extract 1 s.size) 8, tv (s.extract 9 s.size) 4, bt s 13]) := by
          have e1 : takeS (s.extract 1 s.size) 8 = (tv (s.extract 1 s.size) 8, s.extract 9 s.size, 0) := by
            unfold takeS; rw [if_neg (by decide), if_neg (by omega), show ((8 : Int)).toNat = 8 from rfl, extract_extract s 1 8 (by omega)]
          have e2 : takeS (s.extract 9 s.size) 4 = (tv (s.extract 9 s.size) 4, s.extract 13 s.size, 0) := by
            unfold takeS; rw [if_neg (by decide), if_neg (by omega), show ((4 : Int)).toNat = 4 from rfl, extract_extract s 9 4 (by omega)]
          have e3 : takeS (s.extract 13 s.size) 1 = (bt s 13, s.extract 14 s.size, 0) := by
            unfold takeS; rw [if_neg (by decide), if_neg (by omega), show ((1 : Int)).toNat = 1 from rfl, extract_extract s 13 1 (by omega)]
            simp only [tv]
            rw [show ((0 : Nat) : Int) = ((0 : Nat) : Int) from rfl, bt_extract]
            simp
          simp only [takeN, e1, e2, e3, if_true]
          rfl
        have hz14 := size_tail s 14
        by_cases h3 : 14 < s.size
        · rw [if_pos h3] at h
          simp only [Prod.mk.injEq] at h
          obtain ⟨rfl, rfl, rfl, rfl⟩ := h
          exact openRound_long s _ _ _ hh hX (fun e => by have := (toList_eq_nil _).1 e; omega) w
        · rw [if_neg h3] at h
          simp only [Prod.mk.injEq] at h
          obtain ⟨rfl, rfl, rfl, rfl⟩ := h
          have := openRound_ok s _ _ _ _ _ hh hX ((toList_eq_nil _).2 (by omega)) w
          obtain ⟨t0, t1⟩ := tv_range (s.extract 9 s.size) 4
          obtain ⟨b0, b1⟩ := bt_range s 13
          rw [show IntKind.u32.wrap (tv (s.extract 9 s.size) 4) = tv (s.extract 9 s.size) 4 by rw [IntKind.wrap_u32]; omega,
            show IntKind.u8.wrap (bt s 13) = bt s 13 by rw [IntKind.wrap_u8]; omega] at this
          exact this
    · rw [if_pos h1] at h
      simp only [Prod.mk.injEq] at h
      obtain ⟨rfl, rfl, rfl, rfl⟩ := h
      exact openRound_head s ⟨#[]⟩ 4 (by unfold headS; rw [if_neg hn, if_neg (fun e => h1 ((head_eq s h0).1 e))]) (by decide) w

theorem get_any (s : ByteArray) (at_ n : Nat) (h : at_ ≤ s.size) (hn : 1 ≤ n ∧ n ≤ 8) (hs : at_ + n ≤ s.size) (k : Nat) (hk : 10 ≤ k) :
    chaffref19_get.f k s at_ n = some (tv (s.extract at_ s.size) n) := by
  unfold chaffref19_get.f
  rw [if_pos (by omega), if_pos (by omega), rtake_any _ _ _ hk, Int.toNat_natCast]
  unfold takeS
  have := size_tail s at_
  rw [if_neg (by omega), if_neg (by omega)]
  rfl

theorem ropenRound_any (s : ByteArray) (k : Nat) (hk : 10 ≤ k) : chaffref19_OpenRound.f k s = some (roundS s) := by
  unfold chaffref19_OpenRound.f roundS
  by_cases h0 : s.size = 0
  · rw [if_pos (by omega), if_pos h0]
  · rw [if_neg (by omega), if_neg h0, if_pos (by omega)]
    by_cases h1 : bt s 0 = 82
    · rw [if_pos h1, if_neg (show ¬ (bt s 0 ≠ 82) by simpa using h1)]
      by_cases h2 : s.size < 14
      · rw [if_pos (by omega), if_pos h2]
      · rw [if_neg (by omega), if_neg h2]
        by_cases h3 : 14 < s.size
        · rw [if_pos (by omega), if_pos h3]
        · rw [if_neg (by omega), if_neg h3]
          have g1 := get_any s 1 8 (by omega) (by omega) (by omega) k hk
          have g2 := get_any s 9 4 (by omega) (by omega) (by omega) k hk
          rw [show ((1 : Nat) : Int) = 1 from rfl, show ((8 : Nat) : Int) = 8 from rfl] at g1
          rw [show ((9 : Nat) : Int) = 9 from rfl, show ((4 : Nat) : Int) = 4 from rfl] at g2
          rw [g1, g2]
          simp only [Option.bind_some]
          rw [if_pos (by omega)]
          obtain ⟨t0, t1⟩ := tv_range (s.extract 9 s.size) 4
          rw [Int.emod_eq_of_lt t0 (by simpa using t1)]
    · rw [if_neg h1, if_pos h1]

set_option maxRecDepth 100000 in
theorem newsRounds_great (n e c : Int) (s : ByteArray) (w : World) (hs : 200 < s.size) :
    Calls Try.prog 9 #[.agg #[.int .u64 n, .int .u32 e, .int .u8 c], .string s] w fun r w' => r = .returned (.bool true) ∧ Below w.heap.size w w' := by
  have c1 : decide (200 < (s.size : Int)) = true := decide_eq_true (by omega)
  clear hs
  go_enter Try.func9, Try.ntmps9
  go_wp2_with fail
  refine (awake19_fin _).mono ?_
  rintro r w1 ⟨rfl, h1⟩
  go_wp2
  go_ret
  exact ⟨rfl, (below_alloc (Below.refl _ _) _).trans (h1.mono (by simp))⟩

/-- What the region at the law's end reads. -/
def RS (w : World) (n e c p q r : Int) (b2 b5 b7 : Nat) (W : World) : Prop :=
  Below w.heap.size w W ∧ W.cell? ⟨b2, 0, none⟩ = some (.int .u64 n) ∧ W.cell? ⟨b2, 1, none⟩ = some (.int .u32 e) ∧ W.cell? ⟨b2, 2, none⟩ = some (.int .u8 c) ∧
  W.cell? ⟨b5, 0, none⟩ = some (.int .u64 p) ∧ W.cell? ⟨b5, 1, none⟩ = some (.int .u32 q) ∧ W.cell? ⟨b5, 2, none⟩ = some (.int .u8 r) ∧
  W.cell? ⟨b7, 0, none⟩ = some (.int .u64 p) ∧ W.cell? ⟨b7, 1, none⟩ = some (.int .u32 q) ∧ W.cell? ⟨b7, 2, none⟩ = some (.int .u8 r)
theorem RS.step {w W W' : World} {n e c p q r : Int} {b2 b5 b7 : Nat} (h : RS w n e c p q r b2 b5 b7 W) (hb : Below W.heap.size W W') : RS w n e c p q r b2 b5 b7 W' := by
  obtain ⟨h0, h1, h2, h3, h4, h5, h6, h7, h8, h9⟩ := h
  exact ⟨h0.trans (hb.mono h0.size), pw_cell_below hb h1, pw_cell_below hb h2, pw_cell_below hb h3, pw_cell_below hb h4, pw_cell_below hb h5, pw_cell_below hb h6, pw_cell_below hb h7, pw_cell_below hb h8, pw_cell_below hb h9⟩

set_option maxRecDepth 100000 in
set_option maxHeartbeats 1000000 in
theorem newsRounds_small (n e c : Int) (s : ByteArray) (w : World) (n0 : 0 ≤ n) (n1 : n < 18446744073709551616) (e0 : 0 ≤ e) (e1 : e < 4294967296) (c0 : 0 ≤ c) (c1 : c < 256) (hs : s.size ≤ 200) :
    Calls Try.prog 9 #[.agg #[.int .u64 n, .int .u32 e, .int .u8 c], .string s] w fun r w' => r = .returned (.bool true) ∧ Below w.heap.size w w' := by
  obtain ⟨⟨p, q, r, z⟩, hr⟩ : ∃ x, roundS s = x := ⟨_, rfl⟩
  obtain ⟨B, hB⟩ : ∃ B, roundB n e c = B := ⟨_, rfl⟩
  have O1 := Aside0.mk (openRound_fin s p q r z hr)
  have O2 := Aside0.mk ((ropenRound_any s 20 (by omega)).trans (congrArg some hr))
  have K1 := Aside0.mk (closeRound_fin n e c n0 n1 e0 e1 c0 c1)
  have K2 := Aside0.mk (rcloseRound_fin n e c n0 n1 e0 e1 c0 c1)
  rw [hB] at K1 K2
  have cs : decide (200 < (s.size : Int)) = false := decide_eq_false (by omega)
  clear hr hB n0 n1 e0 e1 c0 c1 hs
  go_enter Try.func9, Try.ntmps9
  go_wp2_with fail
  refine (O1.out _).mono ?_
  rintro x w1 ⟨rfl, h1⟩
  have H1 := Aside0.mk h1; clear h1
  go_wp2_with fail
  refine (chaffref19_OpenRound.calls 20 s p q r z _ O2.out).mono ?_
  rintro x w2 ⟨rfl, h2⟩
  have H2 := Aside0.mk h2; clear h2
  go_wp2_with fail
  have hS : RS w n e c p q r w.heap.size w1.heap.size w2.heap.size (w2.alloc (.cells #[.int .u64 p, .int .u32 q, .int .u8 r] 74)).drew := by
    have hA := H1.out
    have hB := H2.out
    have sA : w.heap.size < w1.heap.size := by have := hA.size; simp at this; omega
    have sB : w1.heap.size < w2.heap.size := by have := hB.size; simp at this; omega
    have b1 : Below w.heap.size w (w1.alloc (.cells #[.int .u64 p, .int .u32 q, .int .u8 r] 71)) := ((below_alloc (Below.refl _ _) _).trans (hA.mono (by simp))).alloc (by omega) _
    have b2 : Below w.heap.size w w2 := b1.trans (hB.mono (by simp; omega))
    have kA : w1.heap[w.heap.size]? = some (.cells #[.int .u64 n, .int .u32 e, .int .u8 c] 71 (0, 0)) := (hA.block _ (by simp)).trans (heap_alloc_new _ _)
    have kB : w2.heap[w.heap.size]? = some (.cells #[.int .u64 n, .int .u32 e, .int .u8 c] 71 (0, 0)) := (hB.block _ (by simp; omega)).trans ((heap_alloc_old _ _ sA).trans kA)
    have kC : w2.heap[w1.heap.size]? = some (.cells #[.int .u64 p, .int .u32 q, .int .u8 r] 71 (0, 0)) := (hB.block _ (by simp)).trans (heap_alloc_new _ _)
    have kD := heap_alloc_new w2 (.cells #[.int .u64 p, .int .u32 q, .int .u8 r] 74)
    have kB' := (heap_alloc_old w2 (.cells #[.int .u64 p, .int .u32 q, .int .u8 r] 74) (show w.heap.size < w2.heap.size by omega)).trans kB
    have kC' := (heap_alloc_old w2 (.cells #[.int .u64 p, .int .u32 q, .int .u8 r] 74) sB).trans kC
    refine ⟨(b2.alloc (by omega) _).drew, ?_, ?_, ?_, ?_, ?_, ?_, ?_, ?_, ?_⟩
    · exact cell_of_row (w2.alloc _) _ 0 _ _ _ kB'
    · exact cell_of_row (w2.alloc _) _ 1 _ _ _ kB'
    · exact cell_of_row (w2.alloc _) _ 2 _ _ _ kB'
    · exact cell_of_row (w2.alloc _) _ 0 _ _ _ kC'
    · exact cell_of_row (w2.alloc _) _ 1 _ _ _ kC'
    · exact cell_of_row (w2.alloc _) _ 2 _ _ _ kC'
    · exact cell_of_row (w2.alloc _) _ 0 _ _ _ kD
    · exact cell_of_row (w2.alloc _) _ 1 _ _ _ kD
    · exact cell_of_row (w2.alloc _) _ 2 _ _ _ kD
  have HS := Aside0.mk hS
  clear hS H1 H2
  go_region_held3 (fun W => Below w.heap.size w W ∧ W.cell? ⟨w.heap.size, 0, none⟩ = some (.int .u64 n) ∧ W.cell? ⟨w.heap.size, 1, none⟩ = some (.int .u32 e) ∧ W.cell? ⟨w.heap.size, 2, none⟩ = some (.int .u8 c) ∧
      W.cell? ⟨w1.heap.size, 0, none⟩ = some (.int .u64 p) ∧ W.cell? ⟨w1.heap.size, 1, none⟩ = some (.int .u32 q) ∧ W.cell? ⟨w1.heap.size, 2, none⟩ = some (.int .u8 r) ∧
      W.cell? ⟨w2.heap.size, 0, none⟩ = some (.int .u64 p) ∧ W.cell? ⟨w2.heap.size, 1, none⟩ = some (.int .u32 q) ∧ W.cell? ⟨w2.heap.size, 2, none⟩ = some (.int .u8 r))
    (first | exact HS.out | exact RS.step (W := _) (by assumption) hb | go_keep)
    ((first | (go_at_call 33; with_reducible refine (awake19_fin _).mono ?_; rintro x w3 ⟨rfl, hb⟩) | (go_at_call 36; with_reducible refine (K1.out _).mono ?_; rintro x w3 ⟨rfl, hb⟩) | (go_at_call 37; with_reducible refine (K2.out _).mono ?_; rintro x w3 ⟨rfl, hb⟩)))
  all_goals
    go_wp2
    go_ret
    exact ⟨rfl, And.left (show RS w n e c p q r w.heap.size w1.heap.size w2.heap.size w3 by assumption)⟩

theorem newsRounds_walk (n e c : Int) (s : ByteArray) (w : World) (n0 : 0 ≤ n) (n1 : n < 18446744073709551616) (e0 : 0 ≤ e) (e1 : e < 4294967296) (c0 : 0 ≤ c) (c1 : c < 256) :
    Calls Try.prog 9 #[.agg #[.int .u64 n, .int .u32 e, .int .u8 c], .string s] w fun r w' => r = .returned (.bool true) ∧ Below w.heap.size w w' := by
  by_cases hs : 200 < s.size
  · exact newsRounds_great n e c s w hs
  · exact newsRounds_small n e c s w n0 n1 e0 e1 c0 c1 (by omega)

end Go.Proofs.Ytdmmklfphkgmlaa.Ba
