/- NewsBack, the plain laws: what is closed is opened as it was; what is opened is closed as it was. -/
import Derived.Test.YtdmmklfphkgmlaaNwReports
namespace Go.Proofs.Ytdmmklfphkgmlaa.Ba
open Go.RowKit Go.Proofs.YtdmmklfphkgmlaaW.PrintWords Go.Proofs.YtdmmklfphkgmlaaW.PrintLast Go.Proofs.YtdmmklfphkgmlaaW.PrintMore Go.Proofs.Ytdmmklfphkgmlaa.Om

theorem dg_snoc : ∀ (n : Nat) (v : Int), dg (n + 1) v = dg n (v / 256) ++ [v % 256]
  | 0, v => by simp [dg]
  | n + 1, v => by
    rw [dg, dg_snoc n v]
    simp only [dg, List.cons_append]
    rw [Int.ediv_ediv_of_nonneg (by decide), Int.pow_succ, Int.mul_comm]

theorem dg_tv (s : ByteArray) : ∀ n, dg n (tv s n) = (List.range n).map (fun i : Nat => bt s (i : Int))
  | 0 => rfl
  | n + 1 => by
    obtain ⟨b0, b1⟩ := bt_range s n
    rw [dg_snoc, tv, List.range_succ, List.map_append, ← dg_tv s n]
    rw [show (tv s n * 256 + bt s n) / 256 = tv s n by omega, show (tv s n * 256 + bt s n) % 256 = bt s n by omega]
    rfl

theorem num_tv (s : ByteArray) (n : Nat) (h : n ≤ s.size) : num n (tv s n) = s.extract 0 n := by
  apply ext_list
  unfold num
  rw [strOfNums_data, dg_tv, data_extract, List.drop_zero, Nat.sub_zero, List.map_map]
  have hl : s.data.toList.length = s.size := by simp
  apply List.ext_getElem
  · simp [hl]; omega
  · intro i h1 h2
    simp at h1
    simp only [List.getElem_map, List.getElem_range, List.getElem_take, Function.comp]
    rw [bt_eq]
    simp [List.getD, List.getElem?_eq_getElem (show i < s.data.toList.length by omega)]

theorem split0 (s : ByteArray) (n : Nat) (h : n ≤ s.size) : s = num n (tv s n) ++ s.extract n s.size := by
  rw [num_tv s n h]
  apply ext_list
  rw [data_append, data_extract, data_extract, List.drop_zero, Nat.sub_zero]
  rw [List.take_of_length_le (l := List.drop n s.data.toList) (by simp)]
  exact (List.take_append_drop n _).symm

theorem split_tail (s : ByteArray) (a n : Nat) (h : a + n ≤ s.size) : s.extract a s.size = num n (tv (s.extract a s.size) n) ++ s.extract (a + n) s.size := by
  have := split0 (s.extract a s.size) n (by rw [size_tail]; omega)
  rw [extract_extract s a n h] at this
  exact this

theorem tail_end (s : ByteArray) : s.extract s.size s.size = ByteArray.empty := by
  apply ext_list; rw [data_extract]; simp

theorem tv1 (s : ByteArray) : tv s 1 = bt s 0 := by simp [tv]
theorem num1 : num 1 82 = (⟨#[82]⟩ : ByteArray) ∧ num 1 72 = (⟨#[72]⟩ : ByteArray) := by constructor <;> rfl
theorem app_nil (s : ByteArray) : s ++ ByteArray.empty = s := by apply ext_list; rw [data_append]; simp
theorem app_assoc (a b c : ByteArray) : a ++ b ++ c = a ++ (b ++ c) := by apply ext_list; simp

theorem roundB_roundS (s : ByteArray) (a b c : Int) (h : roundS s = (a, b, c, 0)) : roundB a b c = s := by
  unfold roundS at h
  by_cases h0 : s.size = 0
  · rw [if_pos h0] at h; simp at h
  rw [if_neg h0] at h
  by_cases h1 : bt s 0 ≠ 82
  · rw [if_pos h1] at h; simp at h
  rw [if_neg h1] at h
  by_cases h2 : s.size < 14
  · rw [if_pos h2] at h; simp at h
  rw [if_neg h2] at h
  by_cases h3 : 14 < s.size
  · rw [if_pos h3] at h; simp at h
  rw [if_neg h3] at h
  simp only [Prod.mk.injEq] at h
  obtain ⟨rfl, rfl, rfl, _⟩ := h
  have hs : s.size = 14 := by omega
  have h1' : bt s 0 = 82 := by simpa using h1
  have e0 := split0 s 1 (by omega)
  have e1 : s.extract 1 s.size = num 8 (tv (s.extract 1 s.size) 8) ++ s.extract 9 s.size := split_tail s 1 8 (by omega)
  have e2 : s.extract 9 s.size = num 4 (tv (s.extract 9 s.size) 4) ++ s.extract 13 s.size := split_tail s 9 4 (by omega)
  have e3 : s.extract 13 s.size = num 1 (bt s 13) := by
    have e := split_tail s 13 1 (by omega)
    have hb := bt_extract s 13 0
    rw [tv1, show ((0 : Int)) = ((0 : Nat) : Int) from rfl, hb, show (13 + 1) = s.size from hs.symm, tail_end, app_nil] at e
    exact e
  rw [tv1, h1', num1.1, e1, e2, e3] at e0
  unfold roundB
  rw [app_assoc, app_assoc, ← e3, ← e2, ← e1, ← num1.1, ← h1', ← tv1]
  exact (split0 s 1 (by omega)).symm

theorem roundS_roundB (n e c : Int) (n0 : 0 ≤ n) (n1 : n < 18446744073709551616) (e0 : 0 ≤ e) (e1 : e < 4294967296) (c0 : 0 ≤ c) (c1 : c < 256) : roundS (roundB n e c) = (n, e, c, 0) := by
  obtain ⟨s, hs⟩ : ∃ s, roundB n e c = s := ⟨_, rfl⟩
  have z1 : (⟨#[82]⟩ : ByteArray).size = 1 := rfl
  have hz : s.size = 14 := by rw [← hs]; unfold roundB; simp only [ByteArray.size_append, num_size]; rfl
  have hs' : s = num 1 82 ++ (num 8 n ++ (num 4 e ++ num 1 c)) := by rw [← hs, num1.1]; unfold roundB; rw [app_assoc, app_assoc]
  have t1 : s.extract 1 s.size = num 8 n ++ (num 4 e ++ num 1 c) := by rw [hs']; exact extract_tail _ _ 1 (num_size _ _)
  have t9 : s.extract 9 s.size = num 4 e ++ num 1 c := by
    have := extract_extract s 1 8 (by omega)
    rw [← this, t1]; exact extract_tail _ _ 8 (num_size _ _)
  have t13 : s.extract 13 s.size = num 1 c ++ ByteArray.empty := by
    have := extract_extract s 9 4 (by omega)
    rw [← this, t9, app_nil]; exact extract_tail _ _ 4 (num_size _ _)
  have b0 : bt s 0 = 82 := by rw [← tv1, hs', tv_num 1 82 _ (by decide) (by decide)]
  have b13 : bt s 13 = c := by
    have hb := bt_extract s 13 0
    have : bt (s.extract 13 s.size) 0 = c := by rw [← tv1, t13, tv_num 1 c _ c0 (by simpa using c1)]
    rw [← this]; exact hb.symm
  rw [hs]
  unfold roundS
  rw [if_neg (by omega), if_neg (by simp [b0]), if_neg (by omega), if_neg (by omega), t1, t9, tv_num 8 n _ n0 (by simpa using n1), tv_num 4 e _ e0 (by simpa using e1), b13]

theorem rowsB_rows (s : ByteArray) : ∀ (d i : Nat), 7 + 8 * (i + d) ≤ s.size → rowsB (rowsFrom s i d) ++ s.extract (7 + 8 * (i + d)) s.size = s.extract (7 + 8 * i) s.size
  | 0, i, _ => by simp only [rowsFrom, rowsB]; apply ext_list; simp
  | d + 1, i, h => by
    have e1 := split_tail s (7 + 8 * i) 4 (by omega)
    have e2 := split_tail s (11 + 8 * i) 4 (by omega)
    rw [show 7 + 8 * i + 4 = 11 + 8 * i by omega] at e1
    rw [show 11 + 8 * i + 4 = 7 + 8 * (i + 1) by omega] at e2
    have e3 := rowsB_rows s d (i + 1) (by omega)
    rw [show i + 1 + d = i + (d + 1) by omega] at e3
    simp only [rowsFrom, rowsB, rowAt]
    rw [app_assoc, app_assoc, e3, ← e2, ← e1]

theorem rows_rowsB (s : ByteArray) : ∀ (l : List (Int × Int)) (i : Nat), Wide l → 7 + 8 * i ≤ s.size → s.extract (7 + 8 * i) s.size = rowsB l → rowsFrom s i l.length = l
  | [], i, _, _, _ => rfl
  | x :: l, i, hw, hi, h => by
    have hsz : s.size = 7 + 8 * i + 8 * (l.length + 1) := by
      have := congrArg ByteArray.size h
      rw [size_tail, rowsB_size, List.length_cons] at this; omega
    have h1 : s.extract (7 + 8 * i) s.size = num 4 x.1 ++ (num 4 x.2 ++ rowsB l) := by rw [h, rowsB, app_assoc]
    have h2 : s.extract (11 + 8 * i) s.size = num 4 x.2 ++ rowsB l := by
      have := extract_extract s (7 + 8 * i) 4 (by omega)
      rw [h1, extract_tail _ _ 4 (num_size _ _), show 7 + 8 * i + 4 = 11 + 8 * i by omega] at this
      exact this.symm
    have h3 : s.extract (7 + 8 * (i + 1)) s.size = rowsB l := by
      have := extract_extract s (11 + 8 * i) 4 (by omega)
      rw [h2, extract_tail _ _ 4 (num_size _ _), show 11 + 8 * i + 4 = 7 + 8 * (i + 1) by omega] at this
      exact this.symm
    obtain ⟨a0, a1, b0, b1⟩ := hw x (by simp)
    have ih := rows_rowsB s l (i + 1) (fun y hy => hw y (by simp [hy])) (by omega) h3
    simp only [List.length_cons, rowsFrom, rowAt]
    rw [ih, h1, h2, tv_num 4 x.1 _ a0 (by simpa using a1), tv_num 4 x.2 _ b0 (by simpa using b1)]

theorem closeS_openS (t : ByteArray) (ep : Int) (ps : List (Int × Int)) (h : openS t = (ep, ps, 0)) : closeS ep ps = (t, 0) := by
  unfold openS at h
  by_cases h0 : t.size = 0
  · rw [if_pos h0] at h; simp at h
  rw [if_neg h0] at h
  by_cases h1 : bt t 0 ≠ 72
  · rw [if_pos h1] at h; simp at h
  rw [if_neg h1] at h
  by_cases h2 : t.size < 7
  · rw [if_pos h2] at h; simp at h
  rw [if_neg h2] at h
  by_cases h3 : t.size < 7 + 8 * rowsN t
  · rw [if_pos h3] at h; simp at h
  rw [if_neg h3] at h
  by_cases h4 : 7 + 8 * rowsN t < t.size
  · rw [if_pos h4] at h; simp at h
  rw [if_neg h4] at h
  by_cases h5 : mayB (rowsFrom t 0 (rowsN t)) = true
  · rw [if_pos h5] at h
    simp only [Prod.mk.injEq] at h
    obtain ⟨rfl, rfl, _⟩ := h
    unfold closeS
    rw [if_pos h5, rowsFrom_len]
    have e7 := rowsB_rows t (rowsN t) 0 (by omega)
    rw [Nat.zero_add, show 7 + 8 * rowsN t = t.size by omega, tail_end, app_nil, Nat.mul_zero, Nat.add_zero] at e7
    have e1 : t.extract 1 t.size = num 4 (tv (t.extract 1 t.size) 4) ++ t.extract 5 t.size := split_tail t 1 4 (by omega)
    have e5 : t.extract 5 t.size = num 2 (tv (t.extract 5 t.size) 2) ++ t.extract 7 t.size := split_tail t 5 2 (by omega)
    have eN : ((rowsN t : Nat) : Int) = tv (t.extract 5 t.size) 2 := by
      obtain ⟨q, _⟩ := tv_range (t.extract 5 t.size) 2
      unfold rowsN; omega
    have h1' : bt t 0 = 72 := by simpa using h1
    rw [eN, e7, app_assoc, app_assoc, ← e5, ← e1, ← num1.2, ← h1', ← tv1, ← split0 t 1 (by omega)]
  · rw [if_neg h5] at h; simp at h

theorem openS_none (t : ByteArray) (ep : Int) (ps : List (Int × Int)) (e : Int) (h : openS t = (ep, ps, e)) (he : e ≠ 0) : ps = [] := by
  unfold openS at h
  repeat' split at h
  all_goals (simp only [Prod.mk.injEq] at h; obtain ⟨_, h2, h3⟩ := h)
  all_goals first | exact h2.symm | exact absurd h3.symm he

theorem openS_closeS (ep : Int) (ps : List (Int × Int)) (hm : mayB ps = true) (e0 : 0 ≤ ep) (e1 : ep < 4294967296) (hw : Wide ps) : openS (closeS ep ps).1 = (ep, ps, 0) := by
  obtain ⟨l1, l2⟩ := mayB_len hm
  unfold closeS
  rw [if_pos hm]
  simp only
  obtain ⟨s, hs⟩ : ∃ s, (⟨#[72]⟩ : ByteArray) ++ num 4 ep ++ num 2 ps.length ++ rowsB ps = s := ⟨_, rfl⟩
  rw [hs]
  have hz : s.size = 7 + 8 * ps.length := by rw [← hs]; simp only [ByteArray.size_append, num_size, rowsB_size]; rfl
  have hs' : s = num 1 72 ++ (num 4 ep ++ (num 2 ps.length ++ rowsB ps)) := by rw [← hs, num1.2, app_assoc, app_assoc]
  have t1 : s.extract 1 s.size = num 4 ep ++ (num 2 ps.length ++ rowsB ps) := by rw [hs']; exact extract_tail _ _ 1 (num_size _ _)
  have t5 : s.extract 5 s.size = num 2 ps.length ++ rowsB ps := by
    have := extract_extract s 1 4 (by omega)
    rw [← this, t1]; exact extract_tail _ _ 4 (num_size _ _)
  have t7 : s.extract (7 + 8 * 0) s.size = rowsB ps := by
    have := extract_extract s 5 2 (by omega)
    rw [show 7 + 8 * 0 = 5 + 2 from rfl, ← this, t5]; exact extract_tail _ _ 2 (num_size _ _)
  have b0 : bt s 0 = 72 := by rw [← tv1, hs', tv_num 1 72 _ (by decide) (by decide)]
  have hN : rowsN s = ps.length := by
    unfold rowsN
    rw [t5, tv_num 2 _ _ (by omega) (by simp; omega)]
    omega
  have hR := rows_rowsB s ps 0 hw (by omega) t7
  unfold openS
  rw [if_neg (by omega), if_neg (by simp [b0]), if_neg (by omega), hN, if_neg (by omega), if_neg (by omega), hR, if_pos hm, t1, tv_num 4 ep _ e0 (by simpa using e1)]
end Go.Proofs.Ytdmmklfphkgmlaa.Ba
