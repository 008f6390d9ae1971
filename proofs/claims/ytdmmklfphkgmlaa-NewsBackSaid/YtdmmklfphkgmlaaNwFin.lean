/- news.OpenReport: what it answers of any bytes. -/
import Derived.Test.YtdmmklfphkgmlaaNwOpenM
import Derived.Test.YtdmmklfphkgmlaaNwPlain
namespace Go.Proofs.Ytdmmklfphkgmlaa.Ba
open Go.RowKit Go.Proofs.YtdmmklfphkgmlaaW.PrintWords Go.Proofs.YtdmmklfphkgmlaaW.PrintLast Go.Proofs.YtdmmklfphkgmlaaW.PrintMore Go.Proofs.Ytdmmklfphkgmlaa.Om

theorem openEnd_zero {w : World} {err : Int} {r : Ending} {w' : World} (h : r = .returned (.tuple #[.agg #[.int .u32 0, .slice none 0 0], .int .i64 err]) ∧ Below w.heap.size w w') : OpenEnd w 0 [] err r w' :=
  ⟨.slice none 0 0, [], h.1, rfl, Kd.R_nil _ _ _ _ _, h.2⟩

theorem openReport_fin (s : ByteArray) (w : World) : Calls Try.prog 41 #[.string s] w (OpenEnd w (openS s).1 (openS s).2.1 (openS s).2.2) := by
  have hn := rowsN_lt s
  obtain ⟨t0, t1⟩ := tv_range (s.extract 5 s.size) 2
  have hN : ((rowsN s : Nat) : Int) = tv (s.extract 5 s.size) 2 := by unfold rowsN; omega
  unfold openS
  by_cases h0 : s.size = 0
  · rw [if_pos h0]
    exact (openReport_head s ⟨#[]⟩ 10 (by unfold headS; rw [if_pos ((toList_eq_nil s).2 h0)]) (by decide) w).mono fun _ _ h => openEnd_zero h
  · rw [if_neg h0]
    have hne : ¬ s.toList = [] := fun e => h0 ((toList_eq_nil s).1 e)
    by_cases h1 : bt s 0 = 72
    · rw [if_neg (show ¬ (bt s 0 ≠ 72) by simpa using h1)]
      have hh : headS s ⟨#[72]⟩ = (s.extract 1 s.size, 0) := by
        unfold headS; rw [if_neg hne, if_pos ((head_eq72 s h0).2 h1)]
      have hz := size_tail s 1
      have hz5 := size_tail s 5
      by_cases h2 : s.size < 7
      · rw [if_pos h2]
        obtain ⟨X, hX⟩ : ∃ X, takeN (s.extract 1 s.size) [4, 2] [] = (⟨#[]⟩, 10, X) := by
          simp only [takeN]
          by_cases q1 : s.size < 5
          · have : takeS (s.extract 1 s.size) 4 = (0, ⟨#[]⟩, 10) := by unfold takeS; rw [if_neg (by decide), if_pos (by omega)]
            rw [this]; exact ⟨_, rfl⟩
          · have e1 : takeS (s.extract 1 s.size) 4 = (tv (s.extract 1 s.size) 4, s.extract 5 s.size, 0) := by
              unfold takeS; rw [if_neg (by decide), if_neg (by omega), show ((4 : Int)).toNat = 4 from rfl, extract_extract s 1 4 (by omega)]
            rw [e1]; simp only [if_true]
            have : takeS (s.extract 5 s.size) 2 = (0, ⟨#[]⟩, 10) := by unfold takeS; rw [if_neg (by decide), if_pos (by omega)]
            rw [this]; exact ⟨_, rfl⟩
        exact (openReport_short s _ _ 10 X hh hX (by decide) w).mono fun _ _ h => openEnd_zero h
      · rw [if_neg h2]
        have hX : takeN (s.extract 1 s.size) [4, 2] [] = (s.extract 7 s.size, 0, [tv (s.extract 1 s.size) 4, (rowsN s : Int)]) := by
          have e1 : takeS (s.extract 1 s.size) 4 = (tv (s.extract 1 s.size) 4, s.extract 5 s.size, 0) := by
            unfold takeS; rw [if_neg (by decide), if_neg (by omega), show ((4 : Int)).toNat = 4 from rfl, extract_extract s 1 4 (by omega)]
          have e2 : takeS (s.extract 5 s.size) 2 = (tv (s.extract 5 s.size) 2, s.extract 7 s.size, 0) := by
            unfold takeS; rw [if_neg (by decide), if_neg (by omega), show ((2 : Int)).toNat = 2 from rfl, extract_extract s 5 2 (by omega)]
          simp only [takeN, e1, e2, if_true, hN]
          rfl
        have hR := rowsT_any s (rowsN s) (rowsN s) 0 [] (by omega) (by omega)
        rw [Nat.mul_zero, Nat.add_zero, List.nil_append] at hR
        obtain ⟨a0, a1⟩ := tv_range (s.extract 1 s.size) 4
        have e32 : tv (s.extract 1 s.size) 4 % 4294967296 = tv (s.extract 1 s.size) 4 := Int.emod_eq_of_lt a0 (by simpa using a1)
        have hz7 := size_tail s (7 + 8 * rowsN s)
        by_cases h3 : s.size < 7 + 8 * rowsN s
        · rw [if_pos h3] at hR
          rw [if_pos h3]
          exact openReport_main s _ _ _ _ _ _ _ hh hX hn hR w _ _ _ (by rw [if_pos (by decide)])
        · rw [if_neg h3] at hR
          rw [if_neg h3]
          by_cases h4 : 7 + 8 * rowsN s < s.size
          · rw [if_pos h4]
            exact openReport_main s _ _ _ _ _ _ _ hh hX hn hR w _ _ _ (by rw [if_neg (by decide), if_pos (fun e => by have := (toList_eq_nil _).1 e; omega)])
          · rw [if_neg h4]
            have he : (s.extract (7 + 8 * rowsN s) s.size).toList = [] := (toList_eq_nil _).2 (by omega)
            by_cases h5 : mayB (rowsFrom s 0 (rowsN s)) = true
            · rw [if_pos h5]
              exact openReport_main s _ _ _ _ _ _ _ hh hX hn hR w _ _ _ (by rw [if_neg (by decide), if_neg (by simpa using he), if_pos h5, e32])
            · rw [if_neg h5]
              exact openReport_main s _ _ _ _ _ _ _ hh hX hn hR w _ _ _ (by rw [if_neg (by decide), if_neg (by simpa using he), if_neg h5])
    · rw [if_pos h1]
      exact (openReport_head s ⟨#[]⟩ 4 (by unfold headS; rw [if_neg hne, if_neg (fun e => h1 ((head_eq72 s h0).1 e))]) (by decide) w).mono fun _ _ h => openEnd_zero h

end Go.Proofs.Ytdmmklfphkgmlaa.Ba
