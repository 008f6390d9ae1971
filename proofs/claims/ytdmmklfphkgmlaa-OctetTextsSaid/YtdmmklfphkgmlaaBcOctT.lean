/- What octet.TakeText answers, told as a plain function; what was put is taken as it was. -/
import Derived.Test.YtdmmklfphkgmlaaBaOctT
import Derived.Test.YtdmmklfphkgmlaaBcOct
namespace Go.Proofs.Ytdmmklfphkgmlaa.Ba
open Go.RowKit Go.Proofs.YtdmmklfphkgmlaaW.PrintWords Go.Proofs.YtdmmklfphkgmlaaW.PrintLast Go.Proofs.YtdmmklfphkgmlaaW.PrintMore Go.Proofs.Ytdmmklfphkgmlaa.Om

theorem takeText_any (s : ByteArray) (m : Int) (hs : s.size ≤ 9223372036854775807) (k : Nat) (hk : 12 ≤ k) : octet_TakeText.f k s m = some (takeTextS s m) := by
  obtain ⟨k, rfl⟩ : ∃ m, k = m + 1 := ⟨k - 1, by omega⟩
  unfold octet_TakeText.f takeTextS
  by_cases a : m < 0
  · rw [if_pos a, if_pos (Or.inl a)]; rfl
  · rw [if_neg a]
    by_cases b : m > 65535
    · rw [decide_eq_true b, if_pos (Or.inr b)]; rfl
    · rw [decide_eq_false b, if_neg (show ¬ (m < 0 ∨ 65535 < m) by omega)]
      simp only [octet_TakeText.j0]
      rw [if_neg (by decide), take_any _ _ _ (by omega)]
      unfold takeS
      rw [if_neg (by decide)]
      by_cases c : (s.size : Int) < 2
      · rw [if_pos c, if_pos c]; rfl
      · rw [if_neg c, if_neg c]
        have e2 : ((2 : Int)).toNat = 2 := rfl
        obtain ⟨t0, t1⟩ := tv_range s 2
        have hz : (s.extract 2 s.size).size = s.size - 2 := by rw [ByteArray.size_extract]; omega
        have hz' : ((s.extract 2 s.size).size : Int) = (s.size : Int) - 2 := by rw [hz]; omega
        rw [e2]
        simp only [Option.bind_some, if_true]
        rw [w64 (x := tv s 2) (by omega) (by omega)]
        by_cases d : tv s 2 > m
        · rw [if_pos d, if_pos d]
        · rw [if_neg d, if_neg d, hz']
          by_cases f : (s.size : Int) - 2 < tv s 2
          · rw [if_pos f, if_pos f]
          · rw [if_neg f, if_neg f, if_pos t0, if_pos (by omega)]

theorem takeTextS_put (t b : ByteArray) (m : Int) (hm : m ≤ 65535) (ht : (t.size : Int) ≤ m) : takeTextS (num 2 t.size ++ t ++ b) m = (t, b, 0) := by
  have hz : (num 2 t.size).size = 2 := num_size _ _
  have hv : tv (num 2 t.size ++ (t ++ b)) 2 = t.size := tv_num 2 t.size (t ++ b) (by omega) (by simp; omega)
  have hx : (num 2 (t.size : Int) ++ (t ++ b)).extract 2 (num 2 (t.size : Int) ++ (t ++ b)).size = t ++ b := extract_tail _ _ 2 hz
  have hs : (num 2 (t.size : Int) ++ (t ++ b)).size = 2 + (t.size + b.size) := by rw [ByteArray.size_append, ByteArray.size_append, hz]
  unfold takeTextS
  rw [ByteArray.append_assoc, hv, hx, hs, if_neg (by omega), if_neg (by omega), if_neg (by omega), if_neg (by omega), Int.toNat_natCast,
    extract_head t b _ rfl, extract_tail t b _ rfl]

end Go.Proofs.Ytdmmklfphkgmlaa.Ba
