/- What the document's Put and Take answer, told as plain functions: the same as octet's. -/
import Derived.Test.YtdmmklfphkgmlaaBaOctR
import Derived.Test.YtdmmklfphkgmlaaBcOct
namespace Go.Proofs.Ytdmmklfphkgmlaa.Ba
open Go.RowKit Go.Proofs.YtdmmklfphkgmlaaW.PrintWords Go.Proofs.YtdmmklfphkgmlaaW.PrintLast Go.Proofs.YtdmmklfphkgmlaaW.PrintMore Go.Proofs.Ytdmmklfphkgmlaa.Om

theorem rput_l (v : Int) (n : Nat) (h0 : 0 ≤ v) (h1 : v < 18446744073709551616) (hn : n ≤ 8) : ∀ (d k i : Nat), i + d = n → d < k →
    chaffref17_Put.l0 k (v / 256 ^ i) (List.replicate (n - i) 0 ++ dg i v) ((n : Int) - 1 - i) = some (if v / 256 ^ n > 0 then (⟨#[]⟩, 5) else (num n v, 0)) := by
  intro d
  induction d with
  | zero =>
    intro k i hi hk
    obtain ⟨k, rfl⟩ : ∃ m, k = m + 1 := ⟨k - 1, by omega⟩
    obtain rfl : i = n := by omega
    simp only [chaffref17_Put.l0]
    rw [if_neg (by omega), Nat.sub_self, List.replicate_zero, List.nil_append]
    by_cases c : v / 256 ^ i > 0
    · rw [if_pos c, if_pos c]
    · rw [if_neg c, if_neg c]; rfl
  | succ d ih =>
    intro k i hi hk
    obtain ⟨k, rfl⟩ : ∃ m, k = m + 1 := ⟨k - 1, by omega⟩
    obtain ⟨d0, _⟩ := div_lt64 h0 h1 i
    obtain ⟨e0, e1⟩ := div_lt64 h0 h1 (i + 1)
    simp only [chaffref17_Put.l0]
    rw [if_pos (by omega), if_pos (by omega), if_pos (by rw [List.length_append, List.length_replicate, dg_len]; omega),
      tdiv256 d0, tmod256 d0, div_step, u64w e0 e1, Int.emod_emod, w64 (x := (n : Int) - 1 - i - 1) (by omega) (by omega),
      show ((n : Int) - 1 - i).toNat = n - i - 1 by omega, show n - i = (n - i - 1) + 1 by omega, Nat.add_sub_cancel, set_rep]
    have := ih k (i + 1) (by omega) (by omega)
    rw [show n - (i + 1) = n - i - 1 by omega, show (n : Int) - 1 - (i + 1 : Nat) = (n : Int) - 1 - i - 1 by omega] at this
    exact this

theorem rput_any (v n : Int) (h0 : 0 ≤ v) (h1 : v < 18446744073709551616) (k : Nat) (hk : 10 ≤ k) : chaffref17_Put.f k v n = some (putS v n) := by
  obtain ⟨k, rfl⟩ : ∃ m, k = m + 1 := ⟨k - 1, by omega⟩
  unfold chaffref17_Put.f putS
  by_cases a : n < 1
  · rw [if_pos a, if_neg (by omega)]; rfl
  · rw [if_neg a]
    by_cases b : n > 8
    · rw [decide_eq_true b, if_neg (by omega)]; rfl
    · rw [decide_eq_false b]
      simp only [chaffref17_Put.j0]
      rw [if_neg (by decide)]
      obtain ⟨m, rfl⟩ := Int.eq_ofNat_of_zero_le (show 0 ≤ n by omega)
      rw [if_pos (by omega), if_pos (by omega), Int.toNat_natCast, w64 (x := (m : Int) - 1) (by omega) (by omega)]
      have := rput_l v m h0 h1 (by omega) m k 0 (by omega) (by omega)
      rw [Nat.sub_zero, Int.pow_zero, Int.ediv_one, show (m : Int) - 1 - (0 : Nat) = (m : Int) - 1 by omega] at this
      simp only [dg, List.append_nil] at this
      rw [this]
      by_cases e : v < 256 ^ m
      · rw [if_neg (by rw [div_pos_iff v m h0]; simpa using e), if_pos ⟨by omega, by omega, e⟩]
      · rw [if_pos (by rw [div_pos_iff v m h0]; exact e), if_neg (by rintro ⟨_, _, h⟩; exact e h)]

theorem rtake_l (s : ByteArray) (n : Nat) (hn : n ≤ 8) (hs : n ≤ s.size) : ∀ (d k i : Nat), i + d = n → d < k →
    chaffref17_Take.l0 k s n (tv s i) i = some (tv s n, s.extract n s.size, 0) := by
  intro d
  induction d with
  | zero =>
    intro k i hi hk
    obtain ⟨k, rfl⟩ : ∃ m, k = m + 1 := ⟨k - 1, by omega⟩
    obtain rfl : i = n := by omega
    simp only [chaffref17_Take.l0]
    rw [if_neg (by omega), if_pos (by omega), if_pos (by omega), Int.toNat_natCast]
  | succ d ih =>
    intro k i hi hk
    obtain ⟨k, rfl⟩ : ∃ m, k = m + 1 := ⟨k - 1, by omega⟩
    obtain ⟨t0, t1⟩ := tv_range s i
    have t2 := pow_le7 (n := i) (by omega)
    obtain ⟨b0, b1⟩ := bt_range s i
    simp only [chaffref17_Take.l0]
    rw [if_pos (by omega), if_pos (by omega), if_pos (by omega), add_byte t0 (by omega) b0 b1, w64 (x := (i : Int) + 1) (by omega) (by omega)]
    exact ih k (i + 1) (by omega) (by omega)

theorem rtake_any (s : ByteArray) (n : Int) (k : Nat) (hk : 10 ≤ k) : chaffref17_Take.f k s n = some (takeS s n) := by
  obtain ⟨k, rfl⟩ : ∃ m, k = m + 1 := ⟨k - 1, by omega⟩
  unfold chaffref17_Take.f takeS
  by_cases a : n < 1
  · rw [if_pos a, if_pos (Or.inl a)]; rfl
  · rw [if_neg a]
    by_cases b : n > 8
    · rw [decide_eq_true b, if_pos (Or.inr b)]; rfl
    · rw [decide_eq_false b, if_neg (show ¬ (n < 1 ∨ 8 < n) by omega)]
      simp only [chaffref17_Take.j0]
      rw [if_neg (by decide)]
      by_cases c : (s.size : Int) < n
      · rw [if_pos c, if_pos c]
      · rw [if_neg c, if_neg c]
        obtain ⟨m, rfl⟩ := Int.eq_ofNat_of_zero_le (show 0 ≤ n by omega)
        rw [Int.toNat_natCast]
        exact rtake_l s m (by omega) (by omega) m k 0 (by omega) (by omega)

end Go.Proofs.Ytdmmklfphkgmlaa.Ba
