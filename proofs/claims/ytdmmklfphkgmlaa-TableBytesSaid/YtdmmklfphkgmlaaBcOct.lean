/- What octet.Put, octet.PutText, the examples of layer 17 and octet.Take answer, told as plain functions. -/
import Derived.Test.YtdmmklfphkgmlaaBaOct
import Derived.Test.YtdmmklfphkgmlaaOm
namespace Go.Proofs.Ytdmmklfphkgmlaa.Ba
open Go.RowKit Go.Proofs.YtdmmklfphkgmlaaW.PrintWords Go.Proofs.YtdmmklfphkgmlaaW.PrintLast Go.Proofs.YtdmmklfphkgmlaaW.PrintMore Go.Proofs.Ytdmmklfphkgmlaa.Om

theorem put_l (v : Int) (n : Nat) (hn : n ≤ 8) : ∀ (d k i : Nat), i + d = n → d < k →
    octet_Put.l0 k v n (List.replicate (n - i) 0 ++ dg i v) n i = some (num n v, 0) := by
  intro d
  induction d with
  | zero =>
    intro k i hi hk
    obtain ⟨k, rfl⟩ : ∃ m, k = m + 1 := ⟨k - 1, by omega⟩
    obtain rfl : i = n := by omega
    simp only [octet_Put.l0]
    rw [if_neg (by omega), Nat.sub_self, List.replicate_zero, List.nil_append]
    rfl
  | succ d ih =>
    intro k i hi hk
    obtain ⟨k, rfl⟩ : ∃ m, k = m + 1 := ⟨k - 1, by omega⟩
    simp only [octet_Put.l0]
    rw [if_pos (by omega), w64 (x := 8 * (i : Int)) (by omega) (by omega), if_pos (by omega), w64 (x := (n : Int) - 1) (by omega) (by omega),
      w64 (x := (n : Int) - 1 - i) (by omega) (by omega), if_pos (by omega),
      if_pos (by rw [List.length_append, List.length_replicate, dg_len]; omega), w64 (x := (i : Int) + 1) (by omega) (by omega),
      shr8 v i (by omega), show ((n : Int) - 1 - i).toNat = n - i - 1 by omega, show n - i = (n - i - 1) + 1 by omega, Nat.add_sub_cancel, set_rep]
    have := ih k (i + 1) (by omega) (by omega)
    rw [show n - (i + 1) = n - i - 1 by omega, show ((i + 1 : Nat) : Int) = (i : Int) + 1 by omega] at this
    exact this

theorem put_j (v : Int) (n : Nat) (hn : n ≤ 8) (k : Nat) (hk : 10 ≤ k) : octet_Put.j0 k v n = some (num n v, 0) := by
  obtain ⟨k, rfl⟩ : ∃ m, k = m + 1 := ⟨k - 1, by omega⟩
  simp only [octet_Put.j0]
  rw [if_pos (by omega), if_pos (by omega)]
  have := put_l v n hn n k 0 (by omega) (by omega)
  rw [Nat.sub_zero] at this
  simp only [dg, List.append_nil] at this
  rw [Int.toNat_natCast]
  exact this

theorem put_any (v n : Int) (h0 : 0 ≤ v) (h1 : v < 18446744073709551616) (k : Nat) (hk : 10 ≤ k) : octet_Put.f k v n = some (putS v n) := by
  unfold octet_Put.f putS
  by_cases a : n < 1
  · rw [if_pos a, if_neg (by omega)]
  · by_cases b : n > 8
    · rw [if_neg a, if_pos b, if_neg (by omega)]
    · rw [if_neg a, if_neg b]
      obtain ⟨m, rfl⟩ := Int.eq_ofNat_of_zero_le (show 0 ≤ n by omega)
      rw [put_j v m (by omega) k hk, Int.toNat_natCast, w64 (x := 8 * (m : Int)) (by omega) (by omega), shr8 v m (by omega)]
      by_cases c : (m : Int) < 8
      · rw [if_pos c, if_pos (by omega)]
        by_cases e : v < 256 ^ m
        · rw [if_neg (by rw [div_pos_iff v m h0]; simpa using e), if_pos ⟨by omega, by omega, e⟩]
        · rw [if_pos (by rw [div_pos_iff v m h0]; exact e), if_neg (by rintro ⟨_, _, h⟩; exact e h)]
      · obtain rfl : m = 8 := by omega
        rw [if_neg c, if_pos ⟨by omega, by omega, by simpa using h1⟩]

theorem putText_any (t : ByteArray) (m : Int) (k : Nat) (hk : 10 ≤ k) : octet_PutText.f k t m = some (putTextS t m) := by
  unfold octet_PutText.f putTextS
  by_cases a : m < 0
  · rw [if_pos a, if_pos (Or.inl a)]
  · rw [if_neg a]
    by_cases b : 65535 < m
    · rw [if_pos b, if_pos (Or.inr b)]
    · rw [if_neg b, if_neg (show ¬ (m < 0 ∨ 65535 < m) by omega)]
      by_cases c : m < (t.size : Int)
      · rw [if_pos c, if_pos c]
      · rw [if_neg c, if_neg c, put_any _ _ (by omega) (by omega) _ (by omega)]
        have e : putS (t.size : Int) 2 = (num 2 t.size, 0) := by
          unfold putS
          rw [if_pos ⟨by decide, by decide, by simp; omega⟩]
          rfl
        rw [e]
        simp only [Option.bind_some]
        rw [if_pos (by rw [num_size]; omega)]

theorem awake_any (k : Nat) (hk : 10 ≤ k) : chafflaw17_Awake.f k = some true := by
  unfold chafflaw17_Awake.f
  rw [put_any _ _ (by decide) (by decide) _ (by omega), putText_any _ _ _ hk]
  have e1 : (putS 258 2) = (strOfNums [1, 2], 0) := rfl
  have e2 : (putTextS ⟨#[97]⟩ 9) = (strOfNums [0, 1, 97], 0) := rfl
  rw [e1, e2]
  simp only [Option.bind_some, Lib.strOfNums_toList]
  rfl

theorem take_l (s : ByteArray) (n : Nat) (hn : n ≤ 8) (hs : n ≤ s.size) : ∀ (d k i : Nat), i + d = n → d < k →
    octet_Take.l0 k s n (tv s i) n i = some (tv s n, s.extract n s.size, 0) := by
  intro d
  induction d with
  | zero =>
    intro k i hi hk
    obtain ⟨k, rfl⟩ : ∃ m, k = m + 1 := ⟨k - 1, by omega⟩
    obtain rfl : i = n := by omega
    simp only [octet_Take.l0]
    rw [if_neg (by omega), if_pos (by omega), if_pos (by omega), Int.toNat_natCast]
  | succ d ih =>
    intro k i hi hk
    obtain ⟨k, rfl⟩ : ∃ m, k = m + 1 := ⟨k - 1, by omega⟩
    obtain ⟨t0, t1⟩ := tv_range s i
    have t2 := pow_le7 (n := i) (by omega)
    obtain ⟨b0, b1⟩ := bt_range s i
    simp only [octet_Take.l0]
    rw [if_pos (by omega), if_pos (by omega), if_pos (by omega), or_byte t0 (by omega) b0 b1, w64 (x := (i : Int) + 1) (by omega) (by omega)]
    exact ih k (i + 1) (by omega) (by omega)

theorem take_any (s : ByteArray) (n : Int) (k : Nat) (hk : 10 ≤ k) : octet_Take.f k s n = some (takeS s n) := by
  obtain ⟨k, rfl⟩ : ∃ m, k = m + 1 := ⟨k - 1, by omega⟩
  unfold octet_Take.f takeS
  by_cases a : n < 1
  · rw [if_pos a, if_pos (Or.inl a)]; rfl
  · rw [if_neg a]
    by_cases b : n > 8
    · rw [decide_eq_true b, if_pos (Or.inr b)]; rfl
    · rw [decide_eq_false b, if_neg (show ¬ (n < 1 ∨ 8 < n) by omega)]
      simp only [octet_Take.j0]
      rw [if_neg (by decide)]
      by_cases c : (s.size : Int) < n
      · rw [if_pos c, if_pos c]
      · rw [if_neg c, if_neg c]
        obtain ⟨m, rfl⟩ := Int.eq_ofNat_of_zero_le (show 0 ≤ n by omega)
        rw [Int.toNat_natCast]
        exact take_l s m (by omega) (by omega) m k 0 (by omega) (by omega)

end Go.Proofs.Ytdmmklfphkgmlaa.Ba
