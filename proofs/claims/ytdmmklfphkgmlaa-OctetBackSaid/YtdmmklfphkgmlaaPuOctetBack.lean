/- OctetBack, the plain law: what is put is taken as it was, whatever is behind. No condition. -/
import Derived.Test.YtdmmklfphkgmlaaBaOctBack
import Derived.Test.YtdmmklfphkgmlaaBcOctT
namespace Go.Proofs.Ytdmmklfphkgmlaa.Pure
open Go.RowKit Go.Proofs.Ytdmmklfphkgmlaa.Ba Go.Proofs.YtdmmklfphkgmlaaW.PrintWords Go.Proofs.YtdmmklfphkgmlaaW.PrintLast Go.Proofs.YtdmmklfphkgmlaaW.PrintMore Go.Proofs.Ytdmmklfphkgmlaa.Om

theorem takeS_put (n : Nat) (v : Int) (b : ByteArray) (h1 : 1 ≤ n) (h8 : n ≤ 8) (h0 : 0 ≤ v) (h : v < 256 ^ n) : takeS (num n v ++ b) n = (v, b, 0) := by
  unfold takeS
  rw [if_neg (by omega), if_neg (by rw [ByteArray.size_append, num_size]; omega), Int.toNat_natCast, tv_num n v b h0 h, extract_tail _ _ n (num_size n v)]

theorem j1_true (v : Int) (b : ByteArray) (n : Nat) (h1 : 1 ≤ n) (h8 : n ≤ 8) (v0 : 0 ≤ v) (hb : b.size ≤ 100) (k : Nat) (hk : 12 ≤ k) :
    chafflaw17_OctetBack.j1 (k + 1) v b n (putS v n).1 (putS v n).2 false = some true := by
  by_cases e : v < 256 ^ n
  · have hp : putS v n = (num n v, 0) := by
      unfold putS
      rw [Int.toNat_natCast, if_pos ⟨by omega, by omega, e⟩]
    rw [hp]
    simp only [chafflaw17_OctetBack.j1, Bool.false_eq_true, if_false, if_true]
    rw [awake_any k (by omega), if_pos (by rw [num_size]; omega), take_any _ _ _ (by omega), takeS_put n v b h1 h8 v0 e]
    simp [num_size]
  · have hp : putS v n = (⟨#[]⟩, 5) := by
      unfold putS
      rw [Int.toNat_natCast, if_neg (by rintro ⟨_, _, h⟩; exact e h)]
    rw [hp]
    simp only [chafflaw17_OctetBack.j1]
    rw [if_neg (show ¬ (false = true) by decide), if_neg (show ¬ ((5 : Int) = 0) by decide), awake_any k (by omega), Option.bind_some, if_pos rfl]
    rw [w64 (x := 8 * (n : Int)) (by omega) (by omega), if_pos (by omega), shr8 v n h8, decide_eq_true ((div_pos_iff v n v0).2 e)]

theorem OctetBack : chafflaw17_OctetBack.Pure := by
  intro v t b n hv ht hb hn
  obtain ⟨v0, v1⟩ : 0 ≤ v ∧ v < 18446744073709551616 := by
    simp [Lit.wf, IntKind.min, IntKind.max, IntKind.signed, IntKind.bits] at hv; omega
  obtain ⟨n0, n1⟩ : 0 ≤ n ∧ n < 256 := by
    simp [Lit.wf, IntKind.min, IntKind.max, IntKind.signed, IntKind.bits] at hn; omega
  suffices h : ∀ k : Nat, 12 ≤ k → chafflaw17_OctetBack.f (k + 2) v t b n = some true from ⟨_, h 12 (Nat.le_refl _)⟩
  intro k hk
  unfold chafflaw17_OctetBack.f
  by_cases a : (t.size : Int) > 1000
  · rw [if_pos a]
    simp only [chafflaw17_OctetBack.j0]
    rw [awake_any _ (by omega)]; rfl
  · rw [if_neg a]
    by_cases c : (b.size : Int) > 100
    · rw [decide_eq_true c]
      simp only [chafflaw17_OctetBack.j0]
      rw [awake_any _ (by omega)]; rfl
    · rw [decide_eq_false c]
      simp only [chafflaw17_OctetBack.j0]
      obtain ⟨m, hm⟩ := Int.eq_ofNat_of_zero_le (show 0 ≤ n % 8 + 1 by omega)
      have e : wrap64 (wrap64 (Int.tmod n 8) + 1) = (m : Int) := by
        rw [Int.tmod_eq_emod_of_nonneg n0, w64 (x := n % 8) (by omega) (by omega), w64 (by omega) (by omega)]; exact hm
      rw [if_neg (by decide), e, put_any _ _ v0 v1 _ (by omega), putText_any _ _ _ (by omega)]
      have e2 : putTextS t 1000 = (num 2 t.size ++ t, 0) := by
        unfold putTextS
        rw [if_neg (by omega), if_neg (by omega)]
      rw [e2]
      simp only [Option.bind_some]
      have hz : (num 2 (t.size : Int) ++ t).size = 2 + t.size := by rw [ByteArray.size_append, num_size]
      rw [if_pos (by rw [hz]; omega), takeText_any _ _ (by rw [ByteArray.size_append, hz]; omega) _ (by omega), takeTextS_put t b 1000 (by omega) (by omega)]
      simp only [Option.bind_some, if_true]
      rw [show (b.toList != b.toList) = false by simp]
      exact j1_true v b m (by omega) (by omega) v0 (by omega) k hk
end Go.Proofs.Ytdmmklfphkgmlaa.Pure
