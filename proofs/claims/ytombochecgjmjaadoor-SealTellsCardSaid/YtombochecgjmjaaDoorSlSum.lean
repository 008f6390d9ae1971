/- seal.Sum, and the document's. -/
import Derived.Test.YtombochecgjmjaaDoorSlP
namespace Go.Proofs.YtombochecgjmjaaDoor.Sl
set_option linter.unusedSimpArgs false
open Go.RowKit

set_option maxRecDepth 100000 in
set_option maxHeartbeats 400000 in
theorem sum_calls (s : ByteArray) (w : World) (hs : s.size ≤ 140737488355328) :
    Calls Tryd.prog 12 #[.string s] w fun e w' => e = .returned (.int .u32 (sumN s.data.toList : Nat)) ∧ w = w' := by
  go_enter Tryd.func12, Tryd.ntmps12
  go_wp2
  go_loop [3, 8] (fun t i => ∃ (j : Nat), i = .int .i64 j ∧ j ≤ s.size ∧ t = .int .u32 (crc (s.data.toList.take j) 4294967295 : Nat)) (fun _ i => s.size - (intOf i).toNat)
  case atStart => exact ⟨0, rfl, by omega, rfl⟩
  case round =>
    obtain ⟨j, rfl, hj, rfl⟩ := hrel
    have hx := crc_lt (s.data.toList.take j) 4294967295 (by omega)
    by_cases hlt : j < s.size
    · have hb := (s[j]'hlt).toNat_lt
      have HN := Aside0.mk (crc_snoc s j hlt 4294967295)
      generalize crc (s.data.toList.take j) 4294967295 = X at hx HN ⊢
      have e1 : ((s[j]'hlt).toNat : Int) % 4294967296 = ((s[j]'hlt).toNat : Int) := by omega
      have e2 := u32_xor_nat X (s[j]'hlt).toNat hx (by omega)
      have hy := xor_byte hx hb
      go_wp2
      clear e1 e2
      generalize X ^^^ (s[j]'hlt).toNat = Y0 at hy HN ⊢
      have HR := Aside0.mk (show s.size - (intOf (.int .i64 ((j : Int) + 1))).toNat < s.size - (intOf (.int .i64 (j : Int))).toNat by simp [intOf]; omega)
      go_loop [3, 17] (fun t i => ∃ (k : Nat), i = .int .i64 k ∧ k ≤ 8 ∧ t = .int .u32 (sts k Y0 : Nat)) (fun _ i => 8 - (intOf i).toNat)
      case atStart => exact ⟨0, rfl, by omega, rfl⟩
      case round =>
        obtain ⟨k, rfl, hk, rfl⟩ := hrel
        have hz := sts_lt hy k
        by_cases hlt2 : k < 8
        · have HE := Aside0.mk (show sts (k + 1) Y0 = st (sts k Y0) from rfl)
          generalize sts k Y0 = Z at hz HE ⊢
          have a1 := u32_and_nat Z 1 hz (by omega)
          have a2 : ((1 : Nat) : Int) = 1 := rfl
          rw [a2, Nat.and_one_is_mod] at a1
          have a3 := u32_xor_nat (Z / 2) 3988292384 (by omega) (by omega)
          have a4 : ((3988292384 : Nat) : Int) = 3988292384 := rfl
          have a5 : ((Z / 2 : Nat) : Int) = (Z : Int) / 2 := by omega
          rw [a4, a5] at a3
          by_cases hm : Z % 2 = 1
          · have t1 : (bits .and .u32 (Z : Int) 1 == 1) = true := by rw [a1, hm]; rfl
            have E := Aside0.mk (show Value.int .u32 (bits .xor .u32 ((Z : Int) / 2) 3988292384) = .int .u32 (sts (k + 1) Y0 : Nat) by rw [HE.out, st, if_pos hm, a3])
            clear a1 a2 a3 a4 a5 hm
            go_wp2
            go_round
            case rel => exact ⟨k + 1, by go_num, by omega, E.out⟩
            case measure => simp [intOf]; omega
          · have t1 : (bits .and .u32 (Z : Int) 1 == 1) = false := by rw [a1]; simp; omega
            have E := Aside0.mk (show Value.int .u32 ((Z : Int) / 2) = .int .u32 (sts (k + 1) Y0 : Nat) by rw [HE.out, st, if_neg hm, a5])
            clear a1 a2 a3 a4 a5 hm
            go_wp2
            go_round
            case rel => exact ⟨k + 1, by go_num, by omega, E.out⟩
            case measure => simp [intOf]; omega
        · have hge : k = 8 := by omega
          subst hge
          clear hz
          go_wp2
          go_round
          case rel => exact ⟨j + 1, by go_num, by omega, by rw [HN.out]⟩
          case measure => simp [intOf]; omega
    · have hge : j = s.size := by omega
      subst hge
      rw [crc_all] at hx ⊢
      have e3 := not_u32 hx
      have E := Aside0.mk (show ((4294967295 - crc s.data.toList 4294967295 : Nat) : Int) = (sumN s.data.toList : Nat) from rfl)
      have sg : IntKind.u32.signed = false := rfl
      go_wp2
      go_ret
      exact ⟨rfl, rfl⟩

set_option maxRecDepth 100000 in
set_option maxHeartbeats 400000 in
theorem rsum_calls (s : ByteArray) (w : World) (hs : s.size ≤ 140737488355328) :
    Calls Tryd.prog 7 #[.string s] w fun e w' => e = .returned (.int .u64 (sumN s.data.toList : Nat)) ∧ w = w' := by
  go_enter Tryd.func7, Tryd.ntmps7
  go_wp2
  go_loop [3, 4] (fun t i => ∃ (j : Nat), i = .int .i64 j ∧ j ≤ s.size ∧ t = .int .u64 (crc (s.data.toList.take j) 4294967295 : Nat)) (fun _ i => s.size - (intOf i).toNat)
  case atStart => exact ⟨0, rfl, by omega, rfl⟩
  case round =>
    obtain ⟨j, rfl, hj, rfl⟩ := hrel
    have hx := crc_lt (s.data.toList.take j) 4294967295 (by omega)
    by_cases hlt : j < s.size
    · have hb := (s[j]'hlt).toNat_lt
      have HN := Aside0.mk (crc_snoc s j hlt 4294967295)
      generalize crc (s.data.toList.take j) 4294967295 = X at hx HN ⊢
      rw [beside8 X _ hb] at HN
      have e1 : ((s[j]'hlt).toNat : Int) % 18446744073709551616 = ((s[j]'hlt).toNat : Int) := by omega
      go_wp2
      clear e1
      generalize (s[j]'hlt).toNat = B at hb HN ⊢
      have HR := Aside0.mk (show s.size - (intOf (.int .i64 ((j : Int) + 1))).toNat < s.size - (intOf (.int .i64 (j : Int))).toNat by simp [intOf]; omega)
      go_loop [3, 5, 6] (fun t c i => ∃ (k : Nat), i = .int .i64 k ∧ k ≤ 8 ∧ t = .int .u64 (rsts k X B : Nat) ∧ c = .int .u64 (B / 2 ^ k : Nat)) (fun _ _ i => 8 - (intOf i).toNat)
      case atStart => exact ⟨0, rfl, by omega, rfl, by rw [Nat.pow_zero, Nat.div_one]⟩
      case round =>
        obtain ⟨k, rfl, hk, rfl, rfl⟩ := hrel
        have hz := rsts_lt (b := B) hx k
        by_cases hlt2 : k < 8
        · have HE := Aside0.mk (show rsts (k + 1) X B = rst (rsts k X B) (B / 2 ^ k) from rfl)
          have HB := Aside0.mk (show B / 2 ^ (k + 1) = B / 2 ^ k / 2 by rw [Nat.pow_succ, Nat.div_div_eq_div_mul])
          have hc : B / 2 ^ k < 256 := Nat.lt_of_le_of_lt (Nat.div_le_self _ _) hb
          generalize rsts k X B = Z at hz HE ⊢
          generalize B / 2 ^ k = Y at HE HB hc ⊢
          have a3 := u64_xor_nat (Z / 2) 3988292384 (by omega) (by omega)
          have a4 : ((3988292384 : Nat) : Int) = 3988292384 := rfl
          have a5 : ((Z / 2 : Nat) : Int) = (Z : Int) / 2 := by omega
          have E2 := Aside0.mk (show Value.int .u64 ((Y : Int) / 2) = .int .u64 (B / 2 ^ (k + 1) : Nat) by rw [HB.out]; congr 1)
          rw [a4, a5] at a3
          by_cases hm : Z % 2 = Y % 2
          · have t1 : ((Z : Int) % 2 != (Y : Int) % 2) = false := by simp; omega
            have t2 : (Z % 2 != Y % 2) = false := by simp; omega
            have E := Aside0.mk (show Value.int .u64 ((Z : Int) / 2) = .int .u64 (rsts (k + 1) X B : Nat) by rw [HE.out, rst, if_pos hm, a5])
            clear a3 a4 a5 hm
            go_wp2
            go_round
            case rel => exact ⟨k + 1, by go_num, by omega, E.out, E2.out⟩
            case measure => simp [intOf]; omega
          · have t1 : ((Z : Int) % 2 != (Y : Int) % 2) = true := by simp; omega
            have t2 : (Z % 2 != Y % 2) = true := by simp; omega
            have E := Aside0.mk (show Value.int .u64 (bits .xor .u64 ((Z : Int) / 2) 3988292384) = .int .u64 (rsts (k + 1) X B : Nat) by rw [HE.out, rst, if_neg hm, a3])
            clear a3 a4 a5 hm
            go_wp2
            go_round
            case rel => exact ⟨k + 1, by go_num, by omega, E.out, E2.out⟩
            case measure => simp [intOf]; omega
        · have hge : k = 8 := by omega
          subst hge
          clear hz
          go_wp2
          go_round
          case rel => exact ⟨j + 1, by go_num, by omega, by rw [HN.out]⟩
          case measure => simp [intOf]; omega
    · have hge : j = s.size := by omega
      subst hge
      rw [crc_all] at hx ⊢
      have E := Aside0.mk (show ((4294967295 - crc s.data.toList 4294967295 : Nat) : Int) = (sumN s.data.toList : Nat) from rfl)
      go_wp2
      go_ret
      refine ⟨?_, rfl⟩
      show Ending.returned (.int .u64 (4294967295 - (crc s.data.toList 4294967295 : Nat))) = _
      rw [← E.out, sub64']
      exact hx
end Go.Proofs.YtombochecgjmjaaDoor.Sl
