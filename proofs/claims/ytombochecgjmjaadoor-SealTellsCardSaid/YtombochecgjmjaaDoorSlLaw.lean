/- What Close made, Open opens: the plain law. -/
import Derived.Test.YtombochecgjmjaaDoorSlCloseR
namespace Go.Proofs.YtombochecgjmjaaDoor.Sl
set_option linter.unusedSimpArgs false
set_option linter.unusedVariables false
open Go.RowKit

theorem bw_val (v n : Nat) : ∀ d, d ≤ n → val (bw v n d) = v / 256 ^ (n - d) % 256 ^ d
  | 0, _ => by simp [bw, val, Nat.mod_one]
  | d + 1, h => by
    rw [bw, val_snoc, bw_val v n d (by omega), show n - 1 - d = n - (d + 1) by omega]
    have e : n - d = n - (d + 1) + 1 := by omega
    rw [e, Nat.pow_succ, ← Nat.div_div_eq_div_mul]
    generalize v / 256 ^ (n - (d + 1)) = X
    rw [show (UInt8.ofNat X).toNat = X % 256 by simp [UInt8.toNat_ofNat], Nat.pow_succ, Nat.mul_comm (256 ^ d) 256, Nat.mod_mul]
    rw [Nat.mul_comm, Nat.add_comm]
theorem be_val {v n : Nat} (h : v < 256 ^ n) : val (be v n) = v := by
  rw [be, bw_val v n n (Nat.le_refl _), Nat.sub_self, Nat.pow_zero, Nat.div_one, Nat.mod_eq_of_lt h]
theorem low_lb (b : List UInt8) (hb : b.length = 124) (x : Nat) (hx : x < 4294967296) : low (b ++ lb x 4) 124 4 = x := by
  have g : ∀ i, (b ++ lb x 4).getD (124 + i) 0 = (lb x 4).getD i 0 := fun i => by
    rw [List.getD_eq_getElem?_getD, List.getElem?_append_right (by omega), hb, List.getD_eq_getElem?_getD, Nat.add_sub_cancel_left]
  simp only [low, g]
  simp [lb, UInt8.toNat_ofNat]
  omega
theorem ext_list (l : List UInt8) (a b : Nat) : ((⟨l.toArray⟩ : ByteArray).extract a b).data.toList = (l.take b).drop a := by
  rw [ByteArray.data_extract]
  rw [Array.toList_extract, List.drop_take]
theorem mid {a b c : List UInt8} {m n : Nat} (ha : a.length = m) (hb : m + b.length = n) : ((a ++ (b ++ c)).take n).drop m = b := by
  subst ha; subst hb
  rw [← List.append_assoc, List.take_append_of_le_length (by rw [List.length_append]; exact Nat.le_refl _), List.take_of_length_le (by rw [List.length_append]; omega), List.drop_left]
theorem at_mid {a c : List UInt8} {x : UInt8} {m : Nat} (ha : a.length = m) : (a ++ x :: c).getD m 0 = x := by
  subst ha
  rw [List.getD_eq_getElem?_getD, List.getElem?_append_right (Nat.le_refl _), Nat.sub_self]; rfl
theorem be1 (x : Nat) : be x 1 = [UInt8.ofNat x] := by simp [be, bw]
theorem head14_len (k g i n : Nat) : (head14 k g i n).length = 14 := by simp [head14, be_len]
theorem body_len (k g i : Nat) (d : List UInt8) (h : d.length ≤ 110) : (body k g i d).length = 124 := by simp [body, head14_len]; omega
theorem sum_zeros : sumN (List.replicate 124 0) ≠ 0 := by decide +kernel
theorem blank_iff (l : List UInt8) : blankB l = true ↔ l = List.replicate l.length 0 := by
  constructor
  · intro h
    rw [List.eq_replicate_iff]
    refine ⟨rfl, fun b hb => ?_⟩
    have := List.all_eq_true.1 h b hb
    simpa using this
  · intro h
    rw [blankB, List.all_eq_true]
    intro b hb
    rw [h] at hb
    simp [(List.mem_replicate.1 hb).2]
theorem blank_append (a b : List UInt8) : blankB (a ++ b) = (blankB a && blankB b) := List.all_append
theorem sector_not_blank (b : List UInt8) (hb : b.length = 124) : blankB (b ++ lb (sumN b) 4) = false := by
  cases h : blankB (b ++ lb (sumN b) 4) with
  | false => rfl
  | true =>
    rw [blank_append, Bool.and_eq_true] at h
    have h1 := (blank_iff b).1 h.1
    rw [hb] at h1
    have h2 := (blank_iff _).1 h.2
    have h3 : low (b ++ lb (sumN b) 4) 124 4 = 0 := by
      rw [h2, lb_len]
      have g : ∀ i, i < 4 → (b ++ List.replicate 4 (0 : UInt8)).getD (124 + i) 0 = 0 := fun i hi => by
        rw [List.getD_eq_getElem?_getD, List.getElem?_append_right (by omega), hb, Nat.add_sub_cancel_left, List.getElem?_replicate, if_pos hi]; rfl
      simp only [low, g 0 (by omega), g 1 (by omega), g 2 (by omega), g 3 (by omega)]
      rfl
    rw [low_lb b hb _ (sumN_lt b), h1] at h3
    exact absurd h3 sum_zeros

theorem open_sector (k g i : Nat) (d : ByteArray) (hk : k < 256) (hg : g < 18446744073709551616) (hi : i < 4294967296) (hd : d.size ≤ 110) :
    openS ⟨(sector k g i d.data.toList).toArray⟩ = (⟨k, g, i, d⟩, 0) := by
  have hdl : d.data.toList.length = d.size := by rw [Array.length_toList]; rfl
  have hbl : (body k g i d.data.toList).length = 124 := body_len _ _ _ _ (by omega)
  have hL : (⟨(sector k g i d.data.toList).toArray⟩ : ByteArray).data.toList = sector k g i d.data.toList := rfl
  have hsec : sector k g i d.data.toList = body k g i d.data.toList ++ lb (sumN (body k g i d.data.toList)) 4 := rfl
  have h1 : (⟨(sector k g i d.data.toList).toArray⟩ : ByteArray).size = 128 := by show (sector k g i d.data.toList).toArray.size = 128; rw [List.size_toArray]; exact sector_len k g i _ (by omega)
  have hex : ∀ a b, b ≤ 124 → ((⟨(sector k g i d.data.toList).toArray⟩ : ByteArray).extract a b).data.toList = ((body k g i d.data.toList).take b).drop a := fun a b hb => by
    rw [ext_list, hsec, List.take_append_of_le_length (by omega)]
  have e13 : (sector k g i d.data.toList).getD 13 0 = UInt8.ofNat d.size := by
    have e : sector k g i d.data.toList = (be k 1 ++ be g 8 ++ be i 4) ++ UInt8.ofNat d.size :: (d.data.toList ++ List.replicate (110 - d.size) 0 ++ lb (sumN (body k g i d.data.toList)) 4) := by
      rw [hsec]
      generalize lb (sumN (body k g i d.data.toList)) 4 = R
      rw [body, head14, be1 d.data.toList.length, hdl]
      simp [List.append_assoc]
    rw [e]; exact at_mid (by simp [be_len])
  have e0 : (sector k g i d.data.toList).getD 0 0 = UInt8.ofNat k := by
    rw [hsec, body, head14, be1 k]; rfl
  have t13 : ((sector k g i d.data.toList).getD 13 0).toNat = d.size := by rw [e13]; simp [UInt8.toNat_ofNat]; omega
  have t0 : ((sector k g i d.data.toList).getD 0 0).toNat = k := by rw [e0]; simp [UInt8.toNat_ofNat]; omega
  have b1 : ((body k g i d.data.toList).take 9).drop 1 = be g 8 := by
    rw [show body k g i d.data.toList = be k 1 ++ (be g 8 ++ (be i 4 ++ be d.data.toList.length 1 ++ d.data.toList ++ List.replicate (110 - d.data.toList.length) 0)) by rw [body, head14]; simp only [List.append_assoc]]
    exact mid (be_len _ _) (by rw [be_len])
  have b2 : ((body k g i d.data.toList).take 13).drop 9 = be i 4 := by
    rw [show body k g i d.data.toList = (be k 1 ++ be g 8) ++ (be i 4 ++ (be d.data.toList.length 1 ++ d.data.toList ++ List.replicate (110 - d.data.toList.length) 0)) by rw [body, head14]; simp only [List.append_assoc]]
    exact mid (by simp [be_len]) (by rw [be_len])
  have b3 : ((body k g i d.data.toList).take (14 + d.size)).drop 14 = d.data.toList := by
    rw [show body k g i d.data.toList = head14 k g i d.data.toList.length ++ (d.data.toList ++ (List.replicate (110 - d.data.toList.length) 0)) by rw [body]; simp only [List.append_assoc]]
    exact mid (head14_len _ _ _ _) (by rw [hdl])
  have b4 : ((body k g i d.data.toList).take 124).drop (14 + d.size) = List.replicate (110 - d.size) 0 := by
    rw [show body k g i d.data.toList = (head14 k g i d.data.toList.length ++ d.data.toList) ++ (List.replicate (110 - d.size) 0 ++ []) by rw [body, hdl]; simp only [List.append_assoc, List.append_nil]]
    exact mid (by rw [List.length_append, head14_len, hdl]) (by rw [List.length_replicate]; omega)
  have hda : (⟨(sector k g i d.data.toList).toArray⟩ : ByteArray).extract 14 (14 + d.size) = d := by
    apply ByteArray.ext
    apply Array.toList_inj.1
    rw [hex 14 (14 + d.size) (by omega), b3]
  rw [openS_ok h1 (by rw [hL]; exact sector_not_blank _ hbl) (by rw [hex 0 124 (by omega), List.drop_zero, List.take_of_length_le (by omega), hL, hsec, low_lb _ hbl _ (sumN_lt _)]) (by rw [hL, t13]; exact hd)
    (by rw [hL, t13, hex (14 + d.size) 124 (by omega), b4]; simp [blankB]), hL, t13, t0, hex 1 9 (by omega), hex 9 13 (by omega), b1, b2, be_val (by simpa using hg), be_val (by simpa using hi), hda]
theorem close_ok (k g i : Nat) (d : ByteArray) (hd : d.size ≤ 110) : closeS k g i d = (⟨(sector k g i d.data.toList).toArray⟩, 0) := by unfold closeS; rw [if_neg (by omega)]
theorem close_no (k g i : Nat) (d : ByteArray) (hd : 110 < d.size) : closeS k g i d = (⟨#[]⟩, 11) := by unfold closeS; rw [if_pos hd]
end Go.Proofs.YtombochecgjmjaaDoor.Sl
