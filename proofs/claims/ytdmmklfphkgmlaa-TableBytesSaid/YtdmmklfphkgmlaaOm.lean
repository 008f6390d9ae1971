/- The plain laws of a number's bytes, the highest first, and of the number of bytes. -/
import Derived.Test.YtdmmklfphkgmlaaWMore
import Derived.Lib.Bytes
import Derived.Laws.BitsAllLaws
namespace Go.Proofs.Ytdmmklfphkgmlaa.Om
open Go.RowKit Go.Proofs.YtdmmklfphkgmlaaW.PrintWords Go.Proofs.YtdmmklfphkgmlaaW.PrintMore

theorem w64 {x : Int} (h0 : -9223372036854775808 ≤ x) (h1 : x < 9223372036854775808) : wrap64 x = x := by unfold wrap64; omega
theorem u64w {x : Int} (h0 : 0 ≤ x) (h1 : x < 18446744073709551616) : IntKind.u64.wrap x = x := by rw [IntKind.wrap_u64]; omega

/-- The bytes of a number, the highest first. -/
def dg : Nat → Int → List Int
  | 0, _ => []
  | n + 1, v => (v / 256 ^ n % 256) :: dg n v

theorem dg_len : ∀ (n : Nat) (v : Int), (dg n v).length = n
  | 0, _ => rfl
  | n + 1, v => by simp [dg, dg_len n v]

theorem set_rep (j : Nat) (x : Int) (l : List Int) : (List.replicate (j + 1) 0 ++ l).set j x = List.replicate j 0 ++ x :: l := by
  induction j with
  | zero => rfl
  | succ j ih =>
    rw [List.replicate_succ, List.cons_append, List.set_cons_succ, ih, List.replicate_succ, List.cons_append]

theorem pow_pos256 (n : Nat) : (0 : Int) < 256 ^ n := Int.pow_pos (by decide)

theorem shr8 (v : Int) (i : Nat) (hi : i ≤ 8) : shr .u64 v (8 * (i : Int)) = v / 256 ^ i := by
  unfold shr
  have e : min (8 * (i : Int)).toNat IntKind.u64.bits = 8 * i := by
    have : IntKind.u64.bits = 64 := rfl
    rw [this]; omega
  rw [e, Int.pow_mul]
  rfl

theorem tdiv256 {v : Int} (h : 0 ≤ v) : Int.tdiv v 256 = v / 256 := Int.tdiv_eq_ediv_of_nonneg h
theorem tmod256 {v : Int} (h : 0 ≤ v) : Int.tmod v 256 = v % 256 := Int.tmod_eq_emod_of_nonneg h

theorem div_step (v : Int) (j : Nat) : v / 256 ^ j / 256 = v / 256 ^ (j + 1) := by
  rw [Int.pow_succ, Int.ediv_ediv_of_nonneg (Int.le_of_lt (pow_pos256 j))]

theorem div_lt64 {v : Int} (h0 : 0 ≤ v) (h : v < 18446744073709551616) (j : Nat) : 0 ≤ v / 256 ^ j ∧ v / 256 ^ j < 18446744073709551616 := by
  refine ⟨Int.ediv_nonneg h0 (Int.le_of_lt (pow_pos256 j)), Int.lt_of_le_of_lt (Int.ediv_le_self _ h0) h⟩

/-- The number of the first bytes of a text. -/
def tv (s : ByteArray) : Nat → Int
  | 0 => 0
  | n + 1 => tv s n * 256 + bt s n

theorem tv_range (s : ByteArray) : ∀ n, 0 ≤ tv s n ∧ tv s n < 256 ^ n
  | 0 => by simp [tv]
  | n + 1 => by
    obtain ⟨h0, h1⟩ := tv_range s n
    obtain ⟨b0, b1⟩ := bt_range s n
    simp only [tv]
    rw [Int.pow_succ]
    omega

theorem pow_le8 {n : Nat} (h : n ≤ 8) : (256 : Int) ^ n ≤ 18446744073709551616 := by
  have : n = 0 ∨ n = 1 ∨ n = 2 ∨ n = 3 ∨ n = 4 ∨ n = 5 ∨ n = 6 ∨ n = 7 ∨ n = 8 := by omega
  rcases this with rfl | rfl | rfl | rfl | rfl | rfl | rfl | rfl | rfl <;> decide

theorem pow_le7 {n : Nat} (h : n ≤ 7) : (256 : Int) ^ n ≤ 72057594037927936 := by
  have : n = 0 ∨ n = 1 ∨ n = 2 ∨ n = 3 ∨ n = 4 ∨ n = 5 ∨ n = 6 ∨ n = 7 := by omega
  rcases this with rfl | rfl | rfl | rfl | rfl | rfl | rfl | rfl <;> decide

theorem or_byte {x b : Int} (h0 : 0 ≤ x) (h1 : x < 72057594037927936) (b0 : 0 ≤ b) (b1 : b ≤ 255) :
    Go.bits .or .u64 (IntKind.u64.wrap (x * 256)) (IntKind.u64.wrap b) = x * 256 + b := by
  rw [u64w (by omega) (by omega), u64w b0 (by omega), u64_or _ _ (by omega) (by omega) b0 (by omega), nat_join 8 _ _ (by omega) (by omega)]
  omega

theorem add_byte {x b : Int} (h0 : 0 ≤ x) (h1 : x < 72057594037927936) (b0 : 0 ≤ b) (b1 : b ≤ 255) :
    IntKind.u64.wrap (IntKind.u64.wrap (x * 256) + IntKind.u64.wrap b) = x * 256 + b := by
  rw [u64w (x := x * 256) (by omega) (by omega), u64w b0 (by omega), u64w (by omega) (by omega)]

/-! ### Texts -/
theorem ext_list {a b : ByteArray} (h : a.data.toList = b.data.toList) : a = b := by
  cases a; cases b; congr; exact Array.ext' h

theorem bt_eq (s : ByteArray) (i : Nat) : bt s (i : Int) = ((s.data.toList.getD i 0).toNat : Int) := by
  unfold bt
  by_cases h : i < s.size
  · rw [dif_pos (by simpa using h)]
    have : i < s.data.toList.length := by simpa using h
    simp [List.getD, List.getElem?_eq_getElem this]
    rfl
  · rw [dif_neg (by simpa using h)]
    have : s.data.toList.length ≤ i := by simpa using h
    simp [List.getD, List.getElem?_eq_none this]

theorem data_append (a b : ByteArray) : (a ++ b).data.toList = a.data.toList ++ b.data.toList := by simp [ByteArray.data_append]
theorem data_extract (a : ByteArray) (i j : Nat) : (a.extract i j).data.toList = (a.data.toList.drop i).take (j - i) := by
  simp [ByteArray.data_extract, Array.toList_extract, List.extract_eq_take_drop]

theorem extract_tail (a b : ByteArray) (n : Nat) (h : a.size = n) : (a ++ b).extract n (a ++ b).size = b := by
  apply ext_list
  have hl : a.data.toList.length = n := by simpa using h
  rw [data_extract, data_append, List.drop_append_of_le_length (by omega), List.drop_of_length_le (by omega), List.nil_append, List.take_of_length_le]
  simp [ByteArray.size_append]; omega

theorem extract_head (a b : ByteArray) (n : Nat) (h : a.size = n) : (a ++ b).extract 0 n = a := by
  apply ext_list
  have hl : a.data.toList.length = n := by simpa using h
  rw [data_extract, data_append, List.drop_zero, Nat.sub_zero, List.take_append_of_le_length (by omega), List.take_of_length_le (by omega)]

/-- A number's bytes, as a text. -/
def num (n : Nat) (v : Int) : ByteArray := strOfNums (dg n v)
theorem num_size (n : Nat) (v : Int) : (num n v).size = n := by unfold num; rw [strOfNums_size, dg_len]

/-- The value of a list of digits behind another number. -/
def val (a : Int) : List Int → Int
  | [] => a
  | x :: l => val (a * 256 + x) l

theorem val_dg : ∀ (n : Nat) (a v : Int), val a (dg n v) = a * 256 ^ n + v % 256 ^ n
  | 0, a, v => by simp [val, dg, Int.emod_one]
  | n + 1, a, v => by
    simp only [val, dg]
    rw [val_dg n]
    have h1 : v % 256 ^ (n + 1) = v / 256 ^ n % 256 * 256 ^ n + v % 256 ^ n := by
      rw [Int.pow_succ]
      have e := Int.emod_def v (256 ^ n * 256)
      have e2 := Int.emod_def v (256 ^ n)
      have e3 := Int.emod_def (v / 256 ^ n) 256
      rw [e, e2, e3, Int.ediv_ediv_of_nonneg (Int.le_of_lt (pow_pos256 n))]
      rw [Int.sub_mul]
      have : 256 * (v / (256 ^ n * 256)) * 256 ^ n = 256 ^ n * 256 * (v / (256 ^ n * 256)) := by
        rw [Int.mul_comm (256 ^ n) 256, Int.mul_assoc, Int.mul_assoc, Int.mul_comm (256 ^ n)]
      rw [this, Int.mul_comm (v / 256 ^ n) (256 ^ n)]
      omega
    rw [h1, Int.pow_succ, Int.add_mul, Int.mul_assoc, Int.mul_comm 256 (256 ^ n), Int.add_assoc]

theorem dg_range : ∀ (n : Nat) (v x : Int), x ∈ dg n v → 0 ≤ x ∧ x < 256
  | 0, _, x, h => by simp [dg] at h
  | n + 1, v, x, h => by
    simp only [dg, List.mem_cons] at h
    rcases h with rfl | h
    · omega
    · exact dg_range n v x h

theorem tv_succ_front (s : ByteArray) : ∀ (l : List Int) (i : Nat), (∀ j, j < l.length → bt s ((i + j : Nat) : Int) = l.getD j 0) → val (tv s i) l = tv s (i + l.length)
  | [], i, _ => rfl
  | x :: l, i, h => by
    have h0 := h 0 (by simp)
    simp only [Nat.add_zero, List.getD_cons_zero] at h0
    simp only [val, List.length_cons]
    rw [← h0]
    have := tv_succ_front s l (i + 1) (fun j hj => by
      have := h (j + 1) (by simp; omega)
      rw [List.getD_cons_succ] at this
      rw [← this]; congr 2; omega)
    simp only [tv] at this
    rw [this]; congr 1; omega

theorem bt_num (n : Nat) (v : Int) (t : ByteArray) (j : Nat) (hj : j < n) : bt (num n v ++ t) (j : Int) = (dg n v).getD j 0 := by
  have hl : j < (dg n v).length := by rw [dg_len]; exact hj
  have hr := dg_range n v (dg n v)[j] (List.getElem_mem hl)
  rw [bt_eq, data_append]
  unfold num
  rw [strOfNums_data]
  simp only [List.getD]
  rw [List.getElem?_append_left (by simpa using hl), List.getElem?_map, List.getElem?_eq_getElem hl]
  simp only [Option.map_some, Option.getD_some]
  rw [UInt8.toNat_ofNat_of_lt' (by simp [UInt8.size]; omega)]
  omega

theorem tv_num (n : Nat) (v : Int) (t : ByteArray) (h0 : 0 ≤ v) (h : v < 256 ^ n) : tv (num n v ++ t) n = v := by
  have := tv_succ_front (num n v ++ t) (dg n v) 0 (fun j hj => by
    rw [dg_len] at hj
    rw [Nat.zero_add]; exact bt_num n v t j hj)
  rw [dg_len, Nat.zero_add, val_dg] at this
  rw [← this]; simp only [tv]
  rw [Int.zero_mul, Int.zero_add, Int.emod_eq_of_lt h0 h]

/-! ### What the calls answer -/
def putS (v n : Int) : ByteArray × Int := if 1 ≤ n ∧ n ≤ 8 ∧ v < 256 ^ n.toNat then (num n.toNat v, 0) else (⟨#[]⟩, 5)
def takeS (s : ByteArray) (n : Int) : Int × ByteArray × Int := if n < 1 ∨ 8 < n then (0, ⟨#[]⟩, 5) else if (s.size : Int) < n then (0, ⟨#[]⟩, 10) else (tv s n.toNat, s.extract n.toNat s.size, 0)
def putTextS (t : ByteArray) (m : Int) : ByteArray × Int := if m < 0 ∨ 65535 < m then (⟨#[]⟩, 5) else if m < (t.size : Int) then (⟨#[]⟩, 11) else (num 2 t.size ++ t, 0)
def takeTextS (s : ByteArray) (m : Int) : ByteArray × ByteArray × Int :=
  if m < 0 ∨ 65535 < m then (⟨#[]⟩, ⟨#[]⟩, 5) else if (s.size : Int) < 2 then (⟨#[]⟩, ⟨#[]⟩, 10) else if m < tv s 2 then (⟨#[]⟩, ⟨#[]⟩, 11)
  else if (s.size : Int) - 2 < tv s 2 then (⟨#[]⟩, ⟨#[]⟩, 10) else ((s.extract 2 s.size).extract 0 (tv s 2).toNat, (s.extract 2 s.size).extract (tv s 2).toNat (s.extract 2 s.size).size, 0)

theorem div_pos_iff (v : Int) (n : Nat) (h0 : 0 ≤ v) : v / 256 ^ n > 0 ↔ ¬ v < 256 ^ n := by
  have hp := pow_pos256 n
  constructor
  · intro h h2
    rw [Int.ediv_eq_zero_of_lt h0 h2] at h
    omega
  · intro h
    exact Int.lt_of_lt_of_le (by decide : (0 : Int) < 1) ((Int.le_ediv_iff_mul_le hp).2 (by omega))

end Go.Proofs.Ytdmmklfphkgmlaa.Om
