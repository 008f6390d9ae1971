/- The plain law of the sum of bytes: by the program's steps, and by the document's. -/
import Derived.Test.YtombochecgjmjaaDoorRep
import Derived.Deep.Light
import Derived.Laws.BitsLemmas
import Derived.Laws.BitsAllLaws
namespace Go.Proofs.YtombochecgjmjaaDoor.Sl
open Go.RowKit

/-- A fact that the walk doesn't see. -/
structure Aside0 (p : Prop) : Prop where mk :: (out : p)

/-- One bit of the sum. -/
def st (x : Nat) : Nat := if x % 2 = 1 then x / 2 ^^^ 3988292384 else x / 2
def sts : Nat → Nat → Nat
  | 0, x => x
  | k + 1, x => st (sts k x)
def crc : List UInt8 → Nat → Nat
  | [], x => x
  | b :: l, x => crc l (sts 8 (x ^^^ b.toNat))
def sumN (l : List UInt8) : Nat := 4294967295 - crc l 4294967295
/-- .. and by the document's steps: the sum and the byte side by side. -/
def rst (x b : Nat) : Nat := if x % 2 = b % 2 then x / 2 else x / 2 ^^^ 3988292384
def rsts : Nat → Nat → Nat → Nat
  | 0, x, _ => x
  | k + 1, x, b => rst (rsts k x b) (b / 2 ^ k)

theorem lt32 {x : Nat} (h : x < 4294967296) : x < 2 ^ 32 := h
theorem st_lt {x : Nat} (h : x < 4294967296) : st x < 4294967296 := by
  unfold st
  split
  · exact Nat.xor_lt_two_pow (n := 32) (by omega) (by omega)
  · omega
theorem sts_lt {x : Nat} (h : x < 4294967296) : ∀ k, sts k x < 4294967296
  | 0 => h
  | k + 1 => st_lt (sts_lt h k)
theorem rst_lt {x b : Nat} (h : x < 4294967296) : rst x b < 4294967296 := by
  unfold rst
  split
  · omega
  · exact Nat.xor_lt_two_pow (n := 32) (by omega) (by omega)
theorem rsts_lt {x b : Nat} (h : x < 4294967296) : ∀ k, rsts k x b < 4294967296
  | 0 => h
  | k + 1 => rst_lt (rsts_lt h k)
theorem xor_byte {x b : Nat} (h : x < 4294967296) (hb : b < 256) : x ^^^ b < 4294967296 := Nat.xor_lt_two_pow (n := 32) h (by omega)

theorem xor_div2 (x y : Nat) : (x ^^^ y) / 2 = x / 2 ^^^ y / 2 := by
  have := Nat.shiftRight_xor_distrib (a := x) (b := y) (i := 1)
  simpa [Nat.shiftRight_eq_div_pow] using this
theorem xor_mod2 (x y : Nat) : (x ^^^ y) % 2 = (x + y) % 2 := by
  have h := Nat.testBit_xor x y 0
  simp only [Nat.testBit_zero] at h
  have hx := Nat.mod_two_eq_zero_or_one x
  have hy := Nat.mod_two_eq_zero_or_one y
  have hz := Nat.mod_two_eq_zero_or_one (x ^^^ y)
  rcases hx with hx | hx <;> rcases hy with hy | hy <;> rcases hz with hz | hz <;> simp [hx, hy, hz] at h ⊢ <;> omega
/-- Both ways go alongside each other. -/
theorem beside (x b : Nat) : ∀ k, sts k (x ^^^ b) = rsts k x b ^^^ (b / 2 ^ k)
  | 0 => by simp [sts, rsts]
  | k + 1 => by
    rw [sts, beside x b k, rsts]
    generalize rsts k x b = y
    have e : b / 2 ^ (k + 1) = b / 2 ^ k / 2 := by rw [Nat.pow_succ, Nat.div_div_eq_div_mul]
    rw [e]
    generalize b / 2 ^ k = c
    unfold st rst
    rw [xor_div2, xor_mod2]
    by_cases h : y % 2 = c % 2
    · rw [if_neg (by omega), if_pos h]
    · rw [if_pos (by omega), if_neg h, Nat.xor_assoc, Nat.xor_assoc, Nat.xor_comm (c / 2)]
theorem beside8 (x b : Nat) (hb : b < 256) : sts 8 (x ^^^ b) = rsts 8 x b := by
  have h := beside x b 8
  rw [Nat.div_eq_of_lt (by omega : b < 2 ^ 8), Nat.xor_zero] at h
  exact h

theorem crc_append (a b : List UInt8) : ∀ x, crc (a ++ b) x = crc b (crc a x) := by
  induction a with
  | nil => intro x; rfl
  | cons c a ih => intro x; simp only [List.cons_append, crc]; exact ih _
theorem crc_lt (l : List UInt8) : ∀ x, x < 4294967296 → crc l x < 4294967296 := by
  induction l with
  | nil => intro x h; exact h
  | cons b l ih => intro x h; exact ih _ (sts_lt (xor_byte h b.toNat_lt) 8)
theorem crc_snoc (s : ByteArray) (j : Nat) (h : j < s.size) (x : Nat) : crc (s.data.toList.take (j + 1)) x = sts 8 (crc (s.data.toList.take j) x ^^^ (s[j]'h).toNat) := by
  rw [List.take_succ_eq_append_getElem (by simpa using h), crc_append]; rfl
theorem not32 {x : Nat} (h : x < 4294967296) : 4294967295 ^^^ x = 4294967295 - x := by
  apply Nat.eq_of_testBit_eq
  intro i
  rw [Nat.testBit_xor, show 4294967295 - x = 2 ^ 32 - (x + 1) by omega, Nat.testBit_two_pow_sub_succ (by omega), show 4294967295 = 2 ^ 32 - 1 by rfl, Nat.testBit_two_pow_sub_one]
  by_cases hi : i < 32
  · simp [hi]
  · have : x.testBit i = false := Nat.testBit_lt_two_pow (Nat.lt_of_lt_of_le (show x < 2 ^ 32 by omega) (Nat.pow_le_pow_right (by omega) (by omega)))
    simp [hi, this]
theorem not_u32 {x : Nat} (h : x < 4294967296) : bits .xor .u32 IntKind.u32.max (x : Int) = ((4294967295 - x : Nat) : Int) := by
  have := u32_xor_nat 4294967295 x (by omega) h
  rw [not32 h] at this
  exact this
theorem sub64 {x : Nat} (h : x < 4294967296) : ((4294967295 : Int) - (x : Int)) % 18446744073709551616 = ((4294967295 - x : Nat) : Int) := by omega
theorem sub64' {x : Nat} (h : x < 4294967296) : ((4294967295 : Int) - (x : Int)) = ((4294967295 - x : Nat) : Int) := by omega
theorem sumN_lt (l : List UInt8) : sumN l < 4294967296 := by unfold sumN; omega
theorem crc_all (s : ByteArray) (x : Nat) : crc (s.data.toList.take s.size) x = crc s.data.toList x := by
  rw [List.take_of_length_le (by simp)]
end Go.Proofs.YtombochecgjmjaaDoor.Sl
