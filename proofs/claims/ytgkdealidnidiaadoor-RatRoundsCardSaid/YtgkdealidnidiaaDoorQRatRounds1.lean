/- Texts of the seat, as far as the row needs them. -/
import Derived.Laws.AppendOwn
import Derived.Laws.Externs
import Derived.Laws.StructEq
import Derived.Lib.LazyBuf
import Derived.Lib.SliceRun
import Derived.Lib.Walk
import Derived.Test.YtgkdealidnidiaaDoorProg
import Derived.Test.YtgkdealidnidiaaDoorQRatRounds0
set_option linter.unusedVariables false
set_option linter.unusedSimpArgs false
set_option maxHeartbeats 8000000
set_option maxRecDepth 100000
namespace Go.Proofs.YtgkdealidnidiaaDoor.Dg
def V (b : Int) : List Int → Int
 | [] => 0
 | x :: l => x + b * V b l
def R (b : Int) (l : List Int) : Prop := ∀ x ∈ l, 0 ≤ x ∧ x < b
def NZ (l : List Int) : Prop := l = [] ∨ ∃ m x, l = m ++ [x] ∧ x ≠ 0
theorem zg3 (b : Int) : V b [] = 0 := rfl
theorem V_cons (b x : Int) (l : List Int) : V b (x :: l) = x + b * V b l := rfl
theorem zl2 (b : Int) (m : List Int) : ∀ l, V b (l ++ m) = V b l + b ^ l.length * V b m
 | [] => by simp [V]
 | x :: l => by
  simp only [List.cons_append, V, zl2 b m l, List.length_cons, Int.pow_succ]
  grind
theorem zh2 (b : Int) (l : List Int) (x : Int) : V b (l ++ [x]) = V b l + b ^ l.length * x := by
 rw [zl2]; simp [V]
theorem V_zeros (b : Int) : ∀ n, V b (List.replicate n 0) = 0
 | 0 => rfl
 | n + 1 => by rw [List.replicate_succ, V, V_zeros b n]; simp
theorem zj1 (b : Int) : R b [] := fun _ h => by cases h
theorem zp1 {b x : Int} {l : List Int} : R b (x :: l) ↔ (0 ≤ x ∧ x < b) ∧ R b l := by
 constructor
 ·intro h; exact ⟨h x List.mem_cons_self, fun y hy => h y (List.mem_cons_of_mem _ hy)⟩
 ·rintro ⟨h1, h2⟩ y hy
  rcases List.mem_cons.1 hy with rfl | hy
  ·exact h1
  ·exact h2 y hy
theorem zz {b : Int} {l m : List Int} : R b (l ++ m) ↔ R b l ∧ R b m := by
 constructor
 ·intro h; exact ⟨fun x hx => h x (List.mem_append.2 (.inl hx)), fun x hx => h x (List.mem_append.2 (.inr hx))⟩
 ·rintro ⟨h1, h2⟩ x hx
  rcases List.mem_append.1 hx with hx | hx
  ·exact h1 x hx
  ·exact h2 x hx
theorem zy2 {b x : Int} (h0 : 0 ≤ x) (h1 : x < b) : R b [x] := zp1.2 ⟨⟨h0, h1⟩, zj1 b⟩
theorem zd4 {b : Int} (hb : 0 < b) (n : Nat) : R b (List.replicate n 0) := fun x hx => by
 obtain ⟨_, rfl⟩ := List.mem_replicate.1 hx; omega
theorem zm2 {b : Int} {l : List Int} (h : R b l) (n : Nat) : R b (l.take n) := fun x hx => h x (List.mem_of_mem_take hx)
theorem R_drop {b : Int} {l : List Int} (h : R b l) (n : Nat) : R b (l.drop n) := fun x hx => h x (List.mem_of_mem_drop hx)
theorem R_set {b : Int} {l : List Int} (h : R b l) (n : Nat) {y : Int} (h0 : 0 ≤ y) (h1 : y < b) : R b (l.set n y) := fun x hx => by
 rcases List.mem_or_eq_of_mem_set hx with hx | rfl
 ·exact h x hx
 ·exact ⟨h0, h1⟩
theorem zu0 {b : Int} {l : List Int} (h : R b l) (hb : 0 < b) (i : Nat) : 0 ≤ l.getD i 0 ∧ l.getD i 0 < b := by
 rw [List.getD_eq_getElem?_getD]
 by_cases hi : i < l.length
 ·rw [List.getElem?_eq_getElem hi]; exact h _ (List.getElem_mem hi)
 ·rw [List.getElem?_eq_none (by omega)]; exact ⟨Int.le_refl 0, hb⟩
theorem zo3 {b : Int} (hb : 0 < b) (n : Nat) : 0 < b ^ n := Int.pow_pos hb
theorem zn0 {b : Int} (hb : 0 < b) : ∀ {l}, R b l → 0 ≤ V b l
 | [], _ => Int.le_refl 0
 | x :: l, h => by
  have := zn0 hb (zp1.1 h).2
  have h2 := Int.mul_nonneg (Int.le_of_lt hb) this
  have h3 := (zp1.1 h).1.1
  rw [V]; omega
theorem V_lt {b : Int} (hb : 0 < b) : ∀ {l}, R b l → V b l < b ^ l.length
 | [], _ => by simp [V]
 | x :: l, h => by
  have h1 := V_lt hb (zp1.1 h).2
  have h2 : b * (V b l + 1) ≤ b * b ^ l.length := Int.mul_le_mul_of_nonneg_left (by omega) (Int.le_of_lt hb)
  have h3 := (zp1.1 h).1.2
  rw [V, List.length_cons, Int.pow_succ]
  rw [Int.mul_add] at h2
  rw [Int.mul_comm b (b ^ l.length)] at h2
  omega
theorem zl3 (b : Int) (l : List Int) (n : Nat) : V b l = V b (l.take n) + b ^ (l.take n).length * V b (l.drop n) := by
 rw [← zl2, List.take_append_drop]
theorem zd0 (b : Int) (l : List Int) (i : Nat) (h : i < l.length) : V b (l.take (i + 1)) = V b (l.take i) + b ^ i * l.getD i 0 := by
 rw [List.take_succ_eq_append_getElem h, zh2, List.length_take, Nat.min_eq_left (Nat.le_of_lt h), List.getD_eq_getElem?_getD, List.getElem?_eq_getElem h]; rfl
theorem zb0 (b : Int) (l : List Int) {n : Nat} (h : l.length ≤ n) : V b (l.take n) = V b l := by rw [List.take_of_length_le h]
theorem zm1 (b : Int) (l : List Int) (i : Nat) : V b (l.take (i + 1)) = V b (l.take i) + b ^ i * l.getD i 0 := by
 by_cases h : i < l.length
 ·exact zd0 b l i h
 ·rw [List.take_of_length_le (by omega), List.take_of_length_le (by omega), List.getD_eq_getElem?_getD, List.getElem?_eq_none (by omega)]; simp
theorem zh3 (b : Int) (l : List Int) (i : Nat) (h : i < l.length) : V b (l.drop i) = l.getD i 0 + b * V b (l.drop (i + 1)) := by
 rw [List.drop_eq_getElem_cons h, V, List.getD_eq_getElem?_getD, List.getElem?_eq_getElem h]; rfl
theorem V_set (b : Int) (y : Int) : ∀ (l : List Int) (i : Nat), i < l.length → V b (l.set i y) = V b l + b ^ i * (y - l.getD i 0)
 | x :: l, 0, _ => by simp [V]; omega
 | x :: l, i + 1, h => by
  rw [List.set_cons_succ, V, V, V_set b y l i (by simpa using h), List.getD_cons_succ, Int.pow_succ]
  grind
theorem zeros_of {b : Int} (hb : 0 < b) : ∀ {l}, R b l → V b l = 0 → ∀ x ∈ l, x = 0
 | [], _, _, x, hx => by cases hx
 | y :: l, h, hV, x, hx => by
  have h1 := zn0 hb (zp1.1 h).2
  have h2 := Int.mul_nonneg (Int.le_of_lt hb) h1
  have h3 := (zp1.1 h).1.1
  rw [V] at hV
  have e : b * V b l = 0 := by omega
  have e2 : V b l = 0 := by
   rcases Int.mul_eq_zero.1 e with e | e
   ·omega
   ·exact e
  rcases List.mem_cons.1 hx with rfl | hx
  ·omega
  ·exact zeros_of hb (zp1.1 h).2 e2 x hx
theorem NZ_cons {x : Int} {l : List Int} (h : NZ (x :: l)) : (l = [] ∧ x ≠ 0) ∨ (l ≠ [] ∧ NZ l) := by
 rcases h with h | ⟨m, y, h, hy⟩
 ·cases h
 ·cases m with
  | nil => simp at h; left; exact ⟨h.2, h.1 ▸ hy⟩
  | cons z m =>
   simp at h; right
   refine ⟨by rw [h.2]; simp, .inr ⟨m, y, h.2, hy⟩⟩
theorem NZ_tail {x : Int} {l : List Int} (h : NZ (x :: l)) : NZ l := by
 rcases NZ_cons h with ⟨h, _⟩ | ⟨_, h⟩
 ·exact .inl h
 ·exact h
theorem V_pos {b : Int} (hb : 0 < b) {l : List Int} (h : R b l) (hn : NZ l) (hl : l ≠ []) : 0 < V b l := by
 have h0 := zn0 hb h
 rcases Int.lt_or_eq_of_le h0 with h1 | h1
 ·exact h1
 ·exfalso
  rcases hn with hn | ⟨m, x, rfl, hx⟩
  ·exact hl hn
  ·exact hx (zeros_of hb h h1.symm x (by simp))
theorem inj {b : Int} (hb : 0 < b) : ∀ {l m}, R b l → R b m → NZ l → NZ m → V b l = V b m → l = m
 | [], [], _, _, _, _, _ => rfl
 | [], y :: m, _, h2, _, n2, e => by
  have := V_pos hb h2 n2 (by simp)
  rw [zg3] at e; omega
 | x :: l, [], h1, _, n1, _, e => by
  have := V_pos hb h1 n1 (by simp)
  rw [zg3] at e; omega
 | x :: l, y :: m, h1, h2, n1, n2, e => by
  rw [V, V] at e
  have a1 := (zp1.1 h1).1
  have a2 := (zp1.1 h2).1
  have e1 : x = y := by
   have := congrArg (· % b) e
   simp only [Int.add_mul_emod_self_left] at this
   rwa [Int.emod_eq_of_lt a1.1 a1.2, Int.emod_eq_of_lt a2.1 a2.2] at this
  subst e1
  have e2 : b * V b l = b * V b m := by omega
  rw [inj hb (zp1.1 h1).2 (zp1.1 h2).2 (NZ_tail n1) (NZ_tail n2) (Int.eq_of_mul_eq_mul_left (by omega) e2)]
def wd (b : Nat) (n : Nat) : List Int := if h : n = 0 ∨ b < 2 then [] else ((n % b : Nat) : Int) :: wd b (n / b)
termination_by n
decreasing_by exact Nat.div_lt_self (by omega) (by omega)
theorem zo0 (b : Nat) : wd b 0 = [] := by rw [wd]; simp
theorem wd_pos {b n : Nat} (hb : 2 ≤ b) (h : 0 < n) : wd b n = ((n % b : Nat) : Int) :: wd b (n / b) := by
 rw [wd, dif_neg (by omega)]
theorem wd_small {b n : Nat} (hb : 2 ≤ b) (h : 0 < n) (h2 : n < b) : wd b n = [(n : Int)] := by
 rw [wd_pos hb h, Nat.mod_eq_of_lt h2, Nat.div_eq_of_lt h2, zo0]
theorem zd2 {b : Nat} (hb : 2 ≤ b) : ∀ n, R b (wd b n) := by
 intro n
 induction n using Nat.strongRecOn with
 | _ n ih =>
  by_cases h : n = 0
  ·subst h; rw [zo0]; exact zj1 _
  ·rw [wd_pos hb (by omega)]
   have := Nat.mod_lt n (show 0 < b by omega)
   exact zp1.2 ⟨⟨by omega, by omega⟩, ih _ (Nat.div_lt_self (by omega) (by omega))⟩
theorem zn2 {b : Nat} (hb : 2 ≤ b) : ∀ n : Nat, V b (wd b n) = n := by
 intro n
 induction n using Nat.strongRecOn with
 | _ n ih =>
  by_cases h : n = 0
  ·subst h; rw [zo0]; rfl
  ·rw [wd_pos hb (by omega), V, ih _ (Nat.div_lt_self (by omega) (by omega))]
   have := Nat.mod_add_div n b
   rw [← Int.natCast_mul, ← Int.natCast_add, this]
theorem wd_ne {b n : Nat} (hb : 2 ≤ b) (h : 0 < n) : wd b n ≠ [] := by rw [wd_pos hb h]; simp
theorem wd_NZ {b : Nat} (hb : 2 ≤ b) : ∀ n, NZ (wd b n) := by
 intro n
 induction n using Nat.strongRecOn with
 | _ n ih =>
  by_cases h : n = 0
  ·subst h; rw [zo0]; exact .inl rfl
  ·rw [wd_pos hb (by omega)]
   by_cases h2 : n / b = 0
   ·have : n < b := by
     rcases Nat.div_eq_zero_iff.1 h2 with h3 | h3 <;> omega
    rw [h2, zo0, Nat.mod_eq_of_lt this]
    exact .inr ⟨[], n, rfl, by omega⟩
   ·rcases ih (n / b) (Nat.div_lt_self (by omega) (by omega)) with h3 | ⟨m, x, h3, hx⟩
    ·exact absurd h3 (wd_ne (n := n / b) hb (Nat.pos_of_ne_zero h2))
    ·exact .inr ⟨((n % b : Nat) : Int) :: m, x, by rw [h3]; rfl, hx⟩
theorem eq_wd {b : Nat} (hb : 2 ≤ b) {l : List Int} (h : R b l) (hn : NZ l) : l = wd b (V b l).toNat := by
 have h0 := zn0 (by omega) h
 refine inj (b := (b : Int)) (by omega) h (zd2 hb _) hn (wd_NZ hb _) ?_
 rw [zn2 hb]; omega
theorem eq_wd' {b n : Nat} (hb : 2 ≤ b) {l : List Int} (h : R b l) (hn : NZ l) (e : V b l = n) : l = wd b n := by
 have := eq_wd hb h hn; rw [e] at this; simpa using this
theorem wd_nil_iff {b n : Nat} (hb : 2 ≤ b) : wd b n = [] ↔ n = 0 := by
 constructor
 ·intro h
  by_cases h0 : n = 0
  ·exact h0
  ·exact absurd h (wd_ne hb (by omega))
 ·rintro rfl; exact zo0 b
theorem zn {b n : Nat} (hb : 2 ≤ b) (k : Nat) : (wd b n).length ≤ k ↔ n < b ^ k := by
 induction k generalizing n with
 | zero =>
  rw [Nat.le_zero, List.length_eq_zero_iff, wd_nil_iff hb, Nat.pow_zero]; omega
 | succ k ih =>
  by_cases h : n = 0
  ·subst h; rw [zo0]; simp; exact Nat.pow_pos (by omega)
  ·rw [wd_pos hb (by omega), List.length_cons, Nat.add_le_add_iff_right, ih, Nat.pow_succ, Nat.div_lt_iff_lt_mul (by omega)]
def strip : List Int → List Int
 | [] => []
 | x :: l => match strip l with
  | [] => if x = 0 then [] else [x]
  | y :: m => x :: y :: m
theorem strip_NZ : ∀ l, NZ (strip l)
 | [] => .inl rfl
 | x :: l => by
  rw [strip]
  split
  ·split
   ·exact .inl rfl
   ·rename_i h; exact .inr ⟨[], x, rfl, h⟩
  ·rename_i y m h
   rcases strip_NZ l with h2 | ⟨k, z, h2, hz⟩
   ·rw [h2] at h; cases h
   ·rw [h] at h2
    exact .inr ⟨x :: k, z, by rw [h2]; rfl, hz⟩
theorem strip_V (b : Int) : ∀ l, V b (strip l) = V b l
 | [] => rfl
 | x :: l => by
  have ih := strip_V b l
  rw [strip]
  split
  ·rename_i h; rw [h] at ih; rw [V_cons, ← ih]
   split
   ·rename_i h0; subst h0; simp [V]
   ·simp [V]
  ·rename_i y m h; rw [← h, V, V, ih]
theorem strip_snoc (l : List Int) (x : Int) : strip (l ++ [x]) = if x = 0 then strip l else l ++ [x] := by
 induction l with
 | nil => rw [List.nil_append, strip]; simp [strip]
 | cons y l ih =>
  rw [List.cons_append, strip, ih]
  by_cases h : x = 0
  ·rw [if_pos h, if_pos h]; simp only [strip]
  ·rw [if_neg h, if_neg h]
   cases l <;> simp
theorem z04 : ∀ l, ∃ k, strip l = l.take k ∧ k ≤ l.length
 | [] => ⟨0, rfl, Nat.le_refl _⟩
 | x :: l => by
  obtain ⟨k, hk, hkl⟩ := z04 l
  rw [strip]
  split
  ·split
   ·exact ⟨0, rfl, by omega⟩
   ·exact ⟨1, by simp, by simp⟩
  ·rename_i y m h; exact ⟨k + 1, by rw [← h, hk, List.take_succ_cons], by simp; omega⟩
theorem strip_R {b : Int} {l : List Int} (h : R b l) : R b (strip l) := by
 obtain ⟨k, hk, _⟩ := z04 l
 rw [hk]; exact zm2 h k
theorem strip_wd {b : Nat} (hb : 2 ≤ b) {l : List Int} (h : R b l) : strip l = wd b (V b l).toNat := by
 have := eq_wd hb (strip_R h) (strip_NZ l)
 rwa [strip_V] at this
theorem zf1 {b n : Nat} (hb : 2 ≤ b) {l : List Int} (h : R b l) (e : V b l = n) : strip l = wd b n := by
 have := strip_wd hb h; rw [e] at this; simpa using this
theorem guess_hi {B P U V u2 u1 u0 v1 v0 U' V' d : Int} (hP : 0 < P) (hB : 0 < B) (hU : U = ((u2 * B + u1) * B + u0) * P + U') (hV : V = (v1 * B + v0) * P + V') (hU' : U' < P) (hV' : 0 ≤ V') (hv0 : 0 ≤ v0) (hv1 : 0 < v1)
  (hu0 : u0 < B) (hd0 : 0 ≤ d) (hd : d * V ≤ U) : d ≤ (u2 * B + u1) / v1 := by
 rw [Int.le_ediv_iff_mul_le hv1]
 -- d * v1 * B * P ≤ d * V ≤ U < (u2 B + u1 + 1) B P
 have h1 : d * V = d * v1 * (B * P) + d * (v0 * P + V') := by rw [hV]; grind
 have h2 : 0 ≤ d * (v0 * P + V') := Int.mul_nonneg hd0 (Int.add_nonneg (Int.mul_nonneg hv0 (Int.le_of_lt hP)) hV')
 have h3 : (u0 + 1) * P ≤ B * P := Int.mul_le_mul_of_nonneg_right (by omega) (Int.le_of_lt hP)
 have h4 : U < (u2 * B + u1 + 1) * (B * P) := by
  have e : (u2 * B + u1 + 1) * (B * P) = ((u2 * B + u1) * B + u0) * P + (B * P - u0 * P) := by grind
  have e2 : (u0 + 1) * P = u0 * P + P := by grind
  rw [e, hU]; omega
 have h5 : d * v1 * (B * P) < (u2 * B + u1 + 1) * (B * P) := by omega
 have h6 := Int.lt_of_mul_lt_mul_right h5 (Int.le_of_lt (Int.mul_pos hB hP))
 omega
theorem guess_lo {B P U V u2 u1 u0 v1 v0 U' V' d q r : Int} (hP : 0 < P) (hU : U = ((u2 * B + u1) * B + u0) * P + U') (hV : V = (v1 * B + v0) * P + V') (hU' : U' < P) (hV' : 0 ≤ V') (hq : 0 ≤ q)
  (hr : q * v1 + r = u2 * B + u1) (hgt : r * B + u0 < q * v0) (hV0 : 0 ≤ V) (hd : d * V ≤ U) (hdq : d ≤ q) : d ≤ q - 1 := by
 have h1 : U < q * V := by
  have e1 : q * V = (q * v1 * B + q * v0) * P + q * V' := by rw [hV]; grind
  have h2 : 0 ≤ q * V' := Int.mul_nonneg hq hV'
  have e2 : q * v1 * B = (u2 * B + u1) * B - r * B := by rw [show q * v1 = (u2 * B + u1) - r by omega]; grind
  have h3 : ((u2 * B + u1) * B + u0 + 1) * P ≤ (q * v1 * B + q * v0) * P := Int.mul_le_mul_of_nonneg_right (by omega) (Int.le_of_lt hP)
  have e3 : ((u2 * B + u1) * B + u0 + 1) * P = ((u2 * B + u1) * B + u0) * P + P := by grind
  omega
 rcases Int.lt_or_eq_of_le hdq with h | h
 ·omega
 ·subst h; omega
theorem digit_of {U V q : Int} (hV : 0 < V) (h0 : 0 ≤ U - q * V) (h1 : U - q * V < V) : q = U / V ∧ U - q * V = U % V := by
 have e1 := Int.emod_add_mul_ediv U V
 have e2 := Int.emod_nonneg U (show V ≠ 0 by omega)
 have e3 := Int.emod_lt_of_pos U hV
 have e : q = U / V := by
  rcases Int.lt_trichotomy q (U / V) with h | h | h
  ·have : V * (q + 1) ≤ V * (U / V) := Int.mul_le_mul_of_nonneg_left (by omega) (by omega)
   have e4 : V * (q + 1) = q * V + V := by grind
   omega
  ·exact h
  ·have : V * (U / V + 1) ≤ V * q := Int.mul_le_mul_of_nonneg_left (by omega) (by omega)
   have e4 : V * (U / V + 1) = V * (U / V) + V := by grind
   have e5 : V * q = q * V := Int.mul_comm _ _
   omega
 refine ⟨e, ?_⟩
 rw [← e, Int.mul_comm V q] at e1
 omega
end Go.Proofs.YtgkdealidnidiaaDoor.Dg
namespace Go.Proofs.YtgkdealidnidiaaDoor.Na
open Go.RowKit Go.Proofs.YtgkdealidnidiaaDoorW.PrintWords Go.Proofs.YtgkdealidnidiaaDoorW.PrintLast Go.Proofs.YtgkdealidnidiaaDoorW.PrintMore
attribute [local go_sem] zx0 zd1
def errW : Option Int → Value
 | none => .nilIface
 | some c => .iface 0 (.int .i64 c)
theorem eN : errW none = .nilIface := rfl
theorem eS (c : Int) : errW (some c) = .iface 0 (.int .i64 c) := rfl
theorem info3 : (Tryd.prog.info? 3).map (fun i => (i.zero, i.size, i.bytes)) = some (some (.int .i64 0), 1, 8) := by kernel_rfl
theorem zg2 : (Tryd.prog.info? 40).map (fun i => (i.zero, i.size, i.bytes)) = some (some (.int .u64 0), 1, 8) := by kernel_rfl
def rd_L5 (xs : List (List Int)) (i : Int) : (List Int) := xs.getD i.toNat ([] : List Int)
theorem at_L5 {w : World} {A : Option Addr} {n : Nat} {xs : List (List Int)} (h : Kd.C (Kd.slice 3 (Kd.int .i64)) w A n xs) (i : Int) (h0 : 0 ≤ i) (h1 : i < n) : ∃ ad A0 c0, A = some ad ∧ w.cell? (ad.add i.toNat) = some (.slice A0 (rd_L5 xs i).length c0) ∧ (rd_L5 xs i).length ≤ c0 ∧ (Kd.int .i64).C w A0 (rd_L5 xs i).length (rd_L5 xs i) := by
 obtain ⟨ad, c, e, _, hK, hc0⟩ := Kd.C_get h ([] : List Int) i h0 h1
 have hc : ∀ j u, c[j]? = some u → w.cell? (ad.add (i.toNat * 1 + j)) = some u := hc0
 obtain ⟨A0, c0, rfl, l0, g0⟩ := hK
 exact ⟨ad, A0, c0, e, by have hq := hc 0 _ rfl; rwa [Nat.mul_one, Nat.add_zero] at hq, l0, g0⟩
def nat_norm.l0 : Nat → List Int → Option (List Int)
 | 0, _ => none
 | k + 1, x0 => if (x0.length : Int) > 0 then (if 0 ≤ (wrap64 ((x0.length : Int) - 1)) then (if (wrap64 ((x0.length : Int) - 1)) < (x0.length : Int) then (if (rd x0 (wrap64 ((x0.length : Int) - 1))) = 0 then (if (wrap64 ((x0.length : Int) - 1)) ≤ (x0.length : Int) then (nat_norm.l0 k (x0.take ((wrap64 ((x0.length : Int) - 1)) : Int).toNat)) else (none)) else (some x0)) else (none)) else (none)) else (some x0)
def nat_norm.f (k : Nat) (l0 : List Int) : Option (List Int) := nat_norm.l0 k l0
theorem nat_norm.calls (k : Nat) (P0_ : Nat → Prop) (A0 : Option Addr) (c0 : Nat) (l0 : List Int) (r : List Int) (w : World) (hs0 : Kd.V (Kd.int .u64) 40 w w.heap.size (fun k_ => P0_ k_) (.slice A0 l0.length c0) l0) (h : nat_norm.f k l0 = some r) :
  Calls Tryd.prog 68 #[.slice A0 l0.length c0] w fun e w' => ∃ v0_ : Value, e = .returned (.agg #[v0_]) ∧ Kd.V (Kd.int .u64) 40 w' w.heap.size (fun k_ => (P0_ k_ ∨ w.heap.size ≤ k_)) v0_ r ∧ Below w.heap.size w w' := by
 have hu29 := Tryd.underlying29
 have HO0 := Q0.mk (show Kd.V (Kd.int .u64) 40 w w.heap.size (fun k_ => (P0_ k_ ∨ w.heap.size ≤ k_)) (.slice A0 l0.length c0) l0 from Kd.VM_ hs0 (fun k_ hk => .inl hk))
 have HB := Q0.mk (Below.refl w.heap.size w)
 have H : (nat_norm.l0 k l0) = some r := h
 clear h
 have H' := Q0.mk H
 clear H
 go_enter Tryd.func68, Tryd.ntmps68
 go_wp2_with (first | ((with_reducible refine gD (N := 2) rfl ?_); (try (refine zr1 (by rfl) ?_; dsimp only)); refine xE ?hg (N := 2) ?hd (cs := #[.slice none 0 0]) (t := 29) ?hr ?_; (case hd => rfl); (case hg => rfl); (case hr => first | (go_simp; done) | (go_simp; rfl)); intro gb102 hg w2 hbox hb; have q_ := zm (w := w) hb (by repeat (first | (with_reducible first | exact HB.out | apply bA | apply bN | apply b1_) | exact HB.out)); replace HO0 := Q0.mk (Kd.zl (Kd.zz1 (by (with_reducible repeat (first | apply Kd.VA_ | apply Kd.VN_ | apply Kd.VD_)); exact HO0.out) gb102 (Nat.le_of_eq hg.symm)) hb); replace HB := Q0.mk (bP q_ hb); have BK102 := Q0.mk (hbox); have GW102 := Q0.mk ((by rw [hg]; exact (bZ q_) : w.heap.size ≤ gb102)); have GE102 := GW102; clear q_; clear hb hbox hg))
 (try simp only [Act.put, s2_, s0_, s1_])
 go_loopg [0] k (fun kq v0 w' => ∃ (x0_1 : List Int), Q0 (nat_norm.l0 kq x0_1 = some r) ∧ Q0 (kq ≤ k) ∧ Q0 (Kd.V (Kd.int .u64) 40 w' w.heap.size (fun k_ => (P0_ k_ ∨ w.heap.size ≤ k_) ∧ k_ ≠ gb102) v0 x0_1) ∧ Q0 (w'.heap[gb102]? = some (.cells #[(.slice none 0 0)] 29 (0, 0))) ∧ Q0 (Below w.heap.size w w'))
 case atStart => exact ⟨(l0), H', ⟨Nat.le_refl _⟩, ⟨by (with_reducible repeat (first | apply Kd.VA_ | apply Kd.VN_ | apply Kd.VD_)); exact HO0.out⟩, ⟨by (with_reducible repeat (first | refine kN ?_ _ | refine kD ?_ | refine kA ?_ _)); exact BK102.out⟩, ⟨by repeat (first | (with_reducible first | exact HB.out | apply bA | apply bN | apply b1_ | refine bS ?_ GE102.out) | exact HB.out)⟩⟩
 case round =>
  clear H'
  obtain ⟨x0_1, HA, HK1, HO_0, BK102, HB⟩ := hrel
  cases gk with
  | zero => exact absurd HA.out (by simp [nat_norm.l0])
  | succ k1 =>
   have H := HA.out
   clear HA
   simp only [nat_norm.l0] at H
   by_cases c3 : (x0_1.length : Int) > 0
   ·rw [if_pos c3] at H
    have c3b0 : decide (0 < (x0_1.length : Int)) = true := decide_eq_true c3
    have c3b1 : decide (0 < x0_1.length) = true := decide_eq_true (by omega)
    clear c3
    obtain ⟨ji4, hji4⟩ : ∃ j_ : Int, (wrap64 ((x0_1.length : Int) - 1)) = j_ := ⟨_, rfl⟩
    replace H : (if 0 ≤ (ji4) then (if (ji4) < (x0_1.length : Int) then (if (rd x0_1 (ji4)) = 0 then (if (ji4) ≤ (x0_1.length : Int) then (nat_norm.l0 k1 (x0_1.take ((ji4) : Int).toNat)) else (none)) else (some x0_1)) else (none)) else (none)) = some r := by first | (rw [hji4] at H; exact H) | (simp only [hji4] at H ⊢; exact H)
    have hji4w : (IntKind.i64.wrap ((x0_1.length : Int) - 1)) = ji4 := (iw _).trans hji4
    by_cases c5 : 0 ≤ (ji4)
    ·rw [if_pos c5] at H
     have c5b0 : decide (0 ≤ (ji4)) = true := decide_eq_true c5
     clear c5
     by_cases c6 : (ji4) < (x0_1.length : Int)
     ·rw [if_pos c6] at H
      have c6b0 : decide ((ji4) < (x0_1.length : Int)) = true := decide_eq_true c6
      clear c6
      by_cases c7 : (rd x0_1 (ji4)) = 0
      ·rw [if_pos c7] at H
       have c7b0 : ((rd x0_1 (ji4)) == 0) = true := beq_iff_eq.mpr c7
       have c7b1 : ((rd x0_1 (ji4)) != 0) = false := bne_eq_false_iff_eq.mpr c7
       clear c7
       have c8b0 := eq_true (of_decide_eq_true (by first | (with_reducible assumption) | assumption) : 0 ≤ (ji4))
       by_cases c9 : (ji4) ≤ (x0_1.length : Int)
       ·rw [if_pos c9] at H
        have c9b0 := eq_true c9
        have c9b1 : decide ((ji4) ≤ (x0_1.length : Int)) = true := decide_eq_true c9
        clear c9
        obtain ⟨y104, hy104⟩ : ∃ y_ : List Int, y_ = (x0_1.take ((ji4) : Int).toNat) := ⟨_, rfl⟩
        rw [← hy104] at H
        have Ny104 := Q0.mk hy104
        clear hy104
        have H' := Q0.mk H
        clear H
        obtain ⟨Ao10, co10, eo10⟩ := Kd.zo HO_0.out
        subst eo10
        have p103 : 0 ≤ ((ji4) : Int) := of_decide_eq_true (by first | (with_reducible assumption) | assumption)
        have q103 : (ji4) < (x0_1.length : Int) := of_decide_eq_true (by first | (with_reducible assumption) | assumption)
        obtain ⟨ad103, e103, hx103_0⟩ := Kd.zk (Kd.z90 HO_0.out).2.2 (ji4) p103 q103
        cases e103
        replace p103 := eq_true p103
        replace q103 := eq_true q103
        have q11 : ((ji4) : Int) ≤ ((x0_1.length : Int) : Int) := of_decide_eq_true (by first | (with_reducible assumption) | assumption)
        obtain ⟨i011, hi011, _, hsz11, _⟩ := info_parts zg2
        have hroom11 : x0_1.length ≤ co10 := (Kd.z90 HO_0.out).2.1
        have hC11 : Kd.F (Kd.int .u64) _ _ (some ad103) x0_1.length x0_1 := (Kd.V_at (base := w.heap.size) HO_0.out).2.2
        have hcut11 := cut_to (P := Tryd.prog) 22 40 .i64 Tryd.underlying22 hi011 (some ad103) x0_1.length co10 (ji4) (of_decide_eq_true (by first | (with_reducible assumption) | assumption)) q11 hroom11
        have hr11 := Kd.F_take (m := ((ji4) : Int).toNat) hC11 (by omega)
        have hy11 : y104.length = ((ji4) : Int).toNat := (by rw [Ny104.out, List.length_take]; omega)
        rw [← Ny104.out] at hr11
        rw [← hy11] at hcut11
        have HO108 := Q0.mk (show Kd.V (Kd.int .u64) 40 _ w.heap.size _ (.slice (some ad103) y104.length co10) y104 from Kd.V_mk (by omega) hr11)
        have HC108 := Q0.mk (show y104.length ≤ co10 from by omega)
        clear hr11 hC11 hroom11 hi011 hsz11
        have KY11 := Q0.mk hy11
        clear hy11
        replace q11 := eq_true q11
        go_wp2
        go_roundg k1
        case measure => have := HK1.out; omega
        case rel => exact ⟨(y104), H', ⟨by have := HK1.out; omega⟩, ⟨by (with_reducible repeat (first | apply Kd.VA_ | apply Kd.VN_ | apply Kd.VD_)); exact HO108.out⟩, ⟨by (with_reducible repeat (first | refine kN ?_ _ | refine kD ?_ | refine kA ?_ _)); exact BK102.out⟩, ⟨by repeat (first | (with_reducible first | exact HB.out | apply bA | apply bN | apply b1_ | refine bS ?_ GE102.out) | exact HB.out)⟩⟩
       ·rw [if_neg c9] at H
        exact absurd H (by simp)
      ·rw [if_neg c7] at H
       have c7b0 : ((rd x0_1 (ji4)) == 0) = false := beq_eq_false_iff_ne.mpr c7
       have c7b1 : ((rd x0_1 (ji4)) != 0) = true := bne_iff_ne.mpr c7
       obtain rfl := Option.some.inj H
       obtain ⟨Ao12, co12, eo12⟩ := Kd.zo HO_0.out
       subst eo12
       have p103 : 0 ≤ ((ji4) : Int) := of_decide_eq_true (by first | (with_reducible assumption) | assumption)
       have q103 : (ji4) < (x0_1.length : Int) := of_decide_eq_true (by first | (with_reducible assumption) | assumption)
       obtain ⟨ad103, e103, hx103_0⟩ := Kd.zk (Kd.z90 HO_0.out).2.2 (ji4) p103 q103
       cases e103
       replace p103 := eq_true p103
       replace q103 := eq_true q103
       have hcz13_0 : wr.cell? ⟨gb102, 0, none⟩ = some (.slice none 0 0) := (kC BK102.out 0).trans rfl
       have hfz13_0 := kF BK102.out 0
       go_wp2
       refine bodyPost_ret (results_cell_row rfl _ _ gb102 29 #[.slice (some ad103) x0_1.length co12] (0, 0) _ rfl (by (with_reducible repeat (first | refine kN ?_ _ | refine kD ?_ | refine kA ?_ _)); refine zc0 (cs := #[.slice none 0 0]) ?_ 0 _ rfl; (with_reducible repeat (first | refine kN ?_ _ | refine kD ?_ | refine kA ?_ _)); exact BK102.out) Tryd.underlying29 rfl (by kernel_rfl)) rfl ?_
       exact ⟨_, by first | rfl | (simp [eN, eS] <;> rfl) | (simp only [← hji4]; first | rfl | (simp [eN, eS] <;> rfl)) | (simp [*, eN, eS] <;> rfl), by (with_reducible repeat (first | apply Kd.VA_ | apply Kd.VN_ | apply Kd.VD_)); exact Kd.VM_ (Kd.zn1 (p := ⟨gb102, 0, none⟩) (Kd.VM_ HO_0.out (fun k_ hk => (⟨hk, hk.2⟩ : _ ∧ k_ ≠ gb102))) (fun _ hk => hk.2) (.slice (some ad103) x0_1.length co12)) (fun _ hk => hk.1.1), by repeat (first | (with_reducible first | exact HB.out | apply bA | apply bN | apply b1_ | refine bS ?_ GE102.out) | exact HB.out)⟩
     ·rw [if_neg c6] at H
      exact absurd H (by simp)
    ·rw [if_neg c5] at H
     exact absurd H (by simp)
   ·rw [if_neg c3] at H
    have c3b0 : decide (0 < (x0_1.length : Int)) = false := decide_eq_false c3
    have c3b1 : decide (0 < x0_1.length) = false := decide_eq_false (by omega)
    clear c3
    obtain rfl := Option.some.inj H
    obtain ⟨Ao14, co14, eo14⟩ := Kd.zo HO_0.out
    subst eo14
    have hcz15_0 : wr.cell? ⟨gb102, 0, none⟩ = some (.slice none 0 0) := (kC BK102.out 0).trans rfl
    have hfz15_0 := kF BK102.out 0
    go_wp2
    refine bodyPost_ret (results_cell_row rfl _ _ gb102 29 #[.slice Ao14 x0_1.length co14] (0, 0) _ rfl (by (with_reducible repeat (first | refine kN ?_ _ | refine kD ?_ | refine kA ?_ _)); refine zc0 (cs := #[.slice none 0 0]) ?_ 0 _ rfl; (with_reducible repeat (first | refine kN ?_ _ | refine kD ?_ | refine kA ?_ _)); exact BK102.out) Tryd.underlying29 rfl (by kernel_rfl)) rfl ?_
    exact ⟨_, by first | rfl | (simp [eN, eS] <;> rfl) | (simp [*, eN, eS] <;> rfl), by (with_reducible repeat (first | apply Kd.VA_ | apply Kd.VN_ | apply Kd.VD_)); exact Kd.VM_ (Kd.zn1 (p := ⟨gb102, 0, none⟩) (Kd.VM_ HO_0.out (fun k_ hk => (⟨hk, hk.2⟩ : _ ∧ k_ ≠ gb102))) (fun _ hk => hk.2) (.slice Ao14 x0_1.length co14)) (fun _ hk => hk.1.1), by repeat (first | (with_reducible first | exact HB.out | apply bA | apply bN | apply b1_ | refine bS ?_ GE102.out) | exact HB.out)⟩
def nat_fit.f (k : Nat) (l0 : List Int) : Option (List Int × Int) := (nat_norm.f k l0).bind fun t110 => (if (t110.length : Int) > 64 then (some (([] : List Int), 1)) else (some (t110, 0)))
theorem nat_fit.calls (k : Nat) (P0_ : Nat → Prop) (A0 : Option Addr) (c0 : Nat) (l0 : List Int) (r1 : List Int) (r2 : Int) (w : World) (hs0 : Kd.V (Kd.int .u64) 40 w w.heap.size (fun k_ => P0_ k_) (.slice A0 l0.length c0) l0) (h : nat_fit.f k l0 = some (r1, r2)) :
  Calls Tryd.prog 64 #[.slice A0 l0.length c0] w fun e w' => ∃ v0_ : Value, e = .returned (.tuple #[.agg #[v0_], .int .i64 r2]) ∧ Kd.V (Kd.int .u64) 40 w' w.heap.size (fun k_ => (P0_ k_ ∨ w.heap.size ≤ k_)) v0_ r1 ∧ Below w.heap.size w w' := by
 have hu29 := Tryd.underlying29
 have HO0 := Q0.mk (show Kd.V (Kd.int .u64) 40 w w.heap.size (fun k_ => (P0_ k_ ∨ w.heap.size ≤ k_)) (.slice A0 l0.length c0) l0 from Kd.VM_ hs0 (fun k_ hk => .inl hk))
 have HB := Q0.mk (Below.refl w.heap.size w)
 have H : ((nat_norm.f k l0).bind fun t110 => (if (t110.length : Int) > 64 then (some (([] : List Int), 1)) else (some (t110, 0)))) = some (r1, r2) := h
 clear h
 replace H := Option.bind_eq_some_iff.mp H
 obtain ⟨t110, A20, H⟩ := H
 have A2 := Q0.mk A20
 clear A20
 by_cases c3 : (t110.length : Int) > 64
 ·rw [if_pos c3] at H
  have c3b0 : decide (64 < (t110.length : Int)) = true := decide_eq_true c3
  have c3b1 : decide (64 < t110.length) = true := decide_eq_true (by omega)
  clear c3
  simp only [Option.some.injEq, Prod.mk.injEq] at H
  obtain ⟨rfl, rfl⟩ := H
  go_enter Tryd.func64, Tryd.ntmps64
  go_wp2_with (first | ((with_reducible refine gD (N := 2) rfl ?_); refine xE ?hg (N := 2) ?hd (cs := #[.slice none 0 0]) (t := 29) ?hr ?_; (case hd => rfl); (case hg => rfl); (case hr => first | (go_simp; done) | (go_simp; rfl)); intro gb109 hg w4 hbox hb; have q_ := zm (w := w) hb (by repeat (first | (with_reducible first | exact HB.out | apply bA | apply bN | apply b1_) | exact HB.out)); replace HO0 := Q0.mk (Kd.zl (Kd.zz1 (by (with_reducible repeat (first | apply Kd.VA_ | apply Kd.VN_ | apply Kd.VD_)); exact HO0.out) gb109 (Nat.le_of_eq hg.symm)) hb); replace HB := Q0.mk (bP q_ hb); have BK109 := Q0.mk (hbox); have GW109 := Q0.mk ((by rw [hg]; exact (bZ q_) : w.heap.size ≤ gb109)); have GE109 := GW109; clear q_; clear hb hbox hg) | ((with_reducible refine gC (f := 68) rfl ?_); refine zx (some 6) rfl rfl Tryd.func68 (by kernel_rfl) rfl #[.slice A0 l0.length c0] rfl (by (try simp only [List.map_toArray, List.map_cons, List.map_nil]); first | done | rfl | (simp only [List.length_drop, List.length_take]; rfl)) ?_; (with_reducible refine (nat_norm.calls k (fun k_ => ((P0_ k_ ∨ w.heap.size ≤ k_) ∧ k_ ≠ gb109)) _ _ l0 t110 _ ?side1 A2.out).mono ?_); (case side1 => exact HO0.out); rintro e w5 ⟨v111, rfl, ho0, hb⟩; refine ⟨_, rfl, ?_⟩; have q_ := zm (w := w) hb (by repeat (first | (with_reducible first | exact HB.out | apply bA | apply bN | apply b1_ | refine bS ?_ GE109.out) | exact HB.out)); replace HO0 := Q0.mk (Kd.zl (by (with_reducible repeat (first | apply Kd.VA_ | apply Kd.VN_ | apply Kd.VD_)); exact HO0.out) hb); have HO112 := Q0.mk (Kd.za0 (Kd.VM_ (ok' := fun k_ => (P0_ k_ ∨ w.heap.size ≤ k_) ∧ k_ ≠ gb109) ho0 (fun k_ hk_ => ⟨Or.elim hk_ (fun hs_ => hs_.1) (fun hn_ => (.inr (Nat.le_trans (bZ q_) hn_))), Or.elim hk_ (fun hs_ => hs_.2) (fun hn_ => (Kd.zm0 (g := gb109) (o := .cells #[.slice none 0 0] 29 (0, 0)) (by (with_reducible repeat (first | refine kN ?_ _ | refine kD ?_ | refine kA ?_ _)); exact BK109.out) k_ hn_))⟩)) (bZ q_)); replace BK109 := Q0.mk (kB (g := gb109) (o := .cells #[.slice none 0 0] 29 (0, 0)) (by (with_reducible repeat (first | refine kN ?_ _ | refine kD ?_ | refine kA ?_ _)); exact BK109.out) hb); replace HB := Q0.mk (bP q_ hb); clear q_; (try clear hb); (try clear hb2); (try clear hk); (try clear hi); (try clear ho0)) | ((with_reducible refine gD (N := 4) rfl ?_); refine xE ?hg (N := 4) ?hd (cs := #[.slice none 0 0]) (t := 29) ?hr ?_; (case hd => rfl); (case hg => rfl); (case hr => first | (go_simp; done) | (go_simp; rfl)); intro gb113 hg w6 hbox hb; have q_ := zm (w := w) hb (by repeat (first | (with_reducible first | exact HB.out | apply bA | apply bN | apply b1_ | refine bS ?_ GE109.out) | exact HB.out)); replace HO0 := Q0.mk (Kd.zl (Kd.zz1 (by (with_reducible repeat (first | apply Kd.VA_ | apply Kd.VN_ | apply Kd.VD_)); exact HO0.out) gb113 (Nat.le_of_eq hg.symm)) hb); replace HO112 := Q0.mk (Kd.zl (Kd.zz1 (by (with_reducible repeat (first | apply Kd.VA_ | apply Kd.VN_ | apply Kd.VD_)); exact HO112.out) gb113 (Nat.le_of_eq hg.symm)) hb); replace HB := Q0.mk (bP q_ hb); have BK113 := Q0.mk (hbox); have GW113 := Q0.mk ((by rw [hg]; exact (bZ q_) : w.heap.size ≤ gb113)); have GE113 := GW113; have NB109_113 := Q0.mk ((by rw [hg]; exact Nat.ne_of_lt (zj0 (g := gb109) (o := .cells #[.slice none 0 0] 29 (0, 0)) (by (with_reducible repeat (first | refine kN ?_ _ | refine kD ?_ | refine kA ?_ _)); exact BK109.out)) : gb109 ≠ gb113)); replace BK109 := Q0.mk (kB (g := gb109) (o := .cells #[.slice none 0 0] 29 (0, 0)) (by (with_reducible repeat (first | refine kN ?_ _ | refine kD ?_ | refine kA ?_ _)); exact BK109.out) hb); have NB113_109 := Q0.mk NB109_113.out.symm; clear q_; clear hb hbox hg; obtain ⟨Ao7, co7, eo7⟩ := Kd.zo HO112.out; subst eo7; have hnb8 := NB113_109.out; have hnc8 := NB109_113.out; have hcz9_0 : w6.cell? ⟨gb113, 0, none⟩ = some (.slice none 0 0) := (kC BK113.out 0).trans rfl; have hfz9_0 := kF BK113.out 0; have hcz10_0 : w6.cell? ⟨gb109, 0, none⟩ = some (.slice none 0 0) := (kC BK109.out 0).trans rfl; have hfz10_0 := kF BK109.out 0))
  refine bodyPost_ret (zg1 rfl _ _ gb109 29 #[.slice none 0 0] (0, 0) _ rfl (by (with_reducible repeat (first | refine kN ?_ _ | refine kD ?_ | refine kA ?_ _)); refine zc0 (cs := #[.slice none 0 0]) ?_ 0 _ rfl; (with_reducible repeat (first | refine kN ?_ _ | refine kD ?_ | refine kA ?_ _)); refine zr0 ?_ NB109_113.out _; (with_reducible repeat (first | refine kN ?_ _ | refine kD ?_ | refine kA ?_ _)); exact BK109.out) Tryd.underlying29 rfl (by kernel_rfl)) rfl ?_
  exact ⟨_, by first | rfl | (simp [eN, eS] <;> rfl) | (simp [*, eN, eS] <;> rfl), Kd.VM_ (Kd.R_V (base := w.heap.size) (ok := fun k_ => w.heap.size ≤ k_) (by first | exact Kd.zj1 _ _ _ _ _ | exact Kd.N_nil _ _ _ _ _ | exact Kd.zg3 _ _ _ _ _ | exact Kd.Q_nil _ _ _ _ _ | exact Kd.S_nil _ _ _ _ _)) (fun k_ hk => by first | exact ⟨(.inr (hk.1)), hk.2⟩ | exact (.inr (hk))), by repeat (first | (with_reducible first | exact HB.out | apply bA | apply bN | apply b1_ | refine bS ?_ GE109.out | refine bS ?_ GE113.out) | exact HB.out)⟩
 ·rw [if_neg c3] at H
  have c3b0 : decide (64 < (t110.length : Int)) = false := decide_eq_false c3
  have c3b1 : decide (64 < t110.length) = false := decide_eq_false (by omega)
  clear c3
  simp only [Option.some.injEq, Prod.mk.injEq] at H
  obtain ⟨rfl, rfl⟩ := H
  go_enter Tryd.func64, Tryd.ntmps64
  go_wp2_with (first | ((with_reducible refine gD (N := 2) rfl ?_); refine xE ?hg (N := 2) ?hd (cs := #[.slice none 0 0]) (t := 29) ?hr ?_; (case hd => rfl); (case hg => rfl); (case hr => first | (go_simp; done) | (go_simp; rfl)); intro gb109 hg w11 hbox hb; have q_ := zm (w := w) hb (by repeat (first | (with_reducible first | exact HB.out | apply bA | apply bN | apply b1_) | exact HB.out)); replace HO0 := Q0.mk (Kd.zl (Kd.zz1 (by (with_reducible repeat (first | apply Kd.VA_ | apply Kd.VN_ | apply Kd.VD_)); exact HO0.out) gb109 (Nat.le_of_eq hg.symm)) hb); replace HB := Q0.mk (bP q_ hb); have BK109 := Q0.mk (hbox); have GW109 := Q0.mk ((by rw [hg]; exact (bZ q_) : w.heap.size ≤ gb109)); have GE109 := GW109; clear q_; clear hb hbox hg) | ((with_reducible refine gC (f := 68) rfl ?_); refine zx (some 6) rfl rfl Tryd.func68 (by kernel_rfl) rfl #[.slice A0 l0.length c0] rfl (by (try simp only [List.map_toArray, List.map_cons, List.map_nil]); first | done | rfl | (simp only [List.length_drop, List.length_take]; rfl)) ?_; (with_reducible refine (nat_norm.calls k (fun k_ => ((P0_ k_ ∨ w.heap.size ≤ k_) ∧ k_ ≠ gb109)) _ _ l0 t110 _ ?side1 A2.out).mono ?_); (case side1 => exact HO0.out); rintro e w12 ⟨v111, rfl, ho0, hb⟩; refine ⟨_, rfl, ?_⟩; have q_ := zm (w := w) hb (by repeat (first | (with_reducible first | exact HB.out | apply bA | apply bN | apply b1_ | refine bS ?_ GE109.out) | exact HB.out)); replace HO0 := Q0.mk (Kd.zl (by (with_reducible repeat (first | apply Kd.VA_ | apply Kd.VN_ | apply Kd.VD_)); exact HO0.out) hb); have HO112 := Q0.mk (Kd.za0 (Kd.VM_ (ok' := fun k_ => (P0_ k_ ∨ w.heap.size ≤ k_) ∧ k_ ≠ gb109) ho0 (fun k_ hk_ => ⟨Or.elim hk_ (fun hs_ => hs_.1) (fun hn_ => (.inr (Nat.le_trans (bZ q_) hn_))), Or.elim hk_ (fun hs_ => hs_.2) (fun hn_ => (Kd.zm0 (g := gb109) (o := .cells #[.slice none 0 0] 29 (0, 0)) (by (with_reducible repeat (first | refine kN ?_ _ | refine kD ?_ | refine kA ?_ _)); exact BK109.out) k_ hn_))⟩)) (bZ q_)); replace BK109 := Q0.mk (kB (g := gb109) (o := .cells #[.slice none 0 0] 29 (0, 0)) (by (with_reducible repeat (first | refine kN ?_ _ | refine kD ?_ | refine kA ?_ _)); exact BK109.out) hb); replace HB := Q0.mk (bP q_ hb); clear q_; (try clear hb); (try clear hb2); (try clear hk); (try clear hi); (try clear ho0)) | ((with_reducible refine gD (N := 4) rfl ?_); refine xE ?hg (N := 4) ?hd (cs := #[.slice none 0 0]) (t := 29) ?hr ?_; (case hd => rfl); (case hg => rfl); (case hr => first | (go_simp; done) | (go_simp; rfl)); intro gb113 hg w13 hbox hb; have q_ := zm (w := w) hb (by repeat (first | (with_reducible first | exact HB.out | apply bA | apply bN | apply b1_ | refine bS ?_ GE109.out) | exact HB.out)); replace HO0 := Q0.mk (Kd.zl (Kd.zz1 (by (with_reducible repeat (first | apply Kd.VA_ | apply Kd.VN_ | apply Kd.VD_)); exact HO0.out) gb113 (Nat.le_of_eq hg.symm)) hb); replace HO112 := Q0.mk (Kd.zl (Kd.zz1 (by (with_reducible repeat (first | apply Kd.VA_ | apply Kd.VN_ | apply Kd.VD_)); exact HO112.out) gb113 (Nat.le_of_eq hg.symm)) hb); replace HB := Q0.mk (bP q_ hb); have BK113 := Q0.mk (hbox); have GW113 := Q0.mk ((by rw [hg]; exact (bZ q_) : w.heap.size ≤ gb113)); have GE113 := GW113; have NB109_113 := Q0.mk ((by rw [hg]; exact Nat.ne_of_lt (zj0 (g := gb109) (o := .cells #[.slice none 0 0] 29 (0, 0)) (by (with_reducible repeat (first | refine kN ?_ _ | refine kD ?_ | refine kA ?_ _)); exact BK109.out)) : gb109 ≠ gb113)); replace BK109 := Q0.mk (kB (g := gb109) (o := .cells #[.slice none 0 0] 29 (0, 0)) (by (with_reducible repeat (first | refine kN ?_ _ | refine kD ?_ | refine kA ?_ _)); exact BK109.out) hb); have NB113_109 := Q0.mk NB109_113.out.symm; clear q_; clear hb hbox hg; obtain ⟨Ao14, co14, eo14⟩ := Kd.zo HO112.out; subst eo14; have hnb15 := NB113_109.out; have hnc15 := NB109_113.out; have hcz16_0 : w13.cell? ⟨gb113, 0, none⟩ = some (.slice none 0 0) := (kC BK113.out 0).trans rfl; have hfz16_0 := kF BK113.out 0; have hcz17_0 : w13.cell? ⟨gb109, 0, none⟩ = some (.slice none 0 0) := (kC BK109.out 0).trans rfl; have hfz17_0 := kF BK109.out 0))
  refine bodyPost_ret (zg1 rfl _ _ gb109 29 #[.slice Ao14 t110.length co14] (0, 0) _ rfl (by (with_reducible repeat (first | refine kN ?_ _ | refine kD ?_ | refine kA ?_ _)); refine zc0 (cs := #[.slice none 0 0]) ?_ 0 _ rfl; (with_reducible repeat (first | refine kN ?_ _ | refine kD ?_ | refine kA ?_ _)); refine zr0 ?_ NB109_113.out _; (with_reducible repeat (first | refine kN ?_ _ | refine kD ?_ | refine kA ?_ _)); exact BK109.out) Tryd.underlying29 rfl (by kernel_rfl)) rfl ?_
  exact ⟨_, by first | rfl | (simp [eN, eS] <;> rfl) | (simp [*, eN, eS] <;> rfl), by (with_reducible repeat (first | apply Kd.VA_ | apply Kd.VN_ | apply Kd.VD_)); exact Kd.VM_ (Kd.zn1 (p := ⟨gb109, 0, none⟩) (Kd.zn1 (p := ⟨gb113, 0, none⟩) (Kd.VM_ (Kd.VM_ HO112.out (fun k_ hk => (⟨hk, hk.2⟩ : _ ∧ k_ ≠ gb113))) (fun k_ hk => (⟨hk, hk.1.1.2⟩ : _ ∧ k_ ≠ gb109))) (fun _ hk => hk.1.2) (.slice Ao14 t110.length co14)) (fun _ hk => hk.2) (.slice Ao14 t110.length co14)) (fun _ hk => hk.1.1.1.1), by repeat (first | (with_reducible first | exact HB.out | apply bA | apply bN | apply b1_ | refine bS ?_ GE109.out | refine bS ?_ GE113.out) | exact HB.out)⟩
def slices_Clone_uint64_uint64.f (l0 : List Int) : Option (List Int) := if l0.length ≤ 17592186044416 then some l0 else none
theorem slices_Clone_uint64_uint64.calls (A0 : Option Addr) (c0 : Nat) (l0 : List Int) (r : List Int) (w : World) (hr0 : Kd.C (Kd.int .u64) w A0 l0.length l0) (hc0 : l0.length ≤ c0) (h : slices_Clone_uint64_uint64.f l0 = some r) :
  Calls Tryd.prog 65 #[.slice A0 l0.length c0] w fun e w' => ∃ v0_ : Value, e = .returned (v0_) ∧ Kd.R (Kd.int .u64) 40 w' w.heap.size (fun _ => True) v0_ r ∧ Below w.heap.size w w' := by
 unfold slices_Clone_uint64_uint64.f at h
 split at h
 ·rename_i hn
  obtain rfl := Option.some.inj h
  clear h hc0
  have q22 : ∀ (w : World) (a : Option Addr) (n c n' c' : Nat), (binOp .eql 22 (.slice a n c) (.slice none n' c')).run Tryd.prog w = .ok (.bool a.isNone) w := fun w a n c n' c' => Lib.run_eql_slice_nil w _ _ a n c n' c' Tryd.underlying22
  cases A0 with
  | none =>
   have hl : l0.length = 0 := by
    rcases Nat.eq_zero_or_pos l0.length with hz | hz
    ·exact hz
    ·obtain ⟨ad, e, _⟩ := hr0.2.2 hz
     cases e
   obtain rfl : l0 = [] := List.length_eq_zero_iff.1 hl
   clear hl hr0 hn
   go_enter Tryd.func65, Tryd.ntmps65
   go_wp2
   go_ret
   exact ⟨_, rfl, Kd.zj1 _ _ _ _ _, Below.refl _ _⟩
  | some ad0 =>
   obtain ⟨i0, hi, hz0, hz1, hz2⟩ := info_parts zg2
   have A : Q0 (Kd.C (Kd.int .u64) w (some ad0) l0.length l0) := ⟨hr0⟩
   clear hr0
   go_enter Tryd.func65, Tryd.ntmps65
   go_wp2_with (at_builtin; refine wpList_append_own _ rfl _ _ 22 rfl w.heap.size 40 i0 (.int .u64 0) 1 8 Tryd.underlying22 hi hz0 hz1 hz2 rfl (by decide) _ _ _ rfl (World.ownsRow_made w #[] 0 (Nat.le_refl _) (Nat.zero_le _) rfl) ad0 l0.length c0 (l0.map (Value.int .u64)) rfl ?qc1 ?qc2 ?qc3 ?qc4 ?qc5 ?qc6 ?_)
   case qc1 => simp
   case qc2 =>
    intro j u hj
    have hjn : j < l0.length := by
     have := (List.getElem?_eq_some_iff.1 hj).1
     simpa using this
    obtain ⟨ad, e, hx⟩ := Kd.zk A.out (j : Int) (by omega) (by omega)
    cases e
    rw [Int.toNat_natCast] at hx
    refine Lib.cell?_alloc_some _ ?_
    rw [hx]
    rw [List.getElem?_map, List.getElem?_eq_getElem hjn] at hj
    simp only [Option.map_some, Option.some.injEq] at hj
    rw [← hj]
    simp [rd, List.getD, List.getElem?_eq_getElem hjn]
   case qc3 => intro u hu; obtain ⟨x, _, rfl⟩ := List.mem_map.1 hu; rfl
   case qc4 => unfold maxLen; omega
   case qc5 => omega
   case qc6 => simp
   intro v' w1 hown hgrow hnil
   go_wp2
   go_ret
   refine ⟨v', rfl, Kd.R_of_own (by simpa [encs] using hown) (fun _ _ => trivial), ?_⟩
   exact ((Below.refl _ w).alloc (Nat.le_refl _) _).grown hgrow (by simp) (by intro k hk; simp [Value.ownBlock] at hk; omega)
 ·exact absurd h (by simp)
def nat_From.f (k : Nat) (l0 : List Int) : Option (List Int × Int) := (slices_Clone_uint64_uint64.f l0).bind fun t118 => ((nat_fit.f k t118).bind fun bt121 => (some (bt121.1, bt121.2)))
theorem nat_From.calls (k : Nat) (A0 : Option Addr) (c0 : Nat) (l0 : List Int) (r1 : List Int) (r2 : Int) (w : World) (hr0 : Kd.C (Kd.int .u64) w A0 l0.length l0) (hc0 : l0.length ≤ c0) (h : nat_From.f k l0 = some (r1, r2)) :
  Calls Tryd.prog 16 #[.slice A0 l0.length c0] w fun e w' => ∃ v0_ : Value, e = .returned (.tuple #[.agg #[v0_], .int .i64 r2]) ∧ Kd.V (Kd.int .u64) 40 w' w.heap.size (fun k_ => (w.heap.size ≤ k_)) v0_ r1 ∧ Below w.heap.size w w' := by
 have hu29 := Tryd.underlying29
 have HR0 := Q0.mk hr0
 have HC0 := Q0.mk hc0
 clear hr0 hc0
 have HB := Q0.mk (Below.refl w.heap.size w)
 have H : ((slices_Clone_uint64_uint64.f l0).bind fun t118 => ((nat_fit.f k t118).bind fun bt121 => (some (bt121.1, bt121.2)))) = some (r1, r2) := h
 clear h
 replace H := Option.bind_eq_some_iff.mp H
 obtain ⟨t118, A20, H⟩ := H
 have A2 := Q0.mk A20
 clear A20
 replace H := Option.bind_eq_some_iff.mp H
 obtain ⟨⟨t121, t124⟩, A30, H⟩ := H
 have A3 := Q0.mk A30
 clear A30
 simp only [Option.some.injEq, Prod.mk.injEq] at H
 obtain ⟨rfl, rfl⟩ := H
 go_enter Tryd.func16, Tryd.ntmps16
 go_wp2_with (first | ((with_reducible refine gD (N := 2) rfl ?_); refine xE ?hg (N := 2) ?hd (cs := #[.slice none 0 0]) (t := 29) ?hr ?_; (case hd => rfl); (case hg => rfl); (case hr => first | (go_simp; done) | (go_simp; rfl)); intro gb117 hg w4 hbox hb; have q_ := zm (w := w) hb (by repeat (first | (with_reducible first | exact HB.out | apply bA | apply bN | apply b1_) | exact HB.out)); replace HB := Q0.mk (bP q_ hb); have BK117 := Q0.mk (hbox); have GW117 := Q0.mk ((by rw [hg]; exact (bZ q_) : w.heap.size ≤ gb117)); have GE117 := GW117; clear q_; clear hb hbox hg) | ((with_reducible refine gC (f := 65) rfl ?_); refine zx (some 5) rfl rfl Tryd.func65 (by kernel_rfl) rfl #[.slice A0 l0.length c0] rfl (by (try simp only [List.map_toArray, List.map_cons, List.map_nil]); first | done | rfl | (simp only [List.length_drop, List.length_take]; rfl)) ?_; (with_reducible refine (slices_Clone_uint64_uint64.calls _ _ l0 t118 _ ?side1 ?side2 A2.out).mono ?_); (case side1 => repeat (first | exact (Kd.zu HR0.out HB.out) | (with_reducible refine Kd.ze ?_ _) | (with_reducible refine Kd.zf ?_ _) | (with_reducible refine Kd.zi ?_))); (case side2 => exact HC0.out); rintro e w5 ⟨v119, rfl, ho0, hb⟩; refine ⟨_, rfl, ?_⟩; have q_ := zm (w := w) hb (by repeat (first | (with_reducible first | exact HB.out | apply bA | apply bN | apply b1_ | refine bS ?_ GE117.out) | exact HB.out)); have HO120 := Q0.mk (Kd.zw0 (Kd.zs1 (M := fun k_ => (w.heap.size ≤ k_)) ho0 (bZ q_) (fun k_ h_ => h_)) (bZ q_)); replace BK117 := Q0.mk (kB (g := gb117) (o := .cells #[.slice none 0 0] 29 (0, 0)) (by (with_reducible repeat (first | refine kN ?_ _ | refine kD ?_ | refine kA ?_ _)); exact BK117.out) hb); replace HB := Q0.mk (bP q_ hb); clear q_; (try clear hb); (try clear hb2); (try clear hk); (try clear hi); (try clear ho0); obtain ⟨Ao6, co6, eo6⟩ := Kd.zl0 HO120.out; subst eo6) | ((with_reducible refine gC (f := 64) rfl ?_); refine zx (some 6) rfl rfl Tryd.func64 (by kernel_rfl) rfl #[.slice Ao6 t118.length co6] rfl (by (try simp only [List.map_toArray, List.map_cons, List.map_nil]); first | done | rfl | (simp only [List.length_drop, List.length_take]; rfl)) ?_; (with_reducible refine (nat_fit.calls k (fun k_ => some k_ = (.slice Ao6 t118.length co6 : Value).ownBlock) _ _ t118 t121 t124 _ ?side1 A3.out).mono ?_); (case side1 => exact Kd.R_V (Kd.z11 rfl (Kd.RT_ (HO120.out) BK117.out (by decide)))); rintro e w7 ⟨v122, rfl, ho0, hb⟩; refine ⟨_, rfl, ?_⟩; have q_ := zm (w := w) hb (by repeat (first | (with_reducible first | exact HB.out | apply bA | apply bN | apply b1_ | refine bS ?_ GE117.out) | exact HB.out)); have HO123 := Q0.mk (Kd.za0 (Kd.VM_ (ok' := fun k_ => (w.heap.size ≤ k_) ∧ k_ ≠ gb117) ho0 (fun k_ hk_ => ⟨Or.elim hk_ (fun hs_ => ((Kd.RT_ (HO120.out) BK117.out (by decide)).1 k_ hs_.symm).1.1) (fun hn_ => (Nat.le_trans (bZ q_) hn_)), Or.elim hk_ (fun hs_ => ((Kd.RT_ (HO120.out) BK117.out (by decide)).1 k_ hs_.symm).2) (fun hn_ => (Kd.zm0 (g := gb117) (o := .cells #[.slice none 0 0] 29 (0, 0)) (by (with_reducible repeat (first | refine kN ?_ _ | refine kD ?_ | refine kA ?_ _)); exact BK117.out) k_ hn_))⟩)) (bZ q_)); replace HO120 := Q0.mk (Kd.zy (by (with_reducible repeat (first | apply Kd.RA_ | apply Kd.RN_ | apply Kd.RD_)); exact HO120.out) hb); replace BK117 := Q0.mk (kB (g := gb117) (o := .cells #[.slice none 0 0] 29 (0, 0)) (by (with_reducible repeat (first | refine kN ?_ _ | refine kD ?_ | refine kA ?_ _)); exact BK117.out) hb); replace HB := Q0.mk (bP q_ hb); clear q_; (try clear hb); (try clear hb2); (try clear hk); (try clear hi); (try clear ho0); obtain ⟨Ao8, co8, eo8⟩ := Kd.zo HO123.out; subst eo8; have hcz9_0 : w7.cell? ⟨gb117, 0, none⟩ = some (.slice none 0 0) := (kC BK117.out 0).trans rfl; have hfz9_0 := kF BK117.out 0))
 refine bodyPost_ret (zg1 rfl _ _ gb117 29 #[.slice Ao8 t121.length co8] (0, 0) _ rfl (by (with_reducible repeat (first | refine kN ?_ _ | refine kD ?_ | refine kA ?_ _)); refine zc0 (cs := #[.slice none 0 0]) ?_ 0 _ rfl; (with_reducible repeat (first | refine kN ?_ _ | refine kD ?_ | refine kA ?_ _)); exact BK117.out) Tryd.underlying29 rfl (by kernel_rfl)) rfl ?_
 exact ⟨_, by first | rfl | (simp [eN, eS] <;> rfl) | (simp [*, eN, eS] <;> rfl), by (with_reducible repeat (first | apply Kd.VA_ | apply Kd.VN_ | apply Kd.VD_)); exact Kd.VM_ (Kd.zn1 (p := ⟨gb117, 0, none⟩) (Kd.VM_ HO123.out (fun k_ hk => (⟨hk, hk.2⟩ : _ ∧ k_ ≠ gb117))) (fun _ hk => hk.2) (.slice Ao8 t121.length co8)) (fun _ hk => hk.1.1), by repeat (first | (with_reducible first | exact HB.out | apply bA | apply bN | apply b1_ | refine bS ?_ GE117.out) | exact HB.out)⟩
def nat_Nat_Words.f (l0_0 : List Int) : Option (List Int) := (slices_Clone_uint64_uint64.f l0_0).bind fun t213 => (some t213)
theorem nat_Nat_Words.calls (A0_0 : Option Addr) (c0_0 : Nat) (l0_0 : List Int) (r : List Int) (w : World) (hr0_0 : Kd.C (Kd.int .u64) w A0_0 l0_0.length l0_0) (hc0_0 : l0_0.length ≤ c0_0) (h : nat_Nat_Words.f l0_0 = some r) :
  Calls Tryd.prog 18 #[.agg #[.slice A0_0 l0_0.length c0_0]] w fun e w' => ∃ v0_ : Value, e = .returned (v0_) ∧ Kd.R (Kd.int .u64) 40 w' w.heap.size (fun _ => True) v0_ r ∧ Below w.heap.size w w' := by
 have hu29 := Tryd.underlying29
 have HR0_0 := Q0.mk hr0_0
 have HC0_0 := Q0.mk hc0_0
 clear hr0_0 hc0_0
 have HB := Q0.mk (Below.refl w.heap.size w)
 have H : ((slices_Clone_uint64_uint64.f l0_0).bind fun t213 => (some t213)) = some r := h
 clear h
 replace H := Option.bind_eq_some_iff.mp H
 obtain ⟨t213, A20, H⟩ := H
 have A2 := Q0.mk A20
 clear A20
 obtain rfl := Option.some.inj H
 go_enter Tryd.func18, Tryd.ntmps18
 go_wp2_with (first | ((with_reducible refine gD (N := 1) rfl ?_); refine xE ?hg (N := 1) ?hd (cs := #[.slice A0_0 l0_0.length c0_0]) (t := 29) ?hr ?_; (case hd => rfl); (case hg => rfl); (case hr => first | (go_simp; done) | (go_simp; rfl)); intro gb212 hg w3 hbox hb; have q_ := zm (w := w) hb (by repeat (first | (with_reducible first | exact HB.out | apply bA | apply bN | apply b1_) | exact HB.out)); replace HB := Q0.mk (bP q_ hb); have BK212 := Q0.mk (hbox); have GW212 := Q0.mk ((by rw [hg]; exact (bZ q_) : w.heap.size ≤ gb212)); have GE212 := GW212; clear q_; clear hb hbox hg; have hcz4_0 : w3.cell? ⟨gb212, 0, none⟩ = some (.slice A0_0 l0_0.length c0_0) := (kC BK212.out 0).trans rfl; have hfz4_0 := kF BK212.out 0) | ((with_reducible refine gC (f := 65) rfl ?_); refine zx (some 5) rfl rfl Tryd.func65 (by kernel_rfl) rfl #[.slice A0_0 l0_0.length c0_0] rfl (by (try simp only [List.map_toArray, List.map_cons, List.map_nil]); first | done | rfl | (simp only [List.length_drop, List.length_take]; rfl)) ?_; (with_reducible refine (slices_Clone_uint64_uint64.calls _ _ l0_0 t213 _ ?side1 ?side2 A2.out).mono ?_); (case side1 => repeat (first | exact (Kd.zu HR0_0.out HB.out) | (with_reducible refine Kd.ze ?_ _) | (with_reducible refine Kd.zf ?_ _) | (with_reducible refine Kd.zi ?_))); (case side2 => exact HC0_0.out); rintro e w5 ⟨v214, rfl, ho0, hb⟩; refine ⟨_, rfl, ?_⟩; have q_ := zm (w := w) hb (by repeat (first | (with_reducible first | exact HB.out | apply bA | apply bN | apply b1_ | refine bS ?_ GE212.out) | exact HB.out)); have HO215 := Q0.mk (Kd.zw0 ho0 (bZ q_)); replace BK212 := Q0.mk (kB (g := gb212) (o := .cells #[.slice A0_0 l0_0.length c0_0] 29 (0, 0)) (by (with_reducible repeat (first | refine kN ?_ _ | refine kD ?_ | refine kA ?_ _)); exact BK212.out) hb); replace HB := Q0.mk (bP q_ hb); clear q_; (try clear hb); (try clear hb2); (try clear hk); (try clear hi); (try clear ho0)))
 go_ret
 exact ⟨_, by first | rfl | (simp [eN, eS] <;> rfl) | (simp [*, eN, eS] <;> rfl), by (with_reducible repeat (first | apply Kd.RA_ | apply Kd.RN_ | apply Kd.RD_)); exact HO215.out, by repeat (first | (with_reducible first | exact HB.out | apply bA | apply bN | apply b1_ | refine bS ?_ GE212.out) | exact HB.out)⟩
def nat_Of.f (k : Nat) (a0 : Int) : Option (List Int) := (nat_norm.f k (([a0] : List Int))).bind fun t181 => (some t181)
theorem nat_Of.calls (k : Nat) (a0 : Int) (r : List Int) (w : World) (h : nat_Of.f k a0 = some r) :
  Calls Tryd.prog 55 #[.int .u64 a0] w fun e w' => ∃ v0_ : Value, e = .returned (.agg #[v0_]) ∧ Kd.V (Kd.int .u64) 40 w' w.heap.size (fun k_ => (w.heap.size ≤ k_)) v0_ r ∧ Below w.heap.size w w' := by
 have hu29 := Tryd.underlying29
 have HB := Q0.mk (Below.refl w.heap.size w)
 have H : ((nat_norm.f k (([a0] : List Int))).bind fun t181 => (some t181)) = some r := h
 clear h
 obtain ⟨y178, hy178⟩ : ∃ y_ : List Int, y_ = (([a0] : List Int)) := ⟨_, rfl⟩
 rw [← hy178] at H
 have Ny178 := Q0.mk hy178
 clear hy178
 replace H := Option.bind_eq_some_iff.mp H
 obtain ⟨t181, A20, H⟩ := H
 have A2 := Q0.mk A20
 clear A20
 obtain rfl := Option.some.inj H
 go_enter Tryd.func55, Tryd.ntmps55
 go_wp2_with (first | ((with_reducible refine gD (N := 2) rfl ?_); refine xE ?hg (N := 2) ?hd (cs := #[.slice none 0 0]) (t := 29) ?hr ?_; (case hd => rfl); (case hg => rfl); (case hr => first | (go_simp; done) | (go_simp; rfl)); intro gb177 hg w3 hbox hb; have q_ := zm (w := w) hb (by repeat (first | (with_reducible first | exact HB.out | apply bA | apply bN | apply b1_) | exact HB.out)); replace HB := Q0.mk (bP q_ hb); have BK177 := Q0.mk (hbox); have GW177 := Q0.mk ((by rw [hg]; exact (bZ q_) : w.heap.size ≤ gb177)); have GE177 := GW177; clear q_; clear hb hbox hg) | ((with_reducible refine gD (N := 4) rfl ?_); refine Kd.R_lit (Kd.int .u64) _ 40 ?hg (N := 4) ?hd (xs := ([a0] : List Int)) (inner := [.int .u64 a0]) (ok := fun _ => True) (okp := fun _ => True) ?hr ?hp (fun _ hk => hk) trivial (Below.refl _ _) (Nat.le_refl _) (by simp) ?_; (case hd => rfl); (case hg => rfl); (case hr => first | (go_simp; done) | (go_simp; rfl)); (case hp => exact (zg0.one (show Kd.M (Kd.int .u64) _ _ _ a0 [.int .u64 a0] from rfl) (zg0.none _ _))); intro v179 w4 ho5 hb hg_ hnew_; clear hg_ hnew_; (first | rw [← Ny178.out] at ho5 | (simp only [Int.reduceToNat] at ho5; rw [← Ny178.out] at ho5)); have q_ := zm (w := w) hb (by repeat (first | (with_reducible first | exact HB.out | apply bA | apply bN | apply b1_ | refine bS ?_ GE177.out) | exact HB.out)); have HO180 := Q0.mk (Kd.zw0 (Kd.zs1 (M := fun k_ => (w.heap.size ≤ k_)) ho5 (bZ q_) (fun k_ h_ => h_)) (bZ q_)); replace BK177 := Q0.mk (kB (g := gb177) (o := .cells #[.slice none 0 0] 29 (0, 0)) (by (with_reducible repeat (first | refine kN ?_ _ | refine kD ?_ | refine kA ?_ _)); exact BK177.out) hb); replace HB := Q0.mk (bP q_ hb); clear q_; clear hb ho5; obtain ⟨Ao6, co6, eo6⟩ := Kd.zl0 HO180.out; subst eo6) | ((with_reducible refine gC (f := 68) rfl ?_); refine zx (some 5) rfl rfl Tryd.func68 (by kernel_rfl) rfl #[.slice Ao6 y178.length co6] rfl (by (try simp only [List.map_toArray, List.map_cons, List.map_nil]); first | done | rfl | (simp only [List.length_drop, List.length_take]; rfl)) ?_; (with_reducible refine (nat_norm.calls k (fun k_ => some k_ = (.slice Ao6 y178.length co6 : Value).ownBlock) _ _ y178 t181 _ ?side1 A2.out).mono ?_); (case side1 => exact Kd.R_V (Kd.z11 rfl (Kd.RT_ (HO180.out) BK177.out (by decide)))); rintro e w7 ⟨v182, rfl, ho0, hb⟩; refine ⟨_, rfl, ?_⟩; have q_ := zm (w := w) hb (by repeat (first | (with_reducible first | exact HB.out | apply bA | apply bN | apply b1_ | refine bS ?_ GE177.out) | exact HB.out)); have HO183 := Q0.mk (Kd.za0 (Kd.VM_ (ok' := fun k_ => (w.heap.size ≤ k_) ∧ k_ ≠ gb177) ho0 (fun k_ hk_ => ⟨Or.elim hk_ (fun hs_ => ((Kd.RT_ (HO180.out) BK177.out (by decide)).1 k_ hs_.symm).1.1) (fun hn_ => (Nat.le_trans (bZ q_) hn_)), Or.elim hk_ (fun hs_ => ((Kd.RT_ (HO180.out) BK177.out (by decide)).1 k_ hs_.symm).2) (fun hn_ => (Kd.zm0 (g := gb177) (o := .cells #[.slice none 0 0] 29 (0, 0)) (by (with_reducible repeat (first | refine kN ?_ _ | refine kD ?_ | refine kA ?_ _)); exact BK177.out) k_ hn_))⟩)) (bZ q_)); replace HO180 := Q0.mk (Kd.zy (by (with_reducible repeat (first | apply Kd.RA_ | apply Kd.RN_ | apply Kd.RD_)); exact HO180.out) hb); replace BK177 := Q0.mk (kB (g := gb177) (o := .cells #[.slice none 0 0] 29 (0, 0)) (by (with_reducible repeat (first | refine kN ?_ _ | refine kD ?_ | refine kA ?_ _)); exact BK177.out) hb); replace HB := Q0.mk (bP q_ hb); clear q_; (try clear hb); (try clear hb2); (try clear hk); (try clear hi); (try clear ho0); obtain ⟨Ao8, co8, eo8⟩ := Kd.zo HO183.out; subst eo8; have hcz9_0 : w7.cell? ⟨gb177, 0, none⟩ = some (.slice none 0 0) := (kC BK177.out 0).trans rfl; have hfz9_0 := kF BK177.out 0))
 refine bodyPost_ret (results_cell_row rfl _ _ gb177 29 #[.slice Ao8 t181.length co8] (0, 0) _ rfl (by (with_reducible repeat (first | refine kN ?_ _ | refine kD ?_ | refine kA ?_ _)); refine zc0 (cs := #[.slice none 0 0]) ?_ 0 _ rfl; (with_reducible repeat (first | refine kN ?_ _ | refine kD ?_ | refine kA ?_ _)); exact BK177.out) Tryd.underlying29 rfl (by kernel_rfl)) rfl ?_
 exact ⟨_, by first | rfl | (simp [eN, eS] <;> rfl) | (simp [*, eN, eS] <;> rfl), by (with_reducible repeat (first | apply Kd.VA_ | apply Kd.VN_ | apply Kd.VD_)); exact Kd.VM_ (Kd.zn1 (p := ⟨gb177, 0, none⟩) (Kd.VM_ HO183.out (fun k_ hk => (⟨hk, hk.2⟩ : _ ∧ k_ ≠ gb177))) (fun _ hk => hk.2) (.slice Ao8 t181.length co8)) (fun _ hk => hk.1.1), by repeat (first | (with_reducible first | exact HB.out | apply bA | apply bN | apply b1_ | refine bS ?_ GE177.out) | exact HB.out)⟩
def chaffref01_trim.l0 : Nat → List Int → Option (List Int)
 | 0, _ => none
 | k + 1, x0 => if (x0.length : Int) > 0 then (if 0 ≤ (wrap64 ((x0.length : Int) - 1)) then (if (wrap64 ((x0.length : Int) - 1)) < (x0.length : Int) then (if (rd x0 (wrap64 ((x0.length : Int) - 1))) = 0 then (if (wrap64 ((x0.length : Int) - 1)) ≤ (x0.length : Int) then (chaffref01_trim.l0 k (x0.take ((wrap64 ((x0.length : Int) - 1)) : Int).toNat)) else (none)) else (some x0)) else (none)) else (none)) else (some x0)
def chaffref01_trim.f (k : Nat) (l0 : List Int) : Option (List Int) := chaffref01_trim.l0 k l0
theorem chaffref01_trim.calls (k : Nat) (P0_ : Nat → Prop) (A0 : Option Addr) (c0 : Nat) (l0 : List Int) (r : List Int) (w : World) (hs0 : Kd.V (Kd.int .i64) 3 w w.heap.size (fun k_ => P0_ k_) (.slice A0 l0.length c0) l0) (h : chaffref01_trim.f k l0 = some r) :
  Calls Tryd.prog 63 #[.slice A0 l0.length c0] w fun e w' => ∃ v0_ : Value, e = .returned (v0_) ∧ Kd.V (Kd.int .i64) 3 w' w.heap.size (fun k_ => (P0_ k_ ∨ w.heap.size ≤ k_)) v0_ r ∧ Below w.heap.size w w' := by
 have HO0 := Q0.mk (show Kd.V (Kd.int .i64) 3 w w.heap.size (fun k_ => (P0_ k_ ∨ w.heap.size ≤ k_)) (.slice A0 l0.length c0) l0 from Kd.VM_ hs0 (fun k_ hk => .inl hk))
 have HB := Q0.mk (Below.refl w.heap.size w)
 have H : (chaffref01_trim.l0 k l0) = some r := h
 clear h
 have H' := Q0.mk H
 clear H
 go_enter Tryd.func63, Tryd.ntmps63
 go_wp2
 go_loopg [0] k (fun kq v0 w' => ∃ (x0_1 : List Int), Q0 (chaffref01_trim.l0 kq x0_1 = some r) ∧ Q0 (kq ≤ k) ∧ Q0 (Kd.V (Kd.int .i64) 3 w' w.heap.size (fun k_ => (P0_ k_ ∨ w.heap.size ≤ k_)) v0 x0_1) ∧ Q0 (Below w.heap.size w w'))
 case atStart => exact ⟨(l0), H', ⟨Nat.le_refl _⟩, ⟨by (with_reducible repeat (first | apply Kd.VA_ | apply Kd.VN_ | apply Kd.VD_)); exact HO0.out⟩, ⟨by repeat (first | (with_reducible first | exact HB.out | apply bA | apply bN | apply b1_) | exact HB.out)⟩⟩
 case round =>
  clear H'
  obtain ⟨x0_1, HA, HK1, HO_0, HB⟩ := hrel
  cases gk with
  | zero => exact absurd HA.out (by simp [chaffref01_trim.l0])
  | succ k1 =>
   have H := HA.out
   clear HA
   simp only [chaffref01_trim.l0] at H
   by_cases c2 : (x0_1.length : Int) > 0
   ·rw [if_pos c2] at H
    have c2b0 : decide (0 < (x0_1.length : Int)) = true := decide_eq_true c2
    have c2b1 : decide (0 < x0_1.length) = true := decide_eq_true (by omega)
    clear c2
    obtain ⟨ji3, hji3⟩ : ∃ j_ : Int, (wrap64 ((x0_1.length : Int) - 1)) = j_ := ⟨_, rfl⟩
    replace H : (if 0 ≤ (ji3) then (if (ji3) < (x0_1.length : Int) then (if (rd x0_1 (ji3)) = 0 then (if (ji3) ≤ (x0_1.length : Int) then (chaffref01_trim.l0 k1 (x0_1.take ((ji3) : Int).toNat)) else (none)) else (some x0_1)) else (none)) else (none)) = some r := by first | (rw [hji3] at H; exact H) | (simp only [hji3] at H ⊢; exact H)
    have hji3w : (IntKind.i64.wrap ((x0_1.length : Int) - 1)) = ji3 := (iw _).trans hji3
    by_cases c4 : 0 ≤ (ji3)
    ·rw [if_pos c4] at H
     have c4b0 : decide (0 ≤ (ji3)) = true := decide_eq_true c4
     clear c4
     by_cases c5 : (ji3) < (x0_1.length : Int)
     ·rw [if_pos c5] at H
      have c5b0 : decide ((ji3) < (x0_1.length : Int)) = true := decide_eq_true c5
      clear c5
      by_cases c6 : (rd x0_1 (ji3)) = 0
      ·rw [if_pos c6] at H
       have c6b0 : ((rd x0_1 (ji3)) == 0) = true := beq_iff_eq.mpr c6
       have c6b1 : ((rd x0_1 (ji3)) != 0) = false := bne_eq_false_iff_eq.mpr c6
       clear c6
       have c7b0 := eq_true (of_decide_eq_true (by first | (with_reducible assumption) | assumption) : 0 ≤ (ji3))
       by_cases c8 : (ji3) ≤ (x0_1.length : Int)
       ·rw [if_pos c8] at H
        have c8b0 := eq_true c8
        have c8b1 : decide ((ji3) ≤ (x0_1.length : Int)) = true := decide_eq_true c8
        clear c8
        obtain ⟨y194, hy194⟩ : ∃ y_ : List Int, y_ = (x0_1.take ((ji3) : Int).toNat) := ⟨_, rfl⟩
        rw [← hy194] at H
        have Ny194 := Q0.mk hy194
        clear hy194
        have H' := Q0.mk H
        clear H
        obtain ⟨Ao9, co9, eo9⟩ := Kd.zo HO_0.out
        subst eo9
        have p193 : 0 ≤ ((ji3) : Int) := of_decide_eq_true (by first | (with_reducible assumption) | assumption)
        have q193 : (ji3) < (x0_1.length : Int) := of_decide_eq_true (by first | (with_reducible assumption) | assumption)
        obtain ⟨ad193, e193, hx193_0⟩ := Kd.zk (Kd.z90 HO_0.out).2.2 (ji3) p193 q193
        cases e193
        replace p193 := eq_true p193
        replace q193 := eq_true q193
        have q10 : ((ji3) : Int) ≤ ((x0_1.length : Int) : Int) := of_decide_eq_true (by first | (with_reducible assumption) | assumption)
        obtain ⟨i010, hi010, _, hsz10, _⟩ := info_parts info3
        have hroom10 : x0_1.length ≤ co9 := (Kd.z90 HO_0.out).2.1
        have hC10 : Kd.F (Kd.int .i64) _ _ (some ad193) x0_1.length x0_1 := (Kd.V_at (base := w.heap.size) HO_0.out).2.2
        have hcut10 := cut_to (P := Tryd.prog) 26 3 .i64 Tryd.underlying26 hi010 (some ad193) x0_1.length co9 (ji3) (of_decide_eq_true (by first | (with_reducible assumption) | assumption)) q10 hroom10
        have hr10 := Kd.F_take (m := ((ji3) : Int).toNat) hC10 (by omega)
        have hy10 : y194.length = ((ji3) : Int).toNat := (by rw [Ny194.out, List.length_take]; omega)
        rw [← Ny194.out] at hr10
        rw [← hy10] at hcut10
        have HO198 := Q0.mk (show Kd.V (Kd.int .i64) 3 _ w.heap.size _ (.slice (some ad193) y194.length co9) y194 from Kd.V_mk (by omega) hr10)
        have HC198 := Q0.mk (show y194.length ≤ co9 from by omega)
        clear hr10 hC10 hroom10 hi010 hsz10
        have KY10 := Q0.mk hy10
        clear hy10
        replace q10 := eq_true q10
        go_wp2
        go_roundg k1
        case measure => have := HK1.out; omega
        case rel => exact ⟨(y194), H', ⟨by have := HK1.out; omega⟩, ⟨by (with_reducible repeat (first | apply Kd.VA_ | apply Kd.VN_ | apply Kd.VD_)); exact HO198.out⟩, ⟨by repeat (first | (with_reducible first | exact HB.out | apply bA | apply bN | apply b1_) | exact HB.out)⟩⟩
       ·rw [if_neg c8] at H
        exact absurd H (by simp)
      ·rw [if_neg c6] at H
       have c6b0 : ((rd x0_1 (ji3)) == 0) = false := beq_eq_false_iff_ne.mpr c6
       have c6b1 : ((rd x0_1 (ji3)) != 0) = true := bne_iff_ne.mpr c6
       obtain rfl := Option.some.inj H
       obtain ⟨Ao11, co11, eo11⟩ := Kd.zo HO_0.out
       subst eo11
       have p193 : 0 ≤ ((ji3) : Int) := of_decide_eq_true (by first | (with_reducible assumption) | assumption)
       have q193 : (ji3) < (x0_1.length : Int) := of_decide_eq_true (by first | (with_reducible assumption) | assumption)
       obtain ⟨ad193, e193, hx193_0⟩ := Kd.zk (Kd.z90 HO_0.out).2.2 (ji3) p193 q193
       cases e193
       replace p193 := eq_true p193
       replace q193 := eq_true q193
       go_wp2
       go_ret
       exact ⟨_, by first | rfl | (simp [eN, eS] <;> rfl) | (simp only [← hji3]; first | rfl | (simp [eN, eS] <;> rfl)) | (simp [*, eN, eS] <;> rfl), by (with_reducible repeat (first | apply Kd.VA_ | apply Kd.VN_ | apply Kd.VD_)); exact HO_0.out, by repeat (first | (with_reducible first | exact HB.out | apply bA | apply bN | apply b1_) | exact HB.out)⟩
     ·rw [if_neg c5] at H
      exact absurd H (by simp)
    ·rw [if_neg c4] at H
     exact absurd H (by simp)
   ·rw [if_neg c2] at H
    have c2b0 : decide (0 < (x0_1.length : Int)) = false := decide_eq_false c2
    have c2b1 : decide (0 < x0_1.length) = false := decide_eq_false (by omega)
    clear c2
    obtain rfl := Option.some.inj H
    obtain ⟨Ao12, co12, eo12⟩ := Kd.zo HO_0.out
    subst eo12
    go_wp2
    go_ret
    exact ⟨_, by first | rfl | (simp [eN, eS] <;> rfl) | (simp [*, eN, eS] <;> rfl), by (with_reducible repeat (first | apply Kd.VA_ | apply Kd.VN_ | apply Kd.VD_)); exact HO_0.out, by repeat (first | (with_reducible first | exact HB.out | apply bA | apply bN | apply b1_) | exact HB.out)⟩
def chaffref01_at.f (l0 : List Int) (a1 : Int) : Option (Int) := if a1 < (l0.length : Int) then (if 0 ≤ a1 then (some (rd l0 a1)) else (none)) else (some 0)
theorem chaffref01_at.calls (A0 : Option Addr) (c0 : Nat) (l0 : List Int) (a1 : Int) (r : Int) (w : World) (hr0 : Kd.C (Kd.int .i64) w A0 l0.length l0) (hc0 : l0.length ≤ c0) (h : chaffref01_at.f l0 a1 = some r) :
  Calls Tryd.prog 78 #[.slice A0 l0.length c0, .int .i64 a1] w fun e w' => e = .returned (.int .i64 r) ∧ D0 w w' := by
 have HR0 := Q0.mk hr0
 have HC0 := Q0.mk hc0
 clear hr0 hc0
 have H : (if a1 < (l0.length : Int) then (if 0 ≤ a1 then (some (rd l0 a1)) else (none)) else (some 0)) = some r := h
 clear h
 by_cases c3 : a1 < (l0.length : Int)
 ·rw [if_pos c3] at H
  have c3b0 : decide (a1 < (l0.length : Int)) = true := decide_eq_true c3
  clear c3
  by_cases c4 : 0 ≤ a1
  ·rw [if_pos c4] at H
   have c4b0 : decide (0 ≤ a1) = true := decide_eq_true c4
   clear c4
   obtain rfl := Option.some.inj H
   have p247 : 0 ≤ (a1 : Int) := of_decide_eq_true (by first | (with_reducible assumption) | assumption)
   have q247 : a1 < (l0.length : Int) := of_decide_eq_true (by first | (with_reducible assumption) | assumption)
   obtain ⟨ad247, e247, hx247_0⟩ := Kd.zk HR0.out a1 p247 q247
   cases e247
   replace p247 := eq_true p247
   replace q247 := eq_true q247
   go_enter Tryd.func78, Tryd.ntmps78
   go_wp2
   go_ret
   exact ⟨by first | rfl | (simp; done) | (simp [*]; done), by repeat (first | exact D0.refl _ | apply D0.step)⟩
  ·rw [if_neg c4] at H
   exact absurd H (by simp)
 ·rw [if_neg c3] at H
  have c3b0 : decide (a1 < (l0.length : Int)) = false := decide_eq_false c3
  clear c3
  obtain rfl := Option.some.inj H
  go_enter Tryd.func78, Tryd.ntmps78
  go_wp2
  go_ret
  exact ⟨by first | rfl | (simp; done) | (simp [*]; done), by repeat (first | exact D0.refl _ | apply D0.step)⟩
def nat_Nat_word.f (l0_0 : List Int) (a1 : Int) : Option (Int) := if a1 < (l0_0.length : Int) then (if 0 ≤ a1 then (some (rd l0_0 a1)) else (none)) else (some 0)
theorem nat_Nat_word.calls (A0_0 : Option Addr) (c0_0 : Nat) (l0_0 : List Int) (a1 : Int) (r : Int) (w : World) (hr0_0 : Kd.C (Kd.int .u64) w A0_0 l0_0.length l0_0) (hc0_0 : l0_0.length ≤ c0_0) (h : nat_Nat_word.f l0_0 a1 = some r) :
  Calls Tryd.prog 80 #[.agg #[.slice A0_0 l0_0.length c0_0], .int .i64 a1] w fun e w' => e = .returned (.int .u64 r) ∧ Below w.heap.size w w' := by
 have hu29 := Tryd.underlying29
 have HR0_0 := Q0.mk hr0_0
 have HC0_0 := Q0.mk hc0_0
 clear hr0_0 hc0_0
 have HB := Q0.mk (Below.refl w.heap.size w)
 have H : (if a1 < (l0_0.length : Int) then (if 0 ≤ a1 then (some (rd l0_0 a1)) else (none)) else (some 0)) = some r := h
 clear h
 by_cases c3 : a1 < (l0_0.length : Int)
 ·rw [if_pos c3] at H
  have c3b0 : decide (a1 < (l0_0.length : Int)) = true := decide_eq_true c3
  clear c3
  by_cases c4 : 0 ≤ a1
  ·rw [if_pos c4] at H
   have c4b0 : decide (0 ≤ a1) = true := decide_eq_true c4
   clear c4
   obtain rfl := Option.some.inj H
   go_enter Tryd.func80, Tryd.ntmps80
   go_wp2_with (first | ((with_reducible refine gD (N := 2) rfl ?_); refine xE ?hg (N := 2) ?hd (cs := #[.slice A0_0 l0_0.length c0_0]) (t := 29) ?hr ?_; (case hd => rfl); (case hg => rfl); (case hr => first | (go_simp; done) | (go_simp; rfl)); intro gb363 hg w5 hbox hb; have q_ := zm (w := w) hb (by repeat (first | (with_reducible first | exact HB.out | apply bA | apply bN | apply b1_) | exact HB.out)); replace HB := Q0.mk (bP q_ hb); have BK363 := Q0.mk (hbox); have GW363 := Q0.mk ((by rw [hg]; exact (bZ q_) : w.heap.size ≤ gb363)); have GE363 := GW363; clear q_; clear hb hbox hg; have hcz6_0 : w5.cell? ⟨gb363, 0, none⟩ = some (.slice A0_0 l0_0.length c0_0) := (kC BK363.out 0).trans rfl; have hfz6_0 := kF BK363.out 0; have p364 : 0 ≤ (a1 : Int) := of_decide_eq_true (by first | (with_reducible assumption) | assumption); have q364 : a1 < (l0_0.length : Int) := of_decide_eq_true (by first | (with_reducible assumption) | assumption); obtain ⟨ad364, e364, hx364_0⟩ := Kd.zk HR0_0.out a1 p364 q364; cases e364; replace hx364_0 := (HB.out.cell (World.block_lt_of_cell? w _ hx364_0)).trans hx364_0; replace p364 := eq_true p364; replace q364 := eq_true q364))
   go_ret
   exact ⟨by first | rfl | (simp [eN, eS] <;> rfl) | (simp [*, eN, eS] <;> rfl), by repeat (first | (with_reducible first | exact HB.out | apply bA | apply bN | apply b1_ | refine bS ?_ GE363.out) | exact HB.out)⟩
  ·rw [if_neg c4] at H
   exact absurd H (by simp)
 ·rw [if_neg c3] at H
  have c3b0 : decide (a1 < (l0_0.length : Int)) = false := decide_eq_false c3
  clear c3
  obtain rfl := Option.some.inj H
  go_enter Tryd.func80, Tryd.ntmps80
  go_wp2_with (first | ((with_reducible refine gD (N := 2) rfl ?_); refine xE ?hg (N := 2) ?hd (cs := #[.slice A0_0 l0_0.length c0_0]) (t := 29) ?hr ?_; (case hd => rfl); (case hg => rfl); (case hr => first | (go_simp; done) | (go_simp; rfl)); intro gb363 hg w7 hbox hb; have q_ := zm (w := w) hb (by repeat (first | (with_reducible first | exact HB.out | apply bA | apply bN | apply b1_) | exact HB.out)); replace HB := Q0.mk (bP q_ hb); have BK363 := Q0.mk (hbox); have GW363 := Q0.mk ((by rw [hg]; exact (bZ q_) : w.heap.size ≤ gb363)); have GE363 := GW363; clear q_; clear hb hbox hg; have hcz8_0 : w7.cell? ⟨gb363, 0, none⟩ = some (.slice A0_0 l0_0.length c0_0) := (kC BK363.out 0).trans rfl; have hfz8_0 := kF BK363.out 0))
  go_ret
  exact ⟨by first | rfl | (simp [eN, eS] <;> rfl) | (simp [*, eN, eS] <;> rfl), by repeat (first | (with_reducible first | exact HB.out | apply bA | apply bN | apply b1_ | refine bS ?_ GE363.out) | exact HB.out)⟩
end Go.Proofs.YtgkdealidnidiaaDoor.Na
namespace Go.Proofs.YtgkdealidnidiaaDoor.Na
open Go.RowKit Go.Proofs.YtgkdealidnidiaaDoorW.PrintWords Go.Proofs.YtgkdealidnidiaaDoorW.PrintLast Go.Proofs.YtgkdealidnidiaaDoorW.PrintMore Go.Proofs.YtgkdealidnidiaaDoor.Dg
theorem w64 {x : Int} (h0 : -9223372036854775808 ≤ x) (h1 : x < 9223372036854775808) : wrap64 x = x := by unfold wrap64; omega
theorem u64w {x : Int} (h0 : 0 ≤ x) (h1 : x < 18446744073709551616) : IntKind.u64.wrap x = x := by rw [IntKind.wrap_u64]; omega
abbrev BW : Nat := 18446744073709551616
abbrev BD : Nat := 65536
theorem BWi : ((BW : Nat) : Int) = 18446744073709551616 := rfl
theorem BDi : ((BD : Nat) : Int) = 65536 := rfl
theorem ze0 (l : List Int) (i : Nat) : rd l (i : Int) = l.getD i 0 := by unfold rd; rw [Int.toNat_natCast]
theorem snoc_cases (l : List Int) : l = [] ∨ ∃ m x, l = m ++ [x] := by
 rcases List.eq_nil_or_concat l with h | ⟨m, x, h⟩
 ·exact .inl h
 ·exact .inr ⟨m, x, by simpa using h⟩
theorem rd_snoc (m : List Int) (x : Int) : rd (m ++ [x]) (m.length : Int) = x := by
 rw [ze0]; simp [List.getD]
theorem getD_lt {l : List Int} {i : Nat} (h : i < l.length) : l.getD i 0 = l[i] := by simp [List.getD, List.getElem?_eq_getElem h]
theorem norm_ev : ∀ (n : Nat) (l : List Int), l.length = n → n ≤ 4611686018427387904 → Ev (fun k => nat_norm.l0 k l) (strip l)
 | 0, l, hl, _ => by
  obtain rfl := List.length_eq_zero_iff.1 hl
  exact Ev.step (f := fun _ => some []) (fun k => by simp [nat_norm.l0]) (Ev.now _)
 | n + 1, l, hl, hn => by
  rcases snoc_cases l with rfl | ⟨m, x, rfl⟩
  ·simp at hl
  ·have hm : m.length = n := by simpa using hl
   have e1 : wrap64 (((m ++ [x]).length : Int) - 1) = (m.length : Int) := by rw [List.length_append, w64] <;> simp <;> omega
   have hlen : ((m ++ [x]).length : Int) = (m.length : Int) + 1 := by simp
   rw [strip_snoc]
   by_cases hx : x = 0
   ·rw [if_pos hx]
    refine Ev.step (f := fun k => nat_norm.l0 k m) (fun k => ?_) (norm_ev n m hm (by omega))
    rw [nat_norm.l0, e1, rd_snoc, if_pos (by omega), if_pos (by omega), if_pos (by omega), if_pos hx, if_pos (by omega), Int.toNat_natCast, List.take_append_of_le_length (Nat.le_refl _), List.take_length]
   ·rw [if_neg hx]
    refine Ev.step (f := fun k => some (m ++ [x])) (fun k => ?_) (Ev.now _)
    rw [nat_norm.l0, e1, rd_snoc, if_pos (by omega), if_pos (by omega), if_pos (by omega), if_neg hx]
theorem ze3 (l : List Int) (h : l.length ≤ 4611686018427387904) : Ev (fun k => nat_norm.f k l) (strip l) := norm_ev _ l rfl h
theorem trim_ev : ∀ (n : Nat) (l : List Int), l.length = n → n ≤ 4611686018427387904 → Ev (fun k => chaffref01_trim.l0 k l) (strip l)
 | 0, l, hl, _ => by
  obtain rfl := List.length_eq_zero_iff.1 hl
  exact Ev.step (f := fun _ => some []) (fun k => by simp [chaffref01_trim.l0]) (Ev.now _)
 | n + 1, l, hl, hn => by
  rcases snoc_cases l with rfl | ⟨m, x, rfl⟩
  ·simp at hl
  ·have hm : m.length = n := by simpa using hl
   have e1 : wrap64 (((m ++ [x]).length : Int) - 1) = (m.length : Int) := by rw [List.length_append, w64] <;> simp <;> omega
   have hlen : ((m ++ [x]).length : Int) = (m.length : Int) + 1 := by simp
   rw [strip_snoc]
   by_cases hx : x = 0
   ·rw [if_pos hx]
    refine Ev.step (f := fun k => chaffref01_trim.l0 k m) (fun k => ?_) (trim_ev n m hm (by omega))
    rw [chaffref01_trim.l0, e1, rd_snoc, if_pos (by omega), if_pos (by omega), if_pos (by omega), if_pos hx, if_pos (by omega), Int.toNat_natCast, List.take_append_of_le_length (Nat.le_refl _), List.take_length]
   ·rw [if_neg hx]
    refine Ev.step (f := fun k => some (m ++ [x])) (fun k => ?_) (Ev.now _)
    rw [chaffref01_trim.l0, e1, rd_snoc, if_pos (by omega), if_pos (by omega), if_pos (by omega), if_neg hx]
theorem za3 (l : List Int) (h : l.length ≤ 4611686018427387904) : Ev (fun k => chaffref01_trim.f k l) (strip l) := trim_ev _ l rfl h
def fitA (n : Nat) : List Int := if (wd BW n).length ≤ 64 then wd BW n else []
def zw2 (n : Nat) : Int := if (wd BW n).length ≤ 64 then 0 else 1
theorem fit_ev (l : List Int) (n : Nat) (hR : R BW l) (hV : V BW l = n) (hl : l.length ≤ 4611686018427387904) : Ev (fun k => nat_fit.f k l) (fitA n, zw2 n) := by
 unfold nat_fit.f
 refine Ev.bind (ze3 l hl) ?_
 have e := zf1 (by decide) hR hV
 refine Ev.congr (f := fun _ => some (fitA n, zw2 n)) (fun k => ?_) (Ev.now _)
 unfold fitA zw2
 rw [e]
 by_cases h : (wd BW n).length ≤ 64
 ·rw [if_neg (by omega), if_pos h, if_pos h]
 ·rw [if_pos (by omega), if_neg h, if_neg h]
theorem from_ev (l : List Int) (n : Nat) (hR : R BW l) (hV : V BW l = n) (hl : l.length ≤ 17592186044416) : Ev (fun k => nat_From.f k l) (fitA n, zw2 n) := by
 unfold nat_From.f
 have e : slices_Clone_uint64_uint64.f l = some l := by unfold slices_Clone_uint64_uint64.f; rw [if_pos hl]
 refine Ev.congr (f := fun k => (nat_fit.f k l).bind fun bt => some (bt.1, bt.2)) (fun k => by rw [e, Option.bind_some]) ?_
 exact Ev.bind (fit_ev l n hR hV (by omega)) (Ev.now _)
theorem of_ev (x : Nat) (h : x < BW) : Ev (fun k => nat_Of.f k x) (wd BW x) := by
 unfold nat_Of.f
 refine Ev.bind (ze3 [(x : Int)] (by simp)) ?_
 rw [zf1 (b := BW) (n := x) (by decide) (zy2 (by omega) (by omega)) (by simp [V])]
 exact Ev.now _
theorem word_some (l : List Int) (i : Nat) : nat_Nat_word.f l i = some (l.getD i 0) := by
 unfold nat_Nat_word.f
 by_cases h : (i : Int) < (l.length : Int)
 ·rw [if_pos h, if_pos (by omega), ze0]
 ·rw [if_neg h, List.getD_eq_getElem?_getD, List.getElem?_eq_none (by omega)]; rfl
theorem at_some (l : List Int) (i : Nat) : chaffref01_at.f l i = some (l.getD i 0) := by
 unfold chaffref01_at.f
 by_cases h : (i : Int) < (l.length : Int)
 ·rw [if_pos h, if_pos (by omega), ze0]
 ·rw [if_neg h, List.getD_eq_getElem?_getD, List.getElem?_eq_none (by omega)]; rfl
end Go.Proofs.YtgkdealidnidiaaDoor.Na
namespace Go.Proofs.YtgkdealidnidiaaDoor.Na
open Go.RowKit Go.Proofs.YtgkdealidnidiaaDoorW.PrintWords Go.Proofs.YtgkdealidnidiaaDoorW.PrintLast Go.Proofs.YtgkdealidnidiaaDoorW.PrintMore
attribute [local go_sem] zx0 zd1
theorem runs_ {P : Program} {ops : Array Oper} {Q : Exit → Act → World → Prop} {oi : Oper} {N : Option Tmp} {a : Act} {w : World} {v : Value} {K : Act → World → Prop} {f : FuncId} {xs : Array Operand} {ts : Array TypeId} (args : Array Value)
  (hw : Region.wanted oi (yielded ops a.tmps) = true) (hN : oi.dst = N) (hop : oi.op = .call { callee := .value (.func f), args := xs, argTypes := ts }) (hargs : xs.map a.eval = args) (hrun : (callFunc f args).run P w = .ok (.value v) w)
  (h : K (a.put N v) w) : if Region.wanted oi (yielded ops a.tmps) = true then Oper.wp P oi a w K Q else K (a.put N undef) w := by
 refine value_ hw hN ?_ h
 unfold execOp
 simp [hop, resolve, Deferred.ofValue, invoke, Act.eval, hargs, hrun]
def bits_Add64.f (a0 : Int) (a1 : Int) (a2 : Int) : Option (Int × Int) := if 0 ≤ a0 ∧ 0 ≤ a1 ∧ 0 ≤ a2 ∧ a2 ≤ 1 then some ((a0 + a1 + a2) % 18446744073709551616, (a0 + a1 + a2) / 18446744073709551616) else none
theorem bits_Add64.run (a0 a1 a2 r1 r2 : Int) (h : bits_Add64.f a0 a1 a2 = some (r1, r2)) (w : World) :
  (callFunc 79 #[.int .u64 a0, .int .u64 a1, .int .u64 a2]).run Tryd.prog w = .ok (.value (.tuple #[.int .u64 r1, .int .u64 r2])) w := by
 unfold bits_Add64.f at h
 split at h
 ·rename_i hc
  simp only [Option.some.injEq, Prod.mk.injEq] at h
  obtain ⟨rfl, rfl⟩ := h
  rw [run_callFunc_extern Tryd.func79 (by kernel_rfl) (by kernel_rfl) (by kernel_rfl) (e := add64Entry) (by kernel_rfl), run_add64 a0 a1 a2 hc.1 hc.2.1 hc.2.2.1 hc.2.2.2]
  rfl
 ·exact absurd h (by simp)
def nat_Nat_Add.l0 : Nat → Int → List Int → Int → Int → Int → List Int → List Int → Option (List Int × Int)
 | 0, _, _, _, _, _, _, _ => none
 | k + 1, x6, x7, x8, x20, x21, x366000, x367000 => if x21 < x20 then ((nat_Nat_word.f x366000 x21).bind fun t371 => ((nat_Nat_word.f x367000 x21).bind fun t372 => ((bits_Add64.f t371 t372 x8).bind fun bt373 => (if 0 ≤ x21 then (if x21 < (x7.length : Int) then (nat_Nat_Add.l0 k x6 (x7.set (x21 : Int).toNat bt373.1) bt373.2 x20 (wrap64 (x21 + 1)) x366000 x367000) else (none)) else (none))))) else (if 0 ≤ x6 then (if x6 < (x7.length : Int) then ((nat_fit.f k (x7.set (x6 : Int).toNat x8)).bind fun bt377 => (some (bt377.1, bt377.2))) else (none)) else (none))
def nat_Nat_Add.f (k : Nat) (l0_0 : List Int) (l1_0 : List Int) : Option (List Int × Int) := if 0 ≤ (wrap64 ((mx (l0_0.length : Int) (l1_0.length : Int)) + 1)) then (if (wrap64 ((mx (l0_0.length : Int) (l1_0.length : Int)) + 1) : Int).toNat ≤ 35184372088832 then (nat_Nat_Add.l0 k (mx (l0_0.length : Int) (l1_0.length : Int)) (List.replicate (wrap64 ((mx (l0_0.length : Int) (l1_0.length : Int)) + 1) : Int).toNat 0) 0 (mx (l0_0.length : Int) (l1_0.length : Int)) 0 l0_0 l1_0) else (none)) else (none)
def nat_Nat_Add.T7 : Bool × List (List Nat × List Nat) := (true, [([], []), ([], []), ([], []), ([], []), ([2, 3], [2, 3]), ([], []), ([], []), ([5, 6, 4], [5, 6]), ([], []), ([4, 7, 8, 7], [4, 7, 8]), ([9], [9]), ([10], [10]), ([10], [10]), ([0, 1, 0, 1, 2, 3, 4, 5, 6, 7, 8, 9, 10, 11], [0, 1]), ([13, 11, 9, 0, 1, 2, 3, 4, 5, 6, 7, 8, 9, 10, 11], [11, 13]), ([12, 14, 0, 1, 2, 3, 4, 5, 6, 7, 8, 9, 10, 11, 12, 13, 14], [8, 12])])
def nat_Nat_Add.B7 : List Nat := [0, 0, 0, 0, 12, 0, 0, 124, 0, 508, 1020, 2044, 2044, 4095, 12287, 32767]
theorem nat_Nat_Add.tab7 : zo2 .any (opsOf Tryd.f32 7) = nat_Nat_Add.T7 := by kernel_rfl
theorem nat_Nat_Add.bits7 : zf2 nat_Nat_Add.T7.2 nat_Nat_Add.B7 = true := by kernel_rfl
theorem nat_Nat_Add.calls (k : Nat) (A0_0 : Option Addr) (c0_0 : Nat) (l0_0 : List Int) (A1_0 : Option Addr) (c1_0 : Nat) (l1_0 : List Int) (r1 : List Int) (r2 : Int) (w : World) (hr0_0 : Kd.C (Kd.int .u64) w A0_0 l0_0.length l0_0) (hc0_0 : l0_0.length ≤ c0_0) (hr1_0 : Kd.C (Kd.int .u64) w A1_0 l1_0.length l1_0) (hc1_0 : l1_0.length ≤ c1_0) (h : nat_Nat_Add.f k l0_0 l1_0 = some (r1, r2)) :
  Calls Tryd.prog 32 #[.agg #[.slice A0_0 l0_0.length c0_0], .agg #[.slice A1_0 l1_0.length c1_0]] w fun e w' => ∃ v0_ : Value, e = .returned (.tuple #[.agg #[v0_], .int .i64 r2]) ∧ Kd.V (Kd.int .u64) 40 w' w.heap.size (fun k_ => (w.heap.size ≤ k_)) v0_ r1 ∧ Below w.heap.size w w' := by
 have hu29 := Tryd.underlying29
 have HR0_0 := Q0.mk hr0_0
 have HC0_0 := Q0.mk hc0_0
 clear hr0_0 hc0_0
 have HR1_0 := Q0.mk hr1_0
 have HC1_0 := Q0.mk hc1_0
 clear hr1_0 hc1_0
 have HB := Q0.mk (Below.refl w.heap.size w)
 have H : (if 0 ≤ (wrap64 ((mx (l0_0.length : Int) (l1_0.length : Int)) + 1)) then (if (wrap64 ((mx (l0_0.length : Int) (l1_0.length : Int)) + 1) : Int).toNat ≤ 35184372088832 then (nat_Nat_Add.l0 k (mx (l0_0.length : Int) (l1_0.length : Int)) (List.replicate (wrap64 ((mx (l0_0.length : Int) (l1_0.length : Int)) + 1) : Int).toNat 0) 0 (mx (l0_0.length : Int) (l1_0.length : Int)) 0 l0_0 l1_0) else (none)) else (none)) = some (r1, r2) := h
 clear h
 obtain ⟨ji3, hji3⟩ : ∃ j_ : Int, (mx (l0_0.length : Int) (l1_0.length : Int)) = j_ := ⟨_, rfl⟩
 replace H : (if 0 ≤ (wrap64 ((ji3) + 1)) then (if (wrap64 ((ji3) + 1) : Int).toNat ≤ 35184372088832 then (nat_Nat_Add.l0 k ji3 (List.replicate (wrap64 ((ji3) + 1) : Int).toNat 0) 0 ji3 0 l0_0 l1_0) else (none)) else (none)) = some (r1, r2) := by first | (rw [hji3] at H; exact H) | (simp only [hji3] at H ⊢; exact H)
 (try (have hji3l : 0 ≤ ji3 := by (rw [← hji3]; unfold mx; (repeat' split) <;> omega)))
 (try (have hji3m : 0 ≤ ji3 := by omega))
 have hji3_ : (if (l0_0.length : Int) < (l1_0.length : Int) then (l1_0.length : Int) else (l0_0.length : Int)) = ji3 := hji3
 have hji3n : (if l0_0.length < l1_0.length then (l1_0.length : Int) else (l0_0.length : Int)) = ji3 := by
  rw [← hji3_]
  by_cases hq : l0_0.length < l1_0.length
  ·rw [if_pos hq, if_pos (by omega)]
  ·rw [if_neg hq, if_neg (by omega)]
 obtain ⟨ji4, hji4⟩ : ∃ j_ : Int, (wrap64 ((ji3) + 1)) = j_ := ⟨_, rfl⟩
 replace H : (if 0 ≤ (ji4) then (if (ji4 : Int).toNat ≤ 35184372088832 then (nat_Nat_Add.l0 k ji3 (List.replicate (ji4 : Int).toNat 0) 0 ji3 0 l0_0 l1_0) else (none)) else (none)) = some (r1, r2) := by first | (rw [hji4] at H; exact H) | (simp only [hji4] at H ⊢; exact H)
 have hji4w : (IntKind.i64.wrap ((ji3) + 1)) = ji4 := (iw _).trans hji4
 by_cases c5 : 0 ≤ (ji4)
 ·rw [if_pos c5] at H
  have c5b0 := eq_true c5
  have c5b1 : decide (0 ≤ (ji4)) = true := decide_eq_true c5
  clear c5
  by_cases c6 : (ji4 : Int).toNat ≤ 35184372088832
  ·rw [if_pos c6] at H
   have c6b0 := eq_true c6
   have c6b1 : decide ((ji4 : Int).toNat ≤ 35184372088832) = true := decide_eq_true c6
   clear c6
   obtain ⟨y368, hy368⟩ : ∃ y_ : List Int, y_ = (List.replicate (ji4 : Int).toNat 0) := ⟨_, rfl⟩
   rw [← hy368] at H
   have Ny368 := Q0.mk hy368
   clear hy368
   have H' := Q0.mk H
   clear H
   go_enter Tryd.func32, Tryd.ntmps32
   go_wp2_with (first | ((with_reducible refine gD (N := 2) rfl ?_); refine xE ?hg (N := 2) ?hd (cs := #[.slice A0_0 l0_0.length c0_0]) (t := 29) ?hr ?_; (case hd => rfl); (case hg => rfl); (case hr => first | (go_simp; done) | (go_simp; rfl)); intro gb365 hg w7 hbox hb; have q_ := zm (w := w) hb (by repeat (first | (with_reducible first | exact HB.out | apply bA | apply bN | apply b1_) | exact HB.out)); replace HB := Q0.mk (bP q_ hb); have BK365 := Q0.mk (hbox); have GW365 := Q0.mk ((by rw [hg]; exact (bZ q_) : w.heap.size ≤ gb365)); have GE365 := GW365; clear q_; clear hb hbox hg) | ((with_reducible refine gD (N := 3) rfl ?_); refine xE ?hg (N := 3) ?hd (cs := #[.slice A1_0 l1_0.length c1_0]) (t := 29) ?hr ?_; (case hd => rfl); (case hg => rfl); (case hr => first | (go_simp; done) | (go_simp; rfl)); intro gb366 hg w8 hbox hb; have q_ := zm (w := w) hb (by repeat (first | (with_reducible first | exact HB.out | apply bA | apply bN | apply b1_ | refine bS ?_ GE365.out) | exact HB.out)); replace HB := Q0.mk (bP q_ hb); have BK366 := Q0.mk (hbox); have GW366 := Q0.mk ((by rw [hg]; exact (bZ q_) : w.heap.size ≤ gb366)); have GE366 := GW366; have NB365_366 := Q0.mk ((by rw [hg]; exact Nat.ne_of_lt (zj0 (g := gb365) (o := .cells #[.slice A0_0 l0_0.length c0_0] 29 (0, 0)) (by (with_reducible repeat (first | refine kN ?_ _ | refine kD ?_ | refine kA ?_ _)); exact BK365.out)) : gb365 ≠ gb366)); replace BK365 := Q0.mk (kB (g := gb365) (o := .cells #[.slice A0_0 l0_0.length c0_0] 29 (0, 0)) (by (with_reducible repeat (first | refine kN ?_ _ | refine kD ?_ | refine kA ?_ _)); exact BK365.out) hb); have NB366_365 := Q0.mk NB365_366.out.symm; clear q_; clear hb hbox hg) | ((with_reducible refine gD (N := 4) rfl ?_); refine xE ?hg (N := 4) ?hd (cs := #[.slice none 0 0]) (t := 29) ?hr ?_; (case hd => rfl); (case hg => rfl); (case hr => first | (go_simp; done) | (go_simp; rfl)); intro gb367 hg w9 hbox hb; have q_ := zm (w := w) hb (by repeat (first | (with_reducible first | exact HB.out | apply bA | apply bN | apply b1_ | refine bS ?_ GE365.out | refine bS ?_ GE366.out) | exact HB.out)); replace HB := Q0.mk (bP q_ hb); have BK367 := Q0.mk (hbox); have GW367 := Q0.mk ((by rw [hg]; exact (bZ q_) : w.heap.size ≤ gb367)); have GE367 := GW367; have NB365_367 := Q0.mk ((by rw [hg]; exact Nat.ne_of_lt (zj0 (g := gb365) (o := .cells #[.slice A0_0 l0_0.length c0_0] 29 (0, 0)) (by (with_reducible repeat (first | refine kN ?_ _ | refine kD ?_ | refine kA ?_ _)); exact BK365.out)) : gb365 ≠ gb367)); replace BK365 := Q0.mk (kB (g := gb365) (o := .cells #[.slice A0_0 l0_0.length c0_0] 29 (0, 0)) (by (with_reducible repeat (first | refine kN ?_ _ | refine kD ?_ | refine kA ?_ _)); exact BK365.out) hb); have NB367_365 := Q0.mk NB365_367.out.symm; have NB366_367 := Q0.mk ((by rw [hg]; exact Nat.ne_of_lt (zj0 (g := gb366) (o := .cells #[.slice A1_0 l1_0.length c1_0] 29 (0, 0)) (by (with_reducible repeat (first | refine kN ?_ _ | refine kD ?_ | refine kA ?_ _)); exact BK366.out)) : gb366 ≠ gb367)); replace BK366 := Q0.mk (kB (g := gb366) (o := .cells #[.slice A1_0 l1_0.length c1_0] 29 (0, 0)) (by (with_reducible repeat (first | refine kN ?_ _ | refine kD ?_ | refine kA ?_ _)); exact BK366.out) hb); have NB367_366 := Q0.mk NB366_367.out.symm; clear q_; clear hb hbox hg; have hnb10 := NB365_366.out; have hnc10 := NB366_365.out; have hnb11 := NB365_367.out; have hnc11 := NB367_365.out; have hcz12_0 : w9.cell? ⟨gb365, 0, none⟩ = some (.slice A0_0 l0_0.length c0_0) := (kC BK365.out 0).trans rfl; have hfz12_0 := kF BK365.out 0; have hnb13 := NB366_367.out; have hnc13 := NB367_366.out; have hcz14_0 : w9.cell? ⟨gb366, 0, none⟩ = some (.slice A1_0 l1_0.length c1_0) := (kC BK366.out 0).trans rfl; have hfz14_0 := kF BK366.out 0) | ((with_reducible refine gD (N := 19) rfl ?_); refine Kd.zx2 (Kd.int .u64) _ 40 rfl (N := 19) rfl 22 _ _ rfl ji4 rfl rfl Tryd.underlying22 (.int .u64 0) 8 zg2 rfl (by decide) (by omega) 0 (ok := fun _ => True) (okp := fun _ => True) rfl (fun _ hk => hk) trivial (of_decide_eq_true (by first | (with_reducible assumption) | assumption)) (Nat.le_trans (Nat.mul_le_mul_right _ (of_decide_eq_true (by first | (with_reducible assumption) | assumption) : ji4.toNat ≤ 35184372088832)) (by omega)) (Below.refl _ _) (Nat.le_refl _) ?_; intro v369 w15 ho16 hb hg_ hnew_; clear hg_ hnew_; (first | rw [← Ny368.out] at ho16 | (simp only [Int.reduceToNat] at ho16; rw [← Ny368.out] at ho16)); have q_ := zm (w := w) hb (by repeat (first | (with_reducible first | exact HB.out | apply bA | apply bN | apply b1_ | refine bS ?_ GE365.out | refine bS ?_ GE366.out | refine bS ?_ GE367.out) | exact HB.out)); have HO370 := Q0.mk (Kd.zw0 (Kd.zs1 (M := fun k_ => (w.heap.size ≤ k_)) ho16 (bZ q_) (fun k_ h_ => h_)) (bZ q_)); replace BK365 := Q0.mk (kB (g := gb365) (o := .cells #[.slice A0_0 l0_0.length c0_0] 29 (0, 0)) (by (with_reducible repeat (first | refine kN ?_ _ | refine kD ?_ | refine kA ?_ _)); exact BK365.out) hb); replace BK366 := Q0.mk (kB (g := gb366) (o := .cells #[.slice A1_0 l1_0.length c1_0] 29 (0, 0)) (by (with_reducible repeat (first | refine kN ?_ _ | refine kD ?_ | refine kA ?_ _)); exact BK366.out) hb); replace BK367 := Q0.mk (kB (g := gb367) (o := .cells #[.slice none 0 0] 29 (0, 0)) (by (with_reducible repeat (first | refine kN ?_ _ | refine kD ?_ | refine kA ?_ _)); exact BK367.out) hb); replace HB := Q0.mk (bP q_ hb); clear q_; clear hb ho16))
   go_loopg [8, 21] k (fun kq v8 v21 w' => ∃ (x7_1 : List Int) (x8_1 : Int) (x21_1 : Int), v8 = .int .u64 x8_1 ∧ v21 = .int .i64 x21_1 ∧ Q0 (nat_Nat_Add.l0 kq ji3 x7_1 x8_1 ji3 x21_1 l0_0 l1_0 = some (r1, r2)) ∧ Q0 (kq ≤ k) ∧ Q0 (Kd.R (Kd.int .u64) 40 w' w.heap.size (fun k_ => (w.heap.size ≤ k_)) v369 x7_1) ∧ Q0 (w'.heap[gb365]? = some (.cells #[(.slice A0_0 l0_0.length c0_0)] 29 (0, 0))) ∧ Q0 (w'.heap[gb366]? = some (.cells #[(.slice A1_0 l1_0.length c1_0)] 29 (0, 0))) ∧ Q0 (w'.heap[gb367]? = some (.cells #[(.slice none 0 0)] 29 (0, 0))) ∧ Q0 (Below w.heap.size w w'))
   case atStart => exact ⟨(y368), (0), (0), (by first | rfl | (simp; done) | (simp [*]; done)), (by first | rfl | (simp; done) | (simp [*]; done)), H', ⟨Nat.le_refl _⟩, ⟨by (with_reducible repeat (first | apply Kd.RA_ | apply Kd.RN_ | apply Kd.RD_)); exact Kd.zb1 HO370.out (fun _ hk => hk.1)⟩, ⟨by (with_reducible repeat (first | refine kN ?_ _ | refine kD ?_ | refine kA ?_ _)); exact BK365.out⟩, ⟨by (with_reducible repeat (first | refine kN ?_ _ | refine kD ?_ | refine kA ?_ _)); exact BK366.out⟩, ⟨by (with_reducible repeat (first | refine kN ?_ _ | refine kD ?_ | refine kA ?_ _)); exact BK367.out⟩, ⟨by repeat (first | (with_reducible first | exact HB.out | apply bA | apply bN | apply b1_ | refine bS ?_ GE365.out | refine bS ?_ GE366.out | refine bS ?_ GE367.out) | exact HB.out)⟩⟩
   case round =>
    clear H'
    obtain ⟨x7_1, x8_1, x21_1, rfl, rfl, HA, HK1, HO_7, BK365, BK366, BK367, HB⟩ := hrel
    cases gk with
    | zero => exact absurd HA.out (by simp [nat_Nat_Add.l0])
    | succ k1 =>
     have H := HA.out
     clear HA
     simp only [nat_Nat_Add.l0] at H
     by_cases c17 : x21_1 < ji3
     ·rw [if_pos c17] at H
      have c17b0 : decide (x21_1 < ji3) = true := decide_eq_true c17
      clear c17
      replace H := Option.bind_eq_some_iff.mp H
      obtain ⟨t371, A180, H⟩ := H
      have A18 := Q0.mk A180
      clear A180
      replace H := Option.bind_eq_some_iff.mp H
      obtain ⟨t372, A190, H⟩ := H
      have A19 := Q0.mk A190
      clear A190
      replace H := Option.bind_eq_some_iff.mp H
      obtain ⟨⟨t373, t374⟩, A200, H⟩ := H
      have A20 := Q0.mk A200
      clear A200
      by_cases c21 : 0 ≤ x21_1
      ·rw [if_pos c21] at H
       have c21b0 : decide (0 ≤ x21_1) = true := decide_eq_true c21
       clear c21
       by_cases c22 : x21_1 < (x7_1.length : Int)
       ·rw [if_pos c22] at H
        have c22b0 : decide (x21_1 < (x7_1.length : Int)) = true := decide_eq_true c22
        clear c22
        obtain ⟨y375, hy375⟩ : ∃ y_ : List Int, y_ = (x7_1.set (x21_1 : Int).toNat t373) := ⟨_, rfl⟩
        rw [← hy375] at H
        have Ny375 := Q0.mk hy375
        clear hy375
        have H' := Q0.mk H
        clear H
        try go_wp2
        have n0_ := Q0.mk (Kd.RD_ HO_7.out)
        have n1_ := Q0.mk (kD BK365.out)
        have n2_ := Q0.mk (kD BK366.out)
        have n3_ := Q0.mk (kD BK367.out)
        have n4_ := Q0.mk (b1_ HB.out)
        clear HO_7
        clear BK365
        clear BK366
        clear BK367
        clear HB
        have HO_7 := n0_
        have BK365 := n1_
        have BK366 := n2_
        have BK367 := n3_
        have HB := n4_
        clear n0_ n1_ n2_ n3_ n4_
        refine zt0 (n := 16) (S := fun w' => w'.cell? ⟨gb365, 0, none⟩ = some (.slice A0_0 l0_0.length c0_0) ∧ w'.cell? ⟨gb366, 0, none⟩ = some (.slice A1_0 l1_0.length c1_0)) (ds := [14]) #[ff,ff,ff,ff,ff,ff,ff,ff,ff,ff,ff,ff,ff,ff,ff,ff] (by kernel_rfl) rfl rfl ⟨(kC BK365.out 0).trans rfl, (kC BK366.out 0).trans rfl⟩ (fun hHeld => ?_); refine z02 nat_Nat_Add.tab7 nat_Nat_Add.bits7 (fun HT_ HW_ => ?_)
        generalize wr.drew = w24 at HO_7 BK365 BK366 BK367 HB hHeld ⊢
        refine za 0 25 ?_ #[tt,ff,ff,ff,ff,ff,ff,ff,ff,ff,ff,ff,ff,ff,ff,ff] rfl rfl (zb HT_.out (by kernel_rfl)) (fun _ _ _ h => h) (Or.inl ⟨by rfl, ?_⟩) ?_ ?_ ?_
        rotate_left
        ·intro w'
         go_simp
         with_reducible rfl
        rotate_left
        ·simp only [Act.put, s2_, s0_, s1_, iw, jw]
         rfl
        refine za 1 26 ?_ #[tt,tt,ff,ff,ff,ff,ff,ff,ff,ff,ff,ff,ff,ff,ff,ff] rfl rfl (zb HT_.out (by kernel_rfl)) (fun _ _ _ h => h) (Or.inl ⟨by rfl, ?_⟩) ?_ ?_ ?_
        rotate_left
        ·intro w'
         go_simp
         with_reducible rfl
        rotate_left
        ·simp only [Act.put, s2_, s0_, s1_, iw, jw]
         rfl
        refine za 3 28 ?_ #[tt,tt,ff,tt,ff,ff,ff,ff,ff,ff,ff,ff,ff,ff,ff,ff] rfl rfl (zb HT_.out (by kernel_rfl)) (fun _ _ _ h => h) (Or.inl ⟨by rfl, ?_⟩) ?_ ?_ ?_
        rotate_left
        ·intro w'
         go_simp
         with_reducible rfl
        rotate_left
        ·simp only [Act.put, s2_, s0_, s1_, iw, jw]
         rfl
        refine za 6 31 ?_ #[tt,tt,ff,tt,ff,ff,tt,ff,ff,ff,ff,ff,ff,ff,ff,ff] rfl rfl (zb HT_.out (by kernel_rfl)) (fun _ _ _ h => h) (Or.inl ⟨by rfl, ?_⟩) ?_ ?_ ?_
        rotate_left
        ·intro w'
         go_simp
         with_reducible rfl
        rotate_left
        ·simp only [Act.put, s2_, s0_, s1_, iw, jw]
         rfl
        refine za 8 33 ?_ #[tt,tt,ff,tt,ff,ff,tt,ff,tt,ff,ff,ff,ff,ff,ff,ff] rfl rfl (zb HT_.out (by kernel_rfl)) (fun _ _ _ h => h) (Or.inl ⟨by rfl, ?_⟩) ?_ ?_ ?_
        rotate_left
        ·intro w'
         go_simp
         with_reducible rfl
        rotate_left
        ·simp only [Act.put, s2_, s0_, s1_, iw, jw]
         rfl
        refine z10 2 27 ?_ #[tt,tt,tt,tt,ff,ff,tt,ff,tt,ff,ff,ff,ff,ff,ff,ff] rfl rfl (zp0 HT_.out HW_.out (by kernel_rfl)) (fun _ _ _ h => h) (Or.inl ⟨by rfl, ?_⟩) hHeld ?_ ?_ ?_
        rotate_left
        ·rintro w' ⟨s0, s1⟩
         go_simp
         with_reducible rfl
        rotate_left
        ·simp only [Act.put, s2_, s0_, s1_, iw, jw]
         rfl
        refine z10 5 30 ?_ #[tt,tt,tt,tt,ff,tt,tt,ff,tt,ff,ff,ff,ff,ff,ff,ff] rfl rfl (zp0 HT_.out HW_.out (by kernel_rfl)) (fun _ _ _ h => h) (Or.inl ⟨by rfl, ?_⟩) hHeld ?_ ?_ ?_
        rotate_left
        ·rintro w' ⟨s0, s1⟩
         go_simp
         with_reducible rfl
        rotate_left
        ·simp only [Act.put, s2_, s0_, s1_, iw, jw]
         rfl
        refine zh0 (i := 4) (N := some 29) #[tt,tt,tt,tt,tt,tt,tt,ff,tt,ff,ff,ff,ff,ff,ff,ff] rfl rfl (zb2 HT_.out (by kernel_rfl)) (by decide) (fun K hK => ?_)
        refine z00 Tryd.func80 (by kernel_rfl) rfl #[.agg #[.slice A0_0 l0_0.length c0_0], .int .i64 x21_1] (by rfl) rfl rfl (by (try simp only [List.map_toArray, List.map_cons, List.map_nil]); first | done | rfl | (simp only [List.length_drop, List.length_take]; rfl)) ?_
        with_reducible refine (nat_Nat_word.calls _ _ l0_0 x21_1 t371 _ ?side1 ?side2 A18.out).mono ?_
        (case side1 => repeat (first | exact (Kd.zu HR0_0.out HB.out) | (with_reducible refine Kd.ze ?_ _) | (with_reducible refine Kd.zf ?_ _) | (with_reducible refine Kd.zi ?_)))
        (case side2 => exact HC0_0.out)
        rintro e w25 ⟨rfl, hb⟩
        refine ⟨_, rfl, ?_⟩
        have n0_ := Q0.mk (Kd.zy (by (with_reducible repeat (first | apply Kd.RA_ | apply Kd.RN_ | apply Kd.RD_)); exact HO_7.out) hb)
        have n1_ := Q0.mk (kB (g := gb365) (o := .cells #[.slice A0_0 l0_0.length c0_0] 29 (0, 0)) (by (with_reducible repeat (first | refine kN ?_ _ | refine kD ?_ | refine kA ?_ _)); exact BK365.out) hb)
        have n2_ := Q0.mk (kB (g := gb366) (o := .cells #[.slice A1_0 l1_0.length c1_0] 29 (0, 0)) (by (with_reducible repeat (first | refine kN ?_ _ | refine kD ?_ | refine kA ?_ _)); exact BK366.out) hb)
        have n3_ := Q0.mk (kB (g := gb367) (o := .cells #[.slice none 0 0] 29 (0, 0)) (by (with_reducible repeat (first | refine kN ?_ _ | refine kD ?_ | refine kA ?_ _)); exact BK367.out) hb)
        have n4_ := Q0.mk (bP (by repeat (first | (with_reducible first | exact HB.out | apply bA | apply bN | apply b1_ | refine bS ?_ GE365.out | refine bS ?_ GE366.out | refine bS ?_ GE367.out) | exact HB.out)) hb)
        clear HO_7
        clear BK365
        clear BK366
        clear BK367
        clear HB
        have HO_7 := n0_
        have BK365 := n1_
        have BK366 := n2_
        have BK367 := n3_
        have HB := n4_
        clear n0_ n1_ n2_ n3_ n4_
        (try clear hb)
        (try clear hb2)
        (try clear hk)
        (try clear hi)
        refine hK.out _ _ ⟨(kC BK365.out 0).trans rfl, (kC BK366.out 0).trans rfl⟩ (fun hHeld => ?_)
        clear hK K
        refine zg (a' := ?_) ?_ ?_
        rotate_left
        ·show Act.put _ (some 29) _ = _
         simp only [Act.put, s2_, s0_, s1_, iw, jw]
         rfl
        refine zh0 (i := 7) (N := some 32) #[tt,tt,tt,tt,tt,tt,tt,tt,tt,ff,ff,ff,ff,ff,ff,ff] rfl rfl (zb2 HT_.out (by kernel_rfl)) (by decide) (fun K hK => ?_)
        refine z00 Tryd.func80 (by kernel_rfl) rfl #[.agg #[.slice A1_0 l1_0.length c1_0], .int .i64 x21_1] (by rfl) rfl rfl (by (try simp only [List.map_toArray, List.map_cons, List.map_nil]); first | done | rfl | (simp only [List.length_drop, List.length_take]; rfl)) ?_
        with_reducible refine (nat_Nat_word.calls _ _ l1_0 x21_1 t372 _ ?side1 ?side2 A19.out).mono ?_
        (case side1 => repeat (first | exact (Kd.zu HR1_0.out HB.out) | (with_reducible refine Kd.ze ?_ _) | (with_reducible refine Kd.zf ?_ _) | (with_reducible refine Kd.zi ?_)))
        (case side2 => exact HC1_0.out)
        rintro e w26 ⟨rfl, hb⟩
        refine ⟨_, rfl, ?_⟩
        have n0_ := Q0.mk (Kd.zy (by (with_reducible repeat (first | apply Kd.RA_ | apply Kd.RN_ | apply Kd.RD_)); exact HO_7.out) hb)
        have n1_ := Q0.mk (kB (g := gb365) (o := .cells #[.slice A0_0 l0_0.length c0_0] 29 (0, 0)) (by (with_reducible repeat (first | refine kN ?_ _ | refine kD ?_ | refine kA ?_ _)); exact BK365.out) hb)
        have n2_ := Q0.mk (kB (g := gb366) (o := .cells #[.slice A1_0 l1_0.length c1_0] 29 (0, 0)) (by (with_reducible repeat (first | refine kN ?_ _ | refine kD ?_ | refine kA ?_ _)); exact BK366.out) hb)
        have n3_ := Q0.mk (kB (g := gb367) (o := .cells #[.slice none 0 0] 29 (0, 0)) (by (with_reducible repeat (first | refine kN ?_ _ | refine kD ?_ | refine kA ?_ _)); exact BK367.out) hb)
        have n4_ := Q0.mk (bP (by repeat (first | (with_reducible first | exact HB.out | apply bA | apply bN | apply b1_ | refine bS ?_ GE365.out | refine bS ?_ GE366.out | refine bS ?_ GE367.out) | exact HB.out)) hb)
        clear HO_7
        clear BK365
        clear BK366
        clear BK367
        clear HB
        have HO_7 := n0_
        have BK365 := n1_
        have BK366 := n2_
        have BK367 := n3_
        have HB := n4_
        clear n0_ n1_ n2_ n3_ n4_
        (try clear hb)
        (try clear hb2)
        (try clear hk)
        (try clear hi)
        refine hK.out _ _ ⟨(kC BK365.out 0).trans rfl, (kC BK366.out 0).trans rfl⟩ (fun hHeld => ?_)
        clear hK K
        refine zg (a' := ?_) ?_ ?_
        rotate_left
        ·show Act.put _ (some 32) _ = _
         simp only [Act.put, s2_, s0_, s1_, iw, jw]
         rfl
        refine zh0 (i := 9) (N := some 34) #[tt,tt,tt,tt,tt,tt,tt,tt,tt,tt,ff,ff,ff,ff,ff,ff] rfl rfl (zb2 HT_.out (by kernel_rfl)) (by decide) (fun K hK => ?_)
        refine runs_ #[.int .u64 t371, .int .u64 t372, .int .u64 x8_1] (by rfl) rfl rfl (by (try simp only [List.map_toArray, List.map_cons, List.map_nil]); first | done | rfl | (simp only [List.length_drop, List.length_take]; rfl)) (bits_Add64.run t371 t372 x8_1 t373 t374 A20.out _) ?_
        have p23 : 0 ≤ (x21_1 : Int) := of_decide_eq_true (by first | (with_reducible assumption) | assumption)
        have q23 : (x21_1 : Int) < ((x7_1.length : Int) : Int) := of_decide_eq_true (by first | (with_reducible assumption) | assumption)
        obtain ⟨go23, co23, eo23, gb23, gl23, cl23, HG23⟩ := Kd.zi2 HO_7.out (by omega)
        (first | cases eo23 | (injection eo23 with ea_ en_ ec_; (first | subst ea_ | (injection ea_ with ea_; subst ea_)); subst ec_; clear en_))
        have GB23 := Q0.mk gb23
        have GG23 := Q0.mk HG23
        clear gb23 gl23 HG23
        obtain ⟨hx23_0, hf23_0⟩ := Kd.z81 0 HO_7.out (x21_1 : Int) p23 q23
        replace p23 := eq_true p23
        replace q23 := eq_true q23
        have HP27 := Kd.R_putn HO_7.out (x21_1 : Int) t373
        rw [← Ny375.out] at HP27
        have HQ27 := Q0.mk HP27
        clear HP27
        refine hK.out _ _ ⟨(kC BK365.out 0).trans rfl, (kC BK366.out 0).trans rfl⟩ (fun hHeld => ?_)
        clear hK K
        refine zg (a' := ?_) ?_ ?_
        rotate_left
        ·show Act.put _ (some 34) _ = _
         simp only [Act.put, s2_, s0_, s1_, iw, jw]
         rfl
        refine za 10 24 ?_ #[tt,tt,tt,tt,tt,tt,tt,tt,tt,tt,tt,ff,ff,ff,ff,ff] rfl rfl (zb HT_.out (by kernel_rfl)) (fun _ _ _ h => h) (Or.inl ⟨by rfl, ?_⟩) ?_ ?_ ?_
        rotate_left
        ·intro w'
         go_simp
         with_reducible rfl
        rotate_left
        ·simp only [Act.put, s2_, s0_, s1_, iw, jw]
         rfl
        refine za 11 35 ?_ #[tt,tt,tt,tt,tt,tt,tt,tt,tt,tt,tt,tt,ff,ff,ff,ff] rfl rfl (zb HT_.out (by kernel_rfl)) (fun _ _ _ h => h) (Or.inl ⟨by rfl, ?_⟩) ?_ ?_ ?_
        rotate_left
        ·intro w'
         go_simp
         with_reducible rfl
        rotate_left
        ·simp only [Act.put, s2_, s0_, s1_, iw, jw]
         rfl
        refine za 12 36 ?_ #[tt,tt,tt,tt,tt,tt,tt,tt,tt,tt,tt,tt,tt,ff,ff,ff] rfl rfl (zb HT_.out (by kernel_rfl)) (fun _ _ _ h => h) (Or.inl ⟨by rfl, ?_⟩) ?_ ?_ ?_
        rotate_left
        ·intro w'
         go_simp
         with_reducible rfl
        rotate_left
        ·simp only [Act.put, s2_, s0_, s1_, iw, jw]
         rfl
        refine za 13 37 ?_ #[tt,tt,tt,tt,tt,tt,tt,tt,tt,tt,tt,tt,tt,tt,ff,ff] rfl rfl (zb HT_.out (by kernel_rfl)) (fun _ _ _ h => h) (Or.inl ⟨by rfl, ?_⟩) ?_ ?_ ?_
        rotate_left
        ·intro w'
         go_simp
         with_reducible rfl
        rotate_left
        ·simp only [Act.put, s2_, s0_, s1_, iw, jw]
         rfl
        refine zk3 (i := 14) (N := none) #[tt,tt,tt,tt,tt,tt,tt,tt,tt,tt,tt,tt,tt,tt,tt,ff] rfl rfl (zb2 HT_.out (by kernel_rfl)) (by decide) (fun K hK => ?_)
        refine zw1 (w1 := ?_) (by rfl) rfl ?_ ?_
        rotate_left
        ·go_simp
         rfl
        refine hK.out _ _ ?_
        clear hK K
        refine za 15 8 ?_ #[tt,tt,tt,tt,tt,tt,tt,tt,tt,tt,tt,tt,tt,tt,tt,tt] rfl rfl (zb HT_.out (by kernel_rfl)) (fun _ _ _ h => h) (Or.inl ⟨by rfl, ?_⟩) ?_ ?_ ?_
        rotate_left
        ·intro w'
         go_simp
         with_reducible rfl
        rotate_left
        ·simp only [Act.put, s2_, s0_, s1_, iw, jw]
         rfl
        refine zh1 (z03 HT_.out (by kernel_rfl)) ?_
        try go_wp2
        go_roundg k1
        case measure => have := HK1.out; omega
        case rel => exact ⟨(y375), (t374), (wrap64 (x21_1 + 1)), (by first | rfl | (simp; done) | (simp [*]; done)), (by first | rfl | (simp; done) | (simp [*]; done)), H', ⟨by have := HK1.out; omega⟩, ⟨by (with_reducible repeat (first | apply Kd.RA_ | apply Kd.RN_ | apply Kd.RD_)); exact HQ27.out⟩, ⟨by (with_reducible repeat (first | refine kN ?_ _ | refine kD ?_ | refine kA ?_ _)); refine zr0 ?_ (by have h_ := Kd.zp2 HO_7.out BK365.out (by decide); intro e_; exact h_ (by rw [e_]; rfl)) _; (with_reducible repeat (first | refine kN ?_ _ | refine kD ?_ | refine kA ?_ _)); exact BK365.out⟩, ⟨by (with_reducible repeat (first | refine kN ?_ _ | refine kD ?_ | refine kA ?_ _)); refine zr0 ?_ (by have h_ := Kd.zp2 HO_7.out BK366.out (by decide); intro e_; exact h_ (by rw [e_]; rfl)) _; (with_reducible repeat (first | refine kN ?_ _ | refine kD ?_ | refine kA ?_ _)); exact BK366.out⟩, ⟨by (with_reducible repeat (first | refine kN ?_ _ | refine kD ?_ | refine kA ?_ _)); refine zr0 ?_ (by have h_ := Kd.zp2 HO_7.out BK367.out (by decide); intro e_; exact h_ (by rw [e_]; rfl)) _; (with_reducible repeat (first | refine kN ?_ _ | refine kD ?_ | refine kA ?_ _)); exact BK367.out⟩, ⟨by repeat (first | (with_reducible first | exact HB.out | apply bA | apply bN | apply b1_ | refine bS ?_ GB23.out | refine bS ?_ GE365.out | refine bS ?_ GE366.out | refine bS ?_ GE367.out) | exact HB.out)⟩⟩
       ·rw [if_neg c22] at H
        exact absurd H (by simp)
      ·rw [if_neg c21] at H
       exact absurd H (by simp)
     ·rw [if_neg c17] at H
      have c17b0 : decide (x21_1 < ji3) = false := decide_eq_false c17
      clear c17
      by_cases c28 : 0 ≤ ji3
      ·rw [if_pos c28] at H
       have c28b0 : decide (0 ≤ ji3) = true := decide_eq_true c28
       clear c28
       by_cases c29 : ji3 < (x7_1.length : Int)
       ·rw [if_pos c29] at H
        have c29b0 : decide (ji3 < (x7_1.length : Int)) = true := decide_eq_true c29
        clear c29
        obtain ⟨y376, hy376⟩ : ∃ y_ : List Int, y_ = (x7_1.set (ji3 : Int).toNat x8_1) := ⟨_, rfl⟩
        rw [← hy376] at H
        have Ny376 := Q0.mk hy376
        clear hy376
        replace H := Option.bind_eq_some_iff.mp H
        obtain ⟨⟨t377, t380⟩, A310, H⟩ := H
        have A31 := Q0.mk A310
        clear A310
        simp only [Option.some.injEq, Prod.mk.injEq] at H
        obtain ⟨rfl, rfl⟩ := H
        have p30 : 0 ≤ (ji3 : Int) := of_decide_eq_true (by first | (with_reducible assumption) | assumption)
        have q30 : (ji3 : Int) < ((x7_1.length : Int) : Int) := of_decide_eq_true (by first | (with_reducible assumption) | assumption)
        obtain ⟨go30, co30, eo30, gb30, gl30, cl30, HG30⟩ := Kd.zi2 HO_7.out (by omega)
        (first | cases eo30 | (injection eo30 with ea_ en_ ec_; (first | subst ea_ | (injection ea_ with ea_; subst ea_)); subst ec_; clear en_))
        have GB30 := Q0.mk gb30
        have GG30 := Q0.mk HG30
        clear gb30 gl30 HG30
        obtain ⟨hx30_0, hf30_0⟩ := Kd.z81 0 HO_7.out (ji3 : Int) p30 q30
        replace p30 := eq_true p30
        replace q30 := eq_true q30
        have HP32 := Kd.zo1 HO_7.out (ji3 : Int) x8_1
        go_wp2_with (first | ((with_reducible refine zq0 (t := 40) (p := 42) rfl ?_); refine zi0 (t := 40) (p := 42) (v := ?vo_w33) (w1 := (wr.setCell ⟨go30, (ji3 : Int).toNat, none⟩ (.int .u64 x8_1))) ?hg ?ho ?hn ?hr ?_; (case ho => rfl); (case hg => rfl); (case hn => rfl); (case hr => first | (go_simp; done) | (go_simp; rfl)); intro w33 hw; have hg : wr.grownBy w33 (some go30) := (by rw [hw]; exact HP32.2); have hp_ : Kd.R (Kd.int .u64) 40 w33 w.heap.size (fun k_ => (w.heap.size ≤ k_)) (.slice (some ⟨go30, 0, none⟩) x7_1.length co30) y376 := (by rw [hw, Ny376.out]; exact HP32.1); clear HP32; replace BK365 := Q0.mk (zv0 (g := gb365) (o := .cells #[.slice A0_0 l0_0.length c0_0] 29 (0, 0)) (by (with_reducible repeat (first | refine kN ?_ _ | refine kD ?_ | refine kA ?_ _)); exact BK365.out) hg (Kd.zp2 HO_7.out BK365.out (by decide))); replace BK366 := Q0.mk (zv0 (g := gb366) (o := .cells #[.slice A1_0 l1_0.length c1_0] 29 (0, 0)) (by (with_reducible repeat (first | refine kN ?_ _ | refine kD ?_ | refine kA ?_ _)); exact BK366.out) hg (Kd.zp2 HO_7.out BK366.out (by decide))); replace BK367 := Q0.mk (zv0 (g := gb367) (o := .cells #[.slice none 0 0] 29 (0, 0)) (by (with_reducible repeat (first | refine kN ?_ _ | refine kD ?_ | refine kA ?_ _)); exact BK367.out) hg (Kd.zp2 HO_7.out BK367.out (by decide))); replace HO_7 := Q0.mk (hp_); replace HB := Q0.mk ((by rw [hw]; exact bS (HB.out) GB30.out : Below w.heap.size w w33)); clear hg hw hp_) | ((with_reducible refine gC (f := 64) rfl ?_); refine zx (some 44) rfl rfl Tryd.func64 (by kernel_rfl) rfl #[.slice (some ⟨go30, 0, none⟩) y376.length co30] rfl (by (try simp only [List.map_toArray, List.map_cons, List.map_nil]); first | done | (rw [show y376.length = x7_1.length from (Kd.zw HO_7.out).1.symm] <;> rfl) | rfl | (simp only [List.length_drop, List.length_take]; rfl)) ?_; (with_reducible refine (nat_fit.calls k1 (fun k_ => some k_ = (.slice (some ⟨go30, 0, none⟩) x7_1.length co30 : Value).ownBlock) _ _ y376 t377 t380 _ ?side1 A31.out).mono ?_); (case side1 => rw [show y376.length = x7_1.length from (Kd.zw HO_7.out).1.symm]; exact Kd.R_V (Kd.z11 rfl (Kd.RT_ (Kd.RT_ (Kd.RT_ (HO_7.out) BK365.out (by decide)) BK366.out (by decide)) BK367.out (by decide)))); rintro e w34 ⟨v378, rfl, ho0, hb⟩; refine ⟨_, rfl, ?_⟩; have q_ := zm (w := w) hb (by repeat (first | (with_reducible first | exact HB.out | apply bA | apply bN | apply b1_ | refine bS ?_ GE365.out | refine bS ?_ GE366.out | refine bS ?_ GE367.out) | exact HB.out)); have HO379 := Q0.mk (Kd.za0 (Kd.VM_ (ok' := fun k_ => (w.heap.size ≤ k_) ∧ k_ ≠ gb365 ∧ k_ ≠ gb366 ∧ k_ ≠ gb367) ho0 (fun k_ hk_ => ⟨Or.elim hk_ (fun hs_ => ((Kd.RT_ (Kd.RT_ (Kd.RT_ (HO_7.out) BK365.out (by decide)) BK366.out (by decide)) BK367.out (by decide)).1 k_ hs_.symm).1.1.1) (fun hn_ => (Nat.le_trans (bZ q_) hn_)), Or.elim hk_ (fun hs_ => ((Kd.RT_ (Kd.RT_ (Kd.RT_ (HO_7.out) BK365.out (by decide)) BK366.out (by decide)) BK367.out (by decide)).1 k_ hs_.symm).1.1.2) (fun hn_ => (Kd.zm0 (g := gb365) (o := .cells #[.slice A0_0 l0_0.length c0_0] 29 (0, 0)) (by (with_reducible repeat (first | refine kN ?_ _ | refine kD ?_ | refine kA ?_ _)); exact BK365.out) k_ hn_)), Or.elim hk_ (fun hs_ => ((Kd.RT_ (Kd.RT_ (Kd.RT_ (HO_7.out) BK365.out (by decide)) BK366.out (by decide)) BK367.out (by decide)).1 k_ hs_.symm).1.2) (fun hn_ => (Kd.zm0 (g := gb366) (o := .cells #[.slice A1_0 l1_0.length c1_0] 29 (0, 0)) (by (with_reducible repeat (first | refine kN ?_ _ | refine kD ?_ | refine kA ?_ _)); exact BK366.out) k_ hn_)), Or.elim hk_ (fun hs_ => ((Kd.RT_ (Kd.RT_ (Kd.RT_ (HO_7.out) BK365.out (by decide)) BK366.out (by decide)) BK367.out (by decide)).1 k_ hs_.symm).2) (fun hn_ => (Kd.zm0 (g := gb367) (o := .cells #[.slice none 0 0] 29 (0, 0)) (by (with_reducible repeat (first | refine kN ?_ _ | refine kD ?_ | refine kA ?_ _)); exact BK367.out) k_ hn_))⟩)) (bZ q_)); replace HO_7 := Q0.mk (Kd.zy (by (with_reducible repeat (first | apply Kd.RA_ | apply Kd.RN_ | apply Kd.RD_)); exact HO_7.out) hb); replace BK365 := Q0.mk (kB (g := gb365) (o := .cells #[.slice A0_0 l0_0.length c0_0] 29 (0, 0)) (by (with_reducible repeat (first | refine kN ?_ _ | refine kD ?_ | refine kA ?_ _)); exact BK365.out) hb); replace BK366 := Q0.mk (kB (g := gb366) (o := .cells #[.slice A1_0 l1_0.length c1_0] 29 (0, 0)) (by (with_reducible repeat (first | refine kN ?_ _ | refine kD ?_ | refine kA ?_ _)); exact BK366.out) hb); replace BK367 := Q0.mk (kB (g := gb367) (o := .cells #[.slice none 0 0] 29 (0, 0)) (by (with_reducible repeat (first | refine kN ?_ _ | refine kD ?_ | refine kA ?_ _)); exact BK367.out) hb); replace HB := Q0.mk (bP q_ hb); clear q_; (try clear hb); (try clear hb2); (try clear hk); (try clear hi); (try clear ho0); obtain ⟨Ao35, co35, eo35⟩ := Kd.zo HO379.out; subst eo35; have hnb36 := NB367_365.out; have hnc36 := NB365_367.out; have hnb37 := NB367_366.out; have hnc37 := NB366_367.out; have hcz38_0 : w34.cell? ⟨gb367, 0, none⟩ = some (.slice none 0 0) := (kC BK367.out 0).trans rfl; have hfz38_0 := kF BK367.out 0))
        refine bodyPost_ret (zg1 rfl _ _ gb367 29 #[.slice Ao35 t377.length co35] (0, 0) _ rfl (by (with_reducible repeat (first | refine kN ?_ _ | refine kD ?_ | refine kA ?_ _)); refine zc0 (cs := #[.slice none 0 0]) ?_ 0 _ rfl; (with_reducible repeat (first | refine kN ?_ _ | refine kD ?_ | refine kA ?_ _)); exact BK367.out) Tryd.underlying29 rfl (by kernel_rfl)) rfl ?_
        exact ⟨_, by first | rfl | (simp [eN, eS] <;> rfl) | (simp only [← hji3, ← hji4]; first | rfl | (simp [eN, eS] <;> rfl)) | (simp [*, eN, eS] <;> rfl), by (with_reducible repeat (first | apply Kd.VA_ | apply Kd.VN_ | apply Kd.VD_)); exact Kd.VM_ (Kd.zn1 (p := ⟨gb367, 0, none⟩) (Kd.VM_ HO379.out (fun k_ hk => (⟨hk, hk.2.2.2⟩ : _ ∧ k_ ≠ gb367))) (fun _ hk => hk.2) (.slice Ao35 t377.length co35)) (fun _ hk => hk.1.1), by repeat (first | (with_reducible first | exact HB.out | apply bA | apply bN | apply b1_ | refine bS ?_ GE365.out | refine bS ?_ GE366.out | refine bS ?_ GE367.out) | exact HB.out)⟩
       ·rw [if_neg c29] at H
        exact absurd H (by simp)
      ·rw [if_neg c28] at H
       exact absurd H (by simp)
  ·rw [if_neg c6] at H
   exact absurd H (by simp)
 ·rw [if_neg c5] at H
  exact absurd H (by simp)
end Go.Proofs.YtgkdealidnidiaaDoor.Na
