/- TableTotals: the plain law: the row of all is the sum of the contacts' rows. -/
import Derived.Test.YtdmmklfphkgmlaaTbCovR
namespace Go.Proofs.Ytdmmklfphkgmlaa.Tb
open Go.Proofs.Ytdmmklfphkgmlaa.Seg Go.RowKit Go.Proofs.YtdmmklfphkgmlaaW.PrintWords Go.Proofs.YtdmmklfphkgmlaaW.PrintLast Go.Proofs.YtdmmklfphkgmlaaW.PrintMore Go.Proofs.Ytdmmklfphkgmlaa.Om

/-- The first m contacts' counts of class k. -/
def colS (ys : List Int) (k : Nat) : Nat → Int
  | 0 => 0
  | c + 1 => colS ys k c + gx ys (8 + c * 8 + k)
structure Tot (ys : List Int) (n : Int) : Prop where
  len : ys.length = 136
  rng : ∀ x ∈ ys, 0 ≤ x ∧ x < 4294967296
  col : ∀ k, k < 8 → gx ys k = colS ys k 16
  all : sumTo (rowI ys 0) 8 = n

theorem gx_zero (i : Nat) : gx (List.replicate 136 0) i = 0 := by
  simp only [gx, List.getD_eq_getElem?_getD, List.getElem?_replicate]
  split <;> rfl
theorem colS_zero (k : Nat) : ∀ m, colS (List.replicate 136 0) k m = 0
  | 0 => rfl
  | m + 1 => by rw [colS, colS_zero k m, gx_zero]; rfl
theorem tot_zero : Tot (List.replicate 136 0) 0 :=
  ⟨by simp, by intro x hx; have := List.eq_of_mem_replicate hx; omega, fun k _ => by rw [colS_zero, gx_zero], by decide⟩

theorem colS_range {ys : List Int} (hr : ∀ x ∈ ys, 0 ≤ x ∧ x < 4294967296) (k : Nat) : ∀ m, 0 ≤ colS ys k m
  | 0 => Int.le_refl _
  | m + 1 => by have := colS_range hr k m; have := (gx_range hr (8 + m * 8 + k)).1; rw [colS]; omega
theorem colS_mono {ys : List Int} (hr : ∀ x ∈ ys, 0 ≤ x ∧ x < 4294967296) (k a : Nat) : ∀ b, a ≤ b → colS ys k a ≤ colS ys k b
  | 0, h => by obtain rfl : a = 0 := by omega
               exact Int.le_refl _
  | b + 1, h => by
    by_cases e : a = b + 1
    · rw [e]; exact Int.le_refl _
    · have := colS_mono hr k a b (by omega); have := (gx_range hr (8 + b * 8 + k)).1; rw [colS.eq_def ys k (b + 1)]; simp only; omega

/-- What an added use does to a count. -/
theorem gx_add (xs : List Int) (c k i : Nat) (hx : xs.length = 136) (hc : c < 16) (hk : k < 8) :
    gx ((xs.set k (gx xs k + 1)).set (8 + c * 8 + k) (gx xs (8 + c * 8 + k) + 1)) i = if i = 8 + c * 8 + k ∨ i = k then gx xs i + 1 else gx xs i := by
  rw [gx_set _ _ _ _ (by rw [List.length_set]; omega), gx_set _ _ _ _ (by omega)]
  by_cases h1 : 8 + c * 8 + k = i
  · rw [if_pos h1, if_pos (.inl h1.symm), h1]
  · rw [if_neg h1]
    by_cases h2 : k = i
    · rw [if_pos h2, if_pos (.inr h2.symm), h2]
    · rw [if_neg h2, if_neg (by omega)]
theorem colS_add (xs : List Int) (c k : Nat) (hx : xs.length = 136) (hc : c < 16) (hk : k < 8) (q : Nat) (hq : q < 8) :
    ∀ m, m ≤ 16 → colS ((xs.set k (gx xs k + 1)).set (8 + c * 8 + k) (gx xs (8 + c * 8 + k) + 1)) q m = colS xs q m + if q = k ∧ c < m then 1 else 0
  | 0, _ => by simp [colS]
  | m + 1, h => by
    rw [colS, colS, colS_add xs c k hx hc hk q hq m (by omega), gx_add xs c k _ hx hc hk]
    split <;> split <;> split <;> omega
theorem sum_add (xs : List Int) (c k : Nat) (hx : xs.length = 136) (hc : c < 16) (hk : k < 8) :
    ∀ m, m ≤ 8 → sumTo (rowI ((xs.set k (gx xs k + 1)).set (8 + c * 8 + k) (gx xs (8 + c * 8 + k) + 1)) 0) m = sumTo (rowI xs 0) m + if k < m then 1 else 0
  | 0, _ => by simp [sumTo]
  | m + 1, h => by
    rw [sumTo, sumTo, sum_add xs c k hx hc hk m (by omega), gx_rowI _ _ _ (by omega), gx_rowI _ _ _ (by omega), gx_add xs c k _ hx hc hk]
    split <;> split <;> split <;> omega

theorem covT_of_le {xs ys : List Int} (h : ∀ i, i < 136 → gx ys i ≤ gx xs i) : covT xs ys = true := by
  simp only [covT, covN, covB, Bool.and_eq_true, List.all_eq_true, List.mem_range, decide_eq_true_eq]
  constructor
  · intro i hi j hj
    rw [gx_rowI _ _ _ hj, gx_rowI _ _ _ hj]; exact h _ (by omega)
  · intro j hj
    rw [gx_rowI _ _ _ hj, gx_rowI _ _ _ hj]; exact h _ (by omega)

/-- One use: the new table covers the old one; with an error it is the old one; else one more was used. -/
theorem add_tot (ys : List Int) (n c k : Int) (h : Tot ys n) :
    covT (addX ys c k).1 ys = true ∧ ((addX ys c k).2 ≠ 0 → (addX ys c k).1 = ys) ∧ Tot (addX ys c k).1 (if (addX ys c k).2 = 0 then n + 1 else n) := by
  have hr := addX_range ys c k h.rng
  revert hr
  unfold addX
  by_cases h1 : c < 0 ∨ 16 ≤ c
  · rw [if_pos h1]; exact fun _ => ⟨covT_of_le fun _ _ => Int.le_refl _, fun _ => rfl, by simpa using h⟩
  rw [if_neg h1]
  by_cases h2 : k < 0 ∨ 8 ≤ k
  · rw [if_pos h2]; exact fun _ => ⟨covT_of_le fun _ _ => Int.le_refl _, fun _ => rfl, by simpa using h⟩
  rw [if_neg h2]
  by_cases h3 : gx ys k.toNat = 4294967295 ∨ gx ys (8 + c.toNat * 8 + k.toNat) = 4294967295
  · rw [if_pos h3]; exact fun _ => ⟨covT_of_le fun _ _ => Int.le_refl _, fun _ => rfl, by simpa using h⟩
  rw [if_neg h3]
  intro hr
  have hc : c.toNat < 16 := by omega
  have hk : k.toNat < 8 := by omega
  refine ⟨covT_of_le fun i _ => ?_, fun e => by simp at e, ⟨by simp [h.len], hr, fun q hq => ?_, ?_⟩⟩
  · rw [gx_add ys _ _ _ h.len hc hk]; split <;> omega
  · rw [gx_add ys _ _ _ h.len hc hk, colS_add ys _ _ h.len hc hk q hq 16 (Nat.le_refl _), h.col q hq]
    split <;> split <;> omega
  · rw [sum_add ys _ _ h.len hc hk 8 (Nat.le_refl _), if_pos hk, if_pos rfl, h.all]

/-- The running sum of rows: c rows, and of row c the first k counts. -/
def runS (ys : List Int) (c k : Nat) : List Int := (List.range 8).map fun q => colS ys q (if q < k then c + 1 else c)
theorem runS_len (ys : List Int) (c k : Nat) : (runS ys c k).length = 8 := by simp [runS]
theorem gx_runS (ys : List Int) (c k q : Nat) (hq : q < 8) : gx (runS ys c k) q = colS ys q (if q < k then c + 1 else c) := by
  simp [gx, runS, List.getD, List.getElem?_map, List.getElem?_range hq]
theorem runS_zero (ys : List Int) : rowV (runS ys 0 0) = #[.int .u32 0, .int .u32 0, .int .u32 0, .int .u32 0, .int .u32 0, .int .u32 0, .int .u32 0, .int .u32 0] := rfl
theorem runS_next (ys : List Int) (c : Nat) : runS ys c 8 = runS ys (c + 1) 0 := by
  apply List.map_congr_left
  intro q hq
  rw [if_pos (List.mem_range.1 hq), if_neg (by omega)]
theorem rowV_set (r : List Int) (i : Nat) (x : Int) : (rowV r).setIfInBounds i (.int .u32 x) = rowV (r.set i x) := by
  simp only [rowV, List.setIfInBounds_toArray, List.map_set]
theorem runS_set (ys : List Int) (c k : Nat) (hk : k < 8) : (runS ys c k).set k (gx (runS ys c k) k + gx ys (8 + c * 8 + k)) = runS ys c (k + 1) := by
  apply List.ext_getElem?
  intro q
  rw [List.getElem?_set]
  by_cases e : k = q
  · subst e
    rw [if_pos rfl, if_pos (by rw [runS_len]; omega), gx_runS _ _ _ _ hk, if_neg (by omega)]
    simp [runS, List.getElem?_map, List.getElem?_range hk, colS]
  · rw [if_neg e]
    by_cases h : q < 8
    · simp only [runS, List.getElem?_map, List.getElem?_range h, Option.map_some]
      by_cases h2 : q < k
      · rw [if_pos h2, if_pos (by omega)]
      · rw [if_neg h2, if_neg (by omega)]
    · rw [List.getElem?_eq_none (by rw [runS_len]; omega), List.getElem?_eq_none (by rw [runS_len]; omega)]
theorem runS_all {ys : List Int} {n : Int} (h : Tot ys n) : runS ys 16 0 = rowI ys 0 := by
  apply List.ext_getElem?
  intro q
  by_cases hq : q < 8
  · have e1 := gx_runS ys 16 0 q hq
    have e2 := gx_rowI ys 0 q hq
    rw [Nat.zero_add, h.col q hq] at e2
    rw [if_neg (by omega)] at e1
    have l1 := runS_len ys 16 0
    have l2 := rowI_len ys 0 h.len (by omega)
    rw [List.getElem?_eq_getElem (show q < (runS ys 16 0).length by omega), List.getElem?_eq_getElem (show q < (rowI ys 0).length by omega)]
    congr 1
    have a1 : gx (runS ys 16 0) q = (runS ys 16 0)[q]'(by omega) := by simp [gx, List.getD, List.getElem?_eq_getElem (show q < (runS ys 16 0).length by omega)]
    have a2 : gx (rowI ys 0) q = (rowI ys 0)[q]'(by omega) := by simp [gx, List.getD, List.getElem?_eq_getElem (show q < (rowI ys 0).length by omega)]
    rw [← a1, ← a2, e1, e2]
  · rw [List.getElem?_eq_none (by rw [runS_len]; omega), List.getElem?_eq_none (by rw [rowI_len ys 0 h.len (by omega)]; omega)]
theorem runS_wrap {ys : List Int} {n : Int} (h : Tot ys n) (c k : Nat) (hc : c < 16) (hk : k < 8) :
    (gx (runS ys c k) k + gx ys (8 + c * 8 + k)) % 4294967296 = gx (runS ys c k) k + gx ys (8 + c * 8 + k) := by
  rw [gx_runS _ _ _ _ hk, if_neg (by omega)]
  have a := colS_range h.rng k c
  have b := gx_range h.rng (8 + c * 8 + k)
  have d := colS_mono h.rng k (c + 1) 16 (by omega)
  rw [colS] at d
  have e := gx_range h.rng k
  rw [h.col k hk] at e
  omega
end Go.Proofs.Ytdmmklfphkgmlaa.Tb
