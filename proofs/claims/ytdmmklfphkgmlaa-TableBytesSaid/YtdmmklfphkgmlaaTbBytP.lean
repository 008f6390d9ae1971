/- TableBytes: the plain law: a table's bytes, and back. -/
import Derived.Test.YtdmmklfphkgmlaaTbCovR
namespace Go.Proofs.Ytdmmklfphkgmlaa.Tb
open Go.Proofs.Ytdmmklfphkgmlaa.Seg Go.RowKit Go.Proofs.YtdmmklfphkgmlaaW.PrintWords Go.Proofs.YtdmmklfphkgmlaaW.PrintLast Go.Proofs.YtdmmklfphkgmlaaW.PrintMore Go.Proofs.Ytdmmklfphkgmlaa.Om

/-- The bytes of the first e counts that are written: n of each row. -/
def seqB (xs : List Int) (n : Nat) : Nat → ByteArray
  | 0 => ⟨#[]⟩
  | e + 1 => seqB xs n e ++ num 4 (gx xs (e / n * 8 + e % n))
def encB (xs : List Int) (l : Int) (m n : Nat) : ByteArray := num 8 l ++ seqB xs n (n * (m + 1))
/-- A table without what there isn't. -/
def clipL (xs : List Int) (m n : Nat) : List Int := (List.range 136).map fun q => if q / 8 ≤ m ∧ q % 8 < n then gx xs q else 0
def fitsB (xs : List Int) (m n : Nat) : Bool := decide (xs = clipL xs m n)
def szB (m n : Int) : Bool := decide (1 ≤ m ∧ m ≤ 16 ∧ 1 ≤ n ∧ n ≤ 8)
def encX (xs : List Int) (l m n : Int) : ByteArray × Int :=
  if szB m n = true then (if fitsB xs m.toNat n.toNat = true then (encB xs l m.toNat n.toNat, 0) else (⟨#[]⟩, 4)) else (⟨#[]⟩, 5)

/-- The e-th count of a table's bytes. -/
def valS (s : ByteArray) (e : Nat) : Int := tv (s.extract (8 + 4 * e) s.size) 4
/-- The table of the first e counts. -/
def decT (s : ByteArray) (n e : Nat) : List Int := (List.range 136).map fun q => if q % 8 < n ∧ n * (q / 8) + q % 8 < e then valS s (n * (q / 8) + q % 8) else 0
def decX (s : ByteArray) (m n : Int) : (List Int × Int) × Int :=
  if szB m n = true then (if (s.size : Int) < 8 + 4 * n * (m + 1) then ((List.replicate 136 0, 0), 10) else if (s.size : Int) > 8 + 4 * n * (m + 1) then ((List.replicate 136 0, 0), 11)
    else ((decT s n.toNat (n.toNat * (m.toNat + 1)), tv s 8), 0)) else ((List.replicate 136 0, 0), 5)

theorem clipL_len (xs : List Int) (m n : Nat) : (clipL xs m n).length = 136 := by simp [clipL]
theorem gx_map (f : Nat → Int) (q : Nat) (h : q < 136) : gx ((List.range 136).map f) q = f q := by
  simp [gx, List.getD, List.getElem?_map, List.getElem?_range h]
theorem gx_clipL (xs : List Int) (m n q : Nat) (h : q < 136) : gx (clipL xs m n) q = if q / 8 ≤ m ∧ q % 8 < n then gx xs q else 0 := gx_map _ q h
theorem decT_len (s : ByteArray) (n e : Nat) : (decT s n e).length = 136 := by simp [decT]
theorem gx_decT (s : ByteArray) (n e q : Nat) (h : q < 136) : gx (decT s n e) q = if q % 8 < n ∧ n * (q / 8) + q % 8 < e then valS s (n * (q / 8) + q % 8) else 0 := gx_map _ q h
theorem ext_gx {xs ys : List Int} (hx : xs.length = 136) (hy : ys.length = 136) (h : ∀ q, q < 136 → gx xs q = gx ys q) : xs = ys := by
  apply List.ext_getElem (by omega)
  intro q h1 h2
  have := h q (by omega)
  simpa [gx, List.getD, List.getElem?_eq_getElem h1, List.getElem?_eq_getElem h2] using this

theorem valS_range (s : ByteArray) (e : Nat) : 0 ≤ valS s e ∧ valS s e < 4294967296 := tv_range _ 4
theorem decT_range (s : ByteArray) (n e : Nat) : ∀ x ∈ decT s n e, 0 ≤ x ∧ x < 4294967296 := by
  intro x hx
  simp only [decT, List.mem_map] at hx
  obtain ⟨q, _, rfl⟩ := hx
  split
  · exact valS_range s _
  · omega

/-- Which entry a place is. -/
theorem entry_iff {n i k q : Nat} (hk : k < n) (hn : n ≤ 8) : (q % 8 < n ∧ n * (q / 8) + q % 8 = n * i + k) ↔ q = 8 * i + k := by
  constructor
  · rintro ⟨h1, h2⟩
    have e1 : (n * (q / 8) + q % 8) / n = q / 8 := by rw [Nat.mul_add_div (by omega), Nat.div_eq_of_lt h1, Nat.add_zero]
    have e2 : (n * i + k) / n = i := by rw [Nat.mul_add_div (by omega), Nat.div_eq_of_lt hk, Nat.add_zero]
    have e3 : q / 8 = i := by rw [← e1, h2, e2]
    rw [e3] at h2
    omega
  · rintro rfl
    have e1 : (8 * i + k) / 8 = i := by omega
    have e2 : (8 * i + k) % 8 = k := by omega
    rw [e1, e2]; exact ⟨hk, rfl⟩
theorem gx_zero0 (i : Nat) : gx (List.replicate 136 0) i = 0 := by
  simp only [gx, List.getD_eq_getElem?_getD, List.getElem?_replicate]
  split <;> rfl
theorem decT_zero (s : ByteArray) (n : Nat) : decT s n 0 = List.replicate 136 0 := by
  apply ext_gx (decT_len _ _ _) (by simp)
  intro q hq
  rw [gx_decT _ _ _ _ hq, if_neg (by omega)]
  exact (gx_zero0 q).symm
/-- One entry more. -/
theorem decT_set (s : ByteArray) (n i k : Nat) (hn : n ≤ 8) (hk : k < n) (hi : i < 17) : (decT s n (n * i + k)).set (8 * i + k) (valS s (n * i + k)) = decT s n (n * i + k + 1) := by
  apply ext_gx (by rw [List.length_set, decT_len]) (decT_len _ _ _)
  intro q hq
  rw [gx_set _ _ _ _ (by rw [decT_len]; omega), gx_decT _ _ _ _ hq, gx_decT _ _ _ _ hq]
  have he := @entry_iff n i k q hk hn
  by_cases h : q = 8 * i + k
  · obtain ⟨h1, h2⟩ := he.2 h
    rw [if_pos h.symm, if_pos ⟨h1, by omega⟩, h2]
  · rw [if_neg (fun e => h e.symm)]
    by_cases h1 : q % 8 < n ∧ n * (q / 8) + q % 8 < n * i + k
    · rw [if_pos h1, if_pos ⟨h1.1, by omega⟩]
    · rw [if_neg h1, if_neg]
      rintro ⟨h2, h3⟩
      have : n * (q / 8) + q % 8 = n * i + k := by omega
      exact h (he.1 ⟨h2, this⟩)

/-- A row of the table: its first k counts. -/
def rowT (s : ByteArray) (n i k : Nat) : List Int := (List.range 8).map fun j => if j < k then valS s (n * i + j) else 0
theorem rowT_len (s : ByteArray) (n i k : Nat) : (rowT s n i k).length = 8 := by simp [rowT]
theorem rowT_zero (s : ByteArray) (n i : Nat) : rowV (rowT s n i 0) = #[.int .u32 0, .int .u32 0, .int .u32 0, .int .u32 0, .int .u32 0, .int .u32 0, .int .u32 0, .int .u32 0] := rfl
theorem gx_rowT (s : ByteArray) (n i k j : Nat) (hj : j < 8) : gx (rowT s n i k) j = if j < k then valS s (n * i + j) else 0 := by
  simp [gx, rowT, List.getD, List.getElem?_map, List.getElem?_range hj]
theorem rowT_set (s : ByteArray) (n i k : Nat) : (rowV (rowT s n i k)).setIfInBounds k (.int .u32 (valS s (n * i + k))) = rowV (rowT s n i (k + 1)) := by
  have e : (rowT s n i k).set k (valS s (n * i + k)) = rowT s n i (k + 1) := by
    apply List.ext_getElem (by simp [rowT])
    intro j h1 h2
    have hj : j < 8 := by rw [rowT_len] at h2; exact h2
    rw [List.getElem_set]
    by_cases h : k = j
    · subst h; rw [if_pos rfl]; simp [rowT]
    · rw [if_neg h]; simp only [rowT, List.getElem_map, List.getElem_range]
      by_cases h3 : j < k
      · rw [if_pos h3, if_pos (by omega)]
      · rw [if_neg h3, if_neg (by omega)]
  simp only [rowV, List.setIfInBounds_toArray, ← e, List.map_set]
theorem rowT_spl (s : ByteArray) (l : Int) (n i : Nat) (hn : n ≤ 8) (hn1 : 1 ≤ n) (hi : i < 17) :
    spl (tabV (decT s n (n * i)) l) (8 * i) (rowV (rowT s n i n)).toList = tabV (decT s n (n * (i + 1))) l := by
  have hl : (rowV (rowT s n i n)).toList.length = 8 := by simp [rowV, rowT_len]
  apply Array.ext_getElem?
  intro q
  rw [spl_get _ _ _ (by rw [hl, tabV_size, decT_len]; omega), hl, tabV_at _ _ (decT_len _ _ _), tabV_at _ _ (decT_len _ _ _)]
  by_cases hq : q < 136
  · rw [if_pos hq, if_pos hq, gx_decT _ _ _ _ hq, gx_decT _ _ _ _ hq]
    by_cases h1 : 8 * i ≤ q ∧ q < 8 * i + 8
    · rw [if_pos h1]
      have e1 : q / 8 = i := by omega
      have e2 : q - 8 * i = q % 8 := by omega
      have e3 : (rowV (rowT s n i n)).toList[q - 8 * i]? = some (.int .u32 (gx (rowT s n i n) (q % 8))) := by
        rw [e2, Array.getElem?_toList]; exact rowV_get _ _ (by rw [rowT_len]; omega)
      rw [e3, gx_rowT _ _ _ _ _ (by omega), e1]
      by_cases h2 : q % 8 < n
      · rw [if_pos h2, if_pos ⟨h2, by rw [Nat.mul_add]; omega⟩]
      · rw [if_neg h2, if_neg (fun h => h2 h.1)]
    · rw [if_neg h1]
      congr 2
      by_cases h2 : q % 8 < n
      · by_cases h3 : q / 8 < i
        · have : n * (q / 8 + 1) ≤ n * i := Nat.mul_le_mul_left _ h3
          rw [Nat.mul_add] at this
          rw [if_pos ⟨h2, by omega⟩, if_pos ⟨h2, by rw [Nat.mul_add]; omega⟩]
        · have : n * (i + 1) ≤ n * (q / 8) := Nat.mul_le_mul_left _ (by omega)
          have h4 : n * i ≤ n * (i + 1) := Nat.mul_le_mul_left _ (by omega)
          rw [if_neg (by omega), if_neg (by omega)]
      · rw [if_neg (fun h => h2 h.1), if_neg (fun h => h2 h.1)]
  · rw [if_neg hq, if_neg hq, if_neg (by omega)]

/-! ### Sizes, and back -/
theorem seqB_size (xs : List Int) (n : Nat) : ∀ e, (seqB xs n e).size = 4 * e
  | 0 => rfl
  | e + 1 => by rw [seqB, ByteArray.size_append, seqB_size xs n e, num_size]; omega
theorem encB_size (xs : List Int) (l : Int) (m n : Nat) : (encB xs l m n).size = 8 + 4 * (n * (m + 1)) := by
  rw [encB, ByteArray.size_append, num_size, seqB_size]
theorem seqB_part (xs : List Int) (n e : Nat) : ∀ d, ∃ t, seqB xs n (e + d) = seqB xs n e ++ t
  | 0 => ⟨⟨#[]⟩, by rw [Nat.add_zero]; exact (ByteArray.append_empty).symm⟩
  | d + 1 => by
    obtain ⟨t, ht⟩ := seqB_part xs n e d
    exact ⟨t ++ num 4 (gx xs ((e + d) / n * 8 + (e + d) % n)), by rw [← Nat.add_assoc, seqB, ht, ByteArray.append_assoc]⟩
theorem valS_encB (xs : List Int) (l : Int) (m n e : Nat) (he : e < n * (m + 1)) (hr : ∀ x ∈ xs, 0 ≤ x ∧ x < 4294967296) : valS (encB xs l m n) e = gx xs (e / n * 8 + e % n) := by
  obtain ⟨t, ht⟩ := seqB_part xs n (e + 1) (n * (m + 1) - (e + 1))
  rw [show e + 1 + (n * (m + 1) - (e + 1)) = n * (m + 1) by omega] at ht
  have hE : encB xs l m n = (num 8 l ++ seqB xs n e) ++ (num 4 (gx xs (e / n * 8 + e % n)) ++ t) := by
    rw [encB, ht, seqB, ByteArray.append_assoc, ByteArray.append_assoc]
  unfold valS
  have g := gx_range hr (e / n * 8 + e % n)
  rw [hE, extract_tail _ _ _ (by rw [ByteArray.size_append, num_size, seqB_size]), tv_num 4 _ _ g.1 (by have := g.2; omega)]
theorem dec_encB (xs : List Int) (l : Int) (m n : Nat) (hm1 : 1 ≤ m) (hm : m ≤ 16) (hn1 : 1 ≤ n) (hn : n ≤ 8) (hr : ∀ x ∈ xs, 0 ≤ x ∧ x < 4294967296) (hx : xs.length = 136) (hf : xs = clipL xs m n) (hl0 : 0 ≤ l) (hl : l < 18446744073709551616) :
    decX (encB xs l m n) m n = ((xs, l), 0) := by
  have hz : ((encB xs l m n).size : Int) = 8 + 4 * (n : Int) * ((m : Int) + 1) := by
    rw [encB_size]; push_cast; rw [Int.mul_assoc]
  unfold decX
  rw [if_pos (show szB m n = true from decide_eq_true ⟨by omega, by omega, by omega, by omega⟩), if_neg (by omega), if_neg (by omega)]
  congr 2
  · rw [Int.toNat_natCast, Int.toNat_natCast]
    apply ext_gx (decT_len _ _ _) hx
    intro q hq
    rw [gx_decT _ _ _ _ hq]
    have hc := gx_clipL xs m n q hq
    rw [← hf] at hc
    by_cases h : q % 8 < n ∧ n * (q / 8) + q % 8 < n * (m + 1)
    · rw [if_pos h, valS_encB xs l m n _ h.2 hr, Nat.mul_add_div (by omega), Nat.div_eq_of_lt h.1, Nat.mul_add_mod, Nat.mod_eq_of_lt h.1]
      congr 1; omega
    · rw [if_neg h, hc, if_neg]
      rintro ⟨h1, h2⟩
      have : n * (q / 8 + 1) ≤ n * (m + 1) := Nat.mul_le_mul_left _ (by omega)
      rw [Nat.mul_add] at this
      exact h ⟨h2, by omega⟩
  · rw [encB]; exact tv_num 8 l _ hl0 hl

theorem extract_extract (s : ByteArray) (p : Nat) (hp : p + 4 ≤ s.size) : (s.extract p s.size).extract 4 (s.extract p s.size).size = s.extract (p + 4) s.size := by
  apply ext_list
  rw [data_extract, data_extract, data_extract, ByteArray.size_extract, Nat.min_self]
  rw [List.drop_take, List.drop_drop, List.take_take]
  congr 1
  omega
theorem tabEq_iff (xs ys : List Int) (l l' : Int) (hx : xs.length = 136) (hy : ys.length = 136) : tabEq xs ys l l' = decide (xs = ys ∧ l = l') := by
  rw [Bool.eq_iff_iff]
  simp only [tabEq, rowEq, Bool.and_eq_true, List.all_eq_true, List.mem_range, beq_iff_eq, decide_eq_true_eq]
  constructor
  · rintro ⟨h1, h2, h3⟩
    refine ⟨ext_gx hx hy fun q hq => ?_, h3⟩
    by_cases h : q < 8
    · have := h1 q h; simpa using this
    · have := h2 ((q - 8) / 8) (by omega) ((q - 8) % 8) (by omega)
      rwa [show 8 + (q - 8) / 8 * 8 + (q - 8) % 8 = q by omega] at this
  · rintro ⟨rfl, rfl⟩
    exact ⟨fun _ _ => rfl, fun _ _ _ _ => rfl, rfl⟩
theorem tabEq_clip (xs : List Int) (l : Int) (m n : Nat) (hx : xs.length = 136) : tabEq xs (clipL xs m n) l l = fitsB xs m n := by
  rw [tabEq_iff _ _ _ _ hx (clipL_len _ _ _)]
  simp [fitsB]
end Go.Proofs.Ytdmmklfphkgmlaa.Tb
