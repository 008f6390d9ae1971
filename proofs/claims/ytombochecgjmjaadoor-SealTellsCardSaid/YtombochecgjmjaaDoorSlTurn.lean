/- A sector of which one byte was turned; and what Open opens, Close makes: the plain laws. -/
import Derived.Test.YtombochecgjmjaaDoorSlLaw
namespace Go.Proofs.YtombochecgjmjaaDoor.Sl
set_option linter.unusedSimpArgs false
set_option linter.unusedVariables false
open Go.RowKit

/-- One bit of the sum, back. -/
def ist (y : Nat) : Nat := if y < 2147483648 then 2 * y else 2 * (y ^^^ 3988292384) + 1
theorem ist_st {x : Nat} (h : x < 4294967296) : ist (st x) = x := by
  unfold st ist
  by_cases hx : x % 2 = 1
  · rw [if_pos hx]
    have hge : 2147483648 ≤ x / 2 ^^^ 3988292384 := by
      have hb : (x / 2 ^^^ 3988292384).testBit 31 = true := by
        rw [Nat.testBit_xor, Nat.testBit_lt_two_pow (show x / 2 < 2 ^ 31 by omega)]
        decide
      exact Nat.ge_two_pow_of_testBit hb
    rw [if_neg (by omega), Nat.xor_assoc, Nat.xor_self, Nat.xor_zero]
    omega
  · rw [if_neg hx, if_pos (by omega)]
    omega
def ists : Nat → Nat → Nat
  | 0, y => y
  | k + 1, y => ists k (ist y)
theorem ists_sts {x : Nat} (h : x < 4294967296) : ∀ k, ists k (sts k x) = x
  | 0 => rfl
  | k + 1 => by
    rw [sts, ists, ist_st (sts_lt h k), ists_sts h k]
theorem sts_inj {x y : Nat} (hx : x < 4294967296) (hy : y < 4294967296) (h : sts 8 x = sts 8 y) : x = y := by
  rw [← ists_sts hx 8, h, ists_sts hy 8]
theorem xor_cancel {x y b : Nat} (h : x ^^^ b = y ^^^ b) : x = y := by
  have := congrArg (· ^^^ b) h
  simpa [Nat.xor_assoc] using this
theorem xor_cancel' {x b c : Nat} (h : x ^^^ b = x ^^^ c) : b = c := by
  rw [Nat.xor_comm x b, Nat.xor_comm x c] at h; exact xor_cancel h
theorem crc_inj : ∀ (l : List UInt8) {x y : Nat}, x < 4294967296 → y < 4294967296 → crc l x = crc l y → x = y
  | [], x, y, _, _, h => h
  | b :: l, x, y, hx, hy, h =>
    xor_cancel (sts_inj (xor_byte hx b.toNat_lt) (xor_byte hy b.toNat_lt) (crc_inj l (sts_lt (xor_byte hx b.toNat_lt) 8) (sts_lt (xor_byte hy b.toNat_lt) 8) h))
/-- Two rows that differ in one byte have two sums. -/
theorem sum_tells (a r : List UInt8) (c d : UInt8) (h : c ≠ d) : sumN (a ++ c :: r) ≠ sumN (a ++ d :: r) := by
  intro e
  have h1 : crc (a ++ c :: r) 4294967295 = crc (a ++ d :: r) 4294967295 := by
    have l1 := crc_lt (a ++ c :: r) 4294967295 (by omega)
    have l2 := crc_lt (a ++ d :: r) 4294967295 (by omega)
    unfold sumN at e
    omega
  rw [crc_append, crc_append] at h1
  have l0 := crc_lt a 4294967295 (by omega)
  have := crc_inj r (sts_lt (xor_byte l0 c.toNat_lt) 8) (sts_lt (xor_byte l0 d.toNat_lt) 8) h1
  have := xor_cancel' (sts_inj (xor_byte l0 c.toNat_lt) (xor_byte l0 d.toNat_lt) this)
  exact h (UInt8.toNat_inj.1 this)

/-- The sums of m zeros from x; and back. -/
def zs : Nat → Nat → Nat
  | 0, x => x
  | m + 1, x => zs m (sts 8 x)
def zb : Nat → Nat → Nat
  | 0, y => y
  | m + 1, y => ists 8 (zb m y)
theorem crc_zeros : ∀ m x, crc (List.replicate m 0) x = zs m x
  | 0, x => rfl
  | m + 1, x => by rw [List.replicate_succ, crc, zs, crc_zeros m]; simp
theorem zs_back : ∀ m {x y : Nat}, x < 4294967296 → zs m x = y → x = zb m y
  | 0, x, y, _, h => h
  | m + 1, x, y, hx, h => by
    rw [zs] at h
    have := zs_back m (sts_lt hx 8) h
    rw [zb, ← this, ists_sts hx 8]
theorem table : (List.range 124).all (fun j => decide (256 ≤ zs j 4294967295 ^^^ zb (124 - j) 4294967295)) = true := by decide +kernel
/-- A row of 124 bytes of which at most one is not 0: its sum is not 0. -/
theorem sum_one (j : Nat) (c : UInt8) (hj : j < 124) : sumN (List.replicate j 0 ++ c :: List.replicate (123 - j) 0) ≠ 0 := by
  intro e
  have l := crc_lt (List.replicate j 0 ++ c :: List.replicate (123 - j) 0) 4294967295 (by omega)
  have h1 : crc (List.replicate j 0 ++ c :: List.replicate (123 - j) 0) 4294967295 = 4294967295 := by unfold sumN at e; omega
  rw [crc_append, crc, crc_zeros, crc_zeros] at h1
  have l0 : zs j 4294967295 < 4294967296 := by rw [← crc_zeros]; exact crc_lt _ _ (by omega)
  have h2 := zs_back (123 - j) (sts_lt (xor_byte l0 c.toNat_lt) 8) h1
  have h3 : zs j 4294967295 ^^^ c.toNat = zb (124 - j) 4294967295 := by
    rw [show 124 - j = (123 - j) + 1 by omega, zb, ← h2, ists_sts (xor_byte l0 c.toNat_lt) 8]
  have h4 : c.toNat = zs j 4294967295 ^^^ zb (124 - j) 4294967295 := by rw [← h3, ← Nat.xor_assoc, Nat.xor_self, Nat.zero_xor]
  have h5 := List.all_eq_true.1 table j (List.mem_range.2 hj)
  have h6 := of_decide_eq_true h5
  rw [← h4] at h6
  have := c.toNat_lt
  omega
theorem sum0 : lb (sumN (List.replicate 124 0)) 4 = lb 366415372 4 := by decide +kernel

/-- Four bytes, the lowest first. -/
theorem low4 (b q : List UInt8) (hb : b.length = 124) : low (b ++ q) 124 4 = (q.getD 0 0).toNat + (q.getD 1 0).toNat * 256 + (q.getD 2 0).toNat * 65536 + (q.getD 3 0).toNat * 16777216 := by
  have g : ∀ i, (b ++ q).getD (124 + i) 0 = q.getD i 0 := fun i => by
    rw [List.getD_eq_getElem?_getD, List.getElem?_append_right (by omega), hb, List.getD_eq_getElem?_getD, Nat.add_sub_cancel_left]
  simp only [low, g]
  omega
theorem low_inj {b p q : List UInt8} (hb : b.length = 124) (hp : p.length = 4) (hq : q.length = 4) (h : low (b ++ p) 124 4 = low (b ++ q) 124 4) : p = q := by
  rw [low4 b p hb, low4 b q hb] at h
  match p, q, hp, hq with
  | [p0, p1, p2, p3], [q0, q1, q2, q3], _, _ =>
    simp only [List.getD_cons_zero, List.getD_cons_succ] at h
    have a0 := p0.toNat_lt; have a1 := p1.toNat_lt; have a2 := p2.toNat_lt; have a3 := p3.toNat_lt
    have b0 := q0.toNat_lt; have b1 := q1.toNat_lt; have b2 := q2.toNat_lt; have b3 := q3.toNat_lt
    have e0 : p0 = q0 := UInt8.toNat_inj.1 (by omega)
    have e1 : p1 = q1 := UInt8.toNat_inj.1 (by omega)
    have e2 : p2 = q2 := UInt8.toNat_inj.1 (by omega)
    have e3 : p3 = q3 := UInt8.toNat_inj.1 (by omega)
    rw [e0, e1, e2, e3]
theorem lb_low (b q : List UInt8) (hb : b.length = 124) (hq : q.length = 4) : lb (low (b ++ q) 124 4) 4 = q := by
  have hlt : low (b ++ q) 124 4 < 4294967296 := low_lt _ _ 4
  exact low_inj hb (lb_len _ _) hq (low_lb b hb _ hlt)
theorem set_split (l : List UInt8) (j : Nat) (v : UInt8) (hj : j < l.length) : l = l.take j ++ l[j] :: l.drop (j + 1) ∧ l.set j v = l.take j ++ v :: l.drop (j + 1) := by
  refine ⟨?_, ?_⟩
  · rw [List.getElem_cons_drop, List.take_append_drop]
  · rw [List.set_eq_take_append_cons_drop, if_pos hj]
/-- A turned sector is told: its sum doesn't fit, and it isn't blank. -/
theorem turn_tells (b : List UInt8) (hb : b.length = 124) (j : Nat) (v : UInt8) (hj : j < 128) (hv : (b ++ lb (sumN b) 4).getD j 0 ≠ v) :
    openS ⟨((b ++ lb (sumN b) 4).set j v).toArray⟩ = (.zero, 8) := by
  have hsz : ∀ q : List UInt8, q.length = 4 → ∀ b' : List UInt8, b'.length = 124 → (⟨(b' ++ q).toArray⟩ : ByteArray).size = 128 := fun q hq b' hb' => by
    show (b' ++ q).toArray.size = 128; rw [List.size_toArray, List.length_append, hq, hb']
  have hex : ∀ (b' q : List UInt8), b'.length = 124 → ((⟨(b' ++ q).toArray⟩ : ByteArray).extract 0 124).data.toList = b' := fun b' q hb' => by
    rw [ext_list, List.drop_zero, List.take_append_of_le_length (by omega), List.take_of_length_le (by omega)]
  have hrep : ∀ l : List UInt8, blankB l = true → l = List.replicate l.length 0 := fun l h => (blank_iff l).1 h
  by_cases h : j < 124
  · have hjb : j < b.length := by omega
    rw [List.set_append_left _ _ hjb]
    obtain ⟨e1, e2⟩ := set_split b j v hjb
    have hv' : b[j] ≠ v := by
      rwa [List.getD_eq_getElem?_getD, List.getElem?_append_left hjb, List.getElem?_eq_getElem hjb] at hv
    have hbl : (b.set j v).length = 124 := by rw [List.length_set, hb]
    refine openS_sum (hsz _ (lb_len _ _) _ hbl) ?_ ?_
    · cases hc : blankB (b.set j v ++ lb (sumN b) 4) with
      | false => rfl
      | true =>
        rw [blank_append, Bool.and_eq_true] at hc
        have z1 := hrep _ hc.1
        rw [hbl] at z1
        have z2 := hrep _ hc.2
        rw [lb_len] at z2
        have s0 : sumN b = 0 := by
          have := low_lb b hb (sumN b) (sumN_lt b)
          rw [z2, low4 b _ hb] at this
          simpa using this.symm
        have tk : b.take j = List.replicate j 0 := by
          have := congrArg (List.take j) z1
          rw [List.take_set_of_le (Nat.le_refl _), List.take_replicate, Nat.min_eq_left (by omega)] at this
          exact this
        have dr : b.drop (j + 1) = List.replicate (123 - j) 0 := by
          have := congrArg (List.drop (j + 1)) z1
          rw [List.drop_set_of_lt (by omega), List.drop_replicate, show 124 - (j + 1) = 123 - j by omega] at this
          exact this
        rw [e1, tk, dr] at s0
        exact absurd s0 (sum_one j _ h)
    · rw [hex _ _ hbl]
      show sumN (b.set j v) ≠ low (b.set j v ++ lb (sumN b) 4) 124 4
      rw [low_lb _ hbl _ (sumN_lt b), e2]
      conv => rhs; rw [e1]
      exact sum_tells _ _ _ _ (Ne.symm hv')
  · have hjb : b.length ≤ j := by omega
    rw [List.set_append_right _ _ hjb, hb]
    have hv' : (lb (sumN b) 4)[j - 124]'(by rw [lb_len]; omega) ≠ v := by
      rwa [List.getD_eq_getElem?_getD, List.getElem?_append_right hjb, hb, List.getElem?_eq_getElem (by rw [lb_len]; omega)] at hv
    have hql : ((lb (sumN b) 4).set (j - 124) v).length = 4 := by rw [List.length_set, lb_len]
    refine openS_sum (hsz _ hql _ hb) ?_ ?_
    · cases hc : blankB (b ++ (lb (sumN b) 4).set (j - 124) v) with
      | false => rfl
      | true =>
        rw [blank_append, Bool.and_eq_true] at hc
        have z1 := hrep _ hc.1
        rw [hb] at z1
        have z2 := hrep _ hc.2
        rw [hql, z1, sum0] at z2
        exfalso
        have k : j - 124 = 0 ∨ j - 124 = 1 ∨ j - 124 = 2 ∨ j - 124 = 3 := by omega
        rcases k with k | k | k | k <;> rw [k] at z2 <;> simp [lb] at z2
    · rw [hex _ _ hb]
      show sumN b ≠ low (b ++ (lb (sumN b) 4).set (j - 124) v) 124 4
      intro e
      have e2 := low_inj hb (lb_len _ _) hql ((low_lb b hb _ (sumN_lt b)).trans e)
      have e3 : (lb (sumN b) 4)[j - 124]'(by rw [lb_len]; omega) = ((lb (sumN b) 4).set (j - 124) v)[j - 124]'(by rw [hql]; omega) := by
        congr 1
      rw [List.getElem_set_self] at e3
      exact hv' e3

theorem val_inj : ∀ (n : Nat) (l m : List UInt8), l.length = n → m.length = n → val l = val m → l = m
  | 0, l, m, hl, hm, _ => by rw [List.length_eq_zero_iff.1 hl, List.length_eq_zero_iff.1 hm]
  | n + 1, l, m, hl, hm, h => by
    have el : l = l.take n ++ [l[n]'(by omega)] := by rw [← List.take_succ_eq_append_getElem, List.take_of_length_le (by omega)]
    have em : m = m.take n ++ [m[n]'(by omega)] := by rw [← List.take_succ_eq_append_getElem, List.take_of_length_le (by omega)]
    rw [el, em, val_snoc, val_snoc] at h
    have a := (l[n]'(by omega)).toNat_lt
    have b := (m[n]'(by omega)).toNat_lt
    have h1 : val (l.take n) = val (m.take n) := by omega
    have h2 : l[n]'(by omega) = m[n]'(by omega) := UInt8.toNat_inj.1 (by omega)
    have ih := val_inj n (l.take n) (m.take n) (by rw [List.length_take]; omega) (by rw [List.length_take]; omega) h1
    rw [el, em, ih, h2]
theorem val_be (l : List UInt8) : be (val l) l.length = l :=
  val_inj l.length _ _ (be_len _ _) rfl (be_val (val_lt l))
theorem seg_append (l : List UInt8) (a b c : Nat) (h1 : a ≤ b) (h2 : b ≤ c) : (l.take b).drop a ++ (l.take c).drop b = (l.take c).drop a := by
  rw [List.drop_take, List.drop_take, List.drop_take, show c - a = (b - a) + (c - b) by omega, List.take_add, List.drop_drop, show a + (b - a) = b by omega]
theorem seg_one (l : List UInt8) (j : Nat) (h : j < l.length) : (l.take (j + 1)).drop j = [l.getD j 0] := by
  rw [List.drop_take, show j + 1 - j = 1 by omega, List.drop_eq_getElem_cons h, List.getD_eq_getElem?_getD, List.getElem?_eq_getElem h]; rfl
theorem ext_toList (s : ByteArray) (a b : Nat) : (s.extract a b).data.toList = (s.data.toList.take b).drop a := by
  rw [ByteArray.data_extract, Array.toList_extract, List.drop_take]

theorem close_opened (s : ByteArray) (h1 : s.size = 128) (h3 : sumN (s.extract 0 124).data.toList = low s.data.toList 124 4) (h4 : (s.data.toList.getD 13 0).toNat ≤ 110)
    (h5 : blankB (s.extract (14 + (s.data.toList.getD 13 0).toNat) 124).data.toList = true) :
    closeS (s.data.toList.getD 0 0).toNat (val (s.extract 1 9).data.toList) (val (s.extract 9 13).data.toList) (s.extract 14 (14 + (s.data.toList.getD 13 0).toNat)) = (s, 0) := by
  obtain ⟨n, hn⟩ : ∃ n, (s.data.toList.getD 13 0).toNat = n := ⟨_, rfl⟩
  rw [hn] at h4 h5 ⊢
  obtain ⟨L, hL⟩ : ∃ L, s.data.toList = L := ⟨_, rfl⟩
  have hll : L.length = 128 := by rw [← hL, Array.length_toList]; exact h1
  have hds : (s.extract 14 (14 + n)).size = n := by rw [ByteArray.size_extract]; omega
  have hdl : (s.extract 14 (14 + n)).data.toList.length = n := by rw [Array.length_toList]; exact hds
  rw [close_ok _ _ _ _ (by rw [hds]; exact h4)]
  simp only [ext_toList, hL] at h3 h5 hdl ⊢
  rw [hL] at hn
  have hb : body (L.getD 0 0).toNat (val ((L.take 9).drop 1)) (val ((L.take 13).drop 9)) ((L.take (14 + n)).drop 14) = (L.take 124).drop 0 := by
    rw [body, head14, hdl]
    have a0 : be (L.getD 0 0).toNat 1 = (L.take 1).drop 0 := by rw [seg_one L 0 (by omega), be1]; simp
    have a1 : be (val ((L.take 9).drop 1)) 8 = (L.take 9).drop 1 := by
      have := val_be ((L.take 9).drop 1)
      rwa [show ((L.take 9).drop 1).length = 8 by rw [List.length_drop, List.length_take]; omega] at this
    have a2 : be (val ((L.take 13).drop 9)) 4 = (L.take 13).drop 9 := by
      have := val_be ((L.take 13).drop 9)
      rwa [show ((L.take 13).drop 9).length = 4 by rw [List.length_drop, List.length_take]; omega] at this
    have a3 : be n 1 = (L.take 14).drop 13 := by rw [seg_one L 13 (by omega), be1, ← hn]; simp
    have a4 : List.replicate (110 - n) 0 = (L.take 124).drop (14 + n) := by
      have := (blank_iff _).1 h5
      rw [this, List.length_drop, List.length_take, hll]; congr 1; omega
    rw [a0, a1, a2, a3, a4, seg_append _ _ _ _ (by omega) (by omega), seg_append _ _ _ _ (by omega) (by omega), seg_append _ _ _ _ (by omega) (by omega), seg_append _ _ _ _ (by omega) (by omega), seg_append _ _ _ _ (by omega) (by omega)]
  rw [sector, hb]
  have hq : lb (sumN ((L.take 124).drop 0)) 4 = L.drop 124 := by
    rw [h3]
    have := lb_low (L.take 124) (L.drop 124) (by rw [List.length_take]; omega) (by rw [List.length_drop]; omega)
    rwa [List.take_append_drop] at this
  rw [hq, List.drop_zero, List.take_append_drop, ← hL]
/-- What Open gives: in bounds; and where it opened, Close makes the same sector. -/
theorem open_back (s : ByteArray) : (openS s).1.k < 256 ∧ (openS s).1.g < 18446744073709551616 ∧ (openS s).1.i < 4294967296 ∧ ((openS s).2 = 0 → closeS (openS s).1.k (openS s).1.g (openS s).1.i (openS s).1.d = (s, 0)) := by
  have z : ∀ c : Int, c ≠ 0 → (Rec.zero, c).1.k < 256 ∧ (Rec.zero, c).1.g < 18446744073709551616 ∧ (Rec.zero, c).1.i < 4294967296 ∧ ((Rec.zero, c).2 = 0 → closeS (Rec.zero, c).1.k (Rec.zero, c).1.g (Rec.zero, c).1.i (Rec.zero, c).1.d = (s, 0)) :=
    fun c hc => ⟨by show (0 : Nat) < 256; decide, by show (0 : Nat) < 18446744073709551616; decide, by show (0 : Nat) < 4294967296; decide, fun e => absurd e hc⟩
  by_cases h1 : s.size = 128
  · cases h2 : blankB s.data.toList with
    | true => rw [openS_blank h1 h2]; exact z 16 (by decide)
    | false =>
      by_cases h3 : sumN (s.extract 0 124).data.toList = low s.data.toList 124 4
      · by_cases h4 : (s.data.toList.getD 13 0).toNat ≤ 110
        · cases h5 : blankB (s.extract (14 + (s.data.toList.getD 13 0).toNat) 124).data.toList with
          | false => rw [openS_form h1 h2 h3 (.inr h5)]; exact z 4 (by decide)
          | true =>
            rw [openS_ok h1 h2 h3 h4 h5]
            have v1 := val_lt (s.extract 1 9).data.toList
            have v2 := val_lt (s.extract 9 13).data.toList
            rw [show (s.extract 1 9).data.toList.length = 8 by rw [Array.length_toList]; show (s.extract 1 9).size = 8; rw [ByteArray.size_extract]; omega] at v1
            rw [show (s.extract 9 13).data.toList.length = 4 by rw [Array.length_toList]; show (s.extract 9 13).size = 4; rw [ByteArray.size_extract]; omega] at v2
            exact ⟨(s.data.toList.getD 0 0).toNat_lt, v1, v2, fun _ => close_opened s h1 h3 h4 h5⟩
        · rw [openS_form h1 h2 h3 (.inl (by omega))]; exact z 4 (by decide)
      · rw [openS_sum h1 h2 h3]; exact z 8 (by decide)
  · rw [openS_len h1]; exact z 4 (by decide)
end Go.Proofs.YtombochecgjmjaaDoor.Sl
