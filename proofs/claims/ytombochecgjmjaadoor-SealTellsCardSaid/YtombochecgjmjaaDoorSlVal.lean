/- seal: whether all bytes are 0, and the number of bytes, the program's and the document's. -/
import Derived.Test.YtombochecgjmjaaDoorSlAwake
import Derived.Lib.TrimByte
namespace Go.Proofs.YtombochecgjmjaaDoor.Sl
set_option linter.unusedSimpArgs false
set_option linter.unusedVariables false
open Go.RowKit

def blankB (l : List UInt8) : Bool := l.all (· == 0)
theorem dropWhile_nil {α : Type} (p : α → Bool) : ∀ l : List α, (l.dropWhile p).isEmpty = l.all p
  | [] => rfl
  | a :: l => by
    simp only [List.dropWhile, List.all_cons]
    cases h : p a with
    | true => simp [dropWhile_nil p l]
    | false => simp
theorem dropWhile_reverse_all (p : UInt8 → Bool) (l : List UInt8) : ((l.reverse.dropWhile p).reverse).all p = l.all p := by
  have h1 : l.reverse.all p = ((l.reverse.takeWhile p) ++ (l.reverse.dropWhile p)).all p := by rw [List.takeWhile_append_dropWhile]
  rw [List.all_reverse] at h1
  rw [List.all_reverse, h1, List.all_append, List.all_takeWhile, Bool.true_and]
theorem trim_blank (l : List UInt8) : (Lib.trimB l 0).isEmpty = blankB l := by
  unfold Lib.trimB Lib.trimLeftB Lib.trimRightB blankB
  rw [dropWhile_nil, dropWhile_reverse_all]
theorem trim_eq (l : List UInt8) : ((⟨(Lib.trimB l 0).toArray⟩ : ByteArray).toList == (⟨#[]⟩ : ByteArray).toList) = blankB l := by
  rw [← trim_blank]
  have e : (⟨(Lib.trimB l 0).toArray⟩ : ByteArray).toList = Lib.trimB l 0 := by simp
  have e0 : (⟨#[]⟩ : ByteArray).toList = [] := by simp
  rw [e, e0]
  cases Lib.trimB l 0 <;> rfl

set_option maxRecDepth 100000 in
theorem blank_calls (s : ByteArray) (w : World) (hs : s.size ≤ 9223372036854775807) :
    Calls Tryd.prog 13 #[.string s] w fun e w' => e = .returned (.bool (blankB s.data.toList)) ∧ (w' = w ∨ w' = w.drew) := by
  have K := Tryd.strings_Trim_one s 0 (by decide) w hs
  have E := Aside0.mk (trim_eq s.data.toList)
  obtain ⟨t, ht⟩ : ∃ t, (⟨(Lib.trimB s.data.toList 0).toArray⟩ : ByteArray) = t := ⟨_, rfl⟩
  rw [ht] at K E
  have KK := Aside0.mk K
  clear K ht
  go_enter Tryd.func13, Tryd.ntmps13
  go_wp2_with fail
  refine KK.out.mono ?_
  rintro x w1 ⟨rfl, h1⟩
  have H1 := Aside0.mk h1
  clear h1
  go_wp2
  go_ret
  refine ⟨?_, H1.out⟩
  rw [← E.out]
  first | rfl | (congr 2; simp)

set_option maxRecDepth 100000 in
theorem rblank_calls (s : ByteArray) (w : World) (hs : s.size ≤ 9223372036854775807) :
    Calls Tryd.prog 15 #[.string s] w fun e w' => e = .returned (.bool (blankB s.data.toList)) ∧ w = w' := by
  go_enter Tryd.func15, Tryd.ntmps15
  go_wp2
  go_loop [3] (fun i => ∃ (j : Nat), i = .int .i64 j ∧ j ≤ s.size ∧ Aside0 (blankB (s.data.toList.take j) = true)) (fun i => s.size - (intOf i).toNat)
  case atStart => exact ⟨0, rfl, by omega, ⟨rfl⟩⟩
  case round =>
    obtain ⟨j, rfl, hj, HB⟩ := hrel
    by_cases hlt : j < s.size
    · have hjl : j < s.data.toList.length := by simpa using hlt
      have hn : s.data.toList.take (j + 1) = s.data.toList.take j ++ [s[j]'hlt] := by rw [List.take_succ_eq_append_getElem hjl]; rfl
      by_cases hb : (s[j]'hlt) = 0
      · have t1 : (((s[j]'hlt).toNat : Int) != 0) = false := by rw [hb]; rfl
        have t2 : ((s[j]'hlt).toNat != 0) = false := by rw [hb]; rfl
        have HN := Aside0.mk (show blankB (s.data.toList.take (j + 1)) = true by rw [hn, blankB, List.all_append]; have := HB.out; unfold blankB at this; rw [this, hb]; rfl)
        clear hb hn HB hjl
        go_wp2
        go_round
        case rel => exact ⟨j + 1, by go_num, by omega, HN⟩
        case measure => simp [intOf]; omega
      · have hz : (s[j]'hlt).toNat ≠ 0 := fun e => hb (UInt8.toNat_inj.1 e)
        have t1 : (((s[j]'hlt).toNat : Int) != 0) = true := by simp; omega
        have t2 : ((s[j]'hlt).toNat != 0) = true := by simpa using hz
        have HN := Aside0.mk (show blankB s.data.toList = false by
          rw [blankB, Bool.eq_false_iff]; intro h; rw [List.all_eq_true] at h
          have := h (s[j]'hlt) (by exact List.getElem_mem hjl)
          exact hb (by simpa using this))
        clear hb hn HB hjl hz
        go_wp2
        go_ret
        exact ⟨by rw [HN.out]; rfl, rfl⟩
    · have hge : j = s.size := by omega
      subst hge
      have HN := Aside0.mk (show blankB s.data.toList = true by have := HB.out; rwa [List.take_of_length_le (by simp)] at this)
      clear HB
      go_wp2
      go_ret
      exact ⟨by rw [HN.out]; rfl, rfl⟩

/-- The number of bytes, the highest first. -/
def val (l : List UInt8) : Nat := l.foldl (fun x b => x * 256 + b.toNat) 0
theorem val_snoc (l : List UInt8) (b : UInt8) : val (l ++ [b]) = val l * 256 + b.toNat := by simp [val, List.foldl_append]
theorem val_lt (l : List UInt8) : val l < 256 ^ l.length := by
  have key : ∀ (l : List UInt8) (x : Nat), l.foldl (fun x b => x * 256 + b.toNat) x < (x + 1) * 256 ^ l.length := by
    intro l
    induction l with
    | nil => intro x; simp
    | cons b l ih =>
      intro x
      have h := ih (x * 256 + b.toNat)
      have hb := b.toNat_lt
      rw [List.foldl_cons, List.length_cons, Nat.pow_succ, Nat.mul_comm (256 ^ l.length), ← Nat.mul_assoc]
      exact Nat.lt_of_lt_of_le h (Nat.mul_le_mul_right _ (by omega))
  have := key l 0
  simpa [val] using this
theorem val_take (s : ByteArray) (j : Nat) (h : j < s.size) : val (s.data.toList.take (j + 1)) = val (s.data.toList.take j) * 256 + (s[j]'h).toNat := by
  rw [List.take_succ_eq_append_getElem (by simpa using h), val_snoc]; rfl
theorem or_byte (x b : Nat) (hb : b < 256) : x * 256 ||| b = x * 256 + b := by
  have := Nat.shiftLeft_add_eq_or_of_lt (i := 8) (a := x) (b := b) (by omega)
  rw [Nat.shiftLeft_eq] at this
  exact this.symm

set_option maxRecDepth 100000 in
theorem rvalue_calls (s : ByteArray) (w : World) (hs : s.size ≤ 8) :
    Calls Tryd.prog 16 #[.string s] w fun e w' => e = .returned (.int .u64 (val s.data.toList : Nat)) ∧ w = w' := by
  go_enter Tryd.func16, Tryd.ntmps16
  go_wp2
  go_loop [3, 4] (fun v i => ∃ (j : Nat), i = .int .i64 j ∧ j ≤ s.size ∧ v = .int .u64 (val (s.data.toList.take j) : Nat)) (fun _ i => s.size - (intOf i).toNat)
  case atStart => exact ⟨0, rfl, by omega, rfl⟩
  case round =>
    obtain ⟨j, rfl, hj, rfl⟩ := hrel
    by_cases hlt : j < s.size
    · have hb := (s[j]'hlt).toNat_lt
      have hv := val_lt (s.data.toList.take j)
      have hv2 : val (s.data.toList.take j) < 256 ^ 7 := Nat.lt_of_lt_of_le hv (Nat.pow_le_pow_right (by omega) (by rw [List.length_take]; omega))
      have HN := Aside0.mk (val_take s j hlt)
      generalize val (s.data.toList.take j) = X at hv2 HN ⊢
      have hX : X < 72057594037927936 := hv2
      have e1 : ((s[j]'hlt).toNat : Int) % 18446744073709551616 = ((s[j]'hlt).toNat : Int) := by omega
      clear hv hv2
      go_wp2
      go_round
      case rel => exact ⟨j + 1, by go_num, by omega, by rw [HN.out]; push_cast; rfl⟩
      case measure => simp [intOf]; omega
    · have hge : j = s.size := by omega
      subst hge
      have E := Aside0.mk (show val (s.data.toList.take s.size) = val s.data.toList by rw [List.take_of_length_le (by simp)])
      go_wp2
      go_ret
      exact ⟨by rw [E.out]; rfl, rfl⟩

set_option maxRecDepth 100000 in
theorem number2_calls (s : ByteArray) (w : World) (hs : s.size ≤ 8) :
    Calls Tryd.prog 14 #[.string s] w fun e w' => e = .returned (.int .u64 (val s.data.toList : Nat)) ∧ w = w' := by
  go_enter Tryd.func14, Tryd.ntmps14
  go_wp2
  go_loop [3, 7] (fun v i => ∃ (j : Nat), i = .int .i64 j ∧ j ≤ s.size ∧ v = .int .u64 (val (s.data.toList.take j) : Nat)) (fun _ i => s.size - (intOf i).toNat)
  case atStart => exact ⟨0, rfl, by omega, rfl⟩
  case round =>
    obtain ⟨j, rfl, hj, rfl⟩ := hrel
    by_cases hlt : j < s.size
    · have hb := (s[j]'hlt).toNat_lt
      have hv := val_lt (s.data.toList.take j)
      have hv2 : val (s.data.toList.take j) < 256 ^ 7 := Nat.lt_of_lt_of_le hv (Nat.pow_le_pow_right (by omega) (by rw [List.length_take]; omega))
      have HN := Aside0.mk (val_take s j hlt)
      generalize val (s.data.toList.take j) = X at hv2 HN ⊢
      have hX : X < 72057594037927936 := hv2
      have e1 : ((s[j]'hlt).toNat : Int) % 18446744073709551616 = ((s[j]'hlt).toNat : Int) := by omega
      have e2 := u64_or_nat (X * 256) (s[j]'hlt).toNat (by omega) (by omega)
      rw [or_byte X _ hb] at e2
      have e3 : ((X * 256 : Nat) : Int) = (X : Int) * 256 := by push_cast; rfl
      rw [e3] at e2
      clear hv hv2 e3
      go_wp2
      go_round
      case rel => exact ⟨j + 1, by go_num, by omega, by rw [HN.out]; push_cast; rfl⟩
      case measure => simp [intOf]; omega
    · have hge : j = s.size := by omega
      subst hge
      have E := Aside0.mk (show val (s.data.toList.take s.size) = val s.data.toList by rw [List.take_of_length_le (by simp)])
      go_wp2
      go_ret
      exact ⟨by rw [E.out]; rfl, rfl⟩
end Go.Proofs.YtombochecgjmjaaDoor.Sl
