/- DiskArms: the law's walk. -/
import Derived.Test.YtombochecgjmjaaDkAwake
namespace Go.Proofs.Ytombochecgjmjaa.Dk
set_option linter.unusedSimpArgs false
set_option linter.unusedVariables false
open Go.RowKit Go.Proofs.Ytombochecgjmjaa.Own Go.Proofs.Ytombochecgjmjaa.Cel

/-- How many of the first i writes were done, armed by k. -/
def dn (k i : Nat) : Nat := if 1 ≤ k ∧ k ≤ i then i - 1 else i
def am (k i : Nat) : Int := if i < k then (k : Int) - (i : Int) else 0
/-- The disk behind i writes. -/
def AS (k i : Nat) (S : DS) : Prop := S.lasts.length = 4 ∧ S.armed = am k i ∧ S.waits.length = dn k i ∧ S.ops = (dn k i : Nat)
theorem dn_le (k i : Nat) : dn k i ≤ i := by unfold dn; split <;> omega
theorem AS.bad {k i : Nat} {S : DS} (h : AS k i S) (hk : i + 1 = k) (j : Int) (s : ByteArray) (hj : 0 ≤ j ∧ j < 4) (hs : s.size = 128) : (S.put j s).2 = 7 ∧ AS k (i + 1) (S.put j s).1 ∧ dn k (i + 1) = dn k i := by
  obtain ⟨h1, h2, h3, h4⟩ := h
  have ha : S.armed = 1 := by rw [h2, am, if_pos (by omega)]; omega
  have hf : S.fails = ({ S with armed := 0 }, true) := by unfold DS.fails; rw [if_neg (by omega), ha]; rfl
  have hp := put_fails (S := S) (i := j) (s := s) (by rw [h1]; exact hj) hs (by rw [hf])
  have hd : dn k (i + 1) = dn k i := by unfold dn; rw [if_pos (by omega), if_neg (by omega)]; omega
  rw [hp, hf]
  refine ⟨rfl, ⟨h1, ?_, by rw [hd]; exact h3, by rw [hd]; exact h4⟩, hd⟩
  show (0 : Int) = am k (i + 1)
  rw [am, if_neg (by omega)]
theorem AS.good {k i : Nat} {S : DS} (h : AS k i S) (hk : i + 1 ≠ k) (j : Int) (s : ByteArray) (hj : 0 ≤ j ∧ j < 4) (hs : s.size = 128) : (S.put j s).2 = 0 ∧ AS k (i + 1) (S.put j s).1 ∧ dn k (i + 1) = dn k i + 1 := by
  obtain ⟨h1, h2, h3, h4⟩ := h
  have hd : dn k (i + 1) = dn k i + 1 := by
    unfold dn
    by_cases e : 1 ≤ k ∧ k ≤ i
    · rw [if_pos (by omega), if_pos e]; omega
    · rw [if_neg (by omega), if_neg e]
  have hf : S.fails.2 = false ∧ S.fails.1.armed = am k (i + 1) := by
    unfold DS.fails
    by_cases e : S.armed ≤ 0
    · rw [if_pos e]
      refine ⟨rfl, ?_⟩
      rw [h2] at e ⊢
      unfold am at e ⊢
      by_cases e2 : i < k
      · rw [if_pos e2] at e; omega
      · rw [if_neg e2, if_neg (by omega)]
    · rw [if_neg e]
      rw [h2] at e ⊢
      unfold am at e ⊢
      by_cases e2 : i < k
      · rw [if_pos e2] at e ⊢
        refine ⟨decide_eq_false (by omega), ?_⟩
        rw [if_pos (by omega)]
        show (k : Int) - (i : Int) - 1 = _
        omega
      · rw [if_neg e2] at e; omega
  have hp := put_ok (S := S) (i := j) (s := s) (by rw [h1]; exact hj) hs hf.1
  obtain ⟨f1, f2, f3⟩ := fails_lasts S
  rw [hp]
  refine ⟨rfl, ⟨?_, hf.2, ?_, ?_⟩, hd⟩
  · show S.fails.1.lasts.length = 4
    rw [f1, h1]
  · show (S.waits ++ [(j.toNat, s)]).length = _
    rw [List.length_append, h3, hd]; rfl
  · show S.ops + 1 = _
    rw [h4, hd]; rfl

set_option maxRecDepth 100000 in
set_option maxHeartbeats 2000000 in
theorem arms_walk (n all : Nat) (hn : n < 256) (hal : all < 256) (w : World) : Calls Try.prog 4 #[.int .u8 (n : Nat), .int .u8 (all : Nat)] w fun e w' => e = .returned (.bool true) ∧ Below w.heap.size w w' := by
  obtain ⟨k, hk⟩ : ∃ k, n % 20 = k := ⟨_, rfl⟩
  obtain ⟨m, hm⟩ : ∃ m, all % 20 = m := ⟨_, rfl⟩
  have k1 : (n : Int) % 20 = (k : Int) := by omega
  have m1 : (all : Int) % 20 = (m : Int) := by omega
  have hk20 : k < 20 := by omega
  have hm20 : m < 20 := by omega
  have KN := Aside0.mk (new_good 4 w (by omega) (by omega))
  rw [show ((4 : Nat) : Int) = 4 by rfl] at KN
  clear hk hm hn hal
  go_enter Try.func4, Try.ntmps4
  go_wp2_with fail
  refine KN.out.mono ?_
  rintro x w1 ⟨p, F, rfl, d, b⟩
  have HD := Aside0.mk (DW.new d b)
  clear d b KN
  go_wp2_with fail
  refine (HD.out.arm (k : Int)).mono ?_
  rintro x w2 ⟨rfl, hd⟩
  have HS0 := Aside0.mk (show ∃ S, DW w p S w2 ∧ AS k 0 S from ⟨_, hd, by simp, by
    show (k : Int) = am k 0
    unfold am
    split
    · omega
    · omega, by simp [dn], by
    show (0 : Int) = _
    simp [dn]⟩)
  clear hd HD
  go_wp2_with fail
  go_loopw [9, 32] (fun dv iv W => ∃ (i : Nat), dv = .int .i64 (dn k i : Nat) ∧ iv = .int .i64 i ∧ i ≤ m ∧ Aside0 (∃ S, DW w p S W ∧ AS k i S)) (fun _ iv _ => m - (intOf iv).toNat)
  case atStart => exact ⟨0, by simp [dn], rfl, by omega, HS0⟩
  case round =>
    obtain ⟨i, rfl, rfl, hi, HS⟩ := hrel
    clear HS0
    by_cases hlt : i < m
    · have hi1 : (i : Int) < (m : Int) := by omega
      have hi20 : (i : Int) < 20 := by omega
      have hdn := dn_le k i
      have KF0 := fun V => fill_calls (UInt8.ofNat (i + 1)) V
      have e8 : (((UInt8.ofNat (i + 1)).toNat : Nat) : Int) = (i : Int) + 1 := by
        rw [UInt8.toNat_ofNat', Nat.mod_eq_of_lt (by omega)]; omega
      rw [e8] at KF0
      have KF := Aside0.mk KF0
      obtain ⟨s8, hs8⟩ : ∃ x, sect (UInt8.ofNat (i + 1)) = x := ⟨_, rfl⟩
      have HSZ := Aside0.mk (show s8.size = 128 by rw [← hs8]; exact sect_size _)
      rw [hs8] at KF
      obtain ⟨dc, hdc⟩ : ∃ x, dn k i = x := ⟨_, rfl⟩
      have HDC := Aside0.mk hdc
      rw [hdc] at hdn ⊢
      have hdn' : (dc : Int) ≤ 20 := by omega
      clear KF0 e8 hs8 hdc hdn
      obtain ⟨S, hd0, ha0⟩ := HS.out
      have HD := Aside0.mk hd0
      have HA := Aside0.mk ha0
      clear hd0 ha0 HS
      go_wp2_with fail
      refine (KF.out _).mono ?_
      rintro x w3 ⟨rfl, hb⟩
      replace HD := Aside0.mk (HD.out.step hb)
      clear hb KF
      go_wp2_with fail
      refine (HD.out.write (by rw [HA.out.2.1]; unfold am; split <;> omega) (by rw [HA.out.2.2.1, HDC.out]; omega) (by rw [HA.out.2.2.2]; omega) (by rw [HA.out.2.2.2, HDC.out]; omega) ((i : Int) % 4) s8 (by omega) (by omega)).mono ?_
      rintro x w4 ⟨rfl, hd⟩
      by_cases hik : i + 1 = k
      · obtain ⟨e1, e2, e3⟩ := HA.out.bad hik ((i : Int) % 4) s8 (by omega) HSZ.out
        rw [e1]
        have HN := Aside0.mk (show ∃ S, DW w p S w4 ∧ AS k (i + 1) S from ⟨_, hd, e2⟩)
        have HE := Aside0.mk (show dn k (i + 1) = dc by rw [e3, HDC.out])
        have t1 : ((i : Int) + 1 == (k : Int)) = true := by simp; omega
        clear e1 e2 e3 hd HD HA hik
        go_wp2
        go_roundw
        case rel => exact ⟨i + 1, by rw [HE.out], by go_num, by omega, HN⟩
        case measure => simp [intOf]; omega
      · obtain ⟨e1, e2, e3⟩ := HA.out.good hik ((i : Int) % 4) s8 (by omega) HSZ.out
        rw [e1]
        have HN := Aside0.mk (show ∃ S, DW w p S w4 ∧ AS k (i + 1) S from ⟨_, hd, e2⟩)
        have HE := Aside0.mk (show dn k (i + 1) = dc + 1 by rw [e3, HDC.out])
        have t1 : ((i : Int) + 1 == (k : Int)) = false := by simp; omega
        clear e1 e2 e3 hd HD HA hik
        go_wp2
        go_roundw
        case rel => exact ⟨i + 1, by rw [HE.out]; rfl, by go_num, by omega, HN⟩
        case measure => simp [intOf]; omega
    · obtain rfl : i = m := by omega
      obtain ⟨S, hd0, ha0⟩ := HS.out
      have HD := Aside0.mk hd0
      obtain ⟨_, _, h3, h4⟩ := ha0
      obtain ⟨dc, hdc⟩ : ∃ x, dn k i = x := ⟨_, rfl⟩
      rw [hdc] at h3 h4 ⊢
      have hfin : (k < 1 ∨ i < k) ∨ (dc : Int) = (i : Int) - 1 := by
        rw [← hdc]; unfold dn
        by_cases e : 1 ≤ k ∧ k ≤ i
        · right; rw [if_pos e]; omega
        · left; omega
      have H3 := Aside0.mk h3
      have H4 := Aside0.mk h4
      have HF := Aside0.mk hfin
      clear hd0 HS hdc h3 h4 hfin
      go_wp2_with fail
      refine (awake12_calls _).mono ?_
      rintro x w3 ⟨rfl, hb⟩
      replace HD := Aside0.mk (HD.out.step hb)
      clear hb
      go_wp2_with fail
      refine HD.out.ops.mono ?_
      rw [H4.out]
      rintro x w4 ⟨rfl, rfl⟩
      go_wp2_with fail
      refine HD.out.waiting.mono ?_
      rw [H3.out]
      rintro x w5 ⟨rfl, rfl⟩
      have HB := Aside0.mk (show Below w.heap.size w w3 from by obtain ⟨F', d', b'⟩ := HD.out; exact b')
      clear HD
      by_cases q1 : k < 1
      · have t1 : decide ((k : Int) < 1) = true := decide_eq_true (by omega)
        clear q1 HF
        go_wp2
        go_ret
        exact ⟨rfl, HB.out⟩
      have t2 : decide ((k : Int) < 1) = false := decide_eq_false (by omega)
      by_cases q2 : i < k
      · have t1 : decide ((i : Int) < (k : Int)) = true := decide_eq_true (by omega)
        have t1' : decide (i < k) = true := decide_eq_true q2
        clear q1 q2 HF
        go_wp2
        go_ret
        exact ⟨rfl, HB.out⟩
      have t3 : decide ((i : Int) < (k : Int)) = false := decide_eq_false (by omega)
      have e : (dc : Int) = (i : Int) - 1 := by
        rcases HF.out with (e | e) | e
        · exact absurd e q1
        · exact absurd e q2
        · exact e
      have hle : (i : Int) < 20 := by omega
      have hge : (1 : Int) ≤ (i : Int) := by omega
      have q3 : k ≤ i := by omega
      have q4 : (k : Int) ≤ (i : Int) := by omega
      have q5 : (1 : Int) ≤ (k : Int) := by omega
      have t2' : decide (k < 1) = false := decide_eq_false q1
      have t3' : decide (i < k) = false := decide_eq_false q2
      clear HF q1 q2
      go_wp2
      all_goals go_ret
      all_goals exact ⟨rfl, HB.out⟩
end Go.Proofs.Ytombochecgjmjaa.Dk
