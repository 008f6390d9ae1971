/- A disk: the small functions. -/
import Derived.Test.YtombochecgjmjaaDk
namespace Go.Proofs.Ytombochecgjmjaa.Dk
set_option linter.unusedSimpArgs false
set_option linter.unusedVariables false
open Go.RowKit Go.Proofs.Ytombochecgjmjaa.Own Go.Proofs.Ytombochecgjmjaa.Cel

variable {B p : Nat} {S : DS} {F : Nat → Prop} {W : World}

set_option maxRecDepth 100000 in
theorem has_calls (h : DK B p S F W) (i : Int) :
    Calls Try.prog 26 #[.pointer (some ⟨p, 0, none⟩), .int .i64 i] W fun e W' => e = .returned (.bool (decide (0 ≤ i ∧ i < (S.lasts.length : Int)))) ∧ W = W' := by
  obtain ⟨lb, lc, rb, rc, mb, wv, h1, h2⟩ := h
  have c0 := h1.cell 0
  have H1 := Aside0.mk h1
  clear h1 h2
  obtain ⟨n, hn⟩ : ∃ n, S.lasts.length = n := ⟨_, rfl⟩
  rw [hn] at c0 ⊢
  clear hn H1
  by_cases a : 0 ≤ i
  · by_cases b : i < (n : Int)
    · have e : decide (0 ≤ i ∧ i < (n : Int)) = true := decide_eq_true ⟨a, b⟩
      rw [e]
      go_enter Try.func26, Try.ntmps26
      go_wp2
      go_ret
      exact ⟨rfl, rfl⟩
    · have e : decide (0 ≤ i ∧ i < (n : Int)) = false := decide_eq_false (fun e => b e.2)
      rw [e]
      have b' : decide (i < (n : Int)) = false := decide_eq_false b
      go_enter Try.func26, Try.ntmps26
      go_wp2
      go_ret
      exact ⟨rfl, rfl⟩
  · have e : decide (0 ≤ i ∧ i < (n : Int)) = false := decide_eq_false (fun e => a e.1)
    rw [e]
    have a' : decide (0 ≤ i) = false := decide_eq_false a
    go_enter Try.func26, Try.ntmps26
    go_wp2
    go_ret
    exact ⟨rfl, rfl⟩

set_option maxRecDepth 100000 in
theorem size_calls (h : DK B p S F W) :
    Calls Try.prog 29 #[.pointer (some ⟨p, 0, none⟩)] W fun e W' => e = .returned (.int .i64 (S.lasts.length : Nat)) ∧ W = W' := by
  obtain ⟨lb, lc, rb, rc, mb, wv, h1, h2⟩ := h
  have c0 := h1.cell 0
  clear h1 h2
  go_enter Try.func29, Try.ntmps29
  go_wp2
  go_ret
  exact ⟨rfl, rfl⟩
set_option maxRecDepth 100000 in
theorem ops_calls (h : DK B p S F W) :
    Calls Try.prog 15 #[.pointer (some ⟨p, 0, none⟩)] W fun e W' => e = .returned (.int .i64 S.ops) ∧ W = W' := by
  obtain ⟨lb, lc, rb, rc, mb, wv, h1, h2⟩ := h
  have c4 := h1.cell 4
  clear h1 h2
  go_enter Try.func15, Try.ntmps15
  go_wp2
  go_ret
  exact ⟨rfl, rfl⟩
set_option maxRecDepth 100000 in
theorem waiting_calls (h : DK B p S F W) :
    Calls Try.prog 16 #[.pointer (some ⟨p, 0, none⟩)] W fun e W' => e = .returned (.int .i64 (S.waits.length : Nat)) ∧ W = W' := by
  obtain ⟨lb, lc, rb, rc, mb, wv, h1, h2⟩ := h
  have c1 := h1.cell 1
  obtain ⟨A, c, rfl⟩ := owns_slice h1.hw
  clear h1 h2
  go_enter Try.func16, Try.ntmps16
  go_wp2
  go_ret
  exact ⟨rfl, rfl⟩
set_option maxRecDepth 100000 in
theorem arm_calls (h : DK B p S F W) (n : Int) :
    Calls Try.prog 11 #[.pointer (some ⟨p, 0, none⟩), .int .i64 n] W fun e W' => e = .returned (.tuple #[]) ∧ DK B p { S with armed := n } F W' ∧ Only F W W' := by
  obtain ⟨lb, lc, rb, rc, mb, wv, h1, h2⟩ := h
  have c3 := h1.cell 3
  have f3 := h1.frozen 3
  have HN := Aside0.mk (show DK B p { S with armed := n } F (W.setCell ⟨p, 3, none⟩ (.int .i64 n)) ∧ Only F W (W.setCell ⟨p, 3, none⟩ (.int .i64 n)) from
    ⟨⟨lb, lc, rb, rc, mb, wv, h1.setA n, h2⟩, only_set _ _ ((h2 p).2 (.inl rfl))⟩)
  clear h1 h2
  go_enter Try.func11, Try.ntmps11
  go_wp2
  go_end0
  exact ⟨rfl, HN.out⟩
/-- What is read of a sector. -/
def DS.readAt (S : DS) (i : Int) : ByteArray × Int := if 0 ≤ i ∧ i < (S.lasts.length : Int) then (S.read.getD i.toNat ByteArray.empty, 0) else (⟨#[]⟩, 5)
set_option maxRecDepth 100000 in
theorem read_calls (h : DK B p S F W) (i : Int) :
    Calls Try.prog 18 #[.pointer (some ⟨p, 0, none⟩), .int .i64 i] W fun e W' => e = .returned (.tuple #[.string (S.readAt i).1, .int .i64 (S.readAt i).2]) ∧ W = W' := by
  have KH := Aside0.mk (has_calls h i)
  by_cases a : 0 ≤ i ∧ i < (S.lasts.length : Int)
  · have e : decide (0 ≤ i ∧ i < (S.lasts.length : Int)) = true := decide_eq_true a
    rw [e] at KH
    rw [DS.readAt, if_pos a]
    clear e
    obtain ⟨j, rfl⟩ := Int.eq_ofNat_of_zero_le a.1
    obtain ⟨lb, lc, rb, rc, mb, wv, h1, h2⟩ := h
    have c5 := h1.cell 5
    have hj : j < S.lasts.length := by have := a.2; omega
    have hjr : j < S.read.length := by rw [h1.rlen]; exact hj
    have cj : W.cell? ⟨rb, j, none⟩ = some (.string (S.read[j]'hjr)) := by
      rw [h1.hr.cellAt j (by omega), strs_get _ _ hjr]
    have E := Aside0.mk (show S.read.getD (j : Int).toNat ByteArray.empty = S.read[j]'hjr by
      rw [Int.toNat_natCast, List.getD_eq_getElem?_getD, List.getElem?_eq_getElem hjr]; rfl)
    obtain ⟨n, hn⟩ : ∃ n, S.lasts.length = n := ⟨_, rfl⟩
    obtain ⟨z, hz⟩ : ∃ z, S.read[j]'hjr = z := ⟨_, rfl⟩
    rw [hn] at hj c5
    rw [hz] at cj E
    have hj2 : (j : Int) < (n : Int) := by omega
    clear h1 h2 hn hz a hjr
    go_enter Try.func18, Try.ntmps18
    go_wp2_with fail
    refine KH.out.mono ?_
    rintro e w1 ⟨rfl, rfl⟩
    go_wp2
    go_ret2
    exact ⟨by rw [E.out]; rfl, rfl⟩
  · have e : decide (0 ≤ i ∧ i < (S.lasts.length : Int)) = false := decide_eq_false a
    rw [e] at KH
    rw [DS.readAt, if_neg a]
    clear e a h
    go_enter Try.func18, Try.ntmps18
    go_wp2_with fail
    refine KH.out.mono ?_
    rintro e w1 ⟨rfl, rfl⟩
    go_wp2
    go_ret2
    exact ⟨rfl, rfl⟩
set_option maxRecDepth 100000 in
theorem fails_calls (h : DK B p S F W) (ha : S.armed ≤ 9223372036854775807) :
    Calls Try.prog 27 #[.pointer (some ⟨p, 0, none⟩)] W fun e W' => e = .returned (.bool S.fails.2) ∧ DK B p S.fails.1 F W' ∧ Only F W W' := by
  have h0 := h
  obtain ⟨lb, lc, rb, rc, mb, wv, h1, h2⟩ := h
  have c3 := h1.cell 3
  have f3 := h1.frozen 3
  by_cases a : S.armed ≤ 0
  · have HN := Aside0.mk (show DK B p S.fails.1 F W ∧ Only F W W from ⟨by rw [DS.fails, if_pos a]; exact h0, Only.refl _ _⟩)
    have e2 : S.fails.2 = false := by rw [DS.fails, if_pos a]
    rw [e2]
    obtain ⟨ar, har⟩ : ∃ x, S.armed = x := ⟨_, rfl⟩
    rw [har] at a c3
    clear h0 h1 h2 e2 har ha
    go_enter Try.func27, Try.ntmps27
    go_wp2
    go_ret
    exact ⟨rfl, HN.out⟩
  · have e1 : S.fails.1 = { S with armed := S.armed - 1 } := by rw [DS.fails, if_neg a]
    have e2 : S.fails.2 = decide (S.armed - 1 = 0) := by rw [DS.fails, if_neg a]
    have hs := h1.setA (S.armed - 1)
    have c3' := hs.cell 3
    have HN := Aside0.mk (show DK B p S.fails.1 F (W.setCell ⟨p, 3, none⟩ (.int .i64 (S.armed - 1))) ∧ Only F W (W.setCell ⟨p, 3, none⟩ (.int .i64 (S.armed - 1))) from
      ⟨by rw [e1]; exact ⟨lb, lc, rb, rc, mb, wv, hs, h2⟩, only_set _ _ ((h2 p).2 (.inl rfl))⟩)
    rw [e2]
    obtain ⟨ar, har⟩ : ∃ x, S.armed = x := ⟨_, rfl⟩
    rw [har] at a c3 c3' HN ⊢
    have a' : ¬ (ar ≤ 0) := a
    have hlt : ar ≤ 9223372036854775807 := by omega
    have hgt : 0 < ar := by omega
    clear h0 h1 h2 e1 e2 har ha hs a
    go_enter Try.func27, Try.ntmps27
    go_wp2
    go_ret
    exact ⟨by first | rfl | (congr 2; simp), HN.out⟩
end Go.Proofs.Ytombochecgjmjaa.Dk
