/- The document's PutText and TakeText, and octet.End: as Lean functions, and their walks. -/
import Derived.Test.YtdmmklfphkgmlaaBaOctT
namespace Go.Proofs.Ytdmmklfphkgmlaa.Ba
open Go.RowKit Go.Proofs.YtdmmklfphkgmlaaW.PrintWords Go.Proofs.YtdmmklfphkgmlaaW.PrintLast Go.Proofs.YtdmmklfphkgmlaaW.PrintMore
attribute [local go_sem] max2_int min2_int max_two min_two max_three min_three max_four min_four   -- for this text's walks alone
set_option linter.unusedVariables false
set_option linter.unusedSimpArgs false

/-! ### chaffref17_PutText: function 26 (own) -/
def chaffref17_PutText.f (_ : Nat) (a0 : ByteArray) (a1 : Int) : Option (ByteArray × Int) :=
  if a1 < 0 then some (⟨#[]⟩, 5) else if 65535 < a1 then some (⟨#[]⟩, 5) else if a1 < (a0.size : Int) then some (⟨#[]⟩, 11)
  else some (strOfNums [(a0.size : Int) / 256, (a0.size : Int) % 256] ++ a0, 0)
theorem chaffref17_PutText.mono : ∀ a0 a1 k, LeO (chaffref17_PutText.f k a0 a1) (chaffref17_PutText.f (k + 1) a0 a1) := fun _ _ _ => LeO.refl _
set_option maxHeartbeats 1000000 in
set_option maxRecDepth 100000 in
theorem chaffref17_PutText.calls (k : Nat) (a0 : ByteArray) (a1 : Int) (r1 : ByteArray) (r2 : Int) (w : World) (h : chaffref17_PutText.f k a0 a1 = some (r1, r2)) :
    Calls Try.prog 26 #[.string a0, .int .i64 a1] w fun e w' => e = .returned (.tuple #[.string r1, .int .i64 r2]) ∧ Below w.heap.size w w' := by
  unfold chaffref17_PutText.f at h
  by_cases c1 : a1 < 0
  · rw [if_pos c1] at h
    simp only [Option.some.injEq, Prod.mk.injEq] at h
    obtain ⟨rfl, rfl⟩ := h
    have c1b : decide (a1 < 0) = true := decide_eq_true c1
    clear c1
    go_enter Try.func26, Try.ntmps26
    go_wp2
    go_ret2
    exact ⟨rfl, Below.refl _ _⟩
  · rw [if_neg c1] at h
    have c1b : decide (a1 < 0) = false := decide_eq_false c1
    by_cases c2 : 65535 < a1
    · rw [if_pos c2] at h
      simp only [Option.some.injEq, Prod.mk.injEq] at h
      obtain ⟨rfl, rfl⟩ := h
      have c2b : decide (65535 < a1) = true := decide_eq_true c2
      clear c1 c2
      go_enter Try.func26, Try.ntmps26
      go_wp2
      go_ret2
      exact ⟨rfl, Below.refl _ _⟩
    · rw [if_neg c2] at h
      have c2b : decide (65535 < a1) = false := decide_eq_false c2
      by_cases c3 : a1 < (a0.size : Int)
      · rw [if_pos c3] at h
        simp only [Option.some.injEq, Prod.mk.injEq] at h
        obtain ⟨rfl, rfl⟩ := h
        have c3b : decide (a1 < (a0.size : Int)) = true := decide_eq_true c3
        clear c1 c2 c3
        go_enter Try.func26, Try.ntmps26
        go_wp2
        go_ret2
        exact ⟨rfl, Below.refl _ _⟩
      · rw [if_neg c3] at h
        have c3b : decide (a1 < (a0.size : Int)) = false := decide_eq_false c3
        simp only [Option.some.injEq, Prod.mk.injEq] at h
        obtain ⟨rfl, rfl⟩ := h
        have c5 : a0.size < 65536 := by omega
        have c6 : (strOfNums [(a0.size : Int) / 256, (a0.size : Int) % 256]).size + a0.size ≤ 9223372036854775807 := by
          rw [strOfNums_size]; simp only [List.length_cons, List.length_nil]; omega
        obtain ⟨y, hy⟩ : ∃ y : List Int, y = [(a0.size : Int) / 256, (a0.size : Int) % 256] := ⟨_, rfl⟩
        rw [← hy] at c6 ⊢
        have HY := Aside0.mk hy
        clear c1 c2 c3 hy
        go_enter Try.func26, Try.ntmps26
        go_wp2_with (((with_reducible refine gate_dst (N := 24) rfl ?_); refine Kd.R_lit (Kd.int .u8) _ 5 ?hg (N := 24) ?hd (xs := [(a0.size : Int) / 256, (a0.size : Int) % 256]) (inner := [.int .u8 ((a0.size : Int) / 256), .int .u8 ((a0.size : Int) % 256)]) (ok := fun _ => True) (okp := fun _ => True) ?hr ?hp (fun _ hk => hk) trivial (Below.refl _ _) (Nat.le_refl _) (by simp) ?_; (case hd => rfl); (case hg => rfl); (case hr => first | (go_simp; done) | (go_simp; rfl)); (case hp => exact (Reps.one (show Kd.M (Kd.int .u8) _ _ _ ((a0.size : Int) / 256) [.int .u8 ((a0.size : Int) / 256)] from rfl) (Reps.one (show Kd.M (Kd.int .u8) _ _ _ ((a0.size : Int) % 256) [.int .u8 ((a0.size : Int) % 256)] from rfl) (Reps.none _ _)))); intro v144 w8 ho9 hb hg_ hnew_; clear hg_ hnew_; rw [← HY.out] at ho9; have HB := Aside0.mk hb; clear hb; have hcv10 := own_string (P := Try.prog) Try.underlying101 Try.underlying5 Try.underlying9 (Kd.own_of_R ho9); clear ho9))
        go_ret2
        exact ⟨rfl, HB.out⟩

/-! ### chaffref17_TakeText: function 27 -/
def chaffref17_TakeText.j0 : Nat → ByteArray → Int → Bool → Option (ByteArray × ByteArray × Int)
  | 0, _, _, _ => none
  | k + 1, x0, x1, x13 => if x13 = true then (some ((⟨#[]⟩ : ByteArray), (⟨#[]⟩ : ByteArray), 5)) else (if (x0.size : Int) < 2 then (some ((⟨#[]⟩ : ByteArray), (⟨#[]⟩ : ByteArray), 10)) else (if 0 < (x0.size : Int) then (if 1 < (x0.size : Int) then (if (wrap64 ((wrap64 ((wrap64 (bt x0 0)) * 256)) + (wrap64 (bt x0 1)))) > x1 then (some ((⟨#[]⟩ : ByteArray), (⟨#[]⟩ : ByteArray), 11)) else (if (x0.size : Int) < (wrap64 (2 + (wrap64 ((wrap64 ((wrap64 (bt x0 0)) * 256)) + (wrap64 (bt x0 1)))))) then (some ((⟨#[]⟩ : ByteArray), (⟨#[]⟩ : ByteArray), 10)) else (if 2 ≤ (wrap64 (2 + (wrap64 ((wrap64 ((wrap64 (bt x0 0)) * 256)) + (wrap64 (bt x0 1)))))) then (if (wrap64 (2 + (wrap64 ((wrap64 ((wrap64 (bt x0 0)) * 256)) + (wrap64 (bt x0 1)))))) ≤ (x0.size : Int) then (if 0 ≤ (wrap64 (2 + (wrap64 ((wrap64 ((wrap64 (bt x0 0)) * 256)) + (wrap64 (bt x0 1)))))) then (some (x0.extract 2 ((wrap64 (2 + (wrap64 ((wrap64 ((wrap64 (bt x0 0)) * 256)) + (wrap64 (bt x0 1)))))) : Int).toNat, x0.extract ((wrap64 (2 + (wrap64 ((wrap64 ((wrap64 (bt x0 0)) * 256)) + (wrap64 (bt x0 1)))))) : Int).toNat x0.size, 0)) else (none)) else (none)) else (none)))) else (none)) else (none)))
def chaffref17_TakeText.f (k : Nat) (a0 : ByteArray) (a1 : Int) : Option (ByteArray × ByteArray × Int) := if a1 < 0 then (chaffref17_TakeText.j0 k a0 a1 true) else (chaffref17_TakeText.j0 k a0 a1 (decide (a1 > 65535)))
theorem chaffref17_TakeText.mono_l : ∀ k, (∀ y0 y1 y2, LeO (chaffref17_TakeText.j0 k y0 y1 y2) (chaffref17_TakeText.j0 (k + 1) y0 y1 y2))
  | 0 => fun _ _ _ r h => by simp [chaffref17_TakeText.j0] at h
  | k + 1 => by
    have ih0 := chaffref17_TakeText.mono_l k
    · intro y0 y1 y2
      unfold chaffref17_TakeText.j0
      repeat' first
      | (with_reducible exact ih0 _ _ _)
      | (with_reducible exact LeO.refl _)
      | (with_reducible exact LeO.none _)
      | (with_reducible refine LeO.ite ?_ ?_)
      | (with_reducible refine LeO.bind ?_ (fun _ => ?_))
      | exact ih0 _ _ _
      | exact LeO.none _
      | refine LeO.ite ?_ ?_
      | refine LeO.bind ?_ (fun _ => ?_)
theorem chaffref17_TakeText.mono : ∀ a0 a1 k, LeO (chaffref17_TakeText.f k a0 a1) (chaffref17_TakeText.f (k + 1) a0 a1) := by
  intro a0 a1 k
  have ih0 := chaffref17_TakeText.mono_l k
  unfold chaffref17_TakeText.f
  repeat' first
      | (with_reducible exact ih0 _ _ _)
      | (with_reducible exact LeO.refl _)
      | (with_reducible exact LeO.none _)
      | (with_reducible refine LeO.ite ?_ ?_)
      | (with_reducible refine LeO.bind ?_ (fun _ => ?_))
      | exact ih0 _ _ _
      | exact LeO.none _
      | refine LeO.ite ?_ ?_
      | refine LeO.bind ?_ (fun _ => ?_)
set_option maxHeartbeats 8000000 in
set_option maxRecDepth 100000 in
theorem chaffref17_TakeText.calls (k : Nat) (a0 : ByteArray) (a1 : Int) (r1 : ByteArray) (r2 : ByteArray) (r3 : Int) (w : World) (h : chaffref17_TakeText.f k a0 a1 = some (r1, r2, r3)) :
    Calls Try.prog 27 #[.string a0, .int .i64 a1] w fun e w' => e = .returned (.tuple #[.string r1, .string r2, .int .i64 r3]) ∧ Drawn0 w w' := by
  have H : (if a1 < 0 then (chaffref17_TakeText.j0 k a0 a1 true) else (chaffref17_TakeText.j0 k a0 a1 (decide (a1 > 65535)))) = some (r1, r2, r3) := h
  clear h
  have HC3 := Aside0.mk H
  clear H
  go_enter Try.func27, Try.ntmps27
  go_upto_region 1 with (fail)
  repeat (go_quiet (fail); go_upto_region 1 with (fail))
  go_cut [13] (fun v13 wc => ∃ (kq : Nat) (x13_2 : Bool), v13 = .bool x13_2 ∧ Aside0 (chaffref17_TakeText.j0 kq a0 a1 x13_2 = some (r1, r2, r3)) ∧ Aside0 (kq ≤ k) ∧ Drawn0 w wc)
  case first =>
    have H := HC3.out
    clear HC3
    by_cases c4 : a1 < 0
    · rw [if_pos c4] at H
      have c4b0 : decide (a1 < 0) = true := decide_eq_true c4
      clear c4
      (first | rw [c4b0] | (simp only [i64_w, i32_w]; rw [c4b0]) | skip)
      have H' := Aside0.mk H
      clear H
      go_wp2
      repeat (go_quiet (fail); try go_wp2)
      go_meet
      case rel => exact ⟨_, (true), (by first | rfl | (simp; done) | (simp [*]; done)), H', ⟨by first | omega | exact Nat.le_refl _⟩, by repeat (first | exact Drawn0.refl _ | apply Drawn0.step)⟩
    · rw [if_neg c4] at H
      have c4b0 : decide (a1 < 0) = false := decide_eq_false c4
      clear c4
      (first | rw [c4b0] | (simp only [i64_w, i32_w]; rw [c4b0]) | skip)
      have H' := Aside0.mk H
      clear H
      go_wp2
      repeat (go_quiet (fail); try go_wp2)
      go_meet
      case rel => exact ⟨_, (decide (a1 > 65535)), (by first | rfl | (simp; done) | (simp [*]; done)), H', ⟨by first | omega | exact Nat.le_refl _⟩, by repeat (first | exact Drawn0.refl _ | apply Drawn0.step)⟩
  case rest =>
    clear HC3
    try clear c2
    try clear p2
    try clear c4
    try clear c4b0
    obtain ⟨kq, x13_2, rfl, HA, HJ2, ⟨mc2, rfl⟩⟩ := hcut
    cases kq with
    | zero => exact absurd HA.out (by simp [chaffref17_TakeText.j0])
    | succ kj2 =>
      have H := HA.out
      clear HA
      simp only [chaffref17_TakeText.j0] at H
      by_cases c5 : x13_2 = true
      · subst c5
        have H1 : (some ((⟨#[]⟩ : ByteArray), (⟨#[]⟩ : ByteArray), 5)) = some (r1, r2, r3) := by rw [if_pos rfl] at H; exact H
        clear H
        have H := H1
        clear H1
        simp only [Option.some.injEq, Prod.mk.injEq] at H
        obtain ⟨rfl, rfl, rfl⟩ := H
        go_wp2
        repeat (go_quiet (fail); try go_wp2)
        go_ret3
        exact ⟨by first | rfl | (simp; done) | (simp [*]; done), by repeat (first | exact Drawn0.refl _ | apply Drawn0.step)⟩
      · replace c5 := Bool.eq_false_iff.mpr c5
        subst c5
        have H1 : (if (a0.size : Int) < 2 then (some ((⟨#[]⟩ : ByteArray), (⟨#[]⟩ : ByteArray), 10)) else (if 0 < (a0.size : Int) then (if 1 < (a0.size : Int) then (if (wrap64 ((wrap64 ((wrap64 (bt a0 0)) * 256)) + (wrap64 (bt a0 1)))) > a1 then (some ((⟨#[]⟩ : ByteArray), (⟨#[]⟩ : ByteArray), 11)) else (if (a0.size : Int) < (wrap64 (2 + (wrap64 ((wrap64 ((wrap64 (bt a0 0)) * 256)) + (wrap64 (bt a0 1)))))) then (some ((⟨#[]⟩ : ByteArray), (⟨#[]⟩ : ByteArray), 10)) else (if 2 ≤ (wrap64 (2 + (wrap64 ((wrap64 ((wrap64 (bt a0 0)) * 256)) + (wrap64 (bt a0 1)))))) then (if (wrap64 (2 + (wrap64 ((wrap64 ((wrap64 (bt a0 0)) * 256)) + (wrap64 (bt a0 1)))))) ≤ (a0.size : Int) then (if 0 ≤ (wrap64 (2 + (wrap64 ((wrap64 ((wrap64 (bt a0 0)) * 256)) + (wrap64 (bt a0 1)))))) then (some (a0.extract 2 ((wrap64 (2 + (wrap64 ((wrap64 ((wrap64 (bt a0 0)) * 256)) + (wrap64 (bt a0 1)))))) : Int).toNat, a0.extract ((wrap64 (2 + (wrap64 ((wrap64 ((wrap64 (bt a0 0)) * 256)) + (wrap64 (bt a0 1)))))) : Int).toNat a0.size, 0)) else (none)) else (none)) else (none)))) else (none)) else (none))) = some (r1, r2, r3) := by rw [if_neg (show ¬ (false = true) by decide)] at H; exact H
        clear H
        have H := H1
        clear H1
        by_cases c6 : (a0.size : Int) < 2
        · rw [if_pos c6] at H
          have c6b0 : decide ((a0.size : Int) < 2) = true := decide_eq_true c6
          have c6b1 : decide (a0.size < 2) = true := decide_eq_true (by omega)
          clear c6
          simp only [Option.some.injEq, Prod.mk.injEq] at H
          obtain ⟨rfl, rfl, rfl⟩ := H
          go_wp2
          repeat (go_quiet (fail); try go_wp2)
          go_ret3
          exact ⟨by first | rfl | (simp; done) | (simp [*]; done), by repeat (first | exact Drawn0.refl _ | apply Drawn0.step)⟩
        · rw [if_neg c6] at H
          have c6b0 : decide ((a0.size : Int) < 2) = false := decide_eq_false c6
          have c6b1 : decide (a0.size < 2) = false := decide_eq_false (by omega)
          clear c6
          by_cases c7 : 0 < (a0.size : Int)
          · rw [if_pos c7] at H
            have c7b0 : decide (0 < (a0.size : Int)) = true := decide_eq_true c7
            have c7b1 : decide (0 < a0.size) = true := decide_eq_true (by omega)
            clear c7
            by_cases c9 : 1 < (a0.size : Int)
            · rw [if_pos c9] at H
              have c9b0 : decide (1 < (a0.size : Int)) = true := decide_eq_true c9
              have c9b1 : decide (1 < a0.size) = true := decide_eq_true (by omega)
              clear c9
              by_cases c11 : (wrap64 ((wrap64 ((wrap64 (bt a0 0)) * 256)) + (wrap64 (bt a0 1)))) > a1
              · rw [if_pos c11] at H
                have c11b0 : decide (a1 < (wrap64 ((wrap64 ((wrap64 (bt a0 0)) * 256)) + (wrap64 (bt a0 1))))) = true := decide_eq_true c11
                clear c11
                simp only [Option.some.injEq, Prod.mk.injEq] at H
                obtain ⟨rfl, rfl, rfl⟩ := H
                have p8 : 0 ≤ (0 : Int) := (by omega)
                have q8 : 0 < a0.size := (by have : (0 : Int) < (a0.size : Int) := of_decide_eq_true (by first | (with_reducible assumption) | assumption); omega)
                have hx8 : ∀ h : 0 < a0.size, ((a0[0]'h).toNat : Int) = bt a0 0 := bt_at a0 0
                clear p8
                have qi8 : (0 < (a0.size : Int)) = True := eq_true (of_decide_eq_true (by first | (with_reducible assumption) | assumption))
                replace q8 := eq_true q8
                have p10 : 0 ≤ (1 : Int) := (by omega)
                have q10 : 1 < a0.size := (by have : (1 : Int) < (a0.size : Int) := of_decide_eq_true (by first | (with_reducible assumption) | assumption); omega)
                have hx10 : ∀ h : 1 < a0.size, ((a0[1]'h).toNat : Int) = bt a0 1 := bt_at a0 1
                clear p10
                have qi10 : (1 < (a0.size : Int)) = True := eq_true (of_decide_eq_true (by first | (with_reducible assumption) | assumption))
                replace q10 := eq_true q10
                go_wp2
                repeat (go_quiet (fail); try go_wp2)
                go_ret3
                exact ⟨by first | rfl | (simp; done) | (simp [*]; done), by repeat (first | exact Drawn0.refl _ | apply Drawn0.step)⟩
              · rw [if_neg c11] at H
                have c11b0 : decide (a1 < (wrap64 ((wrap64 ((wrap64 (bt a0 0)) * 256)) + (wrap64 (bt a0 1))))) = false := decide_eq_false c11
                clear c11
                by_cases c12 : (a0.size : Int) < (wrap64 (2 + (wrap64 ((wrap64 ((wrap64 (bt a0 0)) * 256)) + (wrap64 (bt a0 1))))))
                · rw [if_pos c12] at H
                  have c12b0 : decide ((a0.size : Int) < (wrap64 (2 + (wrap64 ((wrap64 ((wrap64 (bt a0 0)) * 256)) + (wrap64 (bt a0 1))))))) = true := decide_eq_true c12
                  clear c12
                  simp only [Option.some.injEq, Prod.mk.injEq] at H
                  obtain ⟨rfl, rfl, rfl⟩ := H
                  have p8 : 0 ≤ (0 : Int) := (by omega)
                  have q8 : 0 < a0.size := (by have : (0 : Int) < (a0.size : Int) := of_decide_eq_true (by first | (with_reducible assumption) | assumption); omega)
                  have hx8 : ∀ h : 0 < a0.size, ((a0[0]'h).toNat : Int) = bt a0 0 := bt_at a0 0
                  clear p8
                  have qi8 : (0 < (a0.size : Int)) = True := eq_true (of_decide_eq_true (by first | (with_reducible assumption) | assumption))
                  replace q8 := eq_true q8
                  have p10 : 0 ≤ (1 : Int) := (by omega)
                  have q10 : 1 < a0.size := (by have : (1 : Int) < (a0.size : Int) := of_decide_eq_true (by first | (with_reducible assumption) | assumption); omega)
                  have hx10 : ∀ h : 1 < a0.size, ((a0[1]'h).toNat : Int) = bt a0 1 := bt_at a0 1
                  clear p10
                  have qi10 : (1 < (a0.size : Int)) = True := eq_true (of_decide_eq_true (by first | (with_reducible assumption) | assumption))
                  replace q10 := eq_true q10
                  go_wp2
                  repeat (go_quiet (fail); try go_wp2)
                  go_ret3
                  exact ⟨by first | rfl | (simp; done) | (simp [*]; done), by repeat (first | exact Drawn0.refl _ | apply Drawn0.step)⟩
                · rw [if_neg c12] at H
                  have c12b0 : decide ((a0.size : Int) < (wrap64 (2 + (wrap64 ((wrap64 ((wrap64 (bt a0 0)) * 256)) + (wrap64 (bt a0 1))))))) = false := decide_eq_false c12
                  clear c12
                  by_cases c13 : 2 ≤ (wrap64 (2 + (wrap64 ((wrap64 ((wrap64 (bt a0 0)) * 256)) + (wrap64 (bt a0 1))))))
                  · rw [if_pos c13] at H
                    have c13b0 := eq_true c13
                    have c13b1 : decide (2 ≤ (wrap64 (2 + (wrap64 ((wrap64 ((wrap64 (bt a0 0)) * 256)) + (wrap64 (bt a0 1))))))) = true := decide_eq_true c13
                    by_cases c14 : (wrap64 (2 + (wrap64 ((wrap64 ((wrap64 (bt a0 0)) * 256)) + (wrap64 (bt a0 1)))))) ≤ (a0.size : Int)
                    · rw [if_pos c14] at H
                      have c14b0 := eq_true c14
                      have c14b1 : decide ((wrap64 (2 + (wrap64 ((wrap64 ((wrap64 (bt a0 0)) * 256)) + (wrap64 (bt a0 1)))))) ≤ (a0.size : Int)) = true := decide_eq_true c14
                      obtain ⟨ji15, hji15⟩ : ∃ j_ : Int, (wrap64 (2 + (wrap64 ((wrap64 ((wrap64 (bt a0 0)) * 256)) + (wrap64 (bt a0 1)))))) = j_ := ⟨_, rfl⟩
                      replace H : (if 0 ≤ (ji15) then (some (a0.extract 2 ((ji15) : Int).toNat, a0.extract ((ji15) : Int).toNat a0.size, 0)) else (none)) = some (r1, r2, r3) := by first | (rw [hji15] at H; exact H) | (simp only [hji15] at H ⊢; exact H)
                      (try rw [hji15] at c12b0)
                      (try rw [hji15] at c13b0)
                      (try rw [hji15] at c13b1)
                      (try rw [hji15] at c13)
                      (try rw [hji15] at c14b0)
                      (try rw [hji15] at c14b1)
                      (try rw [hji15] at c14)
                      have hji15w : (IntKind.i64.wrap (2 + (wrap64 ((wrap64 ((wrap64 (bt a0 0)) * 256)) + (wrap64 (bt a0 1)))))) = ji15 := (i64_w _).trans hji15
                      by_cases c16 : 0 ≤ (ji15)
                      · rw [if_pos c16] at H
                        have c16b0 := eq_true c16
                        have c16b1 : decide (0 ≤ (ji15)) = true := decide_eq_true c16
                        clear c16
                        have c17b0 := eq_true (of_decide_eq_true (by first | (with_reducible assumption) | assumption) : (ji15) ≤ (a0.size : Int))
                        simp only [Option.some.injEq, Prod.mk.injEq] at H
                        obtain ⟨rfl, rfl, rfl⟩ := H
                        have p8 : 0 ≤ (0 : Int) := (by omega)
                        have q8 : 0 < a0.size := (by have : (0 : Int) < (a0.size : Int) := of_decide_eq_true (by first | (with_reducible assumption) | assumption); omega)
                        have hx8 : ∀ h : 0 < a0.size, ((a0[0]'h).toNat : Int) = bt a0 0 := bt_at a0 0
                        clear p8
                        have qi8 : (0 < (a0.size : Int)) = True := eq_true (of_decide_eq_true (by first | (with_reducible assumption) | assumption))
                        replace q8 := eq_true q8
                        have p10 : 0 ≤ (1 : Int) := (by omega)
                        have q10 : 1 < a0.size := (by have : (1 : Int) < (a0.size : Int) := of_decide_eq_true (by first | (with_reducible assumption) | assumption); omega)
                        have hx10 : ∀ h : 1 < a0.size, ((a0[1]'h).toNat : Int) = bt a0 1 := bt_at a0 1
                        clear p10
                        have qi10 : (1 < (a0.size : Int)) = True := eq_true (of_decide_eq_true (by first | (with_reducible assumption) | assumption))
                        replace q10 := eq_true q10
                        go_wp2
                        repeat (go_quiet (fail); try go_wp2)
                        go_ret3
                        exact ⟨by first | rfl | (simp; done) | (simp only [← hji15] <;> (first | rfl | simp)) | (simp [*]; done), by repeat (first | exact Drawn0.refl _ | apply Drawn0.step)⟩
                      · rw [if_neg c16] at H
                        exact absurd H (by simp)
                    · rw [if_neg c14] at H
                      exact absurd H (by simp)
                  · rw [if_neg c13] at H
                    exact absurd H (by simp)
            · rw [if_neg c9] at H
              exact absurd H (by simp)
          · rw [if_neg c7] at H
            exact absurd H (by simp)


/-! ### octet_End: function 28 -/
def octet_End.f (a0 : ByteArray) : Option (Int) := if a0.toList = ([] : List UInt8) then (some 0) else (some 11)
set_option maxHeartbeats 8000000 in
set_option maxRecDepth 100000 in
theorem octet_End.calls (a0 : ByteArray) (r : Int) (w : World) (h : octet_End.f a0 = some r) :
    Calls Try.prog 28 #[.string a0] w fun e w' => e = .returned (.int .i64 r) ∧ Drawn0 w w' := by
  have H : (if a0.toList = ([] : List UInt8) then (some 0) else (some 11)) = some r := h
  clear h
  by_cases c2 : a0.toList = ([] : List UInt8)
  · rw [if_pos c2] at H
    have c2b0 : (a0.toList == ([] : List UInt8)) = true := beq_iff_eq.mpr c2
    have c2b1 : (a0.toList != ([] : List UInt8)) = false := bne_eq_false_iff_eq.mpr c2
    clear c2
    obtain rfl := Option.some.inj H
    go_enter Try.func28, Try.ntmps28
    go_wp2
    go_ret
    exact ⟨by first | rfl | (simp; done) | (simp [*]; done), by repeat (first | exact Drawn0.refl _ | apply Drawn0.step)⟩
  · rw [if_neg c2] at H
    have c2b0 : (a0.toList == ([] : List UInt8)) = false := beq_eq_false_iff_ne.mpr c2
    have c2b1 : (a0.toList != ([] : List UInt8)) = true := bne_iff_ne.mpr c2
    obtain rfl := Option.some.inj H
    go_enter Try.func28, Try.ntmps28
    go_wp2
    go_ret
    exact ⟨by first | rfl | (simp; done) | (simp [*]; done), by repeat (first | exact Drawn0.refl _ | apply Drawn0.step)⟩


end Go.Proofs.Ytdmmklfphkgmlaa.Ba
