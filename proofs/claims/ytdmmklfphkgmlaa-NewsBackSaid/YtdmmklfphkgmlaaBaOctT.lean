/- octet.TakeText: as a Lean function, and its walk. -/
import Derived.Test.YtdmmklfphkgmlaaBaOct
namespace Go.Proofs.Ytdmmklfphkgmlaa.Ba
open Go.RowKit Go.Proofs.YtdmmklfphkgmlaaW.PrintWords Go.Proofs.YtdmmklfphkgmlaaW.PrintLast Go.Proofs.YtdmmklfphkgmlaaW.PrintMore
attribute [local go_sem] max2_int min2_int max_two min_two max_three min_three max_four min_four   -- for this text's walks alone
set_option linter.unusedVariables false
set_option linter.unusedSimpArgs false

/-! ### octet_TakeText: function 25 -/
def octet_TakeText.j0 : Nat → ByteArray → Int → Bool → Option (ByteArray × ByteArray × Int)
  | 0, _, _, _ => none
  | k + 1, x0, x1, x15 => if x15 = true then (some ((⟨#[]⟩ : ByteArray), (⟨#[]⟩ : ByteArray), 5)) else ((octet_Take.f k x0 2).bind fun bt127 => (if bt127.2.2 = 0 then (if (wrap64 (bt127.1)) > x1 then (some ((⟨#[]⟩ : ByteArray), (⟨#[]⟩ : ByteArray), 11)) else (if (bt127.2.1.size : Int) < (wrap64 (bt127.1)) then (some ((⟨#[]⟩ : ByteArray), (⟨#[]⟩ : ByteArray), 10)) else (if 0 ≤ bt127.1 then (if bt127.1 ≤ (bt127.2.1.size : Int) then (some (bt127.2.1.extract 0 (bt127.1 : Int).toNat, bt127.2.1.extract (bt127.1 : Int).toNat bt127.2.1.size, 0)) else (none)) else (none)))) else (some ((⟨#[]⟩ : ByteArray), (⟨#[]⟩ : ByteArray), bt127.2.2))))
def octet_TakeText.f (k : Nat) (a0 : ByteArray) (a1 : Int) : Option (ByteArray × ByteArray × Int) := if a1 < 0 then (octet_TakeText.j0 k a0 a1 true) else (octet_TakeText.j0 k a0 a1 (decide (a1 > 65535)))
theorem octet_TakeText.mono_l : ∀ k, (∀ y0 y1 y2, LeO (octet_TakeText.j0 k y0 y1 y2) (octet_TakeText.j0 (k + 1) y0 y1 y2))
  | 0 => fun _ _ _ r h => by simp [octet_TakeText.j0] at h
  | k + 1 => by
    have ih0 := octet_TakeText.mono_l k
    · intro y0 y1 y2
      unfold octet_TakeText.j0
      repeat' first
      | (with_reducible exact ih0 _ _ _)
      | (with_reducible exact octet_Take.mono _ _ _)
      | (with_reducible exact LeO.refl _)
      | (with_reducible exact LeO.none _)
      | (with_reducible refine LeO.ite ?_ ?_)
      | (with_reducible refine LeO.bind ?_ (fun _ => ?_))
      | exact ih0 _ _ _
      | exact octet_Take.mono _ _ _
      | exact LeO.none _
      | refine LeO.ite ?_ ?_
      | refine LeO.bind ?_ (fun _ => ?_)
theorem octet_TakeText.mono : ∀ a0 a1 k, LeO (octet_TakeText.f k a0 a1) (octet_TakeText.f (k + 1) a0 a1) := by
  intro a0 a1 k
  have ih0 := octet_TakeText.mono_l k
  unfold octet_TakeText.f
  repeat' first
      | (with_reducible exact ih0 _ _ _)
      | (with_reducible exact octet_Take.mono _ _ _)
      | (with_reducible exact LeO.refl _)
      | (with_reducible exact LeO.none _)
      | (with_reducible refine LeO.ite ?_ ?_)
      | (with_reducible refine LeO.bind ?_ (fun _ => ?_))
      | exact ih0 _ _ _
      | exact octet_Take.mono _ _ _
      | exact LeO.none _
      | refine LeO.ite ?_ ?_
      | refine LeO.bind ?_ (fun _ => ?_)
set_option maxHeartbeats 8000000 in
set_option maxRecDepth 100000 in
theorem octet_TakeText.calls (k : Nat) (a0 : ByteArray) (a1 : Int) (r1 : ByteArray) (r2 : ByteArray) (r3 : Int) (w : World) (h : octet_TakeText.f k a0 a1 = some (r1, r2, r3)) :
    Calls Try.prog 25 #[.string a0, .int .i64 a1] w fun e w' => e = .returned (.tuple #[.string r1, .string r2, .int .i64 r3]) ∧ Drawn0 w w' := by
  have H : (if a1 < 0 then (octet_TakeText.j0 k a0 a1 true) else (octet_TakeText.j0 k a0 a1 (decide (a1 > 65535)))) = some (r1, r2, r3) := h
  clear h
  have HC3 := Aside0.mk H
  clear H
  go_enter Try.func25, Try.ntmps25
  go_upto_region 1 with (fail)
  repeat (go_quiet (fail); go_upto_region 1 with (fail))
  go_cut [15] (fun v15 wc => ∃ (kq : Nat) (x15_2 : Bool), v15 = .bool x15_2 ∧ Aside0 (octet_TakeText.j0 kq a0 a1 x15_2 = some (r1, r2, r3)) ∧ Aside0 (kq ≤ k) ∧ Drawn0 w wc)
  case first =>
    have H := HC3.out
    clear HC3
    by_cases c4 : a1 < 0
    · rw [if_pos c4] at H
      have c4b0 : decide (a1 < 0) = true := decide_eq_true c4
      clear c4
      (first | rw [c4b0] | (simp only [i64_w, i32_w]; rw [c4b0]) | skip)
      have H' := Aside0.mk H
      clear H
      go_wp2
      repeat (go_quiet (fail); try go_wp2)
      go_meet
      case rel => exact ⟨_, (true), (by first | rfl | (simp; done) | (simp [*]; done)), H', ⟨by first | omega | exact Nat.le_refl _⟩, by repeat (first | exact Drawn0.refl _ | apply Drawn0.step)⟩
    · rw [if_neg c4] at H
      have c4b0 : decide (a1 < 0) = false := decide_eq_false c4
      clear c4
      (first | rw [c4b0] | (simp only [i64_w, i32_w]; rw [c4b0]) | skip)
      have H' := Aside0.mk H
      clear H
      go_wp2
      repeat (go_quiet (fail); try go_wp2)
      go_meet
      case rel => exact ⟨_, (decide (a1 > 65535)), (by first | rfl | (simp; done) | (simp [*]; done)), H', ⟨by first | omega | exact Nat.le_refl _⟩, by repeat (first | exact Drawn0.refl _ | apply Drawn0.step)⟩
  case rest =>
    clear HC3
    try clear c2
    try clear p2
    try clear c4
    try clear c4b0
    obtain ⟨kq, x15_2, rfl, HA, HJ2, ⟨mc2, rfl⟩⟩ := hcut
    cases kq with
    | zero => exact absurd HA.out (by simp [octet_TakeText.j0])
    | succ kj2 =>
      have H := HA.out
      clear HA
      simp only [octet_TakeText.j0] at H
      by_cases c5 : x15_2 = true
      · subst c5
        have H1 : (some ((⟨#[]⟩ : ByteArray), (⟨#[]⟩ : ByteArray), 5)) = some (r1, r2, r3) := by rw [if_pos rfl] at H; exact H
        clear H
        have H := H1
        clear H1
        simp only [Option.some.injEq, Prod.mk.injEq] at H
        obtain ⟨rfl, rfl, rfl⟩ := H
        go_wp2
        repeat (go_quiet (fail); try go_wp2)
        go_ret3
        exact ⟨by first | rfl | (simp; done) | (simp [*]; done), by repeat (first | exact Drawn0.refl _ | apply Drawn0.step)⟩
      · replace c5 := Bool.eq_false_iff.mpr c5
        subst c5
        have H1 : ((octet_Take.f kj2 a0 2).bind fun bt127 => (if bt127.2.2 = 0 then (if (wrap64 (bt127.1)) > a1 then (some ((⟨#[]⟩ : ByteArray), (⟨#[]⟩ : ByteArray), 11)) else (if (bt127.2.1.size : Int) < (wrap64 (bt127.1)) then (some ((⟨#[]⟩ : ByteArray), (⟨#[]⟩ : ByteArray), 10)) else (if 0 ≤ bt127.1 then (if bt127.1 ≤ (bt127.2.1.size : Int) then (some (bt127.2.1.extract 0 (bt127.1 : Int).toNat, bt127.2.1.extract (bt127.1 : Int).toNat bt127.2.1.size, 0)) else (none)) else (none)))) else (some ((⟨#[]⟩ : ByteArray), (⟨#[]⟩ : ByteArray), bt127.2.2)))) = some (r1, r2, r3) := by rw [if_neg (show ¬ (false = true) by decide)] at H; exact H
        clear H
        have H := H1
        clear H1
        replace H := Option.bind_eq_some_iff.mp H
        obtain ⟨⟨t127, t128, t129⟩, A60, H⟩ := H
        replace H : (if t129 = 0 then (if (wrap64 (t127)) > a1 then (some ((⟨#[]⟩ : ByteArray), (⟨#[]⟩ : ByteArray), 11)) else (if (t128.size : Int) < (wrap64 (t127)) then (some ((⟨#[]⟩ : ByteArray), (⟨#[]⟩ : ByteArray), 10)) else (if 0 ≤ t127 then (if t127 ≤ (t128.size : Int) then (some (t128.extract 0 (t127 : Int).toNat, t128.extract (t127 : Int).toNat t128.size, 0)) else (none)) else (none)))) else (some ((⟨#[]⟩ : ByteArray), (⟨#[]⟩ : ByteArray), t129))) = some (r1, r2, r3) := H
        have A6 := Aside0.mk A60
        clear A60
        by_cases c7 : t129 = 0
        · rw [if_pos c7] at H
          have c7b0 : (t129 == 0) = true := beq_iff_eq.mpr c7
          have c7b1 : (t129 != 0) = false := bne_eq_false_iff_eq.mpr c7
          clear c7
          by_cases c8 : (wrap64 (t127)) > a1
          · rw [if_pos c8] at H
            have c8b0 : decide (a1 < (wrap64 (t127))) = true := decide_eq_true c8
            clear c8
            simp only [Option.some.injEq, Prod.mk.injEq] at H
            obtain ⟨rfl, rfl, rfl⟩ := H
            go_wp2_with (first | (go_at_call 16; (with_reducible refine (octet_Take.calls kj2 a0 2 t127 t128 t129 _ A6.out).mono ?_); rintro e w' ⟨rfl, ⟨nd, rfl⟩⟩; (try first | exact ⟨rfl, _, World.drewN_drewN _ _ _⟩ | exact ⟨rfl, _, Eq.trans (World.drewN_drewN _ _ _) (congrArg (World.drewN _) (Nat.add_assoc _ _ _))⟩)))
            repeat (go_quiet (first | (go_at_call 16; (with_reducible refine (octet_Take.calls kj2 a0 2 t127 t128 t129 _ A6.out).mono ?_); rintro e w' ⟨rfl, ⟨nd, rfl⟩⟩; (try first | exact ⟨rfl, _, World.drewN_drewN _ _ _⟩ | exact ⟨rfl, _, Eq.trans (World.drewN_drewN _ _ _) (congrArg (World.drewN _) (Nat.add_assoc _ _ _))⟩))); try go_wp2_with (first | (go_at_call 16; (with_reducible refine (octet_Take.calls kj2 a0 2 t127 t128 t129 _ A6.out).mono ?_); rintro e w' ⟨rfl, ⟨nd, rfl⟩⟩; (try first | exact ⟨rfl, _, World.drewN_drewN _ _ _⟩ | exact ⟨rfl, _, Eq.trans (World.drewN_drewN _ _ _) (congrArg (World.drewN _) (Nat.add_assoc _ _ _))⟩))))
            go_ret3
            exact ⟨by first | rfl | (simp; done) | (simp [*]; done), by repeat (first | exact Drawn0.refl _ | apply Drawn0.step)⟩
          · rw [if_neg c8] at H
            have c8b0 : decide (a1 < (wrap64 (t127))) = false := decide_eq_false c8
            clear c8
            by_cases c9 : (t128.size : Int) < (wrap64 (t127))
            · rw [if_pos c9] at H
              have c9b0 : decide ((t128.size : Int) < (wrap64 (t127))) = true := decide_eq_true c9
              clear c9
              simp only [Option.some.injEq, Prod.mk.injEq] at H
              obtain ⟨rfl, rfl, rfl⟩ := H
              go_wp2_with (first | (go_at_call 16; (with_reducible refine (octet_Take.calls kj2 a0 2 t127 t128 t129 _ A6.out).mono ?_); rintro e w' ⟨rfl, ⟨nd, rfl⟩⟩; (try first | exact ⟨rfl, _, World.drewN_drewN _ _ _⟩ | exact ⟨rfl, _, Eq.trans (World.drewN_drewN _ _ _) (congrArg (World.drewN _) (Nat.add_assoc _ _ _))⟩)))
              repeat (go_quiet (first | (go_at_call 16; (with_reducible refine (octet_Take.calls kj2 a0 2 t127 t128 t129 _ A6.out).mono ?_); rintro e w' ⟨rfl, ⟨nd, rfl⟩⟩; (try first | exact ⟨rfl, _, World.drewN_drewN _ _ _⟩ | exact ⟨rfl, _, Eq.trans (World.drewN_drewN _ _ _) (congrArg (World.drewN _) (Nat.add_assoc _ _ _))⟩))); try go_wp2_with (first | (go_at_call 16; (with_reducible refine (octet_Take.calls kj2 a0 2 t127 t128 t129 _ A6.out).mono ?_); rintro e w' ⟨rfl, ⟨nd, rfl⟩⟩; (try first | exact ⟨rfl, _, World.drewN_drewN _ _ _⟩ | exact ⟨rfl, _, Eq.trans (World.drewN_drewN _ _ _) (congrArg (World.drewN _) (Nat.add_assoc _ _ _))⟩))))
              go_ret3
              exact ⟨by first | rfl | (simp; done) | (simp [*]; done), by repeat (first | exact Drawn0.refl _ | apply Drawn0.step)⟩
            · rw [if_neg c9] at H
              have c9b0 : decide ((t128.size : Int) < (wrap64 (t127))) = false := decide_eq_false c9
              clear c9
              by_cases c10 : 0 ≤ t127
              · rw [if_pos c10] at H
                have c10b0 := eq_true c10
                have c10b1 : decide (0 ≤ t127) = true := decide_eq_true c10
                clear c10
                by_cases c11 : t127 ≤ (t128.size : Int)
                · rw [if_pos c11] at H
                  have c11b0 := eq_true c11
                  have c11b1 : decide (t127 ≤ (t128.size : Int)) = true := decide_eq_true c11
                  clear c11
                  have c12b0 := eq_true (of_decide_eq_true (by first | (with_reducible assumption) | assumption) : 0 ≤ t127)
                  have c13b0 := eq_true (of_decide_eq_true (by first | (with_reducible assumption) | assumption) : t127 ≤ (t128.size : Int))
                  simp only [Option.some.injEq, Prod.mk.injEq] at H
                  obtain ⟨rfl, rfl, rfl⟩ := H
                  go_wp2_with (first | (go_at_call 16; (with_reducible refine (octet_Take.calls kj2 a0 2 t127 t128 t129 _ A6.out).mono ?_); rintro e w' ⟨rfl, ⟨nd, rfl⟩⟩; (try first | exact ⟨rfl, _, World.drewN_drewN _ _ _⟩ | exact ⟨rfl, _, Eq.trans (World.drewN_drewN _ _ _) (congrArg (World.drewN _) (Nat.add_assoc _ _ _))⟩)))
                  repeat (go_quiet (first | (go_at_call 16; (with_reducible refine (octet_Take.calls kj2 a0 2 t127 t128 t129 _ A6.out).mono ?_); rintro e w' ⟨rfl, ⟨nd, rfl⟩⟩; (try first | exact ⟨rfl, _, World.drewN_drewN _ _ _⟩ | exact ⟨rfl, _, Eq.trans (World.drewN_drewN _ _ _) (congrArg (World.drewN _) (Nat.add_assoc _ _ _))⟩))); try go_wp2_with (first | (go_at_call 16; (with_reducible refine (octet_Take.calls kj2 a0 2 t127 t128 t129 _ A6.out).mono ?_); rintro e w' ⟨rfl, ⟨nd, rfl⟩⟩; (try first | exact ⟨rfl, _, World.drewN_drewN _ _ _⟩ | exact ⟨rfl, _, Eq.trans (World.drewN_drewN _ _ _) (congrArg (World.drewN _) (Nat.add_assoc _ _ _))⟩))))
                  go_ret3
                  exact ⟨by first | rfl | (simp; done) | (simp [*]; done), by repeat (first | exact Drawn0.refl _ | apply Drawn0.step)⟩
                · rw [if_neg c11] at H
                  exact absurd H (by simp)
              · rw [if_neg c10] at H
                exact absurd H (by simp)
        · rw [if_neg c7] at H
          have c7b0 : (t129 == 0) = false := beq_eq_false_iff_ne.mpr c7
          have c7b1 : (t129 != 0) = true := bne_iff_ne.mpr c7
          simp only [Option.some.injEq, Prod.mk.injEq] at H
          obtain ⟨rfl, rfl, rfl⟩ := H
          go_wp2_with (first | (go_at_call 16; (with_reducible refine (octet_Take.calls kj2 a0 2 t127 t128 t129 _ A6.out).mono ?_); rintro e w' ⟨rfl, ⟨nd, rfl⟩⟩; (try first | exact ⟨rfl, _, World.drewN_drewN _ _ _⟩ | exact ⟨rfl, _, Eq.trans (World.drewN_drewN _ _ _) (congrArg (World.drewN _) (Nat.add_assoc _ _ _))⟩)))
          repeat (go_quiet (first | (go_at_call 16; (with_reducible refine (octet_Take.calls kj2 a0 2 t127 t128 t129 _ A6.out).mono ?_); rintro e w' ⟨rfl, ⟨nd, rfl⟩⟩; (try first | exact ⟨rfl, _, World.drewN_drewN _ _ _⟩ | exact ⟨rfl, _, Eq.trans (World.drewN_drewN _ _ _) (congrArg (World.drewN _) (Nat.add_assoc _ _ _))⟩))); try go_wp2_with (first | (go_at_call 16; (with_reducible refine (octet_Take.calls kj2 a0 2 t127 t128 t129 _ A6.out).mono ?_); rintro e w' ⟨rfl, ⟨nd, rfl⟩⟩; (try first | exact ⟨rfl, _, World.drewN_drewN _ _ _⟩ | exact ⟨rfl, _, Eq.trans (World.drewN_drewN _ _ _) (congrArg (World.drewN _) (Nat.add_assoc _ _ _))⟩))))
          go_ret3
          exact ⟨by first | rfl | (simp; done) | (simp [*]; done), by repeat (first | exact Drawn0.refl _ | apply Drawn0.step)⟩


end Go.Proofs.Ytdmmklfphkgmlaa.Ba
