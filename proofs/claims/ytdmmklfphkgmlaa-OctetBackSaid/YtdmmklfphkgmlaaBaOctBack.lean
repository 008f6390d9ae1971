/- OctetBack: as a Lean function, and its walk. -/
import Derived.Test.YtdmmklfphkgmlaaBaOctT
namespace Go.Proofs.Ytdmmklfphkgmlaa.Ba
open Go.RowKit Go.Proofs.YtdmmklfphkgmlaaW.PrintWords Go.Proofs.YtdmmklfphkgmlaaW.PrintLast Go.Proofs.YtdmmklfphkgmlaaW.PrintMore
attribute [local go_sem] max2_int min2_int max_two min_two max_three min_three max_four min_four   -- for this text's walks alone
set_option linter.unusedVariables false
set_option linter.unusedSimpArgs false

/-! ### chafflaw17_OctetBack: function 5 -/
mutual
def chafflaw17_OctetBack.j0 : Nat → Int → ByteArray → ByteArray → Int → Bool → Option (Bool)
  | 0, _, _, _, _, _ => none
  | k + 1, x0, x1, x2, x3, x25 => if x25 = true then ((chafflaw17_Awake.f k).bind fun t130 => (some t130)) else ((octet_Put.f k x0 (wrap64 ((wrap64 (Int.tmod x3 8)) + 1))).bind fun bt131 => ((octet_PutText.f k x1 1000).bind fun bt133 => (if bt133.1.size + x2.size ≤ 9223372036854775807 then ((octet_TakeText.f k (bt133.1 ++ x2) 1000).bind fun bt135 => (if bt133.2 = 0 then (if bt135.2.2 = 0 then (if bt135.1.toList = x1.toList then (chafflaw17_OctetBack.j1 k x0 x2 (wrap64 ((wrap64 (Int.tmod x3 8)) + 1)) bt131.1 bt131.2 (bt135.2.1.toList != x2.toList)) else (chafflaw17_OctetBack.j1 k x0 x2 (wrap64 ((wrap64 (Int.tmod x3 8)) + 1)) bt131.1 bt131.2 true)) else (chafflaw17_OctetBack.j1 k x0 x2 (wrap64 ((wrap64 (Int.tmod x3 8)) + 1)) bt131.1 bt131.2 true)) else (chafflaw17_OctetBack.j1 k x0 x2 (wrap64 ((wrap64 (Int.tmod x3 8)) + 1)) bt131.1 bt131.2 true))) else (none))))
def chafflaw17_OctetBack.j1 : Nat → Int → ByteArray → Int → ByteArray → Int → Bool → Option (Bool)
  | 0, _, _, _, _, _, _ => none
  | k + 1, x0, x2, x9, x10, x11, x65 => if x65 = true then (some false) else (if x11 = 0 then (if x10.size + x2.size ≤ 9223372036854775807 then ((octet_Take.f k (x10 ++ x2) x9).bind fun bt138 => ((chafflaw17_Awake.f k).bind fun t141 => (if t141 = true then (if (x10.size : Int) = x9 then (if bt138.1 = x0 then (if bt138.2.1.toList = x2.toList then (some (bt138.2.2 == 0)) else (some false)) else (some false)) else (some false)) else (some false)))) else (none)) else ((chafflaw17_Awake.f k).bind fun t142 => (if t142 = true then (if 0 ≤ (wrap64 (8 * x9)) then (some (decide ((shr .u64 x0 (wrap64 (8 * x9))) > 0))) else (none)) else (some false))))
end
def chafflaw17_OctetBack.f (k : Nat) (a0 : Int) (a1 : ByteArray) (a2 : ByteArray) (a3 : Int) : Option (Bool) := if (a1.size : Int) > 1000 then (chafflaw17_OctetBack.j0 k a0 a1 a2 a3 true) else (chafflaw17_OctetBack.j0 k a0 a1 a2 a3 (decide ((a2.size : Int) > 100)))
theorem chafflaw17_OctetBack.mono_l : ∀ k, (∀ y0 y1 y2 y3 y4, LeO (chafflaw17_OctetBack.j0 k y0 y1 y2 y3 y4) (chafflaw17_OctetBack.j0 (k + 1) y0 y1 y2 y3 y4)) ∧ (∀ y0 y1 y2 y3 y4 y5, LeO (chafflaw17_OctetBack.j1 k y0 y1 y2 y3 y4 y5) (chafflaw17_OctetBack.j1 (k + 1) y0 y1 y2 y3 y4 y5))
  | 0 => ⟨fun _ _ _ _ _ r h => by simp [chafflaw17_OctetBack.j0] at h, fun _ _ _ _ _ _ r h => by simp [chafflaw17_OctetBack.j1] at h⟩
  | k + 1 => by
    obtain ⟨ih0, ih1⟩ := chafflaw17_OctetBack.mono_l k
    refine ⟨?_, ?_⟩
    · intro y0 y1 y2 y3 y4
      unfold chafflaw17_OctetBack.j0
      repeat' first
      | (with_reducible exact ih0 _ _ _ _ _)
      | (with_reducible exact ih1 _ _ _ _ _ _)
      | (with_reducible exact chafflaw17_Awake.mono _)
      | (with_reducible exact octet_Put.mono _ _ _)
      | (with_reducible exact octet_PutText.mono _ _ _)
      | (with_reducible exact octet_Take.mono _ _ _)
      | (with_reducible exact octet_TakeText.mono _ _ _)
      | (with_reducible exact LeO.refl _)
      | (with_reducible exact LeO.none _)
      | (with_reducible refine LeO.ite ?_ ?_)
      | (with_reducible refine LeO.bind ?_ (fun _ => ?_))
      | exact ih0 _ _ _ _ _
      | exact ih1 _ _ _ _ _ _
      | exact chafflaw17_Awake.mono _
      | exact octet_Put.mono _ _ _
      | exact octet_PutText.mono _ _ _
      | exact octet_Take.mono _ _ _
      | exact octet_TakeText.mono _ _ _
      | exact LeO.none _
      | refine LeO.ite ?_ ?_
      | refine LeO.bind ?_ (fun _ => ?_)
    · intro y0 y1 y2 y3 y4 y5
      unfold chafflaw17_OctetBack.j1
      repeat' first
      | (with_reducible exact ih0 _ _ _ _ _)
      | (with_reducible exact ih1 _ _ _ _ _ _)
      | (with_reducible exact chafflaw17_Awake.mono _)
      | (with_reducible exact octet_Put.mono _ _ _)
      | (with_reducible exact octet_PutText.mono _ _ _)
      | (with_reducible exact octet_Take.mono _ _ _)
      | (with_reducible exact octet_TakeText.mono _ _ _)
      | (with_reducible exact LeO.refl _)
      | (with_reducible exact LeO.none _)
      | (with_reducible refine LeO.ite ?_ ?_)
      | (with_reducible refine LeO.bind ?_ (fun _ => ?_))
      | exact ih0 _ _ _ _ _
      | exact ih1 _ _ _ _ _ _
      | exact chafflaw17_Awake.mono _
      | exact octet_Put.mono _ _ _
      | exact octet_PutText.mono _ _ _
      | exact octet_Take.mono _ _ _
      | exact octet_TakeText.mono _ _ _
      | exact LeO.none _
      | refine LeO.ite ?_ ?_
      | refine LeO.bind ?_ (fun _ => ?_)
theorem chafflaw17_OctetBack.mono : ∀ a0 a1 a2 a3 k, LeO (chafflaw17_OctetBack.f k a0 a1 a2 a3) (chafflaw17_OctetBack.f (k + 1) a0 a1 a2 a3) := by
  intro a0 a1 a2 a3 k
  obtain ⟨ih0, ih1⟩ := chafflaw17_OctetBack.mono_l k
  unfold chafflaw17_OctetBack.f
  repeat' first
      | (with_reducible exact ih0 _ _ _ _ _)
      | (with_reducible exact ih1 _ _ _ _ _ _)
      | (with_reducible exact chafflaw17_Awake.mono _)
      | (with_reducible exact octet_Put.mono _ _ _)
      | (with_reducible exact octet_PutText.mono _ _ _)
      | (with_reducible exact octet_Take.mono _ _ _)
      | (with_reducible exact octet_TakeText.mono _ _ _)
      | (with_reducible exact LeO.refl _)
      | (with_reducible exact LeO.none _)
      | (with_reducible refine LeO.ite ?_ ?_)
      | (with_reducible refine LeO.bind ?_ (fun _ => ?_))
      | exact ih0 _ _ _ _ _
      | exact ih1 _ _ _ _ _ _
      | exact chafflaw17_Awake.mono _
      | exact octet_Put.mono _ _ _
      | exact octet_PutText.mono _ _ _
      | exact octet_Take.mono _ _ _
      | exact octet_TakeText.mono _ _ _
      | exact LeO.none _
      | refine LeO.ite ?_ ?_
      | refine LeO.bind ?_ (fun _ => ?_)
set_option maxHeartbeats 8000000 in
set_option maxRecDepth 100000 in
theorem chafflaw17_OctetBack.calls (k : Nat) (a0 : Int) (a1 : ByteArray) (a2 : ByteArray) (a3 : Int) (r : Bool) (w : World) (h : chafflaw17_OctetBack.f k a0 a1 a2 a3 = some r) :
    Calls Try.prog 5 #[.int .u64 a0, .string a1, .string a2, .int .u8 a3] w fun e w' => e = .returned (.bool r) ∧ Below w.heap.size w w' := by
  have HB := Aside0.mk (Below.refl w.heap.size w)
  have H : (if (a1.size : Int) > 1000 then (chafflaw17_OctetBack.j0 k a0 a1 a2 a3 true) else (chafflaw17_OctetBack.j0 k a0 a1 a2 a3 (decide ((a2.size : Int) > 100)))) = some r := h
  clear h
  have HC5 := Aside0.mk H
  clear H
  go_enter Try.func5, Try.ntmps5
  go_upto_region 1 with (fail)
  go_cut [25] (fun v25 wc => ∃ (kq : Nat) (x25_4 : Bool), v25 = .bool x25_4 ∧ Aside0 (chafflaw17_OctetBack.j0 kq a0 a1 a2 a3 x25_4 = some r) ∧ Aside0 (kq ≤ k) ∧ Aside0 (Below w.heap.size w wc))
  case first =>
    have H := HC5.out
    clear HC5
    by_cases c6 : (a1.size : Int) > 1000
    · rw [if_pos c6] at H
      have c6b0 : decide (1000 < (a1.size : Int)) = true := decide_eq_true c6
      have c6b1 : decide (1000 < a1.size) = true := decide_eq_true (by omega)
      clear c6
      (first | rw [c6b0] | (simp only [i64_w, i32_w]; rw [c6b0]) | skip)
      have H' := Aside0.mk H
      clear H
      go_wp2
      go_meet
      case rel => exact ⟨_, (true), (by first | rfl | (simp; done) | (simp [*]; done)), H', ⟨by first | omega | exact Nat.le_refl _⟩, ⟨by repeat (first | (with_reducible first | exact HB.out | apply below_alloc | apply pw_below_drewN | apply below_drew1) | exact HB.out)⟩⟩
    · rw [if_neg c6] at H
      have c6b0 : decide (1000 < (a1.size : Int)) = false := decide_eq_false c6
      have c6b1 : decide (1000 < a1.size) = false := decide_eq_false (by omega)
      clear c6
      (first | rw [c6b0] | (simp only [i64_w, i32_w]; rw [c6b0]) | skip)
      have H' := Aside0.mk H
      clear H
      go_wp2
      go_meet
      case rel => exact ⟨_, (decide ((a2.size : Int) > 100)), (by first | rfl | (simp; done) | (simp [*]; done)), H', ⟨by first | omega | exact Nat.le_refl _⟩, ⟨by repeat (first | (with_reducible first | exact HB.out | apply below_alloc | apply pw_below_drewN | apply below_drew1) | exact HB.out)⟩⟩
  case rest =>
    clear HC5
    try clear p2
    try clear c5
    try clear c6
    try clear c6b0
    try clear c6b1
    obtain ⟨kq, x25_4, rfl, HA, HJ4, HB⟩ := hcut
    cases kq with
    | zero => exact absurd HA.out (by simp [chafflaw17_OctetBack.j0])
    | succ kj4 =>
      have H := HA.out
      clear HA
      simp only [chafflaw17_OctetBack.j0] at H
      by_cases c7 : x25_4 = true
      · subst c7
        have H1 : ((chafflaw17_Awake.f kj4).bind fun t130 => (some t130)) = some r := by rw [if_pos rfl] at H; exact H
        clear H
        have H := H1
        clear H1
        replace H := Option.bind_eq_some_iff.mp H
        obtain ⟨t130, A80, H⟩ := H
        replace H : (some t130) = some r := H
        have A8 := Aside0.mk A80
        clear A80
        obtain rfl := Option.some.inj H
        go_wp2_with (first | ((with_reducible refine gate_callee (f := 13) rfl ?_); refine goesL_ (some 26) rfl rfl Try.func13 (by kernel_rfl) rfl #[] rfl (by (try simp only [List.map_toArray, List.map_cons, List.map_nil]); first | done | rfl | (simp only [List.length_drop, List.length_take]; rfl)) ?_; (with_reducible refine (chafflaw17_Awake.calls kj4  t130 _ A8.out).mono ?_); rintro e w9 ⟨rfl, hb⟩; refine ⟨_, rfl, ?_⟩; have n0_ := Aside0.mk (below_step (by repeat (first | (with_reducible first | exact HB.out | apply below_alloc | apply pw_below_drewN | apply below_drew1) | exact HB.out)) hb); clear HB; have HB := n0_; clear n0_; (try clear hb); (try clear hb2); (try clear hk); (try clear hi)))
        go_ret
        exact ⟨by first | rfl | (simp [errW_none, errW_some] <;> rfl) | (simp [*, errW_none, errW_some] <;> rfl), by repeat (first | (with_reducible first | exact HB.out | apply below_alloc | apply pw_below_drewN | apply below_drew1) | exact HB.out)⟩
      · replace c7 := Bool.eq_false_iff.mpr c7
        subst c7
        have H1 : ((octet_Put.f kj4 a0 (wrap64 ((wrap64 (Int.tmod a3 8)) + 1))).bind fun bt131 => ((octet_PutText.f kj4 a1 1000).bind fun bt133 => (if bt133.1.size + a2.size ≤ 9223372036854775807 then ((octet_TakeText.f kj4 (bt133.1 ++ a2) 1000).bind fun bt135 => (if bt133.2 = 0 then (if bt135.2.2 = 0 then (if bt135.1.toList = a1.toList then (chafflaw17_OctetBack.j1 kj4 a0 a2 (wrap64 ((wrap64 (Int.tmod a3 8)) + 1)) bt131.1 bt131.2 (bt135.2.1.toList != a2.toList)) else (chafflaw17_OctetBack.j1 kj4 a0 a2 (wrap64 ((wrap64 (Int.tmod a3 8)) + 1)) bt131.1 bt131.2 true)) else (chafflaw17_OctetBack.j1 kj4 a0 a2 (wrap64 ((wrap64 (Int.tmod a3 8)) + 1)) bt131.1 bt131.2 true)) else (chafflaw17_OctetBack.j1 kj4 a0 a2 (wrap64 ((wrap64 (Int.tmod a3 8)) + 1)) bt131.1 bt131.2 true))) else (none)))) = some r := by rw [if_neg (show ¬ (false = true) by decide)] at H; exact H
        clear H
        have H := H1
        clear H1
        replace H := Option.bind_eq_some_iff.mp H
        obtain ⟨⟨t131, t132⟩, A100, H⟩ := H
        replace H : ((octet_PutText.f kj4 a1 1000).bind fun bt133 => (if bt133.1.size + a2.size ≤ 9223372036854775807 then ((octet_TakeText.f kj4 (bt133.1 ++ a2) 1000).bind fun bt135 => (if bt133.2 = 0 then (if bt135.2.2 = 0 then (if bt135.1.toList = a1.toList then (chafflaw17_OctetBack.j1 kj4 a0 a2 (wrap64 ((wrap64 (Int.tmod a3 8)) + 1)) t131 t132 (bt135.2.1.toList != a2.toList)) else (chafflaw17_OctetBack.j1 kj4 a0 a2 (wrap64 ((wrap64 (Int.tmod a3 8)) + 1)) t131 t132 true)) else (chafflaw17_OctetBack.j1 kj4 a0 a2 (wrap64 ((wrap64 (Int.tmod a3 8)) + 1)) t131 t132 true)) else (chafflaw17_OctetBack.j1 kj4 a0 a2 (wrap64 ((wrap64 (Int.tmod a3 8)) + 1)) t131 t132 true))) else (none))) = some r := H
        have A10 := Aside0.mk A100
        clear A100
        replace H := Option.bind_eq_some_iff.mp H
        obtain ⟨⟨t133, t134⟩, A110, H⟩ := H
        replace H : (if t133.size + a2.size ≤ 9223372036854775807 then ((octet_TakeText.f kj4 (t133 ++ a2) 1000).bind fun bt135 => (if t134 = 0 then (if bt135.2.2 = 0 then (if bt135.1.toList = a1.toList then (chafflaw17_OctetBack.j1 kj4 a0 a2 (wrap64 ((wrap64 (Int.tmod a3 8)) + 1)) t131 t132 (bt135.2.1.toList != a2.toList)) else (chafflaw17_OctetBack.j1 kj4 a0 a2 (wrap64 ((wrap64 (Int.tmod a3 8)) + 1)) t131 t132 true)) else (chafflaw17_OctetBack.j1 kj4 a0 a2 (wrap64 ((wrap64 (Int.tmod a3 8)) + 1)) t131 t132 true)) else (chafflaw17_OctetBack.j1 kj4 a0 a2 (wrap64 ((wrap64 (Int.tmod a3 8)) + 1)) t131 t132 true))) else (none)) = some r := H
        have A11 := Aside0.mk A110
        clear A110
        by_cases c12 : t133.size + a2.size ≤ 9223372036854775807
        · rw [if_pos c12] at H
          have c12b0 := eq_true c12
          have c12b1 : decide (t133.size + a2.size ≤ 9223372036854775807) = true := decide_eq_true c12
          try have c12b2 : (9223372036854775807 < t133.size + a2.size) = False := eq_false (Nat.not_lt.2 c12)
          replace H := Option.bind_eq_some_iff.mp H
          obtain ⟨⟨t135, t136, t137⟩, A130, H⟩ := H
          replace H : (if t134 = 0 then (if t137 = 0 then (if t135.toList = a1.toList then (chafflaw17_OctetBack.j1 kj4 a0 a2 (wrap64 ((wrap64 (Int.tmod a3 8)) + 1)) t131 t132 (t136.toList != a2.toList)) else (chafflaw17_OctetBack.j1 kj4 a0 a2 (wrap64 ((wrap64 (Int.tmod a3 8)) + 1)) t131 t132 true)) else (chafflaw17_OctetBack.j1 kj4 a0 a2 (wrap64 ((wrap64 (Int.tmod a3 8)) + 1)) t131 t132 true)) else (chafflaw17_OctetBack.j1 kj4 a0 a2 (wrap64 ((wrap64 (Int.tmod a3 8)) + 1)) t131 t132 true)) = some r := H
          have A13 := Aside0.mk A130
          clear A130
          have HC14 := Aside0.mk H
          clear H
          go_upto_region 7 with (first | ((with_reducible refine gate_callee (f := 14) rfl ?_); refine goesL_ (some 34) rfl rfl Try.func14 (by kernel_rfl) rfl #[.int .u64 a0, .int .i64 (wrap64 ((wrap64 (Int.tmod a3 8)) + 1))] rfl (by (try simp only [List.map_toArray, List.map_cons, List.map_nil]); first | done | rfl | (simp only [List.length_drop, List.length_take]; rfl)) ?_; (with_reducible refine (octet_Put.calls kj4 a0 (wrap64 ((wrap64 (Int.tmod a3 8)) + 1)) t131 t132 _ A10.out).mono ?_); rintro e w15 ⟨rfl, hb⟩; refine ⟨_, rfl, ?_⟩; have n0_ := Aside0.mk (below_step (by repeat (first | (with_reducible first | exact HB.out | apply below_alloc | apply pw_below_drewN | apply below_drew1) | exact HB.out)) hb); clear HB; have HB := n0_; clear n0_; (try clear hb); (try clear hb2); (try clear hk); (try clear hi)) | ((with_reducible refine gate_callee (f := 24) rfl ?_); refine goesL_ (some 39) rfl rfl Try.func24 (by kernel_rfl) rfl #[.string a1, .int .i64 1000] rfl (by (try simp only [List.map_toArray, List.map_cons, List.map_nil]); first | done | rfl | (simp only [List.length_drop, List.length_take]; rfl)) ?_; (with_reducible refine (octet_PutText.calls kj4 a1 1000 t133 t134 _ A11.out).mono ?_); rintro e w16 ⟨rfl, hb⟩; refine ⟨_, rfl, ?_⟩; have n0_ := Aside0.mk (below_step (by repeat (first | (with_reducible first | exact HB.out | apply below_alloc | apply pw_below_drewN | apply below_drew1) | exact HB.out)) hb); clear HB; have HB := n0_; clear n0_; (try clear hb); (try clear hb2); (try clear hk); (try clear hi)) | ((with_reducible refine gate_callee (f := 25) rfl ?_); refine goesL_ (some 46) rfl rfl Try.func25 (by kernel_rfl) rfl #[.string (t133 ++ a2), .int .i64 1000] rfl (by (try simp only [List.map_toArray, List.map_cons, List.map_nil]); first | done | rfl | (simp only [List.length_drop, List.length_take]; rfl)) ?_; (with_reducible refine (octet_TakeText.calls kj4 (t133 ++ a2) 1000 t135 t136 t137 _ A13.out).mono ?_); rintro e w' ⟨rfl, ⟨nd, rfl⟩⟩; refine ⟨_, rfl, ?_⟩))
          (try simp only [Act.put, List.setIfInBounds_toArray, List.set_cons_zero, List.set_cons_succ])
          go_cut [65] (fun v65 wc => ∃ (kq : Nat) (x65_13 : Bool), v65 = .bool x65_13 ∧ Aside0 (chafflaw17_OctetBack.j1 kq a0 a2 (wrap64 ((wrap64 (Int.tmod a3 8)) + 1)) t131 t132 x65_13 = some r) ∧ Aside0 (kq ≤ kj4) ∧ Aside0 (Below w.heap.size w wc))
          case first =>
            have H := HC14.out
            clear HC14
            by_cases c17 : t134 = 0
            · rw [if_pos c17] at H
              have c17b0 : (t134 == 0) = true := beq_iff_eq.mpr c17
              have c17b1 : (t134 != 0) = false := bne_eq_false_iff_eq.mpr c17
              clear c17
              (first | rw [c17b0] | (simp only [i64_w, i32_w]; rw [c17b0]) | skip)
              by_cases c18 : t137 = 0
              · rw [if_pos c18] at H
                have c18b0 : (t137 == 0) = true := beq_iff_eq.mpr c18
                have c18b1 : (t137 != 0) = false := bne_eq_false_iff_eq.mpr c18
                clear c18
                by_cases c19 : t135.toList = a1.toList
                · rw [if_pos c19] at H
                  have c19b0 : (t135.toList == a1.toList) = true := beq_iff_eq.mpr c19
                  have c19b1 : (t135.toList != a1.toList) = false := bne_eq_false_iff_eq.mpr c19
                  clear c19
                  have H' := Aside0.mk H
                  clear H
                  go_wp2
                  go_meet
                  case rel => exact ⟨_, ((t136.toList != a2.toList)), (by first | rfl | (simp; done) | (simp [*]; done)), H', ⟨by have := HJ4.out; first | omega | exact Nat.le_refl _⟩, ⟨by repeat (first | (with_reducible first | exact HB.out | apply below_alloc | apply pw_below_drewN | apply below_drew1) | exact HB.out)⟩⟩
                · rw [if_neg c19] at H
                  have c19b0 : (t135.toList == a1.toList) = false := beq_eq_false_iff_ne.mpr c19
                  have c19b1 : (t135.toList != a1.toList) = true := bne_iff_ne.mpr c19
                  have H' := Aside0.mk H
                  clear H
                  go_wp2
                  go_meet
                  case rel => exact ⟨_, (true), (by first | rfl | (simp; done) | (simp [*]; done)), H', ⟨by have := HJ4.out; first | omega | exact Nat.le_refl _⟩, ⟨by repeat (first | (with_reducible first | exact HB.out | apply below_alloc | apply pw_below_drewN | apply below_drew1) | exact HB.out)⟩⟩
              · rw [if_neg c18] at H
                have c18b0 : (t137 == 0) = false := beq_eq_false_iff_ne.mpr c18
                have c18b1 : (t137 != 0) = true := bne_iff_ne.mpr c18
                have H' := Aside0.mk H
                clear H
                go_wp2
                go_meet
                case rel => exact ⟨_, (true), (by first | rfl | (simp; done) | (simp [*]; done)), H', ⟨by have := HJ4.out; first | omega | exact Nat.le_refl _⟩, ⟨by repeat (first | (with_reducible first | exact HB.out | apply below_alloc | apply pw_below_drewN | apply below_drew1) | exact HB.out)⟩⟩
            · rw [if_neg c17] at H
              have c17b0 : (t134 == 0) = false := beq_eq_false_iff_ne.mpr c17
              have c17b1 : (t134 != 0) = true := bne_iff_ne.mpr c17
              (first | rw [c17b0] | (simp only [i64_w, i32_w]; rw [c17b0]) | skip)
              have H' := Aside0.mk H
              clear H
              go_wp2
              go_meet
              case rel => exact ⟨_, (true), (by first | rfl | (simp; done) | (simp [*]; done)), H', ⟨by have := HJ4.out; first | omega | exact Nat.le_refl _⟩, ⟨by repeat (first | (with_reducible first | exact HB.out | apply below_alloc | apply pw_below_drewN | apply below_drew1) | exact HB.out)⟩⟩
          case rest =>
            clear HC14
            try clear c1
            try clear c2
            try clear p2
            try clear c5
            try clear c6
            try clear c6b0
            try clear c6b1
            try clear p6
            try clear c7
            try clear c12
            try clear c12b0
            try clear c12b1
            try clear c12b2
            try clear c13
            try clear c14
            try clear c17
            try clear c17b0
            try clear c17b1
            try clear c18
            try clear c18b0
            try clear c18b1
            try clear c19
            try clear c19b0
            try clear c19b1
            try clear p2
            obtain ⟨kq, x65_13, rfl, HA, HJ13, HB⟩ := hcut
            cases kq with
            | zero => exact absurd HA.out (by simp [chafflaw17_OctetBack.j1])
            | succ kj13 =>
              have H := HA.out
              clear HA
              simp only [chafflaw17_OctetBack.j1] at H
              by_cases c20 : x65_13 = true
              · subst c20
                have H1 : (some false) = some r := by rw [if_pos rfl] at H; exact H
                clear H
                have H := H1
                clear H1
                obtain rfl := Option.some.inj H
                go_wp2
                go_ret
                exact ⟨by first | rfl | (simp [errW_none, errW_some] <;> rfl) | (simp [*, errW_none, errW_some] <;> rfl), by repeat (first | (with_reducible first | exact HB.out | apply below_alloc | apply pw_below_drewN | apply below_drew1) | exact HB.out)⟩
              · replace c20 := Bool.eq_false_iff.mpr c20
                subst c20
                have H1 : (if t132 = 0 then (if t131.size + a2.size ≤ 9223372036854775807 then ((octet_Take.f kj13 (t131 ++ a2) (wrap64 ((wrap64 (Int.tmod a3 8)) + 1))).bind fun bt138 => ((chafflaw17_Awake.f kj13).bind fun t141 => (if t141 = true then (if (t131.size : Int) = (wrap64 ((wrap64 (Int.tmod a3 8)) + 1)) then (if bt138.1 = a0 then (if bt138.2.1.toList = a2.toList then (some (bt138.2.2 == 0)) else (some false)) else (some false)) else (some false)) else (some false)))) else (none)) else ((chafflaw17_Awake.f kj13).bind fun t142 => (if t142 = true then (if 0 ≤ (wrap64 (8 * (wrap64 ((wrap64 (Int.tmod a3 8)) + 1)))) then (some (decide ((shr .u64 a0 (wrap64 (8 * (wrap64 ((wrap64 (Int.tmod a3 8)) + 1))))) > 0))) else (none)) else (some false)))) = some r := by rw [if_neg (show ¬ (false = true) by decide)] at H; exact H
                clear H
                have H := H1
                clear H1
                by_cases c21 : t132 = 0
                · rw [if_pos c21] at H
                  have c21b0 : (t132 == 0) = true := beq_iff_eq.mpr c21
                  have c21b1 : (t132 != 0) = false := bne_eq_false_iff_eq.mpr c21
                  clear c21
                  by_cases c22 : t131.size + a2.size ≤ 9223372036854775807
                  · rw [if_pos c22] at H
                    have c22b0 := eq_true c22
                    have c22b1 : decide (t131.size + a2.size ≤ 9223372036854775807) = true := decide_eq_true c22
                    try have c22b2 : (9223372036854775807 < t131.size + a2.size) = False := eq_false (Nat.not_lt.2 c22)
                    replace H := Option.bind_eq_some_iff.mp H
                    obtain ⟨⟨t138, t139, t140⟩, A230, H⟩ := H
                    replace H : ((chafflaw17_Awake.f kj13).bind fun t141 => (if t141 = true then (if (t131.size : Int) = (wrap64 ((wrap64 (Int.tmod a3 8)) + 1)) then (if t138 = a0 then (if t139.toList = a2.toList then (some (t140 == 0)) else (some false)) else (some false)) else (some false)) else (some false))) = some r := H
                    have A23 := Aside0.mk A230
                    clear A230
                    replace H := Option.bind_eq_some_iff.mp H
                    obtain ⟨t141, A240, H⟩ := H
                    replace H : (if t141 = true then (if (t131.size : Int) = (wrap64 ((wrap64 (Int.tmod a3 8)) + 1)) then (if t138 = a0 then (if t139.toList = a2.toList then (some (t140 == 0)) else (some false)) else (some false)) else (some false)) else (some false)) = some r := H
                    have A24 := Aside0.mk A240
                    clear A240
                    by_cases c25 : t141 = true
                    · subst c25
                      have H1 : (if (t131.size : Int) = (wrap64 ((wrap64 (Int.tmod a3 8)) + 1)) then (if t138 = a0 then (if t139.toList = a2.toList then (some (t140 == 0)) else (some false)) else (some false)) else (some false)) = some r := by rw [if_pos rfl] at H; exact H
                      clear H
                      have H := H1
                      clear H1
                      by_cases c26 : (t131.size : Int) = (wrap64 ((wrap64 (Int.tmod a3 8)) + 1))
                      · rw [if_pos c26] at H
                        have c26b0 : ((t131.size : Int) == (wrap64 ((wrap64 (Int.tmod a3 8)) + 1))) = true := beq_iff_eq.mpr c26
                        have c26b1 : ((t131.size : Int) != (wrap64 ((wrap64 (Int.tmod a3 8)) + 1))) = false := bne_eq_false_iff_eq.mpr c26
                        clear c26
                        by_cases c27 : t138 = a0
                        · rw [if_pos c27] at H
                          have c27b0 : (t138 == a0) = true := beq_iff_eq.mpr c27
                          have c27b1 : (t138 != a0) = false := bne_eq_false_iff_eq.mpr c27
                          clear c27
                          by_cases c28 : t139.toList = a2.toList
                          · rw [if_pos c28] at H
                            have c28b0 : (t139.toList == a2.toList) = true := beq_iff_eq.mpr c28
                            have c28b1 : (t139.toList != a2.toList) = false := bne_eq_false_iff_eq.mpr c28
                            clear c28
                            obtain rfl := Option.some.inj H
                            go_wp2_with (first | ((with_reducible refine gate_callee (f := 16) rfl ?_); refine goesL_ (some 81) rfl rfl Try.func16 (by kernel_rfl) rfl #[.string (t131 ++ a2), .int .i64 (wrap64 ((wrap64 (Int.tmod a3 8)) + 1))] rfl (by (try simp only [List.map_toArray, List.map_cons, List.map_nil]); first | done | rfl | (simp only [List.length_drop, List.length_take]; rfl)) ?_; (with_reducible refine (octet_Take.calls kj13 (t131 ++ a2) (wrap64 ((wrap64 (Int.tmod a3 8)) + 1)) t138 t139 t140 _ A23.out).mono ?_); rintro e w' ⟨rfl, ⟨nd, rfl⟩⟩; refine ⟨_, rfl, ?_⟩) | ((with_reducible refine gate_callee (f := 13) rfl ?_); refine goesL_ (some 85) rfl rfl Try.func13 (by kernel_rfl) rfl #[] rfl (by (try simp only [List.map_toArray, List.map_cons, List.map_nil]); first | done | rfl | (simp only [List.length_drop, List.length_take]; rfl)) ?_; (with_reducible refine (chafflaw17_Awake.calls kj13  true _ A24.out).mono ?_); rintro e w29 ⟨rfl, hb⟩; refine ⟨_, rfl, ?_⟩; have n0_ := Aside0.mk (below_step (by repeat (first | (with_reducible first | exact HB.out | apply below_alloc | apply pw_below_drewN | apply below_drew1) | exact HB.out)) hb); clear HB; have HB := n0_; clear n0_; (try clear hb); (try clear hb2); (try clear hk); (try clear hi)))
                            go_ret
                            exact ⟨by first | rfl | (simp [errW_none, errW_some] <;> rfl) | (simp [*, errW_none, errW_some] <;> rfl), by repeat (first | (with_reducible first | exact HB.out | apply below_alloc | apply pw_below_drewN | apply below_drew1) | exact HB.out)⟩
                          · rw [if_neg c28] at H
                            have c28b0 : (t139.toList == a2.toList) = false := beq_eq_false_iff_ne.mpr c28
                            have c28b1 : (t139.toList != a2.toList) = true := bne_iff_ne.mpr c28
                            obtain rfl := Option.some.inj H
                            go_wp2_with (first | ((with_reducible refine gate_callee (f := 16) rfl ?_); refine goesL_ (some 81) rfl rfl Try.func16 (by kernel_rfl) rfl #[.string (t131 ++ a2), .int .i64 (wrap64 ((wrap64 (Int.tmod a3 8)) + 1))] rfl (by (try simp only [List.map_toArray, List.map_cons, List.map_nil]); first | done | rfl | (simp only [List.length_drop, List.length_take]; rfl)) ?_; (with_reducible refine (octet_Take.calls kj13 (t131 ++ a2) (wrap64 ((wrap64 (Int.tmod a3 8)) + 1)) t138 t139 t140 _ A23.out).mono ?_); rintro e w' ⟨rfl, ⟨nd, rfl⟩⟩; refine ⟨_, rfl, ?_⟩) | ((with_reducible refine gate_callee (f := 13) rfl ?_); refine goesL_ (some 85) rfl rfl Try.func13 (by kernel_rfl) rfl #[] rfl (by (try simp only [List.map_toArray, List.map_cons, List.map_nil]); first | done | rfl | (simp only [List.length_drop, List.length_take]; rfl)) ?_; (with_reducible refine (chafflaw17_Awake.calls kj13  true _ A24.out).mono ?_); rintro e w30 ⟨rfl, hb⟩; refine ⟨_, rfl, ?_⟩; have n0_ := Aside0.mk (below_step (by repeat (first | (with_reducible first | exact HB.out | apply below_alloc | apply pw_below_drewN | apply below_drew1) | exact HB.out)) hb); clear HB; have HB := n0_; clear n0_; (try clear hb); (try clear hb2); (try clear hk); (try clear hi)))
                            go_ret
                            exact ⟨by first | rfl | (simp [errW_none, errW_some] <;> rfl) | (simp [*, errW_none, errW_some] <;> rfl), by repeat (first | (with_reducible first | exact HB.out | apply below_alloc | apply pw_below_drewN | apply below_drew1) | exact HB.out)⟩
                        · rw [if_neg c27] at H
                          have c27b0 : (t138 == a0) = false := beq_eq_false_iff_ne.mpr c27
                          have c27b1 : (t138 != a0) = true := bne_iff_ne.mpr c27
                          obtain rfl := Option.some.inj H
                          go_wp2_with (first | ((with_reducible refine gate_callee (f := 16) rfl ?_); refine goesL_ (some 81) rfl rfl Try.func16 (by kernel_rfl) rfl #[.string (t131 ++ a2), .int .i64 (wrap64 ((wrap64 (Int.tmod a3 8)) + 1))] rfl (by (try simp only [List.map_toArray, List.map_cons, List.map_nil]); first | done | rfl | (simp only [List.length_drop, List.length_take]; rfl)) ?_; (with_reducible refine (octet_Take.calls kj13 (t131 ++ a2) (wrap64 ((wrap64 (Int.tmod a3 8)) + 1)) t138 t139 t140 _ A23.out).mono ?_); rintro e w' ⟨rfl, ⟨nd, rfl⟩⟩; refine ⟨_, rfl, ?_⟩) | ((with_reducible refine gate_callee (f := 13) rfl ?_); refine goesL_ (some 85) rfl rfl Try.func13 (by kernel_rfl) rfl #[] rfl (by (try simp only [List.map_toArray, List.map_cons, List.map_nil]); first | done | rfl | (simp only [List.length_drop, List.length_take]; rfl)) ?_; (with_reducible refine (chafflaw17_Awake.calls kj13  true _ A24.out).mono ?_); rintro e w31 ⟨rfl, hb⟩; refine ⟨_, rfl, ?_⟩; have n0_ := Aside0.mk (below_step (by repeat (first | (with_reducible first | exact HB.out | apply below_alloc | apply pw_below_drewN | apply below_drew1) | exact HB.out)) hb); clear HB; have HB := n0_; clear n0_; (try clear hb); (try clear hb2); (try clear hk); (try clear hi)))
                          go_ret
                          exact ⟨by first | rfl | (simp [errW_none, errW_some] <;> rfl) | (simp [*, errW_none, errW_some] <;> rfl), by repeat (first | (with_reducible first | exact HB.out | apply below_alloc | apply pw_below_drewN | apply below_drew1) | exact HB.out)⟩
                      · rw [if_neg c26] at H
                        have c26b0 : ((t131.size : Int) == (wrap64 ((wrap64 (Int.tmod a3 8)) + 1))) = false := beq_eq_false_iff_ne.mpr c26
                        have c26b1 : ((t131.size : Int) != (wrap64 ((wrap64 (Int.tmod a3 8)) + 1))) = true := bne_iff_ne.mpr c26
                        obtain rfl := Option.some.inj H
                        go_wp2_with (first | ((with_reducible refine gate_callee (f := 16) rfl ?_); refine goesL_ (some 81) rfl rfl Try.func16 (by kernel_rfl) rfl #[.string (t131 ++ a2), .int .i64 (wrap64 ((wrap64 (Int.tmod a3 8)) + 1))] rfl (by (try simp only [List.map_toArray, List.map_cons, List.map_nil]); first | done | rfl | (simp only [List.length_drop, List.length_take]; rfl)) ?_; (with_reducible refine (octet_Take.calls kj13 (t131 ++ a2) (wrap64 ((wrap64 (Int.tmod a3 8)) + 1)) t138 t139 t140 _ A23.out).mono ?_); rintro e w' ⟨rfl, ⟨nd, rfl⟩⟩; refine ⟨_, rfl, ?_⟩) | ((with_reducible refine gate_callee (f := 13) rfl ?_); refine goesL_ (some 85) rfl rfl Try.func13 (by kernel_rfl) rfl #[] rfl (by (try simp only [List.map_toArray, List.map_cons, List.map_nil]); first | done | rfl | (simp only [List.length_drop, List.length_take]; rfl)) ?_; (with_reducible refine (chafflaw17_Awake.calls kj13  true _ A24.out).mono ?_); rintro e w32 ⟨rfl, hb⟩; refine ⟨_, rfl, ?_⟩; have n0_ := Aside0.mk (below_step (by repeat (first | (with_reducible first | exact HB.out | apply below_alloc | apply pw_below_drewN | apply below_drew1) | exact HB.out)) hb); clear HB; have HB := n0_; clear n0_; (try clear hb); (try clear hb2); (try clear hk); (try clear hi)))
                        go_ret
                        exact ⟨by first | rfl | (simp [errW_none, errW_some] <;> rfl) | (simp [*, errW_none, errW_some] <;> rfl), by repeat (first | (with_reducible first | exact HB.out | apply below_alloc | apply pw_below_drewN | apply below_drew1) | exact HB.out)⟩
                    · replace c25 := Bool.eq_false_iff.mpr c25
                      subst c25
                      have H1 : (some false) = some r := by rw [if_neg (show ¬ (false = true) by decide)] at H; exact H
                      clear H
                      have H := H1
                      clear H1
                      obtain rfl := Option.some.inj H
                      go_wp2_with (first | ((with_reducible refine gate_callee (f := 16) rfl ?_); refine goesL_ (some 81) rfl rfl Try.func16 (by kernel_rfl) rfl #[.string (t131 ++ a2), .int .i64 (wrap64 ((wrap64 (Int.tmod a3 8)) + 1))] rfl (by (try simp only [List.map_toArray, List.map_cons, List.map_nil]); first | done | rfl | (simp only [List.length_drop, List.length_take]; rfl)) ?_; (with_reducible refine (octet_Take.calls kj13 (t131 ++ a2) (wrap64 ((wrap64 (Int.tmod a3 8)) + 1)) t138 t139 t140 _ A23.out).mono ?_); rintro e w' ⟨rfl, ⟨nd, rfl⟩⟩; refine ⟨_, rfl, ?_⟩) | ((with_reducible refine gate_callee (f := 13) rfl ?_); refine goesL_ (some 85) rfl rfl Try.func13 (by kernel_rfl) rfl #[] rfl (by (try simp only [List.map_toArray, List.map_cons, List.map_nil]); first | done | rfl | (simp only [List.length_drop, List.length_take]; rfl)) ?_; (with_reducible refine (chafflaw17_Awake.calls kj13  false _ A24.out).mono ?_); rintro e w33 ⟨rfl, hb⟩; refine ⟨_, rfl, ?_⟩; have n0_ := Aside0.mk (below_step (by repeat (first | (with_reducible first | exact HB.out | apply below_alloc | apply pw_below_drewN | apply below_drew1) | exact HB.out)) hb); clear HB; have HB := n0_; clear n0_; (try clear hb); (try clear hb2); (try clear hk); (try clear hi)))
                      go_ret
                      exact ⟨by first | rfl | (simp [errW_none, errW_some] <;> rfl) | (simp [*, errW_none, errW_some] <;> rfl), by repeat (first | (with_reducible first | exact HB.out | apply below_alloc | apply pw_below_drewN | apply below_drew1) | exact HB.out)⟩
                  · rw [if_neg c22] at H
                    exact absurd H (by simp)
                · rw [if_neg c21] at H
                  have c21b0 : (t132 == 0) = false := beq_eq_false_iff_ne.mpr c21
                  have c21b1 : (t132 != 0) = true := bne_iff_ne.mpr c21
                  replace H := Option.bind_eq_some_iff.mp H
                  obtain ⟨t142, A340, H⟩ := H
                  replace H : (if t142 = true then (if 0 ≤ (wrap64 (8 * (wrap64 ((wrap64 (Int.tmod a3 8)) + 1)))) then (some (decide ((shr .u64 a0 (wrap64 (8 * (wrap64 ((wrap64 (Int.tmod a3 8)) + 1))))) > 0))) else (none)) else (some false)) = some r := H
                  have A34 := Aside0.mk A340
                  clear A340
                  by_cases c35 : t142 = true
                  · subst c35
                    have H1 : (if 0 ≤ (wrap64 (8 * (wrap64 ((wrap64 (Int.tmod a3 8)) + 1)))) then (some (decide ((shr .u64 a0 (wrap64 (8 * (wrap64 ((wrap64 (Int.tmod a3 8)) + 1))))) > 0))) else (none)) = some r := by rw [if_pos rfl] at H; exact H
                    clear H
                    have H := H1
                    clear H1
                    obtain ⟨ji36, hji36⟩ : ∃ j_ : Int, (wrap64 (8 * (wrap64 ((wrap64 (Int.tmod a3 8)) + 1)))) = j_ := ⟨_, rfl⟩
                    replace H : (if 0 ≤ (ji36) then (some (decide ((shr .u64 a0 (ji36)) > 0))) else (none)) = some r := by first | (rw [hji36] at H; exact H) | (simp only [hji36] at H ⊢; exact H)
                    (try rw [hji36] at A34)
                    have hji36w : (IntKind.i64.wrap (8 * (wrap64 ((wrap64 (Int.tmod a3 8)) + 1)))) = ji36 := (i64_w _).trans hji36
                    by_cases c37 : 0 ≤ (ji36)
                    · rw [if_pos c37] at H
                      have c37b0 := eq_true c37
                      have c37b1 : decide (0 ≤ (ji36)) = true := decide_eq_true c37
                      clear c37
                      obtain ⟨ji38, hji38⟩ : ∃ j_ : Int, (shr .u64 a0 (ji36)) = j_ := ⟨_, rfl⟩
                      replace H : (some (decide ((ji38) > 0))) = some r := by first | (rw [hji38] at H; exact H) | (simp only [hji38] at H ⊢; exact H)
                      (try rw [hji38] at A34)
                      have hji38_ : (a0 / 2 ^ min (ji36).toNat 64) = ji38 := hji38
                      have hji38z : (ji36) ≤ 64 → (a0 / 2 ^ (ji36).toNat) = ji38 := shr_small hji38
                      obtain rfl := Option.some.inj H
                      go_wp2_with (first | ((with_reducible refine gate_callee (f := 13) rfl ?_); refine goesL_ (some 68) rfl rfl Try.func13 (by kernel_rfl) rfl #[] rfl (by (try simp only [List.map_toArray, List.map_cons, List.map_nil]); first | done | rfl | (simp only [List.length_drop, List.length_take]; rfl)) ?_; (with_reducible refine (chafflaw17_Awake.calls kj13  true _ A34.out).mono ?_); rintro e w39 ⟨rfl, hb⟩; refine ⟨_, rfl, ?_⟩; have n0_ := Aside0.mk (below_step (by repeat (first | (with_reducible first | exact HB.out | apply below_alloc | apply pw_below_drewN | apply below_drew1) | exact HB.out)) hb); clear HB; have HB := n0_; clear n0_; (try clear hb); (try clear hb2); (try clear hk); (try clear hi)))
                      go_ret
                      exact ⟨by first | rfl | (simp [errW_none, errW_some] <;> rfl) | (simp only [← hji36, ← hji38]; first | rfl | (simp [errW_none, errW_some] <;> rfl)) | (simp [*, errW_none, errW_some] <;> rfl), by repeat (first | (with_reducible first | exact HB.out | apply below_alloc | apply pw_below_drewN | apply below_drew1) | exact HB.out)⟩
                    · rw [if_neg c37] at H
                      exact absurd H (by simp)
                  · replace c35 := Bool.eq_false_iff.mpr c35
                    subst c35
                    have H1 : (some false) = some r := by rw [if_neg (show ¬ (false = true) by decide)] at H; exact H
                    clear H
                    have H := H1
                    clear H1
                    obtain rfl := Option.some.inj H
                    go_wp2_with (first | ((with_reducible refine gate_callee (f := 13) rfl ?_); refine goesL_ (some 68) rfl rfl Try.func13 (by kernel_rfl) rfl #[] rfl (by (try simp only [List.map_toArray, List.map_cons, List.map_nil]); first | done | rfl | (simp only [List.length_drop, List.length_take]; rfl)) ?_; (with_reducible refine (chafflaw17_Awake.calls kj13  false _ A34.out).mono ?_); rintro e w40 ⟨rfl, hb⟩; refine ⟨_, rfl, ?_⟩; have n0_ := Aside0.mk (below_step (by repeat (first | (with_reducible first | exact HB.out | apply below_alloc | apply pw_below_drewN | apply below_drew1) | exact HB.out)) hb); clear HB; have HB := n0_; clear n0_; (try clear hb); (try clear hb2); (try clear hk); (try clear hi)))
                    go_ret
                    exact ⟨by first | rfl | (simp [errW_none, errW_some] <;> rfl) | (simp [*, errW_none, errW_some] <;> rfl), by repeat (first | (with_reducible first | exact HB.out | apply below_alloc | apply pw_below_drewN | apply below_drew1) | exact HB.out)⟩
        · rw [if_neg c12] at H
          exact absurd H (by simp)

/-- THE ONE PURE STATEMENT of chafflaw17_OctetBack: yours. -/
def chafflaw17_OctetBack.Pure : Prop := ∀ (a0 : Int) (a1 : ByteArray) (a2 : ByteArray) (a3 : Int), (Lit.int .u64 a0).wf = true → a1.size ≤ 140737488351232 → a2.size ≤ 140737488351232 → (Lit.int .u8 a3).wf = true → ∃ k, chafflaw17_OctetBack.f k a0 a1 a2 a3 = some true
theorem chafflaw17_OctetBack.walk (P : chafflaw17_OctetBack.Pure) (a0 : Int) (a1 : ByteArray) (a2 : ByteArray) (a3 : Int) (w : World) (w0 : (Lit.int .u64 a0).wf = true) (w1 : a1.size ≤ 140737488351232) (w2 : a2.size ≤ 140737488351232) (w3 : (Lit.int .u8 a3).wf = true) :
    Calls Try.prog 5 #[.int .u64 a0, .string a1, .string a2, .int .u8 a3] w fun e w' => e = .returned (.bool true) ∧ Below w.heap.size w w' := by
  obtain ⟨k, h⟩ := P a0 a1 a2 a3 w0 w1 w2 w3
  refine (chafflaw17_OctetBack.calls k a0 a1 a2 a3 true w h).mono ?_
  rintro e w' ⟨rfl, hd⟩
  exact ⟨rfl, hd⟩


end Go.Proofs.Ytdmmklfphkgmlaa.Ba
