/- Texts of the seat, as far as the row needs them. -/
import Derived.Test.YtgkdealidnidiaaDoorQRatRounds4
set_option linter.unusedVariables false
set_option linter.unusedSimpArgs false
set_option maxHeartbeats 8000000
set_option maxRecDepth 100000
namespace Go.Proofs.YtgkdealidnidiaaDoor.Na
open Go.RowKit Go.Proofs.YtgkdealidnidiaaDoorW.PrintWords Go.Proofs.YtgkdealidnidiaaDoorW.PrintLast Go.Proofs.YtgkdealidnidiaaDoorW.PrintMore
attribute [local go_sem] zx0 zd1
def chaffref01_Gcd.l0 : Nat → List Int → List Int → Option (List Int)
 | 0, _, _ => none
 | k + 1, x0, x1 => if (x1.length : Int) > 0 then ((chaffref01_Div.f k x0 x1).bind fun bt526 => (chaffref01_Gcd.l0 k x1 bt526.2)) else (some x0)
def chaffref01_Gcd.f (k : Nat) (l0 : List Int) (l1 : List Int) : Option (List Int) := chaffref01_Gcd.l0 k l0 l1
theorem chaffref01_Gcd.calls (k : Nat) (P0_ : Nat → Prop) (A0 : Option Addr) (c0 : Nat) (l0 : List Int) (P1_ : Nat → Prop) (A1 : Option Addr) (c1 : Nat) (l1 : List Int) (r : List Int) (w : World) (hs0 : Kd.V (Kd.int .i64) 3 w w.heap.size (fun k_ => P0_ k_) (.slice A0 l0.length c0) l0) (hs1 : Kd.V (Kd.int .i64) 3 w w.heap.size (fun k_ => P1_ k_) (.slice A1 l1.length c1) l1) (h : chaffref01_Gcd.f k l0 l1 = some r) :
  Calls Tryd.prog 43 #[.slice A0 l0.length c0, .slice A1 l1.length c1] w fun e w' => ∃ v0_ : Value, e = .returned (v0_) ∧ Kd.V (Kd.int .i64) 3 w' w.heap.size (fun k_ => ((P0_ k_ ∨ P1_ k_) ∨ w.heap.size ≤ k_)) v0_ r ∧ Below w.heap.size w w' := by
 have HO0 := Q0.mk (show Kd.V (Kd.int .i64) 3 w w.heap.size (fun k_ => ((P0_ k_ ∨ P1_ k_) ∨ w.heap.size ≤ k_)) (.slice A0 l0.length c0) l0 from Kd.VM_ hs0 (fun k_ hk => .inl (.inl hk)))
 have HO1 := Q0.mk (show Kd.V (Kd.int .i64) 3 w w.heap.size (fun k_ => ((P0_ k_ ∨ P1_ k_) ∨ w.heap.size ≤ k_)) (.slice A1 l1.length c1) l1 from Kd.VM_ hs1 (fun k_ hk => .inl (.inr hk)))
 have HB := Q0.mk (Below.refl w.heap.size w)
 have H : (chaffref01_Gcd.l0 k l0 l1) = some r := h
 clear h
 have H' := Q0.mk H
 clear H
 go_enter Tryd.func43, Tryd.ntmps43
 go_wp2
 go_loopg [0, 1] k (fun kq v0 v1 w' => ∃ (x0_1 : List Int) (x1_1 : List Int), Q0 (chaffref01_Gcd.l0 kq x0_1 x1_1 = some r) ∧ Q0 (kq ≤ k) ∧ Q0 (Kd.V (Kd.int .i64) 3 w' w.heap.size (fun k_ => ((P0_ k_ ∨ P1_ k_) ∨ w.heap.size ≤ k_)) v0 x0_1) ∧ Q0 (Kd.V (Kd.int .i64) 3 w' w.heap.size (fun k_ => ((P0_ k_ ∨ P1_ k_) ∨ w.heap.size ≤ k_)) v1 x1_1) ∧ Q0 (Below w.heap.size w w'))
 case atStart => exact ⟨(l0), (l1), H', ⟨Nat.le_refl _⟩, ⟨by (with_reducible repeat (first | apply Kd.VA_ | apply Kd.VN_ | apply Kd.VD_)); exact HO0.out⟩, ⟨by (with_reducible repeat (first | apply Kd.VA_ | apply Kd.VN_ | apply Kd.VD_)); exact HO1.out⟩, ⟨by repeat (first | (with_reducible first | exact HB.out | apply bA | apply bN | apply b1_) | exact HB.out)⟩⟩
 case round =>
  clear H'
  obtain ⟨x0_1, x1_1, HA, HK1, HO_0, HO_1, HB⟩ := hrel
  cases gk with
  | zero => exact absurd HA.out (by simp [chaffref01_Gcd.l0])
  | succ k1 =>
   have H := HA.out
   clear HA
   simp only [chaffref01_Gcd.l0] at H
   by_cases c3 : (x1_1.length : Int) > 0
   ·rw [if_pos c3] at H
    have c3b0 : decide (0 < (x1_1.length : Int)) = true := decide_eq_true c3
    have c3b1 : decide (0 < x1_1.length) = true := decide_eq_true (by omega)
    clear c3
    replace H := Option.bind_eq_some_iff.mp H
    obtain ⟨⟨t526, t529⟩, A40, H⟩ := H
    have A4 := Q0.mk A40
    clear A40
    have H' := Q0.mk H
    clear H
    obtain ⟨Ao5, co5, eo5⟩ := Kd.zo HO_1.out
    subst eo5
    obtain ⟨Ao6, co6, eo6⟩ := Kd.zo HO_0.out
    subst eo6
    go_wp2_with (first | ((with_reducible refine gC (f := 42) rfl ?_); refine zx (some 13) rfl rfl Tryd.func42 (by kernel_rfl) rfl #[.slice Ao6 x0_1.length co6, .slice Ao5 x1_1.length co5] rfl (by (try simp only [List.map_toArray, List.map_cons, List.map_nil]); first | done | rfl | (simp only [List.length_drop, List.length_take]; rfl)) ?_; (with_reducible refine (chaffref01_Div.calls k1 _ _ x0_1 _ _ x1_1 t526 t529 _ ?side1 ?side2 ?side3 ?side4 A4.out).mono ?_); (case side1 => repeat (first | exact (Kd.z90 HO_0.out).2.2 | (with_reducible refine Kd.ze ?_ _) | (with_reducible refine Kd.zf ?_ _) | (with_reducible refine Kd.zi ?_))); (case side2 => exact (Kd.z90 HO_0.out).2.1); (case side3 => repeat (first | exact (Kd.z90 HO_1.out).2.2 | (with_reducible refine Kd.ze ?_ _) | (with_reducible refine Kd.zf ?_ _) | (with_reducible refine Kd.zi ?_))); (case side4 => exact (Kd.z90 HO_1.out).2.1); rintro e w7 ⟨v527, v530, rfl, ho0, ho1, hb⟩; refine ⟨_, rfl, ?_⟩; have q_ := zm (w := w) hb (by repeat (first | (with_reducible first | exact HB.out | apply bA | apply bN | apply b1_) | exact HB.out)); replace HO_0 := Q0.mk (Kd.zl (by (with_reducible repeat (first | apply Kd.VA_ | apply Kd.VN_ | apply Kd.VD_)); exact HO_0.out) hb); replace HO_1 := Q0.mk (Kd.zl (by (with_reducible repeat (first | apply Kd.VA_ | apply Kd.VN_ | apply Kd.VD_)); exact HO_1.out) hb); have HO528 := Q0.mk (Kd.za0 (Kd.VM_ (ok' := fun k_ => ((P0_ k_ ∨ P1_ k_) ∨ w.heap.size ≤ k_)) ho0 (fun k_ hk_ => (.inr (Nat.le_trans (bZ q_) hk_)))) (bZ q_)); have HO531 := Q0.mk (Kd.za0 (Kd.VM_ (ok' := fun k_ => ((P0_ k_ ∨ P1_ k_) ∨ w.heap.size ≤ k_)) ho1 (fun k_ hk_ => (.inr (Nat.le_trans (bZ q_) hk_)))) (bZ q_)); replace HB := Q0.mk (bP q_ hb); clear q_; (try clear hb); (try clear hb2); (try clear hk); (try clear hi); (try clear ho0); (try clear ho1)))
    go_roundg k1
    case measure => have := HK1.out; omega
    case rel => exact ⟨(x1_1), (t529), H', ⟨by have := HK1.out; omega⟩, ⟨by (with_reducible repeat (first | apply Kd.VA_ | apply Kd.VN_ | apply Kd.VD_)); exact HO_1.out⟩, ⟨by (with_reducible repeat (first | apply Kd.VA_ | apply Kd.VN_ | apply Kd.VD_)); exact HO531.out⟩, ⟨by repeat (first | (with_reducible first | exact HB.out | apply bA | apply bN | apply b1_) | exact HB.out)⟩⟩
   ·rw [if_neg c3] at H
    have c3b0 : decide (0 < (x1_1.length : Int)) = false := decide_eq_false c3
    have c3b1 : decide (0 < x1_1.length) = false := decide_eq_false (by omega)
    clear c3
    obtain rfl := Option.some.inj H
    obtain ⟨Ao8, co8, eo8⟩ := Kd.zo HO_1.out
    subst eo8
    go_wp2
    go_ret
    exact ⟨_, by first | rfl | (simp [eN, eS] <;> rfl) | (simp [*, eN, eS] <;> rfl), by (with_reducible repeat (first | apply Kd.VA_ | apply Kd.VN_ | apply Kd.VD_)); exact HO_0.out, by repeat (first | (with_reducible first | exact HB.out | apply bA | apply bN | apply b1_) | exact HB.out)⟩
def chaffref01_Shl.l0 : Nat → Int → List Int → Int → Option (List Int)
 | 0, _, _, _ => none
 | k + 1, x1, x5, x6 => if x6 < (Int.tmod x1 16) then ((chaffref01_twice.f x5 0).bind fun t349 => (chaffref01_Shl.l0 k x1 t349 (wrap64 (x6 + 1)))) else ((chaffref01_trim.f k x5).bind fun t352 => (some t352))
def chaffref01_Shl.f (k : Nat) (l0 : List Int) (a1 : Int) : Option (List Int) := if 0 ≤ (wrap64 (Int.tdiv a1 16)) then (if (wrap64 (Int.tdiv a1 16) : Int).toNat ≤ 35184372088832 then ((some (List.replicate (wrap64 (Int.tdiv a1 16) : Int).toNat 0 : List Int)).bind fun y343 => (if y343.length + l0.length < 17592186044416 then (chaffref01_Shl.l0 k a1 (y343 ++ l0) 0) else (none))) else (none)) else (none)
theorem chaffref01_Shl.calls (k : Nat) (A0 : Option Addr) (c0 : Nat) (l0 : List Int) (a1 : Int) (r : List Int) (w : World) (hr0 : Kd.C (Kd.int .i64) w A0 l0.length l0) (hc0 : l0.length ≤ c0) (h : chaffref01_Shl.f k l0 a1 = some r) :
  Calls Tryd.prog 30 #[.slice A0 l0.length c0, .int .i64 a1] w fun e w' => ∃ v0_ : Value, e = .returned (v0_) ∧ Kd.V (Kd.int .i64) 3 w' w.heap.size (fun k_ => (w.heap.size ≤ k_)) v0_ r ∧ Below w.heap.size w w' := by
 have HR0 := Q0.mk hr0
 have HC0 := Q0.mk hc0
 clear hr0 hc0
 have HB := Q0.mk (Below.refl w.heap.size w)
 have H : (if 0 ≤ (wrap64 (Int.tdiv a1 16)) then (if (wrap64 (Int.tdiv a1 16) : Int).toNat ≤ 35184372088832 then ((some (List.replicate (wrap64 (Int.tdiv a1 16) : Int).toNat 0 : List Int)).bind fun y343 => (if y343.length + l0.length < 17592186044416 then (chaffref01_Shl.l0 k a1 (y343 ++ l0) 0) else (none))) else (none)) else (none)) = some r := h
 clear h
 obtain ⟨ji3, hji3⟩ : ∃ j_ : Int, (wrap64 (Int.tdiv a1 16)) = j_ := ⟨_, rfl⟩
 replace H : (if 0 ≤ (ji3) then (if (ji3 : Int).toNat ≤ 35184372088832 then ((some (List.replicate (ji3 : Int).toNat 0 : List Int)).bind fun y343 => (if y343.length + l0.length < 17592186044416 then (chaffref01_Shl.l0 k a1 (y343 ++ l0) 0) else (none))) else (none)) else (none)) = some r := by first | (rw [hji3] at H; exact H) | (simp only [hji3] at H ⊢; exact H)
 have hji3w : (IntKind.i64.wrap (Int.tdiv a1 16)) = ji3 := (iw _).trans hji3
 by_cases c4 : 0 ≤ (ji3)
 ·rw [if_pos c4] at H
  have c4b0 := eq_true c4
  have c4b1 : decide (0 ≤ (ji3)) = true := decide_eq_true c4
  clear c4
  by_cases c5 : (ji3 : Int).toNat ≤ 35184372088832
  ·rw [if_pos c5] at H
   have c5b0 := eq_true c5
   have c5b1 : decide ((ji3 : Int).toNat ≤ 35184372088832) = true := decide_eq_true c5
   clear c5
   obtain ⟨y343, hy343⟩ : ∃ y_ : List Int, y_ = (List.replicate (ji3 : Int).toNat 0) := ⟨_, rfl⟩
   replace H := (Option.bind_some _ _).symm.trans H; rw [← hy343] at H
   have Ny343 := Q0.mk hy343
   clear hy343
   by_cases c6 : y343.length + l0.length < 17592186044416
   ·rw [if_pos c6] at H
    have LMc6 := Q0.mk c6
    clear c6
    obtain ⟨y346, hy346⟩ : ∃ y_ : List Int, y_ = (y343 ++ l0) := ⟨_, rfl⟩
    rw [← hy346] at H
    have Ny346 := Q0.mk hy346
    clear hy346
    have H' := Q0.mk H
    clear H
    go_enter Tryd.func30, Tryd.ntmps30
    go_wp2_with (first | ((with_reducible refine gD (N := 9) rfl ?_); refine Kd.zx2 (Kd.int .i64) _ 3 rfl (N := 9) rfl 26 _ _ rfl ji3 rfl rfl Tryd.underlying26 (.int .i64 0) 8 info3 rfl (by decide) (by omega) 0 (ok := fun _ => True) (okp := fun _ => True) rfl (fun _ hk => hk) trivial (of_decide_eq_true (by first | (with_reducible assumption) | assumption)) (Nat.le_trans (Nat.mul_le_mul_right _ (of_decide_eq_true (by first | (with_reducible assumption) | assumption) : ji3.toNat ≤ 35184372088832)) (by omega)) (Below.refl _ _) (Nat.le_refl _) ?_; intro v344 w7 ho8 hb hg_ hnew_; clear hg_ hnew_; (first | rw [← Ny343.out] at ho8 | (simp only [Int.reduceToNat] at ho8; rw [← Ny343.out] at ho8)); have q_ := zm (w := w) hb (by repeat (first | (with_reducible first | exact HB.out | apply bA | apply bN | apply b1_) | exact HB.out)); have HO345 := Q0.mk (Kd.zw0 (Kd.zs1 (M := fun k_ => (w.heap.size ≤ k_)) ho8 (bZ q_) (fun k_ h_ => h_)) (bZ q_)); replace HB := Q0.mk (bP q_ hb); clear q_; clear hb ho8) | ((with_reducible refine zz0 (b := .append) (xs := #[.tmp 10, .tmp 11]) rfl ?_); at_builtin; refine Kd.R_append_rows (Kd.int .i64) (w0 := w) w.heap.size rfl (.tmp 10) (.tmp 11) 26 3 (.int .i64 0) 8 rfl Tryd.underlying26 info3 rfl (by decide) (by omega) v344 y343 l0 _ _ _ (fun k_ => (w.heap.size ≤ k_)) (fun _ => False) rfl rfl ?aO ?aR (fun _ _ h => h) (fun _ h => h.elim) ?aF ?aB ?aS ?aL ?_; (case aR => repeat (first | exact (Kd.zu HR0.out HB.out) | (with_reducible refine Kd.ze ?_ _) | (with_reducible refine Kd.zf ?_ _) | (with_reducible refine Kd.zi ?_))); (case aB => exact (by repeat (first | (with_reducible first | exact HB.out | apply bA | apply bN | apply b1_) | exact HB.out))); (case aF => exact (fun k_ hk => (Nat.le_trans (bZ (by repeat (first | (with_reducible first | exact HB.out | apply bA | apply bN | apply b1_) | exact HB.out))) hk))); (case aO => exact (by (with_reducible repeat (first | apply Kd.RA_ | apply Kd.RN_ | apply Kd.RD_)); exact Kd.zb1 HO345.out (fun _ hk => hk.1))); (case aS => exact (bZ (by repeat (first | (with_reducible first | exact HB.out | apply bA | apply bN | apply b1_) | exact HB.out)))); (case aL => have := LMc6.out; omega); intro v347 w9 ho hb hg hat; rw [← Ny346.out] at ho; have n0_ := Q0.mk (hb); have n1_ := Q0.mk (ho); clear HB; clear HO345; have HB := n0_; have HO348 := n1_; clear n0_ n1_; clear ho hb hg hat))
    go_loopg [5, 6] k (fun kq v5 v6 w' => ∃ (x5_1 : List Int) (x6_1 : Int), v6 = .int .i64 x6_1 ∧ Q0 (chaffref01_Shl.l0 kq a1 x5_1 x6_1 = some r) ∧ Q0 (kq ≤ k) ∧ Q0 (Kd.R (Kd.int .i64) 3 w' w.heap.size (fun k_ => (w.heap.size ≤ k_)) v5 x5_1) ∧ Q0 (Below w.heap.size w w'))
    case atStart => exact ⟨(y346), (0), (by first | rfl | (simp; done) | (simp [*]; done)), H', ⟨Nat.le_refl _⟩, ⟨by (with_reducible repeat (first | apply Kd.RA_ | apply Kd.RN_ | apply Kd.RD_)); exact HO348.out⟩, ⟨by repeat (first | (with_reducible first | exact HB.out | apply bA | apply bN | apply b1_) | exact HB.out)⟩⟩
    case round =>
     clear H'
     obtain ⟨x5_1, x6_1, rfl, HA, HK1, HO_5, HB⟩ := hrel
     cases gk with
     | zero => exact absurd HA.out (by simp [chaffref01_Shl.l0])
     | succ k1 =>
      have H := HA.out
      clear HA
      simp only [chaffref01_Shl.l0] at H
      by_cases c10 : x6_1 < (Int.tmod a1 16)
      ·rw [if_pos c10] at H
       have c10b0 : decide (x6_1 < (Int.tmod a1 16)) = true := decide_eq_true c10
       clear c10
       replace H := Option.bind_eq_some_iff.mp H
       obtain ⟨t349, A110, H⟩ := H
       have A11 := Q0.mk A110
       clear A110
       have H' := Q0.mk H
       clear H
       obtain ⟨Ao12, co12, eo12⟩ := Kd.zl0 HO_5.out
       subst eo12
       go_wp2_with (first | ((with_reducible refine gC (f := 77) rfl ?_); refine zx (some 20) rfl rfl Tryd.func77 (by kernel_rfl) rfl #[.slice Ao12 x5_1.length co12, .int .i64 0] rfl (by (try simp only [List.map_toArray, List.map_cons, List.map_nil]); first | done | rfl | (simp only [List.length_drop, List.length_take]; rfl)) ?_; (with_reducible refine (chaffref01_twice.calls _ _ x5_1 0 t349 _ ?side1 ?side2 A11.out).mono ?_); (case side1 => repeat (first | exact (Kd.zw HO_5.out).2.2 | (with_reducible refine Kd.ze ?_ _) | (with_reducible refine Kd.zf ?_ _) | (with_reducible refine Kd.zi ?_))); (case side2 => exact (Kd.zw HO_5.out).2.1); rintro e w13 ⟨v350, rfl, ho0, hb⟩; refine ⟨_, rfl, ?_⟩; have q_ := zm (w := w) hb (by repeat (first | (with_reducible first | exact HB.out | apply bA | apply bN | apply b1_) | exact HB.out)); have HO351 := Q0.mk (Kd.zw0 (Kd.R_new' (Kd.zs1 (M := fun k_ => (w.heap.size ≤ k_)) ho0 (bZ q_) (fun k_ h_ => h_)) (Kd.R_lt (by (with_reducible repeat (first | apply Kd.RA_ | apply Kd.RN_ | apply Kd.RD_)); exact HO_5.out))) (bZ q_)); replace HO_5 := Q0.mk (Kd.zz3 (by (with_reducible repeat (first | apply Kd.RA_ | apply Kd.RN_ | apply Kd.RD_)); exact HO_5.out) (Kd.zr3 ho0) hb); replace HB := Q0.mk (bP q_ hb); clear q_; (try clear hb); (try clear hb2); (try clear hk); (try clear hi); (try clear ho0)))
       go_roundg k1
       case measure => have := HK1.out; omega
       case rel => exact ⟨(t349), (wrap64 (x6_1 + 1)), (by first | rfl | (simp; done) | (simp [*]; done)), H', ⟨by have := HK1.out; omega⟩, ⟨by (with_reducible repeat (first | apply Kd.RA_ | apply Kd.RN_ | apply Kd.RD_)); exact Kd.zb1 HO351.out (fun _ hk => hk.1.1)⟩, ⟨by repeat (first | (with_reducible first | exact HB.out | apply bA | apply bN | apply b1_) | exact HB.out)⟩⟩
      ·rw [if_neg c10] at H
       have c10b0 : decide (x6_1 < (Int.tmod a1 16)) = false := decide_eq_false c10
       clear c10
       replace H := Option.bind_eq_some_iff.mp H
       obtain ⟨t352, A140, H⟩ := H
       have A14 := Q0.mk A140
       clear A140
       obtain rfl := Option.some.inj H
       obtain ⟨Ao15, co15, eo15⟩ := Kd.zl0 HO_5.out
       subst eo15
       go_wp2_with (first | ((with_reducible refine gC (f := 63) rfl ?_); refine zx (some 22) rfl rfl Tryd.func63 (by kernel_rfl) rfl #[.slice Ao15 x5_1.length co15] rfl (by (try simp only [List.map_toArray, List.map_cons, List.map_nil]); first | done | rfl | (simp only [List.length_drop, List.length_take]; rfl)) ?_; (with_reducible refine (chaffref01_trim.calls k1 (fun k_ => some k_ = (.slice Ao15 x5_1.length co15 : Value).ownBlock) _ _ x5_1 t352 _ ?side1 A14.out).mono ?_); (case side1 => exact Kd.R_V (Kd.z11 rfl (HO_5.out))); rintro e w16 ⟨v353, rfl, ho0, hb⟩; refine ⟨_, rfl, ?_⟩; have q_ := zm (w := w) hb (by repeat (first | (with_reducible first | exact HB.out | apply bA | apply bN | apply b1_) | exact HB.out)); have HO354 := Q0.mk (Kd.za0 (Kd.VM_ (ok' := fun k_ => (w.heap.size ≤ k_)) ho0 (fun k_ hk_ => Or.elim hk_ (fun hs_ => ((HO_5.out).1 k_ hs_.symm)) (fun hn_ => (Nat.le_trans (bZ q_) hn_)))) (bZ q_)); replace HO_5 := Q0.mk (Kd.zy (by (with_reducible repeat (first | apply Kd.RA_ | apply Kd.RN_ | apply Kd.RD_)); exact HO_5.out) hb); replace HB := Q0.mk (bP q_ hb); clear q_; (try clear hb); (try clear hb2); (try clear hk); (try clear hi); (try clear ho0)))
       go_ret
       exact ⟨_, by first | rfl | (simp [eN, eS] <;> rfl) | (simp only [← hji3]; first | rfl | (simp [eN, eS] <;> rfl)) | (simp [*, eN, eS] <;> rfl), by (with_reducible repeat (first | apply Kd.VA_ | apply Kd.VN_ | apply Kd.VD_)); exact HO354.out, by repeat (first | (with_reducible first | exact HB.out | apply bA | apply bN | apply b1_) | exact HB.out)⟩
   ·rw [if_neg c6] at H
    exact absurd H (by simp)
  ·rw [if_neg c5] at H
   exact absurd H (by simp)
 ·rw [if_neg c4] at H
  exact absurd H (by simp)
end Go.Proofs.YtgkdealidnidiaaDoor.Na
namespace Go.Proofs.YtgkdealidnidiaaDoor.Na
open Go.RowKit Go.Proofs.YtgkdealidnidiaaDoorW.PrintWords Go.Proofs.YtgkdealidnidiaaDoorW.PrintLast Go.Proofs.YtgkdealidnidiaaDoorW.PrintMore Go.Proofs.YtgkdealidnidiaaDoor.Dg
theorem tw_R : ∀ (l : List Int) (c : Int), R BD l → 0 ≤ c → c ≤ 1 → R BD (twL l c)
 | [], c, _, h0, h1 => by
  unfold twL; split
  ·exact zy2 h0 (by rw [BDi]; omega)
  ·exact zj1 _
 | x :: l, c, hR, h0, h1 => by
  have hx := (zp1.1 hR).1
  rw [BDi] at hx
  exact zp1.2 ⟨by rw [BDi]; omega, tw_R l _ (zp1.1 hR).2 (by omega) (by omega)⟩
theorem tw_V : ∀ (l : List Int) (c : Int), R BD l → 0 ≤ c → V BD (twL l c) = 2 * V BD l + c
 | [], c, _, h0 => by
  unfold twL; split
  ·simp [V]
  ·simp [V]; omega
 | x :: l, c, hR, h0 => by
  have hx := (zp1.1 hR).1
  rw [BDi] at hx
  have := tw_V l ((2 * x + c) / 65536) (zp1.1 hR).2 (by omega)
  rw [twL, V, V, BDi]
  rw [BDi] at this
  rw [this]; omega
theorem tw_len : ∀ (l : List Int) (c : Int), (twL l c).length ≤ l.length + 1
 | [], c => by unfold twL; split <;> simp
 | x :: l, c => by
  have := tw_len l ((2 * x + c) / 65536)
  rw [twL, List.length_cons, List.length_cons]; omega
theorem tw_NZ : ∀ (l : List Int) (c : Int), R BD l → NZ l → 0 ≤ c → NZ (twL l c)
 | [], c, _, _, h0 => by
  unfold twL; split
  ·exact .inr ⟨[], c, rfl, by omega⟩
  ·exact .inl rfl
 | x :: l, c, hR, hN, h0 => by
  have hx := (zp1.1 hR).1
  rw [BDi] at hx
  rw [twL]
  have ih := tw_NZ l ((2 * x + c) / 65536) (zp1.1 hR).2 (NZ_tail hN) (by omega)
  rcases ih with h | ⟨m, y, h, hy⟩
  ·rcases NZ_cons hN with ⟨rfl, hx0⟩ | ⟨hl, hN2⟩
   ·unfold twL at h
    split at h
    ·cases h
    ·refine .inr ⟨[], (2 * x + c) % 65536, ?_, by omega⟩
     unfold twL; rw [if_neg (by omega)]; rfl
   ·cases l with
    | nil => exact absurd rfl hl
    | cons z l => rw [twL] at h; cases h
  ·exact .inr ⟨(2 * x + c) % 65536 :: m, y, by rw [h]; rfl, hy⟩
theorem tw_some {l : List Int} {c : Int} (hR : R BD l) (h0 : 0 ≤ c) (h1 : c ≤ 1) (hl : l.length ≤ 1000000000) : chaffref01_twice.f l c = some (twL l c) := by
 unfold chaffref01_twice.f
 rw [if_pos ⟨List.all_eq_true.2 fun x hx => decide_eq_true (by have := hR x hx; rw [BDi] at this; exact this), ⟨h0, h1⟩, hl⟩]
theorem tw_wd (x bit : Nat) (hb : bit ≤ 1) (hl : (wd BD x).length ≤ 1000000000) : chaffref01_twice.f (wd BD x) bit = some (wd BD (2 * x + bit)) := by
 rw [tw_some (zd2 (by decide) x) (by omega) (by omega) hl]
 congr 1
 exact eq_wd' (by decide) (tw_R _ bit (zd2 (by decide) x) (by omega) (by omega)) (tw_NZ _ bit (zd2 (by decide) x) (wd_NZ (by decide) x) (by omega)) (by rw [tw_V _ _ (zd2 (by decide) x) (by omega), zn2 (by decide)]; omega)
theorem pw_le {b : Int} (hb : 0 < b) {m n : Nat} (h : m ≤ n) : b ^ m ≤ b ^ n := by
 obtain ⟨d, rfl⟩ : ∃ d, n = m + d := ⟨n - m, by omega⟩
 have h1 := zo3 hb m
 have h2 := zo3 hb d
 have := Int.mul_le_mul_of_nonneg_left (show 1 ≤ b ^ d by omega) (Int.le_of_lt h1)
 rw [Int.pow_add]; omega
theorem len_twice {r z k : Nat} (h : (wd BD r).length ≤ k) (hz : z ≤ 2 * r + 1) : (wd BD z).length ≤ k + 1 := by
 rw [zn (by decide)] at h ⊢
 rw [Nat.pow_succ]
 have e : BD = 65536 := rfl
 generalize BD ^ k = M at h ⊢
 rw [e]; omega
theorem wrap_twice {P : Nat} (h : P ≤ 32768) : wrap64 ((P : Int) * 2) = ((P * 2 : Nat) : Int) := by rw [w64 (by omega) (by omega)]; omega
theorem wrap_sum {A P : Nat} (h : A + P < 65536) : wrap64 ((A : Int) + (P : Int)) = ((A + P : Nat) : Int) := by rw [w64 (by omega) (by omega)]; omega
theorem getD_V {b : Int} (hb : 0 < b) {l : List Int} (hR : R b l) (i : Nat) : l.getD i 0 = V b l / b ^ i % b := by
 have hp := zo3 hb i
 by_cases h : i < l.length
 ·have s := zl3 b l i
  have t0 := zn0 hb (zm2 hR i)
  have t1 := V_lt hb (zm2 hR i)
  rw [List.length_take, Nat.min_eq_left (by omega)] at s t1
  rw [zh3 b l i h] at s
  have r := zu0 hR hb i
  have e : V b l / b ^ i = l.getD i 0 + b * V b (l.drop (i + 1)) := by
   rw [s, Int.add_mul_ediv_left _ _ (by omega), Int.ediv_eq_zero_of_lt t0 t1, Int.zero_add]
  rw [e, Int.add_mul_emod_self_left, Int.emod_eq_of_lt r.1 r.2]
 ·have t0 := zn0 hb hR
  have t1 := V_lt hb hR
  have : b ^ l.length ≤ b ^ i := pw_le hb (by omega)
  rw [List.getD_eq_getElem?_getD, List.getElem?_eq_none (by omega), Int.ediv_eq_zero_of_lt t0 (by omega)]; simp
theorem getD_N {b m : Nat} (hb : 2 ≤ b) {l : List Int} (hR : R b l) (hV : V b l = m) (i : Nat) : l.getD i 0 = ((m / b ^ i % b : Nat) : Int) := by
 rw [getD_V (by omega) hR, hV]; simp
theorem half_mod (y k : Nat) (hk : k < 16) : y % 65536 / 2 ^ k % 2 = y / 2 ^ k % 2 := by
 have e : 65536 = 2 ^ k * (2 * 2 ^ (15 - k)) := by
  rw [← Nat.mul_assoc, ← Nat.pow_succ, ← Nat.pow_add, show k + 1 + (15 - k) = 16 by omega]
 rw [e, Nat.mod_mul_right_div_self, Nat.mod_mul_right_mod]
theorem pow_split (x n : Nat) : x / 2 ^ n = x / 65536 ^ (n / 16) / 2 ^ (n % 16) := by
 rw [Nat.div_div_eq_div_mul, show 65536 = 2 ^ 16 by decide, ← Nat.pow_mul, ← Nat.pow_add, show 16 * (n / 16) + n % 16 = n by omega]
theorem bit_loop (n : Nat) (hn : n ≤ 1000000000) : ∀ (d j : Nat) (x : Nat), j + d = n % 16 → x < 65536 → Ev (fun k => chaffref01_Bit.l0 k n x j) ((x / 2 ^ d % 2 : Nat) : Int)
 | 0, j, x, hj, hx => by
  refine Ev.step (f := fun _ => some ((x / 2 ^ 0 % 2 : Nat) : Int)) (fun k => ?_) (Ev.now _)
  rw [chaffref01_Bit.l0, z92 (by omega), if_neg (by omega), z92 (by omega)]; simp
 | d + 1, j, x, hj, hx => by
  have ih := bit_loop n hn d (j + 1) (x / 2) (by omega) (by omega)
  rw [Nat.div_div_eq_div_mul, show 2 * 2 ^ d = 2 ^ (d + 1) by rw [Nat.pow_succ, Nat.mul_comm]] at ih
  refine Ev.step (fun k => ?_) ih
  have g : (j : Int) < (n : Int) % 16 := by omega
  have E := Q0.mk (And.intro (show wrap64 (Int.tdiv (x : Int) 2) = ((x / 2 : Nat) : Int) by rw [zz2 (by omega), w64 (by omega) (by omega)]; omega) (show wrap64 ((j : Int) + 1) = ((j + 1 : Nat) : Int) by rw [w64 (by omega) (by omega)]; rfl))
  rw [chaffref01_Bit.l0, z92 (by omega), if_pos g, E.out.1, E.out.2]
theorem bit_ev (x n : Nat) (hn : n ≤ 1000000000) : Ev (fun k => chaffref01_Bit.f k (wd BD x) n) ((x / 2 ^ n % 2 : Nat) : Int) := by
 have hd := getD_N (b := BD) (m := x) (by decide) (zd2 (by decide) x) (zn2 (by decide) x) (n / 16)
 have hlt : x / BD ^ (n / 16) % BD < 65536 := Nat.mod_lt _ (by decide)
 have ih := bit_loop n hn (n % 16) 0 (x / BD ^ (n / 16) % BD) (by omega) hlt
 rw [half_mod _ _ (Nat.mod_lt _ (by decide)), ← pow_split] at ih
 refine Ev.congr (fun k => ?_) ih
 have E := Q0.mk (show wrap64 (Int.tdiv (n : Int) 16) = ((n / 16 : Nat) : Int) by rw [zz2 (by omega), w64 (by omega) (by omega)]; omega)
 unfold chaffref01_Bit.f
 rw [E.out, at_some, Option.bind_some, hd]; rfl
theorem pw_loop (i : Nat) (hi : i ≤ 1000000000) (a b q r : List Int) (z : List Int × List Int) : ∀ (d j : Nat), j + d = i % 16 →
  Ev (fun k => chaffref01_Div.l1 k a b q r i ((2 ^ (i % 16) : Nat) : Int) ((i % 16 : Nat) : Int)) z → Ev (fun k => chaffref01_Div.l1 k a b q r i ((2 ^ j : Nat) : Int) j) z
 | 0, j, hj, h => by
  obtain rfl : j = i % 16 := by omega
  exact h
 | d + 1, j, hj, h => by
  refine Ev.step (fun k => ?_) (pw_loop i hi a b q r z d (j + 1) (by omega) h)
  have g : (j : Int) < (i : Int) % 16 := by omega
  have hp : 2 ^ j ≤ 2 ^ 15 := Nat.pow_le_pow_right (by decide) (by omega)
  have E := Q0.mk (And.intro (show wrap64 (((2 ^ j : Nat) : Int) * 2) = ((2 ^ (j + 1) : Nat) : Int) by rw [Nat.pow_succ]; exact wrap_twice hp) (show wrap64 ((j : Int) + 1) = ((j + 1 : Nat) : Int) by rw [w64 (by omega) (by omega)]; rfl))
  rw [chaffref01_Div.l1, z92 (by omega), if_pos g, E.out.1, E.out.2]
theorem digit_room {Q k : Nat} (hk : k < 16) : (Q * 2 ^ (k + 1)) % 65536 + 2 ^ k < 65536 := by
 have e : 65536 = 2 ^ (k + 1) * 2 ^ (15 - k) := by rw [← Nat.pow_add, show k + 1 + (15 - k) = 16 by omega]
 have h1 : (Q * 2 ^ (k + 1)) % 65536 = 2 ^ (k + 1) * (Q % 2 ^ (15 - k)) := by
  rw [Nat.mul_comm Q, e, Nat.mul_mod_mul_left]
 have h2 : Q % 2 ^ (15 - k) + 1 ≤ 2 ^ (15 - k) := Nat.mod_lt _ (Nat.pow_pos (by decide))
 have h3 : 2 ^ (k + 1) * (Q % 2 ^ (15 - k) + 1) ≤ 2 ^ (k + 1) * 2 ^ (15 - k) := Nat.mul_le_mul_left _ h2
 have h4 : 2 ^ (k + 1) = 2 ^ k + 2 ^ k := by rw [Nat.pow_succ]; omega
 have h5 : 0 < 2 ^ k := Nat.pow_pos (by decide)
 rw [← e, Nat.mul_add] at h3
 omega
theorem pow_split2 (Q i : Nat) : Q * 2 ^ (i + 1) / 65536 ^ (i / 16) = Q * 2 ^ (i % 16 + 1) := by
 have e : 2 ^ (i + 1) = 2 ^ (i % 16 + 1) * 65536 ^ (i / 16) := by
  rw [show 65536 = 2 ^ 16 by decide, ← Nat.pow_mul, ← Nat.pow_add, show i % 16 + 1 + 16 * (i / 16) = i + 1 by omega]
 rw [e, ← Nat.mul_assoc, Nat.mul_div_cancel _ (Nat.pow_pos (by decide))]
theorem half_step {x y q r i : Nat} (hr : x / 2 ^ (i + 1) = q * y + r) : x / 2 ^ i = 2 * (q * y + r) + x / 2 ^ i % 2 := by
 rw [← hr, Nat.pow_succ, ← Nat.div_div_eq_div_mul]; omega
theorem rdiv_loop (x y : Nat) (hy : 0 < y) (hx : (wd BD x).length ≤ 1000000) (hyl : (wd BD y).length ≤ 1000000) : ∀ (i : Nat) (q : List Int) (Q r : Nat), i ≤ 16 * (wd BD x).length → R BD q → q.length = (wd BD x).length → V BD q = ((Q * 2 ^ i : Nat) : Int) → x / 2 ^ i = Q * y + r → r < y →
  Ev (fun k => chaffref01_Div.l0 k (wd BD x) (wd BD y) q (wd BD r) ((i : Int) - 1)) (wd BD (x / y), wd BD (x % y))
 | 0, q, Q, r, hi, hR, hl, hV, hQ, hr => by
  rw [Nat.pow_zero, Nat.div_one] at hQ
  rw [Nat.pow_zero, Nat.mul_one] at hV
  have e1 : x / y = Q := by rw [hQ, Nat.mul_comm, Nat.mul_add_div hy, Nat.div_eq_of_lt hr]; omega
  have e2 : x % y = r := by rw [hQ, Nat.mul_comm, Nat.mul_add_mod, Nat.mod_eq_of_lt hr]
  refine Ev.step (f := fun k => (chaffref01_trim.f k q).bind fun t => some (t, wd BD r)) (fun k => by rw [chaffref01_Div.l0, if_neg (by omega)]) ?_
  refine Ev.bind (za3 q (by omega)) ?_
  rw [zf1 (n := Q) (by decide) hR hV, e1, e2]
  exact Ev.now _
 | i + 1, q, Q, r, hi, hR, hl, hV, hQ, hr => by
  have hb1 : x / 2 ^ i % 2 ≤ 1 := by omega
  have hstep := half_step hQ
  have hrl : (wd BD r).length ≤ 1000000 := Nat.le_trans (zy0 (by decide) (Nat.le_of_lt hr)) hyl
  have h2l : (wd BD (2 * r + x / 2 ^ i % 2)).length ≤ 1000001 := len_twice hrl (by omega)
  refine Ev.step (f := fun k => (chaffref01_Bit.f k (wd BD x) (i : Int)).bind fun t516 => (chaffref01_twice.f (wd BD r) t516).bind fun t517 => (chaffref01_Cmp.f k t517 (wd BD y)).bind fun t520 => if t520 ≥ 0 then ((chaffref01_Sub.f k t517 (wd BD y)).bind fun t521 => chaffref01_Div.l1 k (wd BD x) (wd BD y) q t521 (i : Int) 1 0) else chaffref01_Div.l0 k (wd BD x) (wd BD y) q t517 (wrap64 ((i : Int) - 1))) (fun k => ?_) ?_
  ·rw [show ((i + 1 : Nat) : Int) - 1 = (i : Int) by omega, chaffref01_Div.l0, if_pos (by omega)]
  ·refine Ev.bind (bit_ev x i (by omega)) ?_
   refine Ev.congr (f := fun k => (chaffref01_Cmp.f k (wd BD (2 * r + x / 2 ^ i % 2)) (wd BD y)).bind fun t520 => if t520 ≥ 0 then ((chaffref01_Sub.f k (wd BD (2 * r + x / 2 ^ i % 2)) (wd BD y)).bind fun t521 => chaffref01_Div.l1 k (wd BD x) (wd BD y) q t521 (i : Int) 1 0) else chaffref01_Div.l0 k (wd BD x) (wd BD y) q (wd BD (2 * r + x / 2 ^ i % 2)) (wrap64 ((i : Int) - 1))) (fun k => by rw [tw_wd r _ hb1 (by omega), Option.bind_some]) ?_
   generalize hz : 2 * r + x / 2 ^ i % 2 = z at h2l
   refine Ev.bind (rcmp_ev2 z y h2l) ?_
   by_cases hlt : z < y
   ·have hc : ¬ zv1 z y ≥ 0 := by unfold zv1; rw [if_pos hlt]; decide
    refine Ev.congr (f := fun k => chaffref01_Div.l0 k (wd BD x) (wd BD y) q (wd BD z) ((i : Int) - 1)) (fun k => by rw [if_neg hc, w64 (by omega) (by omega)]) ?_
    refine rdiv_loop x y hy hx hyl i q (2 * Q) z (by omega) hR hl ?_ ?_ hlt
    ·rw [hV]; congr 1; rw [Nat.pow_succ]; grind
    ·rw [hstep, ← hz]; grind
   ·have hc : zv1 z y ≥ 0 := by unfold zv1; rw [if_neg hlt]; split <;> decide
    refine Ev.congr (f := fun k => (chaffref01_Sub.f k (wd BD z) (wd BD y)).bind fun t521 => chaffref01_Div.l1 k (wd BD x) (wd BD y) q t521 (i : Int) 1 0) (fun k => by rw [if_pos hc]) ?_
    refine Ev.bind (rsub_ev2 z y (by omega) h2l) ?_
    refine pw_loop i (by omega) _ _ _ _ _ (i % 16) 0 (by omega) ?_
    have hroom := digit_room (Q := Q) (k := i % 16) (Nat.mod_lt _ (by decide))
    have hdig := getD_N (b := BD) (m := Q * 2 ^ (i + 1)) (by decide) hR hV (i / 16)
    rw [show (BD : Nat) ^ (i / 16) = 65536 ^ (i / 16) from rfl, pow_split2] at hdig
    have hdig2 : q.getD (i / 16) 0 = ((Q * 2 ^ (i % 16 + 1) % 65536 : Nat) : Int) := hdig
    have hilt : i / 16 < q.length := by omega
    refine Ev.step (f := fun k => chaffref01_Div.l0 k (wd BD x) (wd BD y) (q.set (i / 16) ((Q * 2 ^ (i % 16 + 1) % 65536 + 2 ^ (i % 16) : Nat) : Int)) (wd BD (z - y)) ((i : Int) - 1)) (fun k => ?_) ?_
    ·have g1 : ¬ ((i % 16 : Nat) : Int) < (i : Int) % 16 := by omega
     have g2 : (0 : Int) ≤ ((i / 16 : Nat) : Int) := by omega
     have g3 : ((i / 16 : Nat) : Int) < (q.length : Int) := by omega
     have E := Q0.mk (And.intro (show wrap64 (Int.tdiv (i : Int) 16) = ((i / 16 : Nat) : Int) by rw [zz2 (by omega), w64 (by omega) (by omega)]; omega) (And.intro (show wrap64 ((i : Int) - 1) = (i : Int) - 1 from w64 (by omega) (by omega)) (show wrap64 (((Q * 2 ^ (i % 16 + 1) % 65536 : Nat) : Int) + ((2 ^ (i % 16) : Nat) : Int)) = ((Q * 2 ^ (i % 16 + 1) % 65536 + 2 ^ (i % 16) : Nat) : Int) from wrap_sum hroom)))
     rw [chaffref01_Div.l1, z92 (by omega), if_neg g1, E.out.1, if_pos g2, if_pos g3, ze0, hdig2, E.out.2.2, E.out.2.1, Int.toNat_natCast]
    ·refine rdiv_loop x y hy hx hyl i _ (2 * Q + 1) (z - y) (by omega) (R_set hR _ (Int.natCast_nonneg _) (by rw [BDi]; exact Int.ofNat_lt.2 hroom)) (by rw [List.length_set]; exact hl) ?_ ?_ (by omega)
     ·rw [V_set _ _ _ _ hilt, hV, hdig2]
      have e3 : (BD : Int) ^ (i / 16) = ((65536 ^ (i / 16) : Nat) : Int) := by rw [Int.natCast_pow]
      rw [e3]
      have e4 : 65536 ^ (i / 16) * 2 ^ (i % 16) = 2 ^ i := by rw [show 65536 = 2 ^ 16 by decide, ← Nat.pow_mul, ← Nat.pow_add, show 16 * (i / 16) + i % 16 = i by omega]
      have e5 : ((65536 ^ (i / 16) : Nat) : Int) * (((Q * 2 ^ (i % 16 + 1) % 65536 + 2 ^ (i % 16) : Nat) : Int) - ((Q * 2 ^ (i % 16 + 1) % 65536 : Nat) : Int)) = ((2 ^ i : Nat) : Int) := by
       rw [← e4, Int.natCast_mul]; congr 1; omega
      rw [e5, ← Int.natCast_add]; congr 1
      rw [Nat.pow_succ]; grind
     ·rw [hstep]
      have e6 : 2 * (Q * y + r) + x / 2 ^ i % 2 = 2 * (Q * y) + z := by rw [← hz]; omega
      rw [e6]
      have e7 : (2 * Q + 1) * y = 2 * (Q * y) + y := by grind
      rw [e7]; omega
theorem rdiv_ev (x y : Nat) (hy : 0 < y) (hx : (wd BD x).length ≤ 1000000) (hyl : (wd BD y).length ≤ 1000000) : Ev (fun k => chaffref01_Div.f k (wd BD x) (wd BD y)) (wd BD (x / y), wd BD (x % y)) := by
 have hnb : nb x ≤ 16 * (wd BD x).length := by
  rw [nb_le, ← pow16]; exact (zn (by decide) _).1 (Nat.le_refl _)
 unfold chaffref01_Div.f
 refine Ev.congr (f := fun k => (chaffref01_Bits.f k (wd BD x)).bind fun t512 => chaffref01_Div.l0 k (wd BD x) (wd BD y) (List.replicate (wd BD x).length 0) [] (wrap64 (t512 - 1))) (fun k => by rw [if_pos (by omega), Int.toNat_natCast, if_pos (by omega)]) ?_
 refine Ev.bind (rbits_ev x (by omega)) ?_
 refine Ev.congr (f := fun k => chaffref01_Div.l0 k (wd BD x) (wd BD y) (List.replicate (wd BD x).length 0) (wd BD 0) ((nb x : Int) - 1)) (fun k => by rw [w64 (by omega) (by omega), zo0]) ?_
 exact rdiv_loop x y hy hx hyl (nb x) _ 0 0 hnb (zd4 (by decide) _) (by simp) (by rw [V_zeros]; simp) (by rw [Nat.div_eq_of_lt (nb_lt x)]; simp) hy
theorem rgcd_loop : ∀ (y x : Nat), (wd BD x).length ≤ 1000000 → (wd BD y).length ≤ 1000000 → Ev (fun k => chaffref01_Gcd.l0 k (wd BD x) (wd BD y)) (wd BD (Nat.gcd x y)) := by
 intro y
 induction y using Nat.strongRecOn with
 | _ y ih =>
  intro x hx hy
  by_cases h0 : y = 0
  ·subst h0
   rw [zo0, Nat.gcd_zero_right]
   exact Ev.step (f := fun _ => some (wd BD x)) (fun k => by rw [chaffref01_Gcd.l0, if_neg (by simp)]) (Ev.now _)
  ·have hlen : 0 < (wd BD y).length := List.length_pos_iff.2 (wd_ne (by decide) (by omega))
   refine Ev.step (f := fun k => (chaffref01_Div.f k (wd BD x) (wd BD y)).bind fun bt => chaffref01_Gcd.l0 k (wd BD y) bt.2) (fun k => by rw [chaffref01_Gcd.l0, if_pos (by omega)]) ?_
   refine Ev.bind (rdiv_ev x y (by omega) hx hy) ?_
   have hm := Nat.mod_lt x (show 0 < y by omega)
   have := ih (x % y) hm y hy (Nat.le_trans (zy0 (by decide) (Nat.le_of_lt hm)) hy)
   rwa [Nat.gcd_comm, ← Nat.gcd_rec, Nat.gcd_comm] at this
theorem rgcd_ev (x y : Nat) (hx : (wd BD x).length ≤ 1000000) (hy : (wd BD y).length ≤ 1000000) : Ev (fun k => chaffref01_Gcd.f k (wd BD x) (wd BD y)) (wd BD (Nat.gcd x y)) := rgcd_loop y x hx hy
theorem rshl_loop (n : Nat) (hn : n ≤ 1000000) (m : Nat) : ∀ (d j : Nat) (l : List Int), j + d = n % 16 → R BD l → l.length + d ≤ 1000000000 → V BD l * ((2 ^ d : Nat) : Int) = m → Ev (fun k => chaffref01_Shl.l0 k n l j) (wd BD m)
 | 0, j, l, hj, hR, hl, hV => by
  refine Ev.step (f := fun k => (chaffref01_trim.f k l).bind fun t => some t) (fun k => by rw [chaffref01_Shl.l0, z92 (by omega), if_neg (by omega)]) ?_
  refine Ev.bind (za3 l (by omega)) ?_
  rw [zf1 (n := m) (by decide) hR (by rw [← hV]; simp)]
  exact Ev.now _
 | d + 1, j, l, hj, hR, hl, hV => by
  have ih := rshl_loop n hn m d (j + 1) (twL l 0) (by omega) (tw_R l 0 hR (by decide) (by decide)) (by have := tw_len l 0; omega) (by
   rw [tw_V l 0 hR (by decide), ← hV, Nat.pow_succ, Int.natCast_mul]; grind)
  refine Ev.step (fun k => ?_) ih
  have g : (j : Int) < (n : Int) % 16 := by omega
  have E := Q0.mk (show wrap64 ((j : Int) + 1) = ((j + 1 : Nat) : Int) by rw [w64 (by omega) (by omega)]; rfl)
  rw [chaffref01_Shl.l0, z92 (by omega), if_pos g, tw_some hR (by decide) (by decide) (by omega), Option.bind_some, E.out]
theorem rshl_ev (x n : Nat) (hn : n ≤ 1000000) (hx : (wd BD x).length ≤ 1000000) : Ev (fun k => chaffref01_Shl.f k (wd BD x) n) (wd BD (x * 2 ^ n)) := by
 have E := Q0.mk (show wrap64 (Int.tdiv (n : Int) 16) = ((n / 16 : Nat) : Int) by rw [zz2 (by omega), w64 (by omega) (by omega)]; omega)
 have ih := rshl_loop n hn (x * 2 ^ n) (n % 16) 0 (List.replicate (n / 16) 0 ++ wd BD x) (by omega) (zz.2 ⟨zd4 (by decide) _, zd2 (by decide) x⟩) (by simp; omega) (by
  rw [zl2, V_zeros, zn2 (by decide), List.length_replicate, show (BD : Int) = ((2 ^ 16 : Nat) : Int) from rfl, ← Int.natCast_pow, ← Nat.pow_mul, Int.zero_add, ← Int.natCast_mul, ← Int.natCast_mul]
  congr 1
  rw [Nat.mul_comm (2 ^ (16 * (n / 16))), Nat.mul_assoc, ← Nat.pow_add, show 16 * (n / 16) + n % 16 = n by omega])
 refine Ev.congr (fun k => ?_) ih
 unfold chaffref01_Shl.f
 rw [E.out, if_pos (by omega), Int.toNat_natCast, if_pos (by omega), Option.bind_some, if_pos (by simp; omega)]; rfl
end Go.Proofs.YtgkdealidnidiaaDoor.Na
namespace Go.Proofs.YtgkdealidnidiaaDoor.Na
open Go.RowKit Go.Proofs.YtgkdealidnidiaaDoorW.PrintWords Go.Proofs.YtgkdealidnidiaaDoorW.PrintLast Go.Proofs.YtgkdealidnidiaaDoorW.PrintMore
attribute [local go_sem] zx0 zd1
def nat_Nat_Zero.f (l0_0 : List Int) : Option (Bool) := some ((l0_0.length : Int) == 0)
theorem nat_Nat_Zero.calls (A0_0 : Option Addr) (c0_0 : Nat) (l0_0 : List Int) (r : Bool) (w : World) (hr0_0 : Kd.C (Kd.int .u64) w A0_0 l0_0.length l0_0) (hc0_0 : l0_0.length ≤ c0_0) (h : nat_Nat_Zero.f l0_0 = some r) :
  Calls Tryd.prog 22 #[.agg #[.slice A0_0 l0_0.length c0_0]] w fun e w' => e = .returned (.bool r) ∧ Below w.heap.size w w' := by
 have hu29 := Tryd.underlying29
 have HR0_0 := Q0.mk hr0_0
 have HC0_0 := Q0.mk hc0_0
 clear hr0_0 hc0_0
 have HB := Q0.mk (Below.refl w.heap.size w)
 have H : (some ((l0_0.length : Int) == 0)) = some r := h
 clear h
 obtain rfl := Option.some.inj H
 go_enter Tryd.func22, Tryd.ntmps22
 go_wp2_with (first | ((with_reducible refine gD (N := 1) rfl ?_); refine xE ?hg (N := 1) ?hd (cs := #[.slice A0_0 l0_0.length c0_0]) (t := 29) ?hr ?_; (case hd => rfl); (case hg => rfl); (case hr => first | (go_simp; done) | (go_simp; rfl)); intro gb207 hg w2 hbox hb; have q_ := zm (w := w) hb (by repeat (first | (with_reducible first | exact HB.out | apply bA | apply bN | apply b1_) | exact HB.out)); replace HB := Q0.mk (bP q_ hb); have BK207 := Q0.mk (hbox); have GW207 := Q0.mk ((by rw [hg]; exact (bZ q_) : w.heap.size ≤ gb207)); have GE207 := GW207; clear q_; clear hb hbox hg; have hcz3_0 : w2.cell? ⟨gb207, 0, none⟩ = some (.slice A0_0 l0_0.length c0_0) := (kC BK207.out 0).trans rfl; have hfz3_0 := kF BK207.out 0))
 go_ret
 exact ⟨by first | rfl | (simp [eN, eS] <;> rfl) | (simp [*, eN, eS] <;> rfl), by repeat (first | (with_reducible first | exact HB.out | apply bA | apply bN | apply b1_ | refine bS ?_ GE207.out) | exact HB.out)⟩
def nat_shifted.l0 : Nat → List Int → Int → List Int → Int → Int → Option (List Int)
 | 0, _, _, _, _, _ => none
 | k + 1, x0, x1, x5, x12, x13 => if x13 < x12 then (if 0 ≤ x13 then (if x13 < (x5.length : Int) then (if x13 < (x0.length : Int) then (if 0 ≤ x1 then ((some (x5.set (x13 : Int).toNat (Go.bits .or .u64 (rd x5 x13) (shl .u64 (rd x0 x13) x1)) : List Int)).bind fun y307 => (if x1 > 0 then (if 0 ≤ (IntKind.u64.wrap (64 - x1)) then (if 0 ≤ (wrap64 (x13 + 1)) then (if (wrap64 (x13 + 1)) < (x5.length : Int) then (nat_shifted.l0 k x0 x1 (y307.set ((wrap64 (x13 + 1)) : Int).toNat (shr .u64 (rd x0 x13) (IntKind.u64.wrap (64 - x1)))) x12 (wrap64 (x13 + 1))) else (none)) else (none)) else (none)) else (nat_shifted.l0 k x0 x1 y307 x12 (wrap64 (x13 + 1))))) else (none)) else (none)) else (none)) else (none)) else (some x5)
def nat_shifted.f (k : Nat) (l0 : List Int) (a1 : Int) : Option (List Int) := if 0 ≤ (wrap64 ((l0.length : Int) + 1)) then (if (wrap64 ((l0.length : Int) + 1) : Int).toNat ≤ 35184372088832 then (nat_shifted.l0 k l0 a1 (List.replicate (wrap64 ((l0.length : Int) + 1) : Int).toNat 0) (l0.length : Int) 0) else (none)) else (none)
def nat_shifted.T5 : Bool × List (List Nat × List Nat) := (true, [([], []), ([], []), ([0, 1], [0, 1]), ([2], [2]), ([], []), ([], []), ([4, 5], [4, 5]), ([6], [6]), ([], []), ([7, 8], [7, 8]), ([3, 9], [3, 9]), ([0, 1, 0, 1, 2, 3, 4, 5, 6, 7, 8, 9, 10], [0, 1]), ([11, 10, 0, 1, 2, 3, 4, 5, 6, 7, 8, 9, 10], [10, 11])])
def nat_shifted.B5 : List Nat := [0, 0, 3, 7, 0, 0, 48, 112, 0, 496, 1023, 2047, 4095]
theorem nat_shifted.tab5 : zo2 .any (opsOf Tryd.f76 5) = nat_shifted.T5 := by kernel_rfl
theorem nat_shifted.bits5 : zf2 nat_shifted.T5.2 nat_shifted.B5 = true := by kernel_rfl
theorem nat_shifted.calls (k : Nat) (A0 : Option Addr) (c0 : Nat) (l0 : List Int) (a1 : Int) (r : List Int) (w : World) (hr0 : Kd.C (Kd.int .u64) w A0 l0.length l0) (hc0 : l0.length ≤ c0) (h : nat_shifted.f k l0 a1 = some r) :
  Calls Tryd.prog 76 #[.slice A0 l0.length c0, .int .u64 a1] w fun e w' => ∃ v0_ : Value, e = .returned (v0_) ∧ Kd.R (Kd.int .u64) 40 w' w.heap.size (fun _ => True) v0_ r ∧ Below w.heap.size w w' := by
 have HR0 := Q0.mk hr0
 have HC0 := Q0.mk hc0
 clear hr0 hc0
 have HB := Q0.mk (Below.refl w.heap.size w)
 have H : (if 0 ≤ (wrap64 ((l0.length : Int) + 1)) then (if (wrap64 ((l0.length : Int) + 1) : Int).toNat ≤ 35184372088832 then (nat_shifted.l0 k l0 a1 (List.replicate (wrap64 ((l0.length : Int) + 1) : Int).toNat 0) (l0.length : Int) 0) else (none)) else (none)) = some r := h
 clear h
 obtain ⟨ji3, hji3⟩ : ∃ j_ : Int, (wrap64 ((l0.length : Int) + 1)) = j_ := ⟨_, rfl⟩
 replace H : (if 0 ≤ (ji3) then (if (ji3 : Int).toNat ≤ 35184372088832 then (nat_shifted.l0 k l0 a1 (List.replicate (ji3 : Int).toNat 0) (l0.length : Int) 0) else (none)) else (none)) = some r := by first | (rw [hji3] at H; exact H) | (simp only [hji3] at H ⊢; exact H)
 have hji3w : (IntKind.i64.wrap ((l0.length : Int) + 1)) = ji3 := (iw _).trans hji3
 by_cases c4 : 0 ≤ (ji3)
 ·rw [if_pos c4] at H
  have c4b0 := eq_true c4
  have c4b1 : decide (0 ≤ (ji3)) = true := decide_eq_true c4
  clear c4
  by_cases c5 : (ji3 : Int).toNat ≤ 35184372088832
  ·rw [if_pos c5] at H
   have c5b0 := eq_true c5
   have c5b1 : decide ((ji3 : Int).toNat ≤ 35184372088832) = true := decide_eq_true c5
   clear c5
   obtain ⟨y302, hy302⟩ : ∃ y_ : List Int, y_ = (List.replicate (ji3 : Int).toNat 0) := ⟨_, rfl⟩
   replace H : (nat_shifted.l0 k l0 a1 y302 (l0.length : Int) 0) = some r := by first | (rw [hy302]; with_reducible exact H) | (have H2_ := (Option.bind_some _ _).symm.trans H; rw [hy302]; with_reducible exact H2_) | (have H2_ := (Option.bind_some _ _).symm.trans H; with_reducible exact H2_) | with_reducible exact H | (rw [hy302]; exact H) | exact H
   have Ny302 := Q0.mk hy302
   clear hy302
   have H' := Q0.mk H
   clear H
   go_enter Tryd.func76, Tryd.ntmps76
   go_wp2_with (first | ((with_reducible refine gD (N := 10) rfl ?_); refine Kd.zx2 (Kd.int .u64) _ 40 rfl (N := 10) rfl 22 _ _ rfl ji3 rfl rfl Tryd.underlying22 (.int .u64 0) 8 zg2 rfl (by decide) (by omega) 0 (ok := fun _ => True) (okp := fun _ => True) rfl (fun _ hk => hk) trivial (of_decide_eq_true (by first | (with_reducible assumption) | assumption)) (Nat.le_trans (Nat.mul_le_mul_right _ (of_decide_eq_true (by first | (with_reducible assumption) | assumption) : ji3.toNat ≤ 35184372088832)) (by omega)) (Below.refl _ _) (Nat.le_refl _) ?_; intro v303 w6 ho7 hb hg_ hnew_; clear hg_ hnew_; (first | rw [← Ny302.out] at ho7 | (simp only [Int.reduceToNat] at ho7; rw [← Ny302.out] at ho7)); have q_ := zm (w := w) hb (by repeat (first | (with_reducible first | exact HB.out | apply bA | apply bN | apply b1_) | exact HB.out)); have HO304 := Q0.mk (Kd.zw0 ho7 (bZ q_)); replace HB := Q0.mk (bP q_ hb); clear q_; clear hb ho7))
   go_loopg [13] k (fun kq v13 w' => ∃ (x5_1 : List Int) (x13_1 : Int), v13 = .int .i64 x13_1 ∧ Q0 (nat_shifted.l0 kq l0 a1 x5_1 (l0.length : Int) x13_1 = some r) ∧ Q0 (kq ≤ k) ∧ Q0 (Kd.R (Kd.int .u64) 40 w' w.heap.size (fun _ => True) v303 x5_1) ∧ Q0 (Below w.heap.size w w'))
   case atStart => exact ⟨(y302), (0), (by first | rfl | (simp; done) | (simp [*]; done)), H', ⟨Nat.le_refl _⟩, ⟨by (with_reducible repeat (first | apply Kd.RA_ | apply Kd.RN_ | apply Kd.RD_)); exact HO304.out⟩, ⟨by repeat (first | (with_reducible first | exact HB.out | apply bA | apply bN | apply b1_) | exact HB.out)⟩⟩
   case round =>
    clear H'
    try clear p2
    try clear c4
    try clear c4b0
    try clear c4b1
    try clear c5
    try clear c5b0
    try clear c5b1
    try clear p6
    try clear c7
    obtain ⟨x5_1, x13_1, rfl, HA, HK1, HO_5, HB⟩ := hrel
    cases gk with
    | zero => exact absurd HA.out (by simp [nat_shifted.l0])
    | succ k1 =>
     have H := HA.out
     clear HA
     simp only [nat_shifted.l0] at H
     by_cases c8 : x13_1 < (l0.length : Int)
     ·rw [if_pos c8] at H
      have c8b0 : decide (x13_1 < (l0.length : Int)) = true := decide_eq_true c8
      clear c8
      by_cases c9 : 0 ≤ x13_1
      ·rw [if_pos c9] at H
       have c9b0 : decide (0 ≤ x13_1) = true := decide_eq_true c9
       clear c9
       by_cases c10 : x13_1 < (x5_1.length : Int)
       ·rw [if_pos c10] at H
        have c10b0 : decide (x13_1 < (x5_1.length : Int)) = true := decide_eq_true c10
        clear c10
        by_cases c11 : x13_1 < (l0.length : Int)
        ·rw [if_pos c11] at H
         have c11b0 : decide (x13_1 < (l0.length : Int)) = true := decide_eq_true c11
         clear c11
         by_cases c12 : 0 ≤ a1
         ·rw [if_pos c12] at H
          have c12b0 := eq_true c12
          have c12b1 : decide (0 ≤ a1) = true := decide_eq_true c12
          clear c12
          obtain ⟨ji13, hji13⟩ : ∃ j_ : Int, (shl .u64 (rd l0 x13_1) a1) = j_ := ⟨_, rfl⟩
          replace H : ((some (x5_1.set (x13_1 : Int).toNat (Go.bits .or .u64 (rd x5_1 x13_1) (ji13)) : List Int)).bind fun y307 => (if a1 > 0 then (if 0 ≤ (IntKind.u64.wrap (64 - a1)) then (if 0 ≤ (wrap64 (x13_1 + 1)) then (if (wrap64 (x13_1 + 1)) < (x5_1.length : Int) then (nat_shifted.l0 k1 l0 a1 (y307.set ((wrap64 (x13_1 + 1)) : Int).toNat (shr .u64 (rd l0 x13_1) (IntKind.u64.wrap (64 - a1)))) (l0.length : Int) (wrap64 (x13_1 + 1))) else (none)) else (none)) else (none)) else (nat_shifted.l0 k1 l0 a1 y307 (l0.length : Int) (wrap64 (x13_1 + 1))))) = some r := by first | (rw [hji13] at H; exact H) | (simp only [hji13] at H ⊢; exact H)
          have hji13_ : (IntKind.u64.wrap ((rd l0 x13_1) * 2 ^ min a1.toNat 64)) = ji13 := hji13
          have hji13z : a1 ≤ 64 → (IntKind.u64.wrap ((rd l0 x13_1) * 2 ^ a1.toNat)) = ji13 := zv3 hji13
          obtain ⟨y307, hy307⟩ : ∃ y_ : List Int, y_ = (x5_1.set (x13_1 : Int).toNat (Go.bits .or .u64 (rd x5_1 x13_1) (ji13))) := ⟨_, rfl⟩
          replace H : (if a1 > 0 then (if 0 ≤ (IntKind.u64.wrap (64 - a1)) then (if 0 ≤ (wrap64 (x13_1 + 1)) then (if (wrap64 (x13_1 + 1)) < (x5_1.length : Int) then (nat_shifted.l0 k1 l0 a1 (y307.set ((wrap64 (x13_1 + 1)) : Int).toNat (shr .u64 (rd l0 x13_1) (IntKind.u64.wrap (64 - a1)))) (l0.length : Int) (wrap64 (x13_1 + 1))) else (none)) else (none)) else (none)) else (nat_shifted.l0 k1 l0 a1 y307 (l0.length : Int) (wrap64 (x13_1 + 1)))) = some r := by first | (rw [hy307]; with_reducible exact H) | (have H2_ := (Option.bind_some _ _).symm.trans H; rw [hy307]; with_reducible exact H2_) | (have H2_ := (Option.bind_some _ _).symm.trans H; with_reducible exact H2_) | with_reducible exact H | (rw [hy307]; exact H) | exact H
          have Ny307 := Q0.mk hy307
          clear hy307
          by_cases c15 : a1 > 0
          ·rw [if_pos c15] at H
           have c15b0 : decide (0 < a1) = true := decide_eq_true c15
           clear c15
           obtain ⟨ji16, hji16⟩ : ∃ j_ : Int, (IntKind.u64.wrap (64 - a1)) = j_ := ⟨_, rfl⟩
           replace H : (if 0 ≤ (ji16) then (if 0 ≤ (wrap64 (x13_1 + 1)) then (if (wrap64 (x13_1 + 1)) < (x5_1.length : Int) then (nat_shifted.l0 k1 l0 a1 (y307.set ((wrap64 (x13_1 + 1)) : Int).toNat (shr .u64 (rd l0 x13_1) (ji16))) (l0.length : Int) (wrap64 (x13_1 + 1))) else (none)) else (none)) else (none)) = some r := by first | (rw [hji16] at H; exact H) | (simp only [hji16] at H ⊢; exact H)
           by_cases c17 : 0 ≤ (ji16)
           ·rw [if_pos c17] at H
            have c17b0 := eq_true c17
            have c17b1 : decide (0 ≤ (ji16)) = true := decide_eq_true c17
            clear c17
            obtain ⟨ji18, hji18⟩ : ∃ j_ : Int, (shr .u64 (rd l0 x13_1) (ji16)) = j_ := ⟨_, rfl⟩
            replace H : (if 0 ≤ (wrap64 (x13_1 + 1)) then (if (wrap64 (x13_1 + 1)) < (x5_1.length : Int) then (nat_shifted.l0 k1 l0 a1 (y307.set ((wrap64 (x13_1 + 1)) : Int).toNat (ji18)) (l0.length : Int) (wrap64 (x13_1 + 1))) else (none)) else (none)) = some r := by first | (rw [hji18] at H; exact H) | (simp only [hji18] at H ⊢; exact H)
            have hji18_ : ((rd l0 x13_1) / 2 ^ min (ji16).toNat 64) = ji18 := hji18
            have hji18z : (ji16) ≤ 64 → ((rd l0 x13_1) / 2 ^ (ji16).toNat) = ji18 := zt3 hji18
            obtain ⟨ji19, hji19⟩ : ∃ j_ : Int, (wrap64 (x13_1 + 1)) = j_ := ⟨_, rfl⟩
            replace H : (if 0 ≤ (ji19) then (if (ji19) < (x5_1.length : Int) then (nat_shifted.l0 k1 l0 a1 (y307.set ((ji19) : Int).toNat (ji18)) (l0.length : Int) ji19) else (none)) else (none)) = some r := by first | (rw [hji19] at H; exact H) | (simp only [hji19] at H ⊢; exact H)
            have hji19w : (IntKind.i64.wrap (x13_1 + 1)) = ji19 := (iw _).trans hji19
            by_cases c20 : 0 ≤ (ji19)
            ·rw [if_pos c20] at H
             have c20b0 : decide (0 ≤ (ji19)) = true := decide_eq_true c20
             clear c20
             by_cases c21 : (ji19) < (x5_1.length : Int)
             ·rw [if_pos c21] at H
              have c21b0 : decide ((ji19) < (x5_1.length : Int)) = true := decide_eq_true c21
              clear c21
              obtain ⟨y309, hy309⟩ : ∃ y_ : List Int, y_ = (y307.set ((ji19) : Int).toNat (ji18)) := ⟨_, rfl⟩
              replace H : (nat_shifted.l0 k1 l0 a1 y309 (l0.length : Int) ji19) = some r := by first | (rw [hy309]; with_reducible exact H) | (have H2_ := (Option.bind_some _ _).symm.trans H; rw [hy309]; with_reducible exact H2_) | (have H2_ := (Option.bind_some _ _).symm.trans H; with_reducible exact H2_) | with_reducible exact H | (rw [hy309]; exact H) | exact H
              have Ny309 := Q0.mk hy309
              clear hy309
              have H' := Q0.mk H
              clear H
              try go_wp2
              have n0_ := Q0.mk (Kd.RD_ HO_5.out)
              have n1_ := Q0.mk (b1_ HB.out)
              clear HO_5
              clear HB
              have HO_5 := n0_
              have HB := n1_
              clear n0_ n1_
              obtain ⟨Ao24, co24, eo24⟩ := Kd.zl0 HO_5.out
              (first | subst eo24 | (injection eo24 with f1_ f2_ f3_; have f4_ := f1_.symm; have f5_ := f3_.symm; clear f1_ f2_ f3_; subst f4_; subst f5_))
              have p305 : 0 ≤ (x13_1 : Int) := of_decide_eq_true (by first | (with_reducible assumption) | assumption)
              have q305 : x13_1 < (x5_1.length : Int) := of_decide_eq_true (by first | (with_reducible assumption) | assumption)
              obtain ⟨ad305, e305, hx305_0⟩ := Kd.zk (Kd.zw HO_5.out).2.2 x13_1 p305 q305
              cases e305
              replace p305 := eq_true p305
              replace q305 := eq_true q305
              have p306 : 0 ≤ (x13_1 : Int) := of_decide_eq_true (by first | (with_reducible assumption) | assumption)
              have q306 : x13_1 < (l0.length : Int) := of_decide_eq_true (by first | (with_reducible assumption) | assumption)
              obtain ⟨ad306, e306, hx306_0⟩ := Kd.zk HR0.out x13_1 p306 q306
              have hw306_0 := hx306_0
              cases e306
              replace hx306_0 := (HB.out.cell (World.block_lt_of_cell? w _ hx306_0)).trans hx306_0
              replace p306 := eq_true p306
              replace q306 := eq_true q306
              have p14 : 0 ≤ (x13_1 : Int) := of_decide_eq_true (by first | (with_reducible assumption) | assumption)
              have q14 : (x13_1 : Int) < ((x5_1.length : Int) : Int) := of_decide_eq_true (by first | (with_reducible assumption) | assumption)
              obtain ⟨go14, co14, eo14, gb14, gl14, cl14, HG14⟩ := Kd.zi2 HO_5.out (by omega)
              (first | cases eo14 | (injection eo14 with ea_ en_ ec_; (first | subst ea_ | (injection ea_ with ea_; subst ea_)); subst ec_; clear en_))
              have GB14 := Q0.mk gb14
              have GG14 := Q0.mk HG14
              clear gb14 gl14 HG14
              (first | simp only [add_plain] at hx305_0 | skip)
              obtain ⟨hx14_0, hf14_0⟩ := Kd.z81 0 HO_5.out (x13_1 : Int) p14 q14
              replace p14 := eq_true p14
              replace q14 := eq_true q14
              have HP25 := Kd.R_putn HO_5.out (x13_1 : Int) (Go.bits .or .u64 (rd x5_1 x13_1) (ji13))
              rw [← Ny307.out] at HP25
              have HQ25 := Q0.mk HP25
              clear HP25
              refine zt0 (n := 13) (S := fun w' => w'.cell? ⟨go14, (x13_1).toNat, none⟩ = some (.int .u64 (rd x5_1 x13_1)) ∧ w'.cell? (ad306.add (x13_1).toNat) = some (.int .u64 (rd l0 x13_1))) (ds := [12]) #[ff,ff,ff,ff,ff,ff,ff,ff,ff,ff,ff,ff,ff] (by kernel_rfl) rfl rfl ⟨hx305_0, ((HB.out.cell (World.block_lt_of_cell? w _ hw306_0)).trans hw306_0)⟩ (fun hHeld => ?_); refine z02 nat_shifted.tab5 nat_shifted.bits5 (fun HT_ HW_ => ?_)
              generalize wr.drew = w23 at HO_5 HB GG14 HQ25 hf14_0 hx14_0 hx305_0 hx306_0 hHeld ⊢
              refine za 0 16 ?_ #[tt,ff,ff,ff,ff,ff,ff,ff,ff,ff,ff,ff,ff] rfl rfl (zb HT_.out (by kernel_rfl)) (fun _ _ _ h => h) (Or.inl ⟨by rfl, ?_⟩) ?_ ?_ ?_
              rotate_left
              ·intro w'
               go_simp
               with_reducible rfl
              rotate_left
              ·simp only [Act.put, s2_, s0_, s1_, iw, jw]
               rfl
              refine za 1 17 ?_ #[tt,tt,ff,ff,ff,ff,ff,ff,ff,ff,ff,ff,ff] rfl rfl (zb HT_.out (by kernel_rfl)) (fun _ _ _ h => h) (Or.inl ⟨by rfl, ?_⟩) ?_ ?_ ?_
              rotate_left
              ·intro w'
               go_simp
               with_reducible rfl
              rotate_left
              ·simp only [Act.put, s2_, s0_, s1_, iw, jw]
               rfl
              refine za 2 18 ?_ #[tt,tt,tt,ff,ff,ff,ff,ff,ff,ff,ff,ff,ff] rfl rfl (zb HT_.out (by kernel_rfl)) (fun _ _ _ h => h) (Or.inl ⟨by rfl, ?_⟩) ?_ ?_ ?_
              rotate_left
              ·intro w'
               go_simp
               with_reducible rfl
              rotate_left
              ·simp only [Act.put, s2_, s0_, s1_, iw, jw]
               rfl
              refine za 4 20 ?_ #[tt,tt,tt,ff,tt,ff,ff,ff,ff,ff,ff,ff,ff] rfl rfl (zb HT_.out (by kernel_rfl)) (fun _ _ _ h => h) (Or.inl ⟨by rfl, ?_⟩) ?_ ?_ ?_
              rotate_left
              ·intro w'
               go_simp
               with_reducible rfl
              rotate_left
              ·simp only [Act.put, s2_, s0_, s1_, iw, jw]
               rfl
              refine za 5 21 ?_ #[tt,tt,tt,ff,tt,tt,ff,ff,ff,ff,ff,ff,ff] rfl rfl (zb HT_.out (by kernel_rfl)) (fun _ _ _ h => h) (Or.inl ⟨by rfl, ?_⟩) ?_ ?_ ?_
              rotate_left
              ·intro w'
               go_simp
               with_reducible rfl
              rotate_left
              ·simp only [Act.put, s2_, s0_, s1_, iw, jw]
               rfl
              refine za 6 22 ?_ #[tt,tt,tt,ff,tt,tt,tt,ff,ff,ff,ff,ff,ff] rfl rfl (zb HT_.out (by kernel_rfl)) (fun _ _ _ h => h) (Or.inl ⟨by rfl, ?_⟩) ?_ ?_ ?_
              rotate_left
              ·intro w'
               go_simp
               with_reducible rfl
              rotate_left
              ·simp only [Act.put, s2_, s0_, s1_, iw, jw]
               rfl
              refine za 8 24 ?_ #[tt,tt,tt,ff,tt,tt,tt,ff,tt,ff,ff,ff,ff] rfl rfl (zb HT_.out (by kernel_rfl)) (fun _ _ _ h => h) (Or.inl ⟨by rfl, ?_⟩) ?_ ?_ ?_
              rotate_left
              ·intro w'
               go_simp
               with_reducible rfl
              rotate_left
              ·simp only [Act.put, s2_, s0_, s1_, iw, jw]
               rfl
              refine z10 3 19 ?_ #[tt,tt,tt,tt,tt,tt,tt,ff,tt,ff,ff,ff,ff] rfl rfl (zp0 HT_.out HW_.out (by kernel_rfl)) (fun _ _ _ h => h) (Or.inl ⟨by rfl, ?_⟩) hHeld ?_ ?_ ?_
              rotate_left
              ·rintro w' ⟨s0, s1⟩
               go_simp
               with_reducible rfl
              rotate_left
              ·simp only [Act.put, s2_, s0_, s1_, iw, jw]
               rfl
              refine z10 7 23 ?_ #[tt,tt,tt,tt,tt,tt,tt,tt,tt,ff,ff,ff,ff] rfl rfl (zp0 HT_.out HW_.out (by kernel_rfl)) (fun _ _ _ h => h) (Or.inl ⟨by rfl, ?_⟩) hHeld ?_ ?_ ?_
              rotate_left
              ·rintro w' ⟨s0, s1⟩
               go_simp
               with_reducible rfl
              rotate_left
              ·simp only [Act.put, s2_, s0_, s1_, iw, jw]
               rfl
              refine za 9 25 ?_ #[tt,tt,tt,tt,tt,tt,tt,tt,tt,tt,ff,ff,ff] rfl rfl (zb HT_.out (by kernel_rfl)) (fun _ _ _ h => h) (Or.inl ⟨by rfl, ?_⟩) ?_ ?_ ?_
              rotate_left
              ·intro w'
               go_simp
               with_reducible rfl
              rotate_left
              ·simp only [Act.put, s2_, s0_, s1_, iw, jw]
               rfl
              refine za 10 26 ?_ #[tt,tt,tt,tt,tt,tt,tt,tt,tt,tt,tt,ff,ff] rfl rfl (zb HT_.out (by kernel_rfl)) (fun _ _ _ h => h) (Or.inl ⟨by rfl, ?_⟩) ?_ ?_ ?_
              rotate_left
              ·intro w'
               go_simp
               with_reducible rfl
              rotate_left
              ·simp only [Act.put, s2_, s0_, s1_, iw, jw]
               rfl
              refine za 11 27 ?_ #[tt,tt,tt,tt,tt,tt,tt,tt,tt,tt,tt,tt,ff] rfl rfl (zb HT_.out (by kernel_rfl)) (fun _ _ _ h => h) (Or.inl ⟨by rfl, ?_⟩) ?_ ?_ ?_
              rotate_left
              ·intro w'
               go_simp
               with_reducible rfl
              rotate_left
              ·simp only [Act.put, s2_, s0_, s1_, iw, jw]
               rfl
              refine zk3 (i := 12) (N := none) #[tt,tt,tt,tt,tt,tt,tt,tt,tt,tt,tt,tt,tt] rfl rfl (zb2 HT_.out (by kernel_rfl)) (by decide) (fun K hK => ?_)
              refine zw1 (w1 := ?_) (by rfl) rfl ?_ ?_
              rotate_left
              ·go_simp
               rfl
              refine hK.out _ _ ?_
              clear hK K
              refine zh1 (z03 HT_.out (by kernel_rfl)) ?_
              have n0_ : Q0 (Kd.R (Kd.int .u64) 40 (w23.setCell ⟨go14, (x13_1 : Int).toNat, none⟩ (.int .u64 (Go.bits .or .u64 (rd x5_1 x13_1) (ji13)))) w.heap.size (fun _ => True) (.slice (some ⟨go14, 0, none⟩) x5_1.length co24) y307) := ⟨by (with_reducible repeat (first | apply Kd.RA_ | apply Kd.RN_ | apply Kd.RD_)); exact HQ25.out⟩
              have n1_ : Q0 (Below w.heap.size w (w23.setCell ⟨go14, (x13_1 : Int).toNat, none⟩ (.int .u64 (Go.bits .or .u64 (rd x5_1 x13_1) (ji13))))) := ⟨by repeat (first | (with_reducible first | exact HB.out | apply bA | apply bN | apply b1_ | refine bS ?_ GB14.out) | exact HB.out)⟩
              (try clear HO_5)
              (try clear HB)
              generalize (w23.setCell ⟨go14, (x13_1 : Int).toNat, none⟩ (.int .u64 (Go.bits .or .u64 (rd x5_1 x13_1) (ji13)))) = w26 at n0_ n1_ ⊢
              have HO_5 := n0_
              have HB := n1_
              clear n0_ n1_
              have p308 : 0 ≤ (x13_1 : Int) := of_decide_eq_true (by first | (with_reducible assumption) | assumption)
              have q308 : x13_1 < (l0.length : Int) := of_decide_eq_true (by first | (with_reducible assumption) | assumption)
              obtain ⟨ad308, e308, hx308_0⟩ := Kd.zk HR0.out x13_1 p308 q308
              obtain rfl : ad306 = ad308 := (by injection e308)
              replace hx308_0 := (HB.out.cell (World.block_lt_of_cell? w _ hx308_0)).trans hx308_0
              replace p308 := eq_true p308
              replace q308 := eq_true q308
              have p22 : 0 ≤ ((ji19) : Int) := of_decide_eq_true (by first | (with_reducible assumption) | assumption)
              have q22 : ((ji19) : Int) < ((x5_1.length : Int) : Int) := of_decide_eq_true (by first | (with_reducible assumption) | assumption)
              obtain ⟨hx22_0, hf22_0⟩ := Kd.z81 0 HO_5.out ((ji19) : Int) p22 q22
              replace p22 := eq_true p22
              replace q22 := eq_true q22
              obtain ⟨hy27_, hz27_⟩ := Kd.z81 0 HO_5.out ((ji19) : Int) (of_decide_eq_true (by first | (with_reducible assumption) | assumption)) (of_decide_eq_true (by first | (with_reducible assumption) | assumption))
              have HP27 := Kd.zo1 HO_5.out ((ji19) : Int) ji18
              try go_wp2_with (first | ((with_reducible refine zq0 (t := 40) (p := 40) rfl ?_); refine zi0 (t := 40) (p := 40) (v := ?vo_w28) (w1 := (w26.setCell ⟨go14, ((ji19) : Int).toNat, none⟩ (.int .u64 ji18))) ?hg ?ho ?hn ?hr ?_; (case ho => rfl); (case hg => rfl); (case hn => rfl); (case hr => first | (go_simp; done) | (go_simp; rfl)); intro w28 hw; have hg : w26.grownBy w28 (some go14) := (by rw [hw]; exact HP27.2); have hp_ : Kd.R (Kd.int .u64) 40 w28 w.heap.size (fun _ => True) (.slice (some ⟨go14, 0, none⟩) x5_1.length co24) y309 := (by rw [hw, Ny309.out]; exact HP27.1); clear HP27; replace HO_5 := Q0.mk (hp_); replace HB := Q0.mk ((by rw [hw]; exact bS (HB.out) GB14.out : Below w.heap.size w w28)); clear hg hw hp_))
              go_roundg k1
              case measure => have := HK1.out; omega
              case rel => exact ⟨(y309), (ji19), (by first | rfl | (simp; done) | (simp only [← hji19] <;> (first | rfl | simp)) | (simp [*]; done)), H', ⟨by have := HK1.out; omega⟩, ⟨by (with_reducible repeat (first | apply Kd.RA_ | apply Kd.RN_ | apply Kd.RD_)); exact HO_5.out⟩, ⟨by repeat (first | (with_reducible first | exact HB.out | apply bA | apply bN | apply b1_) | exact HB.out)⟩⟩
             ·rw [if_neg c21] at H
              exact absurd H (by simp)
            ·rw [if_neg c20] at H
             exact absurd H (by simp)
           ·rw [if_neg c17] at H
            exact absurd H (by simp)
          ·rw [if_neg c15] at H
           have c15b0 : decide (0 < a1) = false := decide_eq_false c15
           clear c15
           have H' := Q0.mk H
           clear H
           try go_wp2
           have n0_ := Q0.mk (Kd.RD_ HO_5.out)
           have n1_ := Q0.mk (b1_ HB.out)
           clear HO_5
           clear HB
           have HO_5 := n0_
           have HB := n1_
           clear n0_ n1_
           obtain ⟨Ao30, co30, eo30⟩ := Kd.zl0 HO_5.out
           (first | subst eo30 | (injection eo30 with f1_ f2_ f3_; have f4_ := f1_.symm; have f5_ := f3_.symm; clear f1_ f2_ f3_; subst f4_; subst f5_))
           have p305 : 0 ≤ (x13_1 : Int) := of_decide_eq_true (by first | (with_reducible assumption) | assumption)
           have q305 : x13_1 < (x5_1.length : Int) := of_decide_eq_true (by first | (with_reducible assumption) | assumption)
           obtain ⟨ad305, e305, hx305_0⟩ := Kd.zk (Kd.zw HO_5.out).2.2 x13_1 p305 q305
           cases e305
           replace p305 := eq_true p305
           replace q305 := eq_true q305
           have p306 : 0 ≤ (x13_1 : Int) := of_decide_eq_true (by first | (with_reducible assumption) | assumption)
           have q306 : x13_1 < (l0.length : Int) := of_decide_eq_true (by first | (with_reducible assumption) | assumption)
           obtain ⟨ad306, e306, hx306_0⟩ := Kd.zk HR0.out x13_1 p306 q306
           have hw306_0 := hx306_0
           cases e306
           replace hx306_0 := (HB.out.cell (World.block_lt_of_cell? w _ hx306_0)).trans hx306_0
           replace p306 := eq_true p306
           replace q306 := eq_true q306
           have p14 : 0 ≤ (x13_1 : Int) := of_decide_eq_true (by first | (with_reducible assumption) | assumption)
           have q14 : (x13_1 : Int) < ((x5_1.length : Int) : Int) := of_decide_eq_true (by first | (with_reducible assumption) | assumption)
           obtain ⟨go14, co14, eo14, gb14, gl14, cl14, HG14⟩ := Kd.zi2 HO_5.out (by omega)
           (first | cases eo14 | (injection eo14 with ea_ en_ ec_; (first | subst ea_ | (injection ea_ with ea_; subst ea_)); subst ec_; clear en_))
           have GB14 := Q0.mk gb14
           have GG14 := Q0.mk HG14
           clear gb14 gl14 HG14
           (first | simp only [add_plain] at hx305_0 | skip)
           obtain ⟨hx14_0, hf14_0⟩ := Kd.z81 0 HO_5.out (x13_1 : Int) p14 q14
           replace p14 := eq_true p14
           replace q14 := eq_true q14
           have HP31 := Kd.R_putn HO_5.out (x13_1 : Int) (Go.bits .or .u64 (rd x5_1 x13_1) (ji13))
           rw [← Ny307.out] at HP31
           have HQ31 := Q0.mk HP31
           clear HP31
           refine zt0 (n := 13) (S := fun w' => w'.cell? ⟨go14, (x13_1).toNat, none⟩ = some (.int .u64 (rd x5_1 x13_1)) ∧ w'.cell? (ad306.add (x13_1).toNat) = some (.int .u64 (rd l0 x13_1))) (ds := [12]) #[ff,ff,ff,ff,ff,ff,ff,ff,ff,ff,ff,ff,ff] (by kernel_rfl) rfl rfl ⟨hx305_0, ((HB.out.cell (World.block_lt_of_cell? w _ hw306_0)).trans hw306_0)⟩ (fun hHeld => ?_); refine z02 nat_shifted.tab5 nat_shifted.bits5 (fun HT_ HW_ => ?_)
           generalize wr.drew = w29 at HO_5 HB GG14 HQ31 hf14_0 hx14_0 hx305_0 hx306_0 hHeld ⊢
           refine za 0 16 ?_ #[tt,ff,ff,ff,ff,ff,ff,ff,ff,ff,ff,ff,ff] rfl rfl (zb HT_.out (by kernel_rfl)) (fun _ _ _ h => h) (Or.inl ⟨by rfl, ?_⟩) ?_ ?_ ?_
           rotate_left
           ·intro w'
            go_simp
            with_reducible rfl
           rotate_left
           ·simp only [Act.put, s2_, s0_, s1_, iw, jw]
            rfl
           refine za 1 17 ?_ #[tt,tt,ff,ff,ff,ff,ff,ff,ff,ff,ff,ff,ff] rfl rfl (zb HT_.out (by kernel_rfl)) (fun _ _ _ h => h) (Or.inl ⟨by rfl, ?_⟩) ?_ ?_ ?_
           rotate_left
           ·intro w'
            go_simp
            with_reducible rfl
           rotate_left
           ·simp only [Act.put, s2_, s0_, s1_, iw, jw]
            rfl
           refine za 2 18 ?_ #[tt,tt,tt,ff,ff,ff,ff,ff,ff,ff,ff,ff,ff] rfl rfl (zb HT_.out (by kernel_rfl)) (fun _ _ _ h => h) (Or.inl ⟨by rfl, ?_⟩) ?_ ?_ ?_
           rotate_left
           ·intro w'
            go_simp
            with_reducible rfl
           rotate_left
           ·simp only [Act.put, s2_, s0_, s1_, iw, jw]
            rfl
           refine za 4 20 ?_ #[tt,tt,tt,ff,tt,ff,ff,ff,ff,ff,ff,ff,ff] rfl rfl (zb HT_.out (by kernel_rfl)) (fun _ _ _ h => h) (Or.inl ⟨by rfl, ?_⟩) ?_ ?_ ?_
           rotate_left
           ·intro w'
            go_simp
            with_reducible rfl
           rotate_left
           ·simp only [Act.put, s2_, s0_, s1_, iw, jw]
            rfl
           refine za 5 21 ?_ #[tt,tt,tt,ff,tt,tt,ff,ff,ff,ff,ff,ff,ff] rfl rfl (zb HT_.out (by kernel_rfl)) (fun _ _ _ h => h) (Or.inl ⟨by rfl, ?_⟩) ?_ ?_ ?_
           rotate_left
           ·intro w'
            go_simp
            with_reducible rfl
           rotate_left
           ·simp only [Act.put, s2_, s0_, s1_, iw, jw]
            rfl
           refine za 6 22 ?_ #[tt,tt,tt,ff,tt,tt,tt,ff,ff,ff,ff,ff,ff] rfl rfl (zb HT_.out (by kernel_rfl)) (fun _ _ _ h => h) (Or.inl ⟨by rfl, ?_⟩) ?_ ?_ ?_
           rotate_left
           ·intro w'
            go_simp
            with_reducible rfl
           rotate_left
           ·simp only [Act.put, s2_, s0_, s1_, iw, jw]
            rfl
           refine za 8 24 ?_ #[tt,tt,tt,ff,tt,tt,tt,ff,tt,ff,ff,ff,ff] rfl rfl (zb HT_.out (by kernel_rfl)) (fun _ _ _ h => h) (Or.inl ⟨by rfl, ?_⟩) ?_ ?_ ?_
           rotate_left
           ·intro w'
            go_simp
            with_reducible rfl
           rotate_left
           ·simp only [Act.put, s2_, s0_, s1_, iw, jw]
            rfl
           refine z10 3 19 ?_ #[tt,tt,tt,tt,tt,tt,tt,ff,tt,ff,ff,ff,ff] rfl rfl (zp0 HT_.out HW_.out (by kernel_rfl)) (fun _ _ _ h => h) (Or.inl ⟨by rfl, ?_⟩) hHeld ?_ ?_ ?_
           rotate_left
           ·rintro w' ⟨s0, s1⟩
            go_simp
            with_reducible rfl
           rotate_left
           ·simp only [Act.put, s2_, s0_, s1_, iw, jw]
            rfl
           refine z10 7 23 ?_ #[tt,tt,tt,tt,tt,tt,tt,tt,tt,ff,ff,ff,ff] rfl rfl (zp0 HT_.out HW_.out (by kernel_rfl)) (fun _ _ _ h => h) (Or.inl ⟨by rfl, ?_⟩) hHeld ?_ ?_ ?_
           rotate_left
           ·rintro w' ⟨s0, s1⟩
            go_simp
            with_reducible rfl
           rotate_left
           ·simp only [Act.put, s2_, s0_, s1_, iw, jw]
            rfl
           refine za 9 25 ?_ #[tt,tt,tt,tt,tt,tt,tt,tt,tt,tt,ff,ff,ff] rfl rfl (zb HT_.out (by kernel_rfl)) (fun _ _ _ h => h) (Or.inl ⟨by rfl, ?_⟩) ?_ ?_ ?_
           rotate_left
           ·intro w'
            go_simp
            with_reducible rfl
           rotate_left
           ·simp only [Act.put, s2_, s0_, s1_, iw, jw]
            rfl
           refine za 10 26 ?_ #[tt,tt,tt,tt,tt,tt,tt,tt,tt,tt,tt,ff,ff] rfl rfl (zb HT_.out (by kernel_rfl)) (fun _ _ _ h => h) (Or.inl ⟨by rfl, ?_⟩) ?_ ?_ ?_
           rotate_left
           ·intro w'
            go_simp
            with_reducible rfl
           rotate_left
           ·simp only [Act.put, s2_, s0_, s1_, iw, jw]
            rfl
           refine za 11 27 ?_ #[tt,tt,tt,tt,tt,tt,tt,tt,tt,tt,tt,tt,ff] rfl rfl (zb HT_.out (by kernel_rfl)) (fun _ _ _ h => h) (Or.inl ⟨by rfl, ?_⟩) ?_ ?_ ?_
           rotate_left
           ·intro w'
            go_simp
            with_reducible rfl
           rotate_left
           ·simp only [Act.put, s2_, s0_, s1_, iw, jw]
            rfl
           refine zk3 (i := 12) (N := none) #[tt,tt,tt,tt,tt,tt,tt,tt,tt,tt,tt,tt,tt] rfl rfl (zb2 HT_.out (by kernel_rfl)) (by decide) (fun K hK => ?_)
           refine zw1 (w1 := ?_) (by rfl) rfl ?_ ?_
           rotate_left
           ·go_simp
            rfl
           refine hK.out _ _ ?_
           clear hK K
           refine zh1 (z03 HT_.out (by kernel_rfl)) ?_
           try go_wp2
           go_roundg k1
           case measure => have := HK1.out; omega
           case rel => exact ⟨(y307), (wrap64 (x13_1 + 1)), (by first | rfl | (simp; done) | (simp [*]; done)), H', ⟨by have := HK1.out; omega⟩, ⟨by (with_reducible repeat (first | apply Kd.RA_ | apply Kd.RN_ | apply Kd.RD_)); exact HQ31.out⟩, ⟨by repeat (first | (with_reducible first | exact HB.out | apply bA | apply bN | apply b1_ | refine bS ?_ GB14.out) | exact HB.out)⟩⟩
         ·rw [if_neg c12] at H
          exact absurd H (by simp)
        ·rw [if_neg c11] at H
         exact absurd H (by simp)
       ·rw [if_neg c10] at H
        exact absurd H (by simp)
      ·rw [if_neg c9] at H
       exact absurd H (by simp)
     ·rw [if_neg c8] at H
      have c8b0 : decide (x13_1 < (l0.length : Int)) = false := decide_eq_false c8
      clear c8
      obtain rfl := Option.some.inj H
      go_wp2
      go_ret
      exact ⟨_, by first | rfl | (simp [eN, eS] <;> rfl) | (simp only [← hji3]; first | rfl | (simp [eN, eS] <;> rfl)) | (simp [*, eN, eS] <;> rfl), by (with_reducible repeat (first | apply Kd.RA_ | apply Kd.RN_ | apply Kd.RD_)); exact HO_5.out, by repeat (first | (with_reducible first | exact HB.out | apply bA | apply bN | apply b1_) | exact HB.out)⟩
  ·rw [if_neg c5] at H
   exact absurd H (by simp)
 ·rw [if_neg c4] at H
  exact absurd H (by simp)
end Go.Proofs.YtgkdealidnidiaaDoor.Na
