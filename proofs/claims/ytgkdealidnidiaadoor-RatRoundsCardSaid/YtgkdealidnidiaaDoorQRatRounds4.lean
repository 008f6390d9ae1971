/- Texts of the seat, as far as the row needs them. -/
import Derived.Lib.BitFns
import Derived.Test.YtgkdealidnidiaaDoorQRatRounds3
set_option linter.unusedVariables false
set_option linter.unusedSimpArgs false
set_option maxHeartbeats 8000000
set_option maxRecDepth 100000
namespace Go.Proofs.YtgkdealidnidiaaDoor.Na
open Go.RowKit Go.Proofs.YtgkdealidnidiaaDoorW.PrintWords Go.Proofs.YtgkdealidnidiaaDoorW.PrintLast Go.Proofs.YtgkdealidnidiaaDoorW.PrintMore
attribute [local go_sem] zx0 zd1
mutual
def chaffref01_Mul.l0 : Nat → List Int → List Int → List Int → Int → Option (List Int)
 | 0, _, _, _, _ => none
 | k + 1, x0, x1, x5, x6 => if x6 < (x0.length : Int) then (chaffref01_Mul.l1 k x0 x1 x5 x6 0 0) else ((chaffref01_trim.f k x5).bind fun t259 => (some t259))
def chaffref01_Mul.l1 : Nat → List Int → List Int → List Int → Int → Int → Int → Option (List Int)
 | 0, _, _, _, _, _, _ => none
 | k + 1, x0, x1, x5, x6, x7, x8 => if x8 < (x1.length : Int) then (if 0 ≤ (wrap64 (x6 + x8)) then (if (wrap64 (x6 + x8)) < (x5.length : Int) then (if 0 ≤ x6 then (if x6 < (x0.length : Int) then (if 0 ≤ x8 then (chaffref01_Mul.l1 k x0 x1 (x5.set ((wrap64 (x6 + x8)) : Int).toNat (Int.tmod (wrap64 ((wrap64 ((rd x5 (wrap64 (x6 + x8))) + (wrap64 ((rd x0 x6) * (rd x1 x8))))) + x7)) 65536)) x6 (wrap64 (Int.tdiv (wrap64 ((wrap64 ((rd x5 (wrap64 (x6 + x8))) + (wrap64 ((rd x0 x6) * (rd x1 x8))))) + x7)) 65536)) (wrap64 (x8 + 1))) else (none)) else (none)) else (none)) else (none)) else (none)) else (if 0 ≤ (wrap64 (x6 + (x1.length : Int))) then (if (wrap64 (x6 + (x1.length : Int))) < (x5.length : Int) then (chaffref01_Mul.l0 k x0 x1 (x5.set ((wrap64 (x6 + (x1.length : Int))) : Int).toNat x7) (wrap64 (x6 + 1))) else (none)) else (none))
end
def chaffref01_Mul.f (k : Nat) (l0 : List Int) (l1 : List Int) : Option (List Int) := if 0 ≤ (wrap64 ((l0.length : Int) + (l1.length : Int))) then (if (wrap64 ((l0.length : Int) + (l1.length : Int)) : Int).toNat ≤ 35184372088832 then (chaffref01_Mul.l0 k l0 l1 (List.replicate (wrap64 ((l0.length : Int) + (l1.length : Int)) : Int).toNat 0) 0) else (none)) else (none)
theorem chaffref01_Mul.calls (k : Nat) (A0 : Option Addr) (c0 : Nat) (l0 : List Int) (A1 : Option Addr) (c1 : Nat) (l1 : List Int) (r : List Int) (w : World) (hr0 : Kd.C (Kd.int .i64) w A0 l0.length l0) (hc0 : l0.length ≤ c0) (hr1 : Kd.C (Kd.int .i64) w A1 l1.length l1) (hc1 : l1.length ≤ c1) (h : chaffref01_Mul.f k l0 l1 = some r) :
  Calls Tryd.prog 35 #[.slice A0 l0.length c0, .slice A1 l1.length c1] w fun e w' => ∃ v0_ : Value, e = .returned (v0_) ∧ Kd.V (Kd.int .i64) 3 w' w.heap.size (fun k_ => (w.heap.size ≤ k_)) v0_ r ∧ Below w.heap.size w w' := by
 have HR0 := Q0.mk hr0
 have HC0 := Q0.mk hc0
 clear hr0 hc0
 have HR1 := Q0.mk hr1
 have HC1 := Q0.mk hc1
 clear hr1 hc1
 have HB := Q0.mk (Below.refl w.heap.size w)
 have H : (if 0 ≤ (wrap64 ((l0.length : Int) + (l1.length : Int))) then (if (wrap64 ((l0.length : Int) + (l1.length : Int)) : Int).toNat ≤ 35184372088832 then (chaffref01_Mul.l0 k l0 l1 (List.replicate (wrap64 ((l0.length : Int) + (l1.length : Int)) : Int).toNat 0) 0) else (none)) else (none)) = some r := h
 clear h
 obtain ⟨ji3, hji3⟩ : ∃ j_ : Int, (wrap64 ((l0.length : Int) + (l1.length : Int))) = j_ := ⟨_, rfl⟩
 replace H : (if 0 ≤ (ji3) then (if (ji3 : Int).toNat ≤ 35184372088832 then (chaffref01_Mul.l0 k l0 l1 (List.replicate (ji3 : Int).toNat 0) 0) else (none)) else (none)) = some r := by first | (rw [hji3] at H; exact H) | (simp only [hji3] at H ⊢; exact H)
 have hji3w : (IntKind.i64.wrap ((l0.length : Int) + (l1.length : Int))) = ji3 := (iw _).trans hji3
 by_cases c4 : 0 ≤ (ji3)
 ·rw [if_pos c4] at H
  have c4b0 := eq_true c4
  have c4b1 : decide (0 ≤ (ji3)) = true := decide_eq_true c4
  clear c4
  by_cases c5 : (ji3 : Int).toNat ≤ 35184372088832
  ·rw [if_pos c5] at H
   have c5b0 := eq_true c5
   have c5b1 : decide ((ji3 : Int).toNat ≤ 35184372088832) = true := decide_eq_true c5
   clear c5
   obtain ⟨y256, hy256⟩ : ∃ y_ : List Int, y_ = (List.replicate (ji3 : Int).toNat 0) := ⟨_, rfl⟩
   replace H : (chaffref01_Mul.l0 k l0 l1 y256 0) = some r := by first | (rw [hy256]; with_reducible exact H) | (have H2_ := (Option.bind_some _ _).symm.trans H; rw [hy256]; with_reducible exact H2_) | (have H2_ := (Option.bind_some _ _).symm.trans H; with_reducible exact H2_) | with_reducible exact H | (rw [hy256]; exact H) | exact H
   have Ny256 := Q0.mk hy256
   clear hy256
   have H' := Q0.mk H
   clear H
   go_enter Tryd.func35, Tryd.ntmps35
   go_wp2_with (first | ((with_reducible refine gD (N := 15) rfl ?_); refine Kd.zx2 (Kd.int .i64) _ 3 rfl (N := 15) rfl 26 _ _ rfl ji3 rfl rfl Tryd.underlying26 (.int .i64 0) 8 info3 rfl (by decide) (by omega) 0 (ok := fun _ => True) (okp := fun _ => True) rfl (fun _ hk => hk) trivial (of_decide_eq_true (by first | (with_reducible assumption) | assumption)) (Nat.le_trans (Nat.mul_le_mul_right _ (of_decide_eq_true (by first | (with_reducible assumption) | assumption) : ji3.toNat ≤ 35184372088832)) (by omega)) (Below.refl _ _) (Nat.le_refl _) ?_; intro v257 w6 ho7 hb hg_ hnew_; clear hg_ hnew_; (first | rw [← Ny256.out] at ho7 | (simp only [Int.reduceToNat] at ho7; rw [← Ny256.out] at ho7)); have q_ := zm (w := w) hb (by repeat (first | (with_reducible first | exact HB.out | apply bA | apply bN | apply b1_) | exact HB.out)); have HO258 := Q0.mk (Kd.zw0 (Kd.zs1 (M := fun k_ => (w.heap.size ≤ k_)) ho7 (bZ q_) (fun k_ h_ => h_)) (bZ q_)); replace HB := Q0.mk (bP q_ hb); clear q_; clear hb ho7))
   repeat (go_quiet (first | ((with_reducible refine gD (N := 15) rfl ?_); refine Kd.zx2 (Kd.int .i64) _ 3 rfl (N := 15) rfl 26 _ _ rfl ji3 rfl rfl Tryd.underlying26 (.int .i64 0) 8 info3 rfl (by decide) (by omega) 0 (ok := fun _ => True) (okp := fun _ => True) rfl (fun _ hk => hk) trivial (of_decide_eq_true (by first | (with_reducible assumption) | assumption)) (Nat.le_trans (Nat.mul_le_mul_right _ (of_decide_eq_true (by first | (with_reducible assumption) | assumption) : ji3.toNat ≤ 35184372088832)) (by omega)) (Below.refl _ _) (Nat.le_refl _) ?_; intro v257 w6 ho7 hb hg_ hnew_; clear hg_ hnew_; (first | rw [← Ny256.out] at ho7 | (simp only [Int.reduceToNat] at ho7; rw [← Ny256.out] at ho7)); have q_ := zm (w := w) hb (by repeat (first | (with_reducible first | exact HB.out | apply bA | apply bN | apply b1_) | exact HB.out)); have HO258 := Q0.mk (Kd.zw0 (Kd.zs1 (M := fun k_ => (w.heap.size ≤ k_)) ho7 (bZ q_) (fun k_ h_ => h_)) (bZ q_)); replace HB := Q0.mk (bP q_ hb); clear q_; clear hb ho7)); try go_wp2_with (first | ((with_reducible refine gD (N := 15) rfl ?_); refine Kd.zx2 (Kd.int .i64) _ 3 rfl (N := 15) rfl 26 _ _ rfl ji3 rfl rfl Tryd.underlying26 (.int .i64 0) 8 info3 rfl (by decide) (by omega) 0 (ok := fun _ => True) (okp := fun _ => True) rfl (fun _ hk => hk) trivial (of_decide_eq_true (by first | (with_reducible assumption) | assumption)) (Nat.le_trans (Nat.mul_le_mul_right _ (of_decide_eq_true (by first | (with_reducible assumption) | assumption) : ji3.toNat ≤ 35184372088832)) (by omega)) (Below.refl _ _) (Nat.le_refl _) ?_; intro v257 w6 ho7 hb hg_ hnew_; clear hg_ hnew_; (first | rw [← Ny256.out] at ho7 | (simp only [Int.reduceToNat] at ho7; rw [← Ny256.out] at ho7)); have q_ := zm (w := w) hb (by repeat (first | (with_reducible first | exact HB.out | apply bA | apply bN | apply b1_) | exact HB.out)); have HO258 := Q0.mk (Kd.zw0 (Kd.zs1 (M := fun k_ => (w.heap.size ≤ k_)) ho7 (bZ q_) (fun k_ h_ => h_)) (bZ q_)); replace HB := Q0.mk (bP q_ hb); clear q_; clear hb ho7)))
   go_loopg [6] k (fun kq v6 w' => ∃ (x5_1 : List Int) (x6_1 : Int), v6 = .int .i64 x6_1 ∧ Q0 (chaffref01_Mul.l0 kq l0 l1 x5_1 x6_1 = some r) ∧ Q0 (kq ≤ k) ∧ Q0 (Kd.R (Kd.int .i64) 3 w' w.heap.size (fun k_ => (w.heap.size ≤ k_)) v257 x5_1) ∧ Q0 (Below w.heap.size w w'))
   case atStart => exact ⟨(y256), (0), (by first | rfl | (simp; done) | (simp [*]; done)), H', ⟨Nat.le_refl _⟩, ⟨by (with_reducible repeat (first | apply Kd.RA_ | apply Kd.RN_ | apply Kd.RD_)); exact Kd.zb1 HO258.out (fun _ hk => hk.1)⟩, ⟨by repeat (first | (with_reducible first | exact HB.out | apply bA | apply bN | apply b1_) | exact HB.out)⟩⟩
   case round =>
    clear H'
    try clear c1
    try clear p2
    try clear c3
    try clear c4
    try clear c4b0
    try clear c4b1
    try clear c5
    try clear c5b0
    try clear c5b1
    try clear p6
    obtain ⟨x5_1, x6_1, rfl, HA, HK1, HO_5, HB⟩ := hrel
    cases gk with
    | zero => exact absurd HA.out (by simp [chaffref01_Mul.l0])
    | succ k1 =>
     have H := HA.out
     clear HA
     simp only [chaffref01_Mul.l0] at H
     by_cases c8 : x6_1 < (l0.length : Int)
     ·rw [if_pos c8] at H
      have c8b0 : decide (x6_1 < (l0.length : Int)) = true := decide_eq_true c8
      clear c8
      have H' := Q0.mk H
      clear H
      go_wp2
      repeat (go_quiet (fail); try go_wp2)
      go_loopg [7, 8] k1 (fun kq v7 v8 w' => ∃ (x5_2 : List Int) (x7_2 : Int) (x8_2 : Int), v7 = .int .i64 x7_2 ∧ v8 = .int .i64 x8_2 ∧ Q0 (chaffref01_Mul.l1 kq l0 l1 x5_2 x6_1 x7_2 x8_2 = some r) ∧ Q0 (kq ≤ k1) ∧ Q0 (Kd.R (Kd.int .i64) 3 w' w.heap.size (fun k_ => (w.heap.size ≤ k_)) v257 x5_2) ∧ Q0 (Below w.heap.size w w'))
      case atStart => exact ⟨(x5_1), (0), (0), (by first | rfl | (simp; done) | (simp [*]; done)), (by first | rfl | (simp; done) | (simp [*]; done)), H', ⟨Nat.le_refl _⟩, ⟨by (with_reducible repeat (first | apply Kd.RA_ | apply Kd.RN_ | apply Kd.RD_)); exact HO_5.out⟩, ⟨by repeat (first | (with_reducible first | exact HB.out | apply bA | apply bN | apply b1_) | exact HB.out)⟩⟩
      case round =>
       clear H'
       try clear c1
       try clear p2
       try clear c3
       try clear c4
       try clear c4b0
       try clear c4b1
       try clear c5
       try clear c5b0
       try clear c5b1
       try clear p6
       try clear c8
       try clear c8b0
       try clear p2
       try clear p6
       obtain ⟨x5_2, x7_2, x8_2, rfl, rfl, HA, HK2, HO_5, HB⟩ := hrel
       cases gk with
       | zero => exact absurd HA.out (by simp [chaffref01_Mul.l1])
       | succ k2 =>
        have H := HA.out
        clear HA
        simp only [chaffref01_Mul.l1] at H
        by_cases c9 : x8_2 < (l1.length : Int)
        ·rw [if_pos c9] at H
         have c9b0 : decide (x8_2 < (l1.length : Int)) = true := decide_eq_true c9
         clear c9
         obtain ⟨ji10, hji10⟩ : ∃ j_ : Int, (wrap64 (x6_1 + x8_2)) = j_ := ⟨_, rfl⟩
         replace H : (if 0 ≤ (ji10) then (if (ji10) < (x5_2.length : Int) then (if 0 ≤ x6_1 then (if x6_1 < (l0.length : Int) then (if 0 ≤ x8_2 then (chaffref01_Mul.l1 k2 l0 l1 (x5_2.set ((ji10) : Int).toNat (Int.tmod (wrap64 ((wrap64 ((rd x5_2 (ji10)) + (wrap64 ((rd l0 x6_1) * (rd l1 x8_2))))) + x7_2)) 65536)) x6_1 (wrap64 (Int.tdiv (wrap64 ((wrap64 ((rd x5_2 (ji10)) + (wrap64 ((rd l0 x6_1) * (rd l1 x8_2))))) + x7_2)) 65536)) (wrap64 (x8_2 + 1))) else (none)) else (none)) else (none)) else (none)) else (none)) = some r := by first | (rw [hji10] at H; exact H) | (simp only [hji10] at H ⊢; exact H)
         have hji10w : (IntKind.i64.wrap (x6_1 + x8_2)) = ji10 := (iw _).trans hji10
         by_cases c11 : 0 ≤ (ji10)
         ·rw [if_pos c11] at H
          have c11b0 : decide (0 ≤ (ji10)) = true := decide_eq_true c11
          clear c11
          by_cases c12 : (ji10) < (x5_2.length : Int)
          ·rw [if_pos c12] at H
           have c12b0 : decide ((ji10) < (x5_2.length : Int)) = true := decide_eq_true c12
           clear c12
           by_cases c13 : 0 ≤ x6_1
           ·rw [if_pos c13] at H
            have c13b0 : decide (0 ≤ x6_1) = true := decide_eq_true c13
            clear c13
            by_cases c14 : x6_1 < (l0.length : Int)
            ·rw [if_pos c14] at H
             have c14b0 : decide (x6_1 < (l0.length : Int)) = true := decide_eq_true c14
             clear c14
             by_cases c15 : 0 ≤ x8_2
             ·rw [if_pos c15] at H
              have c15b0 : decide (0 ≤ x8_2) = true := decide_eq_true c15
              clear c15
              obtain ⟨y265, hy265⟩ : ∃ y_ : List Int, y_ = (x5_2.set ((ji10) : Int).toNat (Int.tmod (wrap64 ((wrap64 ((rd x5_2 (ji10)) + (wrap64 ((rd l0 x6_1) * (rd l1 x8_2))))) + x7_2)) 65536)) := ⟨_, rfl⟩
              replace H : (chaffref01_Mul.l1 k2 l0 l1 y265 x6_1 (wrap64 (Int.tdiv (wrap64 ((wrap64 ((rd x5_2 (ji10)) + (wrap64 ((rd l0 x6_1) * (rd l1 x8_2))))) + x7_2)) 65536)) (wrap64 (x8_2 + 1))) = some r := by first | (rw [hy265]; with_reducible exact H) | (have H2_ := (Option.bind_some _ _).symm.trans H; rw [hy265]; with_reducible exact H2_) | (have H2_ := (Option.bind_some _ _).symm.trans H; with_reducible exact H2_) | with_reducible exact H | (rw [hy265]; exact H) | exact H
              have Ny265 := Q0.mk hy265
              clear hy265
              have H' := Q0.mk H
              clear H
              obtain ⟨Ao17, co17, eo17⟩ := Kd.zl0 HO_5.out
              subst eo17
              have p262 : 0 ≤ ((ji10) : Int) := of_decide_eq_true (by first | (with_reducible assumption) | assumption)
              have q262 : (ji10) < (x5_2.length : Int) := of_decide_eq_true (by first | (with_reducible assumption) | assumption)
              obtain ⟨ad262, e262, hx262_0⟩ := Kd.zk (Kd.zw HO_5.out).2.2 (ji10) p262 q262
              cases e262
              replace p262 := eq_true p262
              replace q262 := eq_true q262
              have p263 : 0 ≤ (x6_1 : Int) := of_decide_eq_true (by first | (with_reducible assumption) | assumption)
              have q263 : x6_1 < (l0.length : Int) := of_decide_eq_true (by first | (with_reducible assumption) | assumption)
              obtain ⟨ad263, e263, hx263_0⟩ := Kd.zk HR0.out x6_1 p263 q263
              cases e263
              replace hx263_0 := (HB.out.cell (World.block_lt_of_cell? w _ hx263_0)).trans hx263_0
              replace p263 := eq_true p263
              replace q263 := eq_true q263
              have p264 : 0 ≤ (x8_2 : Int) := of_decide_eq_true (by first | (with_reducible assumption) | assumption)
              have q264 : x8_2 < (l1.length : Int) := of_decide_eq_true (by first | (with_reducible assumption) | assumption)
              obtain ⟨ad264, e264, hx264_0⟩ := Kd.zk HR1.out x8_2 p264 q264
              cases e264
              replace hx264_0 := (HB.out.cell (World.block_lt_of_cell? w _ hx264_0)).trans hx264_0
              replace p264 := eq_true p264
              replace q264 := eq_true q264
              have p16 : 0 ≤ ((ji10) : Int) := of_decide_eq_true (by first | (with_reducible assumption) | assumption)
              have q16 : ((ji10) : Int) < ((x5_2.length : Int) : Int) := of_decide_eq_true (by first | (with_reducible assumption) | assumption)
              obtain ⟨go16, co16, eo16, gb16, gl16, cl16, HG16⟩ := Kd.zi2 HO_5.out (by omega)
              (first | cases eo16 | (injection eo16 with ea_ en_ ec_; (first | subst ea_ | (injection ea_ with ea_; subst ea_)); subst ec_; clear en_))
              have GB16 := Q0.mk gb16
              have GG16 := Q0.mk HG16
              clear gb16 gl16 HG16
              (first | simp only [add_plain] at hx262_0 | skip)
              obtain ⟨hx16_0, hf16_0⟩ := Kd.z81 0 HO_5.out ((ji10) : Int) p16 q16
              replace p16 := eq_true p16
              replace q16 := eq_true q16
              have HP18 := Kd.zo1 HO_5.out ((ji10) : Int) (Int.tmod (wrap64 ((wrap64 ((rd x5_2 (ji10)) + (wrap64 ((rd l0 x6_1) * (rd l1 x8_2))))) + x7_2)) 65536)
              go_wp2_with (first | ((with_reducible refine zq0 (t := 3) (p := 52) rfl ?_); (try (rw [zl1 wr]; generalize hq_ : World.drewN wr _ = wr; have n0_ := Q0.mk (Kd.R_at hq_ HO_5.out); have n1_ := Q0.mk (zx3 hq_ HB.out); clear hq_ HO_5 HB; have HO_5 := n0_; have HB := n1_; clear n0_ n1_; (try (have HP18 := Kd.zo1 HO_5.out ((ji10) : Int) (Int.tmod (wrap64 ((wrap64 ((rd x5_2 (ji10)) + (wrap64 ((rd l0 x6_1) * (rd l1 x8_2))))) + x7_2)) 65536))))); refine zi0 (t := 3) (p := 52) (v := ?vo_w19) (w1 := (wr.setCell ⟨go16, ((ji10) : Int).toNat, none⟩ (.int .i64 (Int.tmod (wrap64 ((wrap64 ((rd x5_2 (ji10)) + (wrap64 ((rd l0 x6_1) * (rd l1 x8_2))))) + x7_2)) 65536)))) ?hg ?ho ?hn ?hr ?_; (case ho => rfl); (case hg => rfl); (case hn => rfl); (case hr => first | (go_simp; done) | (go_simp; rfl)); intro w19 hw; have hg : wr.grownBy w19 (some go16) := (by rw [hw]; exact HP18.2); have hp_ : Kd.R (Kd.int .i64) 3 w19 w.heap.size (fun k_ => (w.heap.size ≤ k_)) (.slice (some ⟨go16, 0, none⟩) x5_2.length co17) y265 := (by rw [hw, Ny265.out]; exact HP18.1); clear HP18; replace HO_5 := Q0.mk (hp_); replace HB := Q0.mk ((by rw [hw]; exact bS (HB.out) GB16.out : Below w.heap.size w w19)); clear hg hw hp_))
              repeat (go_quiet (first | ((with_reducible refine zq0 (t := 3) (p := 52) rfl ?_); (try (rw [zl1 wr]; generalize hq_ : World.drewN wr _ = wr; have n0_ := Q0.mk (Kd.R_at hq_ HO_5.out); have n1_ := Q0.mk (zx3 hq_ HB.out); clear hq_ HO_5 HB; have HO_5 := n0_; have HB := n1_; clear n0_ n1_; (try (have HP18 := Kd.zo1 HO_5.out ((ji10) : Int) (Int.tmod (wrap64 ((wrap64 ((rd x5_2 (ji10)) + (wrap64 ((rd l0 x6_1) * (rd l1 x8_2))))) + x7_2)) 65536))))); refine zi0 (t := 3) (p := 52) (v := ?vo_w19) (w1 := (wr.setCell ⟨go16, ((ji10) : Int).toNat, none⟩ (.int .i64 (Int.tmod (wrap64 ((wrap64 ((rd x5_2 (ji10)) + (wrap64 ((rd l0 x6_1) * (rd l1 x8_2))))) + x7_2)) 65536)))) ?hg ?ho ?hn ?hr ?_; (case ho => rfl); (case hg => rfl); (case hn => rfl); (case hr => first | (go_simp; done) | (go_simp; rfl)); intro w19 hw; have hg : wr.grownBy w19 (some go16) := (by rw [hw]; exact HP18.2); have hp_ : Kd.R (Kd.int .i64) 3 w19 w.heap.size (fun k_ => (w.heap.size ≤ k_)) (.slice (some ⟨go16, 0, none⟩) x5_2.length co17) y265 := (by rw [hw, Ny265.out]; exact HP18.1); clear HP18; replace HO_5 := Q0.mk (hp_); replace HB := Q0.mk ((by rw [hw]; exact bS (HB.out) GB16.out : Below w.heap.size w w19)); clear hg hw hp_)); try go_wp2_with (first | ((with_reducible refine zq0 (t := 3) (p := 52) rfl ?_); (try (rw [zl1 wr]; generalize hq_ : World.drewN wr _ = wr; have n0_ := Q0.mk (Kd.R_at hq_ HO_5.out); have n1_ := Q0.mk (zx3 hq_ HB.out); clear hq_ HO_5 HB; have HO_5 := n0_; have HB := n1_; clear n0_ n1_; (try (have HP18 := Kd.zo1 HO_5.out ((ji10) : Int) (Int.tmod (wrap64 ((wrap64 ((rd x5_2 (ji10)) + (wrap64 ((rd l0 x6_1) * (rd l1 x8_2))))) + x7_2)) 65536))))); refine zi0 (t := 3) (p := 52) (v := ?vo_w19) (w1 := (wr.setCell ⟨go16, ((ji10) : Int).toNat, none⟩ (.int .i64 (Int.tmod (wrap64 ((wrap64 ((rd x5_2 (ji10)) + (wrap64 ((rd l0 x6_1) * (rd l1 x8_2))))) + x7_2)) 65536)))) ?hg ?ho ?hn ?hr ?_; (case ho => rfl); (case hg => rfl); (case hn => rfl); (case hr => first | (go_simp; done) | (go_simp; rfl)); intro w19 hw; have hg : wr.grownBy w19 (some go16) := (by rw [hw]; exact HP18.2); have hp_ : Kd.R (Kd.int .i64) 3 w19 w.heap.size (fun k_ => (w.heap.size ≤ k_)) (.slice (some ⟨go16, 0, none⟩) x5_2.length co17) y265 := (by rw [hw, Ny265.out]; exact HP18.1); clear HP18; replace HO_5 := Q0.mk (hp_); replace HB := Q0.mk ((by rw [hw]; exact bS (HB.out) GB16.out : Below w.heap.size w w19)); clear hg hw hp_)))
              go_roundg k2
              case measure => have := HK1.out; have := HK2.out; omega
              case rel => exact ⟨(y265), (wrap64 (Int.tdiv (wrap64 ((wrap64 ((rd x5_2 (ji10)) + (wrap64 ((rd l0 x6_1) * (rd l1 x8_2))))) + x7_2)) 65536)), (wrap64 (x8_2 + 1)), (by first | rfl | (simp; done) | (simp only [← hji10] <;> (first | rfl | simp)) | (simp [*]; done)), (by first | rfl | (simp; done) | (simp [*]; done)), H', ⟨by have := HK1.out; have := HK2.out; omega⟩, ⟨by (with_reducible repeat (first | apply Kd.RA_ | apply Kd.RN_ | apply Kd.RD_)); first | exact HO_5.out | (rw [Ny265.out]; exact (Kd.zo1 (Kd.RN_ HO_5.out _) _ _).1)⟩, ⟨by first | exact bS (bN HB.out _) GB16.out | repeat (first | (with_reducible first | exact HB.out | apply bA | apply bN | apply b1_) | exact HB.out)⟩⟩
             ·rw [if_neg c15] at H
              exact absurd H (by simp)
            ·rw [if_neg c14] at H
             exact absurd H (by simp)
           ·rw [if_neg c13] at H
            exact absurd H (by simp)
          ·rw [if_neg c12] at H
           exact absurd H (by simp)
         ·rw [if_neg c11] at H
          exact absurd H (by simp)
        ·rw [if_neg c9] at H
         have c9b0 : decide (x8_2 < (l1.length : Int)) = false := decide_eq_false c9
         clear c9
         obtain ⟨ji20, hji20⟩ : ∃ j_ : Int, (wrap64 (x6_1 + (l1.length : Int))) = j_ := ⟨_, rfl⟩
         replace H : (if 0 ≤ (ji20) then (if (ji20) < (x5_2.length : Int) then (chaffref01_Mul.l0 k2 l0 l1 (x5_2.set ((ji20) : Int).toNat x7_2) (wrap64 (x6_1 + 1))) else (none)) else (none)) = some r := by first | (rw [hji20] at H; exact H) | (simp only [hji20] at H ⊢; exact H)
         have hji20w : (IntKind.i64.wrap (x6_1 + (l1.length : Int))) = ji20 := (iw _).trans hji20
         by_cases c21 : 0 ≤ (ji20)
         ·rw [if_pos c21] at H
          have c21b0 : decide (0 ≤ (ji20)) = true := decide_eq_true c21
          clear c21
          by_cases c22 : (ji20) < (x5_2.length : Int)
          ·rw [if_pos c22] at H
           have c22b0 : decide ((ji20) < (x5_2.length : Int)) = true := decide_eq_true c22
           clear c22
           obtain ⟨y266, hy266⟩ : ∃ y_ : List Int, y_ = (x5_2.set ((ji20) : Int).toNat x7_2) := ⟨_, rfl⟩
           replace H : (chaffref01_Mul.l0 k2 l0 l1 y266 (wrap64 (x6_1 + 1))) = some r := by first | (rw [hy266]; with_reducible exact H) | (have H2_ := (Option.bind_some _ _).symm.trans H; rw [hy266]; with_reducible exact H2_) | (have H2_ := (Option.bind_some _ _).symm.trans H; with_reducible exact H2_) | with_reducible exact H | (rw [hy266]; exact H) | exact H
           have Ny266 := Q0.mk hy266
           clear hy266
           have H' := Q0.mk H
           clear H
           have p23 : 0 ≤ ((ji20) : Int) := of_decide_eq_true (by first | (with_reducible assumption) | assumption)
           have q23 : ((ji20) : Int) < ((x5_2.length : Int) : Int) := of_decide_eq_true (by first | (with_reducible assumption) | assumption)
           obtain ⟨go23, co23, eo23, gb23, gl23, cl23, HG23⟩ := Kd.zi2 HO_5.out (by omega)
           (first | cases eo23 | (injection eo23 with ea_ en_ ec_; (first | subst ea_ | (injection ea_ with ea_; subst ea_)); subst ec_; clear en_))
           have GB23 := Q0.mk gb23
           have GG23 := Q0.mk HG23
           clear gb23 gl23 HG23
           obtain ⟨hx23_0, hf23_0⟩ := Kd.z81 0 HO_5.out ((ji20) : Int) p23 q23
           replace p23 := eq_true p23
           replace q23 := eq_true q23
           have HP24 := Kd.zo1 HO_5.out ((ji20) : Int) x7_2
           go_wp2_with (first | ((with_reducible refine zq0 (t := 3) (p := 61) rfl ?_); (try (rw [zl1 wr]; generalize hq_ : World.drewN wr _ = wr; have n0_ := Q0.mk (Kd.R_at hq_ HO_5.out); have n1_ := Q0.mk (zx3 hq_ HB.out); clear hq_ HO_5 HB; have HO_5 := n0_; have HB := n1_; clear n0_ n1_; (try (have HP24 := Kd.zo1 HO_5.out ((ji20) : Int) x7_2)))); refine zi0 (t := 3) (p := 61) (v := ?vo_w25) (w1 := (wr.setCell ⟨go23, ((ji20) : Int).toNat, none⟩ (.int .i64 x7_2))) ?hg ?ho ?hn ?hr ?_; (case ho => rfl); (case hg => rfl); (case hn => rfl); (case hr => first | (go_simp; done) | (go_simp; rfl)); intro w25 hw; have hg : wr.grownBy w25 (some go23) := (by rw [hw]; exact HP24.2); have hp_ : Kd.R (Kd.int .i64) 3 w25 w.heap.size (fun k_ => (w.heap.size ≤ k_)) (.slice (some ⟨go23, 0, none⟩) x5_2.length co23) y266 := (by rw [hw, Ny266.out]; exact HP24.1); clear HP24; replace HO_5 := Q0.mk (hp_); replace HB := Q0.mk ((by rw [hw]; exact bS (HB.out) GB23.out : Below w.heap.size w w25)); clear hg hw hp_))
           repeat (go_quiet (first | ((with_reducible refine zq0 (t := 3) (p := 61) rfl ?_); (try (rw [zl1 wr]; generalize hq_ : World.drewN wr _ = wr; have n0_ := Q0.mk (Kd.R_at hq_ HO_5.out); have n1_ := Q0.mk (zx3 hq_ HB.out); clear hq_ HO_5 HB; have HO_5 := n0_; have HB := n1_; clear n0_ n1_; (try (have HP24 := Kd.zo1 HO_5.out ((ji20) : Int) x7_2)))); refine zi0 (t := 3) (p := 61) (v := ?vo_w25) (w1 := (wr.setCell ⟨go23, ((ji20) : Int).toNat, none⟩ (.int .i64 x7_2))) ?hg ?ho ?hn ?hr ?_; (case ho => rfl); (case hg => rfl); (case hn => rfl); (case hr => first | (go_simp; done) | (go_simp; rfl)); intro w25 hw; have hg : wr.grownBy w25 (some go23) := (by rw [hw]; exact HP24.2); have hp_ : Kd.R (Kd.int .i64) 3 w25 w.heap.size (fun k_ => (w.heap.size ≤ k_)) (.slice (some ⟨go23, 0, none⟩) x5_2.length co23) y266 := (by rw [hw, Ny266.out]; exact HP24.1); clear HP24; replace HO_5 := Q0.mk (hp_); replace HB := Q0.mk ((by rw [hw]; exact bS (HB.out) GB23.out : Below w.heap.size w w25)); clear hg hw hp_)); try go_wp2_with (first | ((with_reducible refine zq0 (t := 3) (p := 61) rfl ?_); (try (rw [zl1 wr]; generalize hq_ : World.drewN wr _ = wr; have n0_ := Q0.mk (Kd.R_at hq_ HO_5.out); have n1_ := Q0.mk (zx3 hq_ HB.out); clear hq_ HO_5 HB; have HO_5 := n0_; have HB := n1_; clear n0_ n1_; (try (have HP24 := Kd.zo1 HO_5.out ((ji20) : Int) x7_2)))); refine zi0 (t := 3) (p := 61) (v := ?vo_w25) (w1 := (wr.setCell ⟨go23, ((ji20) : Int).toNat, none⟩ (.int .i64 x7_2))) ?hg ?ho ?hn ?hr ?_; (case ho => rfl); (case hg => rfl); (case hn => rfl); (case hr => first | (go_simp; done) | (go_simp; rfl)); intro w25 hw; have hg : wr.grownBy w25 (some go23) := (by rw [hw]; exact HP24.2); have hp_ : Kd.R (Kd.int .i64) 3 w25 w.heap.size (fun k_ => (w.heap.size ≤ k_)) (.slice (some ⟨go23, 0, none⟩) x5_2.length co23) y266 := (by rw [hw, Ny266.out]; exact HP24.1); clear HP24; replace HO_5 := Q0.mk (hp_); replace HB := Q0.mk ((by rw [hw]; exact bS (HB.out) GB23.out : Below w.heap.size w w25)); clear hg hw hp_)))
           go_roundg k2
           case measure => have := HK1.out; have := HK2.out; omega
           case rel => exact ⟨(y266), (wrap64 (x6_1 + 1)), (by first | rfl | (simp; done) | (simp [*]; done)), H', ⟨by have := HK1.out; have := HK2.out; omega⟩, ⟨by (with_reducible repeat (first | apply Kd.RA_ | apply Kd.RN_ | apply Kd.RD_)); first | exact HO_5.out | (rw [Ny265.out]; exact (Kd.zo1 (Kd.RN_ HO_5.out _) _ _).1)⟩, ⟨by first | exact bS (bN HB.out _) GB16.out | repeat (first | (with_reducible first | exact HB.out | apply bA | apply bN | apply b1_) | exact HB.out)⟩⟩
          ·rw [if_neg c22] at H
           exact absurd H (by simp)
         ·rw [if_neg c21] at H
          exact absurd H (by simp)
     ·rw [if_neg c8] at H
      have c8b0 : decide (x6_1 < (l0.length : Int)) = false := decide_eq_false c8
      clear c8
      replace H := Option.bind_eq_some_iff.mp H
      obtain ⟨t259, A260, H⟩ := H
      replace H : (some t259) = some r := H
      have A26 := Q0.mk A260
      clear A260
      obtain rfl := Option.some.inj H
      obtain ⟨Ao27, co27, eo27⟩ := Kd.zl0 HO_5.out
      subst eo27
      go_wp2_with (first | (go_at_call 63; (with_reducible refine (chaffref01_trim.calls k1 (fun k_ => some k_ = (.slice Ao27 x5_1.length co27 : Value).ownBlock) _ _ x5_1 t259 _ ?side1 A26.out).mono ?_); (case side1 => exact Kd.R_V (Kd.z11 rfl (HO_5.out))); rintro e w28 ⟨v260, rfl, ho0, hb⟩; have q_ := zm (w := w) hb (by repeat (first | (with_reducible first | exact HB.out | apply bA | apply bN | apply b1_) | exact HB.out)); have HO261 := Q0.mk (Kd.za0 (Kd.VM_ (ok' := fun k_ => (w.heap.size ≤ k_)) ho0 (fun k_ hk_ => Or.elim hk_ (fun hs_ => ((HO_5.out).1 k_ hs_.symm)) (fun hn_ => (Nat.le_trans (bZ q_) hn_)))) (bZ q_)); replace HO_5 := Q0.mk (Kd.zy (by (with_reducible repeat (first | apply Kd.RA_ | apply Kd.RN_ | apply Kd.RD_)); exact HO_5.out) hb); replace HB := Q0.mk (bP q_ hb); clear q_; (try clear hb); (try clear hb2); (try clear hk); (try clear hi); (try clear ho0)))
      repeat (go_quiet (first | (go_at_call 63; (with_reducible refine (chaffref01_trim.calls k1 (fun k_ => some k_ = (.slice Ao27 x5_1.length co27 : Value).ownBlock) _ _ x5_1 t259 _ ?side1 A26.out).mono ?_); (case side1 => exact Kd.R_V (Kd.z11 rfl (HO_5.out))); rintro e w28 ⟨v260, rfl, ho0, hb⟩; have q_ := zm (w := w) hb (by repeat (first | (with_reducible first | exact HB.out | apply bA | apply bN | apply b1_) | exact HB.out)); have HO261 := Q0.mk (Kd.za0 (Kd.VM_ (ok' := fun k_ => (w.heap.size ≤ k_)) ho0 (fun k_ hk_ => Or.elim hk_ (fun hs_ => ((HO_5.out).1 k_ hs_.symm)) (fun hn_ => (Nat.le_trans (bZ q_) hn_)))) (bZ q_)); replace HO_5 := Q0.mk (Kd.zy (by (with_reducible repeat (first | apply Kd.RA_ | apply Kd.RN_ | apply Kd.RD_)); exact HO_5.out) hb); replace HB := Q0.mk (bP q_ hb); clear q_; (try clear hb); (try clear hb2); (try clear hk); (try clear hi); (try clear ho0))); try go_wp2_with (first | (go_at_call 63; (with_reducible refine (chaffref01_trim.calls k1 (fun k_ => some k_ = (.slice Ao27 x5_1.length co27 : Value).ownBlock) _ _ x5_1 t259 _ ?side1 A26.out).mono ?_); (case side1 => exact Kd.R_V (Kd.z11 rfl (HO_5.out))); rintro e w28 ⟨v260, rfl, ho0, hb⟩; have q_ := zm (w := w) hb (by repeat (first | (with_reducible first | exact HB.out | apply bA | apply bN | apply b1_) | exact HB.out)); have HO261 := Q0.mk (Kd.za0 (Kd.VM_ (ok' := fun k_ => (w.heap.size ≤ k_)) ho0 (fun k_ hk_ => Or.elim hk_ (fun hs_ => ((HO_5.out).1 k_ hs_.symm)) (fun hn_ => (Nat.le_trans (bZ q_) hn_)))) (bZ q_)); replace HO_5 := Q0.mk (Kd.zy (by (with_reducible repeat (first | apply Kd.RA_ | apply Kd.RN_ | apply Kd.RD_)); exact HO_5.out) hb); replace HB := Q0.mk (bP q_ hb); clear q_; (try clear hb); (try clear hb2); (try clear hk); (try clear hi); (try clear ho0))))
      go_ret
      exact ⟨_, by first | rfl | (simp [eN, eS] <;> rfl) | (simp only [← hji3]; first | rfl | (simp [eN, eS] <;> rfl)) | (simp [*, eN, eS] <;> rfl), by (with_reducible repeat (first | apply Kd.VA_ | apply Kd.VN_ | apply Kd.VD_)); exact HO261.out, by repeat (first | (with_reducible first | exact HB.out | apply bA | apply bN | apply b1_) | exact HB.out)⟩
  ·rw [if_neg c5] at H
   exact absurd H (by simp)
 ·rw [if_neg c4] at H
  exact absurd H (by simp)
end Go.Proofs.YtgkdealidnidiaaDoor.Na
namespace Go.Proofs.YtgkdealidnidiaaDoor.Na
open Go.RowKit Go.Proofs.YtgkdealidnidiaaDoorW.PrintWords Go.Proofs.YtgkdealidnidiaaDoorW.PrintLast Go.Proofs.YtgkdealidnidiaaDoorW.PrintMore Go.Proofs.YtgkdealidnidiaaDoor.Dg
def nb (n : Nat) : Nat := if n = 0 then 0 else Nat.log2 n + 1
theorem nb_le (n k : Nat) : nb n ≤ k ↔ n < 2 ^ k := by
 unfold nb
 by_cases h : n = 0
 ·subst h; simp; exact Nat.pow_pos (by decide)
 ·rw [if_neg h, ← Nat.log2_lt h]; omega
theorem nb_eq {n r : Nat} (h1 : n < 2 ^ r) (h2 : r = 0 ∨ 2 ^ (r - 1) ≤ n) : nb n = r := by
 have a := (nb_le n r).2 h1
 rcases h2 with h2 | h2
 ·omega
 ·rcases Nat.lt_or_ge (nb n) r with h | h
  ·have := (nb_le n (r - 1)).1 (by omega); omega
  ·omega
theorem nb_zero : nb 0 = 0 := rfl
theorem nb_pos {n : Nat} (h : 0 < n) : 0 < nb n := by unfold nb; rw [if_neg (by omega)]; omega
theorem nb_lt (n : Nat) : n < 2 ^ nb n := (nb_le n _).1 (Nat.le_refl _)
theorem nb_ge {n : Nat} (h : 0 < n) : 2 ^ (nb n - 1) ≤ n := by
 have := nb_pos h
 have h2 := mt (nb_le n (nb n - 1)).2 (by omega)
 omega
theorem nb_split {v s w : Nat} (hv : v < 2 ^ s) (hw : 0 < w) : nb (v + 2 ^ s * w) = s + nb w := by
 have p := Nat.pow_pos (n := s) (show 0 < 2 by decide)
 apply nb_eq
 ·rw [Nat.pow_add]
  have h1 : 2 ^ s * (w + 1) ≤ 2 ^ s * 2 ^ nb w := Nat.mul_le_mul_left _ (nb_lt w)
  rw [Nat.mul_add] at h1; omega
 ·right
  have h0 := nb_pos hw
  rw [show s + nb w - 1 = s + (nb w - 1) by omega, Nat.pow_add]
  have h1 : 2 ^ s * 2 ^ (nb w - 1) ≤ 2 ^ s * w := Nat.mul_le_mul_left _ (nb_ge hw)
  omega
theorem nb_half {n : Nat} (h : 0 < n) : nb n = nb (n / 2) + 1 := by
 by_cases h1 : n / 2 = 0
 ·have : n = 1 := by omega
  subst this; rfl
 ·have := nb_split (v := n % 2) (s := 1) (w := n / 2) (by omega) (by omega)
  rw [show n % 2 + 2 ^ 1 * (n / 2) = n by omega] at this
  omega
theorem bitLenAux_nb : ∀ (f x : Nat), x < 2 ^ f → Lib.bitLenAux f x = nb x
 | 0, x, h => by
  have : x = 0 := by simpa using h
  subst this; rfl
 | f + 1, x, h => by
  simp only [Lib.bitLenAux]
  by_cases h0 : x = 0
  ·rw [if_pos h0, h0]; rfl
  ·have hp := nb_half (n := x) (by omega)
   rw [if_neg h0, bitLenAux_nb f (x / 2) (by rw [Nat.pow_succ] at h; omega)]; omega
theorem bitLen_nb {x : Nat} (h : x < 18446744073709551616) : Lib.bitLen x = nb x := bitLenAux_nb 64 x (by rw [show 2 ^ 64 = 18446744073709551616 by decide]; exact h)
theorem wd_last {b x : Nat} (hb : 2 ≤ b) (h : 0 < x) : ∃ m lw, ∃ v w : Nat, wd b x = m ++ [lw] ∧ lw = (w : Int) ∧ 0 < w ∧ w < b ∧ v < b ^ m.length ∧ x = v + b ^ m.length * w := by
 rcases wd_NZ hb x with h0 | ⟨m, lw, e, hlw⟩
 ·exact absurd h0 (wd_ne hb h)
 ·have hR := zd2 hb x
  have hV := zn2 hb x
  rw [e] at hR hV
  have r := hR lw (by simp)
  have hRm := (zz.1 hR).1
  have v0 := zn0 (b := (b : Int)) (by omega) hRm
  have v1 := V_lt (b := (b : Int)) (by omega) hRm
  rw [zh2] at hV
  obtain ⟨w, rfl⟩ := Int.eq_ofNat_of_zero_le r.1
  obtain ⟨v, hv⟩ := Int.eq_ofNat_of_zero_le v0
  rw [hv] at hV v1
  refine ⟨m, w, v, w, e, rfl, by omega, by omega, ?_, ?_⟩
  ·rw [← Int.natCast_pow] at v1; omega
  ·rw [← Int.natCast_pow, ← Int.natCast_mul, ← Int.natCast_add] at hV; omega
theorem pow64 (n : Nat) : BW ^ n = 2 ^ (64 * n) := by rw [show BW = 2 ^ 64 by decide, ← Nat.pow_mul]
theorem pow16 (n : Nat) : BD ^ n = 2 ^ (16 * n) := by rw [show BD = 2 ^ 16 by decide, ← Nat.pow_mul]
theorem nbits_ev (x : Nat) (hx : (wd BW x).length ≤ 1000000) : Ev (fun k => nat_Nat_Bits.f k (wd BW x)) (nb x : Int) := by
 by_cases h0 : x = 0
 ·subst h0
  rw [zo0]
  exact Ev.congr (f := fun _ => some 0) (fun k => by unfold nat_Nat_Bits.f; rw [if_pos (by simp)]) (Ev.now _)
 ·obtain ⟨m, lw, v, w, e, rfl, hw, hwb, hv, hxe⟩ := wd_last (b := BW) (by decide) (show 0 < x by omega)
  rw [e] at hx ⊢
  have hl : ((m ++ [(w : Int)]).length : Int) = (m.length : Int) + 1 := by simp
  have hw1 : wrap64 ((((m ++ [(w : Int)]).length : Nat) : Int) - 1) = (m.length : Int) := by rw [w64] <;> omega
  have hb : w < 18446744073709551616 := hwb
  have hn : nb x = 64 * m.length + nb w := by rw [hxe, pow64]; exact nb_split (by rw [← pow64]; exact hv) hw
  have hnw : nb w ≤ 64 := (nb_le w 64).2 hb
  refine Ev.step (f := fun k => some (nb x : Int)) (fun k => ?_) (Ev.now _)
  unfold nat_Nat_Bits.f
  rw [if_neg (by omega), hw1, if_pos (by omega), if_pos (by omega), rd_snoc]
  simp only [bits_Len64.f]
  rw [if_pos (by omega), Int.toNat_natCast, bitLen_nb hb]
  simp only [Option.bind_some]
  rw [w64 (x := 64 * (m.length : Int)) (by omega) (by omega), w64 (by omega) (by omega), hn]; simp
theorem rbits_loop : ∀ (f x n : Nat), x < 2 ^ f → f ≤ 64 → n + f ≤ 1000000000 → Ev (fun k => chaffref01_Bits.l0 k n x) ((n + nb x : Nat) : Int)
 | 0, x, n, h, _, _ => by
  have : x = 0 := by simpa using h
  subst this
  exact Ev.step (f := fun _ => some (n : Int)) (fun k => by rw [chaffref01_Bits.l0, if_neg (by decide)]) (Ev.now _)
 | f + 1, x, n, h, hf, hn => by
  by_cases h0 : x = 0
  ·subst h0
   exact Ev.step (f := fun _ => some (n : Int)) (fun k => by rw [chaffref01_Bits.l0, if_neg (by decide)]) (Ev.now _)
  ·have h2 : x < 2 ^ 64 := Nat.lt_of_lt_of_le h (Nat.pow_le_pow_right (by decide) hf)
   have h3 : x / 2 < 2 ^ f := by rw [Nat.pow_succ] at h; omega
   rw [nb_half (show 0 < x by omega), show n + (nb (x / 2) + 1) = n + 1 + nb (x / 2) by omega]
   refine Ev.step (fun k => ?_) (rbits_loop f (x / 2) (n + 1) h3 (by omega) (by omega))
   have e : Int.tdiv (x : Int) 2 = ((x / 2 : Nat) : Int) := by rw [Int.tdiv_eq_ediv_of_nonneg (by omega)]; omega
   rw [chaffref01_Bits.l0, if_pos (by omega), e, w64 (x := (n : Int) + 1) (by omega) (by omega), w64 (by omega) (by omega)]; rfl
theorem rbits_ev (x : Nat) (hx : (wd BD x).length ≤ 1000000) : Ev (fun k => chaffref01_Bits.f k (wd BD x)) (nb x : Int) := by
 by_cases h0 : x = 0
 ·subst h0
  rw [zo0]
  exact Ev.congr (f := fun _ => some 0) (fun k => by unfold chaffref01_Bits.f; rw [if_pos (by simp)]) (Ev.now _)
 ·obtain ⟨m, lw, v, w, e, rfl, hw, hwb, hv, hxe⟩ := wd_last (b := BD) (by decide) (show 0 < x by omega)
  rw [e] at hx ⊢
  have hl : ((m ++ [(w : Int)]).length : Int) = (m.length : Int) + 1 := by simp
  have hw1 : wrap64 ((((m ++ [(w : Int)]).length : Nat) : Int) - 1) = (m.length : Int) := by rw [w64] <;> omega
  have hn : nb x = 16 * m.length + nb w := by rw [hxe, pow16]; exact nb_split (by rw [← pow16]; exact hv) hw
  have hb : w < 65536 := hwb
  refine Ev.congr (f := fun k => chaffref01_Bits.l0 k ((16 * m.length : Nat) : Int) w) (fun k => ?_) (by rw [hn]; exact rbits_loop 16 w _ hwb (by decide) (by omega))
  unfold chaffref01_Bits.f
  rw [if_neg (by omega), hw1, if_pos (by omega), if_pos (by omega), rd_snoc, w64 (by omega) (by omega)]; simp
theorem row_step {b Q d vo v0 c a VB o y c' bj : Int} (h : vo + Q * d * c = v0 + Q * (a * VB)) (hs : y + b * c' = a * bj + o + c) :
  (vo + Q * d * (y - o)) + Q * (d * b) * c' = v0 + Q * (a * (VB + d * bj)) := by grind
structure Row (b : Nat) (a bb : List Int) (i j : Nat) (v0 : Int) (o : List Int) (c : Int) : Prop where
 len : o.length = a.length + bb.length
 r : R b o
 c0 : 0 ≤ c
 c1 : c < b
 z : ∀ p, i + bb.length ≤ p → o.getD p 0 = 0
 v : V b o + (b : Int) ^ i * (b : Int) ^ j * c = v0 + (b : Int) ^ i * (a.getD i 0 * V b (bb.take j))
theorem Row.step {b : Nat} {a bb : List Int} {i j : Nat} {v0 : Int} {o : List Int} {c y c' : Int} (h : Row b a bb i j v0 o c) (hi : i < a.length) (hj : j < bb.length) (hs : y + b * c' = a.getD i 0 * bb.getD j 0 + o.getD (i + j) 0 + c) (hy0 : 0 ≤ y) (hy1 : y < b) (hc0 : 0 ≤ c') (hc1 : c' < b) :
  Row b a bb i (j + 1) v0 (o.set (i + j) y) c' := by
 refine ⟨by rw [List.length_set]; exact h.len, R_set h.r _ hy0 hy1, hc0, hc1, fun p hp => ?_, ?_⟩
 ·have hz := h.z p hp
  rw [List.getD_eq_getElem?_getD] at hz ⊢
  rw [List.getElem?_set_ne (by omega)]; exact hz
 ·have hl := h.len
  rw [V_set _ _ _ _ (by omega), zd0 _ _ _ hj, Int.pow_succ, Int.pow_add]
  exact row_step h.v hs
theorem Row.close {b : Nat} {a bb : List Int} {i : Nat} {o : List Int} {c : Int} (h : Row b a bb i bb.length (V b (a.take i) * V b bb) o c) (hi : i < a.length) :
  R b (o.set (i + bb.length) c) ∧ (o.set (i + bb.length) c).length = a.length + bb.length ∧ (∀ p, i + 1 + bb.length ≤ p → (o.set (i + bb.length) c).getD p 0 = 0) ∧ V b (o.set (i + bb.length) c) = V b (a.take (i + 1)) * V b bb := by
 have hl := h.len
 refine ⟨R_set h.r _ h.c0 h.c1, by rw [List.length_set]; exact hl, fun p hp => ?_, ?_⟩
 ·have hz := h.z p (by omega)
  rw [List.getD_eq_getElem?_getD] at hz ⊢
  rw [List.getElem?_set_ne (by omega)]; exact hz
 ·have hz := h.z (i + bb.length) (Nat.le_refl _)
  have hv := h.v
  rw [zb0 _ _ (Nat.le_refl _)] at hv
  rw [V_set _ _ _ _ (by omega), hz, zd0 _ _ _ hi, Int.pow_add]
  have : (V b (a.take i) + (b : Int) ^ i * a.getD i 0) * V b bb = V b (a.take i) * V b bb + (b : Int) ^ i * (a.getD i 0 * V b bb) := by grind
  rw [this, ← hv, Int.sub_zero]
theorem Row.start {b : Nat} (hb : 2 ≤ b) {a bb : List Int} {i : Nat} {o : List Int} (hr : R b o) (hl : o.length = a.length + bb.length) (hz : ∀ p, i + bb.length ≤ p → o.getD p 0 = 0) (hv : V b o = V b (a.take i) * V b bb) : Row b a bb i 0 (V b (a.take i) * V b bb) o 0 :=
 ⟨hl, hr, by decide, by omega, hz, by rw [hv]; simp [V]⟩
theorem dig_sum {b : Nat} {x y o c : Int} (hx0 : 0 ≤ x) (hx1 : x < b) (hy0 : 0 ≤ y) (hy1 : y < b) (ho1 : o < b) (hc1 : c < b) : x * y + o + c < b * b := by
 have h1 : x * y ≤ (b - 1 : Int) * (b - 1) := Int.mul_le_mul (by omega) (by omega) hy0 (by omega)
 have h2 : (b - 1 : Int) * (b - 1) = b * b - 2 * b + 1 := by grind
 omega
theorem mul_ex {x y : Int} (h0 : 0 ≤ x) (h1 : x < 18446744073709551616) (h2 : 0 ≤ y) (h3 : y < 18446744073709551616) :
  ∃ hi lo, bits_Mul64.f x y = some (hi, lo) ∧ lo + 18446744073709551616 * hi = x * y ∧ 0 ≤ lo ∧ lo < 18446744073709551616 ∧ 0 ≤ hi := by
 have hp := prod_lt h0 h1 h2 h3
 exact ⟨_, _, mul_some h0 h1 h2 h3, Int.emod_add_mul_ediv _ _, (zk1 (by decide)).1, (zk1 (by decide)).2, Int.ediv_nonneg hp.1 (by decide)⟩
theorem add_ex {x y c : Int} (h0 : 0 ≤ x) (h2 : 0 ≤ y) (h3 : 0 ≤ c) (h4 : c ≤ 1) :
  ∃ s c', bits_Add64.f x y c = some (s, c') ∧ s + 18446744073709551616 * c' = x + y + c ∧ 0 ≤ s ∧ s < 18446744073709551616 ∧ 0 ≤ c' :=
 ⟨_, _, add_some h0 h2 h3 h4, Int.emod_add_mul_ediv _ _, (zk1 (by decide)).1, (zk1 (by decide)).2, Int.ediv_nonneg (by omega) (by decide)⟩
theorem nmul_l1 (k : Nat) (o a bb : List Int) (i j : Nat) (c hi1 lo s1 c1 y c2 : Int) (hi : i < a.length) (hj : j < bb.length) (hl : o.length = a.length + bb.length) (hn : a.length + bb.length ≤ 1000000000)
  (em : bits_Mul64.f (a.getD i 0) (bb.getD j 0) = some (hi1, lo)) (ea : bits_Add64.f lo (o.getD (i + j) 0) 0 = some (s1, c1)) (eb : bits_Add64.f s1 c 0 = some (y, c2)) :
  IntKind.u64.wrap (hi1 + c1) = hi1 + c1 → IntKind.u64.wrap (hi1 + c1 + c2) = hi1 + c1 + c2 → nat_Nat_Mul.l1 (k + 1) o i c a.length i bb.length j a bb = nat_Nat_Mul.l1 k (o.set (i + j) y) i (hi1 + c1 + c2) a.length i bb.length ((j + 1 : Nat) : Int) a bb := by
 have e : wrap64 ((i : Int) + (j : Int)) = ((i + j : Nat) : Int) := by rw [w64 (by omega) (by omega)]; rfl
 have ej : wrap64 ((j : Int) + 1) = ((j + 1 : Nat) : Int) := by rw [w64 (by omega) (by omega)]; rfl
 have g1 : (j : Int) < (bb.length : Int) := by omega
 have g2 : (0 : Int) ≤ (i : Int) := by omega
 have g3 : (i : Int) < (a.length : Int) := by omega
 have g4 : (0 : Int) ≤ (j : Int) := by omega
 have g5 : (0 : Int) ≤ ((i + j : Nat) : Int) := by omega
 have g6 : ((i + j : Nat) : Int) < (o.length : Int) := by omega
 intro hu1 hu2
 rw [nat_Nat_Mul.l1, if_pos g1, if_pos g2, if_pos g3, if_pos g4, if_pos g1, ze0, ze0, em, Option.bind_some, e, if_pos g5, if_pos g6, ze0, ea, Option.bind_some, eb, Option.bind_some, Int.toNat_natCast, ej, hu1, hu2]
theorem nmul_l1_end (k : Nat) (o a bb : List Int) (i : Nat) (c : Int) (hi : i < a.length) (hl : o.length = a.length + bb.length) (hn : a.length + bb.length ≤ 1000000000) :
  nat_Nat_Mul.l1 (k + 1) o i c a.length i bb.length bb.length a bb = nat_Nat_Mul.l0 k (o.set (i + bb.length) c) a.length ((i + 1 : Nat) : Int) a bb := by
 have e : wrap64 ((i : Int) + (bb.length : Int)) = ((i + bb.length : Nat) : Int) := by rw [w64 (by omega) (by omega)]; rfl
 have ei : wrap64 ((i : Int) + 1) = ((i + 1 : Nat) : Int) := by rw [w64 (by omega) (by omega)]; rfl
 rw [nat_Nat_Mul.l1, if_neg (by omega), e, if_pos (by omega), if_pos (by omega), Int.toNat_natCast, ei]
theorem nmul_row (a bb : List Int) (hRa : R BW a) (hRb : R BW bb) (hn : a.length + bb.length ≤ 1000000000) (i : Nat) (hi : i < a.length) (v0 : Int) :
  ∀ (d j : Nat) (o : List Int) (c : Int), j + d = bb.length → Row BW a bb i j v0 o c →
   ∃ o' c', Row BW a bb i bb.length v0 o' c' ∧ ∀ r, Ev (fun k => nat_Nat_Mul.l0 k (o'.set (i + bb.length) c') a.length ((i + 1 : Nat) : Int) a bb) r → Ev (fun k => nat_Nat_Mul.l1 k o i c a.length i bb.length j a bb) r
 | 0, j, o, c, hj, h => by
  obtain rfl : j = bb.length := by omega
  refine ⟨o, c, h, fun r hr => Ev.step (fun k => ?_) hr⟩
  have hl := h.len
  exact nmul_l1_end k o a bb i c hi hl hn
 | d + 1, j, o, c, hj, h => by
  have hl := h.len
  have ra := zu0 hRa (by decide) i
  have rb := zu0 hRb (by decide) j
  have ro := zu0 h.r (by decide) (i + j)
  have hc0 := h.c0
  have hc1 := h.c1
  have hBW := BWi
  have hsum := dig_sum (b := BW) (o := o.getD (i + j) 0) (c := c) ra.1 ra.2 rb.1 rb.2 ro.2 hc1
  rw [hBW] at ra rb ro hc1 hsum
  have hstep := fun (y c' : Int) hs hy0 hy1 hd0 hd1 => h.step (y := y) (c' := c') hi (show j < bb.length by omega) hs hy0 hy1 hd0 hd1
  rw [hBW] at hstep
  obtain ⟨hi1, lo, em, em2, lo0, lo1, hi0⟩ := mul_ex ra.1 ra.2 rb.1 rb.2
  obtain ⟨s1, c1, ea, ea2, s10, s11, c10⟩ := add_ex (c := 0) lo0 ro.1 (by decide) (by decide)
  obtain ⟨y, c2, eb, eb2, y0, y1, c20⟩ := add_ex (c := 0) s10 hc0 (by decide) (by decide)
  generalize a.getD i 0 * bb.getD j 0 = P at em2 hsum hstep
  have hcr : 0 ≤ hi1 + c1 + c2 ∧ hi1 + c1 + c2 < 18446744073709551616 := by clear hstep em ea eb; omega
  have hsm : y + 18446744073709551616 * (hi1 + c1 + c2) = P + o.getD (i + j) 0 + c := by clear hstep em ea eb; omega
  have hu0 : 0 ≤ hi1 + c1 ∧ hi1 + c1 < 18446744073709551616 := by clear hstep em ea eb; omega
  obtain ⟨o', c3, hrow, hev⟩ := nmul_row a bb hRa hRb hn i hi v0 d (j + 1) _ _ (by omega) (hstep y (hi1 + c1 + c2) hsm y0 y1 hcr.1 hcr.2)
  refine ⟨o', c3, hrow, fun r hr => Ev.step (fun k => ?_) (hev r hr)⟩
  exact nmul_l1 k o a bb i j c hi1 lo s1 c1 y c2 hi (by omega) hl hn em ea eb (u64w hu0.1 hu0.2) (u64w hcr.1 hcr.2)
theorem nmul_loop (a bb : List Int) (m : Nat) (hRa : R BW a) (hRb : R BW bb) (hn : a.length + bb.length ≤ 1000000000) (hm : V BW a * V BW bb = m) : ∀ (d i : Nat) (o : List Int), i + d = a.length → R BW o → o.length = a.length + bb.length →
  (∀ p, i + bb.length ≤ p → o.getD p 0 = 0) → V BW o = V BW (a.take i) * V BW bb → Ev (fun k => nat_Nat_Mul.l0 k o a.length i a bb) (fitA m, zw2 m)
 | 0, i, o, hi, hr, hl, hz, hv => by
  obtain rfl : i = a.length := by omega
  refine Ev.step (f := fun k => (nat_fit.f k o).bind fun bt => some (bt.1, bt.2)) (fun k => by rw [nat_Nat_Mul.l0, if_neg (by omega)]) ?_
  exact Ev.bind (fit_ev o m hr (by rw [hv, zb0 _ _ (Nat.le_refl _), hm]) (by omega)) (Ev.now _)
 | d + 1, i, o, hi, hr, hl, hz, hv => by
  obtain ⟨o', c', hrow, hev⟩ := nmul_row a bb hRa hRb hn i (by omega) _ bb.length 0 o 0 (by omega) (Row.start (by decide) hr hl hz hv)
  obtain ⟨h1, h2, h3, h4⟩ := hrow.close (by omega)
  refine Ev.step (fun k => ?_) (hev _ (nmul_loop a bb m hRa hRb hn hm d (i + 1) _ (by omega) h1 h2 h3 h4))
  rw [nat_Nat_Mul.l0, if_pos (by omega)]; rfl
theorem zk2 (n : Nat) : (wd BW n).length ≤ 64 ↔ nb n ≤ 4096 := by
 have e : 64 * 64 = 4096 := by decide
 rw [zn (by decide), nb_le, pow64, e]
theorem nmul_ev (x y : Nat) (hx : (wd BW x).length ≤ 64) (hy : (wd BW y).length ≤ 64) : Ev (fun k => nat_Nat_Mul.f k (wd BW x) (wd BW y)) (fitA (x * y), zw2 (x * y)) := by
 have bx := (zk2 x).1 hx
 have by_ := (zk2 y).1 hy
 unfold nat_Nat_Mul.f
 refine Ev.bind (nbits_ev x (by omega)) (Ev.bind (nbits_ev y (by omega)) ?_)
 rw [w64 (x := (nb x : Int) + (nb y : Int)) (by omega) (by omega)]
 have hlen : (wd BW x).length + (wd BW y).length ≤ 128 := by omega
 by_cases h : (nb x : Int) + (nb y : Int) > 4097
 ·have hx0 : 0 < x := by
   rcases Nat.eq_zero_or_pos x with h0 | h0
   ·subst h0; rw [nb_zero] at h; omega
   ·exact h0
  have hy0 : 0 < y := by
   rcases Nat.eq_zero_or_pos y with h0 | h0
   ·subst h0; rw [nb_zero] at h; omega
   ·exact h0
  have hp : ¬ (wd BW (x * y)).length ≤ 64 := by
   obtain ⟨K, hK⟩ : ∃ K, 4096 = K := ⟨_, rfl⟩
   rw [zk2, nb_le, hK]
   have h1 : 2 ^ (nb x - 1) * 2 ^ (nb y - 1) ≤ x * y := Nat.mul_le_mul (nb_ge hx0) (nb_ge hy0)
   rw [← Nat.pow_add] at h1
   have h2 : 2 ^ K ≤ 2 ^ (nb x - 1 + (nb y - 1)) := Nat.pow_le_pow_right (by decide) (by omega)
   exact Nat.not_lt.2 (Nat.le_trans h2 h1)
  refine Ev.congr (f := fun _ => some (fitA (x * y), zw2 (x * y))) (fun k => ?_) (Ev.now _)
  unfold fitA zw2
  rw [if_pos h, if_neg hp, if_neg hp]
 ·have e : wrap64 (((wd BW x).length : Int) + ((wd BW y).length : Int)) = (((wd BW x).length + (wd BW y).length : Nat) : Int) := by rw [w64 (by omega) (by omega)]; rfl
  refine Ev.congr (f := fun k => nat_Nat_Mul.l0 k (List.replicate ((wd BW x).length + (wd BW y).length) 0) (wd BW x).length ((0 : Nat) : Int) (wd BW x) (wd BW y)) (fun k => ?_) ?_
  ·rw [if_neg h, e, Int.toNat_natCast, if_pos (by omega), if_pos (by omega)]; rfl
  ·clear e
   refine nmul_loop _ _ (x * y) (zd2 (by decide) x) (zd2 (by decide) y) (by omega) (by rw [zn2 (by decide), zn2 (by decide)]; simp) (wd BW x).length 0 _ (by omega) (zd4 (by decide) _) (by simp) (fun p _ => ?_) (by rw [V_zeros]; simp [V])
   rw [List.getD_eq_getElem?_getD]
   rcases Nat.lt_or_ge p ((wd BW x).length + (wd BW y).length) with hp | hp
   ·rw [List.getElem?_replicate, if_pos hp]; rfl
   ·rw [List.getElem?_eq_none (by simp; omega)]; rfl
end Go.Proofs.YtgkdealidnidiaaDoor.Na
namespace Go.Proofs.YtgkdealidnidiaaDoor.Na
open Go.RowKit Go.Proofs.YtgkdealidnidiaaDoorW.PrintWords Go.Proofs.YtgkdealidnidiaaDoorW.PrintLast Go.Proofs.YtgkdealidnidiaaDoorW.PrintMore
attribute [local go_sem] zx0 zd1
mutual
def chaffref01_From.l0 : Nat → List Int → List Int → Int → Option (List Int)
 | 0, _, _, _ => none
 | k + 1, x0, x3, x4 => if x4 < (x0.length : Int) then (if 0 ≤ x4 then (chaffref01_From.l1 k x0 x3 x4 (rd x0 x4) 0) else (none)) else ((chaffref01_trim.f k x3).bind fun t199 => (some t199))
def chaffref01_From.l1 : Nat → List Int → List Int → Int → Int → Int → Option (List Int)
 | 0, _, _, _, _, _ => none
 | k + 1, x0, x3, x4, x5, x6 => if x6 < 4 then (if x3.length < 17592186044416 then (chaffref01_From.l1 k x0 (x3 ++ [wrap64 (Int.tmod x5 65536)]) x4 (IntKind.u64.wrap (Int.tdiv x5 65536)) (wrap64 (x6 + 1))) else (none)) else (chaffref01_From.l0 k x0 x3 (wrap64 (x4 + 1)))
end
def chaffref01_From.f (k : Nat) (l0 : List Int) : Option (List Int) := chaffref01_From.l0 k l0 ([] : List Int) 0
theorem chaffref01_From.calls (k : Nat) (A0 : Option Addr) (c0 : Nat) (l0 : List Int) (r : List Int) (w : World) (hr0 : Kd.C (Kd.int .u64) w A0 l0.length l0) (hc0 : l0.length ≤ c0) (h : chaffref01_From.f k l0 = some r) :
  Calls Tryd.prog 15 #[.slice A0 l0.length c0] w fun e w' => ∃ v0_ : Value, e = .returned (v0_) ∧ Kd.V (Kd.int .i64) 3 w' w.heap.size (fun k_ => (w.heap.size ≤ k_)) v0_ r ∧ Below w.heap.size w w' := by
 have HR0 := Q0.mk hr0
 have HC0 := Q0.mk hc0
 clear hr0 hc0
 have HB := Q0.mk (Below.refl w.heap.size w)
 have H : (chaffref01_From.l0 k l0 ([] : List Int) 0) = some r := h
 clear h
 have H' := Q0.mk H
 clear H
 go_enter Tryd.func15, Tryd.ntmps15
 go_wp2
 go_loopg [3, 4] k (fun kq v3 v4 w' => ∃ (x3_1 : List Int) (x4_1 : Int), v4 = .int .i64 x4_1 ∧ Q0 (chaffref01_From.l0 kq l0 x3_1 x4_1 = some r) ∧ Q0 (kq ≤ k) ∧ Q0 (Kd.R (Kd.int .i64) 3 w' w.heap.size (fun k_ => (w.heap.size ≤ k_)) v3 x3_1) ∧ Q0 (Below w.heap.size w w'))
 case atStart => exact ⟨(([] : List Int)), (0), (by first | rfl | (simp; done) | (simp [*]; done)), H', ⟨Nat.le_refl _⟩, ⟨by first | exact Kd.zj1 _ _ _ _ _ | exact Kd.N_nil _ _ _ _ _ | exact Kd.zg3 _ _ _ _ _ | exact Kd.Q_nil _ _ _ _ _ | exact Kd.S_nil _ _ _ _ _⟩, ⟨by repeat (first | (with_reducible first | exact HB.out | apply bA | apply bN | apply b1_) | exact HB.out)⟩⟩
 case round =>
  clear H'
  obtain ⟨x3_1, x4_1, rfl, HA, HK1, HO_3, HB⟩ := hrel
  cases gk with
  | zero => exact absurd HA.out (by simp [chaffref01_From.l0])
  | succ k1 =>
   have H := HA.out
   clear HA
   simp only [chaffref01_From.l0] at H
   by_cases c2 : x4_1 < (l0.length : Int)
   ·rw [if_pos c2] at H
    have c2b0 : decide (x4_1 < (l0.length : Int)) = true := decide_eq_true c2
    clear c2
    by_cases c3 : 0 ≤ x4_1
    ·rw [if_pos c3] at H
     have c3b0 : decide (0 ≤ x4_1) = true := decide_eq_true c3
     clear c3
     have H' := Q0.mk H
     clear H
     have p202 : 0 ≤ (x4_1 : Int) := of_decide_eq_true (by first | (with_reducible assumption) | assumption)
     have q202 : x4_1 < (l0.length : Int) := of_decide_eq_true (by first | (with_reducible assumption) | assumption)
     obtain ⟨ad202, e202, hx202_0⟩ := Kd.zk HR0.out x4_1 p202 q202
     cases e202
     replace hx202_0 := (HB.out.cell (World.block_lt_of_cell? w _ hx202_0)).trans hx202_0
     replace p202 := eq_true p202
     replace q202 := eq_true q202
     go_wp2
     go_loopg [3, 5, 6] k1 (fun kq v3 v5 v6 w' => ∃ (x3_2 : List Int) (x5_2 : Int) (x6_2 : Int), v5 = .int .u64 x5_2 ∧ v6 = .int .i64 x6_2 ∧ Q0 (chaffref01_From.l1 kq l0 x3_2 x4_1 x5_2 x6_2 = some r) ∧ Q0 (kq ≤ k1) ∧ Q0 (Kd.R (Kd.int .i64) 3 w' w.heap.size (fun k_ => (w.heap.size ≤ k_)) v3 x3_2) ∧ Q0 (Below w.heap.size w w'))
     case atStart => exact ⟨(x3_1), (rd l0 x4_1), (0), (by first | rfl | (simp; done) | (simp [*]; done)), (by first | rfl | (simp; done) | (simp [*]; done)), H', ⟨Nat.le_refl _⟩, ⟨by (with_reducible repeat (first | apply Kd.RA_ | apply Kd.RN_ | apply Kd.RD_)); exact HO_3.out⟩, ⟨by repeat (first | (with_reducible first | exact HB.out | apply bA | apply bN | apply b1_) | exact HB.out)⟩⟩
     case round =>
      clear H'
      obtain ⟨x3_2, x5_2, x6_2, rfl, rfl, HA, HK2, HO_3, HB⟩ := hrel
      cases gk with
      | zero => exact absurd HA.out (by simp [chaffref01_From.l1])
      | succ k2 =>
       have H := HA.out
       clear HA
       simp only [chaffref01_From.l1] at H
       by_cases c4 : x6_2 < 4
       ·rw [if_pos c4] at H
        have c4b0 : decide (x6_2 < 4) = true := decide_eq_true c4
        clear c4
        by_cases c5 : x3_2.length < 17592186044416
        ·rw [if_pos c5] at H
         have LMc5 := Q0.mk c5
         clear c5
         obtain ⟨y203, hy203⟩ : ∃ y_ : List Int, y_ = (x3_2 ++ [wrap64 (Int.tmod x5_2 65536)]) := ⟨_, rfl⟩
         rw [← hy203] at H
         have Ny203 := Q0.mk hy203
         clear hy203
         have H' := Q0.mk H
         clear H
         go_wp2_with (first | ((with_reducible refine zz0 (b := .append) (xs := #[.tmp 21, .tmp 25]) rfl ?_); at_builtin; refine Kd.zz (Kd.int .i64) (w0 := w) w.heap.size rfl (.tmp 21) (.tmp 25) 26 3 (.int .i64 0) 8 rfl Tryd.underlying26 info3 rfl (by decide) (by omega) u3 x3_2 (wrap64 (Int.tmod x5_2 65536)) [.int .i64 (wrap64 (Int.tmod x5_2 65536))] (fun k_ => (w.heap.size ≤ k_)) (fun _ => False) rfl rfl ?aP (fun _ hk => hk.elim) ?aF ?aO ?aB ?aS ?aL ?_; (case aP => exact rfl); (case aB => exact (by repeat (first | (with_reducible first | exact HB.out | apply bA | apply bN | apply b1_) | exact HB.out))); (case aF => exact (fun k_ hk => (Nat.le_trans (bZ (by repeat (first | (with_reducible first | exact HB.out | apply bA | apply bN | apply b1_) | exact HB.out))) hk))); (case aO => exact (by (with_reducible repeat (first | apply Kd.RA_ | apply Kd.RN_ | apply Kd.RD_)); exact HO_3.out)); (case aS => exact (bZ (by repeat (first | (with_reducible first | exact HB.out | apply bA | apply bN | apply b1_) | exact HB.out)))); (case aL => have := LMc5.out; omega); intro v204 w6 ho hb hg hat; rw [← Ny203.out] at ho; have n0_ := Q0.mk (hb); have n1_ := Q0.mk (ho); clear HB; clear HO_3; have HB := n0_; have HO205 := n1_; clear n0_ n1_; clear ho hb hg hat))
         go_roundg k2
         case measure => have := HK1.out; have := HK2.out; omega
         case rel => exact ⟨(y203), (IntKind.u64.wrap (Int.tdiv x5_2 65536)), (wrap64 (x6_2 + 1)), (by first | rfl | (simp; done) | (simp [*]; done)), (by first | rfl | (simp; done) | (simp [*]; done)), H', ⟨by have := HK1.out; have := HK2.out; omega⟩, ⟨by (with_reducible repeat (first | apply Kd.RA_ | apply Kd.RN_ | apply Kd.RD_)); exact HO205.out⟩, ⟨by repeat (first | (with_reducible first | exact HB.out | apply bA | apply bN | apply b1_) | exact HB.out)⟩⟩
        ·rw [if_neg c5] at H
         exact absurd H (by simp)
       ·rw [if_neg c4] at H
        have c4b0 : decide (x6_2 < 4) = false := decide_eq_false c4
        clear c4
        have H' := Q0.mk H
        clear H
        go_wp2
        go_roundg k2
        case measure => have := HK1.out; have := HK2.out; omega
        case rel => exact ⟨(x3_2), (wrap64 (x4_1 + 1)), (by first | rfl | (simp; done) | (simp [*]; done)), H', ⟨by have := HK1.out; have := HK2.out; omega⟩, ⟨by (with_reducible repeat (first | apply Kd.RA_ | apply Kd.RN_ | apply Kd.RD_)); exact HO_3.out⟩, ⟨by repeat (first | (with_reducible first | exact HB.out | apply bA | apply bN | apply b1_) | exact HB.out)⟩⟩
    ·rw [if_neg c3] at H
     exact absurd H (by simp)
   ·rw [if_neg c2] at H
    have c2b0 : decide (x4_1 < (l0.length : Int)) = false := decide_eq_false c2
    clear c2
    replace H := Option.bind_eq_some_iff.mp H
    obtain ⟨t199, A70, H⟩ := H
    have A7 := Q0.mk A70
    clear A70
    obtain rfl := Option.some.inj H
    obtain ⟨Ao8, co8, eo8⟩ := Kd.zl0 HO_3.out
    subst eo8
    go_wp2_with (first | ((with_reducible refine gC (f := 63) rfl ?_); refine zx (some 30) rfl rfl Tryd.func63 (by kernel_rfl) rfl #[.slice Ao8 x3_1.length co8] rfl (by (try simp only [List.map_toArray, List.map_cons, List.map_nil]); first | done | rfl | (simp only [List.length_drop, List.length_take]; rfl)) ?_; (with_reducible refine (chaffref01_trim.calls k1 (fun k_ => some k_ = (.slice Ao8 x3_1.length co8 : Value).ownBlock) _ _ x3_1 t199 _ ?side1 A7.out).mono ?_); (case side1 => exact Kd.R_V (Kd.z11 rfl (HO_3.out))); rintro e w9 ⟨v200, rfl, ho0, hb⟩; refine ⟨_, rfl, ?_⟩; have q_ := zm (w := w) hb (by repeat (first | (with_reducible first | exact HB.out | apply bA | apply bN | apply b1_) | exact HB.out)); have HO201 := Q0.mk (Kd.za0 (Kd.VM_ (ok' := fun k_ => (w.heap.size ≤ k_)) ho0 (fun k_ hk_ => Or.elim hk_ (fun hs_ => ((HO_3.out).1 k_ hs_.symm)) (fun hn_ => (Nat.le_trans (bZ q_) hn_)))) (bZ q_)); replace HO_3 := Q0.mk (Kd.zy (by (with_reducible repeat (first | apply Kd.RA_ | apply Kd.RN_ | apply Kd.RD_)); exact HO_3.out) hb); replace HB := Q0.mk (bP q_ hb); clear q_; (try clear hb); (try clear hb2); (try clear hk); (try clear hi); (try clear ho0)))
    go_ret
    exact ⟨_, by first | rfl | (simp [eN, eS] <;> rfl) | (simp [*, eN, eS] <;> rfl), by (with_reducible repeat (first | apply Kd.VA_ | apply Kd.VN_ | apply Kd.VD_)); exact HO201.out, by repeat (first | (with_reducible first | exact HB.out | apply bA | apply bN | apply b1_) | exact HB.out)⟩
def chaffref01_Of.f (k : Nat) (a0 : Int) : Option (List Int) := (chaffref01_From.f k (([a0] : List Int))).bind fun t270 => (some t270)
theorem chaffref01_Of.calls (k : Nat) (a0 : Int) (r : List Int) (w : World) (h : chaffref01_Of.f k a0 = some r) :
  Calls Tryd.prog 73 #[.int .u64 a0] w fun e w' => ∃ v0_ : Value, e = .returned (v0_) ∧ Kd.V (Kd.int .i64) 3 w' w.heap.size (fun k_ => (w.heap.size ≤ k_)) v0_ r ∧ Below w.heap.size w w' := by
 have HB := Q0.mk (Below.refl w.heap.size w)
 have H : ((chaffref01_From.f k (([a0] : List Int))).bind fun t270 => (some t270)) = some r := h
 clear h
 obtain ⟨y267, hy267⟩ : ∃ y_ : List Int, y_ = (([a0] : List Int)) := ⟨_, rfl⟩
 rw [← hy267] at H
 have Ny267 := Q0.mk hy267
 clear hy267
 replace H := Option.bind_eq_some_iff.mp H
 obtain ⟨t270, A20, H⟩ := H
 have A2 := Q0.mk A20
 clear A20
 obtain rfl := Option.some.inj H
 go_enter Tryd.func73, Tryd.ntmps73
 go_wp2_with (first | ((with_reducible refine gD (N := 4) rfl ?_); refine Kd.R_lit (Kd.int .u64) _ 40 ?hg (N := 4) ?hd (xs := ([a0] : List Int)) (inner := [.int .u64 a0]) (ok := fun _ => True) (okp := fun _ => True) ?hr ?hp (fun _ hk => hk) trivial (Below.refl _ _) (Nat.le_refl _) (by simp) ?_; (case hd => rfl); (case hg => rfl); (case hr => first | (go_simp; done) | (go_simp; rfl)); (case hp => exact (zg0.one (show Kd.M (Kd.int .u64) _ _ _ a0 [.int .u64 a0] from rfl) (zg0.none _ _))); intro v268 w3 ho4 hb hg_ hnew_; clear hg_ hnew_; (first | rw [← Ny267.out] at ho4 | (simp only [Int.reduceToNat] at ho4; rw [← Ny267.out] at ho4)); have q_ := zm (w := w) hb (by repeat (first | (with_reducible first | exact HB.out | apply bA | apply bN | apply b1_) | exact HB.out)); have HO269 := Q0.mk (Kd.zw0 (Kd.zs1 (M := fun k_ => (w.heap.size ≤ k_)) ho4 (bZ q_) (fun k_ h_ => h_)) (bZ q_)); replace HB := Q0.mk (bP q_ hb); clear q_; clear hb ho4; obtain ⟨Ao5, co5, eo5⟩ := Kd.zl0 HO269.out; subst eo5) | ((with_reducible refine gC (f := 15) rfl ?_); refine zx (some 5) rfl rfl Tryd.func15 (by kernel_rfl) rfl #[.slice Ao5 y267.length co5] rfl (by (try simp only [List.map_toArray, List.map_cons, List.map_nil]); first | done | rfl | (simp only [List.length_drop, List.length_take]; rfl)) ?_; (with_reducible refine (chaffref01_From.calls k _ _ y267 t270 _ ?side1 ?side2 A2.out).mono ?_); (case side1 => repeat (first | exact (Kd.zw HO269.out).2.2 | (with_reducible refine Kd.ze ?_ _) | (with_reducible refine Kd.zf ?_ _) | (with_reducible refine Kd.zi ?_))); (case side2 => exact (Kd.zw HO269.out).2.1); rintro e w6 ⟨v271, rfl, ho0, hb⟩; refine ⟨_, rfl, ?_⟩; have q_ := zm (w := w) hb (by repeat (first | (with_reducible first | exact HB.out | apply bA | apply bN | apply b1_) | exact HB.out)); have HO272 := Q0.mk (Kd.za0 (Kd.VM_ (ok' := fun k_ => (w.heap.size ≤ k_) ∧ some k_ ≠ (.slice Ao5 y267.length co5 : Value).ownBlock) ho0 (fun k_ hk_ => ⟨(Nat.le_trans (bZ q_) hk_), (Kd.fresh' (Kd.R_lt (by (with_reducible repeat (first | apply Kd.RA_ | apply Kd.RN_ | apply Kd.RD_)); exact HO269.out)) k_ hk_)⟩)) (bZ q_)); replace HO269 := Q0.mk (Kd.zy (by (with_reducible repeat (first | apply Kd.RA_ | apply Kd.RN_ | apply Kd.RD_)); exact HO269.out) hb); replace HB := Q0.mk (bP q_ hb); clear q_; (try clear hb); (try clear hb2); (try clear hk); (try clear hi); (try clear ho0)))
 go_ret
 exact ⟨_, by first | rfl | (simp [eN, eS] <;> rfl) | (simp [*, eN, eS] <;> rfl), by (with_reducible repeat (first | apply Kd.VA_ | apply Kd.VN_ | apply Kd.VD_)); exact Kd.VM_ HO272.out (fun _ hk => hk.1), by repeat (first | (with_reducible first | exact HB.out | apply bA | apply bN | apply b1_) | exact HB.out)⟩
def chaffref01_Cmp.l0 : Nat → List Int → List Int → Int → Option (Int)
 | 0, _, _, _ => none
 | k + 1, x0, x1, x5 => if x5 ≥ 0 then (if 0 ≤ x5 then (if x5 < (x0.length : Int) then (if x5 < (x1.length : Int) then (if (rd x0 x5) < (rd x1 x5) then (some (-1)) else (if (rd x0 x5) > (rd x1 x5) then (some 1) else (chaffref01_Cmp.l0 k x0 x1 (wrap64 (x5 - 1))))) else (none)) else (none)) else (none)) else (some 0)
def chaffref01_Cmp.f (k : Nat) (l0 : List Int) (l1 : List Int) : Option (Int) := if (l0.length : Int) = (l1.length : Int) then (chaffref01_Cmp.l0 k l0 l1 (wrap64 ((l0.length : Int) - 1))) else (if (l0.length : Int) < (l1.length : Int) then (some (-1)) else (some 1))
theorem chaffref01_Cmp.calls (k : Nat) (A0 : Option Addr) (c0 : Nat) (l0 : List Int) (A1 : Option Addr) (c1 : Nat) (l1 : List Int) (r : Int) (w : World) (hr0 : Kd.C (Kd.int .i64) w A0 l0.length l0) (hc0 : l0.length ≤ c0) (hr1 : Kd.C (Kd.int .i64) w A1 l1.length l1) (hc1 : l1.length ≤ c1) (h : chaffref01_Cmp.f k l0 l1 = some r) :
  Calls Tryd.prog 37 #[.slice A0 l0.length c0, .slice A1 l1.length c1] w fun e w' => e = .returned (.int .i64 r) ∧ D0 w w' := by
 have HR0 := Q0.mk hr0
 have HC0 := Q0.mk hc0
 clear hr0 hc0
 have HR1 := Q0.mk hr1
 have HC1 := Q0.mk hc1
 clear hr1 hc1
 have H : (if (l0.length : Int) = (l1.length : Int) then (chaffref01_Cmp.l0 k l0 l1 (wrap64 ((l0.length : Int) - 1))) else (if (l0.length : Int) < (l1.length : Int) then (some (-1)) else (some 1))) = some r := h
 clear h
 by_cases c3 : (l0.length : Int) = (l1.length : Int)
 ·rw [if_pos c3] at H
  have c3b0 : ((l0.length : Int) == (l1.length : Int)) = true := beq_iff_eq.mpr c3
  have c3b1 : ((l0.length : Int) != (l1.length : Int)) = false := bne_eq_false_iff_eq.mpr c3
  have c3b2 : (l0.length == l1.length) = true := by first | simpa using c3 | (simp at c3 ⊢; omega)
  clear c3
  have H' := Q0.mk H
  clear H
  go_enter Tryd.func37, Tryd.ntmps37
  go_wp2
  repeat (go_quiet (fail); try go_wp2)
  go_loopg [5] k (fun kq v5 w' => ∃ (x5_1 : Int), v5 = .int .i64 x5_1 ∧ Q0 (chaffref01_Cmp.l0 kq l0 l1 x5_1 = some r) ∧ Q0 (kq ≤ k) ∧ D0 w w')
  case atStart => exact ⟨(wrap64 ((l0.length : Int) - 1)), (by first | rfl | (simp; done) | (simp [*]; done)), H', ⟨Nat.le_refl _⟩, by repeat (first | exact D0.refl _ | apply D0.step)⟩
  case round =>
   clear H'
   obtain ⟨x5_1, rfl, HA, HK1, ⟨m1, rfl⟩⟩ := hrel
   cases gk with
   | zero => exact absurd HA.out (by simp [chaffref01_Cmp.l0])
   | succ k1 =>
    have H := HA.out
    clear HA
    simp only [chaffref01_Cmp.l0] at H
    by_cases c4 : x5_1 ≥ 0
    ·rw [if_pos c4] at H
     have c4b0 : decide (0 ≤ x5_1) = true := decide_eq_true c4
     clear c4
     by_cases c5 : 0 ≤ x5_1
     ·rw [if_pos c5] at H
      have c5b0 : decide (0 ≤ x5_1) = true := decide_eq_true c5
      clear c5
      by_cases c6 : x5_1 < (l0.length : Int)
      ·rw [if_pos c6] at H
       have c6b0 : decide (x5_1 < (l0.length : Int)) = true := decide_eq_true c6
       clear c6
       by_cases c7 : x5_1 < (l1.length : Int)
       ·rw [if_pos c7] at H
        have c7b0 : decide (x5_1 < (l1.length : Int)) = true := decide_eq_true c7
        clear c7
        by_cases c8 : (rd l0 x5_1) < (rd l1 x5_1)
        ·rw [if_pos c8] at H
         have c8b0 : decide ((rd l0 x5_1) < (rd l1 x5_1)) = true := decide_eq_true c8
         clear c8
         obtain rfl := Option.some.inj H
         have p208 : 0 ≤ (x5_1 : Int) := of_decide_eq_true (by first | (with_reducible assumption) | assumption)
         have q208 : x5_1 < (l0.length : Int) := of_decide_eq_true (by first | (with_reducible assumption) | assumption)
         obtain ⟨ad208, e208, hx208_0⟩ := Kd.zk HR0.out x5_1 p208 q208
         cases e208
         replace p208 := eq_true p208
         replace q208 := eq_true q208
         have p209 : 0 ≤ (x5_1 : Int) := of_decide_eq_true (by first | (with_reducible assumption) | assumption)
         have q209 : x5_1 < (l1.length : Int) := of_decide_eq_true (by first | (with_reducible assumption) | assumption)
         obtain ⟨ad209, e209, hx209_0⟩ := Kd.zk HR1.out x5_1 p209 q209
         cases e209
         replace p209 := eq_true p209
         replace q209 := eq_true q209
         go_wp2
         repeat (go_quiet (fail); try go_wp2)
         go_ret
         exact ⟨by first | rfl | (simp; done) | (simp [*]; done), by repeat (first | exact D0.refl _ | apply D0.step)⟩
        ·rw [if_neg c8] at H
         have c8b0 : decide ((rd l0 x5_1) < (rd l1 x5_1)) = false := decide_eq_false c8
         clear c8
         by_cases c9 : (rd l0 x5_1) > (rd l1 x5_1)
         ·rw [if_pos c9] at H
          have c9b0 : decide ((rd l1 x5_1) < (rd l0 x5_1)) = true := decide_eq_true c9
          clear c9
          obtain rfl := Option.some.inj H
          have p208 : 0 ≤ (x5_1 : Int) := of_decide_eq_true (by first | (with_reducible assumption) | assumption)
          have q208 : x5_1 < (l0.length : Int) := of_decide_eq_true (by first | (with_reducible assumption) | assumption)
          obtain ⟨ad208, e208, hx208_0⟩ := Kd.zk HR0.out x5_1 p208 q208
          cases e208
          replace p208 := eq_true p208
          replace q208 := eq_true q208
          have p209 : 0 ≤ (x5_1 : Int) := of_decide_eq_true (by first | (with_reducible assumption) | assumption)
          have q209 : x5_1 < (l1.length : Int) := of_decide_eq_true (by first | (with_reducible assumption) | assumption)
          obtain ⟨ad209, e209, hx209_0⟩ := Kd.zk HR1.out x5_1 p209 q209
          cases e209
          replace p209 := eq_true p209
          replace q209 := eq_true q209
          have p210 : 0 ≤ (x5_1 : Int) := of_decide_eq_true (by first | (with_reducible assumption) | assumption)
          have q210 : x5_1 < (l0.length : Int) := of_decide_eq_true (by first | (with_reducible assumption) | assumption)
          obtain ⟨ad210, e210, hx210_0⟩ := Kd.zk HR0.out x5_1 p210 q210
          obtain rfl : ad208 = ad210 := (by injection e210)
          replace p210 := eq_true p210
          replace q210 := eq_true q210
          have p211 : 0 ≤ (x5_1 : Int) := of_decide_eq_true (by first | (with_reducible assumption) | assumption)
          have q211 : x5_1 < (l1.length : Int) := of_decide_eq_true (by first | (with_reducible assumption) | assumption)
          obtain ⟨ad211, e211, hx211_0⟩ := Kd.zk HR1.out x5_1 p211 q211
          obtain rfl : ad209 = ad211 := (by injection e211)
          replace p211 := eq_true p211
          replace q211 := eq_true q211
          go_wp2
          repeat (go_quiet (fail); try go_wp2)
          go_ret
          exact ⟨by first | rfl | (simp; done) | (simp [*]; done), by repeat (first | exact D0.refl _ | apply D0.step)⟩
         ·rw [if_neg c9] at H
          have c9b0 : decide ((rd l1 x5_1) < (rd l0 x5_1)) = false := decide_eq_false c9
          clear c9
          have H' := Q0.mk H
          clear H
          have p208 : 0 ≤ (x5_1 : Int) := of_decide_eq_true (by first | (with_reducible assumption) | assumption)
          have q208 : x5_1 < (l0.length : Int) := of_decide_eq_true (by first | (with_reducible assumption) | assumption)
          obtain ⟨ad208, e208, hx208_0⟩ := Kd.zk HR0.out x5_1 p208 q208
          cases e208
          replace p208 := eq_true p208
          replace q208 := eq_true q208
          have p209 : 0 ≤ (x5_1 : Int) := of_decide_eq_true (by first | (with_reducible assumption) | assumption)
          have q209 : x5_1 < (l1.length : Int) := of_decide_eq_true (by first | (with_reducible assumption) | assumption)
          obtain ⟨ad209, e209, hx209_0⟩ := Kd.zk HR1.out x5_1 p209 q209
          cases e209
          replace p209 := eq_true p209
          replace q209 := eq_true q209
          have p210 : 0 ≤ (x5_1 : Int) := of_decide_eq_true (by first | (with_reducible assumption) | assumption)
          have q210 : x5_1 < (l0.length : Int) := of_decide_eq_true (by first | (with_reducible assumption) | assumption)
          obtain ⟨ad210, e210, hx210_0⟩ := Kd.zk HR0.out x5_1 p210 q210
          obtain rfl : ad208 = ad210 := (by injection e210)
          replace p210 := eq_true p210
          replace q210 := eq_true q210
          have p211 : 0 ≤ (x5_1 : Int) := of_decide_eq_true (by first | (with_reducible assumption) | assumption)
          have q211 : x5_1 < (l1.length : Int) := of_decide_eq_true (by first | (with_reducible assumption) | assumption)
          obtain ⟨ad211, e211, hx211_0⟩ := Kd.zk HR1.out x5_1 p211 q211
          obtain rfl : ad209 = ad211 := (by injection e211)
          replace p211 := eq_true p211
          replace q211 := eq_true q211
          go_wp2
          repeat (go_quiet (fail); try go_wp2)
          go_roundg k1
          case measure => have := HK1.out; omega
          case rel => exact ⟨(wrap64 (x5_1 - 1)), (by first | rfl | (simp; done) | (simp [*]; done)), H', ⟨by have := HK1.out; omega⟩, by repeat (first | exact D0.refl _ | apply D0.step)⟩
       ·rw [if_neg c7] at H
        exact absurd H (by simp)
      ·rw [if_neg c6] at H
       exact absurd H (by simp)
     ·rw [if_neg c5] at H
      exact absurd H (by simp)
    ·rw [if_neg c4] at H
     have c4b0 : decide (0 ≤ x5_1) = false := decide_eq_false c4
     clear c4
     obtain rfl := Option.some.inj H
     go_wp2
     repeat (go_quiet (fail); try go_wp2)
     go_ret
     exact ⟨by first | rfl | (simp; done) | (simp [*]; done), by repeat (first | exact D0.refl _ | apply D0.step)⟩
 ·rw [if_neg c3] at H
  have c3b0 : ((l0.length : Int) == (l1.length : Int)) = false := beq_eq_false_iff_ne.mpr c3
  have c3b1 : ((l0.length : Int) != (l1.length : Int)) = true := bne_iff_ne.mpr c3
  have c3b2 : (l0.length == l1.length) = false := by first | simpa using c3 | (simp at c3 ⊢; omega)
  by_cases c10 : (l0.length : Int) < (l1.length : Int)
  ·rw [if_pos c10] at H
   have c10b0 : decide ((l0.length : Int) < (l1.length : Int)) = true := decide_eq_true c10
   have c10b1 : decide (l0.length < l1.length) = true := decide_eq_true (Int.ofNat_lt.mp c10)
   clear c10
   obtain rfl := Option.some.inj H
   go_enter Tryd.func37, Tryd.ntmps37
   go_wp2
   repeat (go_quiet (fail); try go_wp2)
   go_ret
   exact ⟨by first | rfl | (simp; done) | (simp [*]; done), by repeat (first | exact D0.refl _ | apply D0.step)⟩
  ·rw [if_neg c10] at H
   have c10b0 : decide ((l0.length : Int) < (l1.length : Int)) = false := decide_eq_false c10
   have c10b1 : decide (l0.length < l1.length) = false := decide_eq_false (fun h => c10 (Int.ofNat_lt.mpr h))
   clear c10
   obtain rfl := Option.some.inj H
   go_enter Tryd.func37, Tryd.ntmps37
   go_wp2
   repeat (go_quiet (fail); try go_wp2)
   go_ret
   exact ⟨by first | rfl | (simp; done) | (simp [*]; done), by repeat (first | exact D0.refl _ | apply D0.step)⟩
end Go.Proofs.YtgkdealidnidiaaDoor.Na
namespace Go.Proofs.YtgkdealidnidiaaDoor.Na
open Go.RowKit Go.Proofs.YtgkdealidnidiaaDoorW.PrintWords Go.Proofs.YtgkdealidnidiaaDoorW.PrintLast Go.Proofs.YtgkdealidnidiaaDoorW.PrintMore Go.Proofs.YtgkdealidnidiaaDoor.Dg
theorem z92 {x y : Int} (h : 0 ≤ x) : Int.tmod x y = x % y := Int.tmod_eq_emod_of_nonneg h
theorem zz2 {x y : Int} (h : 0 ≤ x) : Int.tdiv x y = x / y := Int.tdiv_eq_ediv_of_nonneg h
theorem BW_BD (i : Nat) : (BW : Int) ^ i = (BD : Int) ^ (4 * i) := by rw [Int.pow_mul]; rfl
theorem rfrom_l1 (k : Nat) (x0 x3 : List Int) (x4 : Int) (r : Int) (j : Nat) (hj : j < 4) (hl : x3.length < 17592186044416) (h0 : 0 ≤ r) (h1 : r < 18446744073709551616) :
  chaffref01_From.l1 (k + 1) x0 x3 x4 r j = chaffref01_From.l1 k x0 (x3 ++ [r % 65536]) x4 (r / 65536) ((j + 1 : Nat) : Int) := by
 have e : wrap64 ((j : Int) + 1) = ((j + 1 : Nat) : Int) := by rw [w64 (by omega) (by omega)]; rfl
 rw [chaffref01_From.l1, if_pos (by omega), if_pos hl, z92 h0, zz2 h0, w64 (by omega) (by omega), u64w (by omega) (by omega), e]
theorem rfrom_l1_end (k : Nat) (x0 x3 : List Int) (x4 r : Int) : chaffref01_From.l1 (k + 1) x0 x3 x4 r 4 = chaffref01_From.l0 k x0 x3 (wrap64 (x4 + 1)) := by
 rw [chaffref01_From.l1, if_neg (by omega)]
def dig4 (r : Int) : List Int := [r % 65536, r / 65536 % 65536, r / 65536 / 65536 % 65536, r / 65536 / 65536 / 65536 % 65536]
theorem dig4_V {r : Int} (h0 : 0 ≤ r) (h1 : r < 18446744073709551616) : V BD (dig4 r) = r := by
 have e : (BD : Int) = 65536 := rfl
 simp only [dig4, V, e]; omega
theorem dig4_R {r : Int} : R BD (dig4 r) := by
 have e : (BD : Int) = 65536 := rfl
 intro x hx
 rw [e]
 simp only [dig4, List.mem_cons, List.not_mem_nil, or_false] at hx
 rcases hx with rfl | rfl | rfl | rfl <;> omega
theorem rfrom_loop (l : List Int) (n : Nat) (hR : R BW l) (hV : V BW l = n) (hl : l.length ≤ 1000000000) : ∀ (d i : Nat) (o : List Int), i + d = l.length → o.length = 4 * i → R BD o → V BD o = V BW (l.take i) →
  Ev (fun k => chaffref01_From.l0 k l o i) (wd BD n)
 | 0, i, o, hi, ho, hRo, hVo => by
  obtain rfl : i = l.length := by omega
  refine Ev.step (f := fun k => (chaffref01_trim.f k o).bind fun t => some t) (fun k => by rw [chaffref01_From.l0, if_neg (by omega)]) ?_
  refine Ev.bind (za3 o (by omega)) ?_
  rw [zf1 (n := n) (by decide) hRo (by rw [hVo, zb0 _ _ (Nat.le_refl _), hV])]
  exact Ev.now _
 | d + 1, i, o, hi, ho, hRo, hVo => by
  have ra := zu0 hR (by decide) i
  rw [BWi] at ra
  have ih := rfrom_loop l n hR hV hl d (i + 1) (o ++ dig4 (l.getD i 0)) (by omega) (by simp [dig4, ho]; omega) (zz.2 ⟨hRo, dig4_R⟩) (by rw [zl2, ho, dig4_V ra.1 ra.2, zd0 _ _ _ (by omega), hVo, BW_BD])
  have ei : wrap64 ((i : Int) + 1) = ((i + 1 : Nat) : Int) := by rw [w64 (by omega) (by omega)]; rfl
  have hrd := ze0 l i
  generalize l.getD i 0 = r at ra ih hrd
  refine Ev.step (f := fun k => chaffref01_From.l1 k l o i r ((0 : Nat) : Int)) (fun k => by rw [chaffref01_From.l0, if_pos (by omega), if_pos (by omega), hrd]; rfl) ?_
  refine Ev.step (fun k => rfrom_l1 k l o i r 0 (by omega) (by omega) ra.1 ra.2) ?_
  refine Ev.step (fun k => rfrom_l1 k l _ i _ 1 (by omega) (by simp; omega) (by omega) (by omega)) ?_
  refine Ev.step (fun k => rfrom_l1 k l _ i _ 2 (by omega) (by simp; omega) (by omega) (by omega)) ?_
  refine Ev.step (fun k => rfrom_l1 k l _ i _ 3 (by omega) (by simp; omega) (by omega) (by omega)) ?_
  refine Ev.step (fun k => rfrom_l1_end k l _ i _) ?_
  rw [ei]
  simp only [List.append_assoc]
  exact ih
theorem rfrom_ev (l : List Int) (n : Nat) (hR : R BW l) (hV : V BW l = n) (hl : l.length ≤ 1000000000) : Ev (fun k => chaffref01_From.f k l) (wd BD n) :=
 rfrom_loop l n hR hV hl l.length 0 [] (by omega) rfl (zj1 _) (by simp [V])
theorem rof_ev (x : Nat) (h : x < BW) : Ev (fun k => chaffref01_Of.f k x) (wd BD x) := by
 unfold chaffref01_Of.f
 exact Ev.bind (rfrom_ev [(x : Int)] x (zy2 (by omega) (by omega)) (by simp [V]) (by simp)) (Ev.now _)
theorem rcmp_loop (l m : List Int) (hl : R BD l) (hm : R BD m) (he : l.length = m.length) (hs : l.length ≤ 1000000000) : ∀ i, i ≤ l.length → V BD (l.drop i) = V BD (m.drop i) →
  Ev (fun k => chaffref01_Cmp.l0 k l m ((i : Int) - 1)) (cmpI (V BD l) (V BD m))
 | 0, _, h => by
  refine Ev.step (f := fun _ => some (cmpI (V BD l) (V BD m))) (fun k => ?_) (Ev.now _)
  rw [chaffref01_Cmp.l0, if_neg (by omega)]
  simp only [List.drop_zero] at h
  unfold cmpI; rw [h]; simp
 | i + 1, hi, h => by
  have e1 : ((i + 1 : Nat) : Int) - 1 = (i : Int) := by omega
  by_cases hlt : l.getD i 0 < m.getD i 0
  ·refine Ev.step (f := fun _ => some (cmpI (V BD l) (V BD m))) (fun k => ?_) (Ev.now _)
   rw [e1, chaffref01_Cmp.l0, if_pos (by omega), if_pos (by omega), if_pos (by omega), if_pos (by omega), ze0, ze0, if_pos hlt]
   unfold cmpI
   rw [if_pos (cmp_step (by decide) hl hm i (by omega) (by omega) h hlt)]
  ·by_cases hgt : l.getD i 0 > m.getD i 0
   ·refine Ev.step (f := fun _ => some (cmpI (V BD l) (V BD m))) (fun k => ?_) (Ev.now _)
    rw [e1, chaffref01_Cmp.l0, if_pos (by omega), if_pos (by omega), if_pos (by omega), if_pos (by omega), ze0, ze0, if_neg hlt, if_pos hgt]
    have := cmp_step (by decide) hm hl i (by omega) (by omega) h.symm hgt
    unfold cmpI
    rw [if_neg (by omega), if_pos this]
   ·have heq : l.getD i 0 = m.getD i 0 := by omega
    refine Ev.step (f := fun k => chaffref01_Cmp.l0 k l m ((i : Int) - 1)) (fun k => ?_) (rcmp_loop l m hl hm he hs i (by omega) (by rw [zh3 _ l i (by omega), zh3 _ m i (by omega), h, heq]))
    rw [e1, chaffref01_Cmp.l0, if_pos (by omega), if_pos (by omega), if_pos (by omega), if_pos (by omega), ze0, ze0, if_neg hlt, if_neg hgt, w64 (by omega) (by omega)]
theorem rcmp_ev2 (x y : Nat) (hx : (wd BD x).length ≤ 1000001) : Ev (fun k => chaffref01_Cmp.f k (wd BD x) (wd BD y)) (zv1 x y) := by
 unfold chaffref01_Cmp.f
 by_cases he : (wd BD x).length = (wd BD y).length
 ·refine Ev.congr (f := fun k => chaffref01_Cmp.l0 k (wd BD x) (wd BD y) (((wd BD x).length : Int) - 1)) (fun k => by rw [if_pos (by omega), w64 (by omega) (by omega)]) ?_
  have := rcmp_loop (wd BD x) (wd BD y) (zd2 (by decide) x) (zd2 (by decide) y) he (by omega) _ (Nat.le_refl _) (by rw [List.drop_length, he, List.drop_length])
  rwa [zn2 (by decide), zn2 (by decide), cmpN_I] at this
 ·refine Ev.congr (f := fun _ => some (zv1 x y)) (fun k => ?_) (Ev.now _)
  rw [if_neg (by omega)]
  by_cases h : (wd BD x).length < (wd BD y).length
  ·have := zw3 (by decide) h
   rw [if_pos (by omega)]; unfold zv1; rw [if_pos this]
  ·have := zw3 (b := BD) (x := y) (y := x) (by decide) (by omega)
   rw [if_neg (by omega)]; unfold zv1; rw [if_neg (by omega), if_pos this]
theorem radd_loop (a b : List Int) (n m : Nat) (hRa : R BD a) (hRb : R BD b) (ha : a.length ≤ n) (hb : b.length ≤ n) (hn : n ≤ 1000000) (hm : V BD a + V BD b = m) :
  ∀ (d i : Nat) (o : List Int) (c : Int), i + d = n + 1 → o.length = i → R BD o → 0 ≤ c → c ≤ 1 → (n < i → c = 0) → V BD o + (BD : Int) ^ i * c = V BD (a.take i) + V BD (b.take i) →
   Ev (fun k => chaffref01_Add.l0 k a b o c i) (wd BD m)
 | 0, i, o, c, hi, ho, hRo, hc0, hc1, hz, hV => by
  obtain rfl := hz (by omega)
  refine Ev.step (f := fun k => chaffref01_Add.j1 k a b o 0 i (decide ((0 : Int) > 0))) (fun k => by rw [chaffref01_Add.l0, if_neg (by omega), if_neg (by omega)]) ?_
  refine Ev.step (f := fun k => (chaffref01_trim.f k o).bind fun t => some t) (fun k => by rw [chaffref01_Add.j1, if_neg (by decide)]) ?_
  refine Ev.bind (za3 o (by omega)) ?_
  rw [zb0 _ _ (by omega), zb0 _ _ (by omega), hm] at hV
  rw [zf1 (n := m) (by decide) hRo (by rw [← hV]; simp)]
  exact Ev.now _
 | d + 1, i, o, c, hi, ho, hRo, hc0, hc1, hz, hV => by
  by_cases hend : a.length ≤ i ∧ b.length ≤ i ∧ c = 0
  ·obtain ⟨h1, h2, rfl⟩ := hend
   refine Ev.step (f := fun k => chaffref01_Add.j1 k a b o 0 i (decide ((0 : Int) > 0))) (fun k => by rw [chaffref01_Add.l0, if_neg (by omega), if_neg (by omega)]) ?_
   refine Ev.step (f := fun k => (chaffref01_trim.f k o).bind fun t => some t) (fun k => by rw [chaffref01_Add.j1, if_neg (by decide)]) ?_
   refine Ev.bind (za3 o (by omega)) ?_
   rw [zb0 _ _ h1, zb0 _ _ h2, hm] at hV
   rw [zf1 (n := m) (by decide) hRo (by rw [← hV]; simp)]
   exact Ev.now _
  ·have ra := zu0 hRa (by decide) i
   have rb := zu0 hRb (by decide) i
   rw [BDi] at ra rb
   have g : ∀ k, chaffref01_Add.l0 (k + 1) a b o c i = chaffref01_Add.j1 k a b o c i true := by
    intro k
    rw [chaffref01_Add.l0]
    by_cases h1 : (i : Int) < (a.length : Int)
    ·rw [if_pos h1]
    ·rw [if_neg h1]
     by_cases h2 : (i : Int) < (b.length : Int)
     ·rw [if_pos h2]
     ·rw [if_neg h2, decide_eq_true (by omega : c > 0)]
   refine Ev.step g ?_
   have hl : o.length < 17592186044416 := by omega
   have n0 : 0 ≤ a.getD i 0 + b.getD i 0 + c := by omega
   have hlast : n < i + 1 → (a.getD i 0 + b.getD i 0 + c) / 65536 = 0 := by
    intro hh
    rw [List.getD_eq_getElem?_getD, List.getElem?_eq_none (by omega), List.getD_eq_getElem?_getD, List.getElem?_eq_none (by omega)]
    simp; omega
   have ih := radd_loop a b n m hRa hRb ha hb hn hm d (i + 1) (o ++ [(a.getD i 0 + b.getD i 0 + c) % 65536]) ((a.getD i 0 + b.getD i 0 + c) / 65536) (by omega) (by simp [ho]) (zz.2 ⟨hRo, zy2 (by omega) (by rw [BDi]; omega)⟩) (by omega) (by omega) hlast (by
    rw [zh2, zm1, zm1, ho, Int.pow_succ]
    exact carry_step hV rfl)
   have ei : wrap64 ((i : Int) + 1) = ((i + 1 : Nat) : Int) := by rw [w64 (by omega) (by omega)]; rfl
   have e1 : wrap64 (wrap64 (a.getD i 0 + b.getD i 0) + c) = a.getD i 0 + b.getD i 0 + c := by clear ei; rw [w64 (x := a.getD i 0 + b.getD i 0) (by omega) (by omega), w64 (by omega) (by omega)]
   have e2 : wrap64 (Int.tdiv (a.getD i 0 + b.getD i 0 + c) 65536) = (a.getD i 0 + b.getD i 0 + c) / 65536 := by clear ei e1; rw [zz2 (by omega), w64 (by omega) (by omega)]
   refine Ev.step (fun k => ?_) ih
   rw [chaffref01_Add.j1, if_pos rfl, at_some, Option.bind_some, at_some, Option.bind_some, if_pos hl, e1, e2, z92 n0, ei]
theorem radd_ev (x y : Nat) (hx : (wd BD x).length ≤ 1000000) (hy : (wd BD y).length ≤ 1000000) : Ev (fun k => chaffref01_Add.f k (wd BD x) (wd BD y)) (wd BD (x + y)) :=
 radd_loop _ _ (max (wd BD x).length (wd BD y).length) (x + y) (zd2 (by decide) x) (zd2 (by decide) y) (by omega) (by omega) (by omega) (by rw [zn2 (by decide), zn2 (by decide)]; rfl) (max (wd BD x).length (wd BD y).length + 1) 0 [] 0 (by omega) rfl (zj1 _) (by decide) (by decide) (fun _ => rfl) (by simp [V])
theorem rsub_loop (a b : List Int) (m : Nat) (hRa : R BD a) (hRb : R BD b) (hl : b.length ≤ a.length) (hn : a.length ≤ 1000001) (hm : V BD a - V BD b = m) :
  ∀ (d i : Nat) (o : List Int) (c : Int), i + d = a.length → o.length = i → R BD o → 0 ≤ c → c ≤ 1 → V BD o = V BD (a.take i) - V BD (b.take i) + (BD : Int) ^ i * c →
   Ev (fun k => chaffref01_Sub.l0 k a b o c i) (wd BD m)
 | 0, i, o, c, hi, ho, hRo, hc0, hc1, hV => by
  obtain rfl : i = a.length := by omega
  have hb := V_lt (b := (BD : Int)) (by decide) hRo
  rw [ho] at hb
  rw [zb0 _ _ (Nat.le_refl _), zb0 _ _ hl, hm] at hV
  have hp := zo3 (b := (BD : Int)) (by decide) a.length
  have hc : c = 0 := by
   rcases Int.lt_or_eq_of_le hc0 with h | h
   ·have : c = 1 := by omega
    subst this; omega
   ·exact h.symm
  subst hc
  refine Ev.step (f := fun k => (chaffref01_trim.f k o).bind fun t => some t) (fun k => ?_) ?_
  ·rw [chaffref01_Sub.l0, if_neg (by omega)]
  ·refine Ev.bind (za3 o (by omega)) ?_
   rw [zf1 (n := m) (by decide) hRo (by rw [hV]; simp)]
   exact Ev.now _
 | d + 1, i, o, c, hi, ho, hRo, hc0, hc1, hV => by
  have ra := zu0 hRa (by decide) i
  have rb := zu0 hRb (by decide) i
  have hst := borrow_step (b := (BD : Int)) hV ra.1 ra.2 rb.1 rb.2 hc0 hc1
  rw [BDi] at ra rb hst
  have g1 : (i : Int) < (a.length : Int) := by omega
  have g2 : (0 : Int) ≤ (i : Int) := by omega
  have hl2 : o.length < 17592186044416 := by omega
  have E := And.intro (show wrap64 ((i : Int) + 1) = ((i + 1 : Nat) : Int) by rw [w64 (by omega) (by omega)]; rfl) (show wrap64 (wrap64 (a.getD i 0 - b.getD i 0) - c) = a.getD i 0 - b.getD i 0 - c by rw [w64 (x := a.getD i 0 - b.getD i 0) (by omega) (by omega), w64 (by omega) (by omega)])
  have E := Q0.mk E
  by_cases hlt : a.getD i 0 < b.getD i 0 + c
  ·rw [if_pos hlt, show (a.getD i 0 + 65536 - b.getD i 0 - c) % 65536 = a.getD i 0 - b.getD i 0 - c + 65536 by omega] at hst
   have ih := rsub_loop a b m hRa hRb hl hn hm d (i + 1) (o ++ [a.getD i 0 - b.getD i 0 - c + 65536]) 1 (by omega) (by simp [ho]) (zz.2 ⟨hRo, zy2 (by omega) (by rw [BDi]; omega)⟩) (by decide) (by decide) (by
    rw [zh2, zm1, zm1, ho, Int.pow_succ]; exact hst)
   refine Ev.step (fun k => ?_) ih
   rw [chaffref01_Sub.l0, if_pos g1, if_pos g2, at_some, Option.bind_some, ze0, E.out.2, if_pos (by omega), if_pos hl2, w64 (by omega) (by omega), E.out.1]
  ·rw [if_neg hlt, show (a.getD i 0 + 65536 - b.getD i 0 - c) % 65536 = a.getD i 0 - b.getD i 0 - c by omega] at hst
   have ih := rsub_loop a b m hRa hRb hl hn hm d (i + 1) (o ++ [a.getD i 0 - b.getD i 0 - c]) 0 (by omega) (by simp [ho]) (zz.2 ⟨hRo, zy2 (by omega) (by rw [BDi]; omega)⟩) (by decide) (by decide) (by
    rw [zh2, zm1, zm1, ho, Int.pow_succ]; exact hst)
   refine Ev.step (fun k => ?_) ih
   rw [chaffref01_Sub.l0, if_pos g1, if_pos g2, at_some, Option.bind_some, ze0, E.out.2, if_neg (by omega), if_pos hl2, E.out.1]
theorem rsub_ev2 (x y : Nat) (h : y ≤ x) (hx : (wd BD x).length ≤ 1000001) : Ev (fun k => chaffref01_Sub.f k (wd BD x) (wd BD y)) (wd BD (x - y)) :=
 rsub_loop _ _ (x - y) (zd2 (by decide) x) (zd2 (by decide) y) (zy0 (by decide) h) (by omega) (by rw [zn2 (by decide), zn2 (by decide)]; omega) (wd BD x).length 0 [] 0 (by omega) rfl (zj1 _) (by decide) (by decide) (by simp [V])
theorem rmul_l1 (k : Nat) (o a bb : List Int) (i j : Nat) (c y c' : Int) (hi : i < a.length) (hj : j < bb.length) (hl : o.length = a.length + bb.length) (hn : a.length + bb.length ≤ 1000000000)
  (e1 : wrap64 (wrap64 (o.getD (i + j) 0 + wrap64 (a.getD i 0 * bb.getD j 0)) + c) = y + 65536 * c') (ey : Int.tmod (y + 65536 * c') 65536 = y) (ec : wrap64 (Int.tdiv (y + 65536 * c') 65536) = c') :
  chaffref01_Mul.l1 (k + 1) a bb o i c j = chaffref01_Mul.l1 k a bb (o.set (i + j) y) i c' ((j + 1 : Nat) : Int) := by
 have e : wrap64 ((i : Int) + (j : Int)) = ((i + j : Nat) : Int) := by clear e1 ey ec; rw [w64 (by omega) (by omega)]; rfl
 have ej : wrap64 ((j : Int) + 1) = ((j + 1 : Nat) : Int) := by clear e1 ey ec; rw [w64 (by omega) (by omega)]; rfl
 have g1 : (j : Int) < (bb.length : Int) := by clear e1 ey ec; omega
 have g2 : (0 : Int) ≤ (i : Int) := by clear e1 ey ec; omega
 have g3 : (i : Int) < (a.length : Int) := by clear e1 ey ec; omega
 have g4 : (0 : Int) ≤ (j : Int) := by clear e1 ey ec; omega
 have g5 : (0 : Int) ≤ ((i + j : Nat) : Int) := by clear e1 ey ec; omega
 have g6 : ((i + j : Nat) : Int) < (o.length : Int) := by clear e1 ey ec; omega
 rw [chaffref01_Mul.l1, if_pos g1, e, if_pos g5, if_pos g6, if_pos g2, if_pos g3, if_pos g4, ze0, ze0, ze0, e1, ey, ec, Int.toNat_natCast, ej]
theorem rmul_l1_end (k : Nat) (o a bb : List Int) (i : Nat) (c : Int) (hi : i < a.length) (hl : o.length = a.length + bb.length) (hn : a.length + bb.length ≤ 1000000000) :
  chaffref01_Mul.l1 (k + 1) a bb o i c bb.length = chaffref01_Mul.l0 k a bb (o.set (i + bb.length) c) ((i + 1 : Nat) : Int) := by
 have e : wrap64 ((i : Int) + (bb.length : Int)) = ((i + bb.length : Nat) : Int) := by rw [w64 (by omega) (by omega)]; rfl
 have ei : wrap64 ((i : Int) + 1) = ((i + 1 : Nat) : Int) := by rw [w64 (by omega) (by omega)]; rfl
 rw [chaffref01_Mul.l1, if_neg (by omega), e, if_pos (by omega), if_pos (by omega), Int.toNat_natCast, ei]
theorem rmul_row (a bb : List Int) (hRa : R BD a) (hRb : R BD bb) (hn : a.length + bb.length ≤ 1000000000) (i : Nat) (hi : i < a.length) (v0 : Int) :
  ∀ (d j : Nat) (o : List Int) (c : Int), j + d = bb.length → Row BD a bb i j v0 o c →
   ∃ o' c', Row BD a bb i bb.length v0 o' c' ∧ ∀ r, Ev (fun k => chaffref01_Mul.l0 k a bb (o'.set (i + bb.length) c') ((i + 1 : Nat) : Int)) r → Ev (fun k => chaffref01_Mul.l1 k a bb o i c j) r
 | 0, j, o, c, hj, h => by
  obtain rfl : j = bb.length := by omega
  exact ⟨o, c, h, fun r hr => Ev.step (fun k => rmul_l1_end k o a bb i c hi h.len hn) hr⟩
 | d + 1, j, o, c, hj, h => by
  have hl := h.len
  have ra := zu0 hRa (by decide) i
  have rb := zu0 hRb (by decide) j
  have ro := zu0 h.r (by decide) (i + j)
  have hc0 := h.c0
  have hc1 := h.c1
  have hBD := BDi
  have hsum := dig_sum (b := BD) (o := o.getD (i + j) 0) (c := c) ra.1 ra.2 rb.1 rb.2 ro.2 hc1
  have hp0 := Int.mul_nonneg ra.1 rb.1
  rw [hBD] at ra rb ro hc1 hsum
  have hstep := fun (y c' : Int) hs hy0 hy1 hd0 hd1 => h.step (y := y) (c' := c') hi (show j < bb.length by omega) hs hy0 hy1 hd0 hd1
  rw [hBD] at hstep
  have hl1 := fun k y c' => rmul_l1 k o a bb i j c y c' hi (by omega) hl hn
  generalize a.getD i 0 * bb.getD j 0 = P at hp0 hsum hstep hl1
  generalize o.getD (i + j) 0 = x at ro hsum hstep hl1
  obtain ⟨y, hy⟩ : ∃ y, (P + x + c) % 65536 = y := ⟨_, rfl⟩
  obtain ⟨c', hc'⟩ : ∃ c', (P + x + c) / 65536 = c' := ⟨_, rfl⟩
  have hs : y + 65536 * c' = P + x + c := by omega
  have hr : 0 ≤ y ∧ y < 65536 ∧ 0 ≤ c' ∧ c' < 65536 := by omega
  have e1 : wrap64 (wrap64 (x + wrap64 P) + c) = y + 65536 * c' := by
   clear hstep hl1; rw [hs, w64 (x := P) (by omega) (by omega), w64 (x := x + P) (by omega) (by omega), w64 (by omega) (by omega)]; omega
  have ey : Int.tmod (y + 65536 * c') 65536 = y := by clear hstep hl1 e1; rw [z92 (by omega)]; omega
  have ec : wrap64 (Int.tdiv (y + 65536 * c') 65536) = c' := by clear hstep hl1 e1; rw [zz2 (by omega), w64 (by omega) (by omega)]; omega
  obtain ⟨o', c3, hrow, hev⟩ := rmul_row a bb hRa hRb hn i hi v0 d (j + 1) _ _ (by omega) (hstep y c' hs hr.1 hr.2.1 hr.2.2.1 hr.2.2.2)
  exact ⟨o', c3, hrow, fun r hr2 => Ev.step (fun k => hl1 k y c' e1 ey ec) (hev r hr2)⟩
theorem rmul_loop (a bb : List Int) (m : Nat) (hRa : R BD a) (hRb : R BD bb) (hn : a.length + bb.length ≤ 1000000000) (hm : V BD a * V BD bb = m) : ∀ (d i : Nat) (o : List Int), i + d = a.length → R BD o → o.length = a.length + bb.length →
  (∀ p, i + bb.length ≤ p → o.getD p 0 = 0) → V BD o = V BD (a.take i) * V BD bb → Ev (fun k => chaffref01_Mul.l0 k a bb o i) (wd BD m)
 | 0, i, o, hi, hr, hl, hz, hv => by
  obtain rfl : i = a.length := by omega
  refine Ev.step (f := fun k => (chaffref01_trim.f k o).bind fun t => some t) (fun k => by rw [chaffref01_Mul.l0, if_neg (by omega)]) ?_
  refine Ev.bind (za3 o (by omega)) ?_
  rw [zf1 (n := m) (by decide) hr (by rw [hv, zb0 _ _ (Nat.le_refl _), hm])]
  exact Ev.now _
 | d + 1, i, o, hi, hr, hl, hz, hv => by
  obtain ⟨o', c', hrow, hev⟩ := rmul_row a bb hRa hRb hn i (by omega) _ bb.length 0 o 0 (by omega) (Row.start (by decide) hr hl hz hv)
  obtain ⟨h1, h2, h3, h4⟩ := hrow.close (by omega)
  refine Ev.step (fun k => ?_) (hev _ (rmul_loop a bb m hRa hRb hn hm d (i + 1) _ (by omega) h1 h2 h3 h4))
  rw [chaffref01_Mul.l0, if_pos (by omega)]; rfl
theorem getD_zeros (n p : Nat) : (List.replicate n (0 : Int)).getD p 0 = 0 := by
 rw [List.getD_eq_getElem?_getD]
 rcases Nat.lt_or_ge p n with hp | hp
 ·rw [List.getElem?_replicate, if_pos hp]; rfl
 ·rw [List.getElem?_eq_none (by simp; omega)]; rfl
theorem rmul_ev (x y : Nat) (hx : (wd BD x).length ≤ 1000000) (hy : (wd BD y).length ≤ 1000000) : Ev (fun k => chaffref01_Mul.f k (wd BD x) (wd BD y)) (wd BD (x * y)) := by
 have e : wrap64 (((wd BD x).length : Int) + ((wd BD y).length : Int)) = (((wd BD x).length + (wd BD y).length : Nat) : Int) := by rw [w64 (by omega) (by omega)]; rfl
 unfold chaffref01_Mul.f
 refine Ev.congr (f := fun k => chaffref01_Mul.l0 k (wd BD x) (wd BD y) (List.replicate ((wd BD x).length + (wd BD y).length) 0) ((0 : Nat) : Int)) (fun k => ?_) ?_
 ·rw [e, Int.toNat_natCast, if_pos (by omega), if_pos (by omega)]; rfl
 ·clear e
  exact rmul_loop _ _ (x * y) (zd2 (by decide) x) (zd2 (by decide) y) (by omega) (by rw [zn2 (by decide), zn2 (by decide)]; simp) (wd BD x).length 0 _ (by omega) (zd4 (by decide) _) (by simp) (fun p _ => getD_zeros _ p) (by rw [V_zeros]; simp [V])
end Go.Proofs.YtgkdealidnidiaaDoor.Na
namespace Go.Proofs.YtgkdealidnidiaaDoor.Na
open Go.RowKit Go.Proofs.YtgkdealidnidiaaDoorW.PrintWords Go.Proofs.YtgkdealidnidiaaDoorW.PrintLast Go.Proofs.YtgkdealidnidiaaDoorW.PrintMore
attribute [local go_sem] zx0 zd1
def twL : List Int → Int → List Int
 | [], c => if c > 0 then [c] else []
 | x :: l, c => (2 * x + c) % 65536 :: twL l ((2 * x + c) / 65536)
def chaffref01_twice.f (l0 : List Int) (a1 : Int) : Option (List Int) := if (l0.all fun x => decide (0 ≤ x ∧ x < 65536)) = true ∧ (0 ≤ a1 ∧ a1 ≤ 1) ∧ l0.length ≤ 1000000000 then some (twL l0 a1) else none
theorem tw_drop {l : List Int} {j : Nat} (h : j < l.length) (c : Int) : twL (l.drop j) c = (2 * l.getD j 0 + c) % 65536 :: twL (l.drop (j + 1)) ((2 * l.getD j 0 + c) / 65536) := by
 rw [List.drop_eq_getElem_cons h, twL]
 simp [List.getD, List.getElem?_eq_getElem h]
structure TwS (w : World) (v : Value) (l : List Int) (a1 : Int) (o : List Int) (j : Nat) (c : Int) (W : World) : Prop where
 row : Kd.R (Kd.int .i64) 3 W w.heap.size (fun _ => True) v o
 below : Below w.heap.size w W
 len : o.length = j
 all : o ++ twL (l.drop j) c = twL l a1
theorem chaffref01_twice.calls (A0 : Option Addr) (c0 : Nat) (l0 : List Int) (a1 : Int) (r : List Int) (w : World) (hr0 : Kd.C (Kd.int .i64) w A0 l0.length l0) (hc0 : l0.length ≤ c0) (h : chaffref01_twice.f l0 a1 = some r) :
  Calls Tryd.prog 77 #[.slice A0 l0.length c0, .int .i64 a1] w fun e w' => ∃ v0_ : Value, e = .returned (v0_) ∧ Kd.R (Kd.int .i64) 3 w' w.heap.size (fun _ => True) v0_ r ∧ Below w.heap.size w w' := by
 unfold chaffref01_twice.f at h
 split at h
 ·rename_i hcond
  obtain rfl := Option.some.inj h
  obtain ⟨hall, ⟨hb0, hb1⟩, hn⟩ := hcond
  have hrange : Q0 (∀ j, j < l0.length → 0 ≤ l0.getD j 0 ∧ l0.getD j 0 < 65536) := ⟨fun j hj => by
   rw [List.all_eq_true] at hall
   have := of_decide_eq_true (hall (l0[j]) (List.getElem_mem hj))
   simpa [List.getD, List.getElem?_eq_getElem hj] using this⟩
  have HR0 := Q0.mk hr0
  clear h hall hr0
  obtain ⟨i0, hi, hz0, hz1, hz2⟩ := info_parts info3
  obtain ⟨w1, hmk, hown, hg⟩ := run_make_own (P := Tryd.prog) w w.heap.size 26 3 i0 (.int .i64 0) 1 Tryd.underlying26 hi hz0 hz1 .i64 .i64 (l0.length + 1) (by rw [hz2]; omega) (by unfold maxLen; omega) (Nat.le_refl _)
  have hmk2 : (Instr.makeSlice 26 (.int .i64 0) (.int .i64 ((l0.length : Int) + 1))).run Tryd.prog w = .ok (.slice (some ⟨w.heap.size, 0, none⟩) 0 (l0.length + 1)) w1 := hmk
  have HS := Q0.mk (show TwS w (.slice (some ⟨w.heap.size, 0, none⟩) 0 (l0.length + 1)) l0 a1 [] 0 a1 w1 from ⟨Kd.R_of_own hown (fun _ _ => trivial), (Below.refl _ _).grown hg (Nat.le_refl _) (by intro k hk; cases hk), rfl, rfl⟩)
  have hw1 : wrap64 ((l0.length : Int) + 1) = (l0.length : Int) + 1 := by unfold wrap64; omega
  clear hmk hown hg hi hz0 hz1 hz2
  go_enter Tryd.func77, Tryd.ntmps77
  go_wp2
  clear hmk2 hw1
  go_loopw [5, 6, 7] (fun v5 v6 v7 W => ∃ (j : Nat) (o : List Int) (c : Int), v6 = .int .i64 c ∧ v7 = .int .i64 j ∧ j ≤ l0.length ∧ 0 ≤ c ∧ c ≤ 1 ∧ Q0 (TwS w v5 l0 a1 o j c W)) (fun _ _ v7 _ => l0.length - (intOf v7).toNat)
  case atStart => exact ⟨0, [], a1, rfl, rfl, by omega, hb0, hb1, HS⟩
  case round =>
   obtain ⟨j, o, c, rfl, rfl, hj, hc0, hc1, HT⟩ := hrel
   clear HS
   by_cases hlt : j < l0.length
   ·obtain ⟨ad, e, hx⟩ := Kd.zk HR0.out (j : Int) (by omega) (by omega)
    cases e
    rw [Int.toNat_natCast] at hx
    have hx2 := (HT.out.below.cell (World.block_lt_of_cell? w _ hx)).trans hx
    have hr := hrange.out j hlt
    have hN := Q0.mk (tw_drop hlt c)
    have hx3 : wr.cell? (ad.add j) = some (.int .i64 (l0.getD j 0)) := by rw [hx2]; simp [rd]
    clear hx hx2
    generalize l0.getD j 0 = x at hr hN hx3
    have hm := Int.tmod_eq_emod_of_nonneg (a := 2 * x + c) (b := 65536) (by omega)
    have hd := Int.tdiv_eq_ediv_of_nonneg (a := 2 * x + c) (b := 65536) (by omega)
    have hL := Q0.mk HT.out.len
    have hs := Q0.mk (bZ HT.out.below)
    go_wp2_with (at_builtin; refine Kd.zz (Kd.int .i64) (w0 := w) w.heap.size rfl (.tmp 27) (.tmp 30) 26 3 (.int .i64 0) 8 rfl Tryd.underlying26 info3 rfl (by decide) (by omega) u5 o ((2 * x + c) % 65536) [.int .i64 ((2 * x + c) % 65536)] (fun _ => True) (fun _ => False) rfl rfl ?aP (fun _ hk => hk.elim) (fun _ _ => trivial) HT.out.row HT.out.below hs.out (by rw [hL.out]; omega) ?_; (case aP => exact rfl); intro v1 w10 ho hb hg hat; have HN := Q0.mk (show TwS w v1 l0 a1 (o ++ [(2 * x + c) % 65536]) (j + 1) ((2 * x + c) / 65536) w10 from ⟨ho, hb, by rw [List.length_append, hL.out]; rfl, by rw [List.append_assoc]; exact (congrArg (o ++ ·) hN.out).symm.trans HT.out.all⟩); clear ho hb hg hat)
    go_roundw
    case rel => exact ⟨j + 1, _, (2 * x + c) / 65536, rfl, by go_num, by omega, by omega, by omega, HN⟩
    case measure => simp [intOf]; omega
   ·obtain rfl : j = l0.length := by omega
    have hall := HT.out.all
    rw [List.drop_length, twL] at hall
    have hL := Q0.mk HT.out.len
    have hs := Q0.mk (bZ HT.out.below)
    by_cases hc : c > 0
    ·rw [if_pos hc] at hall
     have HA := Q0.mk hall
     clear hall
     go_wp2_with (at_builtin; refine Kd.zz (Kd.int .i64) (w0 := w) w.heap.size rfl (.tmp 36) (.tmp 38) 26 3 (.int .i64 0) 8 rfl Tryd.underlying26 info3 rfl (by decide) (by omega) u5 o c [.int .i64 c] (fun _ => True) (fun _ => False) rfl rfl ?aP (fun _ hk => hk.elim) (fun _ _ => trivial) HT.out.row HT.out.below hs.out (by rw [hL.out]; omega) ?_; (case aP => exact rfl); intro v1 w10 ho hb hg hat; have HN := Q0.mk ho; have HB := Q0.mk hb; clear ho hb hg hat)
     go_ret
     exact ⟨_, rfl, by rw [← HA.out]; exact HN.out, HB.out⟩
    ·rw [if_neg hc, List.append_nil] at hall
     have HA := Q0.mk hall
     clear hall
     go_wp2
     go_ret
     exact ⟨_, rfl, by rw [← HA.out]; exact HT.out.row, HT.out.below⟩
 ·exact absurd h (by simp)
def chaffref01_Bit.l0 : Nat → Int → Int → Int → Option (Int)
 | 0, _, _, _ => none
 | k + 1, x1, x5, x6 => if x6 < (Int.tmod x1 16) then (chaffref01_Bit.l0 k x1 (wrap64 (Int.tdiv x5 2)) (wrap64 (x6 + 1))) else (some (Int.tmod x5 2))
def chaffref01_Bit.f (k : Nat) (l0 : List Int) (a1 : Int) : Option (Int) := (chaffref01_at.f l0 (wrap64 (Int.tdiv a1 16))).bind fun t508 => (chaffref01_Bit.l0 k a1 t508 0)
theorem chaffref01_Bit.calls (k : Nat) (A0 : Option Addr) (c0 : Nat) (l0 : List Int) (a1 : Int) (r : Int) (w : World) (hr0 : Kd.C (Kd.int .i64) w A0 l0.length l0) (hc0 : l0.length ≤ c0) (h : chaffref01_Bit.f k l0 a1 = some r) :
  Calls Tryd.prog 84 #[.slice A0 l0.length c0, .int .i64 a1] w fun e w' => e = .returned (.int .i64 r) ∧ D0 w w' := by
 have HR0 := Q0.mk hr0
 have HC0 := Q0.mk hc0
 clear hr0 hc0
 have H : ((chaffref01_at.f l0 (wrap64 (Int.tdiv a1 16))).bind fun t508 => (chaffref01_Bit.l0 k a1 t508 0)) = some r := h
 clear h
 replace H := Option.bind_eq_some_iff.mp H
 obtain ⟨t508, A30, H⟩ := H
 replace H : (chaffref01_Bit.l0 k a1 t508 0) = some r := H
 have A3 := Q0.mk A30
 clear A30
 have H' := Q0.mk H
 clear H
 go_enter Tryd.func84, Tryd.ntmps84
 go_wp2_with (first | ((with_reducible refine gC (f := 78) rfl ?_); refine zx (some 10) rfl rfl Tryd.func78 (by kernel_rfl) rfl #[.slice A0 l0.length c0, .int .i64 (wrap64 (Int.tdiv a1 16))] rfl (by (try simp only [List.map_toArray, List.map_cons, List.map_nil]); first | done | rfl | (simp only [List.length_drop, List.length_take]; rfl)) ?_; (with_reducible refine (chaffref01_at.calls _ _ l0 (wrap64 (Int.tdiv a1 16)) t508 _ ?side1 ?side2 A3.out).mono ?_); (case side1 => repeat (first | exact HR0.out | (with_reducible refine Kd.ze ?_ _) | (with_reducible refine Kd.zf ?_ _) | (with_reducible refine Kd.zi ?_))); (case side2 => exact HC0.out); rintro e w' ⟨rfl, ⟨nd, rfl⟩⟩; refine ⟨_, rfl, ?_⟩))
 go_loopg [5, 6] k (fun kq v5 v6 w' => ∃ (x5_1 : Int) (x6_1 : Int), v5 = .int .i64 x5_1 ∧ v6 = .int .i64 x6_1 ∧ Q0 (chaffref01_Bit.l0 kq a1 x5_1 x6_1 = some r) ∧ Q0 (kq ≤ k) ∧ D0 w w')
 case atStart => exact ⟨(t508), (0), (by first | rfl | (simp; done) | (simp [*]; done)), (by first | rfl | (simp; done) | (simp [*]; done)), H', ⟨Nat.le_refl _⟩, by repeat (first | exact D0.refl _ | apply D0.step)⟩
 case round =>
  clear H'
  try clear p2
  obtain ⟨x5_1, x6_1, rfl, rfl, HA, HK1, ⟨m1, rfl⟩⟩ := hrel
  cases gk with
  | zero => exact absurd HA.out (by simp [chaffref01_Bit.l0])
  | succ k1 =>
   have H := HA.out
   clear HA
   simp only [chaffref01_Bit.l0] at H
   by_cases c4 : x6_1 < (Int.tmod a1 16)
   ·rw [if_pos c4] at H
    have c4b0 : decide (x6_1 < (Int.tmod a1 16)) = true := decide_eq_true c4
    clear c4
    have H' := Q0.mk H
    clear H
    go_wp2
    go_roundg k1
    case measure => have := HK1.out; omega
    case rel => exact ⟨(wrap64 (Int.tdiv x5_1 2)), (wrap64 (x6_1 + 1)), (by first | rfl | (simp; done) | (simp [*]; done)), (by first | rfl | (simp; done) | (simp [*]; done)), H', ⟨by have := HK1.out; omega⟩, by repeat (first | exact D0.refl _ | apply D0.step)⟩
   ·rw [if_neg c4] at H
    have c4b0 : decide (x6_1 < (Int.tmod a1 16)) = false := decide_eq_false c4
    clear c4
    obtain rfl := Option.some.inj H
    go_wp2
    go_ret
    exact ⟨by first | rfl | (simp; done) | (simp [*]; done), by repeat (first | exact D0.refl _ | apply D0.step)⟩
mutual
def chaffref01_Div.l0 : Nat → List Int → List Int → List Int → List Int → Int → Option (List Int × List Int)
 | 0, _, _, _, _, _ => none
 | k + 1, x0, x1, x6, x7, x8 => if x8 ≥ 0 then ((chaffref01_Bit.f k x0 x8).bind fun t516 => ((chaffref01_twice.f x7 t516).bind fun t517 => ((chaffref01_Cmp.f k t517 x1).bind fun t520 => (if t520 ≥ 0 then ((chaffref01_Sub.f k t517 x1).bind fun t521 => (chaffref01_Div.l1 k x0 x1 x6 t521 x8 1 0)) else (chaffref01_Div.l0 k x0 x1 x6 t517 (wrap64 (x8 - 1))))))) else ((chaffref01_trim.f k x6).bind fun t513 => (some (t513, x7)))
def chaffref01_Div.l1 : Nat → List Int → List Int → List Int → List Int → Int → Int → Int → Option (List Int × List Int)
 | 0, _, _, _, _, _, _, _ => none
 | k + 1, x0, x1, x6, x7, x8, x9, x10 => if x10 < (Int.tmod x8 16) then (chaffref01_Div.l1 k x0 x1 x6 x7 x8 (wrap64 (x9 * 2)) (wrap64 (x10 + 1))) else (if 0 ≤ (wrap64 (Int.tdiv x8 16)) then (if (wrap64 (Int.tdiv x8 16)) < (x6.length : Int) then (chaffref01_Div.l0 k x0 x1 (x6.set ((wrap64 (Int.tdiv x8 16)) : Int).toNat (wrap64 ((rd x6 (wrap64 (Int.tdiv x8 16))) + x9))) x7 (wrap64 (x8 - 1))) else (none)) else (none))
end
def chaffref01_Div.f (k : Nat) (l0 : List Int) (l1 : List Int) : Option (List Int × List Int) := if 0 ≤ (l0.length : Int) then (if ((l0.length : Int) : Int).toNat ≤ 35184372088832 then ((chaffref01_Bits.f k l0).bind fun t512 => (chaffref01_Div.l0 k l0 l1 (List.replicate ((l0.length : Int) : Int).toNat 0) ([] : List Int) (wrap64 (t512 - 1)))) else (none)) else (none)
theorem chaffref01_Div.calls (k : Nat) (A0 : Option Addr) (c0 : Nat) (l0 : List Int) (A1 : Option Addr) (c1 : Nat) (l1 : List Int) (r1 : List Int) (r2 : List Int) (w : World) (hr0 : Kd.C (Kd.int .i64) w A0 l0.length l0) (hc0 : l0.length ≤ c0) (hr1 : Kd.C (Kd.int .i64) w A1 l1.length l1) (hc1 : l1.length ≤ c1) (h : chaffref01_Div.f k l0 l1 = some (r1, r2)) :
  Calls Tryd.prog 42 #[.slice A0 l0.length c0, .slice A1 l1.length c1] w fun e w' => ∃ v0_ v1_ : Value, e = .returned (.tuple #[v0_, v1_]) ∧ Kd.V (Kd.int .i64) 3 w' w.heap.size (fun k_ => (w.heap.size ≤ k_)) v0_ r1 ∧ Kd.V (Kd.int .i64) 3 w' w.heap.size (fun k_ => (w.heap.size ≤ k_)) v1_ r2 ∧ Below w.heap.size w w' := by
 have HR0 := Q0.mk hr0
 have HC0 := Q0.mk hc0
 clear hr0 hc0
 have HR1 := Q0.mk hr1
 have HC1 := Q0.mk hc1
 clear hr1 hc1
 have HB := Q0.mk (Below.refl w.heap.size w)
 have H : (if 0 ≤ (l0.length : Int) then (if ((l0.length : Int) : Int).toNat ≤ 35184372088832 then ((chaffref01_Bits.f k l0).bind fun t512 => (chaffref01_Div.l0 k l0 l1 (List.replicate ((l0.length : Int) : Int).toNat 0) ([] : List Int) (wrap64 (t512 - 1)))) else (none)) else (none)) = some (r1, r2) := h
 clear h
 by_cases c3 : 0 ≤ (l0.length : Int)
 ·rw [if_pos c3] at H
  have c3b0 := eq_true c3
  have c3b1 : decide (0 ≤ (l0.length : Int)) = true := decide_eq_true c3
  clear c3
  by_cases c4 : ((l0.length : Int) : Int).toNat ≤ 35184372088832
  ·rw [if_pos c4] at H
   have c4b0 := eq_true c4
   have c4b1 : decide (((l0.length : Int) : Int).toNat ≤ 35184372088832) = true := decide_eq_true c4
   clear c4
   obtain ⟨y509, hy509⟩ : ∃ y_ : List Int, y_ = (List.replicate ((l0.length : Int) : Int).toNat 0) := ⟨_, rfl⟩
   rw [← hy509] at H
   have Ny509 := Q0.mk hy509
   clear hy509
   replace H := Option.bind_eq_some_iff.mp H
   obtain ⟨t512, A50, H⟩ := H
   have A5 := Q0.mk A50
   clear A50
   have H' := Q0.mk H
   clear H
   go_enter Tryd.func42, Tryd.ntmps42
   go_wp2_with (first | ((with_reducible refine gD (N := 13) rfl ?_); refine Kd.zx2 (Kd.int .i64) _ 3 rfl (N := 13) rfl 26 _ _ rfl (l0.length : Int) rfl rfl Tryd.underlying26 (.int .i64 0) 8 info3 rfl (by decide) (by omega) 0 (ok := fun _ => True) (okp := fun _ => True) rfl (fun _ hk => hk) trivial (of_decide_eq_true (by first | (with_reducible assumption) | assumption)) (Nat.le_trans (Nat.mul_le_mul_right _ (of_decide_eq_true (by first | (with_reducible assumption) | assumption) : (l0.length : Int).toNat ≤ 35184372088832)) (by omega)) (Below.refl _ _) (Nat.le_refl _) ?_; intro v510 w6 ho7 hb hg_ hnew_; clear hg_ hnew_; (first | rw [← Ny509.out] at ho7 | (simp only [Int.reduceToNat] at ho7; rw [← Ny509.out] at ho7)); have q_ := zm (w := w) hb (by repeat (first | (with_reducible first | exact HB.out | apply bA | apply bN | apply b1_) | exact HB.out)); have HO511 := Q0.mk (Kd.zw0 (Kd.zs1 (M := fun k_ => (w.heap.size ≤ k_)) ho7 (bZ q_) (fun k_ h_ => h_)) (bZ q_)); replace HB := Q0.mk (bP q_ hb); clear q_; clear hb ho7) | ((with_reducible refine gC (f := 21) rfl ?_); refine zx (some 15) rfl rfl Tryd.func21 (by kernel_rfl) rfl #[.slice A0 l0.length c0] rfl (by (try simp only [List.map_toArray, List.map_cons, List.map_nil]); first | done | rfl | (simp only [List.length_drop, List.length_take]; rfl)) ?_; (with_reducible refine (chaffref01_Bits.calls k _ _ l0 t512 _ ?side1 ?side2 A5.out).mono ?_); (case side1 => repeat (first | exact (Kd.zu HR0.out HB.out) | (with_reducible refine Kd.ze ?_ _) | (with_reducible refine Kd.zf ?_ _) | (with_reducible refine Kd.zi ?_))); (case side2 => exact HC0.out); rintro e w' ⟨rfl, ⟨nd, rfl⟩⟩; refine ⟨_, rfl, ?_⟩))
   go_loopg [7, 8] k (fun kq v7 v8 w' => ∃ (x6_1 : List Int) (x7_1 : List Int) (x8_1 : Int), v8 = .int .i64 x8_1 ∧ Q0 (chaffref01_Div.l0 kq l0 l1 x6_1 x7_1 x8_1 = some (r1, r2)) ∧ Q0 (kq ≤ k) ∧ Q0 (Kd.R (Kd.int .i64) 3 w' w.heap.size (fun k_ => (w.heap.size ≤ k_)) v510 x6_1) ∧ Q0 (Kd.V (Kd.int .i64) 3 w' w.heap.size (fun k_ => (w.heap.size ≤ k_) ∧ some k_ ≠ (v510 : Value).ownBlock) v7 x7_1) ∧ Q0 (Below w.heap.size w w'))
   case atStart => exact ⟨(y509), (([] : List Int)), (wrap64 (t512 - 1)), (by first | rfl | (simp; done) | (simp [*]; done)), H', ⟨Nat.le_refl _⟩, ⟨by (with_reducible repeat (first | apply Kd.RA_ | apply Kd.RN_ | apply Kd.RD_)); exact Kd.zb1 HO511.out (fun _ hk => hk.1)⟩, ⟨Kd.R_V (base := w.heap.size) (by first | exact Kd.zj1 _ _ _ _ _ | exact Kd.N_nil _ _ _ _ _ | exact Kd.zg3 _ _ _ _ _ | exact Kd.Q_nil _ _ _ _ _ | exact Kd.S_nil _ _ _ _ _)⟩, ⟨by repeat (first | (with_reducible first | exact HB.out | apply bA | apply bN | apply b1_) | exact HB.out)⟩⟩
   case round =>
    clear H'
    obtain ⟨x6_1, x7_1, x8_1, rfl, HA, HK1, HO_6, HO_7, HB⟩ := hrel
    cases gk with
    | zero => exact absurd HA.out (by simp [chaffref01_Div.l0])
    | succ k1 =>
     have H := HA.out
     clear HA
     simp only [chaffref01_Div.l0] at H
     by_cases c8 : x8_1 ≥ 0
     ·rw [if_pos c8] at H
      have c8b0 : decide (0 ≤ x8_1) = true := decide_eq_true c8
      clear c8
      replace H := Option.bind_eq_some_iff.mp H
      obtain ⟨t516, A90, H⟩ := H
      have A9 := Q0.mk A90
      clear A90
      replace H := Option.bind_eq_some_iff.mp H
      obtain ⟨t517, A100, H⟩ := H
      have A10 := Q0.mk A100
      clear A100
      replace H := Option.bind_eq_some_iff.mp H
      obtain ⟨t520, A110, H⟩ := H
      have A11 := Q0.mk A110
      clear A110
      by_cases c12 : t520 ≥ 0
      ·rw [if_pos c12] at H
       have c12b0 : decide (0 ≤ t520) = true := decide_eq_true c12
       clear c12
       replace H := Option.bind_eq_some_iff.mp H
       obtain ⟨t521, A130, H⟩ := H
       have A13 := Q0.mk A130
       clear A130
       have H' := Q0.mk H
       clear H
       go_wp2_with (first | ((with_reducible refine gC (f := 84) rfl ?_); refine zx (some 24) rfl rfl Tryd.func84 (by kernel_rfl) rfl #[.slice A0 l0.length c0, .int .i64 x8_1] rfl (by (try simp only [List.map_toArray, List.map_cons, List.map_nil]); first | done | rfl | (simp only [List.length_drop, List.length_take]; rfl)) ?_; (with_reducible refine (chaffref01_Bit.calls k1 _ _ l0 x8_1 t516 _ ?side1 ?side2 A9.out).mono ?_); (case side1 => repeat (first | exact (Kd.zu HR0.out HB.out) | (with_reducible refine Kd.ze ?_ _) | (with_reducible refine Kd.zf ?_ _) | (with_reducible refine Kd.zi ?_))); (case side2 => exact HC0.out); rintro e w' ⟨rfl, ⟨nd, rfl⟩⟩; refine ⟨_, rfl, ?_⟩; obtain ⟨Ao14, co14, eo14⟩ := Kd.zo HO_7.out; subst eo14) | ((with_reducible refine gC (f := 77) rfl ?_); refine zx (some 25) rfl rfl Tryd.func77 (by kernel_rfl) rfl #[.slice Ao14 x7_1.length co14, .int .i64 t516] rfl (by (try simp only [List.map_toArray, List.map_cons, List.map_nil]); first | done | rfl | (simp only [List.length_drop, List.length_take]; rfl)) ?_; (with_reducible refine (chaffref01_twice.calls _ _ x7_1 t516 t517 _ ?side1 ?side2 A10.out).mono ?_); (case side1 => repeat (first | exact (Kd.z90 HO_7.out).2.2 | (with_reducible refine Kd.ze ?_ _) | (with_reducible refine Kd.zf ?_ _) | (with_reducible refine Kd.zi ?_))); (case side2 => exact (Kd.z90 HO_7.out).2.1); rintro e w15 ⟨v518, rfl, ho0, hb⟩; refine ⟨_, rfl, ?_⟩; have q_ := zm (w := w) hb (by repeat (first | (with_reducible first | exact HB.out | apply bA | apply bN | apply b1_) | exact HB.out)); replace HO_7 := Q0.mk (Kd.V_elder' (by (with_reducible repeat (first | apply Kd.VA_ | apply Kd.VN_ | apply Kd.VD_)); exact HO_7.out) (Kd.zr3 ho0) hb); have HO519 := Q0.mk (Kd.zw0 (Kd.R_new' (Kd.zs1 (M := fun k_ => (w.heap.size ≤ k_)) ho0 (bZ q_) (fun k_ h_ => h_)) (Kd.R_lt (by (with_reducible repeat (first | apply Kd.RA_ | apply Kd.RN_ | apply Kd.RD_)); exact HO_6.out))) (bZ q_)); replace HO_6 := Q0.mk (Kd.zz3 (by (with_reducible repeat (first | apply Kd.RA_ | apply Kd.RN_ | apply Kd.RD_)); exact HO_6.out) (Kd.zr3 ho0) hb); replace HB := Q0.mk (bP q_ hb); clear q_; (try clear hb); (try clear hb2); (try clear hk); (try clear hi); (try clear ho0); obtain ⟨Ao16, co16, eo16⟩ := Kd.zl0 HO519.out; subst eo16) | ((with_reducible refine gC (f := 37) rfl ?_); refine zx (some 28) rfl rfl Tryd.func37 (by kernel_rfl) rfl #[.slice Ao16 t517.length co16, .slice A1 l1.length c1] rfl (by (try simp only [List.map_toArray, List.map_cons, List.map_nil]); first | done | rfl | (simp only [List.length_drop, List.length_take]; rfl)) ?_; (with_reducible refine (chaffref01_Cmp.calls k1 _ _ t517 _ _ l1 t520 _ ?side1 ?side2 ?side3 ?side4 A11.out).mono ?_); (case side1 => repeat (first | exact (Kd.zw HO519.out).2.2 | (with_reducible refine Kd.ze ?_ _) | (with_reducible refine Kd.zf ?_ _) | (with_reducible refine Kd.zi ?_))); (case side2 => exact (Kd.zw HO519.out).2.1); (case side3 => repeat (first | exact (Kd.zu HR1.out HB.out) | (with_reducible refine Kd.ze ?_ _) | (with_reducible refine Kd.zf ?_ _) | (with_reducible refine Kd.zi ?_))); (case side4 => exact HC1.out); rintro e w' ⟨rfl, ⟨nd, rfl⟩⟩; refine ⟨_, rfl, ?_⟩) | ((with_reducible refine gC (f := 39) rfl ?_); refine zx (some 32) rfl rfl Tryd.func39 (by kernel_rfl) rfl #[.slice Ao16 t517.length co16, .slice A1 l1.length c1] rfl (by (try simp only [List.map_toArray, List.map_cons, List.map_nil]); first | done | rfl | (simp only [List.length_drop, List.length_take]; rfl)) ?_; (with_reducible refine (chaffref01_Sub.calls k1 _ _ t517 _ _ l1 t521 _ ?side1 ?side2 ?side3 ?side4 A13.out).mono ?_); (case side1 => repeat (first | exact (Kd.zw HO519.out).2.2 | (with_reducible refine Kd.ze ?_ _) | (with_reducible refine Kd.zf ?_ _) | (with_reducible refine Kd.zi ?_))); (case side2 => exact (Kd.zw HO519.out).2.1); (case side3 => repeat (first | exact (Kd.zu HR1.out (by repeat (first | (with_reducible first | exact HB.out | apply bA | apply bN | apply b1_) | exact HB.out))) | (with_reducible refine Kd.ze ?_ _) | (with_reducible refine Kd.zf ?_ _) | (with_reducible refine Kd.zi ?_))); (case side4 => exact HC1.out); rintro e w17 ⟨v522, rfl, ho0, hb⟩; refine ⟨_, rfl, ?_⟩; have q_ := zm (w := w) hb (by repeat (first | (with_reducible first | exact HB.out | apply bA | apply bN | apply b1_) | exact HB.out)); replace HO_7 := Q0.mk (Kd.zl (by (with_reducible repeat (first | apply Kd.VA_ | apply Kd.VN_ | apply Kd.VD_)); exact HO_7.out) hb); have HO523 := Q0.mk (Kd.za0 (Kd.VM_ (ok' := fun k_ => (w.heap.size ≤ k_) ∧ some k_ ≠ (v510 : Value).ownBlock ∧ some k_ ≠ (.slice Ao16 t517.length co16 : Value).ownBlock) ho0 (fun k_ hk_ => ⟨(Nat.le_trans (bZ q_) hk_), (Kd.fresh' (Kd.R_lt (by (with_reducible repeat (first | apply Kd.RA_ | apply Kd.RN_ | apply Kd.RD_)); exact HO_6.out)) k_ hk_), (Kd.fresh' (Kd.R_lt (by (with_reducible repeat (first | apply Kd.RA_ | apply Kd.RN_ | apply Kd.RD_)); exact HO519.out)) k_ hk_)⟩)) (bZ q_)); replace HO_6 := Q0.mk (Kd.zy (by (with_reducible repeat (first | apply Kd.RA_ | apply Kd.RN_ | apply Kd.RD_)); exact HO_6.out) hb); replace HO519 := Q0.mk (Kd.zy (by (with_reducible repeat (first | apply Kd.RA_ | apply Kd.RN_ | apply Kd.RD_)); exact HO519.out) hb); replace HB := Q0.mk (bP q_ hb); clear q_; (try clear hb); (try clear hb2); (try clear hk); (try clear hi); (try clear ho0)))
       go_loopg [9, 10] k1 (fun kq v9 v10 w' => ∃ (x9_2 : Int) (x10_2 : Int), v9 = .int .i64 x9_2 ∧ v10 = .int .i64 x10_2 ∧ Q0 (chaffref01_Div.l1 kq l0 l1 x6_1 t521 x8_1 x9_2 x10_2 = some (r1, r2)) ∧ Q0 (kq ≤ k1) ∧ Q0 (Kd.R (Kd.int .i64) 3 w' w.heap.size (fun k_ => (w.heap.size ≤ k_)) v510 x6_1) ∧ Q0 (Kd.V (Kd.int .i64) 3 w' w.heap.size (fun k_ => (w.heap.size ≤ k_) ∧ some k_ ≠ (v510 : Value).ownBlock) v522 t521) ∧ Q0 (Below w.heap.size w w'))
       case atStart => exact ⟨(1), (0), (by first | rfl | (simp; done) | (simp [*]; done)), (by first | rfl | (simp; done) | (simp [*]; done)), H', ⟨Nat.le_refl _⟩, ⟨by (with_reducible repeat (first | apply Kd.RA_ | apply Kd.RN_ | apply Kd.RD_)); exact Kd.zb1 HO_6.out (fun _ hk => hk.1)⟩, ⟨by (with_reducible repeat (first | apply Kd.VA_ | apply Kd.VN_ | apply Kd.VD_)); exact Kd.VM_ HO523.out (fun _ hk => ⟨hk.1, hk.2.1⟩)⟩, ⟨by repeat (first | (with_reducible first | exact HB.out | apply bA | apply bN | apply b1_) | exact HB.out)⟩⟩
       case round =>
        clear H'
        obtain ⟨x9_2, x10_2, rfl, rfl, HA, HK2, HO_6, HO_7, HB⟩ := hrel
        cases gk with
        | zero => exact absurd HA.out (by simp [chaffref01_Div.l1])
        | succ k2 =>
         have H := HA.out
         clear HA
         simp only [chaffref01_Div.l1] at H
         by_cases c18 : x10_2 < (Int.tmod x8_1 16)
         ·rw [if_pos c18] at H
          have c18b0 : decide (x10_2 < (Int.tmod x8_1 16)) = true := decide_eq_true c18
          clear c18
          have H' := Q0.mk H
          clear H
          go_wp2
          go_roundg k2
          case measure => have := HK1.out; have := HK2.out; omega
          case rel => exact ⟨(wrap64 (x9_2 * 2)), (wrap64 (x10_2 + 1)), (by first | rfl | (simp; done) | (simp [*]; done)), (by first | rfl | (simp; done) | (simp [*]; done)), H', ⟨by have := HK1.out; have := HK2.out; omega⟩, ⟨by (with_reducible repeat (first | apply Kd.RA_ | apply Kd.RN_ | apply Kd.RD_)); exact HO_6.out⟩, ⟨by (with_reducible repeat (first | apply Kd.VA_ | apply Kd.VN_ | apply Kd.VD_)); exact HO_7.out⟩, ⟨by repeat (first | (with_reducible first | exact HB.out | apply bA | apply bN | apply b1_) | exact HB.out)⟩⟩
         ·rw [if_neg c18] at H
          have c18b0 : decide (x10_2 < (Int.tmod x8_1 16)) = false := decide_eq_false c18
          clear c18
          obtain ⟨ji19, hji19⟩ : ∃ j_ : Int, (wrap64 (Int.tdiv x8_1 16)) = j_ := ⟨_, rfl⟩
          replace H : (if 0 ≤ (ji19) then (if (ji19) < (x6_1.length : Int) then (chaffref01_Div.l0 k2 l0 l1 (x6_1.set ((ji19) : Int).toNat (wrap64 ((rd x6_1 (ji19)) + x9_2))) t521 (wrap64 (x8_1 - 1))) else (none)) else (none)) = some (r1, r2) := by first | (rw [hji19] at H; exact H) | (simp only [hji19] at H ⊢; exact H)
          have hji19w : (IntKind.i64.wrap (Int.tdiv x8_1 16)) = ji19 := (iw _).trans hji19
          by_cases c20 : 0 ≤ (ji19)
          ·rw [if_pos c20] at H
           have c20b0 : decide (0 ≤ (ji19)) = true := decide_eq_true c20
           clear c20
           by_cases c21 : (ji19) < (x6_1.length : Int)
           ·rw [if_pos c21] at H
            have c21b0 : decide ((ji19) < (x6_1.length : Int)) = true := decide_eq_true c21
            clear c21
            obtain ⟨y525, hy525⟩ : ∃ y_ : List Int, y_ = (x6_1.set ((ji19) : Int).toNat (wrap64 ((rd x6_1 (ji19)) + x9_2))) := ⟨_, rfl⟩
            rw [← hy525] at H
            have Ny525 := Q0.mk hy525
            clear hy525
            have H' := Q0.mk H
            clear H
            obtain ⟨Ao23, co23, eo23⟩ := Kd.zl0 HO_6.out
            subst eo23
            have p524 : 0 ≤ ((ji19) : Int) := of_decide_eq_true (by first | (with_reducible assumption) | assumption)
            have q524 : (ji19) < (x6_1.length : Int) := of_decide_eq_true (by first | (with_reducible assumption) | assumption)
            obtain ⟨ad524, e524, hx524_0⟩ := Kd.zk (Kd.zw HO_6.out).2.2 (ji19) p524 q524
            cases e524
            replace p524 := eq_true p524
            replace q524 := eq_true q524
            have p22 : 0 ≤ ((ji19) : Int) := of_decide_eq_true (by first | (with_reducible assumption) | assumption)
            have q22 : ((ji19) : Int) < ((x6_1.length : Int) : Int) := of_decide_eq_true (by first | (with_reducible assumption) | assumption)
            obtain ⟨go22, co22, eo22, gb22, gl22, cl22, HG22⟩ := Kd.zi2 HO_6.out (by omega)
            (first | cases eo22 | (injection eo22 with ea_ en_ ec_; (first | subst ea_ | (injection ea_ with ea_; subst ea_)); subst ec_; clear en_))
            have GB22 := Q0.mk gb22
            have GG22 := Q0.mk HG22
            clear gb22 gl22 HG22
            (first | simp only [add_plain] at hx524_0 | skip)
            obtain ⟨hx22_0, hf22_0⟩ := Kd.z81 0 HO_6.out ((ji19) : Int) p22 q22
            replace p22 := eq_true p22
            replace q22 := eq_true q22
            have HP24 := Kd.zo1 HO_6.out ((ji19) : Int) (wrap64 ((rd x6_1 (ji19)) + x9_2))
            go_wp2_with (first | ((with_reducible refine zq0 (t := 3) (p := 51) rfl ?_); refine zi0 (t := 3) (p := 51) (v := ?vo_w25) (w1 := (wr.setCell ⟨go22, ((ji19) : Int).toNat, none⟩ (.int .i64 (wrap64 ((rd x6_1 (ji19)) + x9_2))))) ?hg ?ho ?hn ?hr ?_; (case ho => rfl); (case hg => rfl); (case hn => rfl); (case hr => first | (go_simp; done) | (go_simp; rfl)); intro w25 hw; have hg : wr.grownBy w25 (some go22) := (by rw [hw]; exact HP24.2); have hp_ : Kd.R (Kd.int .i64) 3 w25 w.heap.size (fun k_ => (w.heap.size ≤ k_)) (.slice (some ⟨go22, 0, none⟩) x6_1.length co23) y525 := (by rw [hw, Ny525.out]; exact HP24.1); clear HP24; replace HO_6 := Q0.mk (hp_); replace HO_7 := Q0.mk (Kd.V_afterv (v := (.slice (some ⟨go22, 0, none⟩) x6_1.length co23)) (v1 := (.slice (some ⟨go22, 0, none⟩) x6_1.length co23)) (ok := (fun k_ => (w.heap.size ≤ k_))) (by (with_reducible repeat (first | apply Kd.VA_ | apply Kd.VN_ | apply Kd.VD_)); exact HO_7.out) hg (.inl rfl)); replace HB := Q0.mk ((by rw [hw]; exact bS (HB.out) GB22.out : Below w.heap.size w w25)); clear hg hw hp_))
            go_roundg k2
            case measure => have := HK1.out; have := HK2.out; omega
            case rel => exact ⟨(y525), (t521), (wrap64 (x8_1 - 1)), (by first | rfl | (simp; done) | (simp [*]; done)), H', ⟨by have := HK1.out; have := HK2.out; omega⟩, ⟨by (with_reducible repeat (first | apply Kd.RA_ | apply Kd.RN_ | apply Kd.RD_)); exact HO_6.out⟩, ⟨by (with_reducible repeat (first | apply Kd.VA_ | apply Kd.VN_ | apply Kd.VD_)); exact HO_7.out⟩, ⟨by repeat (first | (with_reducible first | exact HB.out | apply bA | apply bN | apply b1_) | exact HB.out)⟩⟩
           ·rw [if_neg c21] at H
            exact absurd H (by simp)
          ·rw [if_neg c20] at H
           exact absurd H (by simp)
      ·rw [if_neg c12] at H
       have c12b0 : decide (0 ≤ t520) = false := decide_eq_false c12
       clear c12
       have H' := Q0.mk H
       clear H
       go_wp2_with (first | ((with_reducible refine gC (f := 84) rfl ?_); refine zx (some 24) rfl rfl Tryd.func84 (by kernel_rfl) rfl #[.slice A0 l0.length c0, .int .i64 x8_1] rfl (by (try simp only [List.map_toArray, List.map_cons, List.map_nil]); first | done | rfl | (simp only [List.length_drop, List.length_take]; rfl)) ?_; (with_reducible refine (chaffref01_Bit.calls k1 _ _ l0 x8_1 t516 _ ?side1 ?side2 A9.out).mono ?_); (case side1 => repeat (first | exact (Kd.zu HR0.out HB.out) | (with_reducible refine Kd.ze ?_ _) | (with_reducible refine Kd.zf ?_ _) | (with_reducible refine Kd.zi ?_))); (case side2 => exact HC0.out); rintro e w' ⟨rfl, ⟨nd, rfl⟩⟩; refine ⟨_, rfl, ?_⟩; obtain ⟨Ao26, co26, eo26⟩ := Kd.zo HO_7.out; subst eo26) | ((with_reducible refine gC (f := 77) rfl ?_); refine zx (some 25) rfl rfl Tryd.func77 (by kernel_rfl) rfl #[.slice Ao26 x7_1.length co26, .int .i64 t516] rfl (by (try simp only [List.map_toArray, List.map_cons, List.map_nil]); first | done | rfl | (simp only [List.length_drop, List.length_take]; rfl)) ?_; (with_reducible refine (chaffref01_twice.calls _ _ x7_1 t516 t517 _ ?side1 ?side2 A10.out).mono ?_); (case side1 => repeat (first | exact (Kd.z90 HO_7.out).2.2 | (with_reducible refine Kd.ze ?_ _) | (with_reducible refine Kd.zf ?_ _) | (with_reducible refine Kd.zi ?_))); (case side2 => exact (Kd.z90 HO_7.out).2.1); rintro e w27 ⟨v518, rfl, ho0, hb⟩; refine ⟨_, rfl, ?_⟩; have q_ := zm (w := w) hb (by repeat (first | (with_reducible first | exact HB.out | apply bA | apply bN | apply b1_) | exact HB.out)); replace HO_7 := Q0.mk (Kd.V_elder' (by (with_reducible repeat (first | apply Kd.VA_ | apply Kd.VN_ | apply Kd.VD_)); exact HO_7.out) (Kd.zr3 ho0) hb); have HO519 := Q0.mk (Kd.zw0 (Kd.R_new' (Kd.zs1 (M := fun k_ => (w.heap.size ≤ k_)) ho0 (bZ q_) (fun k_ h_ => h_)) (Kd.R_lt (by (with_reducible repeat (first | apply Kd.RA_ | apply Kd.RN_ | apply Kd.RD_)); exact HO_6.out))) (bZ q_)); replace HO_6 := Q0.mk (Kd.zz3 (by (with_reducible repeat (first | apply Kd.RA_ | apply Kd.RN_ | apply Kd.RD_)); exact HO_6.out) (Kd.zr3 ho0) hb); replace HB := Q0.mk (bP q_ hb); clear q_; (try clear hb); (try clear hb2); (try clear hk); (try clear hi); (try clear ho0); obtain ⟨Ao28, co28, eo28⟩ := Kd.zl0 HO519.out; subst eo28) | ((with_reducible refine gC (f := 37) rfl ?_); refine zx (some 28) rfl rfl Tryd.func37 (by kernel_rfl) rfl #[.slice Ao28 t517.length co28, .slice A1 l1.length c1] rfl (by (try simp only [List.map_toArray, List.map_cons, List.map_nil]); first | done | rfl | (simp only [List.length_drop, List.length_take]; rfl)) ?_; (with_reducible refine (chaffref01_Cmp.calls k1 _ _ t517 _ _ l1 t520 _ ?side1 ?side2 ?side3 ?side4 A11.out).mono ?_); (case side1 => repeat (first | exact (Kd.zw HO519.out).2.2 | (with_reducible refine Kd.ze ?_ _) | (with_reducible refine Kd.zf ?_ _) | (with_reducible refine Kd.zi ?_))); (case side2 => exact (Kd.zw HO519.out).2.1); (case side3 => repeat (first | exact (Kd.zu HR1.out HB.out) | (with_reducible refine Kd.ze ?_ _) | (with_reducible refine Kd.zf ?_ _) | (with_reducible refine Kd.zi ?_))); (case side4 => exact HC1.out); rintro e w' ⟨rfl, ⟨nd, rfl⟩⟩; refine ⟨_, rfl, ?_⟩))
       go_roundg k1
       case measure => have := HK1.out; omega
       case rel => exact ⟨(x6_1), (t517), (wrap64 (x8_1 - 1)), (by first | rfl | (simp; done) | (simp [*]; done)), H', ⟨by have := HK1.out; omega⟩, ⟨by (with_reducible repeat (first | apply Kd.RA_ | apply Kd.RN_ | apply Kd.RD_)); exact Kd.zb1 HO_6.out (fun _ hk => hk.1)⟩, ⟨Kd.R_V (by (with_reducible repeat (first | apply Kd.RA_ | apply Kd.RN_ | apply Kd.RD_)); exact Kd.zb1 HO519.out (fun _ hk => ⟨hk.1.1, hk.2⟩))⟩, ⟨by repeat (first | (with_reducible first | exact HB.out | apply bA | apply bN | apply b1_) | exact HB.out)⟩⟩
     ·rw [if_neg c8] at H
      have c8b0 : decide (0 ≤ x8_1) = false := decide_eq_false c8
      clear c8
      replace H := Option.bind_eq_some_iff.mp H
      obtain ⟨t513, A290, H⟩ := H
      have A29 := Q0.mk A290
      clear A290
      simp only [Option.some.injEq, Prod.mk.injEq] at H
      obtain ⟨rfl, rfl⟩ := H
      obtain ⟨Ao30, co30, eo30⟩ := Kd.zl0 HO_6.out
      subst eo30
      go_wp2_with (first | ((with_reducible refine gC (f := 63) rfl ?_); refine zx (some 53) rfl rfl Tryd.func63 (by kernel_rfl) rfl #[.slice Ao30 x6_1.length co30] rfl (by (try simp only [List.map_toArray, List.map_cons, List.map_nil]); first | done | rfl | (simp only [List.length_drop, List.length_take]; rfl)) ?_; (with_reducible refine (chaffref01_trim.calls k1 (fun k_ => some k_ = (.slice Ao30 x6_1.length co30 : Value).ownBlock) _ _ x6_1 t513 _ ?side1 A29.out).mono ?_); (case side1 => exact Kd.R_V (Kd.z11 rfl (HO_6.out))); rintro e w31 ⟨v514, rfl, ho0, hb⟩; refine ⟨_, rfl, ?_⟩; have q_ := zm (w := w) hb (by repeat (first | (with_reducible first | exact HB.out | apply bA | apply bN | apply b1_) | exact HB.out)); replace HO_7 := Q0.mk (Kd.zl (by (with_reducible repeat (first | apply Kd.VA_ | apply Kd.VN_ | apply Kd.VD_)); exact HO_7.out) hb); have HO515 := Q0.mk (Kd.za0 (Kd.VM_ (ok' := fun k_ => (w.heap.size ≤ k_)) ho0 (fun k_ hk_ => Or.elim hk_ (fun hs_ => ((HO_6.out).1 k_ hs_.symm)) (fun hn_ => (Nat.le_trans (bZ q_) hn_)))) (bZ q_)); replace HO_6 := Q0.mk (Kd.zy (by (with_reducible repeat (first | apply Kd.RA_ | apply Kd.RN_ | apply Kd.RD_)); exact HO_6.out) hb); replace HB := Q0.mk (bP q_ hb); clear q_; (try clear hb); (try clear hb2); (try clear hk); (try clear hi); (try clear ho0)))
      go_ret2
      exact ⟨_, _, by first | rfl | (simp [eN, eS] <;> rfl) | (simp [*, eN, eS] <;> rfl), by (with_reducible repeat (first | apply Kd.VA_ | apply Kd.VN_ | apply Kd.VD_)); exact HO515.out, by (with_reducible repeat (first | apply Kd.VA_ | apply Kd.VN_ | apply Kd.VD_)); exact Kd.VM_ HO_7.out (fun _ hk => hk.1), by repeat (first | (with_reducible first | exact HB.out | apply bA | apply bN | apply b1_) | exact HB.out)⟩
  ·rw [if_neg c4] at H
   exact absurd H (by simp)
 ·rw [if_neg c3] at H
  exact absurd H (by simp)
end Go.Proofs.YtgkdealidnidiaaDoor.Na
