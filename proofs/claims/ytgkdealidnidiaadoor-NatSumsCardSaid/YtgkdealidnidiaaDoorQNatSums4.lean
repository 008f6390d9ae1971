/- Texts of the seat, as far as the row needs them. -/
import Derived.ArgAppend
import Derived.Below
import Derived.BigQuiet
import Derived.Deep.AppendLies
import Derived.Deep.CutBlock
import Derived.Deep.DeepCutAuto
import Derived.Deep.Draws
import Derived.Deep.LoopGhost
import Derived.Deep.OwnRows
import Derived.Deep.QuietTactic
import Derived.Deep.RegionHeld3
import Derived.Ground.Names2Prog
import Derived.KernelRfl
import Derived.Laws.AppendOwn
import Derived.Laws.BitsAllLaws
import Derived.Laws.BitsLemmas
import Derived.Laws.BytesArg
import Derived.Laws.Externs
import Derived.Laws.IdiomCopy
import Derived.Laws.MakeOwn
import Derived.Laws.OwnMore
import Derived.Laws.Rows
import Derived.Laws.Slices
import Derived.Laws.StructEq
import Derived.Lib.AppendStr
import Derived.Lib.BitFns
import Derived.Lib.ConvBytes
import Derived.Lib.ItoaMem
import Derived.Lib.LazyBuf
import Derived.Lib.SliceRun
import Derived.Lib.SmallJoins
import Derived.Lib.Strings
import Derived.Lib.Walk
import Derived.Maps.AppendAt
import Derived.OrdersHeld
import Derived.OwnWalk
import Derived.RowKit
import Derived.RowKit3
import Derived.Shelf.Bits.Mul64
import Derived.Shelf.LaysM
import Derived.Shelf.Slices.Cells
import Derived.Shelf.Slices.CompactI
import Derived.Shelf.Slices.ReverseS
import Derived.Shelf.Small.Bits
import Derived.Shelf.Spec.BitsCarry
import Derived.Shelf.Strconv.Itoa0
import Derived.Shelf.Strconv.Itoa1
import Derived.Shelf.Strconv.Itoa2
import Derived.Shelf.Strings.Builder1
import Derived.Shelf.Strings.Builder2
import Derived.Shelf.Strings.Builder2Cap
import Derived.Shelf.Strings.BuilderCap
import Derived.Shelf.Strings.BuilderF
import Derived.Shelf.Strings.BuilderK
import Derived.Shelf.Strings.OnBuilder
import Derived.Shelf.Strings.Prefix
import Derived.Shelf.Strings.Repeat
import Derived.Tactics
import Derived.Test.YtgkdealidnidiaaDoorProg
import Derived.WalkKit
import Derived.WideLaws
import Derived.Test.YtgkdealidnidiaaDoorQNatSums0
import Derived.Test.YtgkdealidnidiaaDoorQNatSums1
import Derived.Test.YtgkdealidnidiaaDoorQNatSums2
import Derived.Test.YtgkdealidnidiaaDoorQNatSums3
set_option linter.unusedVariables false
set_option linter.unusedSimpArgs false
namespace Go.Proofs.YtgkdealidnidiaaDoor.Na
open Go.RowKit Go.Proofs.YtgkdealidnidiaaDoorW.PrintWords Go.Proofs.YtgkdealidnidiaaDoorW.PrintLast Go.Proofs.YtgkdealidnidiaaDoorW.PrintMore
attribute [local go_sem] max2_int max_two
set_option linter.unusedVariables false
set_option linter.unusedSimpArgs false
mutual
def chaffref01_Mul.l0 : Nat → List Int → List Int → List Int → Int → Option (List Int)
  | 0, _, _, _, _ => none
  | k + 1, x0, x1, x5, x6 => if x6 < (x0.length : Int) then (chaffref01_Mul.l1 k x0 x1 x5 x6 0 0) else ((chaffref01_trim.f k x5).bind fun t259 => (some t259))
def chaffref01_Mul.l1 : Nat → List Int → List Int → List Int → Int → Int → Int → Option (List Int)
  | 0, _, _, _, _, _, _ => none
  | k + 1, x0, x1, x5, x6, x7, x8 => if x8 < (x1.length : Int) then (if 0 ≤ (wrap64 (x6 + x8)) then (if (wrap64 (x6 + x8)) < (x5.length : Int) then (if 0 ≤ x6 then (if x6 < (x0.length : Int) then (if 0 ≤ x8 then (chaffref01_Mul.l1 k x0 x1 (x5.set ((wrap64 (x6 + x8)) : Int).toNat (Int.tmod (wrap64 ((wrap64 ((rd x5 (wrap64 (x6 + x8))) + (wrap64 ((rd x0 x6) * (rd x1 x8))))) + x7)) 65536)) x6 (wrap64 (Int.tdiv (wrap64 ((wrap64 ((rd x5 (wrap64 (x6 + x8))) + (wrap64 ((rd x0 x6) * (rd x1 x8))))) + x7)) 65536)) (wrap64 (x8 + 1))) else (none)) else (none)) else (none)) else (none)) else (none)) else (if 0 ≤ (wrap64 (x6 + (x1.length : Int))) then (if (wrap64 (x6 + (x1.length : Int))) < (x5.length : Int) then (chaffref01_Mul.l0 k x0 x1 (x5.set ((wrap64 (x6 + (x1.length : Int))) : Int).toNat x7) (wrap64 (x6 + 1))) else (none)) else (none))
end
def chaffref01_Mul.f (k : Nat) (l0 : List Int) (l1 : List Int) : Option (List Int) := if 0 ≤ (wrap64 ((l0.length : Int) + (l1.length : Int))) then (if (wrap64 ((l0.length : Int) + (l1.length : Int)) : Int).toNat ≤ 35184372088832 then (chaffref01_Mul.l0 k l0 l1 (List.replicate (wrap64 ((l0.length : Int) + (l1.length : Int)) : Int).toNat 0) 0) else (none)) else (none)
set_option maxHeartbeats 8000000 in
set_option maxRecDepth 100000 in
theorem chaffref01_Mul.calls (k : Nat) (A0 : Option Addr) (c0 : Nat) (l0 : List Int) (A1 : Option Addr) (c1 : Nat) (l1 : List Int) (r : List Int) (w : World) (hr0 : Kd.C (Kd.int .i64) w A0 l0.length l0) (hc0 : l0.length ≤ c0) (hr1 : Kd.C (Kd.int .i64) w A1 l1.length l1) (hc1 : l1.length ≤ c1) (h : chaffref01_Mul.f k l0 l1 = some r) :
    Calls Tryd.prog 35 #[.slice A0 l0.length c0, .slice A1 l1.length c1] w fun e w' => ∃ v0_ : Value, e = .returned (v0_) ∧ Kd.V (Kd.int .i64) 3 w' w.heap.size (fun k_ => (w.heap.size ≤ k_)) v0_ r ∧ Below w.heap.size w w' := by
  have HR0 := Aside0.mk hr0
  have HC0 := Aside0.mk hc0
  clear hr0 hc0
  have HR1 := Aside0.mk hr1
  have HC1 := Aside0.mk hc1
  clear hr1 hc1
  have HB := Aside0.mk (Below.refl w.heap.size w)
  have H : (if 0 ≤ (wrap64 ((l0.length : Int) + (l1.length : Int))) then (if (wrap64 ((l0.length : Int) + (l1.length : Int)) : Int).toNat ≤ 35184372088832 then (chaffref01_Mul.l0 k l0 l1 (List.replicate (wrap64 ((l0.length : Int) + (l1.length : Int)) : Int).toNat 0) 0) else (none)) else (none)) = some r := h
  clear h
  obtain ⟨ji3, hji3⟩ : ∃ j_ : Int, (wrap64 ((l0.length : Int) + (l1.length : Int))) = j_ := ⟨_, rfl⟩
  replace H : (if 0 ≤ (ji3) then (if (ji3 : Int).toNat ≤ 35184372088832 then (chaffref01_Mul.l0 k l0 l1 (List.replicate (ji3 : Int).toNat 0) 0) else (none)) else (none)) = some r := by first | (rw [hji3] at H; exact H) | (simp only [hji3] at H ⊢; exact H)
  have hji3w : (IntKind.i64.wrap ((l0.length : Int) + (l1.length : Int))) = ji3 := (i64_w _).trans hji3
  by_cases c4 : 0 ≤ (ji3)
  · rw [if_pos c4] at H
    have c4b0 := eq_true c4
    have c4b1 : decide (0 ≤ (ji3)) = true := decide_eq_true c4
    clear c4
    by_cases c5 : (ji3 : Int).toNat ≤ 35184372088832
    · rw [if_pos c5] at H
      have c5b0 := eq_true c5
      have c5b1 : decide ((ji3 : Int).toNat ≤ 35184372088832) = true := decide_eq_true c5
      clear c5
      obtain ⟨y256, hy256⟩ : ∃ y_ : List Int, y_ = (List.replicate (ji3 : Int).toNat 0) := ⟨_, rfl⟩
      replace H : (chaffref01_Mul.l0 k l0 l1 y256 0) = some r := by first | (rw [hy256]; with_reducible exact H) | (have H2_ := (Option.bind_some _ _).symm.trans H; rw [hy256]; with_reducible exact H2_) | (have H2_ := (Option.bind_some _ _).symm.trans H; with_reducible exact H2_) | with_reducible exact H | (rw [hy256]; exact H) | exact H
      have Ny256 := Aside0.mk hy256
      clear hy256
      have H' := Aside0.mk H
      clear H
      go_enter Tryd.func35, Tryd.ntmps35
      go_wp2_with (first | ((with_reducible refine gate_dst (N := 15) rfl ?_); refine Kd.R_make (Kd.int .i64) _ 3 rfl (N := 15) rfl 26 _ _ rfl ji3 rfl rfl Tryd.underlying26 (.int .i64 0) 8 info3 rfl (by decide) (by omega) 0 (ok := fun _ => True) (okp := fun _ => True) rfl (fun _ hk => hk) trivial (of_decide_eq_true (by first | (with_reducible assumption) | assumption)) (Nat.le_trans (Nat.mul_le_mul_right _ (of_decide_eq_true (by first | (with_reducible assumption) | assumption) : ji3.toNat ≤ 35184372088832)) (by omega)) (Below.refl _ _) (Nat.le_refl _) ?_; intro v257 w6 ho7 hb hg_ hnew_; clear hg_ hnew_; (first | rw [← Ny256.out] at ho7 | (simp only [Int.reduceToNat] at ho7; rw [← Ny256.out] at ho7)); have n0_ := Aside0.mk (Kd.R_lower (Kd.R_newM (M := fun k_ => (w.heap.size ≤ k_)) ho7 (below_size (by repeat (first | (with_reducible first | exact HB.out | apply below_alloc | apply pw_below_drewN | apply below_drew1) | exact HB.out))) (fun k_ h_ => h_)) (below_size (by repeat (first | (with_reducible first | exact HB.out | apply below_alloc | apply pw_below_drewN | apply below_drew1) | exact HB.out)))); have n1_ := Aside0.mk (below_step (by repeat (first | (with_reducible first | exact HB.out | apply below_alloc | apply pw_below_drewN | apply below_drew1) | exact HB.out)) hb); clear HB; have HO258 := n0_; have HB := n1_; clear n0_ n1_; clear hb ho7))
      repeat (go_quiet (first | ((with_reducible refine gate_dst (N := 15) rfl ?_); refine Kd.R_make (Kd.int .i64) _ 3 rfl (N := 15) rfl 26 _ _ rfl ji3 rfl rfl Tryd.underlying26 (.int .i64 0) 8 info3 rfl (by decide) (by omega) 0 (ok := fun _ => True) (okp := fun _ => True) rfl (fun _ hk => hk) trivial (of_decide_eq_true (by first | (with_reducible assumption) | assumption)) (Nat.le_trans (Nat.mul_le_mul_right _ (of_decide_eq_true (by first | (with_reducible assumption) | assumption) : ji3.toNat ≤ 35184372088832)) (by omega)) (Below.refl _ _) (Nat.le_refl _) ?_; intro v257 w6 ho7 hb hg_ hnew_; clear hg_ hnew_; (first | rw [← Ny256.out] at ho7 | (simp only [Int.reduceToNat] at ho7; rw [← Ny256.out] at ho7)); have n0_ := Aside0.mk (Kd.R_lower (Kd.R_newM (M := fun k_ => (w.heap.size ≤ k_)) ho7 (below_size (by repeat (first | (with_reducible first | exact HB.out | apply below_alloc | apply pw_below_drewN | apply below_drew1) | exact HB.out))) (fun k_ h_ => h_)) (below_size (by repeat (first | (with_reducible first | exact HB.out | apply below_alloc | apply pw_below_drewN | apply below_drew1) | exact HB.out)))); have n1_ := Aside0.mk (below_step (by repeat (first | (with_reducible first | exact HB.out | apply below_alloc | apply pw_below_drewN | apply below_drew1) | exact HB.out)) hb); clear HB; have HO258 := n0_; have HB := n1_; clear n0_ n1_; clear hb ho7)); try go_wp2_with (first | ((with_reducible refine gate_dst (N := 15) rfl ?_); refine Kd.R_make (Kd.int .i64) _ 3 rfl (N := 15) rfl 26 _ _ rfl ji3 rfl rfl Tryd.underlying26 (.int .i64 0) 8 info3 rfl (by decide) (by omega) 0 (ok := fun _ => True) (okp := fun _ => True) rfl (fun _ hk => hk) trivial (of_decide_eq_true (by first | (with_reducible assumption) | assumption)) (Nat.le_trans (Nat.mul_le_mul_right _ (of_decide_eq_true (by first | (with_reducible assumption) | assumption) : ji3.toNat ≤ 35184372088832)) (by omega)) (Below.refl _ _) (Nat.le_refl _) ?_; intro v257 w6 ho7 hb hg_ hnew_; clear hg_ hnew_; (first | rw [← Ny256.out] at ho7 | (simp only [Int.reduceToNat] at ho7; rw [← Ny256.out] at ho7)); have n0_ := Aside0.mk (Kd.R_lower (Kd.R_newM (M := fun k_ => (w.heap.size ≤ k_)) ho7 (below_size (by repeat (first | (with_reducible first | exact HB.out | apply below_alloc | apply pw_below_drewN | apply below_drew1) | exact HB.out))) (fun k_ h_ => h_)) (below_size (by repeat (first | (with_reducible first | exact HB.out | apply below_alloc | apply pw_below_drewN | apply below_drew1) | exact HB.out)))); have n1_ := Aside0.mk (below_step (by repeat (first | (with_reducible first | exact HB.out | apply below_alloc | apply pw_below_drewN | apply below_drew1) | exact HB.out)) hb); clear HB; have HO258 := n0_; have HB := n1_; clear n0_ n1_; clear hb ho7)))
      go_loopg [6] k (fun kq v6 w' => ∃ (x5_1 : List Int) (x6_1 : Int), v6 = .int .i64 x6_1 ∧ Aside0 (chaffref01_Mul.l0 kq l0 l1 x5_1 x6_1 = some r) ∧ Aside0 (kq ≤ k) ∧ Aside0 (Kd.R (Kd.int .i64) 3 w' w.heap.size (fun k_ => (w.heap.size ≤ k_)) v257 x5_1) ∧ Aside0 (Below w.heap.size w w'))
      case atStart => exact ⟨(y256), (0), (by first | rfl | (simp; done) | (simp [*]; done)), H', ⟨Nat.le_refl _⟩, ⟨by (with_reducible repeat (first | apply Kd.R_alloc | apply Kd.R_drewN | apply Kd.R_drew)); exact Kd.R_mono HO258.out (fun _ hk => hk.1)⟩, ⟨by repeat (first | (with_reducible first | exact HB.out | apply below_alloc | apply pw_below_drewN | apply below_drew1) | exact HB.out)⟩⟩
      case round =>
        clear H'
        try clear c1
        try clear p2
        try clear c3
        try clear c4
        try clear c4b0
        try clear c4b1
        try clear c5
        try clear c5b0
        try clear c5b1
        try clear p6
        obtain ⟨x5_1, x6_1, rfl, HA, HK1, HO_5, HB⟩ := hrel
        cases gk with
        | zero => exact absurd HA.out (by simp [chaffref01_Mul.l0])
        | succ k1 =>
          have H := HA.out
          clear HA
          simp only [chaffref01_Mul.l0] at H
          by_cases c8 : x6_1 < (l0.length : Int)
          · rw [if_pos c8] at H
            have c8b0 : decide (x6_1 < (l0.length : Int)) = true := decide_eq_true c8
            clear c8
            have H' := Aside0.mk H
            clear H
            go_wp2
            repeat (go_quiet (fail); try go_wp2)
            go_loopg [7, 8] k1 (fun kq v7 v8 w' => ∃ (x5_2 : List Int) (x7_2 : Int) (x8_2 : Int), v7 = .int .i64 x7_2 ∧ v8 = .int .i64 x8_2 ∧ Aside0 (chaffref01_Mul.l1 kq l0 l1 x5_2 x6_1 x7_2 x8_2 = some r) ∧ Aside0 (kq ≤ k1) ∧ Aside0 (Kd.R (Kd.int .i64) 3 w' w.heap.size (fun k_ => (w.heap.size ≤ k_)) v257 x5_2) ∧ Aside0 (Below w.heap.size w w'))
            case atStart => exact ⟨(x5_1), (0), (0), (by first | rfl | (simp; done) | (simp [*]; done)), (by first | rfl | (simp; done) | (simp [*]; done)), H', ⟨Nat.le_refl _⟩, ⟨by (with_reducible repeat (first | apply Kd.R_alloc | apply Kd.R_drewN | apply Kd.R_drew)); exact HO_5.out⟩, ⟨by repeat (first | (with_reducible first | exact HB.out | apply below_alloc | apply pw_below_drewN | apply below_drew1) | exact HB.out)⟩⟩
            case round =>
              clear H'
              try clear c1
              try clear p2
              try clear c3
              try clear c4
              try clear c4b0
              try clear c4b1
              try clear c5
              try clear c5b0
              try clear c5b1
              try clear p6
              try clear c8
              try clear c8b0
              try clear p2
              try clear p6
              obtain ⟨x5_2, x7_2, x8_2, rfl, rfl, HA, HK2, HO_5, HB⟩ := hrel
              cases gk with
              | zero => exact absurd HA.out (by simp [chaffref01_Mul.l1])
              | succ k2 =>
                have H := HA.out
                clear HA
                simp only [chaffref01_Mul.l1] at H
                by_cases c9 : x8_2 < (l1.length : Int)
                · rw [if_pos c9] at H
                  have c9b0 : decide (x8_2 < (l1.length : Int)) = true := decide_eq_true c9
                  clear c9
                  obtain ⟨ji10, hji10⟩ : ∃ j_ : Int, (wrap64 (x6_1 + x8_2)) = j_ := ⟨_, rfl⟩
                  replace H : (if 0 ≤ (ji10) then (if (ji10) < (x5_2.length : Int) then (if 0 ≤ x6_1 then (if x6_1 < (l0.length : Int) then (if 0 ≤ x8_2 then (chaffref01_Mul.l1 k2 l0 l1 (x5_2.set ((ji10) : Int).toNat (Int.tmod (wrap64 ((wrap64 ((rd x5_2 (ji10)) + (wrap64 ((rd l0 x6_1) * (rd l1 x8_2))))) + x7_2)) 65536)) x6_1 (wrap64 (Int.tdiv (wrap64 ((wrap64 ((rd x5_2 (ji10)) + (wrap64 ((rd l0 x6_1) * (rd l1 x8_2))))) + x7_2)) 65536)) (wrap64 (x8_2 + 1))) else (none)) else (none)) else (none)) else (none)) else (none)) = some r := by first | (rw [hji10] at H; exact H) | (simp only [hji10] at H ⊢; exact H)
                  have hji10w : (IntKind.i64.wrap (x6_1 + x8_2)) = ji10 := (i64_w _).trans hji10
                  by_cases c11 : 0 ≤ (ji10)
                  · rw [if_pos c11] at H
                    have c11b0 : decide (0 ≤ (ji10)) = true := decide_eq_true c11
                    clear c11
                    by_cases c12 : (ji10) < (x5_2.length : Int)
                    · rw [if_pos c12] at H
                      have c12b0 : decide ((ji10) < (x5_2.length : Int)) = true := decide_eq_true c12
                      clear c12
                      by_cases c13 : 0 ≤ x6_1
                      · rw [if_pos c13] at H
                        have c13b0 : decide (0 ≤ x6_1) = true := decide_eq_true c13
                        clear c13
                        by_cases c14 : x6_1 < (l0.length : Int)
                        · rw [if_pos c14] at H
                          have c14b0 : decide (x6_1 < (l0.length : Int)) = true := decide_eq_true c14
                          clear c14
                          by_cases c15 : 0 ≤ x8_2
                          · rw [if_pos c15] at H
                            have c15b0 : decide (0 ≤ x8_2) = true := decide_eq_true c15
                            clear c15
                            obtain ⟨y265, hy265⟩ : ∃ y_ : List Int, y_ = (x5_2.set ((ji10) : Int).toNat (Int.tmod (wrap64 ((wrap64 ((rd x5_2 (ji10)) + (wrap64 ((rd l0 x6_1) * (rd l1 x8_2))))) + x7_2)) 65536)) := ⟨_, rfl⟩
                            replace H : (chaffref01_Mul.l1 k2 l0 l1 y265 x6_1 (wrap64 (Int.tdiv (wrap64 ((wrap64 ((rd x5_2 (ji10)) + (wrap64 ((rd l0 x6_1) * (rd l1 x8_2))))) + x7_2)) 65536)) (wrap64 (x8_2 + 1))) = some r := by first | (rw [hy265]; with_reducible exact H) | (have H2_ := (Option.bind_some _ _).symm.trans H; rw [hy265]; with_reducible exact H2_) | (have H2_ := (Option.bind_some _ _).symm.trans H; with_reducible exact H2_) | with_reducible exact H | (rw [hy265]; exact H) | exact H
                            have Ny265 := Aside0.mk hy265
                            clear hy265
                            have H' := Aside0.mk H
                            clear H
                            obtain ⟨Ao17, co17, eo17⟩ := Kd.R_slice HO_5.out
                            subst eo17
                            have p262 : 0 ≤ ((ji10) : Int) := of_decide_eq_true (by first | (with_reducible assumption) | assumption)
                            have q262 : (ji10) < (x5_2.length : Int) := of_decide_eq_true (by first | (with_reducible assumption) | assumption)
                            obtain ⟨ad262, e262, hx262_0⟩ := Kd.at_int (Kd.R_reads' HO_5.out).2.2 (ji10) p262 q262
                            cases e262
                            replace p262 := eq_true p262
                            replace q262 := eq_true q262
                            have p263 : 0 ≤ (x6_1 : Int) := of_decide_eq_true (by first | (with_reducible assumption) | assumption)
                            have q263 : x6_1 < (l0.length : Int) := of_decide_eq_true (by first | (with_reducible assumption) | assumption)
                            obtain ⟨ad263, e263, hx263_0⟩ := Kd.at_int HR0.out x6_1 p263 q263
                            cases e263
                            replace hx263_0 := (HB.out.cell (World.block_lt_of_cell? w _ hx263_0)).trans hx263_0
                            replace p263 := eq_true p263
                            replace q263 := eq_true q263
                            have p264 : 0 ≤ (x8_2 : Int) := of_decide_eq_true (by first | (with_reducible assumption) | assumption)
                            have q264 : x8_2 < (l1.length : Int) := of_decide_eq_true (by first | (with_reducible assumption) | assumption)
                            obtain ⟨ad264, e264, hx264_0⟩ := Kd.at_int HR1.out x8_2 p264 q264
                            cases e264
                            replace hx264_0 := (HB.out.cell (World.block_lt_of_cell? w _ hx264_0)).trans hx264_0
                            replace p264 := eq_true p264
                            replace q264 := eq_true q264
                            have p16 : 0 ≤ ((ji10) : Int) := of_decide_eq_true (by first | (with_reducible assumption) | assumption)
                            have q16 : ((ji10) : Int) < ((x5_2.length : Int) : Int) := of_decide_eq_true (by first | (with_reducible assumption) | assumption)
                            obtain ⟨go16, co16, eo16, gb16, gl16, cl16, HG16⟩ := Kd.R_form HO_5.out (by omega)
                            (first | cases eo16 | (injection eo16 with ea_ en_ ec_; (first | subst ea_ | (injection ea_ with ea_; subst ea_)); subst ec_; clear en_))
                            have GB16 := Aside0.mk gb16
                            have GG16 := Aside0.mk HG16
                            clear gb16 gl16 HG16
                            (first | simp only [add_plain] at hx262_0 | skip)
                            obtain ⟨hx16_0, hf16_0⟩ := Kd.R_celln 0 HO_5.out ((ji10) : Int) p16 q16
                            replace p16 := eq_true p16
                            replace q16 := eq_true q16
                            have HP18 := Kd.R_putg HO_5.out ((ji10) : Int) (Int.tmod (wrap64 ((wrap64 ((rd x5_2 (ji10)) + (wrap64 ((rd l0 x6_1) * (rd l1 x8_2))))) + x7_2)) 65536)
                            go_wp2_with (first | ((with_reducible refine gate_store (t := 3) (p := 52) rfl ?_); (try (rw [drewN_self wr]; generalize hq_ : World.drewN wr _ = wr; have n0_ := Aside0.mk (Kd.R_at hq_ HO_5.out); have n1_ := Aside0.mk (below_at hq_ HB.out); clear hq_ HO_5 HB; have HO_5 := n0_; have HB := n1_; clear n0_ n1_; (try (have HP18 := Kd.R_putg HO_5.out ((ji10) : Int) (Int.tmod (wrap64 ((wrap64 ((rd x5_2 (ji10)) + (wrap64 ((rd l0 x6_1) * (rd l1 x8_2))))) + x7_2)) 65536))))); refine store_event (t := 3) (p := 52) (v := ?vo_w19) (w1 := (wr.setCell ⟨go16, ((ji10) : Int).toNat, none⟩ (.int .i64 (Int.tmod (wrap64 ((wrap64 ((rd x5_2 (ji10)) + (wrap64 ((rd l0 x6_1) * (rd l1 x8_2))))) + x7_2)) 65536)))) ?hg ?ho ?hn ?hr ?_; (case ho => rfl); (case hg => rfl); (case hn => rfl); (case hr => first | (go_simp; done) | (go_simp; rfl)); intro w19 hw; have hg : wr.grownBy w19 (some go16) := (by rw [hw]; exact HP18.2); have hp_ : Kd.R (Kd.int .i64) 3 w19 w.heap.size (fun k_ => (w.heap.size ≤ k_)) (.slice (some ⟨go16, 0, none⟩) x5_2.length co17) y265 := (by rw [hw, Ny265.out]; exact HP18.1); clear HP18; have n0_ := Aside0.mk (hp_); have n1_ := Aside0.mk ((by rw [hw]; exact below_set (HB.out) GB16.out : Below w.heap.size w w19)); clear HO_5; clear HB; have HO_5 := n0_; have HB := n1_; clear n0_ n1_; clear hg hw hp_))
                            repeat (go_quiet (first | ((with_reducible refine gate_store (t := 3) (p := 52) rfl ?_); (try (rw [drewN_self wr]; generalize hq_ : World.drewN wr _ = wr; have n0_ := Aside0.mk (Kd.R_at hq_ HO_5.out); have n1_ := Aside0.mk (below_at hq_ HB.out); clear hq_ HO_5 HB; have HO_5 := n0_; have HB := n1_; clear n0_ n1_; (try (have HP18 := Kd.R_putg HO_5.out ((ji10) : Int) (Int.tmod (wrap64 ((wrap64 ((rd x5_2 (ji10)) + (wrap64 ((rd l0 x6_1) * (rd l1 x8_2))))) + x7_2)) 65536))))); refine store_event (t := 3) (p := 52) (v := ?vo_w19) (w1 := (wr.setCell ⟨go16, ((ji10) : Int).toNat, none⟩ (.int .i64 (Int.tmod (wrap64 ((wrap64 ((rd x5_2 (ji10)) + (wrap64 ((rd l0 x6_1) * (rd l1 x8_2))))) + x7_2)) 65536)))) ?hg ?ho ?hn ?hr ?_; (case ho => rfl); (case hg => rfl); (case hn => rfl); (case hr => first | (go_simp; done) | (go_simp; rfl)); intro w19 hw; have hg : wr.grownBy w19 (some go16) := (by rw [hw]; exact HP18.2); have hp_ : Kd.R (Kd.int .i64) 3 w19 w.heap.size (fun k_ => (w.heap.size ≤ k_)) (.slice (some ⟨go16, 0, none⟩) x5_2.length co17) y265 := (by rw [hw, Ny265.out]; exact HP18.1); clear HP18; have n0_ := Aside0.mk (hp_); have n1_ := Aside0.mk ((by rw [hw]; exact below_set (HB.out) GB16.out : Below w.heap.size w w19)); clear HO_5; clear HB; have HO_5 := n0_; have HB := n1_; clear n0_ n1_; clear hg hw hp_)); try go_wp2_with (first | ((with_reducible refine gate_store (t := 3) (p := 52) rfl ?_); (try (rw [drewN_self wr]; generalize hq_ : World.drewN wr _ = wr; have n0_ := Aside0.mk (Kd.R_at hq_ HO_5.out); have n1_ := Aside0.mk (below_at hq_ HB.out); clear hq_ HO_5 HB; have HO_5 := n0_; have HB := n1_; clear n0_ n1_; (try (have HP18 := Kd.R_putg HO_5.out ((ji10) : Int) (Int.tmod (wrap64 ((wrap64 ((rd x5_2 (ji10)) + (wrap64 ((rd l0 x6_1) * (rd l1 x8_2))))) + x7_2)) 65536))))); refine store_event (t := 3) (p := 52) (v := ?vo_w19) (w1 := (wr.setCell ⟨go16, ((ji10) : Int).toNat, none⟩ (.int .i64 (Int.tmod (wrap64 ((wrap64 ((rd x5_2 (ji10)) + (wrap64 ((rd l0 x6_1) * (rd l1 x8_2))))) + x7_2)) 65536)))) ?hg ?ho ?hn ?hr ?_; (case ho => rfl); (case hg => rfl); (case hn => rfl); (case hr => first | (go_simp; done) | (go_simp; rfl)); intro w19 hw; have hg : wr.grownBy w19 (some go16) := (by rw [hw]; exact HP18.2); have hp_ : Kd.R (Kd.int .i64) 3 w19 w.heap.size (fun k_ => (w.heap.size ≤ k_)) (.slice (some ⟨go16, 0, none⟩) x5_2.length co17) y265 := (by rw [hw, Ny265.out]; exact HP18.1); clear HP18; have n0_ := Aside0.mk (hp_); have n1_ := Aside0.mk ((by rw [hw]; exact below_set (HB.out) GB16.out : Below w.heap.size w w19)); clear HO_5; clear HB; have HO_5 := n0_; have HB := n1_; clear n0_ n1_; clear hg hw hp_)))
                            go_roundg k2
                            case measure => have := HK1.out; have := HK2.out; omega
                            case rel => exact ⟨(y265), (wrap64 (Int.tdiv (wrap64 ((wrap64 ((rd x5_2 (ji10)) + (wrap64 ((rd l0 x6_1) * (rd l1 x8_2))))) + x7_2)) 65536)), (wrap64 (x8_2 + 1)), (by first | rfl | (simp; done) | (simp only [← hji10] <;> (first | rfl | simp)) | (simp [*]; done)), (by first | rfl | (simp; done) | (simp [*]; done)), H', ⟨by have := HK1.out; have := HK2.out; omega⟩, ⟨by (with_reducible repeat (first | apply Kd.R_alloc | apply Kd.R_drewN | apply Kd.R_drew)); first | exact HO_5.out | (rw [Ny265.out]; exact (Kd.R_putg (Kd.R_drewN HO_5.out _) _ _).1)⟩, ⟨by first | exact below_set (pw_below_drewN HB.out _) GB16.out | repeat (first | (with_reducible first | exact HB.out | apply below_alloc | apply pw_below_drewN | apply below_drew1) | exact HB.out)⟩⟩
                          · rw [if_neg c15] at H
                            exact absurd H (by simp)
                        · rw [if_neg c14] at H
                          exact absurd H (by simp)
                      · rw [if_neg c13] at H
                        exact absurd H (by simp)
                    · rw [if_neg c12] at H
                      exact absurd H (by simp)
                  · rw [if_neg c11] at H
                    exact absurd H (by simp)
                · rw [if_neg c9] at H
                  have c9b0 : decide (x8_2 < (l1.length : Int)) = false := decide_eq_false c9
                  clear c9
                  obtain ⟨ji20, hji20⟩ : ∃ j_ : Int, (wrap64 (x6_1 + (l1.length : Int))) = j_ := ⟨_, rfl⟩
                  replace H : (if 0 ≤ (ji20) then (if (ji20) < (x5_2.length : Int) then (chaffref01_Mul.l0 k2 l0 l1 (x5_2.set ((ji20) : Int).toNat x7_2) (wrap64 (x6_1 + 1))) else (none)) else (none)) = some r := by first | (rw [hji20] at H; exact H) | (simp only [hji20] at H ⊢; exact H)
                  have hji20w : (IntKind.i64.wrap (x6_1 + (l1.length : Int))) = ji20 := (i64_w _).trans hji20
                  by_cases c21 : 0 ≤ (ji20)
                  · rw [if_pos c21] at H
                    have c21b0 : decide (0 ≤ (ji20)) = true := decide_eq_true c21
                    clear c21
                    by_cases c22 : (ji20) < (x5_2.length : Int)
                    · rw [if_pos c22] at H
                      have c22b0 : decide ((ji20) < (x5_2.length : Int)) = true := decide_eq_true c22
                      clear c22
                      obtain ⟨y266, hy266⟩ : ∃ y_ : List Int, y_ = (x5_2.set ((ji20) : Int).toNat x7_2) := ⟨_, rfl⟩
                      replace H : (chaffref01_Mul.l0 k2 l0 l1 y266 (wrap64 (x6_1 + 1))) = some r := by first | (rw [hy266]; with_reducible exact H) | (have H2_ := (Option.bind_some _ _).symm.trans H; rw [hy266]; with_reducible exact H2_) | (have H2_ := (Option.bind_some _ _).symm.trans H; with_reducible exact H2_) | with_reducible exact H | (rw [hy266]; exact H) | exact H
                      have Ny266 := Aside0.mk hy266
                      clear hy266
                      have H' := Aside0.mk H
                      clear H
                      have p23 : 0 ≤ ((ji20) : Int) := of_decide_eq_true (by first | (with_reducible assumption) | assumption)
                      have q23 : ((ji20) : Int) < ((x5_2.length : Int) : Int) := of_decide_eq_true (by first | (with_reducible assumption) | assumption)
                      obtain ⟨go23, co23, eo23, gb23, gl23, cl23, HG23⟩ := Kd.R_form HO_5.out (by omega)
                      (first | cases eo23 | (injection eo23 with ea_ en_ ec_; (first | subst ea_ | (injection ea_ with ea_; subst ea_)); subst ec_; clear en_))
                      have GB23 := Aside0.mk gb23
                      have GG23 := Aside0.mk HG23
                      clear gb23 gl23 HG23
                      obtain ⟨hx23_0, hf23_0⟩ := Kd.R_celln 0 HO_5.out ((ji20) : Int) p23 q23
                      replace p23 := eq_true p23
                      replace q23 := eq_true q23
                      have HP24 := Kd.R_putg HO_5.out ((ji20) : Int) x7_2
                      go_wp2_with (first | ((with_reducible refine gate_store (t := 3) (p := 61) rfl ?_); (try (rw [drewN_self wr]; generalize hq_ : World.drewN wr _ = wr; have n0_ := Aside0.mk (Kd.R_at hq_ HO_5.out); have n1_ := Aside0.mk (below_at hq_ HB.out); clear hq_ HO_5 HB; have HO_5 := n0_; have HB := n1_; clear n0_ n1_; (try (have HP24 := Kd.R_putg HO_5.out ((ji20) : Int) x7_2)))); refine store_event (t := 3) (p := 61) (v := ?vo_w25) (w1 := (wr.setCell ⟨go23, ((ji20) : Int).toNat, none⟩ (.int .i64 x7_2))) ?hg ?ho ?hn ?hr ?_; (case ho => rfl); (case hg => rfl); (case hn => rfl); (case hr => first | (go_simp; done) | (go_simp; rfl)); intro w25 hw; have hg : wr.grownBy w25 (some go23) := (by rw [hw]; exact HP24.2); have hp_ : Kd.R (Kd.int .i64) 3 w25 w.heap.size (fun k_ => (w.heap.size ≤ k_)) (.slice (some ⟨go23, 0, none⟩) x5_2.length co23) y266 := (by rw [hw, Ny266.out]; exact HP24.1); clear HP24; have n0_ := Aside0.mk (hp_); have n1_ := Aside0.mk ((by rw [hw]; exact below_set (HB.out) GB23.out : Below w.heap.size w w25)); clear HO_5; clear HB; have HO_5 := n0_; have HB := n1_; clear n0_ n1_; clear hg hw hp_))
                      repeat (go_quiet (first | ((with_reducible refine gate_store (t := 3) (p := 61) rfl ?_); (try (rw [drewN_self wr]; generalize hq_ : World.drewN wr _ = wr; have n0_ := Aside0.mk (Kd.R_at hq_ HO_5.out); have n1_ := Aside0.mk (below_at hq_ HB.out); clear hq_ HO_5 HB; have HO_5 := n0_; have HB := n1_; clear n0_ n1_; (try (have HP24 := Kd.R_putg HO_5.out ((ji20) : Int) x7_2)))); refine store_event (t := 3) (p := 61) (v := ?vo_w25) (w1 := (wr.setCell ⟨go23, ((ji20) : Int).toNat, none⟩ (.int .i64 x7_2))) ?hg ?ho ?hn ?hr ?_; (case ho => rfl); (case hg => rfl); (case hn => rfl); (case hr => first | (go_simp; done) | (go_simp; rfl)); intro w25 hw; have hg : wr.grownBy w25 (some go23) := (by rw [hw]; exact HP24.2); have hp_ : Kd.R (Kd.int .i64) 3 w25 w.heap.size (fun k_ => (w.heap.size ≤ k_)) (.slice (some ⟨go23, 0, none⟩) x5_2.length co23) y266 := (by rw [hw, Ny266.out]; exact HP24.1); clear HP24; have n0_ := Aside0.mk (hp_); have n1_ := Aside0.mk ((by rw [hw]; exact below_set (HB.out) GB23.out : Below w.heap.size w w25)); clear HO_5; clear HB; have HO_5 := n0_; have HB := n1_; clear n0_ n1_; clear hg hw hp_)); try go_wp2_with (first | ((with_reducible refine gate_store (t := 3) (p := 61) rfl ?_); (try (rw [drewN_self wr]; generalize hq_ : World.drewN wr _ = wr; have n0_ := Aside0.mk (Kd.R_at hq_ HO_5.out); have n1_ := Aside0.mk (below_at hq_ HB.out); clear hq_ HO_5 HB; have HO_5 := n0_; have HB := n1_; clear n0_ n1_; (try (have HP24 := Kd.R_putg HO_5.out ((ji20) : Int) x7_2)))); refine store_event (t := 3) (p := 61) (v := ?vo_w25) (w1 := (wr.setCell ⟨go23, ((ji20) : Int).toNat, none⟩ (.int .i64 x7_2))) ?hg ?ho ?hn ?hr ?_; (case ho => rfl); (case hg => rfl); (case hn => rfl); (case hr => first | (go_simp; done) | (go_simp; rfl)); intro w25 hw; have hg : wr.grownBy w25 (some go23) := (by rw [hw]; exact HP24.2); have hp_ : Kd.R (Kd.int .i64) 3 w25 w.heap.size (fun k_ => (w.heap.size ≤ k_)) (.slice (some ⟨go23, 0, none⟩) x5_2.length co23) y266 := (by rw [hw, Ny266.out]; exact HP24.1); clear HP24; have n0_ := Aside0.mk (hp_); have n1_ := Aside0.mk ((by rw [hw]; exact below_set (HB.out) GB23.out : Below w.heap.size w w25)); clear HO_5; clear HB; have HO_5 := n0_; have HB := n1_; clear n0_ n1_; clear hg hw hp_)))
                      go_roundg k2
                      case measure => have := HK1.out; have := HK2.out; omega
                      case rel => exact ⟨(y266), (wrap64 (x6_1 + 1)), (by first | rfl | (simp; done) | (simp [*]; done)), H', ⟨by have := HK1.out; have := HK2.out; omega⟩, ⟨by (with_reducible repeat (first | apply Kd.R_alloc | apply Kd.R_drewN | apply Kd.R_drew)); first | exact HO_5.out | (rw [Ny265.out]; exact (Kd.R_putg (Kd.R_drewN HO_5.out _) _ _).1)⟩, ⟨by first | exact below_set (pw_below_drewN HB.out _) GB16.out | repeat (first | (with_reducible first | exact HB.out | apply below_alloc | apply pw_below_drewN | apply below_drew1) | exact HB.out)⟩⟩
                    · rw [if_neg c22] at H
                      exact absurd H (by simp)
                  · rw [if_neg c21] at H
                    exact absurd H (by simp)
          · rw [if_neg c8] at H
            have c8b0 : decide (x6_1 < (l0.length : Int)) = false := decide_eq_false c8
            clear c8
            replace H := Option.bind_eq_some_iff.mp H
            obtain ⟨t259, A260, H⟩ := H
            replace H : (some t259) = some r := H
            have A26 := Aside0.mk A260
            clear A260
            obtain rfl := Option.some.inj H
            obtain ⟨Ao27, co27, eo27⟩ := Kd.R_slice HO_5.out
            subst eo27
            go_wp2_with (first | (go_at_call 63; (with_reducible refine (chaffref01_trim.calls k1 (fun k_ => some k_ = (.slice Ao27 x5_1.length co27 : Value).ownBlock) _ _ x5_1 t259 _ ?side1 A26.out).mono ?_); (case side1 => exact Kd.R_V (Kd.R_tight rfl (HO_5.out))); rintro e w28 ⟨v260, rfl, ho0, hb⟩; have n0_ := Aside0.mk (Kd.R_below (by (with_reducible repeat (first | apply Kd.R_alloc | apply Kd.R_drewN | apply Kd.R_drew)); exact HO_5.out) hb); have n1_ := Aside0.mk (Kd.V_lower (Kd.V_mono (ok' := fun k_ => (w.heap.size ≤ k_)) ho0 (fun k_ hk_ => Or.elim hk_ (fun hs_ => ((HO_5.out).1 k_ hs_.symm)) (fun hn_ => (Nat.le_trans (below_size (by repeat (first | (with_reducible first | exact HB.out | apply below_alloc | apply pw_below_drewN | apply below_drew1) | exact HB.out))) hn_)))) (below_size (by repeat (first | (with_reducible first | exact HB.out | apply below_alloc | apply pw_below_drewN | apply below_drew1) | exact HB.out)))); have n2_ := Aside0.mk (below_step (by repeat (first | (with_reducible first | exact HB.out | apply below_alloc | apply pw_below_drewN | apply below_drew1) | exact HB.out)) hb); clear HO_5; clear HB; have HO_5 := n0_; have HO261 := n1_; have HB := n2_; clear n0_ n1_ n2_; (try clear hb); (try clear hb2); (try clear hk); (try clear hi); (try clear ho0)))
            repeat (go_quiet (first | (go_at_call 63; (with_reducible refine (chaffref01_trim.calls k1 (fun k_ => some k_ = (.slice Ao27 x5_1.length co27 : Value).ownBlock) _ _ x5_1 t259 _ ?side1 A26.out).mono ?_); (case side1 => exact Kd.R_V (Kd.R_tight rfl (HO_5.out))); rintro e w28 ⟨v260, rfl, ho0, hb⟩; have n0_ := Aside0.mk (Kd.R_below (by (with_reducible repeat (first | apply Kd.R_alloc | apply Kd.R_drewN | apply Kd.R_drew)); exact HO_5.out) hb); have n1_ := Aside0.mk (Kd.V_lower (Kd.V_mono (ok' := fun k_ => (w.heap.size ≤ k_)) ho0 (fun k_ hk_ => Or.elim hk_ (fun hs_ => ((HO_5.out).1 k_ hs_.symm)) (fun hn_ => (Nat.le_trans (below_size (by repeat (first | (with_reducible first | exact HB.out | apply below_alloc | apply pw_below_drewN | apply below_drew1) | exact HB.out))) hn_)))) (below_size (by repeat (first | (with_reducible first | exact HB.out | apply below_alloc | apply pw_below_drewN | apply below_drew1) | exact HB.out)))); have n2_ := Aside0.mk (below_step (by repeat (first | (with_reducible first | exact HB.out | apply below_alloc | apply pw_below_drewN | apply below_drew1) | exact HB.out)) hb); clear HO_5; clear HB; have HO_5 := n0_; have HO261 := n1_; have HB := n2_; clear n0_ n1_ n2_; (try clear hb); (try clear hb2); (try clear hk); (try clear hi); (try clear ho0))); try go_wp2_with (first | (go_at_call 63; (with_reducible refine (chaffref01_trim.calls k1 (fun k_ => some k_ = (.slice Ao27 x5_1.length co27 : Value).ownBlock) _ _ x5_1 t259 _ ?side1 A26.out).mono ?_); (case side1 => exact Kd.R_V (Kd.R_tight rfl (HO_5.out))); rintro e w28 ⟨v260, rfl, ho0, hb⟩; have n0_ := Aside0.mk (Kd.R_below (by (with_reducible repeat (first | apply Kd.R_alloc | apply Kd.R_drewN | apply Kd.R_drew)); exact HO_5.out) hb); have n1_ := Aside0.mk (Kd.V_lower (Kd.V_mono (ok' := fun k_ => (w.heap.size ≤ k_)) ho0 (fun k_ hk_ => Or.elim hk_ (fun hs_ => ((HO_5.out).1 k_ hs_.symm)) (fun hn_ => (Nat.le_trans (below_size (by repeat (first | (with_reducible first | exact HB.out | apply below_alloc | apply pw_below_drewN | apply below_drew1) | exact HB.out))) hn_)))) (below_size (by repeat (first | (with_reducible first | exact HB.out | apply below_alloc | apply pw_below_drewN | apply below_drew1) | exact HB.out)))); have n2_ := Aside0.mk (below_step (by repeat (first | (with_reducible first | exact HB.out | apply below_alloc | apply pw_below_drewN | apply below_drew1) | exact HB.out)) hb); clear HO_5; clear HB; have HO_5 := n0_; have HO261 := n1_; have HB := n2_; clear n0_ n1_ n2_; (try clear hb); (try clear hb2); (try clear hk); (try clear hi); (try clear ho0))))
            go_ret
            exact ⟨_, by first | rfl | (simp [errW_none, errW_some] <;> rfl) | (simp only [← hji3]; first | rfl | (simp [errW_none, errW_some] <;> rfl)) | (simp [*, errW_none, errW_some] <;> rfl), by (with_reducible repeat (first | apply Kd.V_alloc | apply Kd.V_drewN | apply Kd.V_drew)); exact HO261.out, by repeat (first | (with_reducible first | exact HB.out | apply below_alloc | apply pw_below_drewN | apply below_drew1) | exact HB.out)⟩
    · rw [if_neg c5] at H
      exact absurd H (by simp)
  · rw [if_neg c4] at H
    exact absurd H (by simp)
end Go.Proofs.YtgkdealidnidiaaDoor.Na
namespace Go.Proofs.YtgkdealidnidiaaDoor.Na
open Go.RowKit Go.Proofs.YtgkdealidnidiaaDoorW.PrintWords Go.Proofs.YtgkdealidnidiaaDoorW.PrintLast Go.Proofs.YtgkdealidnidiaaDoorW.PrintMore Go.Proofs.YtgkdealidnidiaaDoor.Dg
def nb (n : Nat) : Nat := if n = 0 then 0 else Nat.log2 n + 1
theorem nb_le (n k : Nat) : nb n ≤ k ↔ n < 2 ^ k := by
  unfold nb
  by_cases h : n = 0
  · subst h; simp; exact Nat.pow_pos (by decide)
  · rw [if_neg h, ← Nat.log2_lt h]; omega
theorem nb_eq {n r : Nat} (h1 : n < 2 ^ r) (h2 : r = 0 ∨ 2 ^ (r - 1) ≤ n) : nb n = r := by
  have a := (nb_le n r).2 h1
  rcases h2 with h2 | h2
  · omega
  · rcases Nat.lt_or_ge (nb n) r with h | h
    · have := (nb_le n (r - 1)).1 (by omega); omega
    · omega
theorem nb_zero : nb 0 = 0 := rfl
theorem nb_pos {n : Nat} (h : 0 < n) : 0 < nb n := by unfold nb; rw [if_neg (by omega)]; omega
theorem nb_lt (n : Nat) : n < 2 ^ nb n := (nb_le n _).1 (Nat.le_refl _)
theorem nb_ge {n : Nat} (h : 0 < n) : 2 ^ (nb n - 1) ≤ n := by
  have := nb_pos h
  have h2 := mt (nb_le n (nb n - 1)).2 (by omega)
  omega
theorem nb_split {v s w : Nat} (hv : v < 2 ^ s) (hw : 0 < w) : nb (v + 2 ^ s * w) = s + nb w := by
  have p := Nat.pow_pos (n := s) (show 0 < 2 by decide)
  apply nb_eq
  · rw [Nat.pow_add]
    have h1 : 2 ^ s * (w + 1) ≤ 2 ^ s * 2 ^ nb w := Nat.mul_le_mul_left _ (nb_lt w)
    rw [Nat.mul_add] at h1; omega
  · right
    have h0 := nb_pos hw
    rw [show s + nb w - 1 = s + (nb w - 1) by omega, Nat.pow_add]
    have h1 : 2 ^ s * 2 ^ (nb w - 1) ≤ 2 ^ s * w := Nat.mul_le_mul_left _ (nb_ge hw)
    omega
theorem nb_half {n : Nat} (h : 0 < n) : nb n = nb (n / 2) + 1 := by
  by_cases h1 : n / 2 = 0
  · have : n = 1 := by omega
    subst this; rfl
  · have := nb_split (v := n % 2) (s := 1) (w := n / 2) (by omega) (by omega)
    rw [show n % 2 + 2 ^ 1 * (n / 2) = n by omega] at this
    omega
theorem bitLenAux_nb : ∀ (f x : Nat), x < 2 ^ f → Lib.bitLenAux f x = nb x
  | 0, x, h => by
    have : x = 0 := by simpa using h
    subst this; rfl
  | f + 1, x, h => by
    simp only [Lib.bitLenAux]
    by_cases h0 : x = 0
    · rw [if_pos h0, h0]; rfl
    · have hp := nb_half (n := x) (by omega)
      rw [if_neg h0, bitLenAux_nb f (x / 2) (by rw [Nat.pow_succ] at h; omega)]; omega
theorem bitLen_nb {x : Nat} (h : x < 18446744073709551616) : Lib.bitLen x = nb x := bitLenAux_nb 64 x (by rw [show 2 ^ 64 = 18446744073709551616 by decide]; exact h)
theorem wd_last {b x : Nat} (hb : 2 ≤ b) (h : 0 < x) : ∃ m lw, ∃ v w : Nat, wd b x = m ++ [lw] ∧ lw = (w : Int) ∧ 0 < w ∧ w < b ∧ v < b ^ m.length ∧ x = v + b ^ m.length * w := by
  rcases wd_NZ hb x with h0 | ⟨m, lw, e, hlw⟩
  · exact absurd h0 (wd_ne hb h)
  · have hR := wd_R hb x
    have hV := wd_V hb x
    rw [e] at hR hV
    have r := hR lw (by simp)
    have hRm := (R_append.1 hR).1
    have v0 := V_nonneg (b := (b : Int)) (by omega) hRm
    have v1 := V_lt (b := (b : Int)) (by omega) hRm
    rw [V_snoc] at hV
    obtain ⟨w, rfl⟩ := Int.eq_ofNat_of_zero_le r.1
    obtain ⟨v, hv⟩ := Int.eq_ofNat_of_zero_le v0
    rw [hv] at hV v1
    refine ⟨m, w, v, w, e, rfl, by omega, by omega, ?_, ?_⟩
    · rw [← Int.natCast_pow] at v1; omega
    · rw [← Int.natCast_pow, ← Int.natCast_mul, ← Int.natCast_add] at hV; omega
theorem pow64 (n : Nat) : BW ^ n = 2 ^ (64 * n) := by rw [show BW = 2 ^ 64 by decide, ← Nat.pow_mul]
theorem pow16 (n : Nat) : BD ^ n = 2 ^ (16 * n) := by rw [show BD = 2 ^ 16 by decide, ← Nat.pow_mul]
theorem nbits_ev (x : Nat) (hx : (wd BW x).length ≤ 1000000) : Ev (fun k => nat_Nat_Bits.f k (wd BW x)) (nb x : Int) := by
  by_cases h0 : x = 0
  · subst h0
    rw [wd_zero]
    exact Ev.congr (f := fun _ => some 0) (fun k => by unfold nat_Nat_Bits.f; rw [if_pos (by simp)]) (Ev.now _)
  · obtain ⟨m, lw, v, w, e, rfl, hw, hwb, hv, hxe⟩ := wd_last (b := BW) (by decide) (show 0 < x by omega)
    rw [e] at hx ⊢
    have hl : ((m ++ [(w : Int)]).length : Int) = (m.length : Int) + 1 := by simp
    have hw1 : wrap64 ((((m ++ [(w : Int)]).length : Nat) : Int) - 1) = (m.length : Int) := by rw [w64] <;> omega
    have hb : w < 18446744073709551616 := hwb
    have hn : nb x = 64 * m.length + nb w := by rw [hxe, pow64]; exact nb_split (by rw [← pow64]; exact hv) hw
    have hnw : nb w ≤ 64 := (nb_le w 64).2 hb
    refine Ev.step (f := fun k => some (nb x : Int)) (fun k => ?_) (Ev.now _)
    unfold nat_Nat_Bits.f
    rw [if_neg (by omega), hw1, if_pos (by omega), if_pos (by omega), rd_snoc]
    simp only [bits_Len64.f]
    rw [if_pos (by omega), Int.toNat_natCast, bitLen_nb hb]
    simp only [Option.bind_some]
    rw [w64 (x := 64 * (m.length : Int)) (by omega) (by omega), w64 (by omega) (by omega), hn]; simp
theorem rbits_loop : ∀ (f x n : Nat), x < 2 ^ f → f ≤ 64 → n + f ≤ 1000000000 → Ev (fun k => chaffref01_Bits.l0 k n x) ((n + nb x : Nat) : Int)
  | 0, x, n, h, _, _ => by
    have : x = 0 := by simpa using h
    subst this
    exact Ev.step (f := fun _ => some (n : Int)) (fun k => by rw [chaffref01_Bits.l0, if_neg (by decide)]) (Ev.now _)
  | f + 1, x, n, h, hf, hn => by
    by_cases h0 : x = 0
    · subst h0
      exact Ev.step (f := fun _ => some (n : Int)) (fun k => by rw [chaffref01_Bits.l0, if_neg (by decide)]) (Ev.now _)
    · have h2 : x < 2 ^ 64 := Nat.lt_of_lt_of_le h (Nat.pow_le_pow_right (by decide) hf)
      have h3 : x / 2 < 2 ^ f := by rw [Nat.pow_succ] at h; omega
      rw [nb_half (show 0 < x by omega), show n + (nb (x / 2) + 1) = n + 1 + nb (x / 2) by omega]
      refine Ev.step (fun k => ?_) (rbits_loop f (x / 2) (n + 1) h3 (by omega) (by omega))
      have e : Int.tdiv (x : Int) 2 = ((x / 2 : Nat) : Int) := by rw [Int.tdiv_eq_ediv_of_nonneg (by omega)]; omega
      rw [chaffref01_Bits.l0, if_pos (by omega), e, w64 (x := (n : Int) + 1) (by omega) (by omega), w64 (by omega) (by omega)]; rfl
theorem rbits_ev (x : Nat) (hx : (wd BD x).length ≤ 1000000) : Ev (fun k => chaffref01_Bits.f k (wd BD x)) (nb x : Int) := by
  by_cases h0 : x = 0
  · subst h0
    rw [wd_zero]
    exact Ev.congr (f := fun _ => some 0) (fun k => by unfold chaffref01_Bits.f; rw [if_pos (by simp)]) (Ev.now _)
  · obtain ⟨m, lw, v, w, e, rfl, hw, hwb, hv, hxe⟩ := wd_last (b := BD) (by decide) (show 0 < x by omega)
    rw [e] at hx ⊢
    have hl : ((m ++ [(w : Int)]).length : Int) = (m.length : Int) + 1 := by simp
    have hw1 : wrap64 ((((m ++ [(w : Int)]).length : Nat) : Int) - 1) = (m.length : Int) := by rw [w64] <;> omega
    have hn : nb x = 16 * m.length + nb w := by rw [hxe, pow16]; exact nb_split (by rw [← pow16]; exact hv) hw
    have hb : w < 65536 := hwb
    refine Ev.congr (f := fun k => chaffref01_Bits.l0 k ((16 * m.length : Nat) : Int) w) (fun k => ?_) (by rw [hn]; exact rbits_loop 16 w _ hwb (by decide) (by omega))
    unfold chaffref01_Bits.f
    rw [if_neg (by omega), hw1, if_pos (by omega), if_pos (by omega), rd_snoc, w64 (by omega) (by omega)]; simp
theorem row_step {b Q d vo v0 c a VB o y c' bj : Int} (h : vo + Q * d * c = v0 + Q * (a * VB)) (hs : y + b * c' = a * bj + o + c) :
    (vo + Q * d * (y - o)) + Q * (d * b) * c' = v0 + Q * (a * (VB + d * bj)) := by grind
structure Row (b : Nat) (a bb : List Int) (i j : Nat) (v0 : Int) (o : List Int) (c : Int) : Prop where
  len : o.length = a.length + bb.length
  r : R b o
  c0 : 0 ≤ c
  c1 : c < b
  z : ∀ p, i + bb.length ≤ p → o.getD p 0 = 0
  v : V b o + (b : Int) ^ i * (b : Int) ^ j * c = v0 + (b : Int) ^ i * (a.getD i 0 * V b (bb.take j))
theorem Row.step {b : Nat} {a bb : List Int} {i j : Nat} {v0 : Int} {o : List Int} {c y c' : Int} (h : Row b a bb i j v0 o c) (hi : i < a.length) (hj : j < bb.length) (hs : y + b * c' = a.getD i 0 * bb.getD j 0 + o.getD (i + j) 0 + c) (hy0 : 0 ≤ y) (hy1 : y < b) (hc0 : 0 ≤ c') (hc1 : c' < b) :
    Row b a bb i (j + 1) v0 (o.set (i + j) y) c' := by
  refine ⟨by rw [List.length_set]; exact h.len, R_set h.r _ hy0 hy1, hc0, hc1, fun p hp => ?_, ?_⟩
  · have hz := h.z p hp
    rw [List.getD_eq_getElem?_getD] at hz ⊢
    rw [List.getElem?_set_ne (by omega)]; exact hz
  · have hl := h.len
    rw [V_set _ _ _ _ (by omega), V_take_succ _ _ _ hj, Int.pow_succ, Int.pow_add]
    exact row_step h.v hs
theorem Row.close {b : Nat} {a bb : List Int} {i : Nat} {o : List Int} {c : Int} (h : Row b a bb i bb.length (V b (a.take i) * V b bb) o c) (hi : i < a.length) :
    R b (o.set (i + bb.length) c) ∧ (o.set (i + bb.length) c).length = a.length + bb.length ∧ (∀ p, i + 1 + bb.length ≤ p → (o.set (i + bb.length) c).getD p 0 = 0) ∧ V b (o.set (i + bb.length) c) = V b (a.take (i + 1)) * V b bb := by
  have hl := h.len
  refine ⟨R_set h.r _ h.c0 h.c1, by rw [List.length_set]; exact hl, fun p hp => ?_, ?_⟩
  · have hz := h.z p (by omega)
    rw [List.getD_eq_getElem?_getD] at hz ⊢
    rw [List.getElem?_set_ne (by omega)]; exact hz
  · have hz := h.z (i + bb.length) (Nat.le_refl _)
    have hv := h.v
    rw [V_take_all _ _ (Nat.le_refl _)] at hv
    rw [V_set _ _ _ _ (by omega), hz, V_take_succ _ _ _ hi, Int.pow_add]
    have : (V b (a.take i) + (b : Int) ^ i * a.getD i 0) * V b bb = V b (a.take i) * V b bb + (b : Int) ^ i * (a.getD i 0 * V b bb) := by grind
    rw [this, ← hv, Int.sub_zero]
theorem Row.start {b : Nat} (hb : 2 ≤ b) {a bb : List Int} {i : Nat} {o : List Int} (hr : R b o) (hl : o.length = a.length + bb.length) (hz : ∀ p, i + bb.length ≤ p → o.getD p 0 = 0) (hv : V b o = V b (a.take i) * V b bb) : Row b a bb i 0 (V b (a.take i) * V b bb) o 0 :=
  ⟨hl, hr, by decide, by omega, hz, by rw [hv]; simp [V]⟩
theorem dig_sum {b : Nat} {x y o c : Int} (hx0 : 0 ≤ x) (hx1 : x < b) (hy0 : 0 ≤ y) (hy1 : y < b) (ho1 : o < b) (hc1 : c < b) : x * y + o + c < b * b := by
  have h1 : x * y ≤ (b - 1 : Int) * (b - 1) := Int.mul_le_mul (by omega) (by omega) hy0 (by omega)
  have h2 : (b - 1 : Int) * (b - 1) = b * b - 2 * b + 1 := by grind
  omega
theorem mul_ex {x y : Int} (h0 : 0 ≤ x) (h1 : x < 18446744073709551616) (h2 : 0 ≤ y) (h3 : y < 18446744073709551616) :
    ∃ hi lo, bits_Mul64.f x y = some (hi, lo) ∧ lo + 18446744073709551616 * hi = x * y ∧ 0 ≤ lo ∧ lo < 18446744073709551616 ∧ 0 ≤ hi := by
  have hp := prod_lt h0 h1 h2 h3
  exact ⟨_, _, mul_some h0 h1 h2 h3, Int.emod_add_mul_ediv _ _, (emod_range (by decide)).1, (emod_range (by decide)).2, Int.ediv_nonneg hp.1 (by decide)⟩
theorem add_ex {x y c : Int} (h0 : 0 ≤ x) (h2 : 0 ≤ y) (h3 : 0 ≤ c) (h4 : c ≤ 1) :
    ∃ s c', bits_Add64.f x y c = some (s, c') ∧ s + 18446744073709551616 * c' = x + y + c ∧ 0 ≤ s ∧ s < 18446744073709551616 ∧ 0 ≤ c' :=
  ⟨_, _, add_some h0 h2 h3 h4, Int.emod_add_mul_ediv _ _, (emod_range (by decide)).1, (emod_range (by decide)).2, Int.ediv_nonneg (by omega) (by decide)⟩
theorem nmul_l1 (k : Nat) (o a bb : List Int) (i j : Nat) (c hi1 lo s1 c1 y c2 : Int) (hi : i < a.length) (hj : j < bb.length) (hl : o.length = a.length + bb.length) (hn : a.length + bb.length ≤ 1000000000)
    (em : bits_Mul64.f (a.getD i 0) (bb.getD j 0) = some (hi1, lo)) (ea : bits_Add64.f lo (o.getD (i + j) 0) 0 = some (s1, c1)) (eb : bits_Add64.f s1 c 0 = some (y, c2)) :
    IntKind.u64.wrap (hi1 + c1) = hi1 + c1 → IntKind.u64.wrap (hi1 + c1 + c2) = hi1 + c1 + c2 → nat_Nat_Mul.l1 (k + 1) o i c a.length i bb.length j a bb = nat_Nat_Mul.l1 k (o.set (i + j) y) i (hi1 + c1 + c2) a.length i bb.length ((j + 1 : Nat) : Int) a bb := by
  have e : wrap64 ((i : Int) + (j : Int)) = ((i + j : Nat) : Int) := by rw [w64 (by omega) (by omega)]; rfl
  have ej : wrap64 ((j : Int) + 1) = ((j + 1 : Nat) : Int) := by rw [w64 (by omega) (by omega)]; rfl
  have g1 : (j : Int) < (bb.length : Int) := by omega
  have g2 : (0 : Int) ≤ (i : Int) := by omega
  have g3 : (i : Int) < (a.length : Int) := by omega
  have g4 : (0 : Int) ≤ (j : Int) := by omega
  have g5 : (0 : Int) ≤ ((i + j : Nat) : Int) := by omega
  have g6 : ((i + j : Nat) : Int) < (o.length : Int) := by omega
  intro hu1 hu2
  rw [nat_Nat_Mul.l1, if_pos g1, if_pos g2, if_pos g3, if_pos g4, if_pos g1, rd_nat, rd_nat, em, Option.bind_some, e, if_pos g5, if_pos g6, rd_nat, ea, Option.bind_some, eb, Option.bind_some, Int.toNat_natCast, ej, hu1, hu2]
theorem nmul_l1_end (k : Nat) (o a bb : List Int) (i : Nat) (c : Int) (hi : i < a.length) (hl : o.length = a.length + bb.length) (hn : a.length + bb.length ≤ 1000000000) :
    nat_Nat_Mul.l1 (k + 1) o i c a.length i bb.length bb.length a bb = nat_Nat_Mul.l0 k (o.set (i + bb.length) c) a.length ((i + 1 : Nat) : Int) a bb := by
  have e : wrap64 ((i : Int) + (bb.length : Int)) = ((i + bb.length : Nat) : Int) := by rw [w64 (by omega) (by omega)]; rfl
  have ei : wrap64 ((i : Int) + 1) = ((i + 1 : Nat) : Int) := by rw [w64 (by omega) (by omega)]; rfl
  rw [nat_Nat_Mul.l1, if_neg (by omega), e, if_pos (by omega), if_pos (by omega), Int.toNat_natCast, ei]
theorem nmul_row (a bb : List Int) (hRa : R BW a) (hRb : R BW bb) (hn : a.length + bb.length ≤ 1000000000) (i : Nat) (hi : i < a.length) (v0 : Int) :
    ∀ (d j : Nat) (o : List Int) (c : Int), j + d = bb.length → Row BW a bb i j v0 o c →
      ∃ o' c', Row BW a bb i bb.length v0 o' c' ∧ ∀ r, Ev (fun k => nat_Nat_Mul.l0 k (o'.set (i + bb.length) c') a.length ((i + 1 : Nat) : Int) a bb) r → Ev (fun k => nat_Nat_Mul.l1 k o i c a.length i bb.length j a bb) r
  | 0, j, o, c, hj, h => by
    obtain rfl : j = bb.length := by omega
    refine ⟨o, c, h, fun r hr => Ev.step (fun k => ?_) hr⟩
    have hl := h.len
    exact nmul_l1_end k o a bb i c hi hl hn
  | d + 1, j, o, c, hj, h => by
    have hl := h.len
    have ra := R_getD hRa (by decide) i
    have rb := R_getD hRb (by decide) j
    have ro := R_getD h.r (by decide) (i + j)
    have hc0 := h.c0
    have hc1 := h.c1
    have hBW := BWi
    have hsum := dig_sum (b := BW) (o := o.getD (i + j) 0) (c := c) ra.1 ra.2 rb.1 rb.2 ro.2 hc1
    rw [hBW] at ra rb ro hc1 hsum
    have hstep := fun (y c' : Int) hs hy0 hy1 hd0 hd1 => h.step (y := y) (c' := c') hi (show j < bb.length by omega) hs hy0 hy1 hd0 hd1
    rw [hBW] at hstep
    obtain ⟨hi1, lo, em, em2, lo0, lo1, hi0⟩ := mul_ex ra.1 ra.2 rb.1 rb.2
    obtain ⟨s1, c1, ea, ea2, s10, s11, c10⟩ := add_ex (c := 0) lo0 ro.1 (by decide) (by decide)
    obtain ⟨y, c2, eb, eb2, y0, y1, c20⟩ := add_ex (c := 0) s10 hc0 (by decide) (by decide)
    generalize a.getD i 0 * bb.getD j 0 = P at em2 hsum hstep
    have hcr : 0 ≤ hi1 + c1 + c2 ∧ hi1 + c1 + c2 < 18446744073709551616 := by clear hstep em ea eb; omega
    have hsm : y + 18446744073709551616 * (hi1 + c1 + c2) = P + o.getD (i + j) 0 + c := by clear hstep em ea eb; omega
    have hu0 : 0 ≤ hi1 + c1 ∧ hi1 + c1 < 18446744073709551616 := by clear hstep em ea eb; omega
    obtain ⟨o', c3, hrow, hev⟩ := nmul_row a bb hRa hRb hn i hi v0 d (j + 1) _ _ (by omega) (hstep y (hi1 + c1 + c2) hsm y0 y1 hcr.1 hcr.2)
    refine ⟨o', c3, hrow, fun r hr => Ev.step (fun k => ?_) (hev r hr)⟩
    exact nmul_l1 k o a bb i j c hi1 lo s1 c1 y c2 hi (by omega) hl hn em ea eb (u64w hu0.1 hu0.2) (u64w hcr.1 hcr.2)
theorem nmul_loop (a bb : List Int) (m : Nat) (hRa : R BW a) (hRb : R BW bb) (hn : a.length + bb.length ≤ 1000000000) (hm : V BW a * V BW bb = m) : ∀ (d i : Nat) (o : List Int), i + d = a.length → R BW o → o.length = a.length + bb.length →
    (∀ p, i + bb.length ≤ p → o.getD p 0 = 0) → V BW o = V BW (a.take i) * V BW bb → Ev (fun k => nat_Nat_Mul.l0 k o a.length i a bb) (fitA m, fitE m)
  | 0, i, o, hi, hr, hl, hz, hv => by
    obtain rfl : i = a.length := by omega
    refine Ev.step (f := fun k => (nat_fit.f k o).bind fun bt => some (bt.1, bt.2)) (fun k => by rw [nat_Nat_Mul.l0, if_neg (by omega)]) ?_
    exact Ev.bind (fit_ev o m hr (by rw [hv, V_take_all _ _ (Nat.le_refl _), hm]) (by omega)) (Ev.now _)
  | d + 1, i, o, hi, hr, hl, hz, hv => by
    obtain ⟨o', c', hrow, hev⟩ := nmul_row a bb hRa hRb hn i (by omega) _ bb.length 0 o 0 (by omega) (Row.start (by decide) hr hl hz hv)
    obtain ⟨h1, h2, h3, h4⟩ := hrow.close (by omega)
    refine Ev.step (fun k => ?_) (hev _ (nmul_loop a bb m hRa hRb hn hm d (i + 1) _ (by omega) h1 h2 h3 h4))
    rw [nat_Nat_Mul.l0, if_pos (by omega)]; rfl
theorem fits_nb (n : Nat) : (wd BW n).length ≤ 64 ↔ nb n ≤ 4096 := by
  have e : 64 * 64 = 4096 := by decide
  rw [len_le_iff (by decide), nb_le, pow64, e]
theorem nmul_ev (x y : Nat) (hx : (wd BW x).length ≤ 64) (hy : (wd BW y).length ≤ 64) : Ev (fun k => nat_Nat_Mul.f k (wd BW x) (wd BW y)) (fitA (x * y), fitE (x * y)) := by
  have bx := (fits_nb x).1 hx
  have by_ := (fits_nb y).1 hy
  unfold nat_Nat_Mul.f
  refine Ev.bind (nbits_ev x (by omega)) (Ev.bind (nbits_ev y (by omega)) ?_)
  rw [w64 (x := (nb x : Int) + (nb y : Int)) (by omega) (by omega)]
  have hlen : (wd BW x).length + (wd BW y).length ≤ 128 := by omega
  by_cases h : (nb x : Int) + (nb y : Int) > 4097
  · have hx0 : 0 < x := by
      rcases Nat.eq_zero_or_pos x with h0 | h0
      · subst h0; rw [nb_zero] at h; omega
      · exact h0
    have hy0 : 0 < y := by
      rcases Nat.eq_zero_or_pos y with h0 | h0
      · subst h0; rw [nb_zero] at h; omega
      · exact h0
    have hp : ¬ (wd BW (x * y)).length ≤ 64 := by
      obtain ⟨K, hK⟩ : ∃ K, 4096 = K := ⟨_, rfl⟩
      rw [fits_nb, nb_le, hK]
      have h1 : 2 ^ (nb x - 1) * 2 ^ (nb y - 1) ≤ x * y := Nat.mul_le_mul (nb_ge hx0) (nb_ge hy0)
      rw [← Nat.pow_add] at h1
      have h2 : 2 ^ K ≤ 2 ^ (nb x - 1 + (nb y - 1)) := Nat.pow_le_pow_right (by decide) (by omega)
      exact Nat.not_lt.2 (Nat.le_trans h2 h1)
    refine Ev.congr (f := fun _ => some (fitA (x * y), fitE (x * y))) (fun k => ?_) (Ev.now _)
    unfold fitA fitE
    rw [if_pos h, if_neg hp, if_neg hp]
  · have e : wrap64 (((wd BW x).length : Int) + ((wd BW y).length : Int)) = (((wd BW x).length + (wd BW y).length : Nat) : Int) := by rw [w64 (by omega) (by omega)]; rfl
    refine Ev.congr (f := fun k => nat_Nat_Mul.l0 k (List.replicate ((wd BW x).length + (wd BW y).length) 0) (wd BW x).length ((0 : Nat) : Int) (wd BW x) (wd BW y)) (fun k => ?_) ?_
    · rw [if_neg h, e, Int.toNat_natCast, if_pos (by omega), if_pos (by omega)]; rfl
    · clear e
      refine nmul_loop _ _ (x * y) (wd_R (by decide) x) (wd_R (by decide) y) (by omega) (by rw [wd_V (by decide), wd_V (by decide)]; simp) (wd BW x).length 0 _ (by omega) (R_zeros (by decide) _) (by simp) (fun p _ => ?_) (by rw [V_zeros]; simp [V])
      rw [List.getD_eq_getElem?_getD]
      rcases Nat.lt_or_ge p ((wd BW x).length + (wd BW y).length) with hp | hp
      · rw [List.getElem?_replicate, if_pos hp]; rfl
      · rw [List.getElem?_eq_none (by simp; omega)]; rfl
end Go.Proofs.YtgkdealidnidiaaDoor.Na
namespace Go.Proofs.YtgkdealidnidiaaDoor.Na
open Go.RowKit Go.Proofs.YtgkdealidnidiaaDoorW.PrintWords Go.Proofs.YtgkdealidnidiaaDoorW.PrintLast Go.Proofs.YtgkdealidnidiaaDoorW.PrintMore
attribute [local go_sem] max2_int max_two
set_option linter.unusedVariables false
set_option linter.unusedSimpArgs false
mutual
def chaffref01_From.l0 : Nat → List Int → List Int → Int → Option (List Int)
  | 0, _, _, _ => none
  | k + 1, x0, x3, x4 => if x4 < (x0.length : Int) then (if 0 ≤ x4 then (chaffref01_From.l1 k x0 x3 x4 (rd x0 x4) 0) else (none)) else ((chaffref01_trim.f k x3).bind fun t199 => (some t199))
def chaffref01_From.l1 : Nat → List Int → List Int → Int → Int → Int → Option (List Int)
  | 0, _, _, _, _, _ => none
  | k + 1, x0, x3, x4, x5, x6 => if x6 < 4 then (if x3.length < 17592186044416 then (chaffref01_From.l1 k x0 (x3 ++ [wrap64 (Int.tmod x5 65536)]) x4 (IntKind.u64.wrap (Int.tdiv x5 65536)) (wrap64 (x6 + 1))) else (none)) else (chaffref01_From.l0 k x0 x3 (wrap64 (x4 + 1)))
end
def chaffref01_From.f (k : Nat) (l0 : List Int) : Option (List Int) := chaffref01_From.l0 k l0 ([] : List Int) 0
set_option maxHeartbeats 8000000 in
set_option maxRecDepth 100000 in
theorem chaffref01_From.calls (k : Nat) (A0 : Option Addr) (c0 : Nat) (l0 : List Int) (r : List Int) (w : World) (hr0 : Kd.C (Kd.int .u64) w A0 l0.length l0) (hc0 : l0.length ≤ c0) (h : chaffref01_From.f k l0 = some r) :
    Calls Tryd.prog 15 #[.slice A0 l0.length c0] w fun e w' => ∃ v0_ : Value, e = .returned (v0_) ∧ Kd.V (Kd.int .i64) 3 w' w.heap.size (fun k_ => (w.heap.size ≤ k_)) v0_ r ∧ Below w.heap.size w w' := by
  have HR0 := Aside0.mk hr0
  have HC0 := Aside0.mk hc0
  clear hr0 hc0
  have HB := Aside0.mk (Below.refl w.heap.size w)
  have H : (chaffref01_From.l0 k l0 ([] : List Int) 0) = some r := h
  clear h
  have H' := Aside0.mk H
  clear H
  go_enter Tryd.func15, Tryd.ntmps15
  go_wp2
  go_loopg [3, 4] k (fun kq v3 v4 w' => ∃ (x3_1 : List Int) (x4_1 : Int), v4 = .int .i64 x4_1 ∧ Aside0 (chaffref01_From.l0 kq l0 x3_1 x4_1 = some r) ∧ Aside0 (kq ≤ k) ∧ Aside0 (Kd.R (Kd.int .i64) 3 w' w.heap.size (fun k_ => (w.heap.size ≤ k_)) v3 x3_1) ∧ Aside0 (Below w.heap.size w w'))
  case atStart => exact ⟨(([] : List Int)), (0), (by first | rfl | (simp; done) | (simp [*]; done)), H', ⟨Nat.le_refl _⟩, ⟨by first | exact Kd.R_nil _ _ _ _ _ | exact Kd.N_nil _ _ _ _ _ | exact Kd.V_nil _ _ _ _ _ | exact Kd.Q_nil _ _ _ _ _ | exact Kd.S_nil _ _ _ _ _⟩, ⟨by repeat (first | (with_reducible first | exact HB.out | apply below_alloc | apply pw_below_drewN | apply below_drew1) | exact HB.out)⟩⟩
  case round =>
    clear H'
    try clear c1
    obtain ⟨x3_1, x4_1, rfl, HA, HK1, HO_3, HB⟩ := hrel
    cases gk with
    | zero => exact absurd HA.out (by simp [chaffref01_From.l0])
    | succ k1 =>
      have H := HA.out
      clear HA
      simp only [chaffref01_From.l0] at H
      by_cases c2 : x4_1 < (l0.length : Int)
      · rw [if_pos c2] at H
        have c2b0 : decide (x4_1 < (l0.length : Int)) = true := decide_eq_true c2
        clear c2
        by_cases c3 : 0 ≤ x4_1
        · rw [if_pos c3] at H
          have c3b0 : decide (0 ≤ x4_1) = true := decide_eq_true c3
          clear c3
          have H' := Aside0.mk H
          clear H
          have p202 : 0 ≤ (x4_1 : Int) := of_decide_eq_true (by first | (with_reducible assumption) | assumption)
          have q202 : x4_1 < (l0.length : Int) := of_decide_eq_true (by first | (with_reducible assumption) | assumption)
          obtain ⟨ad202, e202, hx202_0⟩ := Kd.at_int HR0.out x4_1 p202 q202
          cases e202
          replace hx202_0 := (HB.out.cell (World.block_lt_of_cell? w _ hx202_0)).trans hx202_0
          replace p202 := eq_true p202
          replace q202 := eq_true q202
          go_wp2
          go_loopg [3, 5, 6] k1 (fun kq v3 v5 v6 w' => ∃ (x3_2 : List Int) (x5_2 : Int) (x6_2 : Int), v5 = .int .u64 x5_2 ∧ v6 = .int .i64 x6_2 ∧ Aside0 (chaffref01_From.l1 kq l0 x3_2 x4_1 x5_2 x6_2 = some r) ∧ Aside0 (kq ≤ k1) ∧ Aside0 (Kd.R (Kd.int .i64) 3 w' w.heap.size (fun k_ => (w.heap.size ≤ k_)) v3 x3_2) ∧ Aside0 (Below w.heap.size w w'))
          case atStart => exact ⟨(x3_1), (rd l0 x4_1), (0), (by first | rfl | (simp; done) | (simp [*]; done)), (by first | rfl | (simp; done) | (simp [*]; done)), H', ⟨Nat.le_refl _⟩, ⟨by (with_reducible repeat (first | apply Kd.R_alloc | apply Kd.R_drewN | apply Kd.R_drew)); exact HO_3.out⟩, ⟨by repeat (first | (with_reducible first | exact HB.out | apply below_alloc | apply pw_below_drewN | apply below_drew1) | exact HB.out)⟩⟩
          case round =>
            clear H'
            try clear c1
            try clear c2
            try clear c2b0
            try clear p2
            try clear q2
            try clear hx2
            try clear c3
            try clear c3b0
            try clear hx202_0
            try clear p202
            try clear q202
            obtain ⟨x3_2, x5_2, x6_2, rfl, rfl, HA, HK2, HO_3, HB⟩ := hrel
            cases gk with
            | zero => exact absurd HA.out (by simp [chaffref01_From.l1])
            | succ k2 =>
              have H := HA.out
              clear HA
              simp only [chaffref01_From.l1] at H
              by_cases c4 : x6_2 < 4
              · rw [if_pos c4] at H
                have c4b0 : decide (x6_2 < 4) = true := decide_eq_true c4
                clear c4
                by_cases c5 : x3_2.length < 17592186044416
                · rw [if_pos c5] at H
                  have LMc5 := Aside0.mk c5
                  clear c5
                  obtain ⟨y203, hy203⟩ : ∃ y_ : List Int, y_ = (x3_2 ++ [wrap64 (Int.tmod x5_2 65536)]) := ⟨_, rfl⟩
                  replace H : (chaffref01_From.l1 k2 l0 y203 x4_1 (IntKind.u64.wrap (Int.tdiv x5_2 65536)) (wrap64 (x6_2 + 1))) = some r := by first | (rw [hy203]; with_reducible exact H) | (have H2_ := (Option.bind_some _ _).symm.trans H; rw [hy203]; with_reducible exact H2_) | (have H2_ := (Option.bind_some _ _).symm.trans H; with_reducible exact H2_) | with_reducible exact H | (rw [hy203]; exact H) | exact H
                  have Ny203 := Aside0.mk hy203
                  clear hy203
                  have H' := Aside0.mk H
                  clear H
                  go_wp2_with (first | ((with_reducible refine gate_builtin (b := .append) (xs := #[.tmp 21, .tmp 25]) rfl ?_); at_builtin; refine Kd.R_append (Kd.int .i64) (w0 := w) w.heap.size rfl (.tmp 21) (.tmp 25) 26 3 (.int .i64 0) 8 rfl Tryd.underlying26 info3 rfl (by decide) (by omega) u3 x3_2 (wrap64 (Int.tmod x5_2 65536)) [.int .i64 (wrap64 (Int.tmod x5_2 65536))] (fun k_ => (w.heap.size ≤ k_)) (fun _ => False) rfl rfl ?aP (fun _ hk => hk.elim) ?aF ?aO ?aB ?aS ?aL ?_; (case aP => exact rfl); (case aB => exact (by repeat (first | (with_reducible first | exact HB.out | apply below_alloc | apply pw_below_drewN | apply below_drew1) | exact HB.out))); (case aF => exact (fun k_ hk => (Nat.le_trans (below_size (by repeat (first | (with_reducible first | exact HB.out | apply below_alloc | apply pw_below_drewN | apply below_drew1) | exact HB.out))) hk))); (case aO => exact (by (with_reducible repeat (first | apply Kd.R_alloc | apply Kd.R_drewN | apply Kd.R_drew)); exact HO_3.out)); (case aS => exact (below_size (by repeat (first | (with_reducible first | exact HB.out | apply below_alloc | apply pw_below_drewN | apply below_drew1) | exact HB.out)))); (case aL => have := LMc5.out; omega); intro v204 w6 ho hb hg hat; rw [← Ny203.out] at ho; have n0_ := Aside0.mk (hb); have n1_ := Aside0.mk (ho); clear HB; clear HO_3; have HB := n0_; have HO205 := n1_; clear n0_ n1_; clear ho hb hg hat))
                  go_roundg k2
                  case measure => have := HK1.out; have := HK2.out; omega
                  case rel => exact ⟨(y203), (IntKind.u64.wrap (Int.tdiv x5_2 65536)), (wrap64 (x6_2 + 1)), (by first | rfl | (simp; done) | (simp [*]; done)), (by first | rfl | (simp; done) | (simp [*]; done)), H', ⟨by have := HK1.out; have := HK2.out; omega⟩, ⟨by (with_reducible repeat (first | apply Kd.R_alloc | apply Kd.R_drewN | apply Kd.R_drew)); exact HO205.out⟩, ⟨by repeat (first | (with_reducible first | exact HB.out | apply below_alloc | apply pw_below_drewN | apply below_drew1) | exact HB.out)⟩⟩
                · rw [if_neg c5] at H
                  exact absurd H (by simp)
              · rw [if_neg c4] at H
                have c4b0 : decide (x6_2 < 4) = false := decide_eq_false c4
                clear c4
                have H' := Aside0.mk H
                clear H
                go_wp2
                go_roundg k2
                case measure => have := HK1.out; have := HK2.out; omega
                case rel => exact ⟨(x3_2), (wrap64 (x4_1 + 1)), (by first | rfl | (simp; done) | (simp [*]; done)), H', ⟨by have := HK1.out; have := HK2.out; omega⟩, ⟨by (with_reducible repeat (first | apply Kd.R_alloc | apply Kd.R_drewN | apply Kd.R_drew)); exact HO_3.out⟩, ⟨by repeat (first | (with_reducible first | exact HB.out | apply below_alloc | apply pw_below_drewN | apply below_drew1) | exact HB.out)⟩⟩
        · rw [if_neg c3] at H
          exact absurd H (by simp)
      · rw [if_neg c2] at H
        have c2b0 : decide (x4_1 < (l0.length : Int)) = false := decide_eq_false c2
        clear c2
        replace H := Option.bind_eq_some_iff.mp H
        obtain ⟨t199, A70, H⟩ := H
        replace H : (some t199) = some r := H
        have A7 := Aside0.mk A70
        clear A70
        obtain rfl := Option.some.inj H
        obtain ⟨Ao8, co8, eo8⟩ := Kd.R_slice HO_3.out
        subst eo8
        go_wp2_with (first | ((with_reducible refine gate_callee (f := 63) rfl ?_); refine goesL_ (some 30) rfl rfl Tryd.func63 (by kernel_rfl) rfl #[.slice Ao8 x3_1.length co8] rfl (by (try simp only [List.map_toArray, List.map_cons, List.map_nil]); first | done | rfl | (simp only [List.length_drop, List.length_take]; rfl)) ?_; (with_reducible refine (chaffref01_trim.calls k1 (fun k_ => some k_ = (.slice Ao8 x3_1.length co8 : Value).ownBlock) _ _ x3_1 t199 _ ?side1 A7.out).mono ?_); (case side1 => exact Kd.R_V (Kd.R_tight rfl (HO_3.out))); rintro e w9 ⟨v200, rfl, ho0, hb⟩; refine ⟨_, rfl, ?_⟩; have n0_ := Aside0.mk (Kd.R_below (by (with_reducible repeat (first | apply Kd.R_alloc | apply Kd.R_drewN | apply Kd.R_drew)); exact HO_3.out) hb); have n1_ := Aside0.mk (Kd.V_lower (Kd.V_mono (ok' := fun k_ => (w.heap.size ≤ k_)) ho0 (fun k_ hk_ => Or.elim hk_ (fun hs_ => ((HO_3.out).1 k_ hs_.symm)) (fun hn_ => (Nat.le_trans (below_size (by repeat (first | (with_reducible first | exact HB.out | apply below_alloc | apply pw_below_drewN | apply below_drew1) | exact HB.out))) hn_)))) (below_size (by repeat (first | (with_reducible first | exact HB.out | apply below_alloc | apply pw_below_drewN | apply below_drew1) | exact HB.out)))); have n2_ := Aside0.mk (below_step (by repeat (first | (with_reducible first | exact HB.out | apply below_alloc | apply pw_below_drewN | apply below_drew1) | exact HB.out)) hb); clear HO_3; clear HB; have HO_3 := n0_; have HO201 := n1_; have HB := n2_; clear n0_ n1_ n2_; (try clear hb); (try clear hb2); (try clear hk); (try clear hi); (try clear ho0)))
        go_ret
        exact ⟨_, by first | rfl | (simp [errW_none, errW_some] <;> rfl) | (simp [*, errW_none, errW_some] <;> rfl), by (with_reducible repeat (first | apply Kd.V_alloc | apply Kd.V_drewN | apply Kd.V_drew)); exact HO201.out, by repeat (first | (with_reducible first | exact HB.out | apply below_alloc | apply pw_below_drewN | apply below_drew1) | exact HB.out)⟩
end Go.Proofs.YtgkdealidnidiaaDoor.Na
namespace Go.Proofs.YtgkdealidnidiaaDoor.Na
open Go.RowKit Go.Proofs.YtgkdealidnidiaaDoorW.PrintWords Go.Proofs.YtgkdealidnidiaaDoorW.PrintLast Go.Proofs.YtgkdealidnidiaaDoorW.PrintMore
attribute [local go_sem] max2_int max_two
set_option linter.unusedVariables false
set_option linter.unusedSimpArgs false
def chaffref01_Cmp.l0 : Nat → List Int → List Int → Int → Option (Int)
  | 0, _, _, _ => none
  | k + 1, x0, x1, x5 => if x5 ≥ 0 then (if 0 ≤ x5 then (if x5 < (x0.length : Int) then (if x5 < (x1.length : Int) then (if (rd x0 x5) < (rd x1 x5) then (some (-1)) else (if (rd x0 x5) > (rd x1 x5) then (some 1) else (chaffref01_Cmp.l0 k x0 x1 (wrap64 (x5 - 1))))) else (none)) else (none)) else (none)) else (some 0)
def chaffref01_Cmp.f (k : Nat) (l0 : List Int) (l1 : List Int) : Option (Int) := if (l0.length : Int) = (l1.length : Int) then (chaffref01_Cmp.l0 k l0 l1 (wrap64 ((l0.length : Int) - 1))) else (if (l0.length : Int) < (l1.length : Int) then (some (-1)) else (some 1))
set_option maxHeartbeats 8000000 in
set_option maxRecDepth 100000 in
theorem chaffref01_Cmp.calls (k : Nat) (A0 : Option Addr) (c0 : Nat) (l0 : List Int) (A1 : Option Addr) (c1 : Nat) (l1 : List Int) (r : Int) (w : World) (hr0 : Kd.C (Kd.int .i64) w A0 l0.length l0) (hc0 : l0.length ≤ c0) (hr1 : Kd.C (Kd.int .i64) w A1 l1.length l1) (hc1 : l1.length ≤ c1) (h : chaffref01_Cmp.f k l0 l1 = some r) :
    Calls Tryd.prog 37 #[.slice A0 l0.length c0, .slice A1 l1.length c1] w fun e w' => e = .returned (.int .i64 r) ∧ Drawn0 w w' := by
  have HR0 := Aside0.mk hr0
  have HC0 := Aside0.mk hc0
  clear hr0 hc0
  have HR1 := Aside0.mk hr1
  have HC1 := Aside0.mk hc1
  clear hr1 hc1
  have H : (if (l0.length : Int) = (l1.length : Int) then (chaffref01_Cmp.l0 k l0 l1 (wrap64 ((l0.length : Int) - 1))) else (if (l0.length : Int) < (l1.length : Int) then (some (-1)) else (some 1))) = some r := h
  clear h
  by_cases c3 : (l0.length : Int) = (l1.length : Int)
  · rw [if_pos c3] at H
    have c3b0 : ((l0.length : Int) == (l1.length : Int)) = true := beq_iff_eq.mpr c3
    have c3b1 : ((l0.length : Int) != (l1.length : Int)) = false := bne_eq_false_iff_eq.mpr c3
    have c3b2 : (l0.length == l1.length) = true := by first | simpa using c3 | (simp at c3 ⊢; omega)
    clear c3
    have H' := Aside0.mk H
    clear H
    go_enter Tryd.func37, Tryd.ntmps37
    go_wp2
    repeat (go_quiet (fail); try go_wp2)
    go_loopg [5] k (fun kq v5 w' => ∃ (x5_1 : Int), v5 = .int .i64 x5_1 ∧ Aside0 (chaffref01_Cmp.l0 kq l0 l1 x5_1 = some r) ∧ Aside0 (kq ≤ k) ∧ Drawn0 w w')
    case atStart => exact ⟨(wrap64 ((l0.length : Int) - 1)), (by first | rfl | (simp; done) | (simp [*]; done)), H', ⟨Nat.le_refl _⟩, by repeat (first | exact Drawn0.refl _ | apply Drawn0.step)⟩
    case round =>
      clear H'
      try clear c1
      try clear p2
      try clear c3
      try clear c3b0
      try clear c3b1
      try clear c3b2
      obtain ⟨x5_1, rfl, HA, HK1, ⟨m1, rfl⟩⟩ := hrel
      cases gk with
      | zero => exact absurd HA.out (by simp [chaffref01_Cmp.l0])
      | succ k1 =>
        have H := HA.out
        clear HA
        simp only [chaffref01_Cmp.l0] at H
        by_cases c4 : x5_1 ≥ 0
        · rw [if_pos c4] at H
          have c4b0 : decide (0 ≤ x5_1) = true := decide_eq_true c4
          clear c4
          by_cases c5 : 0 ≤ x5_1
          · rw [if_pos c5] at H
            have c5b0 : decide (0 ≤ x5_1) = true := decide_eq_true c5
            clear c5
            by_cases c6 : x5_1 < (l0.length : Int)
            · rw [if_pos c6] at H
              have c6b0 : decide (x5_1 < (l0.length : Int)) = true := decide_eq_true c6
              clear c6
              by_cases c7 : x5_1 < (l1.length : Int)
              · rw [if_pos c7] at H
                have c7b0 : decide (x5_1 < (l1.length : Int)) = true := decide_eq_true c7
                clear c7
                by_cases c8 : (rd l0 x5_1) < (rd l1 x5_1)
                · rw [if_pos c8] at H
                  have c8b0 : decide ((rd l0 x5_1) < (rd l1 x5_1)) = true := decide_eq_true c8
                  clear c8
                  obtain rfl := Option.some.inj H
                  have p208 : 0 ≤ (x5_1 : Int) := of_decide_eq_true (by first | (with_reducible assumption) | assumption)
                  have q208 : x5_1 < (l0.length : Int) := of_decide_eq_true (by first | (with_reducible assumption) | assumption)
                  obtain ⟨ad208, e208, hx208_0⟩ := Kd.at_int HR0.out x5_1 p208 q208
                  cases e208
                  replace p208 := eq_true p208
                  replace q208 := eq_true q208
                  have p209 : 0 ≤ (x5_1 : Int) := of_decide_eq_true (by first | (with_reducible assumption) | assumption)
                  have q209 : x5_1 < (l1.length : Int) := of_decide_eq_true (by first | (with_reducible assumption) | assumption)
                  obtain ⟨ad209, e209, hx209_0⟩ := Kd.at_int HR1.out x5_1 p209 q209
                  cases e209
                  replace p209 := eq_true p209
                  replace q209 := eq_true q209
                  go_wp2
                  repeat (go_quiet (fail); try go_wp2)
                  go_ret
                  exact ⟨by first | rfl | (simp; done) | (simp [*]; done), by repeat (first | exact Drawn0.refl _ | apply Drawn0.step)⟩
                · rw [if_neg c8] at H
                  have c8b0 : decide ((rd l0 x5_1) < (rd l1 x5_1)) = false := decide_eq_false c8
                  clear c8
                  by_cases c9 : (rd l0 x5_1) > (rd l1 x5_1)
                  · rw [if_pos c9] at H
                    have c9b0 : decide ((rd l1 x5_1) < (rd l0 x5_1)) = true := decide_eq_true c9
                    clear c9
                    obtain rfl := Option.some.inj H
                    have p208 : 0 ≤ (x5_1 : Int) := of_decide_eq_true (by first | (with_reducible assumption) | assumption)
                    have q208 : x5_1 < (l0.length : Int) := of_decide_eq_true (by first | (with_reducible assumption) | assumption)
                    obtain ⟨ad208, e208, hx208_0⟩ := Kd.at_int HR0.out x5_1 p208 q208
                    cases e208
                    replace p208 := eq_true p208
                    replace q208 := eq_true q208
                    have p209 : 0 ≤ (x5_1 : Int) := of_decide_eq_true (by first | (with_reducible assumption) | assumption)
                    have q209 : x5_1 < (l1.length : Int) := of_decide_eq_true (by first | (with_reducible assumption) | assumption)
                    obtain ⟨ad209, e209, hx209_0⟩ := Kd.at_int HR1.out x5_1 p209 q209
                    cases e209
                    replace p209 := eq_true p209
                    replace q209 := eq_true q209
                    have p210 : 0 ≤ (x5_1 : Int) := of_decide_eq_true (by first | (with_reducible assumption) | assumption)
                    have q210 : x5_1 < (l0.length : Int) := of_decide_eq_true (by first | (with_reducible assumption) | assumption)
                    obtain ⟨ad210, e210, hx210_0⟩ := Kd.at_int HR0.out x5_1 p210 q210
                    obtain rfl : ad208 = ad210 := (by injection e210)
                    replace p210 := eq_true p210
                    replace q210 := eq_true q210
                    have p211 : 0 ≤ (x5_1 : Int) := of_decide_eq_true (by first | (with_reducible assumption) | assumption)
                    have q211 : x5_1 < (l1.length : Int) := of_decide_eq_true (by first | (with_reducible assumption) | assumption)
                    obtain ⟨ad211, e211, hx211_0⟩ := Kd.at_int HR1.out x5_1 p211 q211
                    obtain rfl : ad209 = ad211 := (by injection e211)
                    replace p211 := eq_true p211
                    replace q211 := eq_true q211
                    go_wp2
                    repeat (go_quiet (fail); try go_wp2)
                    go_ret
                    exact ⟨by first | rfl | (simp; done) | (simp [*]; done), by repeat (first | exact Drawn0.refl _ | apply Drawn0.step)⟩
                  · rw [if_neg c9] at H
                    have c9b0 : decide ((rd l1 x5_1) < (rd l0 x5_1)) = false := decide_eq_false c9
                    clear c9
                    have H' := Aside0.mk H
                    clear H
                    have p208 : 0 ≤ (x5_1 : Int) := of_decide_eq_true (by first | (with_reducible assumption) | assumption)
                    have q208 : x5_1 < (l0.length : Int) := of_decide_eq_true (by first | (with_reducible assumption) | assumption)
                    obtain ⟨ad208, e208, hx208_0⟩ := Kd.at_int HR0.out x5_1 p208 q208
                    cases e208
                    replace p208 := eq_true p208
                    replace q208 := eq_true q208
                    have p209 : 0 ≤ (x5_1 : Int) := of_decide_eq_true (by first | (with_reducible assumption) | assumption)
                    have q209 : x5_1 < (l1.length : Int) := of_decide_eq_true (by first | (with_reducible assumption) | assumption)
                    obtain ⟨ad209, e209, hx209_0⟩ := Kd.at_int HR1.out x5_1 p209 q209
                    cases e209
                    replace p209 := eq_true p209
                    replace q209 := eq_true q209
                    have p210 : 0 ≤ (x5_1 : Int) := of_decide_eq_true (by first | (with_reducible assumption) | assumption)
                    have q210 : x5_1 < (l0.length : Int) := of_decide_eq_true (by first | (with_reducible assumption) | assumption)
                    obtain ⟨ad210, e210, hx210_0⟩ := Kd.at_int HR0.out x5_1 p210 q210
                    obtain rfl : ad208 = ad210 := (by injection e210)
                    replace p210 := eq_true p210
                    replace q210 := eq_true q210
                    have p211 : 0 ≤ (x5_1 : Int) := of_decide_eq_true (by first | (with_reducible assumption) | assumption)
                    have q211 : x5_1 < (l1.length : Int) := of_decide_eq_true (by first | (with_reducible assumption) | assumption)
                    obtain ⟨ad211, e211, hx211_0⟩ := Kd.at_int HR1.out x5_1 p211 q211
                    obtain rfl : ad209 = ad211 := (by injection e211)
                    replace p211 := eq_true p211
                    replace q211 := eq_true q211
                    go_wp2
                    repeat (go_quiet (fail); try go_wp2)
                    go_roundg k1
                    case measure => have := HK1.out; omega
                    case rel => exact ⟨(wrap64 (x5_1 - 1)), (by first | rfl | (simp; done) | (simp [*]; done)), H', ⟨by have := HK1.out; omega⟩, by repeat (first | exact Drawn0.refl _ | apply Drawn0.step)⟩
              · rw [if_neg c7] at H
                exact absurd H (by simp)
            · rw [if_neg c6] at H
              exact absurd H (by simp)
          · rw [if_neg c5] at H
            exact absurd H (by simp)
        · rw [if_neg c4] at H
          have c4b0 : decide (0 ≤ x5_1) = false := decide_eq_false c4
          clear c4
          obtain rfl := Option.some.inj H
          go_wp2
          repeat (go_quiet (fail); try go_wp2)
          go_ret
          exact ⟨by first | rfl | (simp; done) | (simp [*]; done), by repeat (first | exact Drawn0.refl _ | apply Drawn0.step)⟩
  · rw [if_neg c3] at H
    have c3b0 : ((l0.length : Int) == (l1.length : Int)) = false := beq_eq_false_iff_ne.mpr c3
    have c3b1 : ((l0.length : Int) != (l1.length : Int)) = true := bne_iff_ne.mpr c3
    have c3b2 : (l0.length == l1.length) = false := by first | simpa using c3 | (simp at c3 ⊢; omega)
    by_cases c10 : (l0.length : Int) < (l1.length : Int)
    · rw [if_pos c10] at H
      have c10b0 : decide ((l0.length : Int) < (l1.length : Int)) = true := decide_eq_true c10
      have c10b1 : decide (l0.length < l1.length) = true := decide_eq_true (Int.ofNat_lt.mp c10)
      clear c10
      obtain rfl := Option.some.inj H
      go_enter Tryd.func37, Tryd.ntmps37
      go_wp2
      repeat (go_quiet (fail); try go_wp2)
      go_ret
      exact ⟨by first | rfl | (simp; done) | (simp [*]; done), by repeat (first | exact Drawn0.refl _ | apply Drawn0.step)⟩
    · rw [if_neg c10] at H
      have c10b0 : decide ((l0.length : Int) < (l1.length : Int)) = false := decide_eq_false c10
      have c10b1 : decide (l0.length < l1.length) = false := decide_eq_false (fun h => c10 (Int.ofNat_lt.mpr h))
      clear c10
      obtain rfl := Option.some.inj H
      go_enter Tryd.func37, Tryd.ntmps37
      go_wp2
      repeat (go_quiet (fail); try go_wp2)
      go_ret
      exact ⟨by first | rfl | (simp; done) | (simp [*]; done), by repeat (first | exact Drawn0.refl _ | apply Drawn0.step)⟩
end Go.Proofs.YtgkdealidnidiaaDoor.Na
namespace Go.Proofs.YtgkdealidnidiaaDoor.Na
open Go.RowKit Go.Proofs.YtgkdealidnidiaaDoorW.PrintWords Go.Proofs.YtgkdealidnidiaaDoorW.PrintLast Go.Proofs.YtgkdealidnidiaaDoorW.PrintMore Go.Proofs.YtgkdealidnidiaaDoor.Dg
theorem tmod_nn {x y : Int} (h : 0 ≤ x) : Int.tmod x y = x % y := Int.tmod_eq_emod_of_nonneg h
theorem tdiv_nn {x y : Int} (h : 0 ≤ x) : Int.tdiv x y = x / y := Int.tdiv_eq_ediv_of_nonneg h
theorem BW_BD (i : Nat) : (BW : Int) ^ i = (BD : Int) ^ (4 * i) := by rw [Int.pow_mul]; rfl
theorem rfrom_l1 (k : Nat) (x0 x3 : List Int) (x4 : Int) (r : Int) (j : Nat) (hj : j < 4) (hl : x3.length < 17592186044416) (h0 : 0 ≤ r) (h1 : r < 18446744073709551616) :
    chaffref01_From.l1 (k + 1) x0 x3 x4 r j = chaffref01_From.l1 k x0 (x3 ++ [r % 65536]) x4 (r / 65536) ((j + 1 : Nat) : Int) := by
  have e : wrap64 ((j : Int) + 1) = ((j + 1 : Nat) : Int) := by rw [w64 (by omega) (by omega)]; rfl
  rw [chaffref01_From.l1, if_pos (by omega), if_pos hl, tmod_nn h0, tdiv_nn h0, w64 (by omega) (by omega), u64w (by omega) (by omega), e]
theorem rfrom_l1_end (k : Nat) (x0 x3 : List Int) (x4 r : Int) : chaffref01_From.l1 (k + 1) x0 x3 x4 r 4 = chaffref01_From.l0 k x0 x3 (wrap64 (x4 + 1)) := by
  rw [chaffref01_From.l1, if_neg (by omega)]
def dig4 (r : Int) : List Int := [r % 65536, r / 65536 % 65536, r / 65536 / 65536 % 65536, r / 65536 / 65536 / 65536 % 65536]
theorem dig4_V {r : Int} (h0 : 0 ≤ r) (h1 : r < 18446744073709551616) : V BD (dig4 r) = r := by
  have e : (BD : Int) = 65536 := rfl
  simp only [dig4, V, e]; omega
theorem dig4_R {r : Int} : R BD (dig4 r) := by
  have e : (BD : Int) = 65536 := rfl
  intro x hx
  rw [e]
  simp only [dig4, List.mem_cons, List.not_mem_nil, or_false] at hx
  rcases hx with rfl | rfl | rfl | rfl <;> omega
theorem rfrom_loop (l : List Int) (n : Nat) (hR : R BW l) (hV : V BW l = n) (hl : l.length ≤ 1000000000) : ∀ (d i : Nat) (o : List Int), i + d = l.length → o.length = 4 * i → R BD o → V BD o = V BW (l.take i) →
    Ev (fun k => chaffref01_From.l0 k l o i) (wd BD n)
  | 0, i, o, hi, ho, hRo, hVo => by
    obtain rfl : i = l.length := by omega
    refine Ev.step (f := fun k => (chaffref01_trim.f k o).bind fun t => some t) (fun k => by rw [chaffref01_From.l0, if_neg (by omega)]) ?_
    refine Ev.bind (trimf_ev o (by omega)) ?_
    rw [strip_eq (n := n) (by decide) hRo (by rw [hVo, V_take_all _ _ (Nat.le_refl _), hV])]
    exact Ev.now _
  | d + 1, i, o, hi, ho, hRo, hVo => by
    have ra := R_getD hR (by decide) i
    rw [BWi] at ra
    have ih := rfrom_loop l n hR hV hl d (i + 1) (o ++ dig4 (l.getD i 0)) (by omega) (by simp [dig4, ho]; omega) (R_append.2 ⟨hRo, dig4_R⟩) (by rw [V_append, ho, dig4_V ra.1 ra.2, V_take_succ _ _ _ (by omega), hVo, BW_BD])
    have ei : wrap64 ((i : Int) + 1) = ((i + 1 : Nat) : Int) := by rw [w64 (by omega) (by omega)]; rfl
    have hrd := rd_nat l i
    generalize l.getD i 0 = r at ra ih hrd
    refine Ev.step (f := fun k => chaffref01_From.l1 k l o i r ((0 : Nat) : Int)) (fun k => by rw [chaffref01_From.l0, if_pos (by omega), if_pos (by omega), hrd]; rfl) ?_
    refine Ev.step (fun k => rfrom_l1 k l o i r 0 (by omega) (by omega) ra.1 ra.2) ?_
    refine Ev.step (fun k => rfrom_l1 k l _ i _ 1 (by omega) (by simp; omega) (by omega) (by omega)) ?_
    refine Ev.step (fun k => rfrom_l1 k l _ i _ 2 (by omega) (by simp; omega) (by omega) (by omega)) ?_
    refine Ev.step (fun k => rfrom_l1 k l _ i _ 3 (by omega) (by simp; omega) (by omega) (by omega)) ?_
    refine Ev.step (fun k => rfrom_l1_end k l _ i _) ?_
    rw [ei]
    simp only [List.append_assoc]
    exact ih
theorem rfrom_ev (l : List Int) (n : Nat) (hR : R BW l) (hV : V BW l = n) (hl : l.length ≤ 1000000000) : Ev (fun k => chaffref01_From.f k l) (wd BD n) :=
  rfrom_loop l n hR hV hl l.length 0 [] (by omega) rfl (R_nil _) (by simp [V])
theorem rcmp_loop (l m : List Int) (hl : R BD l) (hm : R BD m) (he : l.length = m.length) (hs : l.length ≤ 1000000000) : ∀ i, i ≤ l.length → V BD (l.drop i) = V BD (m.drop i) →
    Ev (fun k => chaffref01_Cmp.l0 k l m ((i : Int) - 1)) (cmpI (V BD l) (V BD m))
  | 0, _, h => by
    refine Ev.step (f := fun _ => some (cmpI (V BD l) (V BD m))) (fun k => ?_) (Ev.now _)
    rw [chaffref01_Cmp.l0, if_neg (by omega)]
    simp only [List.drop_zero] at h
    unfold cmpI; rw [h]; simp
  | i + 1, hi, h => by
    have e1 : ((i + 1 : Nat) : Int) - 1 = (i : Int) := by omega
    by_cases hlt : l.getD i 0 < m.getD i 0
    · refine Ev.step (f := fun _ => some (cmpI (V BD l) (V BD m))) (fun k => ?_) (Ev.now _)
      rw [e1, chaffref01_Cmp.l0, if_pos (by omega), if_pos (by omega), if_pos (by omega), if_pos (by omega), rd_nat, rd_nat, if_pos hlt]
      unfold cmpI
      rw [if_pos (cmp_step (by decide) hl hm i (by omega) (by omega) h hlt)]
    · by_cases hgt : l.getD i 0 > m.getD i 0
      · refine Ev.step (f := fun _ => some (cmpI (V BD l) (V BD m))) (fun k => ?_) (Ev.now _)
        rw [e1, chaffref01_Cmp.l0, if_pos (by omega), if_pos (by omega), if_pos (by omega), if_pos (by omega), rd_nat, rd_nat, if_neg hlt, if_pos hgt]
        have := cmp_step (by decide) hm hl i (by omega) (by omega) h.symm hgt
        unfold cmpI
        rw [if_neg (by omega), if_pos this]
      · have heq : l.getD i 0 = m.getD i 0 := by omega
        refine Ev.step (f := fun k => chaffref01_Cmp.l0 k l m ((i : Int) - 1)) (fun k => ?_) (rcmp_loop l m hl hm he hs i (by omega) (by rw [V_drop _ l i (by omega), V_drop _ m i (by omega), h, heq]))
        rw [e1, chaffref01_Cmp.l0, if_pos (by omega), if_pos (by omega), if_pos (by omega), if_pos (by omega), rd_nat, rd_nat, if_neg hlt, if_neg hgt, w64 (by omega) (by omega)]
theorem rcmp_ev2 (x y : Nat) (hx : (wd BD x).length ≤ 1000001) : Ev (fun k => chaffref01_Cmp.f k (wd BD x) (wd BD y)) (cmpN x y) := by
  unfold chaffref01_Cmp.f
  by_cases he : (wd BD x).length = (wd BD y).length
  · refine Ev.congr (f := fun k => chaffref01_Cmp.l0 k (wd BD x) (wd BD y) (((wd BD x).length : Int) - 1)) (fun k => by rw [if_pos (by omega), w64 (by omega) (by omega)]) ?_
    have := rcmp_loop (wd BD x) (wd BD y) (wd_R (by decide) x) (wd_R (by decide) y) he (by omega) _ (Nat.le_refl _) (by rw [List.drop_length, he, List.drop_length])
    rwa [wd_V (by decide), wd_V (by decide), cmpN_I] at this
  · refine Ev.congr (f := fun _ => some (cmpN x y)) (fun k => ?_) (Ev.now _)
    rw [if_neg (by omega)]
    by_cases h : (wd BD x).length < (wd BD y).length
    · have := lt_of_len (by decide) h
      rw [if_pos (by omega)]; unfold cmpN; rw [if_pos this]
    · have := lt_of_len (b := BD) (x := y) (y := x) (by decide) (by omega)
      rw [if_neg (by omega)]; unfold cmpN; rw [if_neg (by omega), if_pos this]
theorem radd_loop (a b : List Int) (n m : Nat) (hRa : R BD a) (hRb : R BD b) (ha : a.length ≤ n) (hb : b.length ≤ n) (hn : n ≤ 1000000) (hm : V BD a + V BD b = m) :
    ∀ (d i : Nat) (o : List Int) (c : Int), i + d = n + 1 → o.length = i → R BD o → 0 ≤ c → c ≤ 1 → (n < i → c = 0) → V BD o + (BD : Int) ^ i * c = V BD (a.take i) + V BD (b.take i) →
      Ev (fun k => chaffref01_Add.l0 k a b o c i) (wd BD m)
  | 0, i, o, c, hi, ho, hRo, hc0, hc1, hz, hV => by
    obtain rfl := hz (by omega)
    refine Ev.step (f := fun k => chaffref01_Add.j1 k a b o 0 i (decide ((0 : Int) > 0))) (fun k => by rw [chaffref01_Add.l0, if_neg (by omega), if_neg (by omega)]) ?_
    refine Ev.step (f := fun k => (chaffref01_trim.f k o).bind fun t => some t) (fun k => by rw [chaffref01_Add.j1, if_neg (by decide)]) ?_
    refine Ev.bind (trimf_ev o (by omega)) ?_
    rw [V_take_all _ _ (by omega), V_take_all _ _ (by omega), hm] at hV
    rw [strip_eq (n := m) (by decide) hRo (by rw [← hV]; simp)]
    exact Ev.now _
  | d + 1, i, o, c, hi, ho, hRo, hc0, hc1, hz, hV => by
    by_cases hend : a.length ≤ i ∧ b.length ≤ i ∧ c = 0
    · obtain ⟨h1, h2, rfl⟩ := hend
      refine Ev.step (f := fun k => chaffref01_Add.j1 k a b o 0 i (decide ((0 : Int) > 0))) (fun k => by rw [chaffref01_Add.l0, if_neg (by omega), if_neg (by omega)]) ?_
      refine Ev.step (f := fun k => (chaffref01_trim.f k o).bind fun t => some t) (fun k => by rw [chaffref01_Add.j1, if_neg (by decide)]) ?_
      refine Ev.bind (trimf_ev o (by omega)) ?_
      rw [V_take_all _ _ h1, V_take_all _ _ h2, hm] at hV
      rw [strip_eq (n := m) (by decide) hRo (by rw [← hV]; simp)]
      exact Ev.now _
    · have ra := R_getD hRa (by decide) i
      have rb := R_getD hRb (by decide) i
      rw [BDi] at ra rb
      have g : ∀ k, chaffref01_Add.l0 (k + 1) a b o c i = chaffref01_Add.j1 k a b o c i true := by
        intro k
        rw [chaffref01_Add.l0]
        by_cases h1 : (i : Int) < (a.length : Int)
        · rw [if_pos h1]
        · rw [if_neg h1]
          by_cases h2 : (i : Int) < (b.length : Int)
          · rw [if_pos h2]
          · rw [if_neg h2, decide_eq_true (by omega : c > 0)]
      refine Ev.step g ?_
      have hl : o.length < 17592186044416 := by omega
      have n0 : 0 ≤ a.getD i 0 + b.getD i 0 + c := by omega
      have hlast : n < i + 1 → (a.getD i 0 + b.getD i 0 + c) / 65536 = 0 := by
        intro hh
        rw [List.getD_eq_getElem?_getD, List.getElem?_eq_none (by omega), List.getD_eq_getElem?_getD, List.getElem?_eq_none (by omega)]
        simp; omega
      have ih := radd_loop a b n m hRa hRb ha hb hn hm d (i + 1) (o ++ [(a.getD i 0 + b.getD i 0 + c) % 65536]) ((a.getD i 0 + b.getD i 0 + c) / 65536) (by omega) (by simp [ho]) (R_append.2 ⟨hRo, R_one (by omega) (by rw [BDi]; omega)⟩) (by omega) (by omega) hlast (by
        rw [V_snoc, V_take_pad, V_take_pad, ho, Int.pow_succ]
        exact carry_step hV rfl)
      have ei : wrap64 ((i : Int) + 1) = ((i + 1 : Nat) : Int) := by rw [w64 (by omega) (by omega)]; rfl
      have e1 : wrap64 (wrap64 (a.getD i 0 + b.getD i 0) + c) = a.getD i 0 + b.getD i 0 + c := by clear ei; rw [w64 (x := a.getD i 0 + b.getD i 0) (by omega) (by omega), w64 (by omega) (by omega)]
      have e2 : wrap64 (Int.tdiv (a.getD i 0 + b.getD i 0 + c) 65536) = (a.getD i 0 + b.getD i 0 + c) / 65536 := by clear ei e1; rw [tdiv_nn (by omega), w64 (by omega) (by omega)]
      refine Ev.step (fun k => ?_) ih
      rw [chaffref01_Add.j1, if_pos rfl, at_some, Option.bind_some, at_some, Option.bind_some, if_pos hl, e1, e2, tmod_nn n0, ei]
theorem radd_ev (x y : Nat) (hx : (wd BD x).length ≤ 1000000) (hy : (wd BD y).length ≤ 1000000) : Ev (fun k => chaffref01_Add.f k (wd BD x) (wd BD y)) (wd BD (x + y)) :=
  radd_loop _ _ (max (wd BD x).length (wd BD y).length) (x + y) (wd_R (by decide) x) (wd_R (by decide) y) (by omega) (by omega) (by omega) (by rw [wd_V (by decide), wd_V (by decide)]; rfl) (max (wd BD x).length (wd BD y).length + 1) 0 [] 0 (by omega) rfl (R_nil _) (by decide) (by decide) (fun _ => rfl) (by simp [V])
theorem rsub_loop (a b : List Int) (m : Nat) (hRa : R BD a) (hRb : R BD b) (hl : b.length ≤ a.length) (hn : a.length ≤ 1000001) (hm : V BD a - V BD b = m) :
    ∀ (d i : Nat) (o : List Int) (c : Int), i + d = a.length → o.length = i → R BD o → 0 ≤ c → c ≤ 1 → V BD o = V BD (a.take i) - V BD (b.take i) + (BD : Int) ^ i * c →
      Ev (fun k => chaffref01_Sub.l0 k a b o c i) (wd BD m)
  | 0, i, o, c, hi, ho, hRo, hc0, hc1, hV => by
    obtain rfl : i = a.length := by omega
    have hb := V_lt (b := (BD : Int)) (by decide) hRo
    rw [ho] at hb
    rw [V_take_all _ _ (Nat.le_refl _), V_take_all _ _ hl, hm] at hV
    have hp := pw_pos (b := (BD : Int)) (by decide) a.length
    have hc : c = 0 := by
      rcases Int.lt_or_eq_of_le hc0 with h | h
      · have : c = 1 := by omega
        subst this; omega
      · exact h.symm
    subst hc
    refine Ev.step (f := fun k => (chaffref01_trim.f k o).bind fun t => some t) (fun k => ?_) ?_
    · rw [chaffref01_Sub.l0, if_neg (by omega)]
    · refine Ev.bind (trimf_ev o (by omega)) ?_
      rw [strip_eq (n := m) (by decide) hRo (by rw [hV]; simp)]
      exact Ev.now _
  | d + 1, i, o, c, hi, ho, hRo, hc0, hc1, hV => by
    have ra := R_getD hRa (by decide) i
    have rb := R_getD hRb (by decide) i
    have hst := borrow_step (b := (BD : Int)) hV ra.1 ra.2 rb.1 rb.2 hc0 hc1
    rw [BDi] at ra rb hst
    have g1 : (i : Int) < (a.length : Int) := by omega
    have g2 : (0 : Int) ≤ (i : Int) := by omega
    have hl2 : o.length < 17592186044416 := by omega
    have E := And.intro (show wrap64 ((i : Int) + 1) = ((i + 1 : Nat) : Int) by rw [w64 (by omega) (by omega)]; rfl) (show wrap64 (wrap64 (a.getD i 0 - b.getD i 0) - c) = a.getD i 0 - b.getD i 0 - c by rw [w64 (x := a.getD i 0 - b.getD i 0) (by omega) (by omega), w64 (by omega) (by omega)])
    have E := Aside0.mk E
    by_cases hlt : a.getD i 0 < b.getD i 0 + c
    · rw [if_pos hlt, show (a.getD i 0 + 65536 - b.getD i 0 - c) % 65536 = a.getD i 0 - b.getD i 0 - c + 65536 by omega] at hst
      have ih := rsub_loop a b m hRa hRb hl hn hm d (i + 1) (o ++ [a.getD i 0 - b.getD i 0 - c + 65536]) 1 (by omega) (by simp [ho]) (R_append.2 ⟨hRo, R_one (by omega) (by rw [BDi]; omega)⟩) (by decide) (by decide) (by
        rw [V_snoc, V_take_pad, V_take_pad, ho, Int.pow_succ]; exact hst)
      refine Ev.step (fun k => ?_) ih
      rw [chaffref01_Sub.l0, if_pos g1, if_pos g2, at_some, Option.bind_some, rd_nat, E.out.2, if_pos (by omega), if_pos hl2, w64 (by omega) (by omega), E.out.1]
    · rw [if_neg hlt, show (a.getD i 0 + 65536 - b.getD i 0 - c) % 65536 = a.getD i 0 - b.getD i 0 - c by omega] at hst
      have ih := rsub_loop a b m hRa hRb hl hn hm d (i + 1) (o ++ [a.getD i 0 - b.getD i 0 - c]) 0 (by omega) (by simp [ho]) (R_append.2 ⟨hRo, R_one (by omega) (by rw [BDi]; omega)⟩) (by decide) (by decide) (by
        rw [V_snoc, V_take_pad, V_take_pad, ho, Int.pow_succ]; exact hst)
      refine Ev.step (fun k => ?_) ih
      rw [chaffref01_Sub.l0, if_pos g1, if_pos g2, at_some, Option.bind_some, rd_nat, E.out.2, if_neg (by omega), if_pos hl2, E.out.1]
theorem rsub_ev2 (x y : Nat) (h : y ≤ x) (hx : (wd BD x).length ≤ 1000001) : Ev (fun k => chaffref01_Sub.f k (wd BD x) (wd BD y)) (wd BD (x - y)) :=
  rsub_loop _ _ (x - y) (wd_R (by decide) x) (wd_R (by decide) y) (len_mono (by decide) h) (by omega) (by rw [wd_V (by decide), wd_V (by decide)]; omega) (wd BD x).length 0 [] 0 (by omega) rfl (R_nil _) (by decide) (by decide) (by simp [V])
theorem rmul_l1 (k : Nat) (o a bb : List Int) (i j : Nat) (c y c' : Int) (hi : i < a.length) (hj : j < bb.length) (hl : o.length = a.length + bb.length) (hn : a.length + bb.length ≤ 1000000000)
    (e1 : wrap64 (wrap64 (o.getD (i + j) 0 + wrap64 (a.getD i 0 * bb.getD j 0)) + c) = y + 65536 * c') (ey : Int.tmod (y + 65536 * c') 65536 = y) (ec : wrap64 (Int.tdiv (y + 65536 * c') 65536) = c') :
    chaffref01_Mul.l1 (k + 1) a bb o i c j = chaffref01_Mul.l1 k a bb (o.set (i + j) y) i c' ((j + 1 : Nat) : Int) := by
  have e : wrap64 ((i : Int) + (j : Int)) = ((i + j : Nat) : Int) := by clear e1 ey ec; rw [w64 (by omega) (by omega)]; rfl
  have ej : wrap64 ((j : Int) + 1) = ((j + 1 : Nat) : Int) := by clear e1 ey ec; rw [w64 (by omega) (by omega)]; rfl
  have g1 : (j : Int) < (bb.length : Int) := by clear e1 ey ec; omega
  have g2 : (0 : Int) ≤ (i : Int) := by clear e1 ey ec; omega
  have g3 : (i : Int) < (a.length : Int) := by clear e1 ey ec; omega
  have g4 : (0 : Int) ≤ (j : Int) := by clear e1 ey ec; omega
  have g5 : (0 : Int) ≤ ((i + j : Nat) : Int) := by clear e1 ey ec; omega
  have g6 : ((i + j : Nat) : Int) < (o.length : Int) := by clear e1 ey ec; omega
  rw [chaffref01_Mul.l1, if_pos g1, e, if_pos g5, if_pos g6, if_pos g2, if_pos g3, if_pos g4, rd_nat, rd_nat, rd_nat, e1, ey, ec, Int.toNat_natCast, ej]
theorem rmul_l1_end (k : Nat) (o a bb : List Int) (i : Nat) (c : Int) (hi : i < a.length) (hl : o.length = a.length + bb.length) (hn : a.length + bb.length ≤ 1000000000) :
    chaffref01_Mul.l1 (k + 1) a bb o i c bb.length = chaffref01_Mul.l0 k a bb (o.set (i + bb.length) c) ((i + 1 : Nat) : Int) := by
  have e : wrap64 ((i : Int) + (bb.length : Int)) = ((i + bb.length : Nat) : Int) := by rw [w64 (by omega) (by omega)]; rfl
  have ei : wrap64 ((i : Int) + 1) = ((i + 1 : Nat) : Int) := by rw [w64 (by omega) (by omega)]; rfl
  rw [chaffref01_Mul.l1, if_neg (by omega), e, if_pos (by omega), if_pos (by omega), Int.toNat_natCast, ei]
theorem rmul_row (a bb : List Int) (hRa : R BD a) (hRb : R BD bb) (hn : a.length + bb.length ≤ 1000000000) (i : Nat) (hi : i < a.length) (v0 : Int) :
    ∀ (d j : Nat) (o : List Int) (c : Int), j + d = bb.length → Row BD a bb i j v0 o c →
      ∃ o' c', Row BD a bb i bb.length v0 o' c' ∧ ∀ r, Ev (fun k => chaffref01_Mul.l0 k a bb (o'.set (i + bb.length) c') ((i + 1 : Nat) : Int)) r → Ev (fun k => chaffref01_Mul.l1 k a bb o i c j) r
  | 0, j, o, c, hj, h => by
    obtain rfl : j = bb.length := by omega
    exact ⟨o, c, h, fun r hr => Ev.step (fun k => rmul_l1_end k o a bb i c hi h.len hn) hr⟩
  | d + 1, j, o, c, hj, h => by
    have hl := h.len
    have ra := R_getD hRa (by decide) i
    have rb := R_getD hRb (by decide) j
    have ro := R_getD h.r (by decide) (i + j)
    have hc0 := h.c0
    have hc1 := h.c1
    have hBD := BDi
    have hsum := dig_sum (b := BD) (o := o.getD (i + j) 0) (c := c) ra.1 ra.2 rb.1 rb.2 ro.2 hc1
    have hp0 := Int.mul_nonneg ra.1 rb.1
    rw [hBD] at ra rb ro hc1 hsum
    have hstep := fun (y c' : Int) hs hy0 hy1 hd0 hd1 => h.step (y := y) (c' := c') hi (show j < bb.length by omega) hs hy0 hy1 hd0 hd1
    rw [hBD] at hstep
    have hl1 := fun k y c' => rmul_l1 k o a bb i j c y c' hi (by omega) hl hn
    generalize a.getD i 0 * bb.getD j 0 = P at hp0 hsum hstep hl1
    generalize o.getD (i + j) 0 = x at ro hsum hstep hl1
    obtain ⟨y, hy⟩ : ∃ y, (P + x + c) % 65536 = y := ⟨_, rfl⟩
    obtain ⟨c', hc'⟩ : ∃ c', (P + x + c) / 65536 = c' := ⟨_, rfl⟩
    have hs : y + 65536 * c' = P + x + c := by omega
    have hr : 0 ≤ y ∧ y < 65536 ∧ 0 ≤ c' ∧ c' < 65536 := by omega
    have e1 : wrap64 (wrap64 (x + wrap64 P) + c) = y + 65536 * c' := by
      clear hstep hl1; rw [hs, w64 (x := P) (by omega) (by omega), w64 (x := x + P) (by omega) (by omega), w64 (by omega) (by omega)]; omega
    have ey : Int.tmod (y + 65536 * c') 65536 = y := by clear hstep hl1 e1; rw [tmod_nn (by omega)]; omega
    have ec : wrap64 (Int.tdiv (y + 65536 * c') 65536) = c' := by clear hstep hl1 e1; rw [tdiv_nn (by omega), w64 (by omega) (by omega)]; omega
    obtain ⟨o', c3, hrow, hev⟩ := rmul_row a bb hRa hRb hn i hi v0 d (j + 1) _ _ (by omega) (hstep y c' hs hr.1 hr.2.1 hr.2.2.1 hr.2.2.2)
    exact ⟨o', c3, hrow, fun r hr2 => Ev.step (fun k => hl1 k y c' e1 ey ec) (hev r hr2)⟩
theorem rmul_loop (a bb : List Int) (m : Nat) (hRa : R BD a) (hRb : R BD bb) (hn : a.length + bb.length ≤ 1000000000) (hm : V BD a * V BD bb = m) : ∀ (d i : Nat) (o : List Int), i + d = a.length → R BD o → o.length = a.length + bb.length →
    (∀ p, i + bb.length ≤ p → o.getD p 0 = 0) → V BD o = V BD (a.take i) * V BD bb → Ev (fun k => chaffref01_Mul.l0 k a bb o i) (wd BD m)
  | 0, i, o, hi, hr, hl, hz, hv => by
    obtain rfl : i = a.length := by omega
    refine Ev.step (f := fun k => (chaffref01_trim.f k o).bind fun t => some t) (fun k => by rw [chaffref01_Mul.l0, if_neg (by omega)]) ?_
    refine Ev.bind (trimf_ev o (by omega)) ?_
    rw [strip_eq (n := m) (by decide) hr (by rw [hv, V_take_all _ _ (Nat.le_refl _), hm])]
    exact Ev.now _
  | d + 1, i, o, hi, hr, hl, hz, hv => by
    obtain ⟨o', c', hrow, hev⟩ := rmul_row a bb hRa hRb hn i (by omega) _ bb.length 0 o 0 (by omega) (Row.start (by decide) hr hl hz hv)
    obtain ⟨h1, h2, h3, h4⟩ := hrow.close (by omega)
    refine Ev.step (fun k => ?_) (hev _ (rmul_loop a bb m hRa hRb hn hm d (i + 1) _ (by omega) h1 h2 h3 h4))
    rw [chaffref01_Mul.l0, if_pos (by omega)]; rfl
theorem getD_zeros (n p : Nat) : (List.replicate n (0 : Int)).getD p 0 = 0 := by
  rw [List.getD_eq_getElem?_getD]
  rcases Nat.lt_or_ge p n with hp | hp
  · rw [List.getElem?_replicate, if_pos hp]; rfl
  · rw [List.getElem?_eq_none (by simp; omega)]; rfl
theorem rmul_ev (x y : Nat) (hx : (wd BD x).length ≤ 1000000) (hy : (wd BD y).length ≤ 1000000) : Ev (fun k => chaffref01_Mul.f k (wd BD x) (wd BD y)) (wd BD (x * y)) := by
  have e : wrap64 (((wd BD x).length : Int) + ((wd BD y).length : Int)) = (((wd BD x).length + (wd BD y).length : Nat) : Int) := by rw [w64 (by omega) (by omega)]; rfl
  unfold chaffref01_Mul.f
  refine Ev.congr (f := fun k => chaffref01_Mul.l0 k (wd BD x) (wd BD y) (List.replicate ((wd BD x).length + (wd BD y).length) 0) ((0 : Nat) : Int)) (fun k => ?_) ?_
  · rw [e, Int.toNat_natCast, if_pos (by omega), if_pos (by omega)]; rfl
  · clear e
    exact rmul_loop _ _ (x * y) (wd_R (by decide) x) (wd_R (by decide) y) (by omega) (by rw [wd_V (by decide), wd_V (by decide)]; simp) (wd BD x).length 0 _ (by omega) (R_zeros (by decide) _) (by simp) (fun p _ => getD_zeros _ p) (by rw [V_zeros]; simp [V])
end Go.Proofs.YtgkdealidnidiaaDoor.Na
namespace Go.Proofs.YtgkdealidnidiaaDoor.Na
open Go.RowKit Go.Proofs.YtgkdealidnidiaaDoorW.PrintWords Go.Proofs.YtgkdealidnidiaaDoorW.PrintLast Go.Proofs.YtgkdealidnidiaaDoorW.PrintMore
attribute [local go_sem] max2_int max_two
set_option linter.unusedVariables false
set_option linter.unusedSimpArgs false
def nat_Nat_Zero.f (l0_0 : List Int) : Option (Bool) := some ((l0_0.length : Int) == 0)
set_option maxHeartbeats 8000000 in
set_option maxRecDepth 100000 in
theorem nat_Nat_Zero.calls (A0_0 : Option Addr) (c0_0 : Nat) (l0_0 : List Int) (r : Bool) (w : World) (hr0_0 : Kd.C (Kd.int .u64) w A0_0 l0_0.length l0_0) (hc0_0 : l0_0.length ≤ c0_0) (h : nat_Nat_Zero.f l0_0 = some r) :
    Calls Tryd.prog 22 #[.agg #[.slice A0_0 l0_0.length c0_0]] w fun e w' => e = .returned (.bool r) ∧ Below w.heap.size w w' := by
  have hu29 := Tryd.underlying29
  have HR0_0 := Aside0.mk hr0_0
  have HC0_0 := Aside0.mk hc0_0
  clear hr0_0 hc0_0
  have HB := Aside0.mk (Below.refl w.heap.size w)
  have H : (some ((l0_0.length : Int) == 0)) = some r := h
  clear h
  obtain rfl := Option.some.inj H
  go_enter Tryd.func22, Tryd.ntmps22
  go_wp2_with (first | ((with_reducible refine gate_dst (N := 1) rfl ?_); refine box_event ?hg (N := 1) ?hd (cs := #[.slice A0_0 l0_0.length c0_0]) (t := 29) ?hr ?_; (case hd => rfl); (case hg => rfl); (case hr => first | (go_simp; done) | (go_simp; rfl)); intro gb207 hg w2 hbox hb; have n0_ := Aside0.mk (below_step (by repeat (first | (with_reducible first | exact HB.out | apply below_alloc | apply pw_below_drewN | apply below_drew1) | exact HB.out)) hb); have n1_ := Aside0.mk (hbox); have n2_ := Aside0.mk ((by rw [hg]; exact (below_size (by repeat (first | (with_reducible first | exact HB.out | apply below_alloc | apply pw_below_drewN | apply below_drew1) | exact HB.out))) : w.heap.size ≤ gb207)); have n3_ := Aside0.mk ((by rw [hg]; exact (below_size (by repeat (first | (with_reducible first | exact HB.out | apply below_alloc | apply pw_below_drewN | apply below_drew1) | exact HB.out))) : w.heap.size ≤ gb207)); clear HB; have HB := n0_; have BK207 := n1_; have GW207 := n2_; have GE207 := n3_; clear n0_ n1_ n2_ n3_; clear hb hbox hg; have hcz3_0 : w2.cell? ⟨gb207, 0, none⟩ = some (.slice A0_0 l0_0.length c0_0) := (blk_cell BK207.out 0).trans rfl; have hfz3_0 := blk_frozen BK207.out 0))
  go_ret
  exact ⟨by first | rfl | (simp [errW_none, errW_some] <;> rfl) | (simp [*, errW_none, errW_some] <;> rfl), by repeat (first | (with_reducible first | exact HB.out | apply below_alloc | apply pw_below_drewN | apply below_drew1 | refine below_set ?_ GE207.out) | exact HB.out)⟩
end Go.Proofs.YtgkdealidnidiaaDoor.Na
namespace Go.Proofs.YtgkdealidnidiaaDoor.Na
open Go.RowKit Go.Proofs.YtgkdealidnidiaaDoorW.PrintWords Go.Proofs.YtgkdealidnidiaaDoorW.PrintLast Go.Proofs.YtgkdealidnidiaaDoorW.PrintMore Go.Proofs.YtgkdealidnidiaaDoor.Dg
theorem two64 (n : Nat) (hn : n ≤ 64) : 18446744073709551616 = 2 ^ n * 2 ^ (64 - n) := by
  rw [← Nat.pow_add, show n + (64 - n) = 64 by omega]
theorem shl_word (w n : Nat) (hn : n ≤ 64) : shl .u64 (w : Int) (n : Int) = ((w * 2 ^ n % 18446744073709551616 : Nat) : Int) := by
  unfold shl
  have e : min ((n : Int)).toNat IntKind.u64.bits = n := by
    have : IntKind.u64.bits = 64 := rfl
    rw [this]; omega
  rw [e, IntKind.wrap_u64, show (2 : Int) ^ n = ((2 ^ n : Nat) : Int) by rw [Int.natCast_pow]; rfl, ← Int.natCast_mul]; omega
theorem shr_word (w n : Nat) (hn : n ≤ 64) : shr .u64 (w : Int) (n : Int) = ((w / 2 ^ n : Nat) : Int) := by
  unfold shr
  have e : min ((n : Int)).toNat IntKind.u64.bits = n := by
    have : IntKind.u64.bits = 64 := rfl
    rw [this]; omega
  rw [e, show (2 : Int) ^ n = ((2 ^ n : Nat) : Int) by rw [Int.natCast_pow]; rfl, ← Int.natCast_ediv]
theorem mul_pow_div (w n : Nat) (hn : n ≤ 64) : w * 2 ^ n / 18446744073709551616 = w / 2 ^ (64 - n) := by
  rw [Nat.mul_comm w, two64 n hn, Nat.mul_div_mul_left _ _ (Nat.pow_pos (by decide))]
end Go.Proofs.YtgkdealidnidiaaDoor.Na
namespace Go.Proofs.YtgkdealidnidiaaDoor.Na
open Go.RowKit Go.Proofs.YtgkdealidnidiaaDoorW.PrintWords Go.Proofs.YtgkdealidnidiaaDoorW.PrintLast Go.Proofs.YtgkdealidnidiaaDoorW.PrintMore
attribute [local go_sem] max2_int max_two
set_option linter.unusedVariables false
set_option linter.unusedSimpArgs false
def chafflaw01_Few.l0 : Nat → List (List Int) → Int → Int → Option (Bool)
  | 0, _, _, _ => none
  | k + 1, x5, x6, x7 => if x7 < x6 then (if 0 ≤ x7 then (if x7 < (x5.length : Int) then (if ((rd_L1 x5 x7).length : Int) > 70 then (some false) else (chafflaw01_Few.l0 k x5 x6 (wrap64 (x7 + 1)))) else (none)) else (none)) else (some true)
def chafflaw01_Few.f (k : Nat) (l0 : List (List Int)) : Option (Bool) := chafflaw01_Few.l0 k l0 (l0.length : Int) 0
set_option maxHeartbeats 8000000 in
set_option maxRecDepth 100000 in
theorem chafflaw01_Few.calls (k : Nat) (A0 : Option Addr) (c0 : Nat) (l0 : List (List Int)) (r : Bool) (w : World) (hr0 : Kd.C (Kd.slice 40 (Kd.int .u64)) w A0 l0.length l0) (hc0 : l0.length ≤ c0) (h : chafflaw01_Few.f k l0 = some r) :
    Calls Tryd.prog 13 #[.slice A0 l0.length c0] w fun e w' => e = .returned (.bool r) ∧ Drawn0 w w' := by
  have HR0 := Aside0.mk hr0
  have HC0 := Aside0.mk hc0
  clear hr0 hc0
  have H : (chafflaw01_Few.l0 k l0 (l0.length : Int) 0) = some r := h
  clear h
  have H' := Aside0.mk H
  clear H
  go_enter Tryd.func13, Tryd.ntmps13
  go_wp2
  go_loopg [7] k (fun kq v7 w' => ∃ (x7_1 : Int), v7 = .int .i64 x7_1 ∧ Aside0 (chafflaw01_Few.l0 kq l0 (l0.length : Int) x7_1 = some r) ∧ Aside0 (kq ≤ k) ∧ Drawn0 w w')
  case atStart => exact ⟨(0), (by first | rfl | (simp; done) | (simp [*]; done)), H', ⟨Nat.le_refl _⟩, by repeat (first | exact Drawn0.refl _ | apply Drawn0.step)⟩
  case round =>
    clear H'
    try clear c1
    obtain ⟨x7_1, rfl, HA, HK1, ⟨m1, rfl⟩⟩ := hrel
    cases gk with
    | zero => exact absurd HA.out (by simp [chafflaw01_Few.l0])
    | succ k1 =>
      have H := HA.out
      clear HA
      simp only [chafflaw01_Few.l0] at H
      by_cases c2 : x7_1 < (l0.length : Int)
      · rw [if_pos c2] at H
        have c2b0 : decide (x7_1 < (l0.length : Int)) = true := decide_eq_true c2
        clear c2
        by_cases c3 : 0 ≤ x7_1
        · rw [if_pos c3] at H
          have c3b0 : decide (0 ≤ x7_1) = true := decide_eq_true c3
          clear c3
          by_cases c4 : x7_1 < (l0.length : Int)
          · rw [if_pos c4] at H
            have c4b0 : decide (x7_1 < (l0.length : Int)) = true := decide_eq_true c4
            clear c4
            by_cases c5 : ((rd_L1 l0 x7_1).length : Int) > 70
            · rw [if_pos c5] at H
              have c5b0 : decide (70 < ((rd_L1 l0 x7_1).length : Int)) = true := decide_eq_true c5
              have c5b1 : decide (70 < (rd_L1 l0 x7_1).length) = true := decide_eq_true (by omega)
              clear c5
              obtain rfl := Option.some.inj H
              have p101 : 0 ≤ (x7_1 : Int) := of_decide_eq_true (by first | (with_reducible assumption) | assumption)
              have q101 : x7_1 < (l0.length : Int) := of_decide_eq_true (by first | (with_reducible assumption) | assumption)
              obtain ⟨ad101, A101_0, c101_0, e101, hx101_0, hl101_0, hi101_0⟩ := at_L1 HR0.out x7_1 p101 q101
              cases e101
              have HR101_0 := Aside0.mk hi101_0
              have HC101_0 := Aside0.mk hl101_0
              clear hi101_0 hl101_0
              replace p101 := eq_true p101
              replace q101 := eq_true q101
              go_wp2
              go_ret
              exact ⟨by first | rfl | (simp; done) | (simp [*]; done), by repeat (first | exact Drawn0.refl _ | apply Drawn0.step)⟩
            · rw [if_neg c5] at H
              have c5b0 : decide (70 < ((rd_L1 l0 x7_1).length : Int)) = false := decide_eq_false c5
              have c5b1 : decide (70 < (rd_L1 l0 x7_1).length) = false := decide_eq_false (by omega)
              clear c5
              have H' := Aside0.mk H
              clear H
              have p101 : 0 ≤ (x7_1 : Int) := of_decide_eq_true (by first | (with_reducible assumption) | assumption)
              have q101 : x7_1 < (l0.length : Int) := of_decide_eq_true (by first | (with_reducible assumption) | assumption)
              obtain ⟨ad101, A101_0, c101_0, e101, hx101_0, hl101_0, hi101_0⟩ := at_L1 HR0.out x7_1 p101 q101
              cases e101
              have HR101_0 := Aside0.mk hi101_0
              have HC101_0 := Aside0.mk hl101_0
              clear hi101_0 hl101_0
              replace p101 := eq_true p101
              replace q101 := eq_true q101
              go_wp2
              go_roundg k1
              case measure => have := HK1.out; omega
              case rel => exact ⟨(wrap64 (x7_1 + 1)), (by first | rfl | (simp; done) | (simp [*]; done)), H', ⟨by have := HK1.out; omega⟩, by repeat (first | exact Drawn0.refl _ | apply Drawn0.step)⟩
          · rw [if_neg c4] at H
            exact absurd H (by simp)
        · rw [if_neg c3] at H
          exact absurd H (by simp)
      · rw [if_neg c2] at H
        have c2b0 : decide (x7_1 < (l0.length : Int)) = false := decide_eq_false c2
        clear c2
        obtain rfl := Option.some.inj H
        go_wp2
        go_ret
        exact ⟨by first | rfl | (simp; done) | (simp [*]; done), by repeat (first | exact Drawn0.refl _ | apply Drawn0.step)⟩
end Go.Proofs.YtgkdealidnidiaaDoor.Na
namespace Go.Proofs.YtgkdealidnidiaaDoor.Na
open Go.RowKit Go.Proofs.YtgkdealidnidiaaDoorW.PrintWords Go.Proofs.YtgkdealidnidiaaDoorW.PrintLast Go.Proofs.YtgkdealidnidiaaDoorW.PrintMore
attribute [local go_sem] max2_int max_two
set_option linter.unusedVariables false
set_option linter.unusedSimpArgs false
def chafflaw01_Of.f (k : Nat) (l0_0 : List Int) : Option (List Int) := (nat_Nat_Words.f l0_0).bind fun t217 => ((chaffref01_From.f k t217).bind fun t220 => (some t220))
set_option maxHeartbeats 8000000 in
set_option maxRecDepth 100000 in
theorem chafflaw01_Of.calls (k : Nat) (A0_0 : Option Addr) (c0_0 : Nat) (l0_0 : List Int) (r : List Int) (w : World) (hr0_0 : Kd.C (Kd.int .u64) w A0_0 l0_0.length l0_0) (hc0_0 : l0_0.length ≤ c0_0) (h : chafflaw01_Of.f k l0_0 = some r) :
    Calls Tryd.prog 75 #[.agg #[.slice A0_0 l0_0.length c0_0]] w fun e w' => ∃ v0_ : Value, e = .returned (v0_) ∧ Kd.V (Kd.int .i64) 3 w' w.heap.size (fun k_ => (w.heap.size ≤ k_)) v0_ r ∧ Below w.heap.size w w' := by
  have hu29 := Tryd.underlying29
  have HR0_0 := Aside0.mk hr0_0
  have HC0_0 := Aside0.mk hc0_0
  clear hr0_0 hc0_0
  have HB := Aside0.mk (Below.refl w.heap.size w)
  have H : ((nat_Nat_Words.f l0_0).bind fun t217 => ((chaffref01_From.f k t217).bind fun t220 => (some t220))) = some r := h
  clear h
  replace H := Option.bind_eq_some_iff.mp H
  obtain ⟨t217, A20, H⟩ := H
  replace H : ((chaffref01_From.f k t217).bind fun t220 => (some t220)) = some r := H
  have A2 := Aside0.mk A20
  clear A20
  replace H := Option.bind_eq_some_iff.mp H
  obtain ⟨t220, A30, H⟩ := H
  replace H : (some t220) = some r := H
  have A3 := Aside0.mk A30
  clear A30
  obtain rfl := Option.some.inj H
  go_enter Tryd.func75, Tryd.ntmps75
  go_wp2_with (first | ((with_reducible refine gate_dst (N := 1) rfl ?_); refine box_event ?hg (N := 1) ?hd (cs := #[.slice A0_0 l0_0.length c0_0]) (t := 29) ?hr ?_; (case hd => rfl); (case hg => rfl); (case hr => first | (go_simp; done) | (go_simp; rfl)); intro gb216 hg w4 hbox hb; have n0_ := Aside0.mk (below_step (by repeat (first | (with_reducible first | exact HB.out | apply below_alloc | apply pw_below_drewN | apply below_drew1) | exact HB.out)) hb); have n1_ := Aside0.mk (hbox); have n2_ := Aside0.mk ((by rw [hg]; exact (below_size (by repeat (first | (with_reducible first | exact HB.out | apply below_alloc | apply pw_below_drewN | apply below_drew1) | exact HB.out))) : w.heap.size ≤ gb216)); have n3_ := Aside0.mk ((by rw [hg]; exact (below_size (by repeat (first | (with_reducible first | exact HB.out | apply below_alloc | apply pw_below_drewN | apply below_drew1) | exact HB.out))) : w.heap.size ≤ gb216)); clear HB; have HB := n0_; have BK216 := n1_; have GW216 := n2_; have GE216 := n3_; clear n0_ n1_ n2_ n3_; clear hb hbox hg; have hcz5_0 : w4.cell? ⟨gb216, 0, none⟩ = some (.slice A0_0 l0_0.length c0_0) := (blk_cell BK216.out 0).trans rfl; have hfz5_0 := blk_frozen BK216.out 0) | ((with_reducible refine gate_callee (f := 18) rfl ?_); refine goesL_ (some 4) rfl rfl Tryd.func18 (by kernel_rfl) rfl #[.agg #[.slice A0_0 l0_0.length c0_0]] rfl (by (try simp only [List.map_toArray, List.map_cons, List.map_nil]); first | done | rfl | (simp only [List.length_drop, List.length_take]; rfl)) ?_; (with_reducible refine (nat_Nat_Words.calls _ _ l0_0 t217 _ ?side1 ?side2 A2.out).mono ?_); (case side1 => repeat (first | exact (Kd.C_below HR0_0.out HB.out) | (with_reducible refine Kd.C_alloc ?_ _) | (with_reducible refine Kd.C_drewN ?_ _) | (with_reducible refine Kd.C_drew ?_))); (case side2 => exact HC0_0.out); rintro e w6 ⟨v218, rfl, ho0, hb⟩; refine ⟨_, rfl, ?_⟩; have n0_ := Aside0.mk (Kd.R_lower (Kd.R_newM (M := fun k_ => (w.heap.size ≤ k_)) ho0 (below_size (by repeat (first | (with_reducible first | exact HB.out | apply below_alloc | apply pw_below_drewN | apply below_drew1 | refine below_set ?_ GE216.out) | exact HB.out))) (fun k_ h_ => h_)) (below_size (by repeat (first | (with_reducible first | exact HB.out | apply below_alloc | apply pw_below_drewN | apply below_drew1 | refine below_set ?_ GE216.out) | exact HB.out)))); have n1_ := Aside0.mk (blk_below (g := gb216) (o := .cells #[.slice A0_0 l0_0.length c0_0] 29 (0, 0)) (by (with_reducible repeat (first | refine blk_drewN ?_ _ | refine blk_drew ?_ | refine blk_alloc ?_ _)); exact BK216.out) hb); have n2_ := Aside0.mk (below_step (by repeat (first | (with_reducible first | exact HB.out | apply below_alloc | apply pw_below_drewN | apply below_drew1 | refine below_set ?_ GE216.out) | exact HB.out)) hb); clear BK216; clear HB; have HO219 := n0_; have BK216 := n1_; have HB := n2_; clear n0_ n1_ n2_; (try clear hb); (try clear hb2); (try clear hk); (try clear hi); (try clear ho0); obtain ⟨Ao7, co7, eo7⟩ := Kd.R_slice HO219.out; subst eo7) | ((with_reducible refine gate_callee (f := 15) rfl ?_); refine goesL_ (some 5) rfl rfl Tryd.func15 (by kernel_rfl) rfl #[.slice Ao7 t217.length co7] rfl (by (try simp only [List.map_toArray, List.map_cons, List.map_nil]); first | done | rfl | (simp only [List.length_drop, List.length_take]; rfl)) ?_; (with_reducible refine (chaffref01_From.calls k _ _ t217 t220 _ ?side1 ?side2 A3.out).mono ?_); (case side1 => repeat (first | exact (Kd.R_reads' HO219.out).2.2 | (with_reducible refine Kd.C_alloc ?_ _) | (with_reducible refine Kd.C_drewN ?_ _) | (with_reducible refine Kd.C_drew ?_))); (case side2 => exact (Kd.R_reads' HO219.out).2.1); rintro e w8 ⟨v221, rfl, ho0, hb⟩; refine ⟨_, rfl, ?_⟩; have n0_ := Aside0.mk (Kd.R_below (by (with_reducible repeat (first | apply Kd.R_alloc | apply Kd.R_drewN | apply Kd.R_drew)); exact HO219.out) hb); have n1_ := Aside0.mk (Kd.V_lower (Kd.V_mono (ok' := fun k_ => (w.heap.size ≤ k_) ∧ some k_ ≠ (.slice Ao7 t217.length co7 : Value).ownBlock ∧ k_ ≠ gb216) ho0 (fun k_ hk_ => ⟨(Nat.le_trans (below_size (by repeat (first | (with_reducible first | exact HB.out | apply below_alloc | apply pw_below_drewN | apply below_drew1 | refine below_set ?_ GE216.out) | exact HB.out))) hk_), (Kd.fresh' (Kd.R_lt (by (with_reducible repeat (first | apply Kd.R_alloc | apply Kd.R_drewN | apply Kd.R_drew)); exact HO219.out)) k_ hk_), (Kd.freshB (g := gb216) (o := .cells #[.slice A0_0 l0_0.length c0_0] 29 (0, 0)) (by (with_reducible repeat (first | refine blk_drewN ?_ _ | refine blk_drew ?_ | refine blk_alloc ?_ _)); exact BK216.out) k_ hk_)⟩)) (below_size (by repeat (first | (with_reducible first | exact HB.out | apply below_alloc | apply pw_below_drewN | apply below_drew1 | refine below_set ?_ GE216.out) | exact HB.out)))); have n2_ := Aside0.mk (blk_below (g := gb216) (o := .cells #[.slice A0_0 l0_0.length c0_0] 29 (0, 0)) (by (with_reducible repeat (first | refine blk_drewN ?_ _ | refine blk_drew ?_ | refine blk_alloc ?_ _)); exact BK216.out) hb); have n3_ := Aside0.mk (below_step (by repeat (first | (with_reducible first | exact HB.out | apply below_alloc | apply pw_below_drewN | apply below_drew1 | refine below_set ?_ GE216.out) | exact HB.out)) hb); clear HO219; clear BK216; clear HB; have HO219 := n0_; have HO222 := n1_; have BK216 := n2_; have HB := n3_; clear n0_ n1_ n2_ n3_; (try clear hb); (try clear hb2); (try clear hk); (try clear hi); (try clear ho0)))
  go_ret
  exact ⟨_, by first | rfl | (simp [errW_none, errW_some] <;> rfl) | (simp [*, errW_none, errW_some] <;> rfl), by (with_reducible repeat (first | apply Kd.V_alloc | apply Kd.V_drewN | apply Kd.V_drew)); exact Kd.V_mono HO222.out (fun _ hk => hk.1), by repeat (first | (with_reducible first | exact HB.out | apply below_alloc | apply pw_below_drewN | apply below_drew1 | refine below_set ?_ GE216.out) | exact HB.out)⟩
end Go.Proofs.YtgkdealidnidiaaDoor.Na
namespace Go.Proofs.YtgkdealidnidiaaDoor.Na
open Go.RowKit Go.Proofs.YtgkdealidnidiaaDoorW.PrintWords Go.Proofs.YtgkdealidnidiaaDoorW.PrintLast Go.Proofs.YtgkdealidnidiaaDoorW.PrintMore
attribute [local go_sem] max2_int max_two
set_option linter.unusedVariables false
set_option linter.unusedSimpArgs false
def chafflaw01_Is.f (k : Nat) (l0_0 : List Int) (l1 : List Int) : Option (Bool) := (chafflaw01_Of.f k l0_0).bind fun t224 => ((chaffref01_Cmp.f k t224 l1).bind fun t227 => (some (t227 == 0)))
set_option maxHeartbeats 8000000 in
set_option maxRecDepth 100000 in
theorem chafflaw01_Is.calls (k : Nat) (A0_0 : Option Addr) (c0_0 : Nat) (l0_0 : List Int) (A1 : Option Addr) (c1 : Nat) (l1 : List Int) (r : Bool) (w : World) (hr0_0 : Kd.C (Kd.int .u64) w A0_0 l0_0.length l0_0) (hc0_0 : l0_0.length ≤ c0_0) (hr1 : Kd.C (Kd.int .i64) w A1 l1.length l1) (hc1 : l1.length ≤ c1) (h : chafflaw01_Is.f k l0_0 l1 = some r) :
    Calls Tryd.prog 27 #[.agg #[.slice A0_0 l0_0.length c0_0], .slice A1 l1.length c1] w fun e w' => e = .returned (.bool r) ∧ Below w.heap.size w w' := by
  have hu29 := Tryd.underlying29
  have HR0_0 := Aside0.mk hr0_0
  have HC0_0 := Aside0.mk hc0_0
  clear hr0_0 hc0_0
  have HR1 := Aside0.mk hr1
  have HC1 := Aside0.mk hc1
  clear hr1 hc1
  have HB := Aside0.mk (Below.refl w.heap.size w)
  have H : ((chafflaw01_Of.f k l0_0).bind fun t224 => ((chaffref01_Cmp.f k t224 l1).bind fun t227 => (some (t227 == 0)))) = some r := h
  clear h
  replace H := Option.bind_eq_some_iff.mp H
  obtain ⟨t224, A30, H⟩ := H
  replace H : ((chaffref01_Cmp.f k t224 l1).bind fun t227 => (some (t227 == 0))) = some r := H
  have A3 := Aside0.mk A30
  clear A30
  replace H := Option.bind_eq_some_iff.mp H
  obtain ⟨t227, A40, H⟩ := H
  replace H : (some (t227 == 0)) = some r := H
  have A4 := Aside0.mk A40
  clear A40
  obtain rfl := Option.some.inj H
  go_enter Tryd.func27, Tryd.ntmps27
  go_wp2_with (first | ((with_reducible refine gate_dst (N := 2) rfl ?_); refine box_event ?hg (N := 2) ?hd (cs := #[.slice A0_0 l0_0.length c0_0]) (t := 29) ?hr ?_; (case hd => rfl); (case hg => rfl); (case hr => first | (go_simp; done) | (go_simp; rfl)); intro gb223 hg w5 hbox hb; have n0_ := Aside0.mk (below_step (by repeat (first | (with_reducible first | exact HB.out | apply below_alloc | apply pw_below_drewN | apply below_drew1) | exact HB.out)) hb); have n1_ := Aside0.mk (hbox); have n2_ := Aside0.mk ((by rw [hg]; exact (below_size (by repeat (first | (with_reducible first | exact HB.out | apply below_alloc | apply pw_below_drewN | apply below_drew1) | exact HB.out))) : w.heap.size ≤ gb223)); have n3_ := Aside0.mk ((by rw [hg]; exact (below_size (by repeat (first | (with_reducible first | exact HB.out | apply below_alloc | apply pw_below_drewN | apply below_drew1) | exact HB.out))) : w.heap.size ≤ gb223)); clear HB; have HB := n0_; have BK223 := n1_; have GW223 := n2_; have GE223 := n3_; clear n0_ n1_ n2_ n3_; clear hb hbox hg; have hcz6_0 : w5.cell? ⟨gb223, 0, none⟩ = some (.slice A0_0 l0_0.length c0_0) := (blk_cell BK223.out 0).trans rfl; have hfz6_0 := blk_frozen BK223.out 0) | ((with_reducible refine gate_callee (f := 75) rfl ?_); refine goesL_ (some 6) rfl rfl Tryd.func75 (by kernel_rfl) rfl #[.agg #[.slice A0_0 l0_0.length c0_0]] rfl (by (try simp only [List.map_toArray, List.map_cons, List.map_nil]); first | done | rfl | (simp only [List.length_drop, List.length_take]; rfl)) ?_; (with_reducible refine (chafflaw01_Of.calls k _ _ l0_0 t224 _ ?side1 ?side2 A3.out).mono ?_); (case side1 => repeat (first | exact (Kd.C_below HR0_0.out HB.out) | (with_reducible refine Kd.C_alloc ?_ _) | (with_reducible refine Kd.C_drewN ?_ _) | (with_reducible refine Kd.C_drew ?_))); (case side2 => exact HC0_0.out); rintro e w7 ⟨v225, rfl, ho0, hb⟩; refine ⟨_, rfl, ?_⟩; have n0_ := Aside0.mk (Kd.V_lower (Kd.V_mono (ok' := fun k_ => k_ ≠ gb223) ho0 (fun k_ hk_ => (Kd.freshB (g := gb223) (o := .cells #[.slice A0_0 l0_0.length c0_0] 29 (0, 0)) (by (with_reducible repeat (first | refine blk_drewN ?_ _ | refine blk_drew ?_ | refine blk_alloc ?_ _)); exact BK223.out) k_ hk_))) (below_size (by repeat (first | (with_reducible first | exact HB.out | apply below_alloc | apply pw_below_drewN | apply below_drew1 | refine below_set ?_ GE223.out) | exact HB.out)))); have n1_ := Aside0.mk (blk_below (g := gb223) (o := .cells #[.slice A0_0 l0_0.length c0_0] 29 (0, 0)) (by (with_reducible repeat (first | refine blk_drewN ?_ _ | refine blk_drew ?_ | refine blk_alloc ?_ _)); exact BK223.out) hb); have n2_ := Aside0.mk (below_step (by repeat (first | (with_reducible first | exact HB.out | apply below_alloc | apply pw_below_drewN | apply below_drew1 | refine below_set ?_ GE223.out) | exact HB.out)) hb); clear BK223; clear HB; have HO226 := n0_; have BK223 := n1_; have HB := n2_; clear n0_ n1_ n2_; (try clear hb); (try clear hb2); (try clear hk); (try clear hi); (try clear ho0); obtain ⟨Ao8, co8, eo8⟩ := Kd.V_slice HO226.out; subst eo8) | ((with_reducible refine gate_callee (f := 37) rfl ?_); refine goesL_ (some 8) rfl rfl Tryd.func37 (by kernel_rfl) rfl #[.slice Ao8 t224.length co8, .slice A1 l1.length c1] rfl (by (try simp only [List.map_toArray, List.map_cons, List.map_nil]); first | done | rfl | (simp only [List.length_drop, List.length_take]; rfl)) ?_; (with_reducible refine (chaffref01_Cmp.calls k _ _ t224 _ _ l1 t227 _ ?side1 ?side2 ?side3 ?side4 A4.out).mono ?_); (case side1 => repeat (first | exact (Kd.V_reads' HO226.out).2.2 | (with_reducible refine Kd.C_alloc ?_ _) | (with_reducible refine Kd.C_drewN ?_ _) | (with_reducible refine Kd.C_drew ?_))); (case side2 => exact (Kd.V_reads' HO226.out).2.1); (case side3 => repeat (first | exact (Kd.C_below HR1.out HB.out) | (with_reducible refine Kd.C_alloc ?_ _) | (with_reducible refine Kd.C_drewN ?_ _) | (with_reducible refine Kd.C_drew ?_))); (case side4 => exact HC1.out); rintro e w' ⟨rfl, ⟨nd, rfl⟩⟩; refine ⟨_, rfl, ?_⟩))
  go_ret
  exact ⟨by first | rfl | (simp [errW_none, errW_some] <;> rfl) | (simp [*, errW_none, errW_some] <;> rfl), by repeat (first | (with_reducible first | exact HB.out | apply below_alloc | apply pw_below_drewN | apply below_drew1 | refine below_set ?_ GE223.out) | exact HB.out)⟩
end Go.Proofs.YtgkdealidnidiaaDoor.Na
namespace Go.Proofs.YtgkdealidnidiaaDoor.Na
open Go.RowKit Go.Proofs.YtgkdealidnidiaaDoorW.PrintWords Go.Proofs.YtgkdealidnidiaaDoorW.PrintLast Go.Proofs.YtgkdealidnidiaaDoorW.PrintMore
attribute [local go_sem] max2_int max_two
set_option linter.unusedVariables false
set_option linter.unusedSimpArgs false
def chafflaw01_got.f (k : Nat) (l0_0 : List Int) (a1 : Int) (l2 : List Int) : Option (Bool) := (chaffref01_Bits.f k l2).bind fun t229 => (if t229 > 4096 then (if a1 = 1 then ((nat_Nat_Zero.f l0_0).bind fun t230 => (some t230)) else (some false)) else (if a1 = 0 then ((chafflaw01_Is.f k l0_0 l2).bind fun t231 => (some t231)) else (some false)))
set_option maxHeartbeats 8000000 in
set_option maxRecDepth 100000 in
theorem chafflaw01_got.calls (k : Nat) (A0_0 : Option Addr) (c0_0 : Nat) (l0_0 : List Int) (a1 : Int) (A2 : Option Addr) (c2 : Nat) (l2 : List Int) (r : Bool) (w : World) (hr0_0 : Kd.C (Kd.int .u64) w A0_0 l0_0.length l0_0) (hc0_0 : l0_0.length ≤ c0_0) (hr2 : Kd.C (Kd.int .i64) w A2 l2.length l2) (hc2 : l2.length ≤ c2) (h : chafflaw01_got.f k l0_0 a1 l2 = some r) :
    Calls Tryd.prog 17 #[.agg #[.slice A0_0 l0_0.length c0_0], .int .i64 a1, .slice A2 l2.length c2] w fun e w' => e = .returned (.bool r) ∧ Below w.heap.size w w' := by
  have hu29 := Tryd.underlying29
  have HR0_0 := Aside0.mk hr0_0
  have HC0_0 := Aside0.mk hc0_0
  clear hr0_0 hc0_0
  have HR2 := Aside0.mk hr2
  have HC2 := Aside0.mk hc2
  clear hr2 hc2
  have HB := Aside0.mk (Below.refl w.heap.size w)
  have H : ((chaffref01_Bits.f k l2).bind fun t229 => (if t229 > 4096 then (if a1 = 1 then ((nat_Nat_Zero.f l0_0).bind fun t230 => (some t230)) else (some false)) else (if a1 = 0 then ((chafflaw01_Is.f k l0_0 l2).bind fun t231 => (some t231)) else (some false)))) = some r := h
  clear h
  replace H := Option.bind_eq_some_iff.mp H
  obtain ⟨t229, A40, H⟩ := H
  replace H : (if t229 > 4096 then (if a1 = 1 then ((nat_Nat_Zero.f l0_0).bind fun t230 => (some t230)) else (some false)) else (if a1 = 0 then ((chafflaw01_Is.f k l0_0 l2).bind fun t231 => (some t231)) else (some false))) = some r := H
  have A4 := Aside0.mk A40
  clear A40
  by_cases c5 : t229 > 4096
  · rw [if_pos c5] at H
    have c5b0 : decide (4096 < t229) = true := decide_eq_true c5
    clear c5
    by_cases c6 : a1 = 1
    · rw [if_pos c6] at H
      have c6b0 : (a1 == 1) = true := beq_iff_eq.mpr c6
      have c6b1 : (a1 != 1) = false := bne_eq_false_iff_eq.mpr c6
      clear c6
      replace H := Option.bind_eq_some_iff.mp H
      obtain ⟨t230, A70, H⟩ := H
      replace H : (some t230) = some r := H
      have A7 := Aside0.mk A70
      clear A70
      obtain rfl := Option.some.inj H
      go_enter Tryd.func17, Tryd.ntmps17
      go_wp2_with (first | ((with_reducible refine gate_dst (N := 3) rfl ?_); refine box_event ?hg (N := 3) ?hd (cs := #[.slice A0_0 l0_0.length c0_0]) (t := 29) ?hr ?_; (case hd => rfl); (case hg => rfl); (case hr => first | (go_simp; done) | (go_simp; rfl)); intro gb228 hg w8 hbox hb; have n0_ := Aside0.mk (below_step (by repeat (first | (with_reducible first | exact HB.out | apply below_alloc | apply pw_below_drewN | apply below_drew1) | exact HB.out)) hb); have n1_ := Aside0.mk (hbox); have n2_ := Aside0.mk ((by rw [hg]; exact (below_size (by repeat (first | (with_reducible first | exact HB.out | apply below_alloc | apply pw_below_drewN | apply below_drew1) | exact HB.out))) : w.heap.size ≤ gb228)); have n3_ := Aside0.mk ((by rw [hg]; exact (below_size (by repeat (first | (with_reducible first | exact HB.out | apply below_alloc | apply pw_below_drewN | apply below_drew1) | exact HB.out))) : w.heap.size ≤ gb228)); clear HB; have HB := n0_; have BK228 := n1_; have GW228 := n2_; have GE228 := n3_; clear n0_ n1_ n2_ n3_; clear hb hbox hg) | ((with_reducible refine gate_callee (f := 21) rfl ?_); refine goesL_ (some 8) rfl rfl Tryd.func21 (by kernel_rfl) rfl #[.slice A2 l2.length c2] rfl (by (try simp only [List.map_toArray, List.map_cons, List.map_nil]); first | done | rfl | (simp only [List.length_drop, List.length_take]; rfl)) ?_; (with_reducible refine (chaffref01_Bits.calls k _ _ l2 t229 _ ?side1 ?side2 A4.out).mono ?_); (case side1 => repeat (first | exact (Kd.C_below HR2.out HB.out) | (with_reducible refine Kd.C_alloc ?_ _) | (with_reducible refine Kd.C_drewN ?_ _) | (with_reducible refine Kd.C_drew ?_))); (case side2 => exact HC2.out); rintro e w' ⟨rfl, ⟨nd, rfl⟩⟩; refine ⟨_, rfl, ?_⟩; have hcz9_0 : w8.cell? ⟨gb228, 0, none⟩ = some (.slice A0_0 l0_0.length c0_0) := (blk_cell BK228.out 0).trans rfl; have hfz9_0 := blk_frozen BK228.out 0) | (go_at_call 22; (with_reducible refine (nat_Nat_Zero.calls _ _ l0_0 t230 _ ?side1 ?side2 A7.out).mono ?_); (case side1 => repeat (first | exact (Kd.C_below HR0_0.out (by repeat (first | (with_reducible first | exact HB.out | apply below_alloc | apply pw_below_drewN | apply below_drew1 | refine below_set ?_ GE228.out) | exact HB.out))) | (with_reducible refine Kd.C_alloc ?_ _) | (with_reducible refine Kd.C_drewN ?_ _) | (with_reducible refine Kd.C_drew ?_))); (case side2 => exact HC0_0.out); rintro e w10 ⟨rfl, hb⟩; have n0_ := Aside0.mk (blk_below (g := gb228) (o := .cells #[.slice A0_0 l0_0.length c0_0] 29 (0, 0)) (by (with_reducible repeat (first | refine blk_drewN ?_ _ | refine blk_drew ?_ | refine blk_alloc ?_ _)); exact BK228.out) hb); have n1_ := Aside0.mk (below_step (by repeat (first | (with_reducible first | exact HB.out | apply below_alloc | apply pw_below_drewN | apply below_drew1 | refine below_set ?_ GE228.out) | exact HB.out)) hb); clear BK228; clear HB; have BK228 := n0_; have HB := n1_; clear n0_ n1_; (try clear hb); (try clear hb2); (try clear hk); (try clear hi)))
      go_ret
      exact ⟨by first | rfl | (simp [errW_none, errW_some] <;> rfl) | (simp [*, errW_none, errW_some] <;> rfl), by repeat (first | (with_reducible first | exact HB.out | apply below_alloc | apply pw_below_drewN | apply below_drew1 | refine below_set ?_ GE228.out) | exact HB.out)⟩
    · rw [if_neg c6] at H
      have c6b0 : (a1 == 1) = false := beq_eq_false_iff_ne.mpr c6
      have c6b1 : (a1 != 1) = true := bne_iff_ne.mpr c6
      obtain rfl := Option.some.inj H
      go_enter Tryd.func17, Tryd.ntmps17
      go_wp2_with (first | ((with_reducible refine gate_dst (N := 3) rfl ?_); refine box_event ?hg (N := 3) ?hd (cs := #[.slice A0_0 l0_0.length c0_0]) (t := 29) ?hr ?_; (case hd => rfl); (case hg => rfl); (case hr => first | (go_simp; done) | (go_simp; rfl)); intro gb228 hg w11 hbox hb; have n0_ := Aside0.mk (below_step (by repeat (first | (with_reducible first | exact HB.out | apply below_alloc | apply pw_below_drewN | apply below_drew1) | exact HB.out)) hb); have n1_ := Aside0.mk (hbox); have n2_ := Aside0.mk ((by rw [hg]; exact (below_size (by repeat (first | (with_reducible first | exact HB.out | apply below_alloc | apply pw_below_drewN | apply below_drew1) | exact HB.out))) : w.heap.size ≤ gb228)); have n3_ := Aside0.mk ((by rw [hg]; exact (below_size (by repeat (first | (with_reducible first | exact HB.out | apply below_alloc | apply pw_below_drewN | apply below_drew1) | exact HB.out))) : w.heap.size ≤ gb228)); clear HB; have HB := n0_; have BK228 := n1_; have GW228 := n2_; have GE228 := n3_; clear n0_ n1_ n2_ n3_; clear hb hbox hg) | ((with_reducible refine gate_callee (f := 21) rfl ?_); refine goesL_ (some 8) rfl rfl Tryd.func21 (by kernel_rfl) rfl #[.slice A2 l2.length c2] rfl (by (try simp only [List.map_toArray, List.map_cons, List.map_nil]); first | done | rfl | (simp only [List.length_drop, List.length_take]; rfl)) ?_; (with_reducible refine (chaffref01_Bits.calls k _ _ l2 t229 _ ?side1 ?side2 A4.out).mono ?_); (case side1 => repeat (first | exact (Kd.C_below HR2.out HB.out) | (with_reducible refine Kd.C_alloc ?_ _) | (with_reducible refine Kd.C_drewN ?_ _) | (with_reducible refine Kd.C_drew ?_))); (case side2 => exact HC2.out); rintro e w' ⟨rfl, ⟨nd, rfl⟩⟩; refine ⟨_, rfl, ?_⟩))
      go_ret
      exact ⟨by first | rfl | (simp [errW_none, errW_some] <;> rfl) | (simp [*, errW_none, errW_some] <;> rfl), by repeat (first | (with_reducible first | exact HB.out | apply below_alloc | apply pw_below_drewN | apply below_drew1 | refine below_set ?_ GE228.out) | exact HB.out)⟩
  · rw [if_neg c5] at H
    have c5b0 : decide (4096 < t229) = false := decide_eq_false c5
    clear c5
    by_cases c12 : a1 = 0
    · rw [if_pos c12] at H
      have c12b0 : (a1 == 0) = true := beq_iff_eq.mpr c12
      have c12b1 : (a1 != 0) = false := bne_eq_false_iff_eq.mpr c12
      clear c12
      replace H := Option.bind_eq_some_iff.mp H
      obtain ⟨t231, A130, H⟩ := H
      replace H : (some t231) = some r := H
      have A13 := Aside0.mk A130
      clear A130
      obtain rfl := Option.some.inj H
      go_enter Tryd.func17, Tryd.ntmps17
      go_wp2_with (first | ((with_reducible refine gate_dst (N := 3) rfl ?_); refine box_event ?hg (N := 3) ?hd (cs := #[.slice A0_0 l0_0.length c0_0]) (t := 29) ?hr ?_; (case hd => rfl); (case hg => rfl); (case hr => first | (go_simp; done) | (go_simp; rfl)); intro gb228 hg w14 hbox hb; have n0_ := Aside0.mk (below_step (by repeat (first | (with_reducible first | exact HB.out | apply below_alloc | apply pw_below_drewN | apply below_drew1) | exact HB.out)) hb); have n1_ := Aside0.mk (hbox); have n2_ := Aside0.mk ((by rw [hg]; exact (below_size (by repeat (first | (with_reducible first | exact HB.out | apply below_alloc | apply pw_below_drewN | apply below_drew1) | exact HB.out))) : w.heap.size ≤ gb228)); have n3_ := Aside0.mk ((by rw [hg]; exact (below_size (by repeat (first | (with_reducible first | exact HB.out | apply below_alloc | apply pw_below_drewN | apply below_drew1) | exact HB.out))) : w.heap.size ≤ gb228)); clear HB; have HB := n0_; have BK228 := n1_; have GW228 := n2_; have GE228 := n3_; clear n0_ n1_ n2_ n3_; clear hb hbox hg) | ((with_reducible refine gate_callee (f := 21) rfl ?_); refine goesL_ (some 8) rfl rfl Tryd.func21 (by kernel_rfl) rfl #[.slice A2 l2.length c2] rfl (by (try simp only [List.map_toArray, List.map_cons, List.map_nil]); first | done | rfl | (simp only [List.length_drop, List.length_take]; rfl)) ?_; (with_reducible refine (chaffref01_Bits.calls k _ _ l2 t229 _ ?side1 ?side2 A4.out).mono ?_); (case side1 => repeat (first | exact (Kd.C_below HR2.out HB.out) | (with_reducible refine Kd.C_alloc ?_ _) | (with_reducible refine Kd.C_drewN ?_ _) | (with_reducible refine Kd.C_drew ?_))); (case side2 => exact HC2.out); rintro e w' ⟨rfl, ⟨nd, rfl⟩⟩; refine ⟨_, rfl, ?_⟩; have hcz15_0 : w14.cell? ⟨gb228, 0, none⟩ = some (.slice A0_0 l0_0.length c0_0) := (blk_cell BK228.out 0).trans rfl; have hfz15_0 := blk_frozen BK228.out 0) | (go_at_call 27; (with_reducible refine (chafflaw01_Is.calls k _ _ l0_0 _ _ l2 t231 _ ?side1 ?side2 ?side3 ?side4 A13.out).mono ?_); (case side1 => repeat (first | exact (Kd.C_below HR0_0.out (by repeat (first | (with_reducible first | exact HB.out | apply below_alloc | apply pw_below_drewN | apply below_drew1 | refine below_set ?_ GE228.out) | exact HB.out))) | (with_reducible refine Kd.C_alloc ?_ _) | (with_reducible refine Kd.C_drewN ?_ _) | (with_reducible refine Kd.C_drew ?_))); (case side2 => exact HC0_0.out); (case side3 => repeat (first | exact (Kd.C_below HR2.out (by repeat (first | (with_reducible first | exact HB.out | apply below_alloc | apply pw_below_drewN | apply below_drew1 | refine below_set ?_ GE228.out) | exact HB.out))) | (with_reducible refine Kd.C_alloc ?_ _) | (with_reducible refine Kd.C_drewN ?_ _) | (with_reducible refine Kd.C_drew ?_))); (case side4 => exact HC2.out); rintro e w16 ⟨rfl, hb⟩; have n0_ := Aside0.mk (blk_below (g := gb228) (o := .cells #[.slice A0_0 l0_0.length c0_0] 29 (0, 0)) (by (with_reducible repeat (first | refine blk_drewN ?_ _ | refine blk_drew ?_ | refine blk_alloc ?_ _)); exact BK228.out) hb); have n1_ := Aside0.mk (below_step (by repeat (first | (with_reducible first | exact HB.out | apply below_alloc | apply pw_below_drewN | apply below_drew1 | refine below_set ?_ GE228.out) | exact HB.out)) hb); clear BK228; clear HB; have BK228 := n0_; have HB := n1_; clear n0_ n1_; (try clear hb); (try clear hb2); (try clear hk); (try clear hi)))
      go_ret
      exact ⟨by first | rfl | (simp [errW_none, errW_some] <;> rfl) | (simp [*, errW_none, errW_some] <;> rfl), by repeat (first | (with_reducible first | exact HB.out | apply below_alloc | apply pw_below_drewN | apply below_drew1 | refine below_set ?_ GE228.out) | exact HB.out)⟩
    · rw [if_neg c12] at H
      have c12b0 : (a1 == 0) = false := beq_eq_false_iff_ne.mpr c12
      have c12b1 : (a1 != 0) = true := bne_iff_ne.mpr c12
      obtain rfl := Option.some.inj H
      go_enter Tryd.func17, Tryd.ntmps17
      go_wp2_with (first | ((with_reducible refine gate_dst (N := 3) rfl ?_); refine box_event ?hg (N := 3) ?hd (cs := #[.slice A0_0 l0_0.length c0_0]) (t := 29) ?hr ?_; (case hd => rfl); (case hg => rfl); (case hr => first | (go_simp; done) | (go_simp; rfl)); intro gb228 hg w17 hbox hb; have n0_ := Aside0.mk (below_step (by repeat (first | (with_reducible first | exact HB.out | apply below_alloc | apply pw_below_drewN | apply below_drew1) | exact HB.out)) hb); have n1_ := Aside0.mk (hbox); have n2_ := Aside0.mk ((by rw [hg]; exact (below_size (by repeat (first | (with_reducible first | exact HB.out | apply below_alloc | apply pw_below_drewN | apply below_drew1) | exact HB.out))) : w.heap.size ≤ gb228)); have n3_ := Aside0.mk ((by rw [hg]; exact (below_size (by repeat (first | (with_reducible first | exact HB.out | apply below_alloc | apply pw_below_drewN | apply below_drew1) | exact HB.out))) : w.heap.size ≤ gb228)); clear HB; have HB := n0_; have BK228 := n1_; have GW228 := n2_; have GE228 := n3_; clear n0_ n1_ n2_ n3_; clear hb hbox hg) | ((with_reducible refine gate_callee (f := 21) rfl ?_); refine goesL_ (some 8) rfl rfl Tryd.func21 (by kernel_rfl) rfl #[.slice A2 l2.length c2] rfl (by (try simp only [List.map_toArray, List.map_cons, List.map_nil]); first | done | rfl | (simp only [List.length_drop, List.length_take]; rfl)) ?_; (with_reducible refine (chaffref01_Bits.calls k _ _ l2 t229 _ ?side1 ?side2 A4.out).mono ?_); (case side1 => repeat (first | exact (Kd.C_below HR2.out HB.out) | (with_reducible refine Kd.C_alloc ?_ _) | (with_reducible refine Kd.C_drewN ?_ _) | (with_reducible refine Kd.C_drew ?_))); (case side2 => exact HC2.out); rintro e w' ⟨rfl, ⟨nd, rfl⟩⟩; refine ⟨_, rfl, ?_⟩))
      go_ret
      exact ⟨by first | rfl | (simp [errW_none, errW_some] <;> rfl) | (simp [*, errW_none, errW_some] <;> rfl), by repeat (first | (with_reducible first | exact HB.out | apply below_alloc | apply pw_below_drewN | apply below_drew1 | refine below_set ?_ GE228.out) | exact HB.out)⟩
end Go.Proofs.YtgkdealidnidiaaDoor.Na
namespace Go.Proofs.YtgkdealidnidiaaDoor.Na
open Go.RowKit Go.Proofs.YtgkdealidnidiaaDoorW.PrintWords Go.Proofs.YtgkdealidnidiaaDoorW.PrintLast Go.Proofs.YtgkdealidnidiaaDoorW.PrintMore Go.Proofs.YtgkdealidnidiaaDoor.Dg
def fewL (l : List (List Int)) : Bool := l.all fun x => decide (x.length ≤ 70)
theorem few_loop (l : List (List Int)) (hl : l.length ≤ 1000) : ∀ (d i : Nat), i + d = l.length → Ev (fun k => chafflaw01_Few.l0 k l (l.length : Int) i) (fewL (l.drop i))
  | 0, i, hi => by
    obtain rfl : i = l.length := by omega
    refine Ev.step (f := fun _ => some true) (fun k => by rw [chafflaw01_Few.l0, if_neg (by omega)]) ?_
    rw [List.drop_of_length_le (Nat.le_refl _)]
    exact Ev.now _
  | d + 1, i, hi => by
    have ih := few_loop l hl d (i + 1) (by omega)
    have hd : l.drop i = l[i] :: l.drop (i + 1) := List.drop_eq_getElem_cons (by omega)
    have hr : rd_L1 l (i : Int) = l[i] := by unfold rd_L1; rw [Int.toNat_natCast]; simp [List.getD, List.getElem?_eq_getElem (show i < l.length by omega)]
    have E := Aside0.mk (show wrap64 ((i : Int) + 1) = ((i + 1 : Nat) : Int) by rw [w64 (by omega) (by omega)]; rfl)
    rw [hd]
    unfold fewL
    rw [List.all_cons]
    by_cases h : l[i].length ≤ 70
    · rw [decide_eq_true h, Bool.true_and]
      refine Ev.step (fun k => ?_) ih
      have g1 : (i : Int) < (l.length : Int) := by omega
      have g2 : (0 : Int) ≤ (i : Int) := by omega
      have g3 : ¬ ((l[i].length : Int) > 70) := by omega
      rw [chafflaw01_Few.l0, if_pos g1, if_pos g2, if_pos g1, hr, if_neg g3, E.out]
    · rw [decide_eq_false h, Bool.false_and]
      refine Ev.step (f := fun _ => some false) (fun k => ?_) (Ev.now _)
      have g1 : (i : Int) < (l.length : Int) := by omega
      have g2 : (0 : Int) ≤ (i : Int) := by omega
      have g3 : (l[i].length : Int) > 70 := by omega
      rw [chafflaw01_Few.l0, if_pos g1, if_pos g2, if_pos g1, hr, if_pos g3]
theorem few_ev (l : List (List Int)) (hl : l.length ≤ 1000) : Ev (fun k => chafflaw01_Few.f k l) (fewL l) := few_loop l hl l.length 0 (by omega)
theorem lof_ev (n : Nat) (h : (wd BW n).length ≤ 1000000) : Ev (fun k => chafflaw01_Of.f k (wd BW n)) (wd BD n) := by
  refine Ev.congr (f := fun k => (chaffref01_From.f k (wd BW n)).bind fun t220 => (some t220)) (fun k => by
    unfold chafflaw01_Of.f nat_Nat_Words.f slices_Clone_uint64_uint64.f
    rw [if_pos (by omega)]; rfl) ?_
  exact Ev.bind (rfrom_ev (wd BW n) n (wd_R (by decide) n) (wd_V (by decide) n) (by omega)) (Ev.now _)
theorem len_BD {n k : Nat} (h : (wd BW n).length ≤ k) : (wd BD n).length ≤ 4 * k := by
  rw [len_le_iff (by decide)] at h ⊢
  rw [pow64] at h
  rw [pow16]
  rw [show 16 * (4 * k) = 64 * k by omega]; exact h
theorem cmpN_zero (x y : Nat) : (cmpN x y == 0) = decide (x = y) := by
  unfold cmpN
  split
  · rw [decide_eq_false (by omega)]; rfl
  · split
    · rw [decide_eq_false (by omega)]; rfl
    · rw [decide_eq_true (by omega)]; rfl
theorem is_ev (n m : Nat) (h : (wd BW n).length ≤ 250000) : Ev (fun k => chafflaw01_Is.f k (wd BW n) (wd BD m)) (decide (n = m)) := by
  unfold chafflaw01_Is.f
  refine Ev.bind (lof_ev n (by omega)) (Ev.bind (rcmp_ev2 n m (by have := len_BD h; omega)) ?_)
  rw [cmpN_zero]
  exact Ev.now _
theorem got_ev (n : Nat) (e : Int) (m : Nat) (h : (wd BW n).length ≤ 250000) (hm : (wd BD m).length ≤ 1000000) :
    Ev (fun k => chafflaw01_got.f k (wd BW n) e (wd BD m)) (if 4096 < nb m then (decide (e = 1) && decide (n = 0)) else (decide (e = 0) && decide (n = m))) := by
  unfold chafflaw01_got.f
  refine Ev.bind (rbits_ev m hm) ?_
  by_cases hb : 4096 < nb m
  · rw [if_pos hb]
    refine Ev.congr (f := fun k => if e = 1 then ((nat_Nat_Zero.f (wd BW n)).bind fun t230 => (some t230)) else (some false)) (fun k => by rw [if_pos (by omega)]) ?_
    by_cases he : e = 1
    · rw [decide_eq_true he, Bool.true_and]
      simp only [if_pos he, nat_Nat_Zero.f]
      refine Ev.congr (f := fun _ => some (decide (n = 0))) (fun k => ?_) (Ev.now _)
      rw [Option.bind_some]
      congr 1
      by_cases hn : n = 0
      · subst hn; rw [wd_zero]; rfl
      · have := wd_ne (b := BW) (n := n) (by decide) (by omega)
        rw [decide_eq_false hn]
        cases hw : wd BW n with
        | nil => exact absurd hw this
        | cons a l => simp; omega
    · rw [decide_eq_false he, Bool.false_and]
      simp only [if_neg he]
      exact Ev.now _
  · rw [if_neg hb]
    refine Ev.congr (f := fun k => if e = 0 then ((chafflaw01_Is.f k (wd BW n) (wd BD m)).bind fun t231 => (some t231)) else (some false)) (fun k => by rw [if_neg (by omega)]) ?_
    by_cases he : e = 0
    · rw [decide_eq_true he, Bool.true_and]
      simp only [if_pos he]
      exact Ev.bind (is_ev n m h) (Ev.now _)
    · rw [decide_eq_false he, Bool.false_and]
      simp only [if_neg he]
      exact Ev.now _
end Go.Proofs.YtgkdealidnidiaaDoor.Na
namespace Go.Proofs.YtgkdealidnidiaaDoor.Na
open Go.RowKit Go.Proofs.YtgkdealidnidiaaDoorW.PrintWords Go.Proofs.YtgkdealidnidiaaDoorW.PrintLast Go.Proofs.YtgkdealidnidiaaDoorW.PrintMore Go.Proofs.YtgkdealidnidiaaDoor.Dg
def decS (n : Nat) : ByteArray := ⟨(Lib.decDigits n).toArray⟩
theorem ba_ext {a b : ByteArray} (h : a.data.toList = b.data.toList) : a = b := by
  cases a; cases b; simp only [ByteArray.mk.injEq]; exact Array.ext' h
theorem ba_append (a b : ByteArray) : (a ++ b).data.toList = a.data.toList ++ b.data.toList := by simp
theorem decS_data (n : Nat) : (decS n).data.toList = Lib.decDigits n := by simp [decS]
theorem decD_small {u : Nat} (h : u < 10) : Lib.decDigits u = [UInt8.ofNat (48 + u)] := by rw [Lib.decDigits, dif_pos h]
end Go.Proofs.YtgkdealidnidiaaDoor.Na
namespace Go.Proofs.YtgkdealidnidiaaDoor.Na
open Go.RowKit Go.Proofs.YtgkdealidnidiaaDoorW.PrintWords Go.Proofs.YtgkdealidnidiaaDoorW.PrintLast Go.Proofs.YtgkdealidnidiaaDoorW.PrintMore
attribute [local go_sem] max2_int max_two
set_option linter.unusedVariables false
set_option linter.unusedSimpArgs false
def bits_LeadingZeros64.f (k : Nat) (a0 : Int) : Option (Int) := (bits_Len64.f k a0).bind fun t128 => (some (wrap64 (64 - t128)))
set_option maxHeartbeats 8000000 in
set_option maxRecDepth 100000 in
theorem bits_LeadingZeros64.calls (k : Nat) (a0 : Int) (r : Int) (w : World) (h : bits_LeadingZeros64.f k a0 = some r) :
    Calls Tryd.prog 106 #[.int .u64 a0] w fun e w' => e = .returned (.int .i64 r) ∧ Drawn0 w w' := by
  have H : ((bits_Len64.f k a0).bind fun t128 => (some (wrap64 (64 - t128)))) = some r := h
  clear h
  replace H := Option.bind_eq_some_iff.mp H
  obtain ⟨t128, A20, H⟩ := H
  replace H : (some (wrap64 (64 - t128))) = some r := H
  have A2 := Aside0.mk A20
  clear A20
  obtain rfl := Option.some.inj H
  go_enter Tryd.func106, Tryd.ntmps106
  go_wp2_with (first | ((with_reducible refine gate_callee (f := 66) rfl ?_); refine goesL_ (some 4) rfl rfl Tryd.func66 (by kernel_rfl) rfl #[.int .u64 a0] rfl (by (try simp only [List.map_toArray, List.map_cons, List.map_nil]); first | done | rfl | (simp only [List.length_drop, List.length_take]; rfl)) ?_; (with_reducible refine (bits_Len64.calls k a0 t128 _ A2.out).mono ?_); rintro e w' ⟨rfl, ⟨nd, rfl⟩⟩; refine ⟨_, rfl, ?_⟩))
  go_ret
  exact ⟨by first | rfl | (simp; done) | (simp [*]; done), by repeat (first | exact Drawn0.refl _ | apply Drawn0.step)⟩
end Go.Proofs.YtgkdealidnidiaaDoor.Na
