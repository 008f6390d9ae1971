/- Texts of the seat, as far as the row needs them. -/
import Derived.Laws.BitsAllLaws
import Derived.Lib.ItoaMem
import Derived.Lib.SmallJoins
import Derived.Lib.Strings
import Derived.Test.YtgkdealidnidiaaDoorQRatRounds5
set_option linter.unusedVariables false
set_option linter.unusedSimpArgs false
set_option maxHeartbeats 8000000
set_option maxRecDepth 100000
namespace Go.Proofs.YtgkdealidnidiaaDoor.Na
open Go.RowKit Go.Proofs.YtgkdealidnidiaaDoorW.PrintWords Go.Proofs.YtgkdealidnidiaaDoorW.PrintLast Go.Proofs.YtgkdealidnidiaaDoorW.PrintMore
attribute [local go_sem] zx0 zd1
def nat_Nat_Shr.l0 : Nat → List Int → List Int → Int → Int → Int → Option (List Int × Int)
 | 0, _, _, _, _, _ => none
 | k + 1, x6, x7, x8, x32, x33 => if x33 < x32 then (if 0 ≤ x33 then (if x33 < (x6.length : Int) then (if 0 ≤ x8 then (if x33 < (x7.length : Int) then ((some (x7.set (x33 : Int).toNat (shr .u64 (rd x6 x33) x8) : List Int)).bind fun y333 => (if x8 > 0 then (if (wrap64 (x33 + 1)) < (x6.length : Int) then (if 0 ≤ (wrap64 (x33 + 1)) then (if 0 ≤ (IntKind.u64.wrap (64 - x8)) then (nat_Nat_Shr.l0 k x6 (y333.set (x33 : Int).toNat (Go.bits .or .u64 (rd y333 x33) (shl .u64 (rd x6 (wrap64 (x33 + 1))) (IntKind.u64.wrap (64 - x8))))) x8 x32 (wrap64 (x33 + 1))) else (none)) else (none)) else (nat_Nat_Shr.l0 k x6 y333 x8 x32 (wrap64 (x33 + 1)))) else (nat_Nat_Shr.l0 k x6 y333 x8 x32 (wrap64 (x33 + 1))))) else (none)) else (none)) else (none)) else (none)) else ((nat_norm.f k x7).bind fun t337 => (some (t337, 0)))
def nat_Nat_Shr.f (k : Nat) (l0_0 : List Int) (a1 : Int) : Option (List Int × Int) := if a1 < 0 then (some (([] : List Int), 5)) else (if (wrap64 (Int.tdiv a1 64)) ≥ (l0_0.length : Int) then (some (([] : List Int), 0)) else (if 0 ≤ (wrap64 (Int.tdiv a1 64)) then (if (wrap64 (Int.tdiv a1 64)) ≤ (l0_0.length : Int) then (if 0 ≤ ((l0_0.drop ((wrap64 (Int.tdiv a1 64)) : Int).toNat).length : Int) then (if (((l0_0.drop ((wrap64 (Int.tdiv a1 64)) : Int).toNat).length : Int) : Int).toNat ≤ 35184372088832 then (nat_Nat_Shr.l0 k (l0_0.drop ((wrap64 (Int.tdiv a1 64)) : Int).toNat) (List.replicate (((l0_0.drop ((wrap64 (Int.tdiv a1 64)) : Int).toNat).length : Int) : Int).toNat 0) (IntKind.u64.wrap (Int.tmod a1 64)) ((l0_0.drop ((wrap64 (Int.tdiv a1 64)) : Int).toNat).length : Int) 0) else (none)) else (none)) else (none)) else (none)))
def nat_Nat_Shr.T13 : Bool × List (List Nat × List Nat) := (true, [([], []), ([], []), ([0, 1], [0, 1]), ([2], [2]), ([], []), ([], []), ([5], [5]), ([4, 6], [4, 6]), ([7], [7]), ([], []), ([9], [9]), ([8, 10], [8, 10]), ([3, 11], [3, 11]), ([0, 1, 0, 1, 2, 3, 4, 5, 6, 7, 8, 9, 10, 11, 12], [0, 1]), ([13, 12, 0, 1, 2, 3, 4, 5, 6, 7, 8, 9, 10, 11, 12], [12, 13])])
def nat_Nat_Shr.B13 : List Nat := [0, 0, 3, 7, 0, 0, 32, 112, 240, 0, 512, 2032, 4095, 8191, 16383]
theorem nat_Nat_Shr.tab13 : zo2 .any (opsOf Tryd.f29 13) = nat_Nat_Shr.T13 := by kernel_rfl
theorem nat_Nat_Shr.bits13 : zf2 nat_Nat_Shr.T13.2 nat_Nat_Shr.B13 = true := by kernel_rfl
theorem nat_Nat_Shr.calls (k : Nat) (A0_0 : Option Addr) (c0_0 : Nat) (l0_0 : List Int) (a1 : Int) (r1 : List Int) (r2 : Int) (w : World) (hr0_0 : Kd.C (Kd.int .u64) w A0_0 l0_0.length l0_0) (hc0_0 : l0_0.length ≤ c0_0) (h : nat_Nat_Shr.f k l0_0 a1 = some (r1, r2)) :
  Calls Tryd.prog 29 #[.agg #[.slice A0_0 l0_0.length c0_0], .int .i64 a1] w fun e w' => ∃ v0_ : Value, e = .returned (.tuple #[.agg #[v0_], .int .i64 r2]) ∧ Kd.V (Kd.int .u64) 40 w' w.heap.size (fun k_ => (w.heap.size ≤ k_)) v0_ r1 ∧ Below w.heap.size w w' := by
 have hu29 := Tryd.underlying29
 have HR0_0 := Q0.mk hr0_0
 have HC0_0 := Q0.mk hc0_0
 clear hr0_0 hc0_0
 have HB := Q0.mk (Below.refl w.heap.size w)
 have H : (if a1 < 0 then (some (([] : List Int), 5)) else (if (wrap64 (Int.tdiv a1 64)) ≥ (l0_0.length : Int) then (some (([] : List Int), 0)) else (if 0 ≤ (wrap64 (Int.tdiv a1 64)) then (if (wrap64 (Int.tdiv a1 64)) ≤ (l0_0.length : Int) then (if 0 ≤ ((l0_0.drop ((wrap64 (Int.tdiv a1 64)) : Int).toNat).length : Int) then (if (((l0_0.drop ((wrap64 (Int.tdiv a1 64)) : Int).toNat).length : Int) : Int).toNat ≤ 35184372088832 then (nat_Nat_Shr.l0 k (l0_0.drop ((wrap64 (Int.tdiv a1 64)) : Int).toNat) (List.replicate (((l0_0.drop ((wrap64 (Int.tdiv a1 64)) : Int).toNat).length : Int) : Int).toNat 0) (IntKind.u64.wrap (Int.tmod a1 64)) ((l0_0.drop ((wrap64 (Int.tdiv a1 64)) : Int).toNat).length : Int) 0) else (none)) else (none)) else (none)) else (none)))) = some (r1, r2) := h
 clear h
 by_cases c3 : a1 < 0
 ·rw [if_pos c3] at H
  have c3b0 : decide (a1 < 0) = true := decide_eq_true c3
  clear c3
  simp only [Option.some.injEq, Prod.mk.injEq] at H
  obtain ⟨rfl, rfl⟩ := H
  go_enter Tryd.func29, Tryd.ntmps29
  go_wp2_with (first | ((with_reducible refine gD (N := 2) rfl ?_); (try (refine zr1 (by rfl) ?_; dsimp only)); refine xE ?hg (N := 2) ?hd (cs := #[.slice A0_0 l0_0.length c0_0]) (t := 29) ?hr ?_; (case hd => rfl); (case hg => rfl); (case hr => first | (go_simp; done) | (go_simp; rfl)); intro gb326 hg w4 hbox hb; have q_ := zm (w := w) hb (by repeat (first | (with_reducible first | exact HB.out | apply bA | apply bN | apply b1_) | exact HB.out)); replace HB := Q0.mk (bP q_ hb); have BK326 := Q0.mk (hbox); have GW326 := Q0.mk ((by rw [hg]; exact (bZ q_) : w.heap.size ≤ gb326)); have GE326 := GW326; clear q_; clear hb hbox hg) | ((with_reducible refine gD (N := 4) rfl ?_); (try (refine zr1 (by rfl) ?_; dsimp only)); refine xE ?hg (N := 4) ?hd (cs := #[.slice none 0 0]) (t := 29) ?hr ?_; (case hd => rfl); (case hg => rfl); (case hr => first | (go_simp; done) | (go_simp; rfl)); intro gb327 hg w5 hbox hb; have q_ := zm (w := w) hb (by repeat (first | (with_reducible first | exact HB.out | apply bA | apply bN | apply b1_ | refine bS ?_ GE326.out) | exact HB.out)); replace HB := Q0.mk (bP q_ hb); have BK327 := Q0.mk (hbox); have GW327 := Q0.mk ((by rw [hg]; exact (bZ q_) : w.heap.size ≤ gb327)); have GE327 := GW327; have NB326_327 := Q0.mk ((by rw [hg]; exact Nat.ne_of_lt (zj0 (g := gb326) (o := .cells #[.slice A0_0 l0_0.length c0_0] 29 (0, 0)) (by (with_reducible repeat (first | refine kN ?_ _ | refine kD ?_ | refine kA ?_ _)); exact BK326.out)) : gb326 ≠ gb327)); replace BK326 := Q0.mk (kB (g := gb326) (o := .cells #[.slice A0_0 l0_0.length c0_0] 29 (0, 0)) (by (with_reducible repeat (first | refine kN ?_ _ | refine kD ?_ | refine kA ?_ _)); exact BK326.out) hb); have NB327_326 := Q0.mk NB326_327.out.symm; clear q_; clear hb hbox hg; have hnb6 := NB327_326.out; have hnc6 := NB326_327.out; have hcz7_0 : w5.cell? ⟨gb327, 0, none⟩ = some (.slice none 0 0) := (kC BK327.out 0).trans rfl; have hfz7_0 := kF BK327.out 0))
  refine bodyPost_ret (zg1 rfl _ _ gb327 29 #[.slice none 0 0] (0, 0) _ rfl (by (with_reducible repeat (first | refine kN ?_ _ | refine kD ?_ | refine kA ?_ _)); refine zc0 (cs := #[.slice none 0 0]) ?_ 0 _ rfl; (with_reducible repeat (first | refine kN ?_ _ | refine kD ?_ | refine kA ?_ _)); exact BK327.out) Tryd.underlying29 rfl (by kernel_rfl)) rfl ?_
  exact ⟨_, by first | rfl | (simp [eN, eS] <;> rfl) | (simp [*, eN, eS] <;> rfl), Kd.R_V (base := w.heap.size) (by first | exact Kd.zj1 _ _ _ _ _ | exact Kd.N_nil _ _ _ _ _ | exact Kd.zg3 _ _ _ _ _ | exact Kd.Q_nil _ _ _ _ _ | exact Kd.S_nil _ _ _ _ _), by repeat (first | (with_reducible first | exact HB.out | apply bA | apply bN | apply b1_ | refine bS ?_ GE326.out | refine bS ?_ GE327.out) | exact HB.out)⟩
 ·rw [if_neg c3] at H
  have c3b0 : decide (a1 < 0) = false := decide_eq_false c3
  clear c3
  by_cases c8 : (wrap64 (Int.tdiv a1 64)) ≥ (l0_0.length : Int)
  ·rw [if_pos c8] at H
   have c8b0 : decide ((l0_0.length : Int) ≤ (wrap64 (Int.tdiv a1 64))) = true := decide_eq_true c8
   clear c8
   simp only [Option.some.injEq, Prod.mk.injEq] at H
   obtain ⟨rfl, rfl⟩ := H
   go_enter Tryd.func29, Tryd.ntmps29
   go_wp2_with (first | ((with_reducible refine gD (N := 2) rfl ?_); (try (refine zr1 (by rfl) ?_; dsimp only)); refine xE ?hg (N := 2) ?hd (cs := #[.slice A0_0 l0_0.length c0_0]) (t := 29) ?hr ?_; (case hd => rfl); (case hg => rfl); (case hr => first | (go_simp; done) | (go_simp; rfl)); intro gb326 hg w9 hbox hb; have q_ := zm (w := w) hb (by repeat (first | (with_reducible first | exact HB.out | apply bA | apply bN | apply b1_) | exact HB.out)); replace HB := Q0.mk (bP q_ hb); have BK326 := Q0.mk (hbox); have GW326 := Q0.mk ((by rw [hg]; exact (bZ q_) : w.heap.size ≤ gb326)); have GE326 := GW326; clear q_; clear hb hbox hg) | ((with_reducible refine gD (N := 4) rfl ?_); (try (refine zr1 (by rfl) ?_; dsimp only)); refine xE ?hg (N := 4) ?hd (cs := #[.slice none 0 0]) (t := 29) ?hr ?_; (case hd => rfl); (case hg => rfl); (case hr => first | (go_simp; done) | (go_simp; rfl)); intro gb327 hg w10 hbox hb; have q_ := zm (w := w) hb (by repeat (first | (with_reducible first | exact HB.out | apply bA | apply bN | apply b1_ | refine bS ?_ GE326.out) | exact HB.out)); replace HB := Q0.mk (bP q_ hb); have BK327 := Q0.mk (hbox); have GW327 := Q0.mk ((by rw [hg]; exact (bZ q_) : w.heap.size ≤ gb327)); have GE327 := GW327; have NB326_327 := Q0.mk ((by rw [hg]; exact Nat.ne_of_lt (zj0 (g := gb326) (o := .cells #[.slice A0_0 l0_0.length c0_0] 29 (0, 0)) (by (with_reducible repeat (first | refine kN ?_ _ | refine kD ?_ | refine kA ?_ _)); exact BK326.out)) : gb326 ≠ gb327)); replace BK326 := Q0.mk (kB (g := gb326) (o := .cells #[.slice A0_0 l0_0.length c0_0] 29 (0, 0)) (by (with_reducible repeat (first | refine kN ?_ _ | refine kD ?_ | refine kA ?_ _)); exact BK326.out) hb); have NB327_326 := Q0.mk NB326_327.out.symm; clear q_; clear hb hbox hg; have hnb11 := NB326_327.out; have hnc11 := NB327_326.out; have hcz12_0 : w10.cell? ⟨gb326, 0, none⟩ = some (.slice A0_0 l0_0.length c0_0) := (kC BK326.out 0).trans rfl; have hfz12_0 := kF BK326.out 0; have hcz13_0 : w10.cell? ⟨gb327, 0, none⟩ = some (.slice none 0 0) := (kC BK327.out 0).trans rfl; have hfz13_0 := kF BK327.out 0))
   refine bodyPost_ret (zg1 rfl _ _ gb327 29 #[.slice none 0 0] (0, 0) _ rfl (by (with_reducible repeat (first | refine kN ?_ _ | refine kD ?_ | refine kA ?_ _)); refine zc0 (cs := #[.slice none 0 0]) ?_ 0 _ rfl; (with_reducible repeat (first | refine kN ?_ _ | refine kD ?_ | refine kA ?_ _)); exact BK327.out) Tryd.underlying29 rfl (by kernel_rfl)) rfl ?_
   exact ⟨_, by first | rfl | (simp [eN, eS] <;> rfl) | (simp [*, eN, eS] <;> rfl), Kd.R_V (base := w.heap.size) (by first | exact Kd.zj1 _ _ _ _ _ | exact Kd.N_nil _ _ _ _ _ | exact Kd.zg3 _ _ _ _ _ | exact Kd.Q_nil _ _ _ _ _ | exact Kd.S_nil _ _ _ _ _), by repeat (first | (with_reducible first | exact HB.out | apply bA | apply bN | apply b1_ | refine bS ?_ GE326.out | refine bS ?_ GE327.out) | exact HB.out)⟩
  ·rw [if_neg c8] at H
   have c8b0 : decide ((l0_0.length : Int) ≤ (wrap64 (Int.tdiv a1 64))) = false := decide_eq_false c8
   clear c8
   obtain ⟨ji14, hji14⟩ : ∃ j_ : Int, (wrap64 (Int.tdiv a1 64)) = j_ := ⟨_, rfl⟩
   replace H : (if 0 ≤ (ji14) then (if (ji14) ≤ (l0_0.length : Int) then (if 0 ≤ ((l0_0.drop ((ji14) : Int).toNat).length : Int) then (if (((l0_0.drop ((ji14) : Int).toNat).length : Int) : Int).toNat ≤ 35184372088832 then (nat_Nat_Shr.l0 k (l0_0.drop ((ji14) : Int).toNat) (List.replicate (((l0_0.drop ((ji14) : Int).toNat).length : Int) : Int).toNat 0) (IntKind.u64.wrap (Int.tmod a1 64)) ((l0_0.drop ((ji14) : Int).toNat).length : Int) 0) else (none)) else (none)) else (none)) else (none)) = some (r1, r2) := by first | (rw [hji14] at H; exact H) | (simp only [hji14] at H ⊢; exact H)
   (try rw [hji14] at c8b0)
   have hji14w : (IntKind.i64.wrap (Int.tdiv a1 64)) = ji14 := (iw _).trans hji14
   by_cases c15 : 0 ≤ (ji14)
   ·rw [if_pos c15] at H
    have c15b0 := eq_true c15
    have c15b1 : decide (0 ≤ (ji14)) = true := decide_eq_true c15
    clear c15
    by_cases c16 : (ji14) ≤ (l0_0.length : Int)
    ·rw [if_pos c16] at H
     have c16b0 := eq_true c16
     have c16b1 : decide ((ji14) ≤ (l0_0.length : Int)) = true := decide_eq_true c16
     clear c16
     obtain ⟨ji29, hji29⟩ : ∃ j_ : Int, (IntKind.u64.wrap (Int.tmod a1 64)) = j_ := ⟨_, rfl⟩
     simp only [hji29] at H
     obtain ⟨D_, hD_⟩ : ∃ D : List Int, l0_0.drop ((ji14) : Int).toNat = D := ⟨_, rfl⟩
     simp only [hD_] at H
     have hDl_ : l0_0.length - ji14.toNat = D_.length := by rw [← hD_, List.length_drop]
     by_cases c17 : 0 ≤ (D_.length : Int)
     ·rw [if_pos c17] at H
      have c17b0 := eq_true c17
      have c17b1 : decide (0 ≤ (D_.length : Int)) = true := decide_eq_true c17
      clear c17
      by_cases c18 : ((D_.length : Int) : Int).toNat ≤ 35184372088832
      ·rw [if_pos c18] at H
       have c18b0 := eq_true c18
       have c18b1 : decide (((D_.length : Int) : Int).toNat ≤ 35184372088832) = true := decide_eq_true c18
       clear c18
       obtain ⟨y329, hy329⟩ : ∃ y_ : List Int, y_ = (List.replicate ((D_.length : Int) : Int).toNat 0) := ⟨_, rfl⟩
       replace H : (nat_Nat_Shr.l0 k D_ y329 ji29 (D_.length : Int) 0) = some (r1, r2) := by first | (rw [hy329]; with_reducible exact H) | (have H2_ := (Option.bind_some _ _).symm.trans H; rw [hy329]; with_reducible exact H2_) | (have H2_ := (Option.bind_some _ _).symm.trans H; with_reducible exact H2_) | with_reducible exact H | (rw [hy329]; exact H) | exact H
       have Ny329 := Q0.mk hy329
       clear hy329
       have H' := Q0.mk H
       clear H
       go_enter Tryd.func29, Tryd.ntmps29
       go_wp2_with (first | ((with_reducible refine gD (N := 2) rfl ?_); (try (refine zr1 (by rfl) ?_; dsimp only)); refine xE ?hg (N := 2) ?hd (cs := #[.slice A0_0 l0_0.length c0_0]) (t := 29) ?hr ?_; (case hd => rfl); (case hg => rfl); (case hr => first | (go_simp; done) | (go_simp; rfl)); intro gb326 hg w19 hbox hb; have q_ := zm (w := w) hb (by repeat (first | (with_reducible first | exact HB.out | apply bA | apply bN | apply b1_) | exact HB.out)); replace HB := Q0.mk (bP q_ hb); have BK326 := Q0.mk (hbox); have GW326 := Q0.mk ((by rw [hg]; exact (bZ q_) : w.heap.size ≤ gb326)); have GE326 := GW326; clear q_; clear hb hbox hg) | ((with_reducible refine gD (N := 4) rfl ?_); (try (refine zr1 (by rfl) ?_; dsimp only)); refine xE ?hg (N := 4) ?hd (cs := #[.slice none 0 0]) (t := 29) ?hr ?_; (case hd => rfl); (case hg => rfl); (case hr => first | (go_simp; done) | (go_simp; rfl)); intro gb327 hg w20 hbox hb; have q_ := zm (w := w) hb (by repeat (first | (with_reducible first | exact HB.out | apply bA | apply bN | apply b1_ | refine bS ?_ GE326.out) | exact HB.out)); replace HB := Q0.mk (bP q_ hb); have BK327 := Q0.mk (hbox); have GW327 := Q0.mk ((by rw [hg]; exact (bZ q_) : w.heap.size ≤ gb327)); have GE327 := GW327; have NB326_327 := Q0.mk ((by rw [hg]; exact Nat.ne_of_lt (zj0 (g := gb326) (o := .cells #[.slice A0_0 l0_0.length c0_0] 29 (0, 0)) (by (with_reducible repeat (first | refine kN ?_ _ | refine kD ?_ | refine kA ?_ _)); exact BK326.out)) : gb326 ≠ gb327)); replace BK326 := Q0.mk (kB (g := gb326) (o := .cells #[.slice A0_0 l0_0.length c0_0] 29 (0, 0)) (by (with_reducible repeat (first | refine kN ?_ _ | refine kD ?_ | refine kA ?_ _)); exact BK326.out) hb); have NB327_326 := Q0.mk NB326_327.out.symm; clear q_; clear hb hbox hg; have hnb21 := NB326_327.out; have hnc21 := NB327_326.out; have hcz22_0 : w20.cell? ⟨gb326, 0, none⟩ = some (.slice A0_0 l0_0.length c0_0) := (kC BK326.out 0).trans rfl; have hfz22_0 := kF BK326.out 0; obtain ⟨i023, hi023, _, hsz23, _⟩ := info_parts zg2; obtain ⟨A23, hcut23, hA23, hC23⟩ := print_drop_of (P := Tryd.prog) (Value.int .u64) 0 22 40 .i64 Tryd.underlying22 hi023 hsz23 A0_0 c0_0 l0_0 (ji14) (of_decide_eq_true (by first | (with_reducible assumption) | assumption)) (of_decide_eq_true (by first | (with_reducible assumption) | assumption)) HC0_0.out; have HR328 := Q0.mk (Kd.C_of_reads (h1 := fun _ => rfl) (hA23 _ (Kd.reads_of_C HR0_0.out))); have HC328 := Q0.mk hC23; (try rw [hD_] at HR328); (try rw [hD_] at HC328); (try rw [hD_] at hcut23); clear hA23 hC23 hi023 hsz23) | ((with_reducible refine gD (N := 27) rfl ?_); (try (refine zr1 (by rfl) ?_; dsimp only)); refine Kd.zx2 (Kd.int .u64) _ 40 rfl (N := 27) rfl 22 _ _ rfl (D_.length : Int) rfl rfl Tryd.underlying22 (.int .u64 0) 8 zg2 rfl (by decide) (by omega) 0 (ok := fun _ => True) (okp := fun _ => True) rfl (fun _ hk => hk) trivial (of_decide_eq_true (by first | (with_reducible assumption) | assumption)) (Nat.le_trans (Nat.mul_le_mul_right _ (of_decide_eq_true (by first | (with_reducible assumption) | assumption) : (D_.length : Int).toNat ≤ 35184372088832)) (by omega)) (Below.refl _ _) (Nat.le_refl _) ?_; intro v330 w24 ho25 hb hg_ hnew_; clear hg_ hnew_; (first | rw [← Ny329.out] at ho25 | (simp only [Int.reduceToNat] at ho25; rw [← Ny329.out] at ho25)); have q_ := zm (w := w) hb (by repeat (first | (with_reducible first | exact HB.out | apply bA | apply bN | apply b1_ | refine bS ?_ GE326.out | refine bS ?_ GE327.out) | exact HB.out)); have HO331 := Q0.mk (Kd.zw0 (Kd.zs1 (M := fun k_ => (w.heap.size ≤ k_)) ho25 (bZ q_) (fun k_ h_ => h_)) (bZ q_)); replace BK326 := Q0.mk (kB (g := gb326) (o := .cells #[.slice A0_0 l0_0.length c0_0] 29 (0, 0)) (by (with_reducible repeat (first | refine kN ?_ _ | refine kD ?_ | refine kA ?_ _)); exact BK326.out) hb); replace BK327 := Q0.mk (kB (g := gb327) (o := .cells #[.slice none 0 0] 29 (0, 0)) (by (with_reducible repeat (first | refine kN ?_ _ | refine kD ?_ | refine kA ?_ _)); exact BK327.out) hb); replace HB := Q0.mk (bP q_ hb); clear q_; clear hb ho25))
       go_loopg [33] k (fun kq v33 w' => ∃ (x7_1 : List Int) (x33_1 : Int), v33 = .int .i64 x33_1 ∧ Q0 (nat_Nat_Shr.l0 kq D_ x7_1 ji29 (D_.length : Int) x33_1 = some (r1, r2)) ∧ Q0 (kq ≤ k) ∧ Q0 (Kd.R (Kd.int .u64) 40 w' w.heap.size (fun k_ => (w.heap.size ≤ k_)) v330 x7_1) ∧ Q0 (w'.heap[gb326]? = some (.cells #[(.slice A0_0 l0_0.length c0_0)] 29 (0, 0))) ∧ Q0 (w'.heap[gb327]? = some (.cells #[(.slice none 0 0)] 29 (0, 0))) ∧ Q0 (Below w.heap.size w w'))
       case atStart => exact ⟨(y329), (0), (by first | rfl | (simp; done) | (simp [*]; done)), H', ⟨Nat.le_refl _⟩, ⟨by (with_reducible repeat (first | apply Kd.RA_ | apply Kd.RN_ | apply Kd.RD_)); exact Kd.zb1 HO331.out (fun _ hk => hk.1)⟩, ⟨by (with_reducible repeat (first | refine kN ?_ _ | refine kD ?_ | refine kA ?_ _)); exact BK326.out⟩, ⟨by (with_reducible repeat (first | refine kN ?_ _ | refine kD ?_ | refine kA ?_ _)); exact BK327.out⟩, ⟨by repeat (first | (with_reducible first | exact HB.out | apply bA | apply bN | apply b1_ | refine bS ?_ GE326.out | refine bS ?_ GE327.out) | exact HB.out)⟩⟩
       case round =>
        clear H'
        try clear c1
        try clear c2
        try clear p2
        try clear c3
        try clear c3b0
        try clear c6
        try clear p6
        try clear c8
        try clear c8b0
        try clear c11
        try clear c15
        try clear c15b0
        try clear c15b1
        try clear c16
        try clear c16b0
        try clear c16b1
        try clear c17
        try clear c17b0
        try clear c17b1
        try clear c18
        try clear c18b0
        try clear c18b1
        try clear c21
        try clear hcz12_0
        try clear hcz13_0
        try clear hcz22_0
        try clear hcz7_0
        try clear hfz12_0
        try clear hfz13_0
        try clear hfz22_0
        try clear hfz7_0
        obtain ⟨x7_1, x33_1, rfl, HA, HK1, HO_7, BK326, BK327, HB⟩ := hrel
        cases gk with
        | zero => exact absurd HA.out (by simp [nat_Nat_Shr.l0])
        | succ k1 =>
         have H := HA.out
         clear HA
         simp only [nat_Nat_Shr.l0] at H
         by_cases c26 : x33_1 < (D_.length : Int)
         ·rw [if_pos c26] at H
          have c26b0 : decide (x33_1 < (D_.length : Int)) = true := decide_eq_true c26
          clear c26
          by_cases c27 : 0 ≤ x33_1
          ·rw [if_pos c27] at H
           have c27b0 : decide (0 ≤ x33_1) = true := decide_eq_true c27
           clear c27
           by_cases c28 : x33_1 < (D_.length : Int)
           ·rw [if_pos c28] at H
            have c28b0 : decide (x33_1 < (D_.length : Int)) = true := decide_eq_true c28
            clear c28
            by_cases c30 : 0 ≤ (ji29)
            ·rw [if_pos c30] at H
             have c30b0 := eq_true c30
             have c30b1 : decide (0 ≤ (ji29)) = true := decide_eq_true c30
             clear c30
             obtain ⟨ji31, hji31⟩ : ∃ j_ : Int, (shr .u64 (rd D_ x33_1) (ji29)) = j_ := ⟨_, rfl⟩
             replace H : (if x33_1 < (x7_1.length : Int) then ((some (x7_1.set (x33_1 : Int).toNat (ji31) : List Int)).bind fun y333 => (if (ji29) > 0 then (if (wrap64 (x33_1 + 1)) < (D_.length : Int) then (if 0 ≤ (wrap64 (x33_1 + 1)) then (if 0 ≤ (IntKind.u64.wrap (64 - (ji29))) then (nat_Nat_Shr.l0 k1 D_ (y333.set (x33_1 : Int).toNat (Go.bits .or .u64 (rd y333 x33_1) (shl .u64 (rd D_ (wrap64 (x33_1 + 1))) (IntKind.u64.wrap (64 - (ji29)))))) (ji29) (D_.length : Int) (wrap64 (x33_1 + 1))) else (none)) else (none)) else (nat_Nat_Shr.l0 k1 D_ y333 (ji29) (D_.length : Int) (wrap64 (x33_1 + 1)))) else (nat_Nat_Shr.l0 k1 D_ y333 (ji29) (D_.length : Int) (wrap64 (x33_1 + 1))))) else (none)) = some (r1, r2) := by first | (rw [hji31] at H; exact H) | (simp only [hji31] at H ⊢; exact H)
             have hji31_ : ((rd D_ x33_1) / 2 ^ min (ji29).toNat 64) = ji31 := hji31
             have hji31z : (ji29) ≤ 64 → ((rd D_ x33_1) / 2 ^ (ji29).toNat) = ji31 := zt3 hji31
             by_cases c32 : x33_1 < (x7_1.length : Int)
             ·rw [if_pos c32] at H
              have c32b0 : decide (x33_1 < (x7_1.length : Int)) = true := decide_eq_true c32
              clear c32
              obtain ⟨y333, hy333⟩ : ∃ y_ : List Int, y_ = (x7_1.set (x33_1 : Int).toNat (ji31)) := ⟨_, rfl⟩
              replace H : (if (ji29) > 0 then (if (wrap64 (x33_1 + 1)) < (D_.length : Int) then (if 0 ≤ (wrap64 (x33_1 + 1)) then (if 0 ≤ (IntKind.u64.wrap (64 - (ji29))) then (nat_Nat_Shr.l0 k1 D_ (y333.set (x33_1 : Int).toNat (Go.bits .or .u64 (rd y333 x33_1) (shl .u64 (rd D_ (wrap64 (x33_1 + 1))) (IntKind.u64.wrap (64 - (ji29)))))) (ji29) (D_.length : Int) (wrap64 (x33_1 + 1))) else (none)) else (none)) else (nat_Nat_Shr.l0 k1 D_ y333 (ji29) (D_.length : Int) (wrap64 (x33_1 + 1)))) else (nat_Nat_Shr.l0 k1 D_ y333 (ji29) (D_.length : Int) (wrap64 (x33_1 + 1)))) = some (r1, r2) := by first | (rw [hy333]; with_reducible exact H) | (have H2_ := (Option.bind_some _ _).symm.trans H; rw [hy333]; with_reducible exact H2_) | (have H2_ := (Option.bind_some _ _).symm.trans H; with_reducible exact H2_) | with_reducible exact H | (rw [hy333]; exact H) | exact H
              have Ny333 := Q0.mk hy333
              clear hy333
              by_cases c34 : (ji29) > 0
              ·rw [if_pos c34] at H
               have c34b0 : decide (0 < (ji29)) = true := decide_eq_true c34
               clear c34
               by_cases c35 : (wrap64 (x33_1 + 1)) < (D_.length : Int)
               ·rw [if_pos c35] at H
                have c35b0 : decide ((wrap64 (x33_1 + 1)) < (D_.length : Int)) = true := decide_eq_true c35
                clear c35
                obtain ⟨ji36, hji36⟩ : ∃ j_ : Int, (wrap64 (x33_1 + 1)) = j_ := ⟨_, rfl⟩
                replace H : (if 0 ≤ (ji36) then (if 0 ≤ (IntKind.u64.wrap (64 - (ji29))) then (nat_Nat_Shr.l0 k1 D_ (y333.set (x33_1 : Int).toNat (Go.bits .or .u64 (rd y333 x33_1) (shl .u64 (rd D_ (ji36)) (IntKind.u64.wrap (64 - (ji29)))))) (ji29) (D_.length : Int) ji36) else (none)) else (none)) = some (r1, r2) := by first | (rw [hji36] at H; exact H) | (simp only [hji36] at H ⊢; exact H)
                (try rw [hji36] at c35b0)
                have hji36w : (IntKind.i64.wrap (x33_1 + 1)) = ji36 := (iw _).trans hji36
                by_cases c37 : 0 ≤ (ji36)
                ·rw [if_pos c37] at H
                 have c37b0 : decide (0 ≤ (ji36)) = true := decide_eq_true c37
                 clear c37
                 obtain ⟨ji38, hji38⟩ : ∃ j_ : Int, (IntKind.u64.wrap (64 - (ji29))) = j_ := ⟨_, rfl⟩
                 replace H : (if 0 ≤ (ji38) then (nat_Nat_Shr.l0 k1 D_ (y333.set (x33_1 : Int).toNat (Go.bits .or .u64 (rd y333 x33_1) (shl .u64 (rd D_ (ji36)) (ji38)))) (ji29) (D_.length : Int) ji36) else (none)) = some (r1, r2) := by first | (rw [hji38] at H; exact H) | (simp only [hji38] at H ⊢; exact H)
                 by_cases c39 : 0 ≤ (ji38)
                 ·rw [if_pos c39] at H
                  have c39b0 := eq_true c39
                  have c39b1 : decide (0 ≤ (ji38)) = true := decide_eq_true c39
                  clear c39
                  obtain ⟨ji40, hji40⟩ : ∃ j_ : Int, (shl .u64 (rd D_ (ji36)) (ji38)) = j_ := ⟨_, rfl⟩
                  replace H : (nat_Nat_Shr.l0 k1 D_ (y333.set (x33_1 : Int).toNat (Go.bits .or .u64 (rd y333 x33_1) (ji40))) (ji29) (D_.length : Int) ji36) = some (r1, r2) := by first | (rw [hji40] at H; exact H) | (simp only [hji40] at H ⊢; exact H)
                  have hji40_ : (IntKind.u64.wrap ((rd D_ (ji36)) * 2 ^ min (ji38).toNat 64)) = ji40 := hji40
                  have hji40z : (ji38) ≤ 64 → (IntKind.u64.wrap ((rd D_ (ji36)) * 2 ^ (ji38).toNat)) = ji40 := zv3 hji40
                  obtain ⟨y336, hy336⟩ : ∃ y_ : List Int, y_ = (y333.set (x33_1 : Int).toNat (Go.bits .or .u64 (rd y333 x33_1) (ji40))) := ⟨_, rfl⟩
                  replace H : (nat_Nat_Shr.l0 k1 D_ y336 (ji29) (D_.length : Int) ji36) = some (r1, r2) := by first | (rw [hy336]; with_reducible exact H) | (have H2_ := (Option.bind_some _ _).symm.trans H; rw [hy336]; with_reducible exact H2_) | (have H2_ := (Option.bind_some _ _).symm.trans H; with_reducible exact H2_) | with_reducible exact H | (rw [hy336]; exact H) | exact H
                  have Ny336 := Q0.mk hy336
                  clear hy336
                  have H' := Q0.mk H
                  clear H
                  have p332 : 0 ≤ (x33_1 : Int) := of_decide_eq_true (by first | (with_reducible assumption) | assumption)
                  have q332 : x33_1 < (D_.length : Int) := of_decide_eq_true (by first | (with_reducible assumption) | assumption)
                  obtain ⟨ad332, e332, hx332_0⟩ := Kd.zk HR328.out x33_1 p332 q332
                  cases e332
                  replace hx332_0 := (HB.out.cell (World.block_lt_of_cell? w _ hx332_0)).trans hx332_0
                  replace p332 := eq_true p332
                  replace q332 := eq_true q332
                  have p33 : 0 ≤ (x33_1 : Int) := of_decide_eq_true (by first | (with_reducible assumption) | assumption)
                  have q33 : (x33_1 : Int) < ((x7_1.length : Int) : Int) := of_decide_eq_true (by first | (with_reducible assumption) | assumption)
                  obtain ⟨go33, co33, eo33, gb33, gl33, cl33, HG33⟩ := Kd.zi2 HO_7.out (by omega)
                  (first | cases eo33 | (injection eo33 with ea_ en_ ec_; (first | subst ea_ | (injection ea_ with ea_; subst ea_)); subst ec_; clear en_))
                  have GB33 := Q0.mk gb33
                  have GG33 := Q0.mk HG33
                  clear gb33 gl33 HG33
                  obtain ⟨hx33_0, hf33_0⟩ := Kd.z81 0 HO_7.out (x33_1 : Int) p33 q33
                  replace p33 := eq_true p33
                  replace q33 := eq_true q33
                  have HP42 := Kd.zo1 HO_7.out (x33_1 : Int) ji31
                  try go_wp2_with (first | ((with_reducible refine zq0 (t := 40) (p := 44) rfl ?_); refine zi0 (t := 40) (p := 44) (v := ?vo_w43) (w1 := (wr.setCell ⟨go33, (x33_1 : Int).toNat, none⟩ (.int .u64 ji31))) ?hg ?ho ?hn ?hr ?_; (case ho => rfl); (case hg => rfl); (case hn => rfl); (case hr => first | (go_simp; done) | (go_simp; rfl)); intro w43 hw; have hg : wr.grownBy w43 (some go33) := (by rw [hw]; exact HP42.2); have hp_ : Kd.R (Kd.int .u64) 40 w43 w.heap.size (fun k_ => (w.heap.size ≤ k_)) (.slice (some ⟨go33, 0, none⟩) x7_1.length co33) y333 := (by rw [hw, Ny333.out]; exact HP42.1); clear HP42; replace BK326 := Q0.mk (zv0 (g := gb326) (o := .cells #[.slice A0_0 l0_0.length c0_0] 29 (0, 0)) (by (with_reducible repeat (first | refine kN ?_ _ | refine kD ?_ | refine kA ?_ _)); exact BK326.out) hg (Kd.zp2 HO_7.out BK326.out (by decide))); replace BK327 := Q0.mk (zv0 (g := gb327) (o := .cells #[.slice none 0 0] 29 (0, 0)) (by (with_reducible repeat (first | refine kN ?_ _ | refine kD ?_ | refine kA ?_ _)); exact BK327.out) hg (Kd.zp2 HO_7.out BK327.out (by decide))); replace HO_7 := Q0.mk (hp_); replace HB := Q0.mk ((by rw [hw]; exact bS (HB.out) GB33.out : Below w.heap.size w w43)); clear hg hw hp_))
                  have n0_ := Q0.mk (Kd.RD_ HO_7.out)
                  have n1_ := Q0.mk (kD BK326.out)
                  have n2_ := Q0.mk (kD BK327.out)
                  have n3_ := Q0.mk (b1_ HB.out)
                  clear HO_7
                  clear BK326
                  clear BK327
                  clear HB
                  have HO_7 := n0_
                  have BK326 := n1_
                  have BK327 := n2_
                  have HB := n3_
                  clear n0_ n1_ n2_ n3_
                  have p334 : 0 ≤ (x33_1 : Int) := of_decide_eq_true (by first | (with_reducible assumption) | assumption)
                  have q334 : x33_1 < (y333.length : Int) := (by have h_ : (x33_1 : Int) < ((x7_1.length : Int) : Int) := of_decide_eq_true (by first | (with_reducible assumption) | assumption); first | (have e_ := (Kd.zw HO_7.out).1; omega) | simpa only [Ny333.out, List.length_set] using h_)
                  have ql334 : ((x33_1 : Int) < ((x7_1.length : Int) : Int)) = True := eq_true (of_decide_eq_true (by first | (with_reducible assumption) | assumption))
                  obtain ⟨ad334, e334, hx334_0⟩ := Kd.zk (Kd.zw HO_7.out).2.2 x33_1 p334 q334
                  obtain rfl : (⟨go33, 0, none⟩ : Addr) = ad334 := (by injection e334)
                  (first | simp only [add_plain] at hx334_0 | simp only [add_at] at hx334_0 | simp only [Addr.add, Nat.zero_add] at hx334_0 | skip)
                  replace p334 := eq_true p334
                  replace q334 := eq_true q334
                  have p335 : 0 ≤ ((ji36) : Int) := of_decide_eq_true (by first | (with_reducible assumption) | assumption)
                  have q335 : (ji36) < (D_.length : Int) := of_decide_eq_true (by first | (with_reducible assumption) | assumption)
                  obtain ⟨ad335, e335, hx335_0⟩ := Kd.zk HR328.out (ji36) p335 q335
                  have hw335_0 := hx335_0
                  obtain rfl : ad332 = ad335 := (by injection e335)
                  replace hx335_0 := (HB.out.cell (World.block_lt_of_cell? w _ hx335_0)).trans hx335_0
                  replace p335 := eq_true p335
                  replace q335 := eq_true q335
                  have p41 : 0 ≤ (x33_1 : Int) := of_decide_eq_true (by first | (with_reducible assumption) | assumption)
                  have q41 : (x33_1 : Int) < ((x7_1.length : Int) : Int) := of_decide_eq_true (by first | (with_reducible assumption) | assumption)
                  obtain ⟨hx41_0, hf41_0⟩ := Kd.z81 0 HO_7.out (x33_1 : Int) p41 q41
                  replace p41 := eq_true p41
                  replace q41 := eq_true q41
                  have HP45 := Kd.R_putn HO_7.out (x33_1 : Int) (Go.bits .or .u64 (rd y333 x33_1) (ji40))
                  rw [← Ny336.out] at HP45
                  have HQ45 := Q0.mk HP45
                  clear HP45
                  refine zt0 (n := 15) (S := fun w' => w'.cell? ⟨go33, (x33_1).toNat, none⟩ = some (.int .u64 (rd y333 x33_1)) ∧ w'.cell? (ad332.add ((ji36)).toNat) = some (.int .u64 (rd D_ (ji36)))) (ds := [14]) #[ff,ff,ff,ff,ff,ff,ff,ff,ff,ff,ff,ff,ff,ff,ff] (by kernel_rfl) rfl rfl ⟨hx334_0, ((HB.out.cell (World.block_lt_of_cell? w _ hw335_0)).trans hw335_0)⟩ (fun hHeld => ?_); refine z02 nat_Nat_Shr.tab13 nat_Nat_Shr.bits13 (fun HT_ HW_ => ?_)
                  generalize w43.drew = w44 at HO_7 BK326 BK327 HB HQ45 hf41_0 hx334_0 hx335_0 hx41_0 hHeld ⊢
                  refine za 0 54 ?_ #[tt,ff,ff,ff,ff,ff,ff,ff,ff,ff,ff,ff,ff,ff,ff] rfl rfl (zb HT_.out (by kernel_rfl)) (fun _ _ _ h => h) (Or.inl ⟨by rfl, ?_⟩) ?_ ?_ ?_
                  rotate_left
                  ·intro w'
                   go_simp
                   with_reducible rfl
                  rotate_left
                  ·simp only [Act.put, s2_, s0_, s1_, iw, jw]
                   rfl
                  refine za 1 55 ?_ #[tt,tt,ff,ff,ff,ff,ff,ff,ff,ff,ff,ff,ff,ff,ff] rfl rfl (zb HT_.out (by kernel_rfl)) (fun _ _ _ h => h) (Or.inl ⟨by rfl, ?_⟩) ?_ ?_ ?_
                  rotate_left
                  ·intro w'
                   go_simp
                   with_reducible rfl
                  rotate_left
                  ·simp only [Act.put, s2_, s0_, s1_, iw, jw]
                   rfl
                  refine za 2 56 ?_ #[tt,tt,tt,ff,ff,ff,ff,ff,ff,ff,ff,ff,ff,ff,ff] rfl rfl (zb HT_.out (by kernel_rfl)) (fun _ _ _ h => h) (Or.inl ⟨by rfl, ?_⟩) ?_ ?_ ?_
                  rotate_left
                  ·intro w'
                   go_simp
                   with_reducible rfl
                  rotate_left
                  ·simp only [Act.put, s2_, s0_, s1_, iw, jw]
                   rfl
                  refine za 4 58 ?_ #[tt,tt,tt,ff,tt,ff,ff,ff,ff,ff,ff,ff,ff,ff,ff] rfl rfl (zb HT_.out (by kernel_rfl)) (fun _ _ _ h => h) (Or.inl ⟨by rfl, ?_⟩) ?_ ?_ ?_
                  rotate_left
                  ·intro w'
                   go_simp
                   with_reducible rfl
                  rotate_left
                  ·simp only [Act.put, s2_, s0_, s1_, iw, jw]
                   rfl
                  refine za 5 59 ?_ #[tt,tt,tt,ff,tt,tt,ff,ff,ff,ff,ff,ff,ff,ff,ff] rfl rfl (zb HT_.out (by kernel_rfl)) (fun _ _ _ h => h) (Or.inl ⟨by rfl, ?_⟩) ?_ ?_ ?_
                  rotate_left
                  ·intro w'
                   go_simp
                   with_reducible rfl
                  rotate_left
                  ·simp only [Act.put, s2_, s0_, s1_, iw, jw]
                   rfl
                  refine za 6 60 ?_ #[tt,tt,tt,ff,tt,tt,tt,ff,ff,ff,ff,ff,ff,ff,ff] rfl rfl (zb HT_.out (by kernel_rfl)) (fun _ _ _ h => h) (Or.inl ⟨by rfl, ?_⟩) ?_ ?_ ?_
                  rotate_left
                  ·intro w'
                   go_simp
                   with_reducible rfl
                  rotate_left
                  ·simp only [Act.put, s2_, s0_, s1_, iw, jw]
                   rfl
                  refine za 7 61 ?_ #[tt,tt,tt,ff,tt,tt,tt,tt,ff,ff,ff,ff,ff,ff,ff] rfl rfl (zb HT_.out (by kernel_rfl)) (fun _ _ _ h => h) (Or.inl ⟨by rfl, ?_⟩) ?_ ?_ ?_
                  rotate_left
                  ·intro w'
                   go_simp
                   with_reducible rfl
                  rotate_left
                  ·simp only [Act.put, s2_, s0_, s1_, iw, jw]
                   rfl
                  refine za 9 63 ?_ #[tt,tt,tt,ff,tt,tt,tt,tt,ff,tt,ff,ff,ff,ff,ff] rfl rfl (zb HT_.out (by kernel_rfl)) (fun _ _ _ h => h) (Or.inl ⟨by rfl, ?_⟩) ?_ ?_ ?_
                  rotate_left
                  ·intro w'
                   go_simp
                   with_reducible rfl
                  rotate_left
                  ·simp only [Act.put, s2_, s0_, s1_, iw, jw]
                   rfl
                  refine za 10 64 ?_ #[tt,tt,tt,ff,tt,tt,tt,tt,ff,tt,tt,ff,ff,ff,ff] rfl rfl (zb HT_.out (by kernel_rfl)) (fun _ _ _ h => h) (Or.inl ⟨by rfl, ?_⟩) ?_ ?_ ?_
                  rotate_left
                  ·intro w'
                   go_simp
                   with_reducible rfl
                  rotate_left
                  ·simp only [Act.put, s2_, s0_, s1_, iw, jw]
                   rfl
                  refine z10 3 57 ?_ #[tt,tt,tt,tt,tt,tt,tt,tt,ff,tt,tt,ff,ff,ff,ff] rfl rfl (zp0 HT_.out HW_.out (by kernel_rfl)) (fun _ _ _ h => h) (Or.inl ⟨by rfl, ?_⟩) hHeld ?_ ?_ ?_
                  rotate_left
                  ·rintro w' ⟨s0, s1⟩
                   go_simp
                   with_reducible rfl
                  rotate_left
                  ·simp only [Act.put, s2_, s0_, s1_, iw, jw]
                   rfl
                  refine z10 8 62 ?_ #[tt,tt,tt,tt,tt,tt,tt,tt,tt,tt,tt,ff,ff,ff,ff] rfl rfl (zp0 HT_.out HW_.out (by kernel_rfl)) (fun _ _ _ h => h) (Or.inl ⟨by rfl, ?_⟩) hHeld ?_ ?_ ?_
                  rotate_left
                  ·rintro w' ⟨s0, s1⟩
                   go_simp
                   with_reducible rfl
                  rotate_left
                  ·simp only [Act.put, s2_, s0_, s1_, iw, jw]
                   rfl
                  refine za 11 65 ?_ #[tt,tt,tt,tt,tt,tt,tt,tt,tt,tt,tt,tt,ff,ff,ff] rfl rfl (zb HT_.out (by kernel_rfl)) (fun _ _ _ h => h) (Or.inl ⟨by rfl, ?_⟩) ?_ ?_ ?_
                  rotate_left
                  ·intro w'
                   go_simp
                   with_reducible rfl
                  rotate_left
                  ·simp only [Act.put, s2_, s0_, s1_, iw, jw]
                   rfl
                  refine za 12 66 ?_ #[tt,tt,tt,tt,tt,tt,tt,tt,tt,tt,tt,tt,tt,ff,ff] rfl rfl (zb HT_.out (by kernel_rfl)) (fun _ _ _ h => h) (Or.inl ⟨by rfl, ?_⟩) ?_ ?_ ?_
                  rotate_left
                  ·intro w'
                   go_simp
                   with_reducible rfl
                  rotate_left
                  ·simp only [Act.put, s2_, s0_, s1_, iw, jw]
                   rfl
                  refine za 13 67 ?_ #[tt,tt,tt,tt,tt,tt,tt,tt,tt,tt,tt,tt,tt,tt,ff] rfl rfl (zb HT_.out (by kernel_rfl)) (fun _ _ _ h => h) (Or.inl ⟨by rfl, ?_⟩) ?_ ?_ ?_
                  rotate_left
                  ·intro w'
                   go_simp
                   with_reducible rfl
                  rotate_left
                  ·simp only [Act.put, s2_, s0_, s1_, iw, jw]
                   rfl
                  refine zk3 (i := 14) (N := none) #[tt,tt,tt,tt,tt,tt,tt,tt,tt,tt,tt,tt,tt,tt,tt] rfl rfl (zb2 HT_.out (by kernel_rfl)) (by decide) (fun K hK => ?_)
                  refine zw1 (w1 := ?_) (by rfl) rfl ?_ ?_
                  rotate_left
                  ·go_simp
                   rfl
                  refine hK.out _ _ ?_
                  clear hK K
                  refine zh1 (z03 HT_.out (by kernel_rfl)) ?_
                  try go_wp2
                  go_roundg k1
                  case measure => have := HK1.out; omega
                  case rel => exact ⟨(y336), (ji36), (by first | rfl | (simp; done) | (simp only [← hji36] <;> (first | rfl | simp)) | (simp [*]; done)), H', ⟨by have := HK1.out; omega⟩, ⟨by (with_reducible repeat (first | apply Kd.RA_ | apply Kd.RN_ | apply Kd.RD_)); exact HQ45.out⟩, ⟨by (with_reducible repeat (first | refine kN ?_ _ | refine kD ?_ | refine kA ?_ _)); refine zr0 ?_ (by have h_ := Kd.zp2 HO_7.out BK326.out (by decide); intro e_; exact h_ (by rw [e_]; rfl)) _; (with_reducible repeat (first | refine kN ?_ _ | refine kD ?_ | refine kA ?_ _)); exact BK326.out⟩, ⟨by (with_reducible repeat (first | refine kN ?_ _ | refine kD ?_ | refine kA ?_ _)); refine zr0 ?_ (by have h_ := Kd.zp2 HO_7.out BK327.out (by decide); intro e_; exact h_ (by rw [e_]; rfl)) _; (with_reducible repeat (first | refine kN ?_ _ | refine kD ?_ | refine kA ?_ _)); exact BK327.out⟩, ⟨by repeat (first | (with_reducible first | exact HB.out | apply bA | apply bN | apply b1_ | refine bS ?_ GB33.out | refine bS ?_ GE326.out | refine bS ?_ GE327.out) | exact HB.out)⟩⟩
                 ·rw [if_neg c39] at H
                  exact absurd H (by simp)
                ·rw [if_neg c37] at H
                 exact absurd H (by simp)
               ·rw [if_neg c35] at H
                have c35b0 : decide ((wrap64 (x33_1 + 1)) < (D_.length : Int)) = false := decide_eq_false c35
                clear c35
                have H' := Q0.mk H
                clear H
                have p332 : 0 ≤ (x33_1 : Int) := of_decide_eq_true (by first | (with_reducible assumption) | assumption)
                have q332 : x33_1 < (D_.length : Int) := of_decide_eq_true (by first | (with_reducible assumption) | assumption)
                obtain ⟨ad332, e332, hx332_0⟩ := Kd.zk HR328.out x33_1 p332 q332
                cases e332
                replace hx332_0 := (HB.out.cell (World.block_lt_of_cell? w _ hx332_0)).trans hx332_0
                replace p332 := eq_true p332
                replace q332 := eq_true q332
                have p33 : 0 ≤ (x33_1 : Int) := of_decide_eq_true (by first | (with_reducible assumption) | assumption)
                have q33 : (x33_1 : Int) < ((x7_1.length : Int) : Int) := of_decide_eq_true (by first | (with_reducible assumption) | assumption)
                obtain ⟨go33, co33, eo33, gb33, gl33, cl33, HG33⟩ := Kd.zi2 HO_7.out (by omega)
                (first | cases eo33 | (injection eo33 with ea_ en_ ec_; (first | subst ea_ | (injection ea_ with ea_; subst ea_)); subst ec_; clear en_))
                have GB33 := Q0.mk gb33
                have GG33 := Q0.mk HG33
                clear gb33 gl33 HG33
                obtain ⟨hx33_0, hf33_0⟩ := Kd.z81 0 HO_7.out (x33_1 : Int) p33 q33
                replace p33 := eq_true p33
                replace q33 := eq_true q33
                have HP46 := Kd.zo1 HO_7.out (x33_1 : Int) ji31
                go_wp2_with (first | ((with_reducible refine zq0 (t := 40) (p := 44) rfl ?_); refine zi0 (t := 40) (p := 44) (v := ?vo_w47) (w1 := (wr.setCell ⟨go33, (x33_1 : Int).toNat, none⟩ (.int .u64 ji31))) ?hg ?ho ?hn ?hr ?_; (case ho => rfl); (case hg => rfl); (case hn => rfl); (case hr => first | (go_simp; done) | (go_simp; rfl)); intro w47 hw; have hg : wr.grownBy w47 (some go33) := (by rw [hw]; exact HP46.2); have hp_ : Kd.R (Kd.int .u64) 40 w47 w.heap.size (fun k_ => (w.heap.size ≤ k_)) (.slice (some ⟨go33, 0, none⟩) x7_1.length co33) y333 := (by rw [hw, Ny333.out]; exact HP46.1); clear HP46; replace BK326 := Q0.mk (zv0 (g := gb326) (o := .cells #[.slice A0_0 l0_0.length c0_0] 29 (0, 0)) (by (with_reducible repeat (first | refine kN ?_ _ | refine kD ?_ | refine kA ?_ _)); exact BK326.out) hg (Kd.zp2 HO_7.out BK326.out (by decide))); replace BK327 := Q0.mk (zv0 (g := gb327) (o := .cells #[.slice none 0 0] 29 (0, 0)) (by (with_reducible repeat (first | refine kN ?_ _ | refine kD ?_ | refine kA ?_ _)); exact BK327.out) hg (Kd.zp2 HO_7.out BK327.out (by decide))); replace HO_7 := Q0.mk (hp_); replace HB := Q0.mk ((by rw [hw]; exact bS (HB.out) GB33.out : Below w.heap.size w w47)); clear hg hw hp_))
                go_roundg k1
                case measure => have := HK1.out; omega
                case rel => exact ⟨(y333), (wrap64 (x33_1 + 1)), (by first | rfl | (simp; done) | (simp [*]; done)), H', ⟨by have := HK1.out; omega⟩, ⟨by (with_reducible repeat (first | apply Kd.RA_ | apply Kd.RN_ | apply Kd.RD_)); exact HO_7.out⟩, ⟨by (with_reducible repeat (first | refine kN ?_ _ | refine kD ?_ | refine kA ?_ _)); exact BK326.out⟩, ⟨by (with_reducible repeat (first | refine kN ?_ _ | refine kD ?_ | refine kA ?_ _)); exact BK327.out⟩, ⟨by repeat (first | (with_reducible first | exact HB.out | apply bA | apply bN | apply b1_ | refine bS ?_ GE326.out | refine bS ?_ GE327.out) | exact HB.out)⟩⟩
              ·rw [if_neg c34] at H
               have c34b0 : decide (0 < (ji29)) = false := decide_eq_false c34
               clear c34
               have H' := Q0.mk H
               clear H
               have p332 : 0 ≤ (x33_1 : Int) := of_decide_eq_true (by first | (with_reducible assumption) | assumption)
               have q332 : x33_1 < (D_.length : Int) := of_decide_eq_true (by first | (with_reducible assumption) | assumption)
               obtain ⟨ad332, e332, hx332_0⟩ := Kd.zk HR328.out x33_1 p332 q332
               cases e332
               replace hx332_0 := (HB.out.cell (World.block_lt_of_cell? w _ hx332_0)).trans hx332_0
               replace p332 := eq_true p332
               replace q332 := eq_true q332
               have p33 : 0 ≤ (x33_1 : Int) := of_decide_eq_true (by first | (with_reducible assumption) | assumption)
               have q33 : (x33_1 : Int) < ((x7_1.length : Int) : Int) := of_decide_eq_true (by first | (with_reducible assumption) | assumption)
               obtain ⟨go33, co33, eo33, gb33, gl33, cl33, HG33⟩ := Kd.zi2 HO_7.out (by omega)
               (first | cases eo33 | (injection eo33 with ea_ en_ ec_; (first | subst ea_ | (injection ea_ with ea_; subst ea_)); subst ec_; clear en_))
               have GB33 := Q0.mk gb33
               have GG33 := Q0.mk HG33
               clear gb33 gl33 HG33
               obtain ⟨hx33_0, hf33_0⟩ := Kd.z81 0 HO_7.out (x33_1 : Int) p33 q33
               replace p33 := eq_true p33
               replace q33 := eq_true q33
               have HP48 := Kd.zo1 HO_7.out (x33_1 : Int) ji31
               go_wp2_with (first | ((with_reducible refine zq0 (t := 40) (p := 44) rfl ?_); refine zi0 (t := 40) (p := 44) (v := ?vo_w49) (w1 := (wr.setCell ⟨go33, (x33_1 : Int).toNat, none⟩ (.int .u64 ji31))) ?hg ?ho ?hn ?hr ?_; (case ho => rfl); (case hg => rfl); (case hn => rfl); (case hr => first | (go_simp; done) | (go_simp; rfl)); intro w49 hw; have hg : wr.grownBy w49 (some go33) := (by rw [hw]; exact HP48.2); have hp_ : Kd.R (Kd.int .u64) 40 w49 w.heap.size (fun k_ => (w.heap.size ≤ k_)) (.slice (some ⟨go33, 0, none⟩) x7_1.length co33) y333 := (by rw [hw, Ny333.out]; exact HP48.1); clear HP48; replace BK326 := Q0.mk (zv0 (g := gb326) (o := .cells #[.slice A0_0 l0_0.length c0_0] 29 (0, 0)) (by (with_reducible repeat (first | refine kN ?_ _ | refine kD ?_ | refine kA ?_ _)); exact BK326.out) hg (Kd.zp2 HO_7.out BK326.out (by decide))); replace BK327 := Q0.mk (zv0 (g := gb327) (o := .cells #[.slice none 0 0] 29 (0, 0)) (by (with_reducible repeat (first | refine kN ?_ _ | refine kD ?_ | refine kA ?_ _)); exact BK327.out) hg (Kd.zp2 HO_7.out BK327.out (by decide))); replace HO_7 := Q0.mk (hp_); replace HB := Q0.mk ((by rw [hw]; exact bS (HB.out) GB33.out : Below w.heap.size w w49)); clear hg hw hp_))
               go_roundg k1
               case measure => have := HK1.out; omega
               case rel => exact ⟨(y333), (wrap64 (x33_1 + 1)), (by first | rfl | (simp; done) | (simp [*]; done)), H', ⟨by have := HK1.out; omega⟩, ⟨by (with_reducible repeat (first | apply Kd.RA_ | apply Kd.RN_ | apply Kd.RD_)); exact HO_7.out⟩, ⟨by (with_reducible repeat (first | refine kN ?_ _ | refine kD ?_ | refine kA ?_ _)); exact BK326.out⟩, ⟨by (with_reducible repeat (first | refine kN ?_ _ | refine kD ?_ | refine kA ?_ _)); exact BK327.out⟩, ⟨by repeat (first | (with_reducible first | exact HB.out | apply bA | apply bN | apply b1_ | refine bS ?_ GE326.out | refine bS ?_ GE327.out) | exact HB.out)⟩⟩
             ·rw [if_neg c32] at H
              exact absurd H (by simp)
            ·rw [if_neg c30] at H
             exact absurd H (by simp)
           ·rw [if_neg c28] at H
            exact absurd H (by simp)
          ·rw [if_neg c27] at H
           exact absurd H (by simp)
         ·rw [if_neg c26] at H
          have c26b0 : decide (x33_1 < (D_.length : Int)) = false := decide_eq_false c26
          clear c26
          replace H := Option.bind_eq_some_iff.mp H
          obtain ⟨t337, A500, H⟩ := H
          replace H : (some (t337, 0)) = some (r1, r2) := H
          have A50 := Q0.mk A500
          clear A500
          simp only [Option.some.injEq, Prod.mk.injEq] at H
          obtain ⟨rfl, rfl⟩ := H
          obtain ⟨Ao51, co51, eo51⟩ := Kd.zl0 HO_7.out
          subst eo51
          go_wp2_with (first | ((with_reducible refine gC (f := 68) rfl ?_); refine zx (some 70) rfl rfl Tryd.func68 (by kernel_rfl) rfl #[.slice Ao51 x7_1.length co51] rfl (by (try simp only [List.map_toArray, List.map_cons, List.map_nil]); first | done | rfl | (simp only [List.length_drop, List.length_take]; rfl)) ?_; (with_reducible refine (nat_norm.calls k1 (fun k_ => some k_ = (.slice Ao51 x7_1.length co51 : Value).ownBlock) _ _ x7_1 t337 _ ?side1 A50.out).mono ?_); (case side1 => exact Kd.R_V (Kd.z11 rfl (Kd.RT_ (Kd.RT_ (HO_7.out) BK326.out (by decide)) BK327.out (by decide)))); rintro e w52 ⟨v338, rfl, ho0, hb⟩; refine ⟨_, rfl, ?_⟩; have q_ := zm (w := w) hb (by repeat (first | (with_reducible first | exact HB.out | apply bA | apply bN | apply b1_ | refine bS ?_ GE326.out | refine bS ?_ GE327.out) | exact HB.out)); have HO339 := Q0.mk (Kd.za0 (Kd.VM_ (ok' := fun k_ => (w.heap.size ≤ k_) ∧ k_ ≠ gb326 ∧ k_ ≠ gb327) ho0 (fun k_ hk_ => ⟨Or.elim hk_ (fun hs_ => ((Kd.RT_ (Kd.RT_ (HO_7.out) BK326.out (by decide)) BK327.out (by decide)).1 k_ hs_.symm).1.1) (fun hn_ => (Nat.le_trans (bZ q_) hn_)), Or.elim hk_ (fun hs_ => ((Kd.RT_ (Kd.RT_ (HO_7.out) BK326.out (by decide)) BK327.out (by decide)).1 k_ hs_.symm).1.2) (fun hn_ => (Kd.zm0 (g := gb326) (o := .cells #[.slice A0_0 l0_0.length c0_0] 29 (0, 0)) (by (with_reducible repeat (first | refine kN ?_ _ | refine kD ?_ | refine kA ?_ _)); exact BK326.out) k_ hn_)), Or.elim hk_ (fun hs_ => ((Kd.RT_ (Kd.RT_ (HO_7.out) BK326.out (by decide)) BK327.out (by decide)).1 k_ hs_.symm).2) (fun hn_ => (Kd.zm0 (g := gb327) (o := .cells #[.slice none 0 0] 29 (0, 0)) (by (with_reducible repeat (first | refine kN ?_ _ | refine kD ?_ | refine kA ?_ _)); exact BK327.out) k_ hn_))⟩)) (bZ q_)); replace HO_7 := Q0.mk (Kd.zy (by (with_reducible repeat (first | apply Kd.RA_ | apply Kd.RN_ | apply Kd.RD_)); exact HO_7.out) hb); replace BK326 := Q0.mk (kB (g := gb326) (o := .cells #[.slice A0_0 l0_0.length c0_0] 29 (0, 0)) (by (with_reducible repeat (first | refine kN ?_ _ | refine kD ?_ | refine kA ?_ _)); exact BK326.out) hb); replace BK327 := Q0.mk (kB (g := gb327) (o := .cells #[.slice none 0 0] 29 (0, 0)) (by (with_reducible repeat (first | refine kN ?_ _ | refine kD ?_ | refine kA ?_ _)); exact BK327.out) hb); replace HB := Q0.mk (bP q_ hb); clear q_; (try clear hb); (try clear hb2); (try clear hk); (try clear hi); (try clear ho0); obtain ⟨Ao53, co53, eo53⟩ := Kd.zo HO339.out; subst eo53; have hnb54 := NB327_326.out; have hnc54 := NB326_327.out; have hcz55_0 : w52.cell? ⟨gb327, 0, none⟩ = some (.slice none 0 0) := (kC BK327.out 0).trans rfl; have hfz55_0 := kF BK327.out 0))
          refine bodyPost_ret (zg1 rfl _ _ gb327 29 #[.slice Ao53 t337.length co53] (0, 0) _ rfl (by (with_reducible repeat (first | refine kN ?_ _ | refine kD ?_ | refine kA ?_ _)); refine zc0 (cs := #[.slice none 0 0]) ?_ 0 _ rfl; (with_reducible repeat (first | refine kN ?_ _ | refine kD ?_ | refine kA ?_ _)); exact BK327.out) Tryd.underlying29 rfl (by kernel_rfl)) rfl ?_
          exact ⟨_, by first | rfl | (simp [eN, eS] <;> rfl) | (simp only [← hji14]; first | rfl | (simp [eN, eS] <;> rfl)) | (simp [*, eN, eS] <;> rfl), by (with_reducible repeat (first | apply Kd.VA_ | apply Kd.VN_ | apply Kd.VD_)); exact Kd.VM_ (Kd.zn1 (p := ⟨gb327, 0, none⟩) (Kd.VM_ HO339.out (fun k_ hk => (⟨hk, hk.2.2⟩ : _ ∧ k_ ≠ gb327))) (fun _ hk => hk.2) (.slice Ao53 t337.length co53)) (fun _ hk => hk.1.1), by repeat (first | (with_reducible first | exact HB.out | apply bA | apply bN | apply b1_ | refine bS ?_ GE326.out | refine bS ?_ GE327.out) | exact HB.out)⟩
      ·rw [if_neg c18] at H
       exact absurd H (by simp)
     ·rw [if_neg c17] at H
      exact absurd H (by simp)
    ·rw [if_neg c16] at H
     exact absurd H (by simp)
   ·rw [if_neg c15] at H
    exact absurd H (by simp)
end Go.Proofs.YtgkdealidnidiaaDoor.Na
namespace Go.Proofs.YtgkdealidnidiaaDoor.Na
open Go.RowKit Go.Proofs.YtgkdealidnidiaaDoorW.PrintWords Go.Proofs.YtgkdealidnidiaaDoorW.PrintLast Go.Proofs.YtgkdealidnidiaaDoorW.PrintMore Go.Proofs.YtgkdealidnidiaaDoor.Dg
theorem two64 (n : Nat) (hn : n ≤ 64) : 18446744073709551616 = 2 ^ n * 2 ^ (64 - n) := by
 rw [← Nat.pow_add, show n + (64 - n) = 64 by omega]
theorem zu3 (w n : Nat) (hn : n ≤ 64) : shl .u64 (w : Int) (n : Int) = ((w * 2 ^ n % 18446744073709551616 : Nat) : Int) := by
 unfold shl
 have e : min ((n : Int)).toNat IntKind.u64.bits = n := by
  have : IntKind.u64.bits = 64 := rfl
  rw [this]; omega
 rw [e, IntKind.wrap_u64, show (2 : Int) ^ n = ((2 ^ n : Nat) : Int) by rw [Int.natCast_pow]; rfl, ← Int.natCast_mul]; omega
theorem zs3 (w n : Nat) (hn : n ≤ 64) : shr .u64 (w : Int) (n : Int) = ((w / 2 ^ n : Nat) : Int) := by
 unfold shr
 have e : min ((n : Int)).toNat IntKind.u64.bits = n := by
  have : IntKind.u64.bits = 64 := rfl
  rw [this]; omega
 rw [e, show (2 : Int) ^ n = ((2 ^ n : Nat) : Int) by rw [Int.natCast_pow]; rfl, ← Int.natCast_ediv]
theorem mul_pow_mod (w n : Nat) (hn : n ≤ 64) : w * 2 ^ n % 18446744073709551616 = 2 ^ n * (w % 2 ^ (64 - n)) := by
 rw [Nat.mul_comm w, two64 n hn, Nat.mul_mod_mul_left]
theorem mul_pow_div (w n : Nat) (hn : n ≤ 64) : w * 2 ^ n / 18446744073709551616 = w / 2 ^ (64 - n) := by
 rw [Nat.mul_comm w, two64 n hn, Nat.mul_div_mul_left _ _ (Nat.pow_pos (by decide))]
theorem or_word (w c n : Nat) (hn : n ≤ 64) (hc : c < 2 ^ n) : Go.bits .or .u64 (c : Int) ((w * 2 ^ n % 18446744073709551616 : Nat) : Int) = ((w * 2 ^ n % 18446744073709551616 + c : Nat) : Int) := by
 have hp : 2 ^ n ≤ 2 ^ 64 := Nat.pow_le_pow_right (by decide) hn
 have h64 : 2 ^ 64 = 18446744073709551616 := by decide
 rw [u64_or_nat _ _ (by omega) (Nat.mod_lt _ (by decide)), Nat.or_comm, nat_join n _ c ?_ hc]
 rw [mul_pow_mod w n hn, Nat.mul_mod_right]
theorem word_room (w c n : Nat) (hn : n ≤ 64) (hc : c < 2 ^ n) : w * 2 ^ n % 18446744073709551616 + c < 18446744073709551616 := by
 rw [mul_pow_mod w n hn]
 have h2 : w % 2 ^ (64 - n) + 1 ≤ 2 ^ (64 - n) := Nat.mod_lt _ (Nat.pow_pos (by decide))
 have h3 : 2 ^ n * (w % 2 ^ (64 - n) + 1) ≤ 2 ^ n * 2 ^ (64 - n) := Nat.mul_le_mul_left _ h2
 rw [← two64 n hn, Nat.mul_add] at h3
 omega
theorem shift_step {Q vo c A w p y c' : Int} (h : vo + Q * c = A * p) (hs : y + (BW : Int) * c' = w * p + c) : vo + Q * y + Q * (BW : Int) * c' = (A + Q * w) * p := by grind
theorem shifted_loop (l : List Int) (n : Nat) (hn : n < 64) (hR : R BW l) (hl : l.length ≤ 1000000000) : ∀ (d i : Nat) (o : List Int) (c : Nat), i + d = l.length → o.length = i → R BW o → c < 2 ^ n → V BW o + (BW : Int) ^ i * c = V BW (l.take i) * ((2 ^ n : Nat) : Int) →
  ∃ r, Ev (fun k => nat_shifted.l0 k l n (o ++ (c : Int) :: List.replicate d 0) l.length i) r ∧ R BW r ∧ V BW r = V BW l * ((2 ^ n : Nat) : Int) ∧ r.length = l.length + 1
 | 0, i, o, c, hi, ho, hRo, hc, hV => by
  obtain rfl : i = l.length := by omega
  have hp : 2 ^ n ≤ 2 ^ 64 := Nat.pow_le_pow_right (by decide) (by omega)
  have h64 : 2 ^ 64 = 18446744073709551616 := by decide
  refine ⟨o ++ [(c : Int)], Ev.step (f := fun _ => some (o ++ [(c : Int)])) (fun k => by rw [nat_shifted.l0, if_neg (by omega)]; rfl) (Ev.now _), zz.2 ⟨hRo, zy2 (by omega) (by rw [BWi]; omega)⟩, ?_, by simp [ho]⟩
  rw [zh2, ho, hV, zb0 _ _ (Nat.le_refl _)]
 | d + 1, i, o, c, hi, ho, hRo, hc, hV => by
  have hw0 := zu0 hR (by decide) i
  rw [BWi] at hw0
  obtain ⟨w, hw⟩ := Int.eq_ofNat_of_zero_le hw0.1
  have hrd := ze0 l i
  have hwl : w < 18446744073709551616 := by omega
  have hroom := word_room w c n (by omega) hc
  have hq := mul_pow_div w n (by omega)
  have hc' : w / 2 ^ (64 - n) < 2 ^ n := by
   rw [Nat.div_lt_iff_lt_mul (Nat.pow_pos (by decide)), ← two64 n (by omega)]; exact hwl
  have hs : ((w * 2 ^ n % 18446744073709551616 + c : Nat) : Int) + (BW : Int) * ((w / 2 ^ (64 - n) : Nat) : Int) = (w : Int) * ((2 ^ n : Nat) : Int) + (c : Int) := by
   rw [← hq, BWi, ← Int.natCast_mul]; omega
  obtain ⟨r, hE, h1, h2, h3⟩ := shifted_loop l n hn hR hl d (i + 1) (o ++ [((w * 2 ^ n % 18446744073709551616 + c : Nat) : Int)]) (w / 2 ^ (64 - n)) (by omega) (by simp [ho]) (zz.2 ⟨hRo, zy2 (Int.natCast_nonneg _) (by rw [BWi]; omega)⟩) hc' (by
   rw [zh2, ho, zd0 _ _ _ (by omega), hw, Int.pow_succ]
   exact shift_step hV hs)
  refine ⟨r, Ev.step (fun k => ?_) hE, h1, h2, h3⟩
  have g1 : (i : Int) < (l.length : Int) := by omega
  have g2 : (0 : Int) ≤ (i : Int) := by omega
  have hlen : (o ++ (c : Int) :: List.replicate (d + 1) 0).length = i + d + 2 := by simp [ho]; omega
  have g3 : (i : Int) < ((o ++ (c : Int) :: List.replicate (d + 1) 0).length : Int) := by omega
  have g4 : (0 : Int) ≤ (n : Int) := by omega
  have hrc : rd (o ++ (c : Int) :: List.replicate (d + 1) 0) (i : Int) = (c : Int) := by
   rw [ze0, ← ho, List.getD_eq_getElem?_getD, List.getElem?_append_right (Nat.le_refl _), Nat.sub_self]; rfl
  have hset : (o ++ (c : Int) :: List.replicate (d + 1) 0).set ((i : Int).toNat) ((w * 2 ^ n % 18446744073709551616 + c : Nat) : Int) = (o ++ [((w * 2 ^ n % 18446744073709551616 + c : Nat) : Int)]) ++ List.replicate (d + 1) 0 := by
   rw [Int.toNat_natCast, List.set_append_right _ _ (by omega), ho, Nat.sub_self, List.set_cons_zero, List.append_assoc]; rfl
  have E := Q0.mk (show wrap64 ((i : Int) + 1) = ((i + 1 : Nat) : Int) by rw [w64 (by omega) (by omega)]; rfl)
  by_cases hn0 : n = 0
  ·subst hn0
   have e0 : w / 2 ^ (64 - 0) = 0 := Nat.div_eq_of_lt hwl
   rw [e0]
   have gz : ¬ ((0 : Nat) : Int) > 0 := by omega
   rw [nat_shifted.l0, if_pos g1, if_pos g2, if_pos g3, if_pos g1, if_pos g4, hrc, hrd, hw, zu3 w 0 (by omega), or_word w c 0 (by omega) hc, hset, Option.bind_some, if_neg gz, E.out, List.replicate_succ]; rfl
  ·have gp : (n : Int) > 0 := by omega
   have E2 := Q0.mk (show IntKind.u64.wrap (64 - (n : Int)) = ((64 - n : Nat) : Int) by rw [u64w (by omega) (by omega)]; omega)
   have g5 : (0 : Int) ≤ ((64 - n : Nat) : Int) := by omega
   have g6 : (0 : Int) ≤ ((i + 1 : Nat) : Int) := by omega
   have g7 : ((i + 1 : Nat) : Int) < ((o ++ (c : Int) :: List.replicate (d + 1) 0).length : Int) := by omega
   have hset2 : ((o ++ [((w * 2 ^ n % 18446744073709551616 + c : Nat) : Int)]) ++ List.replicate (d + 1) 0).set (((i + 1 : Nat) : Int).toNat) ((w / 2 ^ (64 - n) : Nat) : Int) = (o ++ [((w * 2 ^ n % 18446744073709551616 + c : Nat) : Int)]) ++ ((w / 2 ^ (64 - n) : Nat) : Int) :: List.replicate d 0 := by
    rw [Int.toNat_natCast, List.set_append_right _ _ (by simp [ho]), List.replicate_succ]
    rw [show i + 1 - (o ++ [((w * 2 ^ n % 18446744073709551616 + c : Nat) : Int)]).length = 0 by simp [ho], List.set_cons_zero]
   rw [nat_shifted.l0, if_pos g1, if_pos g2, if_pos g3, if_pos g1, if_pos g4, hrc, hrd, hw, zu3 w n (by omega), or_word w c n (by omega) hc, hset, Option.bind_some, if_pos gp, E2.out, if_pos g5, E.out, if_pos g6, if_pos g7, zs3 w (64 - n) (by omega), hset2]
theorem shifted_ev (l : List Int) (n : Nat) (hn : n < 64) (hR : R BW l) (hl : l.length ≤ 1000000000) : ∃ r, Ev (fun k => nat_shifted.f k l n) r ∧ R BW r ∧ V BW r = V BW l * ((2 ^ n : Nat) : Int) ∧ r.length = l.length + 1 := by
 obtain ⟨r, hE, h⟩ := shifted_loop l n hn hR hl l.length 0 [] 0 (by omega) rfl (zj1 _) (Nat.pow_pos (by decide)) (by simp [V])
 refine ⟨r, Ev.congr (fun k => ?_) hE, h⟩
 have E := Q0.mk (show wrap64 ((l.length : Int) + 1) = ((l.length + 1 : Nat) : Int) by rw [w64 (by omega) (by omega)]; rfl)
 unfold nat_shifted.f
 rw [E.out, if_pos (by omega), Int.toNat_natCast, if_pos (by omega)]; rfl
theorem nb_shl {x : Nat} (n : Nat) (hx : 0 < x) : nb (x * 2 ^ n) = nb x + n := by
 have := nb_split (v := 0) (s := n) (w := x) (Nat.pow_pos (by decide)) hx
 rw [Nat.zero_add, Nat.mul_comm] at this; omega
theorem dig_list {b : Nat} (hb : 2 ≤ b) (z : Nat) (o : List Int) (m : Nat) (hl : o.length = m) (h : ∀ i, i < m → o.getD i 0 = ((z / b ^ i % b : Nat) : Int)) : R b o ∧ V b o = ((z % b ^ m : Nat) : Int) := by
 induction m generalizing o with
 | zero =>
  obtain rfl := List.length_eq_zero_iff.1 hl
  exact ⟨zj1 _, by rw [Nat.pow_zero, Nat.mod_one]; rfl⟩
 | succ m ih =>
  rcases snoc_cases o with rfl | ⟨p, y, rfl⟩
  ·simp at hl
  ·have hp : p.length = m := by simpa using hl
   obtain ⟨h1, h2⟩ := ih p hp (fun i hi => by
    have := h i (by omega)
    rw [List.getD_eq_getElem?_getD, List.getElem?_append_left (by omega)] at this
    rw [List.getD_eq_getElem?_getD]; exact this)
   have hy : y = ((z / b ^ m % b : Nat) : Int) := by
    have := h m (by omega)
    rw [← hp, List.getD_eq_getElem?_getD, List.getElem?_append_right (Nat.le_refl _), Nat.sub_self] at this
    rw [hp] at this
    exact this
   have hlt : z / b ^ m % b < b := Nat.mod_lt _ (by omega)
   refine ⟨zz.2 ⟨h1, zy2 (by omega) (by omega)⟩, ?_⟩
   rw [zh2, hp, h2, hy, ← Int.natCast_pow, ← Int.natCast_mul, ← Int.natCast_add]
   congr 1
   rw [Nat.pow_succ, Nat.mod_mul]
theorem pow_split64 (x n : Nat) : x / 2 ^ n = x / BW ^ (n / 64) / 2 ^ (n % 64) := by
 rw [Nat.div_div_eq_div_mul, pow64, ← Nat.pow_add, show 64 * (n / 64) + n % 64 = n by omega]
theorem two_words (a b s : Nat) (hs : s ≤ 64) (ha : a < 18446744073709551616) : (a + 18446744073709551616 * b) / 2 ^ s % 18446744073709551616 = b * 2 ^ (64 - s) % 18446744073709551616 + a / 2 ^ s := by
 have e : a + 18446744073709551616 * b = a + 2 ^ s * (b * 2 ^ (64 - s)) := by rw [two64 s hs]; grind
 have h1 : a / 2 ^ s < 2 ^ (64 - s) := by rw [Nat.div_lt_iff_lt_mul (Nat.pow_pos (by decide)), Nat.mul_comm, ← two64 s hs]; exact ha
 rw [e, Nat.add_mul_div_left _ _ (Nat.pow_pos (by decide)), Nat.add_comm (a / 2 ^ s)]
 have h2 := word_room b (a / 2 ^ s) (64 - s) (by omega) h1
 rw [Nat.add_mod, Nat.mod_eq_of_lt (a := a / 2 ^ s) (by omega), Nat.mod_eq_of_lt h2]
theorem nshr_digit (x n i : Nat) : x / 2 ^ n / BW ^ i % BW = (x / BW ^ (n / 64 + i) % BW + 18446744073709551616 * (x / BW ^ (n / 64 + i + 1) % BW)) / 2 ^ (n % 64) % 18446744073709551616 := by
 have h : x / BW ^ (n / 64 + i) % BW + 18446744073709551616 * (x / BW ^ (n / 64 + i + 1) % BW) = x / BW ^ (n / 64 + i) % (BW * BW) := by
  rw [Nat.pow_succ, ← Nat.div_div_eq_div_mul, Nat.mod_mul]
 have e : BW * BW = 2 ^ (n % 64) * (18446744073709551616 * 2 ^ (64 - n % 64)) := by
  have := two64 (n % 64) (by omega)
  rw [show BW * BW = 18446744073709551616 * 18446744073709551616 from rfl]
  conv => lhs; rw [this]
  rw [show (18446744073709551616 : Nat) = 2 ^ 64 by decide, ← Nat.pow_add, ← Nat.pow_add, ← Nat.pow_add, ← Nat.pow_add]
  congr 1; omega
 rw [h, e, Nat.mod_mul_right_div_self, Nat.mod_mul_right_mod, pow_split64 x n, Nat.pow_add, Nat.div_div_eq_div_mul, Nat.div_div_eq_div_mul, Nat.div_div_eq_div_mul]
 rw [show BW = 18446744073709551616 from rfl]
 congr 2
 rw [Nat.mul_comm (2 ^ (n % 64)), Nat.mul_assoc]
theorem nshr_loop (x n : Nat) (hx : (wd BW x).length ≤ 1000000) (hlt : n / 64 ≤ (wd BW x).length) : ∀ (d i : Nat) (o : List Int), n / 64 + i + d = (wd BW x).length → o.length = i → (∀ j, j < i → o.getD j 0 = ((x / 2 ^ n / BW ^ j % BW : Nat) : Int)) →
  Ev (fun k => nat_Nat_Shr.l0 k ((wd BW x).drop (n / 64)) (o ++ List.replicate d 0) ((n % 64 : Nat) : Int) (((wd BW x).drop (n / 64)).length : Int) i) (wd BW (x / 2 ^ n), 0)
 | 0, i, o, hi, ho, hd => by
  have hdl : ((wd BW x).drop (n / 64)).length = i := by rw [List.length_drop]; omega
  refine Ev.step (f := fun k => (nat_norm.f k o).bind fun t => some (t, 0)) (fun k => by rw [nat_Nat_Shr.l0, hdl, if_neg (by omega)]; simp) ?_
  refine Ev.bind (ze3 o (by omega)) ?_
  obtain ⟨h1, h2⟩ := dig_list (b := BW) (by decide) (x / 2 ^ n) o i ho hd
  have hsmall : x / 2 ^ n < BW ^ i := by
   rw [pow_split64]
   refine Nat.lt_of_le_of_lt (Nat.div_le_self _ _) ?_
   rw [Nat.div_lt_iff_lt_mul (Nat.pow_pos (by decide)), ← Nat.pow_add, show i + n / 64 = (wd BW x).length by omega]
   exact (zn (by decide) _).1 (Nat.le_refl _)
  rw [Nat.mod_eq_of_lt hsmall] at h2
  rw [zf1 (n := x / 2 ^ n) (by decide) h1 h2]
  exact Ev.now _
 | d + 1, i, o, hi, ho, hd => by
  have ga := getD_N (b := BW) (m := x) (by decide) (zd2 (by decide) x) (zn2 (by decide) x) (n / 64 + i)
  have gb := getD_N (b := BW) (m := x) (by decide) (zd2 (by decide) x) (zn2 (by decide) x) (n / 64 + i + 1)
  have hA : x / BW ^ (n / 64 + i) % BW < 18446744073709551616 := Nat.mod_lt _ (by decide)
  have hB : x / BW ^ (n / 64 + i + 1) % BW < 18446744073709551616 := Nat.mod_lt _ (by decide)
  have hdig := nshr_digit x n i
  have hdl : ((wd BW x).drop (n / 64)).length = i + d + 1 := by rw [List.length_drop]; omega
  have hd1 : rd ((wd BW x).drop (n / 64)) (i : Int) = (wd BW x).getD (n / 64 + i) 0 := by rw [ze0, List.getD_eq_getElem?_getD, List.getElem?_drop, ← List.getD_eq_getElem?_getD]
  have hd2 : rd ((wd BW x).drop (n / 64)) ((i + 1 : Nat) : Int) = (wd BW x).getD (n / 64 + i + 1) 0 := by rw [ze0, List.getD_eq_getElem?_getD, List.getElem?_drop, ← List.getD_eq_getElem?_getD]; rfl
  generalize x / BW ^ (n / 64 + i) % BW = A at ga hA hdig
  generalize hBB : x / BW ^ (n / 64 + i + 1) % BW = B at gb hB hdig
  rw [two_words A B (n % 64) (by omega) hA] at hdig
  have hc : A / 2 ^ (n % 64) < 2 ^ (64 - n % 64) := by rw [Nat.div_lt_iff_lt_mul (Nat.pow_pos (by decide)), Nat.mul_comm, ← two64 (n % 64) (by omega)]; exact hA
  have ih := nshr_loop x n hx hlt d (i + 1) (o ++ [((B * 2 ^ (64 - n % 64) % 18446744073709551616 + A / 2 ^ (n % 64) : Nat) : Int)]) (by omega) (by simp [ho]) (fun j hj => by
   rcases Nat.lt_or_ge j i with h | h
   ·rw [List.getD_eq_getElem?_getD, List.getElem?_append_left (by omega), ← List.getD_eq_getElem?_getD]; exact hd j h
   ·obtain rfl : j = i := by omega
    rw [List.getD_eq_getElem?_getD, ← ho, List.getElem?_append_right (Nat.le_refl _), Nat.sub_self, ho, hdig]; rfl)
  refine Ev.step (fun k => ?_) ih
  have hol : (o ++ List.replicate (d + 1) (0 : Int)).length = i + d + 1 := by simp [ho]; omega
  have g1 : (i : Int) < (((wd BW x).drop (n / 64)).length : Int) := by omega
  have g2 : (0 : Int) ≤ (i : Int) := by omega
  have g3 : (0 : Int) ≤ ((n % 64 : Nat) : Int) := by omega
  have g4 : (i : Int) < ((o ++ List.replicate (d + 1) (0 : Int)).length : Int) := by omega
  have hs1 : ∀ y : Int, (o ++ List.replicate (d + 1) 0).set ((i : Int).toNat) y = (o ++ [y]) ++ List.replicate d 0 := fun y => by rw [Int.toNat_natCast]; exact set_app o d y ho
  have hr1 : ∀ y : Int, rd ((o ++ [y]) ++ List.replicate d 0) (i : Int) = y := fun y => by
   rw [ze0, List.append_assoc, List.getD_eq_getElem?_getD, ← ho, List.getElem?_append_right (Nat.le_refl _), Nat.sub_self]; rfl
  have hs2 : ∀ y z : Int, ((o ++ [y]) ++ List.replicate d 0).set ((i : Int).toNat) z = (o ++ [z]) ++ List.replicate d 0 := fun y z => by
   rw [Int.toNat_natCast, List.append_assoc, List.set_append_right _ _ (by omega), ho, Nat.sub_self, List.append_assoc]; rfl
  have E := Q0.mk (show wrap64 ((i : Int) + 1) = ((i + 1 : Nat) : Int) by rw [w64 (by omega) (by omega)]; rfl)
  by_cases hn0 : n % 64 = 0
  ·rw [hn0] at hdig hc ih ⊢
   have hz : B * 2 ^ (64 - 0) % 18446744073709551616 + A / 2 ^ 0 = A := by
    rw [show (2 : Nat) ^ (64 - 0) = 18446744073709551616 by decide, Nat.mul_mod_left]; simp
   have gz : ¬ ((0 : Nat) : Int) > 0 := by omega
   rw [hz, nat_Nat_Shr.l0, if_pos g1, if_pos g2, if_pos g1, if_pos (by omega), if_pos g4, hd1, ga, zs3 A 0 (by omega), hs1, Option.bind_some, if_neg gz, E.out, Nat.pow_zero, Nat.div_one]
  ·have gp : ((n % 64 : Nat) : Int) > 0 := by omega
   have E2 := Q0.mk (show IntKind.u64.wrap (64 - ((n % 64 : Nat) : Int)) = ((64 - n % 64 : Nat) : Int) by rw [u64w (by omega) (by omega)]; omega)
   by_cases hend : i + 1 < i + d + 1
   ·have g5 : ((i + 1 : Nat) : Int) < (((wd BW x).drop (n / 64)).length : Int) := by omega
    have g6 : (0 : Int) ≤ ((i + 1 : Nat) : Int) := by omega
    have g7 : (0 : Int) ≤ ((64 - n % 64 : Nat) : Int) := by omega
    rw [nat_Nat_Shr.l0, if_pos g1, if_pos g2, if_pos g1, if_pos g3, if_pos g4, hd1, ga, zs3 A (n % 64) (by omega), hs1, Option.bind_some, if_pos gp, E.out, if_pos g5, if_pos g6, E2.out, if_pos g7, hr1, hd2, gb, zu3 B (64 - n % 64) (by omega), or_word B _ (64 - n % 64) (by omega) hc, hs2]
   ·have g5 : ¬ ((i + 1 : Nat) : Int) < (((wd BW x).drop (n / 64)).length : Int) := by omega
    have hB0 : B = 0 := by
     rw [← hBB]
     have hlen : (wd BW x).length ≤ n / 64 + i + 1 := by omega
     rw [Nat.div_eq_of_lt ((zn (b := BW) (by decide) _).1 hlen)]; rfl
    subst hB0
    rw [nat_Nat_Shr.l0, if_pos g1, if_pos g2, if_pos g1, if_pos g3, if_pos g4, hd1, ga, zs3 A (n % 64) (by omega), hs1, Option.bind_some, if_pos gp, E.out, if_neg g5, Nat.zero_mul, Nat.zero_mod, Nat.zero_add]
theorem nshr_ev (x n : Nat) (hx : (wd BW x).length ≤ 1000000) (hn : n < 9223372036854775808) : Ev (fun k => nat_Nat_Shr.f k (wd BW x) n) (wd BW (x / 2 ^ n), 0) := by
 have E := Q0.mk (And.intro (show wrap64 (Int.tdiv (n : Int) 64) = ((n / 64 : Nat) : Int) by rw [zz2 (by omega), w64 (by omega) (by omega)]; omega) (show IntKind.u64.wrap (Int.tmod (n : Int) 64) = ((n % 64 : Nat) : Int) by rw [z92 (by omega), u64w (by omega) (by omega)]; omega))
 by_cases h : (wd BW x).length ≤ n / 64
 ·have hz : x / 2 ^ n = 0 := by
   have h2 : x / BW ^ (n / 64) = 0 := Nat.div_eq_of_lt ((zn (b := BW) (by decide) _).1 h)
   rw [pow_split64, h2, Nat.zero_div]
  rw [hz, zo0]
  refine Ev.congr (f := fun _ => some ([], 0)) (fun k => ?_) (Ev.now _)
  unfold nat_Nat_Shr.f
  rw [if_neg (by omega), E.out.1, if_pos (by omega)]
 ·have hdl : ((wd BW x).drop (n / 64)).length = (wd BW x).length - n / 64 := List.length_drop
  refine Ev.congr (f := fun k => nat_Nat_Shr.l0 k ((wd BW x).drop (n / 64)) ([] ++ List.replicate ((wd BW x).length - n / 64) 0) ((n % 64 : Nat) : Int) (((wd BW x).drop (n / 64)).length : Int) ((0 : Nat) : Int)) (fun k => ?_) (nshr_loop x n hx (by omega) ((wd BW x).length - n / 64) 0 [] (by omega) rfl (fun j hj => by omega))
  unfold nat_Nat_Shr.f
  rw [if_neg (by omega), E.out.1, if_neg (by omega), if_pos (by omega), if_pos (by omega), Int.toNat_natCast, if_pos (by omega), Int.toNat_natCast, if_pos (by omega), hdl, E.out.2]; rfl
end Go.Proofs.YtgkdealidnidiaaDoor.Na
namespace Go.Proofs.YtgkdealidnidiaaDoor.Na
open Go.RowKit Go.Proofs.YtgkdealidnidiaaDoorW.PrintWords Go.Proofs.YtgkdealidnidiaaDoorW.PrintLast Go.Proofs.YtgkdealidnidiaaDoorW.PrintMore
attribute [local go_sem] zx0 zd1
def chafflaw01_Of.f (k : Nat) (l0_0 : List Int) : Option (List Int) := (nat_Nat_Words.f l0_0).bind fun t217 => ((chaffref01_From.f k t217).bind fun t220 => (some t220))
theorem chafflaw01_Of.calls (k : Nat) (A0_0 : Option Addr) (c0_0 : Nat) (l0_0 : List Int) (r : List Int) (w : World) (hr0_0 : Kd.C (Kd.int .u64) w A0_0 l0_0.length l0_0) (hc0_0 : l0_0.length ≤ c0_0) (h : chafflaw01_Of.f k l0_0 = some r) :
  Calls Tryd.prog 75 #[.agg #[.slice A0_0 l0_0.length c0_0]] w fun e w' => ∃ v0_ : Value, e = .returned (v0_) ∧ Kd.V (Kd.int .i64) 3 w' w.heap.size (fun k_ => (w.heap.size ≤ k_)) v0_ r ∧ Below w.heap.size w w' := by
 have hu29 := Tryd.underlying29
 have HR0_0 := Q0.mk hr0_0
 have HC0_0 := Q0.mk hc0_0
 clear hr0_0 hc0_0
 have HB := Q0.mk (Below.refl w.heap.size w)
 have H : ((nat_Nat_Words.f l0_0).bind fun t217 => ((chaffref01_From.f k t217).bind fun t220 => (some t220))) = some r := h
 clear h
 replace H := Option.bind_eq_some_iff.mp H
 obtain ⟨t217, A20, H⟩ := H
 have A2 := Q0.mk A20
 clear A20
 replace H := Option.bind_eq_some_iff.mp H
 obtain ⟨t220, A30, H⟩ := H
 have A3 := Q0.mk A30
 clear A30
 obtain rfl := Option.some.inj H
 go_enter Tryd.func75, Tryd.ntmps75
 go_wp2_with (first | ((with_reducible refine gD (N := 1) rfl ?_); refine xE ?hg (N := 1) ?hd (cs := #[.slice A0_0 l0_0.length c0_0]) (t := 29) ?hr ?_; (case hd => rfl); (case hg => rfl); (case hr => first | (go_simp; done) | (go_simp; rfl)); intro gb216 hg w4 hbox hb; have q_ := zm (w := w) hb (by repeat (first | (with_reducible first | exact HB.out | apply bA | apply bN | apply b1_) | exact HB.out)); replace HB := Q0.mk (bP q_ hb); have BK216 := Q0.mk (hbox); have GW216 := Q0.mk ((by rw [hg]; exact (bZ q_) : w.heap.size ≤ gb216)); have GE216 := GW216; clear q_; clear hb hbox hg; have hcz5_0 : w4.cell? ⟨gb216, 0, none⟩ = some (.slice A0_0 l0_0.length c0_0) := (kC BK216.out 0).trans rfl; have hfz5_0 := kF BK216.out 0) | ((with_reducible refine gC (f := 18) rfl ?_); refine zx (some 4) rfl rfl Tryd.func18 (by kernel_rfl) rfl #[.agg #[.slice A0_0 l0_0.length c0_0]] rfl (by (try simp only [List.map_toArray, List.map_cons, List.map_nil]); first | done | rfl | (simp only [List.length_drop, List.length_take]; rfl)) ?_; (with_reducible refine (nat_Nat_Words.calls _ _ l0_0 t217 _ ?side1 ?side2 A2.out).mono ?_); (case side1 => repeat (first | exact (Kd.zu HR0_0.out HB.out) | (with_reducible refine Kd.ze ?_ _) | (with_reducible refine Kd.zf ?_ _) | (with_reducible refine Kd.zi ?_))); (case side2 => exact HC0_0.out); rintro e w6 ⟨v218, rfl, ho0, hb⟩; refine ⟨_, rfl, ?_⟩; have q_ := zm (w := w) hb (by repeat (first | (with_reducible first | exact HB.out | apply bA | apply bN | apply b1_ | refine bS ?_ GE216.out) | exact HB.out)); have HO219 := Q0.mk (Kd.zw0 (Kd.zs1 (M := fun k_ => (w.heap.size ≤ k_)) ho0 (bZ q_) (fun k_ h_ => h_)) (bZ q_)); replace BK216 := Q0.mk (kB (g := gb216) (o := .cells #[.slice A0_0 l0_0.length c0_0] 29 (0, 0)) (by (with_reducible repeat (first | refine kN ?_ _ | refine kD ?_ | refine kA ?_ _)); exact BK216.out) hb); replace HB := Q0.mk (bP q_ hb); clear q_; (try clear hb); (try clear hb2); (try clear hk); (try clear hi); (try clear ho0); obtain ⟨Ao7, co7, eo7⟩ := Kd.zl0 HO219.out; subst eo7) | ((with_reducible refine gC (f := 15) rfl ?_); refine zx (some 5) rfl rfl Tryd.func15 (by kernel_rfl) rfl #[.slice Ao7 t217.length co7] rfl (by (try simp only [List.map_toArray, List.map_cons, List.map_nil]); first | done | rfl | (simp only [List.length_drop, List.length_take]; rfl)) ?_; (with_reducible refine (chaffref01_From.calls k _ _ t217 t220 _ ?side1 ?side2 A3.out).mono ?_); (case side1 => repeat (first | exact (Kd.zw HO219.out).2.2 | (with_reducible refine Kd.ze ?_ _) | (with_reducible refine Kd.zf ?_ _) | (with_reducible refine Kd.zi ?_))); (case side2 => exact (Kd.zw HO219.out).2.1); rintro e w8 ⟨v221, rfl, ho0, hb⟩; refine ⟨_, rfl, ?_⟩; have q_ := zm (w := w) hb (by repeat (first | (with_reducible first | exact HB.out | apply bA | apply bN | apply b1_ | refine bS ?_ GE216.out) | exact HB.out)); have HO222 := Q0.mk (Kd.za0 (Kd.VM_ (ok' := fun k_ => (w.heap.size ≤ k_) ∧ some k_ ≠ (.slice Ao7 t217.length co7 : Value).ownBlock ∧ k_ ≠ gb216) ho0 (fun k_ hk_ => ⟨(Nat.le_trans (bZ q_) hk_), (Kd.fresh' (Kd.R_lt (by (with_reducible repeat (first | apply Kd.RA_ | apply Kd.RN_ | apply Kd.RD_)); exact HO219.out)) k_ hk_), (Kd.zm0 (g := gb216) (o := .cells #[.slice A0_0 l0_0.length c0_0] 29 (0, 0)) (by (with_reducible repeat (first | refine kN ?_ _ | refine kD ?_ | refine kA ?_ _)); exact BK216.out) k_ hk_)⟩)) (bZ q_)); replace HO219 := Q0.mk (Kd.zy (by (with_reducible repeat (first | apply Kd.RA_ | apply Kd.RN_ | apply Kd.RD_)); exact HO219.out) hb); replace BK216 := Q0.mk (kB (g := gb216) (o := .cells #[.slice A0_0 l0_0.length c0_0] 29 (0, 0)) (by (with_reducible repeat (first | refine kN ?_ _ | refine kD ?_ | refine kA ?_ _)); exact BK216.out) hb); replace HB := Q0.mk (bP q_ hb); clear q_; (try clear hb); (try clear hb2); (try clear hk); (try clear hi); (try clear ho0)))
 go_ret
 exact ⟨_, by first | rfl | (simp [eN, eS] <;> rfl) | (simp [*, eN, eS] <;> rfl), by (with_reducible repeat (first | apply Kd.VA_ | apply Kd.VN_ | apply Kd.VD_)); exact Kd.VM_ HO222.out (fun _ hk => hk.1), by repeat (first | (with_reducible first | exact HB.out | apply bA | apply bN | apply b1_ | refine bS ?_ GE216.out) | exact HB.out)⟩
def chafflaw01_Is.f (k : Nat) (l0_0 : List Int) (l1 : List Int) : Option (Bool) := (chafflaw01_Of.f k l0_0).bind fun t224 => ((chaffref01_Cmp.f k t224 l1).bind fun t227 => (some (t227 == 0)))
theorem chafflaw01_Is.calls (k : Nat) (A0_0 : Option Addr) (c0_0 : Nat) (l0_0 : List Int) (A1 : Option Addr) (c1 : Nat) (l1 : List Int) (r : Bool) (w : World) (hr0_0 : Kd.C (Kd.int .u64) w A0_0 l0_0.length l0_0) (hc0_0 : l0_0.length ≤ c0_0) (hr1 : Kd.C (Kd.int .i64) w A1 l1.length l1) (hc1 : l1.length ≤ c1) (h : chafflaw01_Is.f k l0_0 l1 = some r) :
  Calls Tryd.prog 27 #[.agg #[.slice A0_0 l0_0.length c0_0], .slice A1 l1.length c1] w fun e w' => e = .returned (.bool r) ∧ Below w.heap.size w w' := by
 have hu29 := Tryd.underlying29
 have HR0_0 := Q0.mk hr0_0
 have HC0_0 := Q0.mk hc0_0
 clear hr0_0 hc0_0
 have HR1 := Q0.mk hr1
 have HC1 := Q0.mk hc1
 clear hr1 hc1
 have HB := Q0.mk (Below.refl w.heap.size w)
 have H : ((chafflaw01_Of.f k l0_0).bind fun t224 => ((chaffref01_Cmp.f k t224 l1).bind fun t227 => (some (t227 == 0)))) = some r := h
 clear h
 replace H := Option.bind_eq_some_iff.mp H
 obtain ⟨t224, A30, H⟩ := H
 have A3 := Q0.mk A30
 clear A30
 replace H := Option.bind_eq_some_iff.mp H
 obtain ⟨t227, A40, H⟩ := H
 have A4 := Q0.mk A40
 clear A40
 obtain rfl := Option.some.inj H
 go_enter Tryd.func27, Tryd.ntmps27
 go_wp2_with (first | ((with_reducible refine gD (N := 2) rfl ?_); refine xE ?hg (N := 2) ?hd (cs := #[.slice A0_0 l0_0.length c0_0]) (t := 29) ?hr ?_; (case hd => rfl); (case hg => rfl); (case hr => first | (go_simp; done) | (go_simp; rfl)); intro gb223 hg w5 hbox hb; have q_ := zm (w := w) hb (by repeat (first | (with_reducible first | exact HB.out | apply bA | apply bN | apply b1_) | exact HB.out)); replace HB := Q0.mk (bP q_ hb); have BK223 := Q0.mk (hbox); have GW223 := Q0.mk ((by rw [hg]; exact (bZ q_) : w.heap.size ≤ gb223)); have GE223 := GW223; clear q_; clear hb hbox hg; have hcz6_0 : w5.cell? ⟨gb223, 0, none⟩ = some (.slice A0_0 l0_0.length c0_0) := (kC BK223.out 0).trans rfl; have hfz6_0 := kF BK223.out 0) | ((with_reducible refine gC (f := 75) rfl ?_); refine zx (some 6) rfl rfl Tryd.func75 (by kernel_rfl) rfl #[.agg #[.slice A0_0 l0_0.length c0_0]] rfl (by (try simp only [List.map_toArray, List.map_cons, List.map_nil]); first | done | rfl | (simp only [List.length_drop, List.length_take]; rfl)) ?_; (with_reducible refine (chafflaw01_Of.calls k _ _ l0_0 t224 _ ?side1 ?side2 A3.out).mono ?_); (case side1 => repeat (first | exact (Kd.zu HR0_0.out HB.out) | (with_reducible refine Kd.ze ?_ _) | (with_reducible refine Kd.zf ?_ _) | (with_reducible refine Kd.zi ?_))); (case side2 => exact HC0_0.out); rintro e w7 ⟨v225, rfl, ho0, hb⟩; refine ⟨_, rfl, ?_⟩; have q_ := zm (w := w) hb (by repeat (first | (with_reducible first | exact HB.out | apply bA | apply bN | apply b1_ | refine bS ?_ GE223.out) | exact HB.out)); have HO226 := Q0.mk (Kd.za0 (Kd.VM_ (ok' := fun k_ => k_ ≠ gb223) ho0 (fun k_ hk_ => (Kd.zm0 (g := gb223) (o := .cells #[.slice A0_0 l0_0.length c0_0] 29 (0, 0)) (by (with_reducible repeat (first | refine kN ?_ _ | refine kD ?_ | refine kA ?_ _)); exact BK223.out) k_ hk_))) (bZ q_)); replace BK223 := Q0.mk (kB (g := gb223) (o := .cells #[.slice A0_0 l0_0.length c0_0] 29 (0, 0)) (by (with_reducible repeat (first | refine kN ?_ _ | refine kD ?_ | refine kA ?_ _)); exact BK223.out) hb); replace HB := Q0.mk (bP q_ hb); clear q_; (try clear hb); (try clear hb2); (try clear hk); (try clear hi); (try clear ho0); obtain ⟨Ao8, co8, eo8⟩ := Kd.zo HO226.out; subst eo8) | ((with_reducible refine gC (f := 37) rfl ?_); refine zx (some 8) rfl rfl Tryd.func37 (by kernel_rfl) rfl #[.slice Ao8 t224.length co8, .slice A1 l1.length c1] rfl (by (try simp only [List.map_toArray, List.map_cons, List.map_nil]); first | done | rfl | (simp only [List.length_drop, List.length_take]; rfl)) ?_; (with_reducible refine (chaffref01_Cmp.calls k _ _ t224 _ _ l1 t227 _ ?side1 ?side2 ?side3 ?side4 A4.out).mono ?_); (case side1 => repeat (first | exact (Kd.z90 HO226.out).2.2 | (with_reducible refine Kd.ze ?_ _) | (with_reducible refine Kd.zf ?_ _) | (with_reducible refine Kd.zi ?_))); (case side2 => exact (Kd.z90 HO226.out).2.1); (case side3 => repeat (first | exact (Kd.zu HR1.out HB.out) | (with_reducible refine Kd.ze ?_ _) | (with_reducible refine Kd.zf ?_ _) | (with_reducible refine Kd.zi ?_))); (case side4 => exact HC1.out); rintro e w' ⟨rfl, ⟨nd, rfl⟩⟩; refine ⟨_, rfl, ?_⟩))
 go_ret
 exact ⟨by first | rfl | (simp [eN, eS] <;> rfl) | (simp [*, eN, eS] <;> rfl), by repeat (first | (with_reducible first | exact HB.out | apply bA | apply bN | apply b1_ | refine bS ?_ GE223.out) | exact HB.out)⟩
end Go.Proofs.YtgkdealidnidiaaDoor.Na
namespace Go.Proofs.YtgkdealidnidiaaDoor.Na
open Go.RowKit Go.Proofs.YtgkdealidnidiaaDoorW.PrintWords Go.Proofs.YtgkdealidnidiaaDoorW.PrintLast Go.Proofs.YtgkdealidnidiaaDoorW.PrintMore Go.Proofs.YtgkdealidnidiaaDoor.Dg
theorem lof_ev (n : Nat) (h : (wd BW n).length ≤ 1000000) : Ev (fun k => chafflaw01_Of.f k (wd BW n)) (wd BD n) := by
 refine Ev.congr (f := fun k => (chaffref01_From.f k (wd BW n)).bind fun t220 => (some t220)) (fun k => by
  unfold chafflaw01_Of.f nat_Nat_Words.f slices_Clone_uint64_uint64.f
  rw [if_pos (by omega)]; rfl) ?_
 exact Ev.bind (rfrom_ev (wd BW n) n (zd2 (by decide) n) (zn2 (by decide) n) (by omega)) (Ev.now _)
theorem zq3 {n k : Nat} (h : (wd BW n).length ≤ k) : (wd BD n).length ≤ 4 * k := by
 rw [zn (by decide)] at h ⊢
 rw [pow64] at h
 rw [pow16]
 rw [show 16 * (4 * k) = 64 * k by omega]; exact h
theorem cmpN_zero (x y : Nat) : (zv1 x y == 0) = decide (x = y) := by
 unfold zv1
 split
 ·rw [decide_eq_false (by omega)]; rfl
 ·split
  ·rw [decide_eq_false (by omega)]; rfl
  ·rw [decide_eq_true (by omega)]; rfl
theorem is_ev (n m : Nat) (h : (wd BW n).length ≤ 250000) : Ev (fun k => chafflaw01_Is.f k (wd BW n) (wd BD m)) (decide (n = m)) := by
 unfold chafflaw01_Is.f
 refine Ev.bind (lof_ev n (by omega)) (Ev.bind (rcmp_ev2 n m (by have := zq3 h; omega)) ?_)
 rw [cmpN_zero]
 exact Ev.now _
def zx1 (n : Nat) : ByteArray := ⟨(Lib.decDigits n).toArray⟩
theorem ba_ext {a b : ByteArray} (h : a.data.toList = b.data.toList) : a = b := by
 cases a; cases b; simp only [ByteArray.mk.injEq]; exact Array.ext' h
theorem ba_append (a b : ByteArray) : (a ++ b).data.toList = a.data.toList ++ b.data.toList := by simp
theorem decS_data (n : Nat) : (zx1 n).data.toList = Lib.decDigits n := by simp [zx1]
theorem decD_small {u : Nat} (h : u < 10) : Lib.decDigits u = [UInt8.ofNat (48 + u)] := by rw [Lib.decDigits, dif_pos h]
theorem nb_mono {x y : Nat} (h : x ≤ y) : nb x ≤ nb y := (nb_le x _).2 (Nat.lt_of_le_of_lt h (nb_lt y))
end Go.Proofs.YtgkdealidnidiaaDoor.Na
namespace Go.Proofs.YtgkdealidnidiaaDoor.Na
open Go.RowKit Go.Proofs.YtgkdealidnidiaaDoorW.PrintWords Go.Proofs.YtgkdealidnidiaaDoorW.PrintLast Go.Proofs.YtgkdealidnidiaaDoorW.PrintMore
attribute [local go_sem] zx0 zd1
def bits_LeadingZeros64.f (k : Nat) (a0 : Int) : Option (Int) := (bits_Len64.f k a0).bind fun t128 => (some (wrap64 (64 - t128)))
theorem bits_LeadingZeros64.calls (k : Nat) (a0 : Int) (r : Int) (w : World) (h : bits_LeadingZeros64.f k a0 = some r) :
  Calls Tryd.prog 106 #[.int .u64 a0] w fun e w' => e = .returned (.int .i64 r) ∧ D0 w w' := by
 have H : ((bits_Len64.f k a0).bind fun t128 => (some (wrap64 (64 - t128)))) = some r := h
 clear h
 replace H := Option.bind_eq_some_iff.mp H
 obtain ⟨t128, A20, H⟩ := H
 replace H : (some (wrap64 (64 - t128))) = some r := H
 have A2 := Q0.mk A20
 clear A20
 obtain rfl := Option.some.inj H
 go_enter Tryd.func106, Tryd.ntmps106
 go_wp2_with (first | ((with_reducible refine gC (f := 66) rfl ?_); refine zx (some 4) rfl rfl Tryd.func66 (by kernel_rfl) rfl #[.int .u64 a0] rfl (by (try simp only [List.map_toArray, List.map_cons, List.map_nil]); first | done | rfl | (simp only [List.length_drop, List.length_take]; rfl)) ?_; (with_reducible refine (bits_Len64.calls k a0 t128 _ A2.out).mono ?_); rintro e w' ⟨rfl, ⟨nd, rfl⟩⟩; refine ⟨_, rfl, ?_⟩))
 go_ret
 exact ⟨by first | rfl | (simp; done) | (simp [*]; done), by repeat (first | exact D0.refl _ | apply D0.step)⟩
end Go.Proofs.YtgkdealidnidiaaDoor.Na
