/- Texts of the seat, as far as the row needs them. -/
import Derived.ArgAppend
import Derived.Below
import Derived.BigQuiet
import Derived.Deep.AppendLies
import Derived.Deep.CutBlock
import Derived.Deep.DeepCutAuto
import Derived.Deep.Draws
import Derived.Deep.LoopGhost
import Derived.Deep.OwnRows
import Derived.Deep.QuietTactic
import Derived.Deep.RegionHeld3
import Derived.Ground.Names2Prog
import Derived.KernelRfl
import Derived.Laws.AppendOwn
import Derived.Laws.BitsAllLaws
import Derived.Laws.BitsLemmas
import Derived.Laws.BytesArg
import Derived.Laws.Externs
import Derived.Laws.IdiomCopy
import Derived.Laws.MakeOwn
import Derived.Laws.OwnMore
import Derived.Laws.Rows
import Derived.Laws.Slices
import Derived.Laws.StructEq
import Derived.Lib.AppendStr
import Derived.Lib.BitFns
import Derived.Lib.ConvBytes
import Derived.Lib.ItoaMem
import Derived.Lib.LazyBuf
import Derived.Lib.SliceRun
import Derived.Lib.SmallJoins
import Derived.Lib.Strings
import Derived.Lib.Walk
import Derived.Maps.AppendAt
import Derived.OrdersHeld
import Derived.OwnWalk
import Derived.RowKit
import Derived.RowKit3
import Derived.Shelf.Bits.Mul64
import Derived.Shelf.LaysM
import Derived.Shelf.Slices.Cells
import Derived.Shelf.Slices.CompactI
import Derived.Shelf.Slices.ReverseS
import Derived.Shelf.Small.Bits
import Derived.Shelf.Spec.BitsCarry
import Derived.Shelf.Strconv.Itoa0
import Derived.Shelf.Strconv.Itoa1
import Derived.Shelf.Strconv.Itoa2
import Derived.Shelf.Strings.Builder1
import Derived.Shelf.Strings.Builder2
import Derived.Shelf.Strings.Builder2Cap
import Derived.Shelf.Strings.BuilderCap
import Derived.Shelf.Strings.BuilderF
import Derived.Shelf.Strings.BuilderK
import Derived.Shelf.Strings.OnBuilder
import Derived.Shelf.Strings.Prefix
import Derived.Shelf.Strings.Repeat
import Derived.Tactics
import Derived.Test.YtgkdealidnidiaaDoorProg
import Derived.WalkKit
import Derived.WideLaws
import Derived.Test.YtgkdealidnidiaaDoorQRatReads0
import Derived.Test.YtgkdealidnidiaaDoorQRatReads1
import Derived.Test.YtgkdealidnidiaaDoorQRatReads2
import Derived.Test.YtgkdealidnidiaaDoorQRatReads3
import Derived.Test.YtgkdealidnidiaaDoorQRatReads4
set_option linter.unusedVariables false
set_option linter.unusedSimpArgs false
namespace Go.Proofs.YtgkdealidnidiaaDoor.Na
open Go.RowKit Go.Proofs.YtgkdealidnidiaaDoorW.PrintWords Go.Proofs.YtgkdealidnidiaaDoorW.PrintLast Go.Proofs.YtgkdealidnidiaaDoorW.PrintMore
attribute [local go_sem] max2_int max_two
set_option linter.unusedVariables false
set_option linter.unusedSimpArgs false
def nat_Nat_Shr.l0 : Nat → List Int → List Int → Int → Int → Int → Option (List Int × Int)
 | 0, _, _, _, _, _ => none
 | k + 1, x6, x7, x8, x32, x33 => if x33 < x32 then (if 0 ≤ x33 then (if x33 < (x6.length : Int) then (if 0 ≤ x8 then (if x33 < (x7.length : Int) then ((some (x7.set (x33 : Int).toNat (shr .u64 (rd x6 x33) x8) : List Int)).bind fun y333 => (if x8 > 0 then (if (wrap64 (x33 + 1)) < (x6.length : Int) then (if 0 ≤ (wrap64 (x33 + 1)) then (if 0 ≤ (IntKind.u64.wrap (64 - x8)) then (nat_Nat_Shr.l0 k x6 (y333.set (x33 : Int).toNat (Go.bits .or .u64 (rd y333 x33) (shl .u64 (rd x6 (wrap64 (x33 + 1))) (IntKind.u64.wrap (64 - x8))))) x8 x32 (wrap64 (x33 + 1))) else (none)) else (none)) else (nat_Nat_Shr.l0 k x6 y333 x8 x32 (wrap64 (x33 + 1)))) else (nat_Nat_Shr.l0 k x6 y333 x8 x32 (wrap64 (x33 + 1))))) else (none)) else (none)) else (none)) else (none)) else ((nat_norm.f k x7).bind fun t337 => (some (t337, 0)))
def nat_Nat_Shr.f (k : Nat) (l0_0 : List Int) (a1 : Int) : Option (List Int × Int) := if a1 < 0 then (some (([] : List Int), 5)) else (if (wrap64 (Int.tdiv a1 64)) ≥ (l0_0.length : Int) then (some (([] : List Int), 0)) else (if 0 ≤ (wrap64 (Int.tdiv a1 64)) then (if (wrap64 (Int.tdiv a1 64)) ≤ (l0_0.length : Int) then (if 0 ≤ ((l0_0.drop ((wrap64 (Int.tdiv a1 64)) : Int).toNat).length : Int) then (if (((l0_0.drop ((wrap64 (Int.tdiv a1 64)) : Int).toNat).length : Int) : Int).toNat ≤ 35184372088832 then (nat_Nat_Shr.l0 k (l0_0.drop ((wrap64 (Int.tdiv a1 64)) : Int).toNat) (List.replicate (((l0_0.drop ((wrap64 (Int.tdiv a1 64)) : Int).toNat).length : Int) : Int).toNat 0) (IntKind.u64.wrap (Int.tmod a1 64)) ((l0_0.drop ((wrap64 (Int.tdiv a1 64)) : Int).toNat).length : Int) 0) else (none)) else (none)) else (none)) else (none)))
def nat_Nat_Shr.T13 : Bool × List (List Nat × List Nat) := (true, [([], []), ([], []), ([0, 1], [0, 1]), ([2], [2]), ([], []), ([], []), ([5], [5]), ([4, 6], [4, 6]), ([7], [7]), ([], []), ([9], [9]), ([8, 10], [8, 10]), ([3, 11], [3, 11]), ([0, 1, 0, 1, 2, 3, 4, 5, 6, 7, 8, 9, 10, 11, 12], [0, 1]), ([13, 12, 0, 1, 2, 3, 4, 5, 6, 7, 8, 9, 10, 11, 12], [12, 13])])
def nat_Nat_Shr.B13 : List Nat := [0, 0, 3, 7, 0, 0, 32, 112, 240, 0, 512, 2032, 4095, 8191, 16383]
theorem nat_Nat_Shr.tab13 : rtab .any (opsOf Tryd.f29 13) = nat_Nat_Shr.T13 := by kernel_rfl
theorem nat_Nat_Shr.bits13 : waitsOk nat_Nat_Shr.T13.2 nat_Nat_Shr.B13 = true := by kernel_rfl
set_option maxHeartbeats 8000000 in
set_option maxRecDepth 100000 in
theorem nat_Nat_Shr.calls (k : Nat) (A0_0 : Option Addr) (c0_0 : Nat) (l0_0 : List Int) (a1 : Int) (r1 : List Int) (r2 : Int) (w : World) (hr0_0 : Kd.C (Kd.int .u64) w A0_0 l0_0.length l0_0) (hc0_0 : l0_0.length ≤ c0_0) (h : nat_Nat_Shr.f k l0_0 a1 = some (r1, r2)) :
  Calls Tryd.prog 29 #[.agg #[.slice A0_0 l0_0.length c0_0], .int .i64 a1] w fun e w' => ∃ v0_ : Value, e = .returned (.tuple #[.agg #[v0_], .int .i64 r2]) ∧ Kd.V (Kd.int .u64) 40 w' w.heap.size (fun k_ => (w.heap.size ≤ k_)) v0_ r1 ∧ Below w.heap.size w w' := by
 have hu29 := Tryd.underlying29
 have HR0_0 := Aside0.mk hr0_0
 have HC0_0 := Aside0.mk hc0_0
 clear hr0_0 hc0_0
 have HB := Aside0.mk (Below.refl w.heap.size w)
 have H : (if a1 < 0 then (some (([] : List Int), 5)) else (if (wrap64 (Int.tdiv a1 64)) ≥ (l0_0.length : Int) then (some (([] : List Int), 0)) else (if 0 ≤ (wrap64 (Int.tdiv a1 64)) then (if (wrap64 (Int.tdiv a1 64)) ≤ (l0_0.length : Int) then (if 0 ≤ ((l0_0.drop ((wrap64 (Int.tdiv a1 64)) : Int).toNat).length : Int) then (if (((l0_0.drop ((wrap64 (Int.tdiv a1 64)) : Int).toNat).length : Int) : Int).toNat ≤ 35184372088832 then (nat_Nat_Shr.l0 k (l0_0.drop ((wrap64 (Int.tdiv a1 64)) : Int).toNat) (List.replicate (((l0_0.drop ((wrap64 (Int.tdiv a1 64)) : Int).toNat).length : Int) : Int).toNat 0) (IntKind.u64.wrap (Int.tmod a1 64)) ((l0_0.drop ((wrap64 (Int.tdiv a1 64)) : Int).toNat).length : Int) 0) else (none)) else (none)) else (none)) else (none)))) = some (r1, r2) := h
 clear h
 by_cases c3 : a1 < 0
 ·rw [if_pos c3] at H
  have c3b0 : decide (a1 < 0) = true := decide_eq_true c3
  clear c3
  simp only [Option.some.injEq, Prod.mk.injEq] at H
  obtain ⟨rfl, rfl⟩ := H
  go_enter Tryd.func29, Tryd.ntmps29
  go_wp2_with (first | ((with_reducible refine gate_dst (N := 2) rfl ?_); (try (refine gate_guard (by rfl) ?_; dsimp only)); refine box_event ?hg (N := 2) ?hd (cs := #[.slice A0_0 l0_0.length c0_0]) (t := 29) ?hr ?_; (case hd => rfl); (case hg => rfl); (case hr => first | (go_simp; done) | (go_simp; rfl)); intro gb326 hg w4 hbox hb; have n0_ := Aside0.mk (below_step (by repeat (first | (with_reducible first | exact HB.out | apply below_alloc | apply pw_below_drewN | apply below_drew1) | exact HB.out)) hb); have n1_ := Aside0.mk (hbox); have n2_ := Aside0.mk ((by rw [hg]; exact (below_size (by repeat (first | (with_reducible first | exact HB.out | apply below_alloc | apply pw_below_drewN | apply below_drew1) | exact HB.out))) : w.heap.size ≤ gb326)); have n3_ := Aside0.mk ((by rw [hg]; exact (below_size (by repeat (first | (with_reducible first | exact HB.out | apply below_alloc | apply pw_below_drewN | apply below_drew1) | exact HB.out))) : w.heap.size ≤ gb326)); clear HB; have HB := n0_; have BK326 := n1_; have GW326 := n2_; have GE326 := n3_; clear n0_ n1_ n2_ n3_; clear hb hbox hg) | ((with_reducible refine gate_dst (N := 4) rfl ?_); (try (refine gate_guard (by rfl) ?_; dsimp only)); refine box_event ?hg (N := 4) ?hd (cs := #[.slice none 0 0]) (t := 29) ?hr ?_; (case hd => rfl); (case hg => rfl); (case hr => first | (go_simp; done) | (go_simp; rfl)); intro gb327 hg w5 hbox hb; have n0_ := Aside0.mk (blk_below (g := gb326) (o := .cells #[.slice A0_0 l0_0.length c0_0] 29 (0, 0)) (by (with_reducible repeat (first | refine blk_drewN ?_ _ | refine blk_drew ?_ | refine blk_alloc ?_ _)); exact BK326.out) hb); have n1_ := Aside0.mk (below_step (by repeat (first | (with_reducible first | exact HB.out | apply below_alloc | apply pw_below_drewN | apply below_drew1 | refine below_set ?_ GE326.out) | exact HB.out)) hb); have n2_ := Aside0.mk (hbox); have n3_ := Aside0.mk ((by rw [hg]; exact (below_size (by repeat (first | (with_reducible first | exact HB.out | apply below_alloc | apply pw_below_drewN | apply below_drew1 | refine below_set ?_ GE326.out) | exact HB.out))) : w.heap.size ≤ gb327)); have n4_ := Aside0.mk ((by rw [hg]; exact (below_size (by repeat (first | (with_reducible first | exact HB.out | apply below_alloc | apply pw_below_drewN | apply below_drew1 | refine below_set ?_ GE326.out) | exact HB.out))) : w.heap.size ≤ gb327)); have n5_ := Aside0.mk ((by rw [hg]; exact Nat.ne_of_lt (blk_lt (g := gb326) (o := .cells #[.slice A0_0 l0_0.length c0_0] 29 (0, 0)) (by (with_reducible repeat (first | refine blk_drewN ?_ _ | refine blk_drew ?_ | refine blk_alloc ?_ _)); exact BK326.out)) : gb326 ≠ gb327)); have n6_ := Aside0.mk ((by rw [hg]; exact Nat.ne_of_gt (blk_lt (g := gb326) (o := .cells #[.slice A0_0 l0_0.length c0_0] 29 (0, 0)) (by (with_reducible repeat (first | refine blk_drewN ?_ _ | refine blk_drew ?_ | refine blk_alloc ?_ _)); exact BK326.out)) : gb327 ≠ gb326)); clear BK326; clear HB; have BK326 := n0_; have HB := n1_; have BK327 := n2_; have GW327 := n3_; have GE327 := n4_; have NB326_327 := n5_; have NB327_326 := n6_; clear n0_ n1_ n2_ n3_ n4_ n5_ n6_; clear hb hbox hg; have hnb6 := NB327_326.out; have hnc6 := NB326_327.out; have hcz7_0 : w5.cell? ⟨gb327, 0, none⟩ = some (.slice none 0 0) := (blk_cell BK327.out 0).trans rfl; have hfz7_0 := blk_frozen BK327.out 0))
  refine bodyPost_ret (results_ct rfl _ _ gb327 29 #[.slice none 0 0] (0, 0) _ rfl (by (with_reducible repeat (first | refine blk_drewN ?_ _ | refine blk_drew ?_ | refine blk_alloc ?_ _)); refine blk_put (cs := #[.slice none 0 0]) ?_ 0 _ rfl; (with_reducible repeat (first | refine blk_drewN ?_ _ | refine blk_drew ?_ | refine blk_alloc ?_ _)); exact BK327.out) Tryd.underlying29 rfl (by kernel_rfl)) rfl ?_
  exact ⟨_, by first | rfl | (simp [errW_none, errW_some] <;> rfl) | (simp [*, errW_none, errW_some] <;> rfl), Kd.R_V (base := w.heap.size) (by first | exact Kd.R_nil _ _ _ _ _ | exact Kd.N_nil _ _ _ _ _ | exact Kd.V_nil _ _ _ _ _ | exact Kd.Q_nil _ _ _ _ _ | exact Kd.S_nil _ _ _ _ _), by repeat (first | (with_reducible first | exact HB.out | apply below_alloc | apply pw_below_drewN | apply below_drew1 | refine below_set ?_ GE326.out | refine below_set ?_ GE327.out) | exact HB.out)⟩
 ·rw [if_neg c3] at H
  have c3b0 : decide (a1 < 0) = false := decide_eq_false c3
  clear c3
  by_cases c8 : (wrap64 (Int.tdiv a1 64)) ≥ (l0_0.length : Int)
  ·rw [if_pos c8] at H
   have c8b0 : decide ((l0_0.length : Int) ≤ (wrap64 (Int.tdiv a1 64))) = true := decide_eq_true c8
   clear c8
   simp only [Option.some.injEq, Prod.mk.injEq] at H
   obtain ⟨rfl, rfl⟩ := H
   go_enter Tryd.func29, Tryd.ntmps29
   go_wp2_with (first | ((with_reducible refine gate_dst (N := 2) rfl ?_); (try (refine gate_guard (by rfl) ?_; dsimp only)); refine box_event ?hg (N := 2) ?hd (cs := #[.slice A0_0 l0_0.length c0_0]) (t := 29) ?hr ?_; (case hd => rfl); (case hg => rfl); (case hr => first | (go_simp; done) | (go_simp; rfl)); intro gb326 hg w9 hbox hb; have n0_ := Aside0.mk (below_step (by repeat (first | (with_reducible first | exact HB.out | apply below_alloc | apply pw_below_drewN | apply below_drew1) | exact HB.out)) hb); have n1_ := Aside0.mk (hbox); have n2_ := Aside0.mk ((by rw [hg]; exact (below_size (by repeat (first | (with_reducible first | exact HB.out | apply below_alloc | apply pw_below_drewN | apply below_drew1) | exact HB.out))) : w.heap.size ≤ gb326)); have n3_ := Aside0.mk ((by rw [hg]; exact (below_size (by repeat (first | (with_reducible first | exact HB.out | apply below_alloc | apply pw_below_drewN | apply below_drew1) | exact HB.out))) : w.heap.size ≤ gb326)); clear HB; have HB := n0_; have BK326 := n1_; have GW326 := n2_; have GE326 := n3_; clear n0_ n1_ n2_ n3_; clear hb hbox hg) | ((with_reducible refine gate_dst (N := 4) rfl ?_); (try (refine gate_guard (by rfl) ?_; dsimp only)); refine box_event ?hg (N := 4) ?hd (cs := #[.slice none 0 0]) (t := 29) ?hr ?_; (case hd => rfl); (case hg => rfl); (case hr => first | (go_simp; done) | (go_simp; rfl)); intro gb327 hg w10 hbox hb; have n0_ := Aside0.mk (blk_below (g := gb326) (o := .cells #[.slice A0_0 l0_0.length c0_0] 29 (0, 0)) (by (with_reducible repeat (first | refine blk_drewN ?_ _ | refine blk_drew ?_ | refine blk_alloc ?_ _)); exact BK326.out) hb); have n1_ := Aside0.mk (below_step (by repeat (first | (with_reducible first | exact HB.out | apply below_alloc | apply pw_below_drewN | apply below_drew1 | refine below_set ?_ GE326.out) | exact HB.out)) hb); have n2_ := Aside0.mk (hbox); have n3_ := Aside0.mk ((by rw [hg]; exact (below_size (by repeat (first | (with_reducible first | exact HB.out | apply below_alloc | apply pw_below_drewN | apply below_drew1 | refine below_set ?_ GE326.out) | exact HB.out))) : w.heap.size ≤ gb327)); have n4_ := Aside0.mk ((by rw [hg]; exact (below_size (by repeat (first | (with_reducible first | exact HB.out | apply below_alloc | apply pw_below_drewN | apply below_drew1 | refine below_set ?_ GE326.out) | exact HB.out))) : w.heap.size ≤ gb327)); have n5_ := Aside0.mk ((by rw [hg]; exact Nat.ne_of_lt (blk_lt (g := gb326) (o := .cells #[.slice A0_0 l0_0.length c0_0] 29 (0, 0)) (by (with_reducible repeat (first | refine blk_drewN ?_ _ | refine blk_drew ?_ | refine blk_alloc ?_ _)); exact BK326.out)) : gb326 ≠ gb327)); have n6_ := Aside0.mk ((by rw [hg]; exact Nat.ne_of_gt (blk_lt (g := gb326) (o := .cells #[.slice A0_0 l0_0.length c0_0] 29 (0, 0)) (by (with_reducible repeat (first | refine blk_drewN ?_ _ | refine blk_drew ?_ | refine blk_alloc ?_ _)); exact BK326.out)) : gb327 ≠ gb326)); clear BK326; clear HB; have BK326 := n0_; have HB := n1_; have BK327 := n2_; have GW327 := n3_; have GE327 := n4_; have NB326_327 := n5_; have NB327_326 := n6_; clear n0_ n1_ n2_ n3_ n4_ n5_ n6_; clear hb hbox hg; have hnb11 := NB326_327.out; have hnc11 := NB327_326.out; have hcz12_0 : w10.cell? ⟨gb326, 0, none⟩ = some (.slice A0_0 l0_0.length c0_0) := (blk_cell BK326.out 0).trans rfl; have hfz12_0 := blk_frozen BK326.out 0; have hcz13_0 : w10.cell? ⟨gb327, 0, none⟩ = some (.slice none 0 0) := (blk_cell BK327.out 0).trans rfl; have hfz13_0 := blk_frozen BK327.out 0))
   refine bodyPost_ret (results_ct rfl _ _ gb327 29 #[.slice none 0 0] (0, 0) _ rfl (by (with_reducible repeat (first | refine blk_drewN ?_ _ | refine blk_drew ?_ | refine blk_alloc ?_ _)); refine blk_put (cs := #[.slice none 0 0]) ?_ 0 _ rfl; (with_reducible repeat (first | refine blk_drewN ?_ _ | refine blk_drew ?_ | refine blk_alloc ?_ _)); exact BK327.out) Tryd.underlying29 rfl (by kernel_rfl)) rfl ?_
   exact ⟨_, by first | rfl | (simp [errW_none, errW_some] <;> rfl) | (simp [*, errW_none, errW_some] <;> rfl), Kd.R_V (base := w.heap.size) (by first | exact Kd.R_nil _ _ _ _ _ | exact Kd.N_nil _ _ _ _ _ | exact Kd.V_nil _ _ _ _ _ | exact Kd.Q_nil _ _ _ _ _ | exact Kd.S_nil _ _ _ _ _), by repeat (first | (with_reducible first | exact HB.out | apply below_alloc | apply pw_below_drewN | apply below_drew1 | refine below_set ?_ GE326.out | refine below_set ?_ GE327.out) | exact HB.out)⟩
  ·rw [if_neg c8] at H
   have c8b0 : decide ((l0_0.length : Int) ≤ (wrap64 (Int.tdiv a1 64))) = false := decide_eq_false c8
   clear c8
   obtain ⟨ji14, hji14⟩ : ∃ j_ : Int, (wrap64 (Int.tdiv a1 64)) = j_ := ⟨_, rfl⟩
   replace H : (if 0 ≤ (ji14) then (if (ji14) ≤ (l0_0.length : Int) then (if 0 ≤ ((l0_0.drop ((ji14) : Int).toNat).length : Int) then (if (((l0_0.drop ((ji14) : Int).toNat).length : Int) : Int).toNat ≤ 35184372088832 then (nat_Nat_Shr.l0 k (l0_0.drop ((ji14) : Int).toNat) (List.replicate (((l0_0.drop ((ji14) : Int).toNat).length : Int) : Int).toNat 0) (IntKind.u64.wrap (Int.tmod a1 64)) ((l0_0.drop ((ji14) : Int).toNat).length : Int) 0) else (none)) else (none)) else (none)) else (none)) = some (r1, r2) := by first | (rw [hji14] at H; exact H) | (simp only [hji14] at H ⊢; exact H)
   (try rw [hji14] at c8b0)
   have hji14w : (IntKind.i64.wrap (Int.tdiv a1 64)) = ji14 := (i64_w _).trans hji14
   by_cases c15 : 0 ≤ (ji14)
   ·rw [if_pos c15] at H
    have c15b0 := eq_true c15
    have c15b1 : decide (0 ≤ (ji14)) = true := decide_eq_true c15
    clear c15
    by_cases c16 : (ji14) ≤ (l0_0.length : Int)
    ·rw [if_pos c16] at H
     have c16b0 := eq_true c16
     have c16b1 : decide ((ji14) ≤ (l0_0.length : Int)) = true := decide_eq_true c16
     clear c16
     obtain ⟨ji29, hji29⟩ : ∃ j_ : Int, (IntKind.u64.wrap (Int.tmod a1 64)) = j_ := ⟨_, rfl⟩
     simp only [hji29] at H
     obtain ⟨D_, hD_⟩ : ∃ D : List Int, l0_0.drop ((ji14) : Int).toNat = D := ⟨_, rfl⟩
     simp only [hD_] at H
     have hDl_ : l0_0.length - ji14.toNat = D_.length := by rw [← hD_, List.length_drop]
     by_cases c17 : 0 ≤ (D_.length : Int)
     ·rw [if_pos c17] at H
      have c17b0 := eq_true c17
      have c17b1 : decide (0 ≤ (D_.length : Int)) = true := decide_eq_true c17
      clear c17
      by_cases c18 : ((D_.length : Int) : Int).toNat ≤ 35184372088832
      ·rw [if_pos c18] at H
       have c18b0 := eq_true c18
       have c18b1 : decide (((D_.length : Int) : Int).toNat ≤ 35184372088832) = true := decide_eq_true c18
       clear c18
       obtain ⟨y329, hy329⟩ : ∃ y_ : List Int, y_ = (List.replicate ((D_.length : Int) : Int).toNat 0) := ⟨_, rfl⟩
       replace H : (nat_Nat_Shr.l0 k D_ y329 ji29 (D_.length : Int) 0) = some (r1, r2) := by first | (rw [hy329]; with_reducible exact H) | (have H2_ := (Option.bind_some _ _).symm.trans H; rw [hy329]; with_reducible exact H2_) | (have H2_ := (Option.bind_some _ _).symm.trans H; with_reducible exact H2_) | with_reducible exact H | (rw [hy329]; exact H) | exact H
       have Ny329 := Aside0.mk hy329
       clear hy329
       have H' := Aside0.mk H
       clear H
       go_enter Tryd.func29, Tryd.ntmps29
       go_wp2_with (first | ((with_reducible refine gate_dst (N := 2) rfl ?_); (try (refine gate_guard (by rfl) ?_; dsimp only)); refine box_event ?hg (N := 2) ?hd (cs := #[.slice A0_0 l0_0.length c0_0]) (t := 29) ?hr ?_; (case hd => rfl); (case hg => rfl); (case hr => first | (go_simp; done) | (go_simp; rfl)); intro gb326 hg w19 hbox hb; have n0_ := Aside0.mk (below_step (by repeat (first | (with_reducible first | exact HB.out | apply below_alloc | apply pw_below_drewN | apply below_drew1) | exact HB.out)) hb); have n1_ := Aside0.mk (hbox); have n2_ := Aside0.mk ((by rw [hg]; exact (below_size (by repeat (first | (with_reducible first | exact HB.out | apply below_alloc | apply pw_below_drewN | apply below_drew1) | exact HB.out))) : w.heap.size ≤ gb326)); have n3_ := Aside0.mk ((by rw [hg]; exact (below_size (by repeat (first | (with_reducible first | exact HB.out | apply below_alloc | apply pw_below_drewN | apply below_drew1) | exact HB.out))) : w.heap.size ≤ gb326)); clear HB; have HB := n0_; have BK326 := n1_; have GW326 := n2_; have GE326 := n3_; clear n0_ n1_ n2_ n3_; clear hb hbox hg) | ((with_reducible refine gate_dst (N := 4) rfl ?_); (try (refine gate_guard (by rfl) ?_; dsimp only)); refine box_event ?hg (N := 4) ?hd (cs := #[.slice none 0 0]) (t := 29) ?hr ?_; (case hd => rfl); (case hg => rfl); (case hr => first | (go_simp; done) | (go_simp; rfl)); intro gb327 hg w20 hbox hb; have n0_ := Aside0.mk (blk_below (g := gb326) (o := .cells #[.slice A0_0 l0_0.length c0_0] 29 (0, 0)) (by (with_reducible repeat (first | refine blk_drewN ?_ _ | refine blk_drew ?_ | refine blk_alloc ?_ _)); exact BK326.out) hb); have n1_ := Aside0.mk (below_step (by repeat (first | (with_reducible first | exact HB.out | apply below_alloc | apply pw_below_drewN | apply below_drew1 | refine below_set ?_ GE326.out) | exact HB.out)) hb); have n2_ := Aside0.mk (hbox); have n3_ := Aside0.mk ((by rw [hg]; exact (below_size (by repeat (first | (with_reducible first | exact HB.out | apply below_alloc | apply pw_below_drewN | apply below_drew1 | refine below_set ?_ GE326.out) | exact HB.out))) : w.heap.size ≤ gb327)); have n4_ := Aside0.mk ((by rw [hg]; exact (below_size (by repeat (first | (with_reducible first | exact HB.out | apply below_alloc | apply pw_below_drewN | apply below_drew1 | refine below_set ?_ GE326.out) | exact HB.out))) : w.heap.size ≤ gb327)); have n5_ := Aside0.mk ((by rw [hg]; exact Nat.ne_of_lt (blk_lt (g := gb326) (o := .cells #[.slice A0_0 l0_0.length c0_0] 29 (0, 0)) (by (with_reducible repeat (first | refine blk_drewN ?_ _ | refine blk_drew ?_ | refine blk_alloc ?_ _)); exact BK326.out)) : gb326 ≠ gb327)); have n6_ := Aside0.mk ((by rw [hg]; exact Nat.ne_of_gt (blk_lt (g := gb326) (o := .cells #[.slice A0_0 l0_0.length c0_0] 29 (0, 0)) (by (with_reducible repeat (first | refine blk_drewN ?_ _ | refine blk_drew ?_ | refine blk_alloc ?_ _)); exact BK326.out)) : gb327 ≠ gb326)); clear BK326; clear HB; have BK326 := n0_; have HB := n1_; have BK327 := n2_; have GW327 := n3_; have GE327 := n4_; have NB326_327 := n5_; have NB327_326 := n6_; clear n0_ n1_ n2_ n3_ n4_ n5_ n6_; clear hb hbox hg; have hnb21 := NB326_327.out; have hnc21 := NB327_326.out; have hcz22_0 : w20.cell? ⟨gb326, 0, none⟩ = some (.slice A0_0 l0_0.length c0_0) := (blk_cell BK326.out 0).trans rfl; have hfz22_0 := blk_frozen BK326.out 0; obtain ⟨i023, hi023, _, hsz23, _⟩ := info_parts info40; obtain ⟨A23, hcut23, hA23, hC23⟩ := print_drop_of (P := Tryd.prog) (Value.int .u64) 0 22 40 .i64 Tryd.underlying22 hi023 hsz23 A0_0 c0_0 l0_0 (ji14) (of_decide_eq_true (by first | (with_reducible assumption) | assumption)) (of_decide_eq_true (by first | (with_reducible assumption) | assumption)) HC0_0.out; have HR328 := Aside0.mk (Kd.C_of_reads (h1 := fun _ => rfl) (hA23 _ (Kd.reads_of_C HR0_0.out))); have HC328 := Aside0.mk hC23; (try rw [hD_] at HR328); (try rw [hD_] at HC328); (try rw [hD_] at hcut23); clear hA23 hC23 hi023 hsz23) | ((with_reducible refine gate_dst (N := 27) rfl ?_); (try (refine gate_guard (by rfl) ?_; dsimp only)); refine Kd.R_make (Kd.int .u64) _ 40 rfl (N := 27) rfl 22 _ _ rfl (D_.length : Int) rfl rfl Tryd.underlying22 (.int .u64 0) 8 info40 rfl (by decide) (by omega) 0 (ok := fun _ => True) (okp := fun _ => True) rfl (fun _ hk => hk) trivial (of_decide_eq_true (by first | (with_reducible assumption) | assumption)) (Nat.le_trans (Nat.mul_le_mul_right _ (of_decide_eq_true (by first | (with_reducible assumption) | assumption) : (D_.length : Int).toNat ≤ 35184372088832)) (by omega)) (Below.refl _ _) (Nat.le_refl _) ?_; intro v330 w24 ho25 hb hg_ hnew_; clear hg_ hnew_; (first | rw [← Ny329.out] at ho25 | (simp only [Int.reduceToNat] at ho25; rw [← Ny329.out] at ho25)); have n0_ := Aside0.mk (Kd.R_lower (Kd.R_newM (M := fun k_ => (w.heap.size ≤ k_)) ho25 (below_size (by repeat (first | (with_reducible first | exact HB.out | apply below_alloc | apply pw_below_drewN | apply below_drew1 | refine below_set ?_ GE326.out | refine below_set ?_ GE327.out) | exact HB.out))) (fun k_ h_ => h_)) (below_size (by repeat (first | (with_reducible first | exact HB.out | apply below_alloc | apply pw_below_drewN | apply below_drew1 | refine below_set ?_ GE326.out | refine below_set ?_ GE327.out) | exact HB.out)))); have n1_ := Aside0.mk (blk_below (g := gb326) (o := .cells #[.slice A0_0 l0_0.length c0_0] 29 (0, 0)) (by (with_reducible repeat (first | refine blk_drewN ?_ _ | refine blk_drew ?_ | refine blk_alloc ?_ _)); exact BK326.out) hb); have n2_ := Aside0.mk (blk_below (g := gb327) (o := .cells #[.slice none 0 0] 29 (0, 0)) (by (with_reducible repeat (first | refine blk_drewN ?_ _ | refine blk_drew ?_ | refine blk_alloc ?_ _)); exact BK327.out) hb); have n3_ := Aside0.mk (below_step (by repeat (first | (with_reducible first | exact HB.out | apply below_alloc | apply pw_below_drewN | apply below_drew1 | refine below_set ?_ GE326.out | refine below_set ?_ GE327.out) | exact HB.out)) hb); clear BK326; clear BK327; clear HB; have HO331 := n0_; have BK326 := n1_; have BK327 := n2_; have HB := n3_; clear n0_ n1_ n2_ n3_; clear hb ho25))
       go_loopg [33] k (fun kq v33 w' => ∃ (x7_1 : List Int) (x33_1 : Int), v33 = .int .i64 x33_1 ∧ Aside0 (nat_Nat_Shr.l0 kq D_ x7_1 ji29 (D_.length : Int) x33_1 = some (r1, r2)) ∧ Aside0 (kq ≤ k) ∧ Aside0 (Kd.R (Kd.int .u64) 40 w' w.heap.size (fun k_ => (w.heap.size ≤ k_)) v330 x7_1) ∧ Aside0 (w'.heap[gb326]? = some (.cells #[(.slice A0_0 l0_0.length c0_0)] 29 (0, 0))) ∧ Aside0 (w'.heap[gb327]? = some (.cells #[(.slice none 0 0)] 29 (0, 0))) ∧ Aside0 (Below w.heap.size w w'))
       case atStart => exact ⟨(y329), (0), (by first | rfl | (simp; done) | (simp [*]; done)), H', ⟨Nat.le_refl _⟩, ⟨by (with_reducible repeat (first | apply Kd.R_alloc | apply Kd.R_drewN | apply Kd.R_drew)); exact Kd.R_mono HO331.out (fun _ hk => hk.1)⟩, ⟨by (with_reducible repeat (first | refine blk_drewN ?_ _ | refine blk_drew ?_ | refine blk_alloc ?_ _)); exact BK326.out⟩, ⟨by (with_reducible repeat (first | refine blk_drewN ?_ _ | refine blk_drew ?_ | refine blk_alloc ?_ _)); exact BK327.out⟩, ⟨by repeat (first | (with_reducible first | exact HB.out | apply below_alloc | apply pw_below_drewN | apply below_drew1 | refine below_set ?_ GE326.out | refine below_set ?_ GE327.out) | exact HB.out)⟩⟩
       case round =>
        clear H'
        try clear c1
        try clear c2
        try clear p2
        try clear c3
        try clear c3b0
        try clear c6
        try clear p6
        try clear c8
        try clear c8b0
        try clear c11
        try clear c15
        try clear c15b0
        try clear c15b1
        try clear c16
        try clear c16b0
        try clear c16b1
        try clear c17
        try clear c17b0
        try clear c17b1
        try clear c18
        try clear c18b0
        try clear c18b1
        try clear c21
        try clear hcz12_0
        try clear hcz13_0
        try clear hcz22_0
        try clear hcz7_0
        try clear hfz12_0
        try clear hfz13_0
        try clear hfz22_0
        try clear hfz7_0
        obtain ⟨x7_1, x33_1, rfl, HA, HK1, HO_7, BK326, BK327, HB⟩ := hrel
        cases gk with
        | zero => exact absurd HA.out (by simp [nat_Nat_Shr.l0])
        | succ k1 =>
         have H := HA.out
         clear HA
         simp only [nat_Nat_Shr.l0] at H
         by_cases c26 : x33_1 < (D_.length : Int)
         ·rw [if_pos c26] at H
          have c26b0 : decide (x33_1 < (D_.length : Int)) = true := decide_eq_true c26
          clear c26
          by_cases c27 : 0 ≤ x33_1
          ·rw [if_pos c27] at H
           have c27b0 : decide (0 ≤ x33_1) = true := decide_eq_true c27
           clear c27
           by_cases c28 : x33_1 < (D_.length : Int)
           ·rw [if_pos c28] at H
            have c28b0 : decide (x33_1 < (D_.length : Int)) = true := decide_eq_true c28
            clear c28
            by_cases c30 : 0 ≤ (ji29)
            ·rw [if_pos c30] at H
             have c30b0 := eq_true c30
             have c30b1 : decide (0 ≤ (ji29)) = true := decide_eq_true c30
             clear c30
             obtain ⟨ji31, hji31⟩ : ∃ j_ : Int, (shr .u64 (rd D_ x33_1) (ji29)) = j_ := ⟨_, rfl⟩
             replace H : (if x33_1 < (x7_1.length : Int) then ((some (x7_1.set (x33_1 : Int).toNat (ji31) : List Int)).bind fun y333 => (if (ji29) > 0 then (if (wrap64 (x33_1 + 1)) < (D_.length : Int) then (if 0 ≤ (wrap64 (x33_1 + 1)) then (if 0 ≤ (IntKind.u64.wrap (64 - (ji29))) then (nat_Nat_Shr.l0 k1 D_ (y333.set (x33_1 : Int).toNat (Go.bits .or .u64 (rd y333 x33_1) (shl .u64 (rd D_ (wrap64 (x33_1 + 1))) (IntKind.u64.wrap (64 - (ji29)))))) (ji29) (D_.length : Int) (wrap64 (x33_1 + 1))) else (none)) else (none)) else (nat_Nat_Shr.l0 k1 D_ y333 (ji29) (D_.length : Int) (wrap64 (x33_1 + 1)))) else (nat_Nat_Shr.l0 k1 D_ y333 (ji29) (D_.length : Int) (wrap64 (x33_1 + 1))))) else (none)) = some (r1, r2) := by first | (rw [hji31] at H; exact H) | (simp only [hji31] at H ⊢; exact H)
             have hji31_ : ((rd D_ x33_1) / 2 ^ min (ji29).toNat 64) = ji31 := hji31
             have hji31z : (ji29) ≤ 64 → ((rd D_ x33_1) / 2 ^ (ji29).toNat) = ji31 := shr_small hji31
             by_cases c32 : x33_1 < (x7_1.length : Int)
             ·rw [if_pos c32] at H
              have c32b0 : decide (x33_1 < (x7_1.length : Int)) = true := decide_eq_true c32
              clear c32
              obtain ⟨y333, hy333⟩ : ∃ y_ : List Int, y_ = (x7_1.set (x33_1 : Int).toNat (ji31)) := ⟨_, rfl⟩
              replace H : (if (ji29) > 0 then (if (wrap64 (x33_1 + 1)) < (D_.length : Int) then (if 0 ≤ (wrap64 (x33_1 + 1)) then (if 0 ≤ (IntKind.u64.wrap (64 - (ji29))) then (nat_Nat_Shr.l0 k1 D_ (y333.set (x33_1 : Int).toNat (Go.bits .or .u64 (rd y333 x33_1) (shl .u64 (rd D_ (wrap64 (x33_1 + 1))) (IntKind.u64.wrap (64 - (ji29)))))) (ji29) (D_.length : Int) (wrap64 (x33_1 + 1))) else (none)) else (none)) else (nat_Nat_Shr.l0 k1 D_ y333 (ji29) (D_.length : Int) (wrap64 (x33_1 + 1)))) else (nat_Nat_Shr.l0 k1 D_ y333 (ji29) (D_.length : Int) (wrap64 (x33_1 + 1)))) = some (r1, r2) := by first | (rw [hy333]; with_reducible exact H) | (have H2_ := (Option.bind_some _ _).symm.trans H; rw [hy333]; with_reducible exact H2_) | (have H2_ := (Option.bind_some _ _).symm.trans H; with_reducible exact H2_) | with_reducible exact H | (rw [hy333]; exact H) | exact H
              have Ny333 := Aside0.mk hy333
              clear hy333
              by_cases c34 : (ji29) > 0
              ·rw [if_pos c34] at H
               have c34b0 : decide (0 < (ji29)) = true := decide_eq_true c34
               clear c34
               by_cases c35 : (wrap64 (x33_1 + 1)) < (D_.length : Int)
               ·rw [if_pos c35] at H
                have c35b0 : decide ((wrap64 (x33_1 + 1)) < (D_.length : Int)) = true := decide_eq_true c35
                clear c35
                obtain ⟨ji36, hji36⟩ : ∃ j_ : Int, (wrap64 (x33_1 + 1)) = j_ := ⟨_, rfl⟩
                replace H : (if 0 ≤ (ji36) then (if 0 ≤ (IntKind.u64.wrap (64 - (ji29))) then (nat_Nat_Shr.l0 k1 D_ (y333.set (x33_1 : Int).toNat (Go.bits .or .u64 (rd y333 x33_1) (shl .u64 (rd D_ (ji36)) (IntKind.u64.wrap (64 - (ji29)))))) (ji29) (D_.length : Int) ji36) else (none)) else (none)) = some (r1, r2) := by first | (rw [hji36] at H; exact H) | (simp only [hji36] at H ⊢; exact H)
                (try rw [hji36] at c35b0)
                have hji36w : (IntKind.i64.wrap (x33_1 + 1)) = ji36 := (i64_w _).trans hji36
                by_cases c37 : 0 ≤ (ji36)
                ·rw [if_pos c37] at H
                 have c37b0 : decide (0 ≤ (ji36)) = true := decide_eq_true c37
                 clear c37
                 obtain ⟨ji38, hji38⟩ : ∃ j_ : Int, (IntKind.u64.wrap (64 - (ji29))) = j_ := ⟨_, rfl⟩
                 replace H : (if 0 ≤ (ji38) then (nat_Nat_Shr.l0 k1 D_ (y333.set (x33_1 : Int).toNat (Go.bits .or .u64 (rd y333 x33_1) (shl .u64 (rd D_ (ji36)) (ji38)))) (ji29) (D_.length : Int) ji36) else (none)) = some (r1, r2) := by first | (rw [hji38] at H; exact H) | (simp only [hji38] at H ⊢; exact H)
                 by_cases c39 : 0 ≤ (ji38)
                 ·rw [if_pos c39] at H
                  have c39b0 := eq_true c39
                  have c39b1 : decide (0 ≤ (ji38)) = true := decide_eq_true c39
                  clear c39
                  obtain ⟨ji40, hji40⟩ : ∃ j_ : Int, (shl .u64 (rd D_ (ji36)) (ji38)) = j_ := ⟨_, rfl⟩
                  replace H : (nat_Nat_Shr.l0 k1 D_ (y333.set (x33_1 : Int).toNat (Go.bits .or .u64 (rd y333 x33_1) (ji40))) (ji29) (D_.length : Int) ji36) = some (r1, r2) := by first | (rw [hji40] at H; exact H) | (simp only [hji40] at H ⊢; exact H)
                  have hji40_ : (IntKind.u64.wrap ((rd D_ (ji36)) * 2 ^ min (ji38).toNat 64)) = ji40 := hji40
                  have hji40z : (ji38) ≤ 64 → (IntKind.u64.wrap ((rd D_ (ji36)) * 2 ^ (ji38).toNat)) = ji40 := shl_small hji40
                  obtain ⟨y336, hy336⟩ : ∃ y_ : List Int, y_ = (y333.set (x33_1 : Int).toNat (Go.bits .or .u64 (rd y333 x33_1) (ji40))) := ⟨_, rfl⟩
                  replace H : (nat_Nat_Shr.l0 k1 D_ y336 (ji29) (D_.length : Int) ji36) = some (r1, r2) := by first | (rw [hy336]; with_reducible exact H) | (have H2_ := (Option.bind_some _ _).symm.trans H; rw [hy336]; with_reducible exact H2_) | (have H2_ := (Option.bind_some _ _).symm.trans H; with_reducible exact H2_) | with_reducible exact H | (rw [hy336]; exact H) | exact H
                  have Ny336 := Aside0.mk hy336
                  clear hy336
                  have H' := Aside0.mk H
                  clear H
                  have p332 : 0 ≤ (x33_1 : Int) := of_decide_eq_true (by first | (with_reducible assumption) | assumption)
                  have q332 : x33_1 < (D_.length : Int) := of_decide_eq_true (by first | (with_reducible assumption) | assumption)
                  obtain ⟨ad332, e332, hx332_0⟩ := Kd.at_int HR328.out x33_1 p332 q332
                  cases e332
                  replace hx332_0 := (HB.out.cell (World.block_lt_of_cell? w _ hx332_0)).trans hx332_0
                  replace p332 := eq_true p332
                  replace q332 := eq_true q332
                  have p33 : 0 ≤ (x33_1 : Int) := of_decide_eq_true (by first | (with_reducible assumption) | assumption)
                  have q33 : (x33_1 : Int) < ((x7_1.length : Int) : Int) := of_decide_eq_true (by first | (with_reducible assumption) | assumption)
                  obtain ⟨go33, co33, eo33, gb33, gl33, cl33, HG33⟩ := Kd.R_form HO_7.out (by omega)
                  (first | cases eo33 | (injection eo33 with ea_ en_ ec_; (first | subst ea_ | (injection ea_ with ea_; subst ea_)); subst ec_; clear en_))
                  have GB33 := Aside0.mk gb33
                  have GG33 := Aside0.mk HG33
                  clear gb33 gl33 HG33
                  obtain ⟨hx33_0, hf33_0⟩ := Kd.R_celln 0 HO_7.out (x33_1 : Int) p33 q33
                  replace p33 := eq_true p33
                  replace q33 := eq_true q33
                  have HP42 := Kd.R_putg HO_7.out (x33_1 : Int) ji31
                  try go_wp2_with (first | ((with_reducible refine gate_store (t := 40) (p := 44) rfl ?_); refine store_event (t := 40) (p := 44) (v := ?vo_w43) (w1 := (wr.setCell ⟨go33, (x33_1 : Int).toNat, none⟩ (.int .u64 ji31))) ?hg ?ho ?hn ?hr ?_; (case ho => rfl); (case hg => rfl); (case hn => rfl); (case hr => first | (go_simp; done) | (go_simp; rfl)); intro w43 hw; have hg : wr.grownBy w43 (some go33) := (by rw [hw]; exact HP42.2); have hp_ : Kd.R (Kd.int .u64) 40 w43 w.heap.size (fun k_ => (w.heap.size ≤ k_)) (.slice (some ⟨go33, 0, none⟩) x7_1.length co33) y333 := (by rw [hw, Ny333.out]; exact HP42.1); clear HP42; have n0_ := Aside0.mk (hp_); have n1_ := Aside0.mk (blk_grown (g := gb326) (o := .cells #[.slice A0_0 l0_0.length c0_0] 29 (0, 0)) (by (with_reducible repeat (first | refine blk_drewN ?_ _ | refine blk_drew ?_ | refine blk_alloc ?_ _)); exact BK326.out) hg (Kd.R_ne HO_7.out BK326.out (by decide))); have n2_ := Aside0.mk (blk_grown (g := gb327) (o := .cells #[.slice none 0 0] 29 (0, 0)) (by (with_reducible repeat (first | refine blk_drewN ?_ _ | refine blk_drew ?_ | refine blk_alloc ?_ _)); exact BK327.out) hg (Kd.R_ne HO_7.out BK327.out (by decide))); have n3_ := Aside0.mk ((by rw [hw]; exact below_set (HB.out) GB33.out : Below w.heap.size w w43)); clear HO_7; clear BK326; clear BK327; clear HB; have HO_7 := n0_; have BK326 := n1_; have BK327 := n2_; have HB := n3_; clear n0_ n1_ n2_ n3_; clear hg hw hp_))
                  have n0_ := Aside0.mk (Kd.R_drew HO_7.out)
                  have n1_ := Aside0.mk (blk_drew BK326.out)
                  have n2_ := Aside0.mk (blk_drew BK327.out)
                  have n3_ := Aside0.mk (below_drew1 HB.out)
                  clear HO_7
                  clear BK326
                  clear BK327
                  clear HB
                  have HO_7 := n0_
                  have BK326 := n1_
                  have BK327 := n2_
                  have HB := n3_
                  clear n0_ n1_ n2_ n3_
                  have p334 : 0 ≤ (x33_1 : Int) := of_decide_eq_true (by first | (with_reducible assumption) | assumption)
                  have q334 : x33_1 < (y333.length : Int) := (by have h_ : (x33_1 : Int) < ((x7_1.length : Int) : Int) := of_decide_eq_true (by first | (with_reducible assumption) | assumption); first | (have e_ := (Kd.R_reads' HO_7.out).1; omega) | simpa only [Ny333.out, List.length_set] using h_)
                  have ql334 : ((x33_1 : Int) < ((x7_1.length : Int) : Int)) = True := eq_true (of_decide_eq_true (by first | (with_reducible assumption) | assumption))
                  obtain ⟨ad334, e334, hx334_0⟩ := Kd.at_int (Kd.R_reads' HO_7.out).2.2 x33_1 p334 q334
                  obtain rfl : (⟨go33, 0, none⟩ : Addr) = ad334 := (by injection e334)
                  (first | simp only [add_plain] at hx334_0 | simp only [add_at] at hx334_0 | simp only [Addr.add, Nat.zero_add] at hx334_0 | skip)
                  replace p334 := eq_true p334
                  replace q334 := eq_true q334
                  have p335 : 0 ≤ ((ji36) : Int) := of_decide_eq_true (by first | (with_reducible assumption) | assumption)
                  have q335 : (ji36) < (D_.length : Int) := of_decide_eq_true (by first | (with_reducible assumption) | assumption)
                  obtain ⟨ad335, e335, hx335_0⟩ := Kd.at_int HR328.out (ji36) p335 q335
                  have hw335_0 := hx335_0
                  obtain rfl : ad332 = ad335 := (by injection e335)
                  replace hx335_0 := (HB.out.cell (World.block_lt_of_cell? w _ hx335_0)).trans hx335_0
                  replace p335 := eq_true p335
                  replace q335 := eq_true q335
                  have p41 : 0 ≤ (x33_1 : Int) := of_decide_eq_true (by first | (with_reducible assumption) | assumption)
                  have q41 : (x33_1 : Int) < ((x7_1.length : Int) : Int) := of_decide_eq_true (by first | (with_reducible assumption) | assumption)
                  obtain ⟨hx41_0, hf41_0⟩ := Kd.R_celln 0 HO_7.out (x33_1 : Int) p41 q41
                  replace p41 := eq_true p41
                  replace q41 := eq_true q41
                  have HP45 := Kd.R_putn HO_7.out (x33_1 : Int) (Go.bits .or .u64 (rd y333 x33_1) (ji40))
                  rw [← Ny336.out] at HP45
                  have HQ45 := Aside0.mk HP45
                  clear HP45
                  refine start_ (n := 15) (S := fun w' => w'.cell? ⟨go33, (x33_1).toNat, none⟩ = some (.int .u64 (rd y333 x33_1)) ∧ w'.cell? (ad332.add ((ji36)).toNat) = some (.int .u64 (rd D_ (ji36)))) (ds := [14]) #[false, false, false, false, false, false, false, false, false, false, false, false, false, false, false] (by kernel_rfl) rfl rfl ⟨hx334_0, ((HB.out.cell (World.block_lt_of_cell? w _ hw335_0)).trans hw335_0)⟩ (fun hHeld => ?_); refine with_tabW nat_Nat_Shr.tab13 nat_Nat_Shr.bits13 (fun HT_ HW_ => ?_)
                  generalize w43.drew = w44 at HO_7 BK326 BK327 HB HQ45 hf41_0 hx334_0 hx335_0 hx41_0 hHeld ⊢
                  refine pure_ (i := 0) (N := some 54) (v := ?_) (a' := ?_) #[true, false, false, false, false, false, false, false, false, false, false, false, false, false, false] rfl rfl (any_of HT_.out (by kernel_rfl)) (fun _ _ _ h => h) (Or.inl ⟨by rfl, ?_⟩) ?_ ?_
                  rotate_left
                  ·intro w'
                   go_simp
                   with_reducible rfl
                  rotate_left
                  ·simp only [Act.put, List.setIfInBounds_toArray, List.set_cons_zero, List.set_cons_succ, i64_w, i32_w]
                   rfl
                  refine pure_ (i := 1) (N := some 55) (v := ?_) (a' := ?_) #[true, true, false, false, false, false, false, false, false, false, false, false, false, false, false] rfl rfl (any_of HT_.out (by kernel_rfl)) (fun _ _ _ h => h) (Or.inl ⟨by rfl, ?_⟩) ?_ ?_
                  rotate_left
                  ·intro w'
                   go_simp
                   with_reducible rfl
                  rotate_left
                  ·simp only [Act.put, List.setIfInBounds_toArray, List.set_cons_zero, List.set_cons_succ, i64_w, i32_w]
                   rfl
                  refine pure_ (i := 2) (N := some 56) (v := ?_) (a' := ?_) #[true, true, true, false, false, false, false, false, false, false, false, false, false, false, false] rfl rfl (any_of HT_.out (by kernel_rfl)) (fun _ _ _ h => h) (Or.inl ⟨by rfl, ?_⟩) ?_ ?_
                  rotate_left
                  ·intro w'
                   go_simp
                   with_reducible rfl
                  rotate_left
                  ·simp only [Act.put, List.setIfInBounds_toArray, List.set_cons_zero, List.set_cons_succ, i64_w, i32_w]
                   rfl
                  refine pure_ (i := 4) (N := some 58) (v := ?_) (a' := ?_) #[true, true, true, false, true, false, false, false, false, false, false, false, false, false, false] rfl rfl (any_of HT_.out (by kernel_rfl)) (fun _ _ _ h => h) (Or.inl ⟨by rfl, ?_⟩) ?_ ?_
                  rotate_left
                  ·intro w'
                   go_simp
                   with_reducible rfl
                  rotate_left
                  ·simp only [Act.put, List.setIfInBounds_toArray, List.set_cons_zero, List.set_cons_succ, i64_w, i32_w]
                   rfl
                  refine pure_ (i := 5) (N := some 59) (v := ?_) (a' := ?_) #[true, true, true, false, true, true, false, false, false, false, false, false, false, false, false] rfl rfl (any_of HT_.out (by kernel_rfl)) (fun _ _ _ h => h) (Or.inl ⟨by rfl, ?_⟩) ?_ ?_
                  rotate_left
                  ·intro w'
                   go_simp
                   with_reducible rfl
                  rotate_left
                  ·simp only [Act.put, List.setIfInBounds_toArray, List.set_cons_zero, List.set_cons_succ, i64_w, i32_w]
                   rfl
                  refine pure_ (i := 6) (N := some 60) (v := ?_) (a' := ?_) #[true, true, true, false, true, true, true, false, false, false, false, false, false, false, false] rfl rfl (any_of HT_.out (by kernel_rfl)) (fun _ _ _ h => h) (Or.inl ⟨by rfl, ?_⟩) ?_ ?_
                  rotate_left
                  ·intro w'
                   go_simp
                   with_reducible rfl
                  rotate_left
                  ·simp only [Act.put, List.setIfInBounds_toArray, List.set_cons_zero, List.set_cons_succ, i64_w, i32_w]
                   rfl
                  refine pure_ (i := 7) (N := some 61) (v := ?_) (a' := ?_) #[true, true, true, false, true, true, true, true, false, false, false, false, false, false, false] rfl rfl (any_of HT_.out (by kernel_rfl)) (fun _ _ _ h => h) (Or.inl ⟨by rfl, ?_⟩) ?_ ?_
                  rotate_left
                  ·intro w'
                   go_simp
                   with_reducible rfl
                  rotate_left
                  ·simp only [Act.put, List.setIfInBounds_toArray, List.set_cons_zero, List.set_cons_succ, i64_w, i32_w]
                   rfl
                  refine pure_ (i := 9) (N := some 63) (v := ?_) (a' := ?_) #[true, true, true, false, true, true, true, true, false, true, false, false, false, false, false] rfl rfl (any_of HT_.out (by kernel_rfl)) (fun _ _ _ h => h) (Or.inl ⟨by rfl, ?_⟩) ?_ ?_
                  rotate_left
                  ·intro w'
                   go_simp
                   with_reducible rfl
                  rotate_left
                  ·simp only [Act.put, List.setIfInBounds_toArray, List.set_cons_zero, List.set_cons_succ, i64_w, i32_w]
                   rfl
                  refine pure_ (i := 10) (N := some 64) (v := ?_) (a' := ?_) #[true, true, true, false, true, true, true, true, false, true, true, false, false, false, false] rfl rfl (any_of HT_.out (by kernel_rfl)) (fun _ _ _ h => h) (Or.inl ⟨by rfl, ?_⟩) ?_ ?_
                  rotate_left
                  ·intro w'
                   go_simp
                   with_reducible rfl
                  rotate_left
                  ·simp only [Act.put, List.setIfInBounds_toArray, List.set_cons_zero, List.set_cons_succ, i64_w, i32_w]
                   rfl
                  refine take_ (i := 3) (N := some 57) (v := ?_) (a' := ?_) #[true, true, true, true, true, true, true, true, false, true, true, false, false, false, false] rfl rfl (take_ofW HT_.out HW_.out (by kernel_rfl)) (fun _ _ _ h => h) (Or.inl ⟨by rfl, ?_⟩) hHeld ?_ ?_
                  rotate_left
                  ·rintro w' ⟨s0, s1⟩
                   go_simp
                   with_reducible rfl
                  rotate_left
                  ·simp only [Act.put, List.setIfInBounds_toArray, List.set_cons_zero, List.set_cons_succ, i64_w, i32_w]
                   rfl
                  refine take_ (i := 8) (N := some 62) (v := ?_) (a' := ?_) #[true, true, true, true, true, true, true, true, true, true, true, false, false, false, false] rfl rfl (take_ofW HT_.out HW_.out (by kernel_rfl)) (fun _ _ _ h => h) (Or.inl ⟨by rfl, ?_⟩) hHeld ?_ ?_
                  rotate_left
                  ·rintro w' ⟨s0, s1⟩
                   go_simp
                   with_reducible rfl
                  rotate_left
                  ·simp only [Act.put, List.setIfInBounds_toArray, List.set_cons_zero, List.set_cons_succ, i64_w, i32_w]
                   rfl
                  refine pure_ (i := 11) (N := some 65) (v := ?_) (a' := ?_) #[true, true, true, true, true, true, true, true, true, true, true, true, false, false, false] rfl rfl (any_of HT_.out (by kernel_rfl)) (fun _ _ _ h => h) (Or.inl ⟨by rfl, ?_⟩) ?_ ?_
                  rotate_left
                  ·intro w'
                   go_simp
                   with_reducible rfl
                  rotate_left
                  ·simp only [Act.put, List.setIfInBounds_toArray, List.set_cons_zero, List.set_cons_succ, i64_w, i32_w]
                   rfl
                  refine pure_ (i := 12) (N := some 66) (v := ?_) (a' := ?_) #[true, true, true, true, true, true, true, true, true, true, true, true, true, false, false] rfl rfl (any_of HT_.out (by kernel_rfl)) (fun _ _ _ h => h) (Or.inl ⟨by rfl, ?_⟩) ?_ ?_
                  rotate_left
                  ·intro w'
                   go_simp
                   with_reducible rfl
                  rotate_left
                  ·simp only [Act.put, List.setIfInBounds_toArray, List.set_cons_zero, List.set_cons_succ, i64_w, i32_w]
                   rfl
                  refine pure_ (i := 13) (N := some 67) (v := ?_) (a' := ?_) #[true, true, true, true, true, true, true, true, true, true, true, true, true, true, false] rfl rfl (any_of HT_.out (by kernel_rfl)) (fun _ _ _ h => h) (Or.inl ⟨by rfl, ?_⟩) ?_ ?_
                  rotate_left
                  ·intro w'
                   go_simp
                   with_reducible rfl
                  rotate_left
                  ·simp only [Act.put, List.setIfInBounds_toArray, List.set_cons_zero, List.set_cons_succ, i64_w, i32_w]
                   rfl
                  refine last_ (i := 14) (N := none) #[true, true, true, true, true, true, true, true, true, true, true, true, true, true, true] rfl rfl (one_of HT_.out (by kernel_rfl)) (by decide) (fun K hK => ?_)
                  refine skip_ (w1 := ?_) (by rfl) rfl ?_ ?_
                  rotate_left
                  ·go_simp
                   rfl
                  refine hK.out _ _ ?_
                  clear hK K
                  refine done_ (done_of HT_.out (by kernel_rfl)) ?_
                  try go_wp2
                  go_roundg k1
                  case measure => have := HK1.out; omega
                  case rel => exact ⟨(y336), (ji36), (by first | rfl | (simp; done) | (simp only [← hji36] <;> (first | rfl | simp)) | (simp [*]; done)), H', ⟨by have := HK1.out; omega⟩, ⟨by (with_reducible repeat (first | apply Kd.R_alloc | apply Kd.R_drewN | apply Kd.R_drew)); exact HQ45.out⟩, ⟨by (with_reducible repeat (first | refine blk_drewN ?_ _ | refine blk_drew ?_ | refine blk_alloc ?_ _)); refine blk_far ?_ (by have h_ := Kd.R_ne HO_7.out BK326.out (by decide); intro e_; exact h_ (by rw [e_]; rfl)) _; (with_reducible repeat (first | refine blk_drewN ?_ _ | refine blk_drew ?_ | refine blk_alloc ?_ _)); exact BK326.out⟩, ⟨by (with_reducible repeat (first | refine blk_drewN ?_ _ | refine blk_drew ?_ | refine blk_alloc ?_ _)); refine blk_far ?_ (by have h_ := Kd.R_ne HO_7.out BK327.out (by decide); intro e_; exact h_ (by rw [e_]; rfl)) _; (with_reducible repeat (first | refine blk_drewN ?_ _ | refine blk_drew ?_ | refine blk_alloc ?_ _)); exact BK327.out⟩, ⟨by repeat (first | (with_reducible first | exact HB.out | apply below_alloc | apply pw_below_drewN | apply below_drew1 | refine below_set ?_ GB33.out | refine below_set ?_ GE326.out | refine below_set ?_ GE327.out) | exact HB.out)⟩⟩
                 ·rw [if_neg c39] at H
                  exact absurd H (by simp)
                ·rw [if_neg c37] at H
                 exact absurd H (by simp)
               ·rw [if_neg c35] at H
                have c35b0 : decide ((wrap64 (x33_1 + 1)) < (D_.length : Int)) = false := decide_eq_false c35
                clear c35
                have H' := Aside0.mk H
                clear H
                have p332 : 0 ≤ (x33_1 : Int) := of_decide_eq_true (by first | (with_reducible assumption) | assumption)
                have q332 : x33_1 < (D_.length : Int) := of_decide_eq_true (by first | (with_reducible assumption) | assumption)
                obtain ⟨ad332, e332, hx332_0⟩ := Kd.at_int HR328.out x33_1 p332 q332
                cases e332
                replace hx332_0 := (HB.out.cell (World.block_lt_of_cell? w _ hx332_0)).trans hx332_0
                replace p332 := eq_true p332
                replace q332 := eq_true q332
                have p33 : 0 ≤ (x33_1 : Int) := of_decide_eq_true (by first | (with_reducible assumption) | assumption)
                have q33 : (x33_1 : Int) < ((x7_1.length : Int) : Int) := of_decide_eq_true (by first | (with_reducible assumption) | assumption)
                obtain ⟨go33, co33, eo33, gb33, gl33, cl33, HG33⟩ := Kd.R_form HO_7.out (by omega)
                (first | cases eo33 | (injection eo33 with ea_ en_ ec_; (first | subst ea_ | (injection ea_ with ea_; subst ea_)); subst ec_; clear en_))
                have GB33 := Aside0.mk gb33
                have GG33 := Aside0.mk HG33
                clear gb33 gl33 HG33
                obtain ⟨hx33_0, hf33_0⟩ := Kd.R_celln 0 HO_7.out (x33_1 : Int) p33 q33
                replace p33 := eq_true p33
                replace q33 := eq_true q33
                have HP46 := Kd.R_putg HO_7.out (x33_1 : Int) ji31
                go_wp2_with (first | ((with_reducible refine gate_store (t := 40) (p := 44) rfl ?_); refine store_event (t := 40) (p := 44) (v := ?vo_w47) (w1 := (wr.setCell ⟨go33, (x33_1 : Int).toNat, none⟩ (.int .u64 ji31))) ?hg ?ho ?hn ?hr ?_; (case ho => rfl); (case hg => rfl); (case hn => rfl); (case hr => first | (go_simp; done) | (go_simp; rfl)); intro w47 hw; have hg : wr.grownBy w47 (some go33) := (by rw [hw]; exact HP46.2); have hp_ : Kd.R (Kd.int .u64) 40 w47 w.heap.size (fun k_ => (w.heap.size ≤ k_)) (.slice (some ⟨go33, 0, none⟩) x7_1.length co33) y333 := (by rw [hw, Ny333.out]; exact HP46.1); clear HP46; have n0_ := Aside0.mk (hp_); have n1_ := Aside0.mk (blk_grown (g := gb326) (o := .cells #[.slice A0_0 l0_0.length c0_0] 29 (0, 0)) (by (with_reducible repeat (first | refine blk_drewN ?_ _ | refine blk_drew ?_ | refine blk_alloc ?_ _)); exact BK326.out) hg (Kd.R_ne HO_7.out BK326.out (by decide))); have n2_ := Aside0.mk (blk_grown (g := gb327) (o := .cells #[.slice none 0 0] 29 (0, 0)) (by (with_reducible repeat (first | refine blk_drewN ?_ _ | refine blk_drew ?_ | refine blk_alloc ?_ _)); exact BK327.out) hg (Kd.R_ne HO_7.out BK327.out (by decide))); have n3_ := Aside0.mk ((by rw [hw]; exact below_set (HB.out) GB33.out : Below w.heap.size w w47)); clear HO_7; clear BK326; clear BK327; clear HB; have HO_7 := n0_; have BK326 := n1_; have BK327 := n2_; have HB := n3_; clear n0_ n1_ n2_ n3_; clear hg hw hp_))
                go_roundg k1
                case measure => have := HK1.out; omega
                case rel => exact ⟨(y333), (wrap64 (x33_1 + 1)), (by first | rfl | (simp; done) | (simp [*]; done)), H', ⟨by have := HK1.out; omega⟩, ⟨by (with_reducible repeat (first | apply Kd.R_alloc | apply Kd.R_drewN | apply Kd.R_drew)); exact HO_7.out⟩, ⟨by (with_reducible repeat (first | refine blk_drewN ?_ _ | refine blk_drew ?_ | refine blk_alloc ?_ _)); exact BK326.out⟩, ⟨by (with_reducible repeat (first | refine blk_drewN ?_ _ | refine blk_drew ?_ | refine blk_alloc ?_ _)); exact BK327.out⟩, ⟨by repeat (first | (with_reducible first | exact HB.out | apply below_alloc | apply pw_below_drewN | apply below_drew1 | refine below_set ?_ GE326.out | refine below_set ?_ GE327.out) | exact HB.out)⟩⟩
              ·rw [if_neg c34] at H
               have c34b0 : decide (0 < (ji29)) = false := decide_eq_false c34
               clear c34
               have H' := Aside0.mk H
               clear H
               have p332 : 0 ≤ (x33_1 : Int) := of_decide_eq_true (by first | (with_reducible assumption) | assumption)
               have q332 : x33_1 < (D_.length : Int) := of_decide_eq_true (by first | (with_reducible assumption) | assumption)
               obtain ⟨ad332, e332, hx332_0⟩ := Kd.at_int HR328.out x33_1 p332 q332
               cases e332
               replace hx332_0 := (HB.out.cell (World.block_lt_of_cell? w _ hx332_0)).trans hx332_0
               replace p332 := eq_true p332
               replace q332 := eq_true q332
               have p33 : 0 ≤ (x33_1 : Int) := of_decide_eq_true (by first | (with_reducible assumption) | assumption)
               have q33 : (x33_1 : Int) < ((x7_1.length : Int) : Int) := of_decide_eq_true (by first | (with_reducible assumption) | assumption)
               obtain ⟨go33, co33, eo33, gb33, gl33, cl33, HG33⟩ := Kd.R_form HO_7.out (by omega)
               (first | cases eo33 | (injection eo33 with ea_ en_ ec_; (first | subst ea_ | (injection ea_ with ea_; subst ea_)); subst ec_; clear en_))
               have GB33 := Aside0.mk gb33
               have GG33 := Aside0.mk HG33
               clear gb33 gl33 HG33
               obtain ⟨hx33_0, hf33_0⟩ := Kd.R_celln 0 HO_7.out (x33_1 : Int) p33 q33
               replace p33 := eq_true p33
               replace q33 := eq_true q33
               have HP48 := Kd.R_putg HO_7.out (x33_1 : Int) ji31
               go_wp2_with (first | ((with_reducible refine gate_store (t := 40) (p := 44) rfl ?_); refine store_event (t := 40) (p := 44) (v := ?vo_w49) (w1 := (wr.setCell ⟨go33, (x33_1 : Int).toNat, none⟩ (.int .u64 ji31))) ?hg ?ho ?hn ?hr ?_; (case ho => rfl); (case hg => rfl); (case hn => rfl); (case hr => first | (go_simp; done) | (go_simp; rfl)); intro w49 hw; have hg : wr.grownBy w49 (some go33) := (by rw [hw]; exact HP48.2); have hp_ : Kd.R (Kd.int .u64) 40 w49 w.heap.size (fun k_ => (w.heap.size ≤ k_)) (.slice (some ⟨go33, 0, none⟩) x7_1.length co33) y333 := (by rw [hw, Ny333.out]; exact HP48.1); clear HP48; have n0_ := Aside0.mk (hp_); have n1_ := Aside0.mk (blk_grown (g := gb326) (o := .cells #[.slice A0_0 l0_0.length c0_0] 29 (0, 0)) (by (with_reducible repeat (first | refine blk_drewN ?_ _ | refine blk_drew ?_ | refine blk_alloc ?_ _)); exact BK326.out) hg (Kd.R_ne HO_7.out BK326.out (by decide))); have n2_ := Aside0.mk (blk_grown (g := gb327) (o := .cells #[.slice none 0 0] 29 (0, 0)) (by (with_reducible repeat (first | refine blk_drewN ?_ _ | refine blk_drew ?_ | refine blk_alloc ?_ _)); exact BK327.out) hg (Kd.R_ne HO_7.out BK327.out (by decide))); have n3_ := Aside0.mk ((by rw [hw]; exact below_set (HB.out) GB33.out : Below w.heap.size w w49)); clear HO_7; clear BK326; clear BK327; clear HB; have HO_7 := n0_; have BK326 := n1_; have BK327 := n2_; have HB := n3_; clear n0_ n1_ n2_ n3_; clear hg hw hp_))
               go_roundg k1
               case measure => have := HK1.out; omega
               case rel => exact ⟨(y333), (wrap64 (x33_1 + 1)), (by first | rfl | (simp; done) | (simp [*]; done)), H', ⟨by have := HK1.out; omega⟩, ⟨by (with_reducible repeat (first | apply Kd.R_alloc | apply Kd.R_drewN | apply Kd.R_drew)); exact HO_7.out⟩, ⟨by (with_reducible repeat (first | refine blk_drewN ?_ _ | refine blk_drew ?_ | refine blk_alloc ?_ _)); exact BK326.out⟩, ⟨by (with_reducible repeat (first | refine blk_drewN ?_ _ | refine blk_drew ?_ | refine blk_alloc ?_ _)); exact BK327.out⟩, ⟨by repeat (first | (with_reducible first | exact HB.out | apply below_alloc | apply pw_below_drewN | apply below_drew1 | refine below_set ?_ GE326.out | refine below_set ?_ GE327.out) | exact HB.out)⟩⟩
             ·rw [if_neg c32] at H
              exact absurd H (by simp)
            ·rw [if_neg c30] at H
             exact absurd H (by simp)
           ·rw [if_neg c28] at H
            exact absurd H (by simp)
          ·rw [if_neg c27] at H
           exact absurd H (by simp)
         ·rw [if_neg c26] at H
          have c26b0 : decide (x33_1 < (D_.length : Int)) = false := decide_eq_false c26
          clear c26
          replace H := Option.bind_eq_some_iff.mp H
          obtain ⟨t337, A500, H⟩ := H
          replace H : (some (t337, 0)) = some (r1, r2) := H
          have A50 := Aside0.mk A500
          clear A500
          simp only [Option.some.injEq, Prod.mk.injEq] at H
          obtain ⟨rfl, rfl⟩ := H
          obtain ⟨Ao51, co51, eo51⟩ := Kd.R_slice HO_7.out
          subst eo51
          go_wp2_with (first | ((with_reducible refine gate_callee (f := 68) rfl ?_); refine goesL_ (some 70) rfl rfl Tryd.func68 (by kernel_rfl) rfl #[.slice Ao51 x7_1.length co51] rfl (by (try simp only [List.map_toArray, List.map_cons, List.map_nil]); first | done | rfl | (simp only [List.length_drop, List.length_take]; rfl)) ?_; (with_reducible refine (nat_norm.calls k1 (fun k_ => some k_ = (.slice Ao51 x7_1.length co51 : Value).ownBlock) _ _ x7_1 t337 _ ?side1 A50.out).mono ?_); (case side1 => exact Kd.R_V (Kd.R_tight rfl (Kd.R_types (Kd.R_types (HO_7.out) BK326.out (by decide)) BK327.out (by decide)))); rintro e w52 ⟨v338, rfl, ho0, hb⟩; refine ⟨_, rfl, ?_⟩; have n0_ := Aside0.mk (Kd.R_below (by (with_reducible repeat (first | apply Kd.R_alloc | apply Kd.R_drewN | apply Kd.R_drew)); exact HO_7.out) hb); have n1_ := Aside0.mk (Kd.V_lower (Kd.V_mono (ok' := fun k_ => (w.heap.size ≤ k_) ∧ k_ ≠ gb326 ∧ k_ ≠ gb327) ho0 (fun k_ hk_ => ⟨Or.elim hk_ (fun hs_ => ((Kd.R_types (Kd.R_types (HO_7.out) BK326.out (by decide)) BK327.out (by decide)).1 k_ hs_.symm).1.1) (fun hn_ => (Nat.le_trans (below_size (by repeat (first | (with_reducible first | exact HB.out | apply below_alloc | apply pw_below_drewN | apply below_drew1 | refine below_set ?_ GE326.out | refine below_set ?_ GE327.out) | exact HB.out))) hn_)), Or.elim hk_ (fun hs_ => ((Kd.R_types (Kd.R_types (HO_7.out) BK326.out (by decide)) BK327.out (by decide)).1 k_ hs_.symm).1.2) (fun hn_ => (Kd.freshB (g := gb326) (o := .cells #[.slice A0_0 l0_0.length c0_0] 29 (0, 0)) (by (with_reducible repeat (first | refine blk_drewN ?_ _ | refine blk_drew ?_ | refine blk_alloc ?_ _)); exact BK326.out) k_ hn_)), Or.elim hk_ (fun hs_ => ((Kd.R_types (Kd.R_types (HO_7.out) BK326.out (by decide)) BK327.out (by decide)).1 k_ hs_.symm).2) (fun hn_ => (Kd.freshB (g := gb327) (o := .cells #[.slice none 0 0] 29 (0, 0)) (by (with_reducible repeat (first | refine blk_drewN ?_ _ | refine blk_drew ?_ | refine blk_alloc ?_ _)); exact BK327.out) k_ hn_))⟩)) (below_size (by repeat (first | (with_reducible first | exact HB.out | apply below_alloc | apply pw_below_drewN | apply below_drew1 | refine below_set ?_ GE326.out | refine below_set ?_ GE327.out) | exact HB.out)))); have n2_ := Aside0.mk (blk_below (g := gb326) (o := .cells #[.slice A0_0 l0_0.length c0_0] 29 (0, 0)) (by (with_reducible repeat (first | refine blk_drewN ?_ _ | refine blk_drew ?_ | refine blk_alloc ?_ _)); exact BK326.out) hb); have n3_ := Aside0.mk (blk_below (g := gb327) (o := .cells #[.slice none 0 0] 29 (0, 0)) (by (with_reducible repeat (first | refine blk_drewN ?_ _ | refine blk_drew ?_ | refine blk_alloc ?_ _)); exact BK327.out) hb); have n4_ := Aside0.mk (below_step (by repeat (first | (with_reducible first | exact HB.out | apply below_alloc | apply pw_below_drewN | apply below_drew1 | refine below_set ?_ GE326.out | refine below_set ?_ GE327.out) | exact HB.out)) hb); clear HO_7; clear BK326; clear BK327; clear HB; have HO_7 := n0_; have HO339 := n1_; have BK326 := n2_; have BK327 := n3_; have HB := n4_; clear n0_ n1_ n2_ n3_ n4_; (try clear hb); (try clear hb2); (try clear hk); (try clear hi); (try clear ho0); obtain ⟨Ao53, co53, eo53⟩ := Kd.V_slice HO339.out; subst eo53; have hnb54 := NB327_326.out; have hnc54 := NB326_327.out; have hcz55_0 : w52.cell? ⟨gb327, 0, none⟩ = some (.slice none 0 0) := (blk_cell BK327.out 0).trans rfl; have hfz55_0 := blk_frozen BK327.out 0))
          refine bodyPost_ret (results_ct rfl _ _ gb327 29 #[.slice Ao53 t337.length co53] (0, 0) _ rfl (by (with_reducible repeat (first | refine blk_drewN ?_ _ | refine blk_drew ?_ | refine blk_alloc ?_ _)); refine blk_put (cs := #[.slice none 0 0]) ?_ 0 _ rfl; (with_reducible repeat (first | refine blk_drewN ?_ _ | refine blk_drew ?_ | refine blk_alloc ?_ _)); exact BK327.out) Tryd.underlying29 rfl (by kernel_rfl)) rfl ?_
          exact ⟨_, by first | rfl | (simp [errW_none, errW_some] <;> rfl) | (simp only [← hji14]; first | rfl | (simp [errW_none, errW_some] <;> rfl)) | (simp [*, errW_none, errW_some] <;> rfl), by (with_reducible repeat (first | apply Kd.V_alloc | apply Kd.V_drewN | apply Kd.V_drew)); exact Kd.V_mono (Kd.V_far (p := ⟨gb327, 0, none⟩) (Kd.V_mono HO339.out (fun k_ hk => (⟨hk, hk.2.2⟩ : _ ∧ k_ ≠ gb327))) (fun _ hk => hk.2) (.slice Ao53 t337.length co53)) (fun _ hk => hk.1.1), by repeat (first | (with_reducible first | exact HB.out | apply below_alloc | apply pw_below_drewN | apply below_drew1 | refine below_set ?_ GE326.out | refine below_set ?_ GE327.out) | exact HB.out)⟩
      ·rw [if_neg c18] at H
       exact absurd H (by simp)
     ·rw [if_neg c17] at H
      exact absurd H (by simp)
    ·rw [if_neg c16] at H
     exact absurd H (by simp)
   ·rw [if_neg c15] at H
    exact absurd H (by simp)
end Go.Proofs.YtgkdealidnidiaaDoor.Na
namespace Go.Proofs.YtgkdealidnidiaaDoor.Na
open Go.RowKit Go.Proofs.YtgkdealidnidiaaDoorW.PrintWords Go.Proofs.YtgkdealidnidiaaDoorW.PrintLast Go.Proofs.YtgkdealidnidiaaDoorW.PrintMore Go.Proofs.YtgkdealidnidiaaDoor.Dg
theorem two64 (n : Nat) (hn : n ≤ 64) : 18446744073709551616 = 2 ^ n * 2 ^ (64 - n) := by
 rw [← Nat.pow_add, show n + (64 - n) = 64 by omega]
theorem shl_word (w n : Nat) (hn : n ≤ 64) : shl .u64 (w : Int) (n : Int) = ((w * 2 ^ n % 18446744073709551616 : Nat) : Int) := by
 unfold shl
 have e : min ((n : Int)).toNat IntKind.u64.bits = n := by
  have : IntKind.u64.bits = 64 := rfl
  rw [this]; omega
 rw [e, IntKind.wrap_u64, show (2 : Int) ^ n = ((2 ^ n : Nat) : Int) by rw [Int.natCast_pow]; rfl, ← Int.natCast_mul]; omega
theorem shr_word (w n : Nat) (hn : n ≤ 64) : shr .u64 (w : Int) (n : Int) = ((w / 2 ^ n : Nat) : Int) := by
 unfold shr
 have e : min ((n : Int)).toNat IntKind.u64.bits = n := by
  have : IntKind.u64.bits = 64 := rfl
  rw [this]; omega
 rw [e, show (2 : Int) ^ n = ((2 ^ n : Nat) : Int) by rw [Int.natCast_pow]; rfl, ← Int.natCast_ediv]
theorem mul_pow_mod (w n : Nat) (hn : n ≤ 64) : w * 2 ^ n % 18446744073709551616 = 2 ^ n * (w % 2 ^ (64 - n)) := by
 rw [Nat.mul_comm w, two64 n hn, Nat.mul_mod_mul_left]
theorem mul_pow_div (w n : Nat) (hn : n ≤ 64) : w * 2 ^ n / 18446744073709551616 = w / 2 ^ (64 - n) := by
 rw [Nat.mul_comm w, two64 n hn, Nat.mul_div_mul_left _ _ (Nat.pow_pos (by decide))]
theorem or_word (w c n : Nat) (hn : n ≤ 64) (hc : c < 2 ^ n) : Go.bits .or .u64 (c : Int) ((w * 2 ^ n % 18446744073709551616 : Nat) : Int) = ((w * 2 ^ n % 18446744073709551616 + c : Nat) : Int) := by
 have hp : 2 ^ n ≤ 2 ^ 64 := Nat.pow_le_pow_right (by decide) hn
 have h64 : 2 ^ 64 = 18446744073709551616 := by decide
 rw [u64_or_nat _ _ (by omega) (Nat.mod_lt _ (by decide)), Nat.or_comm, nat_join n _ c ?_ hc]
 rw [mul_pow_mod w n hn, Nat.mul_mod_right]
theorem word_room (w c n : Nat) (hn : n ≤ 64) (hc : c < 2 ^ n) : w * 2 ^ n % 18446744073709551616 + c < 18446744073709551616 := by
 rw [mul_pow_mod w n hn]
 have h2 : w % 2 ^ (64 - n) + 1 ≤ 2 ^ (64 - n) := Nat.mod_lt _ (Nat.pow_pos (by decide))
 have h3 : 2 ^ n * (w % 2 ^ (64 - n) + 1) ≤ 2 ^ n * 2 ^ (64 - n) := Nat.mul_le_mul_left _ h2
 rw [← two64 n hn, Nat.mul_add] at h3
 omega
theorem shift_step {Q vo c A w p y c' : Int} (h : vo + Q * c = A * p) (hs : y + (BW : Int) * c' = w * p + c) : vo + Q * y + Q * (BW : Int) * c' = (A + Q * w) * p := by grind
theorem shifted_loop (l : List Int) (n : Nat) (hn : n < 64) (hR : R BW l) (hl : l.length ≤ 1000000000) : ∀ (d i : Nat) (o : List Int) (c : Nat), i + d = l.length → o.length = i → R BW o → c < 2 ^ n → V BW o + (BW : Int) ^ i * c = V BW (l.take i) * ((2 ^ n : Nat) : Int) →
  ∃ r, Ev (fun k => nat_shifted.l0 k l n (o ++ (c : Int) :: List.replicate d 0) l.length i) r ∧ R BW r ∧ V BW r = V BW l * ((2 ^ n : Nat) : Int) ∧ r.length = l.length + 1
 | 0, i, o, c, hi, ho, hRo, hc, hV => by
  obtain rfl : i = l.length := by omega
  have hp : 2 ^ n ≤ 2 ^ 64 := Nat.pow_le_pow_right (by decide) (by omega)
  have h64 : 2 ^ 64 = 18446744073709551616 := by decide
  refine ⟨o ++ [(c : Int)], Ev.step (f := fun _ => some (o ++ [(c : Int)])) (fun k => by rw [nat_shifted.l0, if_neg (by omega)]; rfl) (Ev.now _), R_append.2 ⟨hRo, R_one (by omega) (by rw [BWi]; omega)⟩, ?_, by simp [ho]⟩
  rw [V_snoc, ho, hV, V_take_all _ _ (Nat.le_refl _)]
 | d + 1, i, o, c, hi, ho, hRo, hc, hV => by
  have hw0 := R_getD hR (by decide) i
  rw [BWi] at hw0
  obtain ⟨w, hw⟩ := Int.eq_ofNat_of_zero_le hw0.1
  have hrd := rd_nat l i
  have hwl : w < 18446744073709551616 := by omega
  have hroom := word_room w c n (by omega) hc
  have hq := mul_pow_div w n (by omega)
  have hc' : w / 2 ^ (64 - n) < 2 ^ n := by
   rw [Nat.div_lt_iff_lt_mul (Nat.pow_pos (by decide)), ← two64 n (by omega)]; exact hwl
  have hs : ((w * 2 ^ n % 18446744073709551616 + c : Nat) : Int) + (BW : Int) * ((w / 2 ^ (64 - n) : Nat) : Int) = (w : Int) * ((2 ^ n : Nat) : Int) + (c : Int) := by
   rw [← hq, BWi, ← Int.natCast_mul]; omega
  obtain ⟨r, hE, h1, h2, h3⟩ := shifted_loop l n hn hR hl d (i + 1) (o ++ [((w * 2 ^ n % 18446744073709551616 + c : Nat) : Int)]) (w / 2 ^ (64 - n)) (by omega) (by simp [ho]) (R_append.2 ⟨hRo, R_one (Int.natCast_nonneg _) (by rw [BWi]; omega)⟩) hc' (by
   rw [V_snoc, ho, V_take_succ _ _ _ (by omega), hw, Int.pow_succ]
   exact shift_step hV hs)
  refine ⟨r, Ev.step (fun k => ?_) hE, h1, h2, h3⟩
  have g1 : (i : Int) < (l.length : Int) := by omega
  have g2 : (0 : Int) ≤ (i : Int) := by omega
  have hlen : (o ++ (c : Int) :: List.replicate (d + 1) 0).length = i + d + 2 := by simp [ho]; omega
  have g3 : (i : Int) < ((o ++ (c : Int) :: List.replicate (d + 1) 0).length : Int) := by omega
  have g4 : (0 : Int) ≤ (n : Int) := by omega
  have hrc : rd (o ++ (c : Int) :: List.replicate (d + 1) 0) (i : Int) = (c : Int) := by
   rw [rd_nat, ← ho, List.getD_eq_getElem?_getD, List.getElem?_append_right (Nat.le_refl _), Nat.sub_self]; rfl
  have hset : (o ++ (c : Int) :: List.replicate (d + 1) 0).set ((i : Int).toNat) ((w * 2 ^ n % 18446744073709551616 + c : Nat) : Int) = (o ++ [((w * 2 ^ n % 18446744073709551616 + c : Nat) : Int)]) ++ List.replicate (d + 1) 0 := by
   rw [Int.toNat_natCast, List.set_append_right _ _ (by omega), ho, Nat.sub_self, List.set_cons_zero, List.append_assoc]; rfl
  have E := Aside0.mk (show wrap64 ((i : Int) + 1) = ((i + 1 : Nat) : Int) by rw [w64 (by omega) (by omega)]; rfl)
  by_cases hn0 : n = 0
  ·subst hn0
   have e0 : w / 2 ^ (64 - 0) = 0 := Nat.div_eq_of_lt hwl
   rw [e0]
   have gz : ¬ ((0 : Nat) : Int) > 0 := by omega
   rw [nat_shifted.l0, if_pos g1, if_pos g2, if_pos g3, if_pos g1, if_pos g4, hrc, hrd, hw, shl_word w 0 (by omega), or_word w c 0 (by omega) hc, hset, Option.bind_some, if_neg gz, E.out, List.replicate_succ]; rfl
  ·have gp : (n : Int) > 0 := by omega
   have E2 := Aside0.mk (show IntKind.u64.wrap (64 - (n : Int)) = ((64 - n : Nat) : Int) by rw [u64w (by omega) (by omega)]; omega)
   have g5 : (0 : Int) ≤ ((64 - n : Nat) : Int) := by omega
   have g6 : (0 : Int) ≤ ((i + 1 : Nat) : Int) := by omega
   have g7 : ((i + 1 : Nat) : Int) < ((o ++ (c : Int) :: List.replicate (d + 1) 0).length : Int) := by omega
   have hset2 : ((o ++ [((w * 2 ^ n % 18446744073709551616 + c : Nat) : Int)]) ++ List.replicate (d + 1) 0).set (((i + 1 : Nat) : Int).toNat) ((w / 2 ^ (64 - n) : Nat) : Int) = (o ++ [((w * 2 ^ n % 18446744073709551616 + c : Nat) : Int)]) ++ ((w / 2 ^ (64 - n) : Nat) : Int) :: List.replicate d 0 := by
    rw [Int.toNat_natCast, List.set_append_right _ _ (by simp [ho]), List.replicate_succ]
    rw [show i + 1 - (o ++ [((w * 2 ^ n % 18446744073709551616 + c : Nat) : Int)]).length = 0 by simp [ho], List.set_cons_zero]
   rw [nat_shifted.l0, if_pos g1, if_pos g2, if_pos g3, if_pos g1, if_pos g4, hrc, hrd, hw, shl_word w n (by omega), or_word w c n (by omega) hc, hset, Option.bind_some, if_pos gp, E2.out, if_pos g5, E.out, if_pos g6, if_pos g7, shr_word w (64 - n) (by omega), hset2]
theorem shifted_ev (l : List Int) (n : Nat) (hn : n < 64) (hR : R BW l) (hl : l.length ≤ 1000000000) : ∃ r, Ev (fun k => nat_shifted.f k l n) r ∧ R BW r ∧ V BW r = V BW l * ((2 ^ n : Nat) : Int) ∧ r.length = l.length + 1 := by
 obtain ⟨r, hE, h⟩ := shifted_loop l n hn hR hl l.length 0 [] 0 (by omega) rfl (R_nil _) (Nat.pow_pos (by decide)) (by simp [V])
 refine ⟨r, Ev.congr (fun k => ?_) hE, h⟩
 have E := Aside0.mk (show wrap64 ((l.length : Int) + 1) = ((l.length + 1 : Nat) : Int) by rw [w64 (by omega) (by omega)]; rfl)
 unfold nat_shifted.f
 rw [E.out, if_pos (by omega), Int.toNat_natCast, if_pos (by omega)]; rfl
theorem nb_shl {x : Nat} (n : Nat) (hx : 0 < x) : nb (x * 2 ^ n) = nb x + n := by
 have := nb_split (v := 0) (s := n) (w := x) (Nat.pow_pos (by decide)) hx
 rw [Nat.zero_add, Nat.mul_comm] at this; omega
theorem dig_list {b : Nat} (hb : 2 ≤ b) (z : Nat) (o : List Int) (m : Nat) (hl : o.length = m) (h : ∀ i, i < m → o.getD i 0 = ((z / b ^ i % b : Nat) : Int)) : R b o ∧ V b o = ((z % b ^ m : Nat) : Int) := by
 induction m generalizing o with
 | zero =>
  obtain rfl := List.length_eq_zero_iff.1 hl
  exact ⟨R_nil _, by rw [Nat.pow_zero, Nat.mod_one]; rfl⟩
 | succ m ih =>
  rcases snoc_cases o with rfl | ⟨p, y, rfl⟩
  ·simp at hl
  ·have hp : p.length = m := by simpa using hl
   obtain ⟨h1, h2⟩ := ih p hp (fun i hi => by
    have := h i (by omega)
    rw [List.getD_eq_getElem?_getD, List.getElem?_append_left (by omega)] at this
    rw [List.getD_eq_getElem?_getD]; exact this)
   have hy : y = ((z / b ^ m % b : Nat) : Int) := by
    have := h m (by omega)
    rw [← hp, List.getD_eq_getElem?_getD, List.getElem?_append_right (Nat.le_refl _), Nat.sub_self] at this
    rw [hp] at this
    exact this
   have hlt : z / b ^ m % b < b := Nat.mod_lt _ (by omega)
   refine ⟨R_append.2 ⟨h1, R_one (by omega) (by omega)⟩, ?_⟩
   rw [V_snoc, hp, h2, hy, ← Int.natCast_pow, ← Int.natCast_mul, ← Int.natCast_add]
   congr 1
   rw [Nat.pow_succ, Nat.mod_mul]
theorem pow_split64 (x n : Nat) : x / 2 ^ n = x / BW ^ (n / 64) / 2 ^ (n % 64) := by
 rw [Nat.div_div_eq_div_mul, pow64, ← Nat.pow_add, show 64 * (n / 64) + n % 64 = n by omega]
theorem two_words (a b s : Nat) (hs : s ≤ 64) (ha : a < 18446744073709551616) : (a + 18446744073709551616 * b) / 2 ^ s % 18446744073709551616 = b * 2 ^ (64 - s) % 18446744073709551616 + a / 2 ^ s := by
 have e : a + 18446744073709551616 * b = a + 2 ^ s * (b * 2 ^ (64 - s)) := by rw [two64 s hs]; grind
 have h1 : a / 2 ^ s < 2 ^ (64 - s) := by rw [Nat.div_lt_iff_lt_mul (Nat.pow_pos (by decide)), Nat.mul_comm, ← two64 s hs]; exact ha
 rw [e, Nat.add_mul_div_left _ _ (Nat.pow_pos (by decide)), Nat.add_comm (a / 2 ^ s)]
 have h2 := word_room b (a / 2 ^ s) (64 - s) (by omega) h1
 rw [Nat.add_mod, Nat.mod_eq_of_lt (a := a / 2 ^ s) (by omega), Nat.mod_eq_of_lt h2]
theorem nshr_digit (x n i : Nat) : x / 2 ^ n / BW ^ i % BW = (x / BW ^ (n / 64 + i) % BW + 18446744073709551616 * (x / BW ^ (n / 64 + i + 1) % BW)) / 2 ^ (n % 64) % 18446744073709551616 := by
 have h : x / BW ^ (n / 64 + i) % BW + 18446744073709551616 * (x / BW ^ (n / 64 + i + 1) % BW) = x / BW ^ (n / 64 + i) % (BW * BW) := by
  rw [Nat.pow_succ, ← Nat.div_div_eq_div_mul, Nat.mod_mul]
 have e : BW * BW = 2 ^ (n % 64) * (18446744073709551616 * 2 ^ (64 - n % 64)) := by
  have := two64 (n % 64) (by omega)
  rw [show BW * BW = 18446744073709551616 * 18446744073709551616 from rfl]
  conv => lhs; rw [this]
  rw [show (18446744073709551616 : Nat) = 2 ^ 64 by decide, ← Nat.pow_add, ← Nat.pow_add, ← Nat.pow_add, ← Nat.pow_add]
  congr 1; omega
 rw [h, e, Nat.mod_mul_right_div_self, Nat.mod_mul_right_mod, pow_split64 x n, Nat.pow_add, Nat.div_div_eq_div_mul, Nat.div_div_eq_div_mul, Nat.div_div_eq_div_mul]
 rw [show BW = 18446744073709551616 from rfl]
 congr 2
 rw [Nat.mul_comm (2 ^ (n % 64)), Nat.mul_assoc]
theorem nshr_loop (x n : Nat) (hx : (wd BW x).length ≤ 1000000) (hlt : n / 64 ≤ (wd BW x).length) : ∀ (d i : Nat) (o : List Int), n / 64 + i + d = (wd BW x).length → o.length = i → (∀ j, j < i → o.getD j 0 = ((x / 2 ^ n / BW ^ j % BW : Nat) : Int)) →
  Ev (fun k => nat_Nat_Shr.l0 k ((wd BW x).drop (n / 64)) (o ++ List.replicate d 0) ((n % 64 : Nat) : Int) (((wd BW x).drop (n / 64)).length : Int) i) (wd BW (x / 2 ^ n), 0)
 | 0, i, o, hi, ho, hd => by
  have hdl : ((wd BW x).drop (n / 64)).length = i := by rw [List.length_drop]; omega
  refine Ev.step (f := fun k => (nat_norm.f k o).bind fun t => some (t, 0)) (fun k => by rw [nat_Nat_Shr.l0, hdl, if_neg (by omega)]; simp) ?_
  refine Ev.bind (normf_ev o (by omega)) ?_
  obtain ⟨h1, h2⟩ := dig_list (b := BW) (by decide) (x / 2 ^ n) o i ho hd
  have hsmall : x / 2 ^ n < BW ^ i := by
   rw [pow_split64]
   refine Nat.lt_of_le_of_lt (Nat.div_le_self _ _) ?_
   rw [Nat.div_lt_iff_lt_mul (Nat.pow_pos (by decide)), ← Nat.pow_add, show i + n / 64 = (wd BW x).length by omega]
   exact (len_le_iff (by decide) _).1 (Nat.le_refl _)
  rw [Nat.mod_eq_of_lt hsmall] at h2
  rw [strip_eq (n := x / 2 ^ n) (by decide) h1 h2]
  exact Ev.now _
 | d + 1, i, o, hi, ho, hd => by
  have ga := getD_N (b := BW) (m := x) (by decide) (wd_R (by decide) x) (wd_V (by decide) x) (n / 64 + i)
  have gb := getD_N (b := BW) (m := x) (by decide) (wd_R (by decide) x) (wd_V (by decide) x) (n / 64 + i + 1)
  have hA : x / BW ^ (n / 64 + i) % BW < 18446744073709551616 := Nat.mod_lt _ (by decide)
  have hB : x / BW ^ (n / 64 + i + 1) % BW < 18446744073709551616 := Nat.mod_lt _ (by decide)
  have hdig := nshr_digit x n i
  have hdl : ((wd BW x).drop (n / 64)).length = i + d + 1 := by rw [List.length_drop]; omega
  have hd1 : rd ((wd BW x).drop (n / 64)) (i : Int) = (wd BW x).getD (n / 64 + i) 0 := by rw [rd_nat, List.getD_eq_getElem?_getD, List.getElem?_drop, ← List.getD_eq_getElem?_getD]
  have hd2 : rd ((wd BW x).drop (n / 64)) ((i + 1 : Nat) : Int) = (wd BW x).getD (n / 64 + i + 1) 0 := by rw [rd_nat, List.getD_eq_getElem?_getD, List.getElem?_drop, ← List.getD_eq_getElem?_getD]; rfl
  generalize x / BW ^ (n / 64 + i) % BW = A at ga hA hdig
  generalize hBB : x / BW ^ (n / 64 + i + 1) % BW = B at gb hB hdig
  rw [two_words A B (n % 64) (by omega) hA] at hdig
  have hc : A / 2 ^ (n % 64) < 2 ^ (64 - n % 64) := by rw [Nat.div_lt_iff_lt_mul (Nat.pow_pos (by decide)), Nat.mul_comm, ← two64 (n % 64) (by omega)]; exact hA
  have ih := nshr_loop x n hx hlt d (i + 1) (o ++ [((B * 2 ^ (64 - n % 64) % 18446744073709551616 + A / 2 ^ (n % 64) : Nat) : Int)]) (by omega) (by simp [ho]) (fun j hj => by
   rcases Nat.lt_or_ge j i with h | h
   ·rw [List.getD_eq_getElem?_getD, List.getElem?_append_left (by omega), ← List.getD_eq_getElem?_getD]; exact hd j h
   ·obtain rfl : j = i := by omega
    rw [List.getD_eq_getElem?_getD, ← ho, List.getElem?_append_right (Nat.le_refl _), Nat.sub_self, ho, hdig]; rfl)
  refine Ev.step (fun k => ?_) ih
  have hol : (o ++ List.replicate (d + 1) (0 : Int)).length = i + d + 1 := by simp [ho]; omega
  have g1 : (i : Int) < (((wd BW x).drop (n / 64)).length : Int) := by omega
  have g2 : (0 : Int) ≤ (i : Int) := by omega
  have g3 : (0 : Int) ≤ ((n % 64 : Nat) : Int) := by omega
  have g4 : (i : Int) < ((o ++ List.replicate (d + 1) (0 : Int)).length : Int) := by omega
  have hs1 : ∀ y : Int, (o ++ List.replicate (d + 1) 0).set ((i : Int).toNat) y = (o ++ [y]) ++ List.replicate d 0 := fun y => by rw [Int.toNat_natCast]; exact set_app o d y ho
  have hr1 : ∀ y : Int, rd ((o ++ [y]) ++ List.replicate d 0) (i : Int) = y := fun y => by
   rw [rd_nat, List.append_assoc, List.getD_eq_getElem?_getD, ← ho, List.getElem?_append_right (Nat.le_refl _), Nat.sub_self]; rfl
  have hs2 : ∀ y z : Int, ((o ++ [y]) ++ List.replicate d 0).set ((i : Int).toNat) z = (o ++ [z]) ++ List.replicate d 0 := fun y z => by
   rw [Int.toNat_natCast, List.append_assoc, List.set_append_right _ _ (by omega), ho, Nat.sub_self, List.append_assoc]; rfl
  have E := Aside0.mk (show wrap64 ((i : Int) + 1) = ((i + 1 : Nat) : Int) by rw [w64 (by omega) (by omega)]; rfl)
  by_cases hn0 : n % 64 = 0
  ·rw [hn0] at hdig hc ih ⊢
   have hz : B * 2 ^ (64 - 0) % 18446744073709551616 + A / 2 ^ 0 = A := by
    rw [show (2 : Nat) ^ (64 - 0) = 18446744073709551616 by decide, Nat.mul_mod_left]; simp
   have gz : ¬ ((0 : Nat) : Int) > 0 := by omega
   rw [hz, nat_Nat_Shr.l0, if_pos g1, if_pos g2, if_pos g1, if_pos (by omega), if_pos g4, hd1, ga, shr_word A 0 (by omega), hs1, Option.bind_some, if_neg gz, E.out, Nat.pow_zero, Nat.div_one]
  ·have gp : ((n % 64 : Nat) : Int) > 0 := by omega
   have E2 := Aside0.mk (show IntKind.u64.wrap (64 - ((n % 64 : Nat) : Int)) = ((64 - n % 64 : Nat) : Int) by rw [u64w (by omega) (by omega)]; omega)
   by_cases hend : i + 1 < i + d + 1
   ·have g5 : ((i + 1 : Nat) : Int) < (((wd BW x).drop (n / 64)).length : Int) := by omega
    have g6 : (0 : Int) ≤ ((i + 1 : Nat) : Int) := by omega
    have g7 : (0 : Int) ≤ ((64 - n % 64 : Nat) : Int) := by omega
    rw [nat_Nat_Shr.l0, if_pos g1, if_pos g2, if_pos g1, if_pos g3, if_pos g4, hd1, ga, shr_word A (n % 64) (by omega), hs1, Option.bind_some, if_pos gp, E.out, if_pos g5, if_pos g6, E2.out, if_pos g7, hr1, hd2, gb, shl_word B (64 - n % 64) (by omega), or_word B _ (64 - n % 64) (by omega) hc, hs2]
   ·have g5 : ¬ ((i + 1 : Nat) : Int) < (((wd BW x).drop (n / 64)).length : Int) := by omega
    have hB0 : B = 0 := by
     rw [← hBB]
     have hlen : (wd BW x).length ≤ n / 64 + i + 1 := by omega
     rw [Nat.div_eq_of_lt ((len_le_iff (b := BW) (by decide) _).1 hlen)]; rfl
    subst hB0
    rw [nat_Nat_Shr.l0, if_pos g1, if_pos g2, if_pos g1, if_pos g3, if_pos g4, hd1, ga, shr_word A (n % 64) (by omega), hs1, Option.bind_some, if_pos gp, E.out, if_neg g5, Nat.zero_mul, Nat.zero_mod, Nat.zero_add]
theorem nshr_ev (x n : Nat) (hx : (wd BW x).length ≤ 1000000) (hn : n < 9223372036854775808) : Ev (fun k => nat_Nat_Shr.f k (wd BW x) n) (wd BW (x / 2 ^ n), 0) := by
 have E := Aside0.mk (And.intro (show wrap64 (Int.tdiv (n : Int) 64) = ((n / 64 : Nat) : Int) by rw [tdiv_nn (by omega), w64 (by omega) (by omega)]; omega) (show IntKind.u64.wrap (Int.tmod (n : Int) 64) = ((n % 64 : Nat) : Int) by rw [tmod_nn (by omega), u64w (by omega) (by omega)]; omega))
 by_cases h : (wd BW x).length ≤ n / 64
 ·have hz : x / 2 ^ n = 0 := by
   have h2 : x / BW ^ (n / 64) = 0 := Nat.div_eq_of_lt ((len_le_iff (b := BW) (by decide) _).1 h)
   rw [pow_split64, h2, Nat.zero_div]
  rw [hz, wd_zero]
  refine Ev.congr (f := fun _ => some ([], 0)) (fun k => ?_) (Ev.now _)
  unfold nat_Nat_Shr.f
  rw [if_neg (by omega), E.out.1, if_pos (by omega)]
 ·have hdl : ((wd BW x).drop (n / 64)).length = (wd BW x).length - n / 64 := List.length_drop
  refine Ev.congr (f := fun k => nat_Nat_Shr.l0 k ((wd BW x).drop (n / 64)) ([] ++ List.replicate ((wd BW x).length - n / 64) 0) ((n % 64 : Nat) : Int) (((wd BW x).drop (n / 64)).length : Int) ((0 : Nat) : Int)) (fun k => ?_) (nshr_loop x n hx (by omega) ((wd BW x).length - n / 64) 0 [] (by omega) rfl (fun j hj => by omega))
  unfold nat_Nat_Shr.f
  rw [if_neg (by omega), E.out.1, if_neg (by omega), if_pos (by omega), if_pos (by omega), Int.toNat_natCast, if_pos (by omega), Int.toNat_natCast, if_pos (by omega), hdl, E.out.2]; rfl
end Go.Proofs.YtgkdealidnidiaaDoor.Na
namespace Go.Proofs.YtgkdealidnidiaaDoor.Na
open Go.RowKit Go.Proofs.YtgkdealidnidiaaDoorW.PrintWords Go.Proofs.YtgkdealidnidiaaDoorW.PrintLast Go.Proofs.YtgkdealidnidiaaDoorW.PrintMore
attribute [local go_sem] max2_int max_two
set_option linter.unusedVariables false
set_option linter.unusedSimpArgs false
def chafflaw01_Of.f (k : Nat) (l0_0 : List Int) : Option (List Int) := (nat_Nat_Words.f l0_0).bind fun t217 => ((chaffref01_From.f k t217).bind fun t220 => (some t220))
set_option maxHeartbeats 8000000 in
set_option maxRecDepth 100000 in
theorem chafflaw01_Of.calls (k : Nat) (A0_0 : Option Addr) (c0_0 : Nat) (l0_0 : List Int) (r : List Int) (w : World) (hr0_0 : Kd.C (Kd.int .u64) w A0_0 l0_0.length l0_0) (hc0_0 : l0_0.length ≤ c0_0) (h : chafflaw01_Of.f k l0_0 = some r) :
  Calls Tryd.prog 75 #[.agg #[.slice A0_0 l0_0.length c0_0]] w fun e w' => ∃ v0_ : Value, e = .returned (v0_) ∧ Kd.V (Kd.int .i64) 3 w' w.heap.size (fun k_ => (w.heap.size ≤ k_)) v0_ r ∧ Below w.heap.size w w' := by
 have hu29 := Tryd.underlying29
 have HR0_0 := Aside0.mk hr0_0
 have HC0_0 := Aside0.mk hc0_0
 clear hr0_0 hc0_0
 have HB := Aside0.mk (Below.refl w.heap.size w)
 have H : ((nat_Nat_Words.f l0_0).bind fun t217 => ((chaffref01_From.f k t217).bind fun t220 => (some t220))) = some r := h
 clear h
 replace H := Option.bind_eq_some_iff.mp H
 obtain ⟨t217, A20, H⟩ := H
 replace H : ((chaffref01_From.f k t217).bind fun t220 => (some t220)) = some r := H
 have A2 := Aside0.mk A20
 clear A20
 replace H := Option.bind_eq_some_iff.mp H
 obtain ⟨t220, A30, H⟩ := H
 replace H : (some t220) = some r := H
 have A3 := Aside0.mk A30
 clear A30
 obtain rfl := Option.some.inj H
 go_enter Tryd.func75, Tryd.ntmps75
 go_wp2_with (first | ((with_reducible refine gate_dst (N := 1) rfl ?_); refine box_event ?hg (N := 1) ?hd (cs := #[.slice A0_0 l0_0.length c0_0]) (t := 29) ?hr ?_; (case hd => rfl); (case hg => rfl); (case hr => first | (go_simp; done) | (go_simp; rfl)); intro gb216 hg w4 hbox hb; have n0_ := Aside0.mk (below_step (by repeat (first | (with_reducible first | exact HB.out | apply below_alloc | apply pw_below_drewN | apply below_drew1) | exact HB.out)) hb); have n1_ := Aside0.mk (hbox); have n2_ := Aside0.mk ((by rw [hg]; exact (below_size (by repeat (first | (with_reducible first | exact HB.out | apply below_alloc | apply pw_below_drewN | apply below_drew1) | exact HB.out))) : w.heap.size ≤ gb216)); have n3_ := Aside0.mk ((by rw [hg]; exact (below_size (by repeat (first | (with_reducible first | exact HB.out | apply below_alloc | apply pw_below_drewN | apply below_drew1) | exact HB.out))) : w.heap.size ≤ gb216)); clear HB; have HB := n0_; have BK216 := n1_; have GW216 := n2_; have GE216 := n3_; clear n0_ n1_ n2_ n3_; clear hb hbox hg; have hcz5_0 : w4.cell? ⟨gb216, 0, none⟩ = some (.slice A0_0 l0_0.length c0_0) := (blk_cell BK216.out 0).trans rfl; have hfz5_0 := blk_frozen BK216.out 0) | ((with_reducible refine gate_callee (f := 18) rfl ?_); refine goesL_ (some 4) rfl rfl Tryd.func18 (by kernel_rfl) rfl #[.agg #[.slice A0_0 l0_0.length c0_0]] rfl (by (try simp only [List.map_toArray, List.map_cons, List.map_nil]); first | done | rfl | (simp only [List.length_drop, List.length_take]; rfl)) ?_; (with_reducible refine (nat_Nat_Words.calls _ _ l0_0 t217 _ ?side1 ?side2 A2.out).mono ?_); (case side1 => repeat (first | exact (Kd.C_below HR0_0.out HB.out) | (with_reducible refine Kd.C_alloc ?_ _) | (with_reducible refine Kd.C_drewN ?_ _) | (with_reducible refine Kd.C_drew ?_))); (case side2 => exact HC0_0.out); rintro e w6 ⟨v218, rfl, ho0, hb⟩; refine ⟨_, rfl, ?_⟩; have n0_ := Aside0.mk (Kd.R_lower (Kd.R_newM (M := fun k_ => (w.heap.size ≤ k_)) ho0 (below_size (by repeat (first | (with_reducible first | exact HB.out | apply below_alloc | apply pw_below_drewN | apply below_drew1 | refine below_set ?_ GE216.out) | exact HB.out))) (fun k_ h_ => h_)) (below_size (by repeat (first | (with_reducible first | exact HB.out | apply below_alloc | apply pw_below_drewN | apply below_drew1 | refine below_set ?_ GE216.out) | exact HB.out)))); have n1_ := Aside0.mk (blk_below (g := gb216) (o := .cells #[.slice A0_0 l0_0.length c0_0] 29 (0, 0)) (by (with_reducible repeat (first | refine blk_drewN ?_ _ | refine blk_drew ?_ | refine blk_alloc ?_ _)); exact BK216.out) hb); have n2_ := Aside0.mk (below_step (by repeat (first | (with_reducible first | exact HB.out | apply below_alloc | apply pw_below_drewN | apply below_drew1 | refine below_set ?_ GE216.out) | exact HB.out)) hb); clear BK216; clear HB; have HO219 := n0_; have BK216 := n1_; have HB := n2_; clear n0_ n1_ n2_; (try clear hb); (try clear hb2); (try clear hk); (try clear hi); (try clear ho0); obtain ⟨Ao7, co7, eo7⟩ := Kd.R_slice HO219.out; subst eo7) | ((with_reducible refine gate_callee (f := 15) rfl ?_); refine goesL_ (some 5) rfl rfl Tryd.func15 (by kernel_rfl) rfl #[.slice Ao7 t217.length co7] rfl (by (try simp only [List.map_toArray, List.map_cons, List.map_nil]); first | done | rfl | (simp only [List.length_drop, List.length_take]; rfl)) ?_; (with_reducible refine (chaffref01_From.calls k _ _ t217 t220 _ ?side1 ?side2 A3.out).mono ?_); (case side1 => repeat (first | exact (Kd.R_reads' HO219.out).2.2 | (with_reducible refine Kd.C_alloc ?_ _) | (with_reducible refine Kd.C_drewN ?_ _) | (with_reducible refine Kd.C_drew ?_))); (case side2 => exact (Kd.R_reads' HO219.out).2.1); rintro e w8 ⟨v221, rfl, ho0, hb⟩; refine ⟨_, rfl, ?_⟩; have n0_ := Aside0.mk (Kd.R_below (by (with_reducible repeat (first | apply Kd.R_alloc | apply Kd.R_drewN | apply Kd.R_drew)); exact HO219.out) hb); have n1_ := Aside0.mk (Kd.V_lower (Kd.V_mono (ok' := fun k_ => (w.heap.size ≤ k_) ∧ some k_ ≠ (.slice Ao7 t217.length co7 : Value).ownBlock ∧ k_ ≠ gb216) ho0 (fun k_ hk_ => ⟨(Nat.le_trans (below_size (by repeat (first | (with_reducible first | exact HB.out | apply below_alloc | apply pw_below_drewN | apply below_drew1 | refine below_set ?_ GE216.out) | exact HB.out))) hk_), (Kd.fresh' (Kd.R_lt (by (with_reducible repeat (first | apply Kd.R_alloc | apply Kd.R_drewN | apply Kd.R_drew)); exact HO219.out)) k_ hk_), (Kd.freshB (g := gb216) (o := .cells #[.slice A0_0 l0_0.length c0_0] 29 (0, 0)) (by (with_reducible repeat (first | refine blk_drewN ?_ _ | refine blk_drew ?_ | refine blk_alloc ?_ _)); exact BK216.out) k_ hk_)⟩)) (below_size (by repeat (first | (with_reducible first | exact HB.out | apply below_alloc | apply pw_below_drewN | apply below_drew1 | refine below_set ?_ GE216.out) | exact HB.out)))); have n2_ := Aside0.mk (blk_below (g := gb216) (o := .cells #[.slice A0_0 l0_0.length c0_0] 29 (0, 0)) (by (with_reducible repeat (first | refine blk_drewN ?_ _ | refine blk_drew ?_ | refine blk_alloc ?_ _)); exact BK216.out) hb); have n3_ := Aside0.mk (below_step (by repeat (first | (with_reducible first | exact HB.out | apply below_alloc | apply pw_below_drewN | apply below_drew1 | refine below_set ?_ GE216.out) | exact HB.out)) hb); clear HO219; clear BK216; clear HB; have HO219 := n0_; have HO222 := n1_; have BK216 := n2_; have HB := n3_; clear n0_ n1_ n2_ n3_; (try clear hb); (try clear hb2); (try clear hk); (try clear hi); (try clear ho0)))
 go_ret
 exact ⟨_, by first | rfl | (simp [errW_none, errW_some] <;> rfl) | (simp [*, errW_none, errW_some] <;> rfl), by (with_reducible repeat (first | apply Kd.V_alloc | apply Kd.V_drewN | apply Kd.V_drew)); exact Kd.V_mono HO222.out (fun _ hk => hk.1), by repeat (first | (with_reducible first | exact HB.out | apply below_alloc | apply pw_below_drewN | apply below_drew1 | refine below_set ?_ GE216.out) | exact HB.out)⟩
end Go.Proofs.YtgkdealidnidiaaDoor.Na
namespace Go.Proofs.YtgkdealidnidiaaDoor.Na
open Go.RowKit Go.Proofs.YtgkdealidnidiaaDoorW.PrintWords Go.Proofs.YtgkdealidnidiaaDoorW.PrintLast Go.Proofs.YtgkdealidnidiaaDoorW.PrintMore
attribute [local go_sem] max2_int max_two
set_option linter.unusedVariables false
set_option linter.unusedSimpArgs false
mutual
def chaffref01_String.l0 : Nat → List Int → ByteArray → Option (ByteArray)
 | 0, _, _ => none
 | k + 1, x0, x3 => if (x0.length : Int) > 0 then (if 0 ≤ (x0.length : Int) then (if ((x0.length : Int) : Int).toNat ≤ 35184372088832 then (chaffref01_String.l1 k x0 x3 0 (List.replicate ((x0.length : Int) : Int).toNat 0) (wrap64 ((x0.length : Int) - 1))) else (none)) else (none)) else (if x3.toList = ([] : List UInt8) then (some (⟨#[48]⟩ : ByteArray)) else (some x3))
def chaffref01_String.l1 : Nat → List Int → ByteArray → Int → List Int → Int → Option (ByteArray)
 | 0, _, _, _, _, _ => none
 | k + 1, x0, x3, x4, x5, x6 => if x6 ≥ 0 then (if 0 ≤ x6 then (if x6 < (x0.length : Int) then (if x6 < (x5.length : Int) then (chaffref01_String.l1 k x0 x3 (Int.tmod (wrap64 ((wrap64 (x4 * 65536)) + (rd x0 x6))) 10) (x5.set (x6 : Int).toNat (wrap64 (Int.tdiv (wrap64 ((wrap64 (x4 * 65536)) + (rd x0 x6))) 10))) (wrap64 (x6 - 1))) else (none)) else (none)) else (none)) else ((chaffref01_trim.f k x5).bind fun t241 => ((some (([(wrap64 (48 + x4)) % 256] : List Int) : List Int)).bind fun y244 => (if (strOfNums y244).size + x3.size ≤ 9223372036854775807 then (chaffref01_String.l0 k t241 ((strOfNums y244) ++ x3)) else (none))))
end
def chaffref01_String.f (k : Nat) (l0 : List Int) : Option (ByteArray) := chaffref01_String.l0 k l0 (⟨#[]⟩ : ByteArray)
set_option maxHeartbeats 8000000 in
set_option maxRecDepth 100000 in
theorem chaffref01_String.calls (k : Nat) (P0_ : Nat → Prop) (A0 : Option Addr) (c0 : Nat) (l0 : List Int) (r : ByteArray) (w : World) (hs0 : Kd.V (Kd.int .i64) 3 w w.heap.size (fun k_ => P0_ k_) (.slice A0 l0.length c0) l0) (h : chaffref01_String.f k l0 = some r) :
  Calls Tryd.prog 24 #[.slice A0 l0.length c0] w fun e w' => e = .returned (.string r) ∧ Below w.heap.size w w' := by
 have HO0 := Aside0.mk (show Kd.V (Kd.int .i64) 3 w w.heap.size (fun k_ => (P0_ k_ ∨ w.heap.size ≤ k_)) (.slice A0 l0.length c0) l0 from Kd.V_mono hs0 (fun k_ hk => .inl hk))
 have HB := Aside0.mk (Below.refl w.heap.size w)
 have H : (chaffref01_String.l0 k l0 (⟨#[]⟩ : ByteArray)) = some r := h
 clear h
 have H' := Aside0.mk H
 clear H
 go_enter Tryd.func24, Tryd.ntmps24
 go_wp2
 go_loopg [0, 3] k (fun kq v0 v3 w' => ∃ (x0_1 : List Int) (x3_1 : ByteArray), v3 = .string x3_1 ∧ Aside0 (chaffref01_String.l0 kq x0_1 x3_1 = some r) ∧ Aside0 (kq ≤ k) ∧ Aside0 (Kd.V (Kd.int .i64) 3 w' w.heap.size (fun k_ => (P0_ k_ ∨ w.heap.size ≤ k_)) v0 x0_1) ∧ Aside0 (Below w.heap.size w w'))
 case atStart => exact ⟨(l0), ((⟨#[]⟩ : ByteArray)), (by first | rfl | (simp; done) | (simp [*]; done)), H', ⟨Nat.le_refl _⟩, ⟨by (with_reducible repeat (first | apply Kd.V_alloc | apply Kd.V_drewN | apply Kd.V_drew)); exact HO0.out⟩, ⟨by repeat (first | (with_reducible first | exact HB.out | apply below_alloc | apply pw_below_drewN | apply below_drew1) | exact HB.out)⟩⟩
 case round =>
  clear H'
  obtain ⟨x0_1, x3_1, rfl, HA, HK1, HO_0, HB⟩ := hrel
  cases gk with
  | zero => exact absurd HA.out (by simp [chaffref01_String.l0])
  | succ k1 =>
   have H := HA.out
   clear HA
   simp only [chaffref01_String.l0] at H
   by_cases c2 : (x0_1.length : Int) > 0
   ·rw [if_pos c2] at H
    have c2b0 : decide (0 < (x0_1.length : Int)) = true := decide_eq_true c2
    have c2b1 : decide (0 < x0_1.length) = true := decide_eq_true (by omega)
    clear c2
    by_cases c3 : 0 ≤ (x0_1.length : Int)
    ·rw [if_pos c3] at H
     have c3b0 := eq_true c3
     have c3b1 : decide (0 ≤ (x0_1.length : Int)) = true := decide_eq_true c3
     clear c3
     by_cases c4 : ((x0_1.length : Int) : Int).toNat ≤ 35184372088832
     ·rw [if_pos c4] at H
      have c4b0 := eq_true c4
      have c4b1 : decide (((x0_1.length : Int) : Int).toNat ≤ 35184372088832) = true := decide_eq_true c4
      clear c4
      obtain ⟨y236, hy236⟩ : ∃ y_ : List Int, y_ = (List.replicate ((x0_1.length : Int) : Int).toNat 0) := ⟨_, rfl⟩
      replace H : (chaffref01_String.l1 k1 x0_1 x3_1 0 y236 (wrap64 ((x0_1.length : Int) - 1))) = some r := by first | (rw [hy236]; with_reducible exact H) | (have H2_ := (Option.bind_some _ _).symm.trans H; rw [hy236]; with_reducible exact H2_) | (have H2_ := (Option.bind_some _ _).symm.trans H; with_reducible exact H2_) | with_reducible exact H | (rw [hy236]; exact H) | exact H
      have Ny236 := Aside0.mk hy236
      clear hy236
      have H' := Aside0.mk H
      clear H
      obtain ⟨Ao5, co5, eo5⟩ := Kd.V_slice HO_0.out
      subst eo5
      go_wp2_with (first | ((with_reducible refine gate_dst (N := 13) rfl ?_); refine Kd.R_make (Kd.int .i64) _ 3 rfl (N := 13) rfl 26 _ _ rfl (x0_1.length : Int) rfl rfl Tryd.underlying26 (.int .i64 0) 8 info3 rfl (by decide) (by omega) 0 (ok := fun _ => True) (okp := fun _ => True) rfl (fun _ hk => hk) trivial (of_decide_eq_true (by first | (with_reducible assumption) | assumption)) (Nat.le_trans (Nat.mul_le_mul_right _ (of_decide_eq_true (by first | (with_reducible assumption) | assumption) : (x0_1.length : Int).toNat ≤ 35184372088832)) (by omega)) (Below.refl _ _) (Nat.le_refl _) ?_; intro v237 w6 ho7 hb hg_ hnew_; clear hg_ hnew_; (first | rw [← Ny236.out] at ho7 | (simp only [Int.reduceToNat] at ho7; rw [← Ny236.out] at ho7)); have n0_ := Aside0.mk (Kd.V_elder' (by (with_reducible repeat (first | apply Kd.V_alloc | apply Kd.V_drewN | apply Kd.V_drew)); exact HO_0.out) (Kd.R_base ho7) hb); have n1_ := Aside0.mk (Kd.R_lower (Kd.R_newM (M := fun k_ => (w.heap.size ≤ k_)) ho7 (below_size (by repeat (first | (with_reducible first | exact HB.out | apply below_alloc | apply pw_below_drewN | apply below_drew1) | exact HB.out))) (fun k_ h_ => h_)) (below_size (by repeat (first | (with_reducible first | exact HB.out | apply below_alloc | apply pw_below_drewN | apply below_drew1) | exact HB.out)))); have n2_ := Aside0.mk (below_step (by repeat (first | (with_reducible first | exact HB.out | apply below_alloc | apply pw_below_drewN | apply below_drew1) | exact HB.out)) hb); clear HO_0; clear HB; have HO_0 := n0_; have HO238 := n1_; have HB := n2_; clear n0_ n1_ n2_; clear hb ho7))
      go_loopg [4, 6] k1 (fun kq v4 v6 w' => ∃ (x4_2 : Int) (x5_2 : List Int) (x6_2 : Int), v4 = .int .i64 x4_2 ∧ v6 = .int .i64 x6_2 ∧ Aside0 (chaffref01_String.l1 kq x0_1 x3_1 x4_2 x5_2 x6_2 = some r) ∧ Aside0 (kq ≤ k1) ∧ Aside0 (Kd.V (Kd.int .i64) 3 w' w.heap.size (fun k_ => (P0_ k_ ∨ w.heap.size ≤ k_) ∧ some k_ ≠ (v237 : Value).ownBlock) (.slice Ao5 x0_1.length co5) x0_1) ∧ Aside0 (Kd.R (Kd.int .i64) 3 w' w.heap.size (fun k_ => (w.heap.size ≤ k_)) v237 x5_2) ∧ Aside0 (Below w.heap.size w w'))
      case atStart => exact ⟨(0), (y236), (wrap64 ((x0_1.length : Int) - 1)), (by first | rfl | (simp; done) | (simp [*]; done)), (by first | rfl | (simp; done) | (simp [*]; done)), H', ⟨Nat.le_refl _⟩, ⟨by (with_reducible repeat (first | apply Kd.V_alloc | apply Kd.V_drewN | apply Kd.V_drew)); exact HO_0.out⟩, ⟨by (with_reducible repeat (first | apply Kd.R_alloc | apply Kd.R_drewN | apply Kd.R_drew)); exact Kd.R_mono HO238.out (fun _ hk => hk.1)⟩, ⟨by repeat (first | (with_reducible first | exact HB.out | apply below_alloc | apply pw_below_drewN | apply below_drew1) | exact HB.out)⟩⟩
      case round =>
       clear H'
       try clear c2
       try clear c2b0
       try clear c2b1
       try clear p2
       try clear c3
       try clear c3b0
       try clear c3b1
       try clear c4
       try clear c4b0
       try clear c4b1
       try clear p6
       obtain ⟨x4_2, x5_2, x6_2, rfl, rfl, HA, HK2, HO_0, HO_5, HB⟩ := hrel
       cases gk with
       | zero => exact absurd HA.out (by simp [chaffref01_String.l1])
       | succ k2 =>
        have H := HA.out
        clear HA
        simp only [chaffref01_String.l1] at H
        by_cases c8 : x6_2 ≥ 0
        ·rw [if_pos c8] at H
         have c8b0 : decide (0 ≤ x6_2) = true := decide_eq_true c8
         clear c8
         by_cases c9 : 0 ≤ x6_2
         ·rw [if_pos c9] at H
          have c9b0 : decide (0 ≤ x6_2) = true := decide_eq_true c9
          clear c9
          by_cases c10 : x6_2 < (x0_1.length : Int)
          ·rw [if_pos c10] at H
           have c10b0 : decide (x6_2 < (x0_1.length : Int)) = true := decide_eq_true c10
           clear c10
           by_cases c11 : x6_2 < (x5_2.length : Int)
           ·rw [if_pos c11] at H
            have c11b0 : decide (x6_2 < (x5_2.length : Int)) = true := decide_eq_true c11
            clear c11
            obtain ⟨y240, hy240⟩ : ∃ y_ : List Int, y_ = (x5_2.set (x6_2 : Int).toNat (wrap64 (Int.tdiv (wrap64 ((wrap64 (x4_2 * 65536)) + (rd x0_1 x6_2))) 10))) := ⟨_, rfl⟩
            replace H : (chaffref01_String.l1 k2 x0_1 x3_1 (Int.tmod (wrap64 ((wrap64 (x4_2 * 65536)) + (rd x0_1 x6_2))) 10) y240 (wrap64 (x6_2 - 1))) = some r := by first | (rw [hy240]; with_reducible exact H) | (have H2_ := (Option.bind_some _ _).symm.trans H; rw [hy240]; with_reducible exact H2_) | (have H2_ := (Option.bind_some _ _).symm.trans H; with_reducible exact H2_) | with_reducible exact H | (rw [hy240]; exact H) | exact H
            have Ny240 := Aside0.mk hy240
            clear hy240
            have H' := Aside0.mk H
            clear H
            have p239 : 0 ≤ (x6_2 : Int) := of_decide_eq_true (by first | (with_reducible assumption) | assumption)
            have q239 : x6_2 < (x0_1.length : Int) := of_decide_eq_true (by first | (with_reducible assumption) | assumption)
            obtain ⟨ad239, e239, hx239_0⟩ := Kd.at_int (Kd.V_reads' HO_0.out).2.2 x6_2 p239 q239
            cases e239
            replace p239 := eq_true p239
            replace q239 := eq_true q239
            have p12 : 0 ≤ (x6_2 : Int) := of_decide_eq_true (by first | (with_reducible assumption) | assumption)
            have q12 : (x6_2 : Int) < ((x5_2.length : Int) : Int) := of_decide_eq_true (by first | (with_reducible assumption) | assumption)
            obtain ⟨go12, co12, eo12, gb12, gl12, cl12, HG12⟩ := Kd.R_form HO_5.out (by omega)
            (first | cases eo12 | (injection eo12 with ea_ en_ ec_; (first | subst ea_ | (injection ea_ with ea_; subst ea_)); subst ec_; clear en_))
            have GB12 := Aside0.mk gb12
            have GG12 := Aside0.mk HG12
            clear gb12 gl12 HG12
            obtain ⟨hx12_0, hf12_0⟩ := Kd.R_celln 0 HO_5.out (x6_2 : Int) p12 q12
            replace p12 := eq_true p12
            replace q12 := eq_true q12
            have HP13 := Kd.R_putg HO_5.out (x6_2 : Int) (wrap64 (Int.tdiv (wrap64 ((wrap64 (x4_2 * 65536)) + (rd x0_1 x6_2))) 10))
            go_wp2_with (first | ((with_reducible refine gate_store (t := 3) (p := 32) rfl ?_); refine store_event (t := 3) (p := 32) (v := ?vo_w14) (w1 := (wr.setCell ⟨go12, (x6_2 : Int).toNat, none⟩ (.int .i64 (wrap64 (Int.tdiv (wrap64 ((wrap64 (x4_2 * 65536)) + (rd x0_1 x6_2))) 10))))) ?hg ?ho ?hn ?hr ?_; (case ho => rfl); (case hg => rfl); (case hn => rfl); (case hr => first | (go_simp; done) | (go_simp; rfl)); intro w14 hw; have hg : wr.grownBy w14 (some go12) := (by rw [hw]; exact HP13.2); have hp_ : Kd.R (Kd.int .i64) 3 w14 w.heap.size (fun k_ => (w.heap.size ≤ k_)) (.slice (some ⟨go12, 0, none⟩) x5_2.length co12) y240 := (by rw [hw, Ny240.out]; exact HP13.1); clear HP13; have n0_ := Aside0.mk (Kd.V_afterv (v := (.slice (some ⟨go12, 0, none⟩) x5_2.length co12)) (v1 := (.slice (some ⟨go12, 0, none⟩) x5_2.length co12)) (ok := (fun k_ => (P0_ k_ ∨ w.heap.size ≤ k_))) (by (with_reducible repeat (first | apply Kd.V_alloc | apply Kd.V_drewN | apply Kd.V_drew)); exact HO_0.out) hg (.inl rfl)); have n1_ := Aside0.mk (hp_); have n2_ := Aside0.mk ((by rw [hw]; exact below_set (HB.out) GB12.out : Below w.heap.size w w14)); clear HO_0; clear HO_5; clear HB; have HO_0 := n0_; have HO_5 := n1_; have HB := n2_; clear n0_ n1_ n2_; clear hg hw hp_))
            go_roundg k2
            case measure => have := HK1.out; have := HK2.out; omega
            case rel => exact ⟨(Int.tmod (wrap64 ((wrap64 (x4_2 * 65536)) + (rd x0_1 x6_2))) 10), (y240), (wrap64 (x6_2 - 1)), (by first | rfl | (simp; done) | (simp [*]; done)), (by first | rfl | (simp; done) | (simp [*]; done)), H', ⟨by have := HK1.out; have := HK2.out; omega⟩, ⟨by (with_reducible repeat (first | apply Kd.V_alloc | apply Kd.V_drewN | apply Kd.V_drew)); exact HO_0.out⟩, ⟨by (with_reducible repeat (first | apply Kd.R_alloc | apply Kd.R_drewN | apply Kd.R_drew)); exact HO_5.out⟩, ⟨by repeat (first | (with_reducible first | exact HB.out | apply below_alloc | apply pw_below_drewN | apply below_drew1) | exact HB.out)⟩⟩
           ·rw [if_neg c11] at H
            exact absurd H (by simp)
          ·rw [if_neg c10] at H
           exact absurd H (by simp)
         ·rw [if_neg c9] at H
          exact absurd H (by simp)
        ·rw [if_neg c8] at H
         have c8b0 : decide (0 ≤ x6_2) = false := decide_eq_false c8
         clear c8
         replace H := Option.bind_eq_some_iff.mp H
         obtain ⟨t241, A150, H⟩ := H
         replace H : ((some (([(wrap64 (48 + x4_2)) % 256] : List Int) : List Int)).bind fun y244 => (if (strOfNums y244).size + x3_1.size ≤ 9223372036854775807 then (chaffref01_String.l0 k2 t241 ((strOfNums y244) ++ x3_1)) else (none))) = some r := H
         have A15 := Aside0.mk A150
         clear A150
         obtain ⟨y244, hy244⟩ : ∃ y_ : List Int, y_ = (([(wrap64 (48 + x4_2)) % 256] : List Int)) := ⟨_, rfl⟩
         replace H : (if (strOfNums y244).size + x3_1.size ≤ 9223372036854775807 then (chaffref01_String.l0 k2 t241 ((strOfNums y244) ++ x3_1)) else (none)) = some r := by first | (rw [hy244]; with_reducible exact H) | (have H2_ := (Option.bind_some _ _).symm.trans H; rw [hy244]; with_reducible exact H2_) | (have H2_ := (Option.bind_some _ _).symm.trans H; with_reducible exact H2_) | with_reducible exact H | (rw [hy244]; exact H) | exact H
         have Ny244 := Aside0.mk hy244
         clear hy244
         by_cases c16 : (strOfNums y244).size + x3_1.size ≤ 9223372036854775807
         ·rw [if_pos c16] at H
          have c16b0 := eq_true c16
          have c16b1 : decide ((strOfNums y244).size + x3_1.size ≤ 9223372036854775807) = true := decide_eq_true c16
          try have c16b2 : (9223372036854775807 < (strOfNums y244).size + x3_1.size) = False := eq_false (Nat.not_lt.2 c16)
          have H' := Aside0.mk H
          clear H
          obtain ⟨Ao17, co17, eo17⟩ := Kd.R_slice HO_5.out
          subst eo17
          go_wp2_with (first | ((with_reducible refine gate_callee (f := 63) rfl ?_); refine goesL_ (some 36) rfl rfl Tryd.func63 (by kernel_rfl) rfl #[.slice Ao17 x5_2.length co17] rfl (by (try simp only [List.map_toArray, List.map_cons, List.map_nil]); first | done | rfl | (simp only [List.length_drop, List.length_take]; rfl)) ?_; (with_reducible refine (chaffref01_trim.calls k2 (fun k_ => some k_ = (.slice Ao17 x5_2.length co17 : Value).ownBlock) _ _ x5_2 t241 _ ?side1 A15.out).mono ?_); (case side1 => exact Kd.R_V (Kd.R_tight rfl (HO_5.out))); rintro e w18 ⟨v242, rfl, ho0, hb⟩; refine ⟨_, rfl, ?_⟩; have n0_ := Aside0.mk (Kd.V_below (by (with_reducible repeat (first | apply Kd.V_alloc | apply Kd.V_drewN | apply Kd.V_drew)); exact HO_0.out) hb); have n1_ := Aside0.mk (Kd.R_below (by (with_reducible repeat (first | apply Kd.R_alloc | apply Kd.R_drewN | apply Kd.R_drew)); exact HO_5.out) hb); have n2_ := Aside0.mk (Kd.V_lower (Kd.V_mono (ok' := fun k_ => (P0_ k_ ∨ w.heap.size ≤ k_)) ho0 (fun k_ hk_ => Or.elim hk_ (fun hs_ => (.inr (((HO_5.out).1 k_ hs_.symm)))) (fun hn_ => (.inr (Nat.le_trans (below_size (by repeat (first | (with_reducible first | exact HB.out | apply below_alloc | apply pw_below_drewN | apply below_drew1) | exact HB.out))) hn_))))) (below_size (by repeat (first | (with_reducible first | exact HB.out | apply below_alloc | apply pw_below_drewN | apply below_drew1) | exact HB.out)))); have n3_ := Aside0.mk (below_step (by repeat (first | (with_reducible first | exact HB.out | apply below_alloc | apply pw_below_drewN | apply below_drew1) | exact HB.out)) hb); clear HO_0; clear HO_5; clear HB; have HO_0 := n0_; have HO_5 := n1_; have HO243 := n2_; have HB := n3_; clear n0_ n1_ n2_ n3_; (try clear hb); (try clear hb2); (try clear hk); (try clear hi); (try clear ho0)) | ((with_reducible refine gate_dst (N := 40) rfl ?_); refine Kd.R_lit (Kd.int .u8) _ 5 ?hg (N := 40) ?hd (xs := ([(wrap64 (48 + x4_2)) % 256] : List Int)) (inner := [.int .u8 ((wrap64 (48 + x4_2)) % 256)]) (ok := fun _ => True) (okp := fun _ => True) ?hr ?hp (fun _ hk => hk) trivial (Below.refl _ _) (Nat.le_refl _) (by simp) ?_; (case hd => rfl); (case hg => rfl); (case hr => first | (go_simp; done) | (go_simp; rfl)); (case hp => exact (Reps.one (show Kd.M (Kd.int .u8) _ _ _ ((wrap64 (48 + x4_2)) % 256) [.int .u8 ((wrap64 (48 + x4_2)) % 256)] from rfl) (Reps.none _ _))); intro v245 w19 ho20 hb hg_ hnew_; clear hg_ hnew_; (first | rw [← Ny244.out] at ho20 | (simp only [Int.reduceToNat] at ho20; rw [← Ny244.out] at ho20)); have n0_ := Aside0.mk (Kd.V_elder' (by (with_reducible repeat (first | apply Kd.V_alloc | apply Kd.V_drewN | apply Kd.V_drew)); exact HO_0.out) (Kd.R_base ho20) hb); have n1_ := Aside0.mk (Kd.R_below (by (with_reducible repeat (first | apply Kd.R_alloc | apply Kd.R_drewN | apply Kd.R_drew)); exact HO_5.out) hb); have n2_ := Aside0.mk (Kd.V_elder' (by (with_reducible repeat (first | apply Kd.V_alloc | apply Kd.V_drewN | apply Kd.V_drew)); exact HO243.out) (Kd.R_base ho20) hb); have n3_ := Aside0.mk (Kd.R_lower (Kd.R_newM (M := fun k_ => (w.heap.size ≤ k_)) ho20 (below_size (by repeat (first | (with_reducible first | exact HB.out | apply below_alloc | apply pw_below_drewN | apply below_drew1) | exact HB.out))) (fun k_ h_ => h_)) (below_size (by repeat (first | (with_reducible first | exact HB.out | apply below_alloc | apply pw_below_drewN | apply below_drew1) | exact HB.out)))); have n4_ := Aside0.mk (below_step (by repeat (first | (with_reducible first | exact HB.out | apply below_alloc | apply pw_below_drewN | apply below_drew1) | exact HB.out)) hb); clear HO_0; clear HO_5; clear HO243; clear HB; have HO_0 := n0_; have HO_5 := n1_; have HO243 := n2_; have HO246 := n3_; have HB := n4_; clear n0_ n1_ n2_ n3_ n4_; clear hb ho20; have hcv21 := own_string (P := Tryd.prog) Tryd.underlying104 Tryd.underlying5 Tryd.underlying9 (Kd.own_of_R HO246.out)))
          go_roundg k2
          case measure => have := HK1.out; have := HK2.out; omega
          case rel => exact ⟨(t241), ((strOfNums y244) ++ x3_1), (by first | rfl | (simp; done) | (simp [*]; done)), H', ⟨by have := HK1.out; have := HK2.out; omega⟩, ⟨by (with_reducible repeat (first | apply Kd.V_alloc | apply Kd.V_drewN | apply Kd.V_drew)); exact Kd.V_mono HO243.out (fun _ hk => hk.1)⟩, ⟨by repeat (first | (with_reducible first | exact HB.out | apply below_alloc | apply pw_below_drewN | apply below_drew1) | exact HB.out)⟩⟩
         ·rw [if_neg c16] at H
          exact absurd H (by simp)
     ·rw [if_neg c4] at H
      exact absurd H (by simp)
    ·rw [if_neg c3] at H
     exact absurd H (by simp)
   ·rw [if_neg c2] at H
    have c2b0 : decide (0 < (x0_1.length : Int)) = false := decide_eq_false c2
    have c2b1 : decide (0 < x0_1.length) = false := decide_eq_false (by omega)
    clear c2
    by_cases c22 : x3_1.toList = ([] : List UInt8)
    ·rw [if_pos c22] at H
     have c22b0 : (x3_1.toList == ([] : List UInt8)) = true := beq_iff_eq.mpr c22
     have c22b1 : (x3_1.toList != ([] : List UInt8)) = false := bne_eq_false_iff_eq.mpr c22
     clear c22
     obtain rfl := Option.some.inj H
     obtain ⟨Ao23, co23, eo23⟩ := Kd.V_slice HO_0.out
     subst eo23
     go_wp2
     go_ret
     exact ⟨by first | rfl | (simp [errW_none, errW_some] <;> rfl) | (simp [*, errW_none, errW_some] <;> rfl), by repeat (first | (with_reducible first | exact HB.out | apply below_alloc | apply pw_below_drewN | apply below_drew1) | exact HB.out)⟩
    ·rw [if_neg c22] at H
     have c22b0 : (x3_1.toList == ([] : List UInt8)) = false := beq_eq_false_iff_ne.mpr c22
     have c22b1 : (x3_1.toList != ([] : List UInt8)) = true := bne_iff_ne.mpr c22
     obtain rfl := Option.some.inj H
     obtain ⟨Ao24, co24, eo24⟩ := Kd.V_slice HO_0.out
     subst eo24
     go_wp2
     go_ret
     exact ⟨by first | rfl | (simp [errW_none, errW_some] <;> rfl) | (simp [*, errW_none, errW_some] <;> rfl), by repeat (first | (with_reducible first | exact HB.out | apply below_alloc | apply pw_below_drewN | apply below_drew1) | exact HB.out)⟩
end Go.Proofs.YtgkdealidnidiaaDoor.Na
namespace Go.Proofs.YtgkdealidnidiaaDoor.Na
open Go.RowKit Go.Proofs.YtgkdealidnidiaaDoorW.PrintWords Go.Proofs.YtgkdealidnidiaaDoorW.PrintLast Go.Proofs.YtgkdealidnidiaaDoorW.PrintMore Go.Proofs.YtgkdealidnidiaaDoor.Dg
theorem lof_ev (n : Nat) (h : (wd BW n).length ≤ 1000000) : Ev (fun k => chafflaw01_Of.f k (wd BW n)) (wd BD n) := by
 refine Ev.congr (f := fun k => (chaffref01_From.f k (wd BW n)).bind fun t220 => (some t220)) (fun k => by
  unfold chafflaw01_Of.f nat_Nat_Words.f slices_Clone_uint64_uint64.f
  rw [if_pos (by omega)]; rfl) ?_
 exact Ev.bind (rfrom_ev (wd BW n) n (wd_R (by decide) n) (wd_V (by decide) n) (by omega)) (Ev.now _)
theorem len_BD {n k : Nat} (h : (wd BW n).length ≤ k) : (wd BD n).length ≤ 4 * k := by
 rw [len_le_iff (by decide)] at h ⊢
 rw [pow64] at h
 rw [pow16]
 rw [show 16 * (4 * k) = 64 * k by omega]; exact h
end Go.Proofs.YtgkdealidnidiaaDoor.Na
namespace Go.Proofs.YtgkdealidnidiaaDoor.Na
open Go.RowKit Go.Proofs.YtgkdealidnidiaaDoorW.PrintWords Go.Proofs.YtgkdealidnidiaaDoorW.PrintLast Go.Proofs.YtgkdealidnidiaaDoorW.PrintMore Go.Proofs.YtgkdealidnidiaaDoor.Dg
def decS (n : Nat) : ByteArray := ⟨(Lib.decDigits n).toArray⟩
theorem ba_ext {a b : ByteArray} (h : a.data.toList = b.data.toList) : a = b := by
 cases a; cases b; simp only [ByteArray.mk.injEq]; exact Array.ext' h
theorem ba_append (a b : ByteArray) : (a ++ b).data.toList = a.data.toList ++ b.data.toList := by simp
theorem ba_nil_iff (s : ByteArray) : s.toList = [] ↔ s.data.toList = [] := by rw [ByteArray.toList_eq]
theorem decS_data (n : Nat) : (decS n).data.toList = Lib.decDigits n := by simp [decS]
theorem decD_small {u : Nat} (h : u < 10) : Lib.decDigits u = [UInt8.ofNat (48 + u)] := by rw [Lib.decDigits, dif_pos h]
theorem decD_big {u : Nat} (h : ¬ u < 10) : Lib.decDigits u = Lib.decDigits (u / 10) ++ [UInt8.ofNat (48 + u % 10)] := by rw [Lib.decDigits, dif_neg h]
def digS (r : Nat) : ByteArray := strOfNums [(((48 + r) % 256 : Nat) : Int)]
theorem digS_data {r : Nat} (h : r < 10) : (digS r).data.toList = [UInt8.ofNat (48 + r)] := by
 simp only [digS, strOfNums_data, List.map_cons, List.map_nil, Int.toNat_natCast]
 rw [Nat.mod_eq_of_lt (by omega)]
theorem digS_size (r : Nat) : (digS r).size = 1 := by rw [digS, strOfNums_size]; rfl
def sres (n : Nat) (s : ByteArray) : ByteArray := if n = 0 then (if s.toList = ([] : List UInt8) then (⟨#[48]⟩ : ByteArray) else s) else decS n ++ s
theorem sres_step {n : Nat} (h : 0 < n) (s : ByteArray) : sres (n / 10) (digS (n % 10) ++ s) = sres n s := by
 have hd := digS_data (r := n % 10) (by omega)
 unfold sres
 rw [if_neg (show ¬ n = 0 by omega)]
 by_cases h1 : n < 10
 ·rw [if_pos (by omega), if_neg (by rw [ba_nil_iff, ba_append, hd]; simp)]
  apply ba_ext
  rw [ba_append, ba_append, hd, decS_data, decD_small h1, Nat.mod_eq_of_lt h1]
 ·rw [if_neg (by omega)]
  apply ba_ext
  rw [ba_append, ba_append, ba_append, hd, decS_data, decS_data, decD_big h1, List.append_assoc]
theorem ten_ex {r x : Int} (h0 : 0 ≤ r) (h1 : r < 10) (h2 : 0 ≤ x) (h3 : x < 65536) : ∃ q r' : Int, wrap64 (wrap64 (r * 65536) + x) = r * 65536 + x ∧ Int.tmod (r * 65536 + x) 10 = r' ∧ wrap64 (Int.tdiv (r * 65536 + x) 10) = q ∧ r * 65536 + x = q * 10 + r' ∧ 0 ≤ q ∧ q < 65536 ∧ 0 ≤ r' ∧ r' < 10 := by
 refine ⟨(r * 65536 + x) / 10, (r * 65536 + x) % 10, ?_, tmod_nn (by omega), ?_, by omega, by omega, by omega, by omega, by omega⟩
 ·rw [w64 (x := r * 65536) (by omega) (by omega), w64 (by omega) (by omega)]
 ·rw [tdiv_nn (by omega), w64 (by omega) (by omega)]
theorem rstr_l1 (l : List Int) (s : ByteArray) (z : ByteArray) (hR : R BD l) (hl : l.length ≤ 1000000) : ∀ (n : Nat) (o : List Int) (r : Int), n ≤ l.length → o.length = l.length → R BD o → 0 ≤ r → r < 10 → V BD (l.drop n) = V BD (o.drop n) * 10 + r →
  (∀ (q : List Int) (r' : Int), R BD q → q.length = l.length → V BD l = V BD q * 10 + r' → 0 ≤ r' → r' < 10 → Ev (fun k => (chaffref01_trim.f k q).bind fun t241 => ((some (([(wrap64 (48 + r')) % 256] : List Int) : List Int)).bind fun y244 => (if (strOfNums y244).size + s.size ≤ 9223372036854775807 then (chaffref01_String.l0 k t241 ((strOfNums y244) ++ s)) else (none)))) z) →
  Ev (fun k => chaffref01_String.l1 k l s r o ((n : Int) - 1)) z
 | 0, o, r, hn, ho, hRo, hr0, hr1, hV, K => by
  refine Ev.step (fun k => by rw [chaffref01_String.l1, if_neg (by omega)]) (K o r hRo ho (by simpa using hV) hr0 hr1)
 | n + 1, o, r, hn, ho, hRo, hr0, hr1, hV, K => by
  have ra := R_getD hR (by decide) n
  rw [BDi] at ra
  have hrd := rd_nat l n
  have hVl := V_drop BD l n (by omega)
  generalize l.getD n 0 = x at ra hrd hVl
  obtain ⟨q, r', e1, e2, e3, hqr, hq0, hq1, hr0', hr1'⟩ := ten_ex hr0 hr1 ra.1 ra.2
  have hE := rstr_l1 l s z hR hl n (o.set n q) r' (by omega) (by rw [List.length_set]; exact ho) (R_set hRo n hq0 (by rw [BDi]; exact hq1)) hr0' hr1' (by
   rw [hVl, V_drop BD (o.set n q) n (by rw [List.length_set]; omega), List.drop_set, if_pos (by omega), hV, List.getD_eq_getElem?_getD, List.getElem?_set_self (by omega), BDi]
   simp only [Option.getD_some]
   rw [BDi] at hV
   generalize V 65536 (o.drop (n + 1)) = A
   grind) K
  refine Ev.step (fun k => ?_) hE
  have g1 : ((n + 1 : Nat) : Int) - 1 = (n : Int) := by omega
  have g2 : (n : Int) ≥ 0 := by omega
  have g3 : (n : Int) < (l.length : Int) := by omega
  have g4 : (n : Int) < (o.length : Int) := by omega
  have E := Aside0.mk (show wrap64 ((n : Int) - 1) = (n : Int) - 1 from w64 (by omega) (by omega))
  rw [g1, chaffref01_String.l1, if_pos g2, if_pos g2, if_pos g3, hrd, e1, e2, e3, if_pos g4, Int.toNat_natCast, E.out]
theorem rstr_loop : ∀ (d n : Nat) (s : ByteArray), n < 10 ^ d → s.size + d ≤ 1000000000 → (wd BD n).length ≤ 1000000 → Ev (fun k => chaffref01_String.l0 k (wd BD n) s) (sres n s)
 | d, n, s, hd, hs, hl => by
  rcases Nat.eq_zero_or_pos n with h0 | h0
  ·subst h0
   refine Ev.step (f := fun _ => some (sres 0 s)) (fun k => ?_) (Ev.now _)
   rw [wd_zero, chaffref01_String.l0, if_neg (by simp)]
   unfold sres
   rw [if_pos rfl]
   by_cases hs0 : s.toList = ([] : List UInt8)
   ·rw [if_pos hs0, if_pos hs0]
   ·rw [if_neg hs0, if_neg hs0]
  ·match d, hd with
   | 0, hd => exact absurd hd (by omega)
   | d + 1, hd =>
    have hln : 0 < (wd BD n).length := by
     rcases Nat.eq_zero_or_pos (wd BD n).length with h | h
     ·exact absurd (List.length_eq_zero_iff.1 h) (wd_ne (by decide) h0)
     ·exact h
    have E := Aside0.mk (show wrap64 (((wd BD n).length : Int) - 1) = ((wd BD n).length : Int) - 1 from w64 (by omega) (by omega))
    have hq := len_mono (b := BD) (x := n / 10) (y := n) (by decide) (Nat.div_le_self _ _)
    have hd2 : n / 10 < 10 ^ d := by rw [Nat.pow_succ] at hd; omega
    have ih := rstr_loop d (n / 10) (digS (n % 10) ++ s) hd2 (by rw [ByteArray.size_append, digS_size]; omega) (by omega)
    rw [sres_step h0] at ih
    refine Ev.step (f := fun k => chaffref01_String.l1 k (wd BD n) s 0 (List.replicate (wd BD n).length 0) (((wd BD n).length : Int) - 1)) (fun k => ?_) ?_
    ·have g1 : ((wd BD n).length : Int) > 0 := by omega
     have g2 : (0 : Int) ≤ ((wd BD n).length : Int) := by omega
     have g3 : (wd BD n).length ≤ 35184372088832 := by omega
     rw [chaffref01_String.l0, if_pos g1, if_pos g2, Int.toNat_natCast, if_pos g3, E.out]
    ·refine rstr_l1 (wd BD n) s _ (wd_R (by decide) n) hl (wd BD n).length (List.replicate (wd BD n).length 0) 0 (Nat.le_refl _) (by simp) (R_zeros (by decide) _) (by omega) (by omega) (by simp [V]) ?_
     intro q r' hRq hlq hVq hr0 hr1
     rw [wd_V (by decide)] at hVq
     have hVq2 : V BD q = ((n / 10 : Nat) : Int) := by omega
     obtain rfl : r' = ((n % 10 : Nat) : Int) := by omega
     refine Ev.bind (trimf_ev q (by omega)) ?_
     rw [strip_eq (n := n / 10) (by decide) hRq hVq2]
     refine Ev.congr (fun k => ?_) ih
     have W := Aside0.mk (show (wrap64 (48 + ((n % 10 : Nat) : Int))) % 256 = (((48 + n % 10) % 256 : Nat) : Int) by rw [w64 (by omega) (by omega)]; omega)
     have z1 : (digS (n % 10)).size + s.size ≤ 9223372036854775807 := by rw [digS_size]; omega
     rw [Option.bind_some, W.out]
     unfold digS at z1 ⊢
     rw [if_pos z1]
theorem rstr_ev (n : Nat) (hl : (wd BD n).length ≤ 1000000) : Ev (fun k => chaffref01_String.f k (wd BD n)) (decS n) := by
 have h : n < 10 ^ (5 * (wd BD n).length) := by
  have h1 : n < BD ^ (wd BD n).length := (len_le_iff (by decide) _).1 (Nat.le_refl _)
  have h2 : BD ^ (wd BD n).length ≤ (10 ^ 5) ^ (wd BD n).length := Nat.pow_le_pow_left (by decide) _
  rw [← Nat.pow_mul] at h2
  omega
 have := rstr_loop _ n (⟨#[]⟩ : ByteArray) h (by simp [ByteArray.size]; omega) hl
 have e : sres n (⟨#[]⟩ : ByteArray) = decS n := by
  unfold sres
  rcases Nat.eq_zero_or_pos n with h0 | h0
  ·subst h0; rw [if_pos rfl, if_pos (by rw [ba_nil_iff])]; apply ba_ext; rw [decS_data, decD_small (by omega)]; rfl
  ·rw [if_neg (by omega)]; apply ba_ext; rw [ba_append]; simp
 rw [e] at this
 exact this
end Go.Proofs.YtgkdealidnidiaaDoor.Na
namespace Go.Proofs.YtgkdealidnidiaaDoor.Na
open Go.RowKit Go.Proofs.YtgkdealidnidiaaDoorW.PrintWords Go.Proofs.YtgkdealidnidiaaDoorW.PrintLast Go.Proofs.YtgkdealidnidiaaDoorW.PrintMore
attribute [local go_sem] max2_int max_two
set_option linter.unusedVariables false
set_option linter.unusedSimpArgs false
def bits_LeadingZeros64.f (k : Nat) (a0 : Int) : Option (Int) := (bits_Len64.f k a0).bind fun t128 => (some (wrap64 (64 - t128)))
set_option maxHeartbeats 8000000 in
set_option maxRecDepth 100000 in
theorem bits_LeadingZeros64.calls (k : Nat) (a0 : Int) (r : Int) (w : World) (h : bits_LeadingZeros64.f k a0 = some r) :
  Calls Tryd.prog 106 #[.int .u64 a0] w fun e w' => e = .returned (.int .i64 r) ∧ Drawn0 w w' := by
 have H : ((bits_Len64.f k a0).bind fun t128 => (some (wrap64 (64 - t128)))) = some r := h
 clear h
 replace H := Option.bind_eq_some_iff.mp H
 obtain ⟨t128, A20, H⟩ := H
 replace H : (some (wrap64 (64 - t128))) = some r := H
 have A2 := Aside0.mk A20
 clear A20
 obtain rfl := Option.some.inj H
 go_enter Tryd.func106, Tryd.ntmps106
 go_wp2_with (first | ((with_reducible refine gate_callee (f := 66) rfl ?_); refine goesL_ (some 4) rfl rfl Tryd.func66 (by kernel_rfl) rfl #[.int .u64 a0] rfl (by (try simp only [List.map_toArray, List.map_cons, List.map_nil]); first | done | rfl | (simp only [List.length_drop, List.length_take]; rfl)) ?_; (with_reducible refine (bits_Len64.calls k a0 t128 _ A2.out).mono ?_); rintro e w' ⟨rfl, ⟨nd, rfl⟩⟩; refine ⟨_, rfl, ?_⟩))
 go_ret
 exact ⟨by first | rfl | (simp; done) | (simp [*]; done), by repeat (first | exact Drawn0.refl _ | apply Drawn0.step)⟩
end Go.Proofs.YtgkdealidnidiaaDoor.Na
