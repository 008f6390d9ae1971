/- Texts of the seat, as far as the row needs them. -/
import Derived.ArgAppend
import Derived.Below
import Derived.BigQuiet
import Derived.Deep.AppendLies
import Derived.Deep.CutBlock
import Derived.Deep.DeepCutAuto
import Derived.Deep.Draws
import Derived.Deep.Light
import Derived.Deep.LoopGhost
import Derived.Deep.OwnRows
import Derived.Deep.QuietTactic
import Derived.Deep.RegionHeld3
import Derived.Ground.Names2Prog
import Derived.KernelRfl
import Derived.Laws.AppendOwn
import Derived.Laws.BitsAllLaws
import Derived.Laws.BitsLemmas
import Derived.Laws.BytesArg
import Derived.Laws.CopyOwn
import Derived.Laws.Externs
import Derived.Laws.IdiomCopy
import Derived.Laws.MakeOwn
import Derived.Laws.OwnMore
import Derived.Laws.ResultCell
import Derived.Laws.Rows
import Derived.Laws.Slices
import Derived.Laws.StructEq
import Derived.Laws.Tables
import Derived.Lib.AppendStr
import Derived.Lib.BitFns
import Derived.Lib.ConvBytes
import Derived.Lib.ItoaMem
import Derived.Lib.LazyBuf
import Derived.Lib.SliceRun
import Derived.Lib.SmallJoins
import Derived.Lib.Strings
import Derived.Lib.Walk
import Derived.Maps.AppendAt
import Derived.OrdersHeld
import Derived.Outline
import Derived.OwnWalk
import Derived.RowKit
import Derived.RowKit3
import Derived.Shelf.Bits.Mul64
import Derived.Shelf.LaysM
import Derived.Shelf.Slices.Cells
import Derived.Shelf.Slices.CompactI
import Derived.Shelf.Slices.ReverseS
import Derived.Shelf.Small.Bits
import Derived.Shelf.Spec.BitsCarry
import Derived.Shelf.Strconv.Itoa0
import Derived.Shelf.Strconv.Itoa1
import Derived.Shelf.Strconv.Itoa2
import Derived.Shelf.Strings.Builder1
import Derived.Shelf.Strings.Builder2
import Derived.Shelf.Strings.Builder2Cap
import Derived.Shelf.Strings.BuilderCap
import Derived.Shelf.Strings.BuilderF
import Derived.Shelf.Strings.BuilderK
import Derived.Shelf.Strings.OnBuilder
import Derived.Shelf.Strings.Prefix
import Derived.Shelf.Strings.Repeat
import Derived.StillTailTactics
import Derived.Tactics
import Derived.Test.YtgkdealidnidiaaDoorProg
import Derived.WalkKit
import Derived.WideLaws
import Derived.Test.YtgkdealidnidiaaDoorQNatShifts0
import Derived.Test.YtgkdealidnidiaaDoorQNatShifts1
import Derived.Test.YtgkdealidnidiaaDoorQNatShifts2
import Derived.Test.YtgkdealidnidiaaDoorQNatShifts3
set_option linter.unusedVariables false
set_option linter.unusedSimpArgs false
namespace Go.Proofs.YtgkdealidnidiaaDoor.Na
open Go.RowKit Go.Proofs.YtgkdealidnidiaaDoorW.PrintWords Go.Proofs.YtgkdealidnidiaaDoorW.PrintLast Go.Proofs.YtgkdealidnidiaaDoorW.PrintMore
attribute [local go_sem] min2_int min_two
set_option linter.unusedVariables false
set_option linter.unusedSimpArgs false
def chafflaw01_got.f (k : Nat) (l0_0 : List Int) (a1 : Int) (l2 : List Int) : Option (Bool) := (chaffref01_Bits.f k l2).bind fun t229 => (if t229 > 4096 then (if a1 = 1 then ((nat_Nat_Zero.f l0_0).bind fun t230 => (some t230)) else (some false)) else (if a1 = 0 then ((chafflaw01_Is.f k l0_0 l2).bind fun t231 => (some t231)) else (some false)))
set_option maxHeartbeats 8000000 in
set_option maxRecDepth 100000 in
theorem chafflaw01_got.calls (k : Nat) (A0_0 : Option Addr) (c0_0 : Nat) (l0_0 : List Int) (a1 : Int) (A2 : Option Addr) (c2 : Nat) (l2 : List Int) (r : Bool) (w : World) (hr0_0 : Kd.C (Kd.int .u64) w A0_0 l0_0.length l0_0) (hc0_0 : l0_0.length ≤ c0_0) (hr2 : Kd.C (Kd.int .i64) w A2 l2.length l2) (hc2 : l2.length ≤ c2) (h : chafflaw01_got.f k l0_0 a1 l2 = some r) :
    Calls Tryd.prog 17 #[.agg #[.slice A0_0 l0_0.length c0_0], .int .i64 a1, .slice A2 l2.length c2] w fun e w' => e = .returned (.bool r) ∧ Below w.heap.size w w' := by
  have hu29 := Tryd.underlying29
  have HR0_0 := Aside0.mk hr0_0
  have HC0_0 := Aside0.mk hc0_0
  clear hr0_0 hc0_0
  have HR2 := Aside0.mk hr2
  have HC2 := Aside0.mk hc2
  clear hr2 hc2
  have HB := Aside0.mk (Below.refl w.heap.size w)
  have H : ((chaffref01_Bits.f k l2).bind fun t229 => (if t229 > 4096 then (if a1 = 1 then ((nat_Nat_Zero.f l0_0).bind fun t230 => (some t230)) else (some false)) else (if a1 = 0 then ((chafflaw01_Is.f k l0_0 l2).bind fun t231 => (some t231)) else (some false)))) = some r := h
  clear h
  replace H := Option.bind_eq_some_iff.mp H
  obtain ⟨t229, A40, H⟩ := H
  replace H : (if t229 > 4096 then (if a1 = 1 then ((nat_Nat_Zero.f l0_0).bind fun t230 => (some t230)) else (some false)) else (if a1 = 0 then ((chafflaw01_Is.f k l0_0 l2).bind fun t231 => (some t231)) else (some false))) = some r := H
  have A4 := Aside0.mk A40
  clear A40
  by_cases c5 : t229 > 4096
  · rw [if_pos c5] at H
    have c5b0 : decide (4096 < t229) = true := decide_eq_true c5
    clear c5
    by_cases c6 : a1 = 1
    · rw [if_pos c6] at H
      have c6b0 : (a1 == 1) = true := beq_iff_eq.mpr c6
      have c6b1 : (a1 != 1) = false := bne_eq_false_iff_eq.mpr c6
      clear c6
      replace H := Option.bind_eq_some_iff.mp H
      obtain ⟨t230, A70, H⟩ := H
      replace H : (some t230) = some r := H
      have A7 := Aside0.mk A70
      clear A70
      obtain rfl := Option.some.inj H
      go_enter Tryd.func17, Tryd.ntmps17
      go_wp2_with (first | ((with_reducible refine gate_dst (N := 3) rfl ?_); refine box_event ?hg (N := 3) ?hd (cs := #[.slice A0_0 l0_0.length c0_0]) (t := 29) ?hr ?_; (case hd => rfl); (case hg => rfl); (case hr => first | (go_simp; done) | (go_simp; rfl)); intro gb228 hg w8 hbox hb; have n0_ := Aside0.mk (below_step (by repeat (first | (with_reducible first | exact HB.out | apply below_alloc | apply pw_below_drewN | apply below_drew1) | exact HB.out)) hb); have n1_ := Aside0.mk (hbox); have n2_ := Aside0.mk ((by rw [hg]; exact (below_size (by repeat (first | (with_reducible first | exact HB.out | apply below_alloc | apply pw_below_drewN | apply below_drew1) | exact HB.out))) : w.heap.size ≤ gb228)); have n3_ := Aside0.mk ((by rw [hg]; exact (below_size (by repeat (first | (with_reducible first | exact HB.out | apply below_alloc | apply pw_below_drewN | apply below_drew1) | exact HB.out))) : w.heap.size ≤ gb228)); clear HB; have HB := n0_; have BK228 := n1_; have GW228 := n2_; have GE228 := n3_; clear n0_ n1_ n2_ n3_; clear hb hbox hg) | ((with_reducible refine gate_callee (f := 21) rfl ?_); refine goesL_ (some 8) rfl rfl Tryd.func21 (by kernel_rfl) rfl #[.slice A2 l2.length c2] rfl (by (try simp only [List.map_toArray, List.map_cons, List.map_nil]); first | done | rfl | (simp only [List.length_drop, List.length_take]; rfl)) ?_; (with_reducible refine (chaffref01_Bits.calls k _ _ l2 t229 _ ?side1 ?side2 A4.out).mono ?_); (case side1 => repeat (first | exact (Kd.C_below HR2.out HB.out) | (with_reducible refine Kd.C_alloc ?_ _) | (with_reducible refine Kd.C_drewN ?_ _) | (with_reducible refine Kd.C_drew ?_))); (case side2 => exact HC2.out); rintro e w' ⟨rfl, ⟨nd, rfl⟩⟩; refine ⟨_, rfl, ?_⟩; have hcz9_0 : w8.cell? ⟨gb228, 0, none⟩ = some (.slice A0_0 l0_0.length c0_0) := (blk_cell BK228.out 0).trans rfl; have hfz9_0 := blk_frozen BK228.out 0) | (go_at_call 22; (with_reducible refine (nat_Nat_Zero.calls _ _ l0_0 t230 _ ?side1 ?side2 A7.out).mono ?_); (case side1 => repeat (first | exact (Kd.C_below HR0_0.out (by repeat (first | (with_reducible first | exact HB.out | apply below_alloc | apply pw_below_drewN | apply below_drew1 | refine below_set ?_ GE228.out) | exact HB.out))) | (with_reducible refine Kd.C_alloc ?_ _) | (with_reducible refine Kd.C_drewN ?_ _) | (with_reducible refine Kd.C_drew ?_))); (case side2 => exact HC0_0.out); rintro e w10 ⟨rfl, hb⟩; have n0_ := Aside0.mk (blk_below (g := gb228) (o := .cells #[.slice A0_0 l0_0.length c0_0] 29 (0, 0)) (by (with_reducible repeat (first | refine blk_drewN ?_ _ | refine blk_drew ?_ | refine blk_alloc ?_ _)); exact BK228.out) hb); have n1_ := Aside0.mk (below_step (by repeat (first | (with_reducible first | exact HB.out | apply below_alloc | apply pw_below_drewN | apply below_drew1 | refine below_set ?_ GE228.out) | exact HB.out)) hb); clear BK228; clear HB; have BK228 := n0_; have HB := n1_; clear n0_ n1_; (try clear hb); (try clear hb2); (try clear hk); (try clear hi)))
      go_ret
      exact ⟨by first | rfl | (simp [errW_none, errW_some] <;> rfl) | (simp [*, errW_none, errW_some] <;> rfl), by repeat (first | (with_reducible first | exact HB.out | apply below_alloc | apply pw_below_drewN | apply below_drew1 | refine below_set ?_ GE228.out) | exact HB.out)⟩
    · rw [if_neg c6] at H
      have c6b0 : (a1 == 1) = false := beq_eq_false_iff_ne.mpr c6
      have c6b1 : (a1 != 1) = true := bne_iff_ne.mpr c6
      obtain rfl := Option.some.inj H
      go_enter Tryd.func17, Tryd.ntmps17
      go_wp2_with (first | ((with_reducible refine gate_dst (N := 3) rfl ?_); refine box_event ?hg (N := 3) ?hd (cs := #[.slice A0_0 l0_0.length c0_0]) (t := 29) ?hr ?_; (case hd => rfl); (case hg => rfl); (case hr => first | (go_simp; done) | (go_simp; rfl)); intro gb228 hg w11 hbox hb; have n0_ := Aside0.mk (below_step (by repeat (first | (with_reducible first | exact HB.out | apply below_alloc | apply pw_below_drewN | apply below_drew1) | exact HB.out)) hb); have n1_ := Aside0.mk (hbox); have n2_ := Aside0.mk ((by rw [hg]; exact (below_size (by repeat (first | (with_reducible first | exact HB.out | apply below_alloc | apply pw_below_drewN | apply below_drew1) | exact HB.out))) : w.heap.size ≤ gb228)); have n3_ := Aside0.mk ((by rw [hg]; exact (below_size (by repeat (first | (with_reducible first | exact HB.out | apply below_alloc | apply pw_below_drewN | apply below_drew1) | exact HB.out))) : w.heap.size ≤ gb228)); clear HB; have HB := n0_; have BK228 := n1_; have GW228 := n2_; have GE228 := n3_; clear n0_ n1_ n2_ n3_; clear hb hbox hg) | ((with_reducible refine gate_callee (f := 21) rfl ?_); refine goesL_ (some 8) rfl rfl Tryd.func21 (by kernel_rfl) rfl #[.slice A2 l2.length c2] rfl (by (try simp only [List.map_toArray, List.map_cons, List.map_nil]); first | done | rfl | (simp only [List.length_drop, List.length_take]; rfl)) ?_; (with_reducible refine (chaffref01_Bits.calls k _ _ l2 t229 _ ?side1 ?side2 A4.out).mono ?_); (case side1 => repeat (first | exact (Kd.C_below HR2.out HB.out) | (with_reducible refine Kd.C_alloc ?_ _) | (with_reducible refine Kd.C_drewN ?_ _) | (with_reducible refine Kd.C_drew ?_))); (case side2 => exact HC2.out); rintro e w' ⟨rfl, ⟨nd, rfl⟩⟩; refine ⟨_, rfl, ?_⟩))
      go_ret
      exact ⟨by first | rfl | (simp [errW_none, errW_some] <;> rfl) | (simp [*, errW_none, errW_some] <;> rfl), by repeat (first | (with_reducible first | exact HB.out | apply below_alloc | apply pw_below_drewN | apply below_drew1 | refine below_set ?_ GE228.out) | exact HB.out)⟩
  · rw [if_neg c5] at H
    have c5b0 : decide (4096 < t229) = false := decide_eq_false c5
    clear c5
    by_cases c12 : a1 = 0
    · rw [if_pos c12] at H
      have c12b0 : (a1 == 0) = true := beq_iff_eq.mpr c12
      have c12b1 : (a1 != 0) = false := bne_eq_false_iff_eq.mpr c12
      clear c12
      replace H := Option.bind_eq_some_iff.mp H
      obtain ⟨t231, A130, H⟩ := H
      replace H : (some t231) = some r := H
      have A13 := Aside0.mk A130
      clear A130
      obtain rfl := Option.some.inj H
      go_enter Tryd.func17, Tryd.ntmps17
      go_wp2_with (first | ((with_reducible refine gate_dst (N := 3) rfl ?_); refine box_event ?hg (N := 3) ?hd (cs := #[.slice A0_0 l0_0.length c0_0]) (t := 29) ?hr ?_; (case hd => rfl); (case hg => rfl); (case hr => first | (go_simp; done) | (go_simp; rfl)); intro gb228 hg w14 hbox hb; have n0_ := Aside0.mk (below_step (by repeat (first | (with_reducible first | exact HB.out | apply below_alloc | apply pw_below_drewN | apply below_drew1) | exact HB.out)) hb); have n1_ := Aside0.mk (hbox); have n2_ := Aside0.mk ((by rw [hg]; exact (below_size (by repeat (first | (with_reducible first | exact HB.out | apply below_alloc | apply pw_below_drewN | apply below_drew1) | exact HB.out))) : w.heap.size ≤ gb228)); have n3_ := Aside0.mk ((by rw [hg]; exact (below_size (by repeat (first | (with_reducible first | exact HB.out | apply below_alloc | apply pw_below_drewN | apply below_drew1) | exact HB.out))) : w.heap.size ≤ gb228)); clear HB; have HB := n0_; have BK228 := n1_; have GW228 := n2_; have GE228 := n3_; clear n0_ n1_ n2_ n3_; clear hb hbox hg) | ((with_reducible refine gate_callee (f := 21) rfl ?_); refine goesL_ (some 8) rfl rfl Tryd.func21 (by kernel_rfl) rfl #[.slice A2 l2.length c2] rfl (by (try simp only [List.map_toArray, List.map_cons, List.map_nil]); first | done | rfl | (simp only [List.length_drop, List.length_take]; rfl)) ?_; (with_reducible refine (chaffref01_Bits.calls k _ _ l2 t229 _ ?side1 ?side2 A4.out).mono ?_); (case side1 => repeat (first | exact (Kd.C_below HR2.out HB.out) | (with_reducible refine Kd.C_alloc ?_ _) | (with_reducible refine Kd.C_drewN ?_ _) | (with_reducible refine Kd.C_drew ?_))); (case side2 => exact HC2.out); rintro e w' ⟨rfl, ⟨nd, rfl⟩⟩; refine ⟨_, rfl, ?_⟩; have hcz15_0 : w14.cell? ⟨gb228, 0, none⟩ = some (.slice A0_0 l0_0.length c0_0) := (blk_cell BK228.out 0).trans rfl; have hfz15_0 := blk_frozen BK228.out 0) | (go_at_call 27; (with_reducible refine (chafflaw01_Is.calls k _ _ l0_0 _ _ l2 t231 _ ?side1 ?side2 ?side3 ?side4 A13.out).mono ?_); (case side1 => repeat (first | exact (Kd.C_below HR0_0.out (by repeat (first | (with_reducible first | exact HB.out | apply below_alloc | apply pw_below_drewN | apply below_drew1 | refine below_set ?_ GE228.out) | exact HB.out))) | (with_reducible refine Kd.C_alloc ?_ _) | (with_reducible refine Kd.C_drewN ?_ _) | (with_reducible refine Kd.C_drew ?_))); (case side2 => exact HC0_0.out); (case side3 => repeat (first | exact (Kd.C_below HR2.out (by repeat (first | (with_reducible first | exact HB.out | apply below_alloc | apply pw_below_drewN | apply below_drew1 | refine below_set ?_ GE228.out) | exact HB.out))) | (with_reducible refine Kd.C_alloc ?_ _) | (with_reducible refine Kd.C_drewN ?_ _) | (with_reducible refine Kd.C_drew ?_))); (case side4 => exact HC2.out); rintro e w16 ⟨rfl, hb⟩; have n0_ := Aside0.mk (blk_below (g := gb228) (o := .cells #[.slice A0_0 l0_0.length c0_0] 29 (0, 0)) (by (with_reducible repeat (first | refine blk_drewN ?_ _ | refine blk_drew ?_ | refine blk_alloc ?_ _)); exact BK228.out) hb); have n1_ := Aside0.mk (below_step (by repeat (first | (with_reducible first | exact HB.out | apply below_alloc | apply pw_below_drewN | apply below_drew1 | refine below_set ?_ GE228.out) | exact HB.out)) hb); clear BK228; clear HB; have BK228 := n0_; have HB := n1_; clear n0_ n1_; (try clear hb); (try clear hb2); (try clear hk); (try clear hi)))
      go_ret
      exact ⟨by first | rfl | (simp [errW_none, errW_some] <;> rfl) | (simp [*, errW_none, errW_some] <;> rfl), by repeat (first | (with_reducible first | exact HB.out | apply below_alloc | apply pw_below_drewN | apply below_drew1 | refine below_set ?_ GE228.out) | exact HB.out)⟩
    · rw [if_neg c12] at H
      have c12b0 : (a1 == 0) = false := beq_eq_false_iff_ne.mpr c12
      have c12b1 : (a1 != 0) = true := bne_iff_ne.mpr c12
      obtain rfl := Option.some.inj H
      go_enter Tryd.func17, Tryd.ntmps17
      go_wp2_with (first | ((with_reducible refine gate_dst (N := 3) rfl ?_); refine box_event ?hg (N := 3) ?hd (cs := #[.slice A0_0 l0_0.length c0_0]) (t := 29) ?hr ?_; (case hd => rfl); (case hg => rfl); (case hr => first | (go_simp; done) | (go_simp; rfl)); intro gb228 hg w17 hbox hb; have n0_ := Aside0.mk (below_step (by repeat (first | (with_reducible first | exact HB.out | apply below_alloc | apply pw_below_drewN | apply below_drew1) | exact HB.out)) hb); have n1_ := Aside0.mk (hbox); have n2_ := Aside0.mk ((by rw [hg]; exact (below_size (by repeat (first | (with_reducible first | exact HB.out | apply below_alloc | apply pw_below_drewN | apply below_drew1) | exact HB.out))) : w.heap.size ≤ gb228)); have n3_ := Aside0.mk ((by rw [hg]; exact (below_size (by repeat (first | (with_reducible first | exact HB.out | apply below_alloc | apply pw_below_drewN | apply below_drew1) | exact HB.out))) : w.heap.size ≤ gb228)); clear HB; have HB := n0_; have BK228 := n1_; have GW228 := n2_; have GE228 := n3_; clear n0_ n1_ n2_ n3_; clear hb hbox hg) | ((with_reducible refine gate_callee (f := 21) rfl ?_); refine goesL_ (some 8) rfl rfl Tryd.func21 (by kernel_rfl) rfl #[.slice A2 l2.length c2] rfl (by (try simp only [List.map_toArray, List.map_cons, List.map_nil]); first | done | rfl | (simp only [List.length_drop, List.length_take]; rfl)) ?_; (with_reducible refine (chaffref01_Bits.calls k _ _ l2 t229 _ ?side1 ?side2 A4.out).mono ?_); (case side1 => repeat (first | exact (Kd.C_below HR2.out HB.out) | (with_reducible refine Kd.C_alloc ?_ _) | (with_reducible refine Kd.C_drewN ?_ _) | (with_reducible refine Kd.C_drew ?_))); (case side2 => exact HC2.out); rintro e w' ⟨rfl, ⟨nd, rfl⟩⟩; refine ⟨_, rfl, ?_⟩))
      go_ret
      exact ⟨by first | rfl | (simp [errW_none, errW_some] <;> rfl) | (simp [*, errW_none, errW_some] <;> rfl), by repeat (first | (with_reducible first | exact HB.out | apply below_alloc | apply pw_below_drewN | apply below_drew1 | refine below_set ?_ GE228.out) | exact HB.out)⟩
end Go.Proofs.YtgkdealidnidiaaDoor.Na
namespace Go.Proofs.YtgkdealidnidiaaDoor.Na
open Go.RowKit Go.Proofs.YtgkdealidnidiaaDoorW.PrintWords Go.Proofs.YtgkdealidnidiaaDoorW.PrintLast Go.Proofs.YtgkdealidnidiaaDoorW.PrintMore Go.Proofs.YtgkdealidnidiaaDoor.Dg
def fewL (l : List (List Int)) : Bool := l.all fun x => decide (x.length ≤ 70)
theorem few_loop (l : List (List Int)) (hl : l.length ≤ 1000) : ∀ (d i : Nat), i + d = l.length → Ev (fun k => chafflaw01_Few.l0 k l (l.length : Int) i) (fewL (l.drop i))
  | 0, i, hi => by
    obtain rfl : i = l.length := by omega
    refine Ev.step (f := fun _ => some true) (fun k => by rw [chafflaw01_Few.l0, if_neg (by omega)]) ?_
    rw [List.drop_of_length_le (Nat.le_refl _)]
    exact Ev.now _
  | d + 1, i, hi => by
    have ih := few_loop l hl d (i + 1) (by omega)
    have hd : l.drop i = l[i] :: l.drop (i + 1) := List.drop_eq_getElem_cons (by omega)
    have hr : rd_L1 l (i : Int) = l[i] := by unfold rd_L1; rw [Int.toNat_natCast]; simp [List.getD, List.getElem?_eq_getElem (show i < l.length by omega)]
    have E := Aside0.mk (show wrap64 ((i : Int) + 1) = ((i + 1 : Nat) : Int) by rw [w64 (by omega) (by omega)]; rfl)
    rw [hd]
    unfold fewL
    rw [List.all_cons]
    by_cases h : l[i].length ≤ 70
    · rw [decide_eq_true h, Bool.true_and]
      refine Ev.step (fun k => ?_) ih
      have g1 : (i : Int) < (l.length : Int) := by omega
      have g2 : (0 : Int) ≤ (i : Int) := by omega
      have g3 : ¬ ((l[i].length : Int) > 70) := by omega
      rw [chafflaw01_Few.l0, if_pos g1, if_pos g2, if_pos g1, hr, if_neg g3, E.out]
    · rw [decide_eq_false h, Bool.false_and]
      refine Ev.step (f := fun _ => some false) (fun k => ?_) (Ev.now _)
      have g1 : (i : Int) < (l.length : Int) := by omega
      have g2 : (0 : Int) ≤ (i : Int) := by omega
      have g3 : (l[i].length : Int) > 70 := by omega
      rw [chafflaw01_Few.l0, if_pos g1, if_pos g2, if_pos g1, hr, if_pos g3]
theorem few_ev (l : List (List Int)) (hl : l.length ≤ 1000) : Ev (fun k => chafflaw01_Few.f k l) (fewL l) := few_loop l hl l.length 0 (by omega)
theorem lof_ev (n : Nat) (h : (wd BW n).length ≤ 1000000) : Ev (fun k => chafflaw01_Of.f k (wd BW n)) (wd BD n) := by
  refine Ev.congr (f := fun k => (chaffref01_From.f k (wd BW n)).bind fun t220 => (some t220)) (fun k => by
    unfold chafflaw01_Of.f nat_Nat_Words.f slices_Clone_uint64_uint64.f
    rw [if_pos (by omega)]; rfl) ?_
  exact Ev.bind (rfrom_ev (wd BW n) n (wd_R (by decide) n) (wd_V (by decide) n) (by omega)) (Ev.now _)
theorem len_BD {n k : Nat} (h : (wd BW n).length ≤ k) : (wd BD n).length ≤ 4 * k := by
  rw [len_le_iff (by decide)] at h ⊢
  rw [pow64] at h
  rw [pow16]
  rw [show 16 * (4 * k) = 64 * k by omega]; exact h
theorem cmpN_zero (x y : Nat) : (cmpN x y == 0) = decide (x = y) := by
  unfold cmpN
  split
  · rw [decide_eq_false (by omega)]; rfl
  · split
    · rw [decide_eq_false (by omega)]; rfl
    · rw [decide_eq_true (by omega)]; rfl
theorem is_ev (n m : Nat) (h : (wd BW n).length ≤ 250000) : Ev (fun k => chafflaw01_Is.f k (wd BW n) (wd BD m)) (decide (n = m)) := by
  unfold chafflaw01_Is.f
  refine Ev.bind (lof_ev n (by omega)) (Ev.bind (rcmp_ev2 n m (by have := len_BD h; omega)) ?_)
  rw [cmpN_zero]
  exact Ev.now _
theorem got_ev (n : Nat) (e : Int) (m : Nat) (h : (wd BW n).length ≤ 250000) (hm : (wd BD m).length ≤ 1000000) :
    Ev (fun k => chafflaw01_got.f k (wd BW n) e (wd BD m)) (if 4096 < nb m then (decide (e = 1) && decide (n = 0)) else (decide (e = 0) && decide (n = m))) := by
  unfold chafflaw01_got.f
  refine Ev.bind (rbits_ev m hm) ?_
  by_cases hb : 4096 < nb m
  · rw [if_pos hb]
    refine Ev.congr (f := fun k => if e = 1 then ((nat_Nat_Zero.f (wd BW n)).bind fun t230 => (some t230)) else (some false)) (fun k => by rw [if_pos (by omega)]) ?_
    by_cases he : e = 1
    · rw [decide_eq_true he, Bool.true_and]
      simp only [if_pos he, nat_Nat_Zero.f]
      refine Ev.congr (f := fun _ => some (decide (n = 0))) (fun k => ?_) (Ev.now _)
      rw [Option.bind_some]
      congr 1
      by_cases hn : n = 0
      · subst hn; rw [wd_zero]; rfl
      · have := wd_ne (b := BW) (n := n) (by decide) (by omega)
        rw [decide_eq_false hn]
        cases hw : wd BW n with
        | nil => exact absurd hw this
        | cons a l => simp; omega
    · rw [decide_eq_false he, Bool.false_and]
      simp only [if_neg he]
      exact Ev.now _
  · rw [if_neg hb]
    refine Ev.congr (f := fun k => if e = 0 then ((chafflaw01_Is.f k (wd BW n) (wd BD m)).bind fun t231 => (some t231)) else (some false)) (fun k => by rw [if_neg (by omega)]) ?_
    by_cases he : e = 0
    · rw [decide_eq_true he, Bool.true_and]
      simp only [if_pos he]
      exact Ev.bind (is_ev n m h) (Ev.now _)
    · rw [decide_eq_false he, Bool.false_and]
      simp only [if_neg he]
      exact Ev.now _
end Go.Proofs.YtgkdealidnidiaaDoor.Na
namespace Go.Proofs.YtgkdealidnidiaaDoor.Na
open Go.RowKit Go.Proofs.YtgkdealidnidiaaDoorW.PrintWords Go.Proofs.YtgkdealidnidiaaDoorW.PrintLast Go.Proofs.YtgkdealidnidiaaDoorW.PrintMore Go.Proofs.YtgkdealidnidiaaDoor.Dg
def decS (n : Nat) : ByteArray := ⟨(Lib.decDigits n).toArray⟩
theorem ba_ext {a b : ByteArray} (h : a.data.toList = b.data.toList) : a = b := by
  cases a; cases b; simp only [ByteArray.mk.injEq]; exact Array.ext' h
theorem ba_append (a b : ByteArray) : (a ++ b).data.toList = a.data.toList ++ b.data.toList := by simp
theorem decS_data (n : Nat) : (decS n).data.toList = Lib.decDigits n := by simp [decS]
theorem decD_small {u : Nat} (h : u < 10) : Lib.decDigits u = [UInt8.ofNat (48 + u)] := by rw [Lib.decDigits, dif_pos h]
end Go.Proofs.YtgkdealidnidiaaDoor.Na
namespace Go.Proofs.YtgkdealidnidiaaDoor.Na
open Go.RowKit Go.Proofs.YtgkdealidnidiaaDoorW.PrintWords Go.Proofs.YtgkdealidnidiaaDoorW.PrintLast Go.Proofs.YtgkdealidnidiaaDoorW.PrintMore
attribute [local go_sem] min2_int min_two
set_option linter.unusedVariables false
set_option linter.unusedSimpArgs false
def bits_LeadingZeros64.f (k : Nat) (a0 : Int) : Option (Int) := (bits_Len64.f k a0).bind fun t128 => (some (wrap64 (64 - t128)))
set_option maxHeartbeats 8000000 in
set_option maxRecDepth 100000 in
theorem bits_LeadingZeros64.calls (k : Nat) (a0 : Int) (r : Int) (w : World) (h : bits_LeadingZeros64.f k a0 = some r) :
    Calls Tryd.prog 106 #[.int .u64 a0] w fun e w' => e = .returned (.int .i64 r) ∧ Drawn0 w w' := by
  have H : ((bits_Len64.f k a0).bind fun t128 => (some (wrap64 (64 - t128)))) = some r := h
  clear h
  replace H := Option.bind_eq_some_iff.mp H
  obtain ⟨t128, A20, H⟩ := H
  replace H : (some (wrap64 (64 - t128))) = some r := H
  have A2 := Aside0.mk A20
  clear A20
  obtain rfl := Option.some.inj H
  go_enter Tryd.func106, Tryd.ntmps106
  go_wp2_with (first | ((with_reducible refine gate_callee (f := 66) rfl ?_); refine goesL_ (some 4) rfl rfl Tryd.func66 (by kernel_rfl) rfl #[.int .u64 a0] rfl (by (try simp only [List.map_toArray, List.map_cons, List.map_nil]); first | done | rfl | (simp only [List.length_drop, List.length_take]; rfl)) ?_; (with_reducible refine (bits_Len64.calls k a0 t128 _ A2.out).mono ?_); rintro e w' ⟨rfl, ⟨nd, rfl⟩⟩; refine ⟨_, rfl, ?_⟩))
  go_ret
  exact ⟨by first | rfl | (simp; done) | (simp [*]; done), by repeat (first | exact Drawn0.refl _ | apply Drawn0.step)⟩
end Go.Proofs.YtgkdealidnidiaaDoor.Na
namespace Go.Proofs.YtgkdealidnidiaaDoor.Na
open Go.RowKit Go.Proofs.YtgkdealidnidiaaDoorW.PrintWords Go.Proofs.YtgkdealidnidiaaDoorW.PrintLast Go.Proofs.YtgkdealidnidiaaDoorW.PrintMore
attribute [local go_sem] min2_int min_two
set_option linter.unusedVariables false
set_option linter.unusedSimpArgs false
mutual
def bits_DivK.j2 : Nat → Int → Int → Int → Int → Int → Int → Int → Int → Option (Int × Int)
  | 0, _, _, _, _, _, _, _, _ => none
  | k + 1, x2, x8, x9, x10, x11, x13, x14, x15 => if x9 = 0 then (none) else (bits_DivK.l1 k x2 x8 x9 x10 x14 x15 (IntKind.u64.wrap ((IntKind.u64.wrap ((IntKind.u64.wrap ((IntKind.u64.wrap (x11 * 4294967296)) + x13)) - (IntKind.u64.wrap (x15 * x2)))) - (IntKind.u64.wrap ((IntKind.u64.wrap (Int.tdiv (IntKind.u64.wrap ((IntKind.u64.wrap ((IntKind.u64.wrap (x11 * 4294967296)) + x13)) - (IntKind.u64.wrap (x15 * x2)))) x9)) * x9)))) (IntKind.u64.wrap ((IntKind.u64.wrap ((IntKind.u64.wrap (x11 * 4294967296)) + x13)) - (IntKind.u64.wrap (x15 * x2)))) (IntKind.u64.wrap (Int.tdiv (IntKind.u64.wrap ((IntKind.u64.wrap ((IntKind.u64.wrap (x11 * 4294967296)) + x13)) - (IntKind.u64.wrap (x15 * x2)))) x9)))
def bits_DivK.l1 : Nat → Int → Int → Int → Int → Int → Int → Int → Int → Int → Option (Int × Int)
  | 0, _, _, _, _, _, _, _, _, _ => none
  | k + 1, x2, x8, x9, x10, x14, x15, x16, x17, x18 => if x18 ≥ 4294967296 then (bits_DivK.j4 k x2 x8 x9 x10 x14 x15 x16 x17 x18 true) else (bits_DivK.j4 k x2 x8 x9 x10 x14 x15 x16 x17 x18 (decide ((IntKind.u64.wrap (x18 * x10)) > (IntKind.u64.wrap ((IntKind.u64.wrap (4294967296 * x16)) + x14)))))
def bits_DivK.j4 : Nat → Int → Int → Int → Int → Int → Int → Int → Int → Int → Bool → Option (Int × Int)
  | 0, _, _, _, _, _, _, _, _, _, _ => none
  | k + 1, x2, x8, x9, x10, x14, x15, x16, x17, x18, x113 => if x113 = true then (if (IntKind.u64.wrap (x16 + x9)) ≥ 4294967296 then (if 0 ≤ x8 then (some (IntKind.u64.wrap ((IntKind.u64.wrap (x15 * 4294967296)) + (IntKind.u64.wrap (x18 - 1))), shr .u64 (IntKind.u64.wrap ((IntKind.u64.wrap ((IntKind.u64.wrap (x17 * 4294967296)) + x14)) - (IntKind.u64.wrap ((IntKind.u64.wrap (x18 - 1)) * x2)))) x8)) else (none)) else (bits_DivK.l1 k x2 x8 x9 x10 x14 x15 (IntKind.u64.wrap (x16 + x9)) x17 (IntKind.u64.wrap (x18 - 1)))) else (if 0 ≤ x8 then (some (IntKind.u64.wrap ((IntKind.u64.wrap (x15 * 4294967296)) + x18), shr .u64 (IntKind.u64.wrap ((IntKind.u64.wrap ((IntKind.u64.wrap (x17 * 4294967296)) + x14)) - (IntKind.u64.wrap (x18 * x2)))) x8)) else (none))
def bits_DivK.l0 : Nat → Int → Int → Int → Int → Int → Int → Int → Int → Int → Option (Int × Int)
  | 0, _, _, _, _, _, _, _, _, _ => none
  | k + 1, x2, x8, x9, x10, x11, x13, x14, x15, x16 => if x15 ≥ 4294967296 then (bits_DivK.j1 k x2 x8 x9 x10 x11 x13 x14 x15 x16 true) else (bits_DivK.j1 k x2 x8 x9 x10 x11 x13 x14 x15 x16 (decide ((IntKind.u64.wrap (x15 * x10)) > (IntKind.u64.wrap ((IntKind.u64.wrap (4294967296 * x16)) + x13)))))
def bits_DivK.j1 : Nat → Int → Int → Int → Int → Int → Int → Int → Int → Int → Bool → Option (Int × Int)
  | 0, _, _, _, _, _, _, _, _, _, _ => none
  | k + 1, x2, x8, x9, x10, x11, x13, x14, x15, x16, x78 => if x78 = true then (if (IntKind.u64.wrap (x16 + x9)) ≥ 4294967296 then (bits_DivK.j2 k x2 x8 x9 x10 x11 x13 x14 (IntKind.u64.wrap (x15 - 1))) else (bits_DivK.l0 k x2 x8 x9 x10 x11 x13 x14 (IntKind.u64.wrap (x15 - 1)) (IntKind.u64.wrap (x16 + x9)))) else (bits_DivK.j2 k x2 x8 x9 x10 x11 x13 x14 x15)
end
def bits_DivK.f (k : Nat) (a0 : Int) (a1 : Int) (a2 : Int) : Option (Int × Int) := if a2 = 0 then (none) else (if a2 ≤ a0 then (none) else (if a0 = 0 then (some (IntKind.u64.wrap (Int.tdiv a1 a2), Int.tmod a1 a2)) else ((bits_LeadingZeros64.f k a2).bind fun t118 => (if 0 ≤ (IntKind.u64.wrap (t118)) then (if 0 ≤ (IntKind.u64.wrap (64 - (IntKind.u64.wrap (t118)))) then (if ((shl .u64 a2 (IntKind.u64.wrap (t118))) / 4294967296) = 0 then (none) else (bits_DivK.l0 k (shl .u64 a2 (IntKind.u64.wrap (t118))) (IntKind.u64.wrap (t118)) ((shl .u64 a2 (IntKind.u64.wrap (t118))) / 4294967296) (Go.bits .and .u64 (shl .u64 a2 (IntKind.u64.wrap (t118))) 4294967295) (Go.bits .or .u64 (shl .u64 a0 (IntKind.u64.wrap (t118))) (shr .u64 a1 (IntKind.u64.wrap (64 - (IntKind.u64.wrap (t118)))))) ((shl .u64 a1 (IntKind.u64.wrap (t118))) / 4294967296) (Go.bits .and .u64 (shl .u64 a1 (IntKind.u64.wrap (t118))) 4294967295) (IntKind.u64.wrap (Int.tdiv (Go.bits .or .u64 (shl .u64 a0 (IntKind.u64.wrap (t118))) (shr .u64 a1 (IntKind.u64.wrap (64 - (IntKind.u64.wrap (t118)))))) ((shl .u64 a2 (IntKind.u64.wrap (t118))) / 4294967296))) (IntKind.u64.wrap ((Go.bits .or .u64 (shl .u64 a0 (IntKind.u64.wrap (t118))) (shr .u64 a1 (IntKind.u64.wrap (64 - (IntKind.u64.wrap (t118)))))) - (IntKind.u64.wrap ((IntKind.u64.wrap (Int.tdiv (Go.bits .or .u64 (shl .u64 a0 (IntKind.u64.wrap (t118))) (shr .u64 a1 (IntKind.u64.wrap (64 - (IntKind.u64.wrap (t118)))))) ((shl .u64 a2 (IntKind.u64.wrap (t118))) / 4294967296))) * ((shl .u64 a2 (IntKind.u64.wrap (t118))) / 4294967296))))))) else (none)) else (none)))))
set_option maxHeartbeats 8000000 in
set_option maxRecDepth 100000 in
theorem bits_DivK.calls (k : Nat) (a0 : Int) (a1 : Int) (a2 : Int) (r1 : Int) (r2 : Int) (w : World) (h : bits_DivK.f k a0 a1 a2 = some (r1, r2)) :
    Calls Tryd.prog 98 #[.int .u64 a0, .int .u64 a1, .int .u64 a2] w fun e w' => e = .returned (.tuple #[.int .u64 r1, .int .u64 r2]) ∧ Drawn0 w w' := by
  have H : (if a2 = 0 then (none) else (if a2 ≤ a0 then (none) else (if a0 = 0 then (some (IntKind.u64.wrap (Int.tdiv a1 a2), Int.tmod a1 a2)) else ((bits_LeadingZeros64.f k a2).bind fun t118 => (if 0 ≤ (IntKind.u64.wrap (t118)) then (if 0 ≤ (IntKind.u64.wrap (64 - (IntKind.u64.wrap (t118)))) then (if ((shl .u64 a2 (IntKind.u64.wrap (t118))) / 4294967296) = 0 then (none) else (bits_DivK.l0 k (shl .u64 a2 (IntKind.u64.wrap (t118))) (IntKind.u64.wrap (t118)) ((shl .u64 a2 (IntKind.u64.wrap (t118))) / 4294967296) (Go.bits .and .u64 (shl .u64 a2 (IntKind.u64.wrap (t118))) 4294967295) (Go.bits .or .u64 (shl .u64 a0 (IntKind.u64.wrap (t118))) (shr .u64 a1 (IntKind.u64.wrap (64 - (IntKind.u64.wrap (t118)))))) ((shl .u64 a1 (IntKind.u64.wrap (t118))) / 4294967296) (Go.bits .and .u64 (shl .u64 a1 (IntKind.u64.wrap (t118))) 4294967295) (IntKind.u64.wrap (Int.tdiv (Go.bits .or .u64 (shl .u64 a0 (IntKind.u64.wrap (t118))) (shr .u64 a1 (IntKind.u64.wrap (64 - (IntKind.u64.wrap (t118)))))) ((shl .u64 a2 (IntKind.u64.wrap (t118))) / 4294967296))) (IntKind.u64.wrap ((Go.bits .or .u64 (shl .u64 a0 (IntKind.u64.wrap (t118))) (shr .u64 a1 (IntKind.u64.wrap (64 - (IntKind.u64.wrap (t118)))))) - (IntKind.u64.wrap ((IntKind.u64.wrap (Int.tdiv (Go.bits .or .u64 (shl .u64 a0 (IntKind.u64.wrap (t118))) (shr .u64 a1 (IntKind.u64.wrap (64 - (IntKind.u64.wrap (t118)))))) ((shl .u64 a2 (IntKind.u64.wrap (t118))) / 4294967296))) * ((shl .u64 a2 (IntKind.u64.wrap (t118))) / 4294967296))))))) else (none)) else (none)))))) = some (r1, r2) := h
  clear h
  by_cases c4 : a2 = 0
  · rw [if_pos c4] at H
    have c4b0 : (a2 == 0) = true := beq_iff_eq.mpr c4
    have c4b1 : (a2 != 0) = false := bne_eq_false_iff_eq.mpr c4
    clear c4
    exact absurd H (by simp)
  · rw [if_neg c4] at H
    have c4b0 : (a2 == 0) = false := beq_eq_false_iff_ne.mpr c4
    have c4b1 : (a2 != 0) = true := bne_iff_ne.mpr c4
    by_cases c5 : a2 ≤ a0
    · rw [if_pos c5] at H
      have c5b0 : decide (a2 ≤ a0) = true := decide_eq_true c5
      clear c5
      exact absurd H (by simp)
    · rw [if_neg c5] at H
      have c5b0 : decide (a2 ≤ a0) = false := decide_eq_false c5
      clear c5
      by_cases c6 : a0 = 0
      · rw [if_pos c6] at H
        have c6b0 : (a0 == 0) = true := beq_iff_eq.mpr c6
        have c6b1 : (a0 != 0) = false := bne_eq_false_iff_eq.mpr c6
        clear c6
        simp only [Option.some.injEq, Prod.mk.injEq] at H
        obtain ⟨rfl, rfl⟩ := H
        go_enter Tryd.func98, Tryd.ntmps98
        go_wp2
        repeat (go_quiet (fail); try go_wp2)
        go_ret2
        exact ⟨by first | rfl | (simp; done) | (simp [*]; done), by repeat (first | exact Drawn0.refl _ | apply Drawn0.step)⟩
      · rw [if_neg c6] at H
        have c6b0 : (a0 == 0) = false := beq_eq_false_iff_ne.mpr c6
        have c6b1 : (a0 != 0) = true := bne_iff_ne.mpr c6
        replace H := Option.bind_eq_some_iff.mp H
        obtain ⟨t118, A70, H⟩ := H
        replace H : (if 0 ≤ (IntKind.u64.wrap (t118)) then (if 0 ≤ (IntKind.u64.wrap (64 - (IntKind.u64.wrap (t118)))) then (if ((shl .u64 a2 (IntKind.u64.wrap (t118))) / 4294967296) = 0 then (none) else (bits_DivK.l0 k (shl .u64 a2 (IntKind.u64.wrap (t118))) (IntKind.u64.wrap (t118)) ((shl .u64 a2 (IntKind.u64.wrap (t118))) / 4294967296) (Go.bits .and .u64 (shl .u64 a2 (IntKind.u64.wrap (t118))) 4294967295) (Go.bits .or .u64 (shl .u64 a0 (IntKind.u64.wrap (t118))) (shr .u64 a1 (IntKind.u64.wrap (64 - (IntKind.u64.wrap (t118)))))) ((shl .u64 a1 (IntKind.u64.wrap (t118))) / 4294967296) (Go.bits .and .u64 (shl .u64 a1 (IntKind.u64.wrap (t118))) 4294967295) (IntKind.u64.wrap (Int.tdiv (Go.bits .or .u64 (shl .u64 a0 (IntKind.u64.wrap (t118))) (shr .u64 a1 (IntKind.u64.wrap (64 - (IntKind.u64.wrap (t118)))))) ((shl .u64 a2 (IntKind.u64.wrap (t118))) / 4294967296))) (IntKind.u64.wrap ((Go.bits .or .u64 (shl .u64 a0 (IntKind.u64.wrap (t118))) (shr .u64 a1 (IntKind.u64.wrap (64 - (IntKind.u64.wrap (t118)))))) - (IntKind.u64.wrap ((IntKind.u64.wrap (Int.tdiv (Go.bits .or .u64 (shl .u64 a0 (IntKind.u64.wrap (t118))) (shr .u64 a1 (IntKind.u64.wrap (64 - (IntKind.u64.wrap (t118)))))) ((shl .u64 a2 (IntKind.u64.wrap (t118))) / 4294967296))) * ((shl .u64 a2 (IntKind.u64.wrap (t118))) / 4294967296))))))) else (none)) else (none)) = some (r1, r2) := H
        have A7 := Aside0.mk A70
        clear A70
        obtain ⟨ji8, hji8⟩ : ∃ j_ : Int, (IntKind.u64.wrap (t118)) = j_ := ⟨_, rfl⟩
        replace H : (if 0 ≤ (ji8) then (if 0 ≤ (IntKind.u64.wrap (64 - (ji8))) then (if ((shl .u64 a2 (ji8)) / 4294967296) = 0 then (none) else (bits_DivK.l0 k (shl .u64 a2 (ji8)) ji8 ((shl .u64 a2 (ji8)) / 4294967296) (Go.bits .and .u64 (shl .u64 a2 (ji8)) 4294967295) (Go.bits .or .u64 (shl .u64 a0 (ji8)) (shr .u64 a1 (IntKind.u64.wrap (64 - (ji8))))) ((shl .u64 a1 (ji8)) / 4294967296) (Go.bits .and .u64 (shl .u64 a1 (ji8)) 4294967295) (IntKind.u64.wrap (Int.tdiv (Go.bits .or .u64 (shl .u64 a0 (ji8)) (shr .u64 a1 (IntKind.u64.wrap (64 - (ji8))))) ((shl .u64 a2 (ji8)) / 4294967296))) (IntKind.u64.wrap ((Go.bits .or .u64 (shl .u64 a0 (ji8)) (shr .u64 a1 (IntKind.u64.wrap (64 - (ji8))))) - (IntKind.u64.wrap ((IntKind.u64.wrap (Int.tdiv (Go.bits .or .u64 (shl .u64 a0 (ji8)) (shr .u64 a1 (IntKind.u64.wrap (64 - (ji8))))) ((shl .u64 a2 (ji8)) / 4294967296))) * ((shl .u64 a2 (ji8)) / 4294967296))))))) else (none)) else (none)) = some (r1, r2) := by first | (rw [hji8] at H; exact H) | (simp only [hji8] at H ⊢; exact H)
        (try rw [hji8] at A7)
        by_cases c9 : 0 ≤ (ji8)
        · rw [if_pos c9] at H
          have c9b0 := eq_true c9
          have c9b1 : decide (0 ≤ (ji8)) = true := decide_eq_true c9
          clear c9
          obtain ⟨ji10, hji10⟩ : ∃ j_ : Int, (shl .u64 a2 (ji8)) = j_ := ⟨_, rfl⟩
          replace H : (if 0 ≤ (IntKind.u64.wrap (64 - (ji8))) then (if ((ji10) / 4294967296) = 0 then (none) else (bits_DivK.l0 k ji10 ji8 ((ji10) / 4294967296) (Go.bits .and .u64 (ji10) 4294967295) (Go.bits .or .u64 (shl .u64 a0 (ji8)) (shr .u64 a1 (IntKind.u64.wrap (64 - (ji8))))) ((shl .u64 a1 (ji8)) / 4294967296) (Go.bits .and .u64 (shl .u64 a1 (ji8)) 4294967295) (IntKind.u64.wrap (Int.tdiv (Go.bits .or .u64 (shl .u64 a0 (ji8)) (shr .u64 a1 (IntKind.u64.wrap (64 - (ji8))))) ((ji10) / 4294967296))) (IntKind.u64.wrap ((Go.bits .or .u64 (shl .u64 a0 (ji8)) (shr .u64 a1 (IntKind.u64.wrap (64 - (ji8))))) - (IntKind.u64.wrap ((IntKind.u64.wrap (Int.tdiv (Go.bits .or .u64 (shl .u64 a0 (ji8)) (shr .u64 a1 (IntKind.u64.wrap (64 - (ji8))))) ((ji10) / 4294967296))) * ((ji10) / 4294967296))))))) else (none)) = some (r1, r2) := by first | (rw [hji10] at H; exact H) | (simp only [hji10] at H ⊢; exact H)
          (try rw [hji10] at A7)
          have hji10_ : (IntKind.u64.wrap (a2 * 2 ^ min (ji8).toNat 64)) = ji10 := hji10
          have hji10z : (ji8) ≤ 64 → (IntKind.u64.wrap (a2 * 2 ^ (ji8).toNat)) = ji10 := shl_small hji10
          have c11b0 := eq_true (of_decide_eq_true (by first | (with_reducible assumption) | assumption) : 0 ≤ (ji8))
          obtain ⟨ji12, hji12⟩ : ∃ j_ : Int, (shl .u64 a0 (ji8)) = j_ := ⟨_, rfl⟩
          replace H : (if 0 ≤ (IntKind.u64.wrap (64 - (ji8))) then (if ((ji10) / 4294967296) = 0 then (none) else (bits_DivK.l0 k ji10 ji8 ((ji10) / 4294967296) (Go.bits .and .u64 (ji10) 4294967295) (Go.bits .or .u64 (ji12) (shr .u64 a1 (IntKind.u64.wrap (64 - (ji8))))) ((shl .u64 a1 (ji8)) / 4294967296) (Go.bits .and .u64 (shl .u64 a1 (ji8)) 4294967295) (IntKind.u64.wrap (Int.tdiv (Go.bits .or .u64 (ji12) (shr .u64 a1 (IntKind.u64.wrap (64 - (ji8))))) ((ji10) / 4294967296))) (IntKind.u64.wrap ((Go.bits .or .u64 (ji12) (shr .u64 a1 (IntKind.u64.wrap (64 - (ji8))))) - (IntKind.u64.wrap ((IntKind.u64.wrap (Int.tdiv (Go.bits .or .u64 (ji12) (shr .u64 a1 (IntKind.u64.wrap (64 - (ji8))))) ((ji10) / 4294967296))) * ((ji10) / 4294967296))))))) else (none)) = some (r1, r2) := by first | (rw [hji12] at H; exact H) | (simp only [hji12] at H ⊢; exact H)
          (try rw [hji12] at A7)
          have hji12_ : (IntKind.u64.wrap (a0 * 2 ^ min (ji8).toNat 64)) = ji12 := hji12
          have hji12z : (ji8) ≤ 64 → (IntKind.u64.wrap (a0 * 2 ^ (ji8).toNat)) = ji12 := shl_small hji12
          obtain ⟨ji13, hji13⟩ : ∃ j_ : Int, (IntKind.u64.wrap (64 - (ji8))) = j_ := ⟨_, rfl⟩
          replace H : (if 0 ≤ (ji13) then (if ((ji10) / 4294967296) = 0 then (none) else (bits_DivK.l0 k ji10 ji8 ((ji10) / 4294967296) (Go.bits .and .u64 (ji10) 4294967295) (Go.bits .or .u64 (ji12) (shr .u64 a1 (ji13))) ((shl .u64 a1 (ji8)) / 4294967296) (Go.bits .and .u64 (shl .u64 a1 (ji8)) 4294967295) (IntKind.u64.wrap (Int.tdiv (Go.bits .or .u64 (ji12) (shr .u64 a1 (ji13))) ((ji10) / 4294967296))) (IntKind.u64.wrap ((Go.bits .or .u64 (ji12) (shr .u64 a1 (ji13))) - (IntKind.u64.wrap ((IntKind.u64.wrap (Int.tdiv (Go.bits .or .u64 (ji12) (shr .u64 a1 (ji13))) ((ji10) / 4294967296))) * ((ji10) / 4294967296))))))) else (none)) = some (r1, r2) := by first | (rw [hji13] at H; exact H) | (simp only [hji13] at H ⊢; exact H)
          (try rw [hji13] at A7)
          by_cases c14 : 0 ≤ (ji13)
          · rw [if_pos c14] at H
            have c14b0 := eq_true c14
            have c14b1 : decide (0 ≤ (ji13)) = true := decide_eq_true c14
            clear c14
            obtain ⟨ji15, hji15⟩ : ∃ j_ : Int, (shr .u64 a1 (ji13)) = j_ := ⟨_, rfl⟩
            replace H : (if ((ji10) / 4294967296) = 0 then (none) else (bits_DivK.l0 k ji10 ji8 ((ji10) / 4294967296) (Go.bits .and .u64 (ji10) 4294967295) (Go.bits .or .u64 (ji12) (ji15)) ((shl .u64 a1 (ji8)) / 4294967296) (Go.bits .and .u64 (shl .u64 a1 (ji8)) 4294967295) (IntKind.u64.wrap (Int.tdiv (Go.bits .or .u64 (ji12) (ji15)) ((ji10) / 4294967296))) (IntKind.u64.wrap ((Go.bits .or .u64 (ji12) (ji15)) - (IntKind.u64.wrap ((IntKind.u64.wrap (Int.tdiv (Go.bits .or .u64 (ji12) (ji15)) ((ji10) / 4294967296))) * ((ji10) / 4294967296))))))) = some (r1, r2) := by first | (rw [hji15] at H; exact H) | (simp only [hji15] at H ⊢; exact H)
            (try rw [hji15] at A7)
            have hji15_ : (a1 / 2 ^ min (ji13).toNat 64) = ji15 := hji15
            have hji15z : (ji13) ≤ 64 → (a1 / 2 ^ (ji13).toNat) = ji15 := shr_small hji15
            have c16b0 := eq_true (of_decide_eq_true (by first | (with_reducible assumption) | assumption) : 0 ≤ (ji8))
            obtain ⟨ji17, hji17⟩ : ∃ j_ : Int, (shl .u64 a1 (ji8)) = j_ := ⟨_, rfl⟩
            replace H : (if ((ji10) / 4294967296) = 0 then (none) else (bits_DivK.l0 k ji10 ji8 ((ji10) / 4294967296) (Go.bits .and .u64 (ji10) 4294967295) (Go.bits .or .u64 (ji12) (ji15)) ((ji17) / 4294967296) (Go.bits .and .u64 (ji17) 4294967295) (IntKind.u64.wrap (Int.tdiv (Go.bits .or .u64 (ji12) (ji15)) ((ji10) / 4294967296))) (IntKind.u64.wrap ((Go.bits .or .u64 (ji12) (ji15)) - (IntKind.u64.wrap ((IntKind.u64.wrap (Int.tdiv (Go.bits .or .u64 (ji12) (ji15)) ((ji10) / 4294967296))) * ((ji10) / 4294967296))))))) = some (r1, r2) := by first | (rw [hji17] at H; exact H) | (simp only [hji17] at H ⊢; exact H)
            (try rw [hji17] at A7)
            have hji17_ : (IntKind.u64.wrap (a1 * 2 ^ min (ji8).toNat 64)) = ji17 := hji17
            have hji17z : (ji8) ≤ 64 → (IntKind.u64.wrap (a1 * 2 ^ (ji8).toNat)) = ji17 := shl_small hji17
            by_cases c18 : ((ji10) / 4294967296) = 0
            · rw [if_pos c18] at H
              exact absurd H (by simp)
            · rw [if_neg c18] at H
              have c18b0 : (((ji10) / 4294967296) == 0) = false := beq_eq_false_iff_ne.mpr c18
              have c18b1 : (((ji10) / 4294967296) != 0) = true := bne_iff_ne.mpr c18
              have HC19 := Aside0.mk H
              clear H
              go_enter Tryd.func98, Tryd.ntmps98
              go_upto_block 0 with (first | (go_at_call 106; (with_reducible refine (bits_LeadingZeros64.calls k a2 t118 _ A7.out).mono ?_); rintro e w' ⟨rfl, ⟨nd, rfl⟩⟩; (try first | exact ⟨rfl, _, World.drewN_drewN _ _ _⟩ | exact ⟨rfl, _, Eq.trans (World.drewN_drewN _ _ _) (congrArg (World.drewN _) (Nat.add_assoc _ _ _))⟩)))
              repeat (go_quiet (first | (go_at_call 106; (with_reducible refine (bits_LeadingZeros64.calls k a2 t118 _ A7.out).mono ?_); rintro e w' ⟨rfl, ⟨nd, rfl⟩⟩; (try first | exact ⟨rfl, _, World.drewN_drewN _ _ _⟩ | exact ⟨rfl, _, Eq.trans (World.drewN_drewN _ _ _) (congrArg (World.drewN _) (Nat.add_assoc _ _ _))⟩))); go_upto_block 0 with (first | (go_at_call 106; (with_reducible refine (bits_LeadingZeros64.calls k a2 t118 _ A7.out).mono ?_); rintro e w' ⟨rfl, ⟨nd, rfl⟩⟩; (try first | exact ⟨rfl, _, World.drewN_drewN _ _ _⟩ | exact ⟨rfl, _, Eq.trans (World.drewN_drewN _ _ _) (congrArg (World.drewN _) (Nat.add_assoc _ _ _))⟩))))
              (try simp only [Act.put, List.setIfInBounds_toArray, List.set_cons_zero, List.set_cons_succ])
              go_cut [15] (fun v15 wc => ∃ (kq : Nat) (x15_18 : Int), v15 = .int .u64 x15_18 ∧ Aside0 (bits_DivK.j2 kq ji10 ji8 ((ji10) / 4294967296) (Go.bits .and .u64 (ji10) 4294967295) (Go.bits .or .u64 (ji12) (ji15)) ((ji17) / 4294967296) (Go.bits .and .u64 (ji17) 4294967295) x15_18 = some (r1, r2)) ∧ Aside0 (kq ≤ k) ∧ Drawn0 w wc)
              case first =>
                have H := HC19.out
                clear HC19
                have H' := Aside0.mk H
                clear H
                go_wp2
                repeat (go_quiet (fail); try go_wp2)
                go_loopg [15, 16] k (fun kq v15 v16 w' => ∃ (x15_1 : Int) (x16_1 : Int), v15 = .int .u64 x15_1 ∧ v16 = .int .u64 x16_1 ∧ Aside0 (bits_DivK.l0 kq ji10 ji8 ((ji10) / 4294967296) (Go.bits .and .u64 (ji10) 4294967295) (Go.bits .or .u64 (ji12) (ji15)) ((ji17) / 4294967296) (Go.bits .and .u64 (ji17) 4294967295) x15_1 x16_1 = some (r1, r2)) ∧ Aside0 (kq ≤ k) ∧ Drawn0 w w')
                case atStart => exact ⟨(IntKind.u64.wrap (Int.tdiv (Go.bits .or .u64 (ji12) (ji15)) ((ji10) / 4294967296))), (IntKind.u64.wrap ((Go.bits .or .u64 (ji12) (ji15)) - (IntKind.u64.wrap ((IntKind.u64.wrap (Int.tdiv (Go.bits .or .u64 (ji12) (ji15)) ((ji10) / 4294967296))) * ((ji10) / 4294967296))))), (by first | rfl | (simp; done) | (simp only [← hji10, ← hji12, ← hji15] <;> (first | rfl | simp)) | (simp [*]; done)), (by first | rfl | (simp; done) | (simp only [← hji10, ← hji12, ← hji15] <;> (first | rfl | simp)) | (simp [*]; done)), H', ⟨Nat.le_refl _⟩, by repeat (first | exact Drawn0.refl _ | apply Drawn0.step)⟩
                case round =>
                  clear H'
                  try clear c1
                  try clear p2
                  try clear c4
                  try clear c4b0
                  try clear c4b1
                  try clear c5
                  try clear c5b0
                  try clear c6
                  try clear c6b0
                  try clear c6b1
                  try clear c9
                  try clear c9b0
                  try clear c9b1
                  try clear c11
                  try clear c11b0
                  try clear c14
                  try clear c14b0
                  try clear c14b1
                  try clear c16
                  try clear c16b0
                  try clear c18
                  try clear c18b0
                  try clear c18b1
                  obtain ⟨x15_1, x16_1, rfl, rfl, HA, HK1, ⟨m1, rfl⟩⟩ := hrel
                  cases gk with
                  | zero => exact absurd HA.out (by simp [bits_DivK.l0])
                  | succ k1 =>
                    have H := HA.out
                    clear HA
                    simp only [bits_DivK.l0] at H
                    have HC20 := Aside0.mk H
                    clear H
                    go_upto_region 17 with (fail)
                    repeat (go_quiet (fail); go_upto_region 17 with (fail))
                    go_cut [78] (fun v78 wc => ∃ (kq : Nat) (x78_19 : Bool), v78 = .bool x78_19 ∧ Aside0 (bits_DivK.j1 kq ji10 ji8 ((ji10) / 4294967296) (Go.bits .and .u64 (ji10) 4294967295) (Go.bits .or .u64 (ji12) (ji15)) ((ji17) / 4294967296) (Go.bits .and .u64 (ji17) 4294967295) x15_1 x16_1 x78_19 = some (r1, r2)) ∧ Aside0 (kq ≤ k1) ∧ Drawn0 w wc)
                    case first =>
                      have H := HC20.out
                      clear HC20
                      by_cases c21 : x15_1 ≥ 4294967296
                      · rw [if_pos c21] at H
                        have c21b0 : decide (4294967296 ≤ x15_1) = true := decide_eq_true c21
                        clear c21
                        (first | rw [c21b0] | (simp only [i64_w, i32_w]; rw [c21b0]) | skip)
                        have H' := Aside0.mk H
                        clear H
                        go_wp2
                        repeat (go_quiet (fail); try go_wp2)
                        go_meet
                        case rel => exact ⟨_, (true), (by first | rfl | (simp; done) | (simp [*]; done)), H', ⟨by have := HK1.out; first | omega | exact Nat.le_refl _⟩, by repeat (first | exact Drawn0.refl _ | apply Drawn0.step)⟩
                      · rw [if_neg c21] at H
                        have c21b0 : decide (4294967296 ≤ x15_1) = false := decide_eq_false c21
                        clear c21
                        (first | rw [c21b0] | (simp only [i64_w, i32_w]; rw [c21b0]) | skip)
                        have H' := Aside0.mk H
                        clear H
                        go_wp2
                        repeat (go_quiet (fail); try go_wp2)
                        go_meet
                        case rel => exact ⟨_, (decide ((IntKind.u64.wrap (x15_1 * (Go.bits .and .u64 (ji10) 4294967295))) > (IntKind.u64.wrap ((IntKind.u64.wrap (4294967296 * x16_1)) + ((ji17) / 4294967296))))), (by first | rfl | (simp; done) | (simp only [← hji10, ← hji17] <;> (first | rfl | simp)) | (simp [*]; done)), H', ⟨by have := HK1.out; first | omega | exact Nat.le_refl _⟩, by repeat (first | exact Drawn0.refl _ | apply Drawn0.step)⟩
                    case rest =>
                      clear HC20
                      try clear c1
                      try clear c2
                      try clear p2
                      try clear c4
                      try clear c4b0
                      try clear c4b1
                      try clear c5
                      try clear c5b0
                      try clear c6
                      try clear c6b0
                      try clear c6b1
                      try clear c9
                      try clear c9b0
                      try clear c9b1
                      try clear c11
                      try clear c11b0
                      try clear c14
                      try clear c14b0
                      try clear c14b1
                      try clear c16
                      try clear c16b0
                      try clear c18
                      try clear c18b0
                      try clear c18b1
                      try clear c21
                      try clear c21b0
                      try clear p2
                      obtain ⟨kq, x78_19, rfl, HA, HJ19, ⟨mc19, rfl⟩⟩ := hcut
                      cases kq with
                      | zero => exact absurd HA.out (by simp [bits_DivK.j1])
                      | succ kj19 =>
                        have H := HA.out
                        clear HA
                        simp only [bits_DivK.j1] at H
                        by_cases c22 : x78_19 = true
                        · subst c22
                          have H1 : (if (IntKind.u64.wrap (x16_1 + ((ji10) / 4294967296))) ≥ 4294967296 then (bits_DivK.j2 kj19 ji10 ji8 ((ji10) / 4294967296) (Go.bits .and .u64 (ji10) 4294967295) (Go.bits .or .u64 (ji12) (ji15)) ((ji17) / 4294967296) (Go.bits .and .u64 (ji17) 4294967295) (IntKind.u64.wrap (x15_1 - 1))) else (bits_DivK.l0 kj19 ji10 ji8 ((ji10) / 4294967296) (Go.bits .and .u64 (ji10) 4294967295) (Go.bits .or .u64 (ji12) (ji15)) ((ji17) / 4294967296) (Go.bits .and .u64 (ji17) 4294967295) (IntKind.u64.wrap (x15_1 - 1)) (IntKind.u64.wrap (x16_1 + ((ji10) / 4294967296))))) = some (r1, r2) := by rw [if_pos rfl] at H; exact H
                          clear H
                          have H := H1
                          clear H1
                          by_cases c23 : (IntKind.u64.wrap (x16_1 + ((ji10) / 4294967296))) ≥ 4294967296
                          · rw [if_pos c23] at H
                            have c23b0 : decide (4294967296 ≤ (IntKind.u64.wrap (x16_1 + ((ji10) / 4294967296)))) = true := decide_eq_true c23
                            clear c23
                            have H' := Aside0.mk H
                            clear H
                            go_wp2
                            repeat (go_quiet (fail); try go_wp2)
                            go_meet
                            case rel => exact ⟨_, (IntKind.u64.wrap (x15_1 - 1)), (by first | rfl | (simp; done) | (simp [*]; done)), H', ⟨by have := HK1.out; have := HJ19.out; first | omega | exact Nat.le_refl _⟩, by repeat (first | exact Drawn0.refl _ | apply Drawn0.step)⟩
                          · rw [if_neg c23] at H
                            have c23b0 : decide (4294967296 ≤ (IntKind.u64.wrap (x16_1 + ((ji10) / 4294967296)))) = false := decide_eq_false c23
                            clear c23
                            have H' := Aside0.mk H
                            clear H
                            go_wp2
                            repeat (go_quiet (fail); try go_wp2)
                            go_roundg kj19
                            case measure => have := HK1.out; have := HJ19.out; omega
                            case rel => exact ⟨(IntKind.u64.wrap (x15_1 - 1)), (IntKind.u64.wrap (x16_1 + ((ji10) / 4294967296))), (by first | rfl | (simp; done) | (simp [*]; done)), (by first | rfl | (simp; done) | (simp only [← hji10] <;> (first | rfl | simp)) | (simp [*]; done)), H', ⟨by have := HK1.out; have := HJ19.out; omega⟩, by repeat (first | exact Drawn0.refl _ | apply Drawn0.step)⟩
                        · replace c22 := Bool.eq_false_iff.mpr c22
                          subst c22
                          have H1 : (bits_DivK.j2 kj19 ji10 ji8 ((ji10) / 4294967296) (Go.bits .and .u64 (ji10) 4294967295) (Go.bits .or .u64 (ji12) (ji15)) ((ji17) / 4294967296) (Go.bits .and .u64 (ji17) 4294967295) x15_1) = some (r1, r2) := by rw [if_neg (show ¬ (false = true) by decide)] at H; exact H
                          clear H
                          have H := H1
                          clear H1
                          have H' := Aside0.mk H
                          clear H
                          go_wp2
                          repeat (go_quiet (fail); try go_wp2)
                          go_meet
                          case rel => exact ⟨_, (x15_1), (by first | rfl | (simp; done) | (simp [*]; done)), H', ⟨by have := HK1.out; have := HJ19.out; first | omega | exact Nat.le_refl _⟩, by repeat (first | exact Drawn0.refl _ | apply Drawn0.step)⟩
              case rest =>
                clear HC19
                try clear c1
                try clear c2
                try clear p2
                try clear c4
                try clear c4b0
                try clear c4b1
                try clear c5
                try clear c5b0
                try clear c6
                try clear c6b0
                try clear c6b1
                try clear c9
                try clear c9b0
                try clear c9b1
                try clear c11
                try clear c11b0
                try clear c14
                try clear c14b0
                try clear c14b1
                try clear c16
                try clear c16b0
                try clear c18
                try clear c18b0
                try clear c18b1
                try clear c19
                try clear c21
                try clear c21b0
                try clear c22
                try clear c23
                try clear c23b0
                try clear p2
                obtain ⟨kq, x15_18, rfl, HA, HJ18, ⟨mc18, rfl⟩⟩ := hcut
                cases kq with
                | zero => exact absurd HA.out (by simp [bits_DivK.j2])
                | succ kj18 =>
                  have H := HA.out
                  clear HA
                  simp only [bits_DivK.j2] at H
                  by_cases c24 : ((ji10) / 4294967296) = 0
                  · rw [if_pos c24] at H
                    exact absurd H (by simp)
                  · rw [if_neg c24] at H
                    have c24b0 : (((ji10) / 4294967296) == 0) = false := beq_eq_false_iff_ne.mpr c24
                    have c24b1 : (((ji10) / 4294967296) != 0) = true := bne_iff_ne.mpr c24
                    have H' := Aside0.mk H
                    clear H
                    go_wp2
                    repeat (go_quiet (fail); try go_wp2)
                    go_loopg [16, 18] kj18 (fun kq v16 v18 w' => ∃ (x16_2 : Int) (x18_2 : Int), v16 = .int .u64 x16_2 ∧ v18 = .int .u64 x18_2 ∧ Aside0 (bits_DivK.l1 kq ji10 ji8 ((ji10) / 4294967296) (Go.bits .and .u64 (ji10) 4294967295) (Go.bits .and .u64 (ji17) 4294967295) x15_18 x16_2 (IntKind.u64.wrap ((IntKind.u64.wrap ((IntKind.u64.wrap ((Go.bits .or .u64 (ji12) (ji15)) * 4294967296)) + ((ji17) / 4294967296))) - (IntKind.u64.wrap (x15_18 * ji10)))) x18_2 = some (r1, r2)) ∧ Aside0 (kq ≤ kj18) ∧ Drawn0 w w')
                    case atStart => exact ⟨(IntKind.u64.wrap ((IntKind.u64.wrap ((IntKind.u64.wrap ((IntKind.u64.wrap ((Go.bits .or .u64 (ji12) (ji15)) * 4294967296)) + ((ji17) / 4294967296))) - (IntKind.u64.wrap (x15_18 * ji10)))) - (IntKind.u64.wrap ((IntKind.u64.wrap (Int.tdiv (IntKind.u64.wrap ((IntKind.u64.wrap ((IntKind.u64.wrap ((Go.bits .or .u64 (ji12) (ji15)) * 4294967296)) + ((ji17) / 4294967296))) - (IntKind.u64.wrap (x15_18 * ji10)))) ((ji10) / 4294967296))) * ((ji10) / 4294967296))))), (IntKind.u64.wrap (Int.tdiv (IntKind.u64.wrap ((IntKind.u64.wrap ((IntKind.u64.wrap ((Go.bits .or .u64 (ji12) (ji15)) * 4294967296)) + ((ji17) / 4294967296))) - (IntKind.u64.wrap (x15_18 * ji10)))) ((ji10) / 4294967296))), (by first | rfl | (simp; done) | (simp only [← hji10, ← hji12, ← hji15, ← hji17] <;> (first | rfl | simp)) | (simp [*]; done)), (by first | rfl | (simp; done) | (simp only [← hji10, ← hji12, ← hji15, ← hji17] <;> (first | rfl | simp)) | (simp [*]; done)), H', ⟨Nat.le_refl _⟩, by repeat (first | exact Drawn0.refl _ | apply Drawn0.step)⟩
                    case round =>
                      clear H'
                      try clear c1
                      try clear c2
                      try clear p2
                      try clear c4
                      try clear c4b0
                      try clear c4b1
                      try clear c5
                      try clear c5b0
                      try clear c6
                      try clear c6b0
                      try clear c6b1
                      try clear c9
                      try clear c9b0
                      try clear c9b1
                      try clear c11
                      try clear c11b0
                      try clear c14
                      try clear c14b0
                      try clear c14b1
                      try clear c16
                      try clear c16b0
                      try clear c18
                      try clear c18b0
                      try clear c18b1
                      try clear c19
                      try clear c21
                      try clear c21b0
                      try clear c22
                      try clear c23
                      try clear c23b0
                      try clear c24
                      try clear c24b0
                      try clear c24b1
                      try clear p2
                      obtain ⟨x16_2, x18_2, rfl, rfl, HA, HK2, ⟨m2, rfl⟩⟩ := hrel
                      cases gk with
                      | zero => exact absurd HA.out (by simp [bits_DivK.l1])
                      | succ k2 =>
                        have H := HA.out
                        clear HA
                        simp only [bits_DivK.l1] at H
                        have HC25 := Aside0.mk H
                        clear H
                        go_upto_region 24 with (fail)
                        repeat (go_quiet (fail); go_upto_region 24 with (fail))
                        go_cut [113] (fun v113 wc => ∃ (kq : Nat) (x113_24 : Bool), v113 = .bool x113_24 ∧ Aside0 (bits_DivK.j4 kq ji10 ji8 ((ji10) / 4294967296) (Go.bits .and .u64 (ji10) 4294967295) (Go.bits .and .u64 (ji17) 4294967295) x15_18 x16_2 (IntKind.u64.wrap ((IntKind.u64.wrap ((IntKind.u64.wrap ((Go.bits .or .u64 (ji12) (ji15)) * 4294967296)) + ((ji17) / 4294967296))) - (IntKind.u64.wrap (x15_18 * ji10)))) x18_2 x113_24 = some (r1, r2)) ∧ Aside0 (kq ≤ k2) ∧ Drawn0 w wc)
                        case first =>
                          have H := HC25.out
                          clear HC25
                          by_cases c26 : x18_2 ≥ 4294967296
                          · rw [if_pos c26] at H
                            have c26b0 : decide (4294967296 ≤ x18_2) = true := decide_eq_true c26
                            clear c26
                            (first | rw [c26b0] | (simp only [i64_w, i32_w]; rw [c26b0]) | skip)
                            have H' := Aside0.mk H
                            clear H
                            go_wp2
                            repeat (go_quiet (fail); try go_wp2)
                            go_meet
                            case rel => exact ⟨_, (true), (by first | rfl | (simp; done) | (simp [*]; done)), H', ⟨by have := HJ18.out; have := HK2.out; first | omega | exact Nat.le_refl _⟩, by repeat (first | exact Drawn0.refl _ | apply Drawn0.step)⟩
                          · rw [if_neg c26] at H
                            have c26b0 : decide (4294967296 ≤ x18_2) = false := decide_eq_false c26
                            clear c26
                            (first | rw [c26b0] | (simp only [i64_w, i32_w]; rw [c26b0]) | skip)
                            have H' := Aside0.mk H
                            clear H
                            go_wp2
                            repeat (go_quiet (fail); try go_wp2)
                            go_meet
                            case rel => exact ⟨_, (decide ((IntKind.u64.wrap (x18_2 * (Go.bits .and .u64 (ji10) 4294967295))) > (IntKind.u64.wrap ((IntKind.u64.wrap (4294967296 * x16_2)) + (Go.bits .and .u64 (ji17) 4294967295))))), (by first | rfl | (simp; done) | (simp only [← hji10, ← hji17] <;> (first | rfl | simp)) | (simp [*]; done)), H', ⟨by have := HJ18.out; have := HK2.out; first | omega | exact Nat.le_refl _⟩, by repeat (first | exact Drawn0.refl _ | apply Drawn0.step)⟩
                        case rest =>
                          clear HC25
                          try clear c1
                          try clear c2
                          try clear p2
                          try clear c4
                          try clear c4b0
                          try clear c4b1
                          try clear c5
                          try clear c5b0
                          try clear c6
                          try clear c6b0
                          try clear c6b1
                          try clear c9
                          try clear c9b0
                          try clear c9b1
                          try clear c11
                          try clear c11b0
                          try clear c14
                          try clear c14b0
                          try clear c14b1
                          try clear c16
                          try clear c16b0
                          try clear c18
                          try clear c18b0
                          try clear c18b1
                          try clear c19
                          try clear c21
                          try clear c21b0
                          try clear c22
                          try clear c23
                          try clear c23b0
                          try clear c24
                          try clear c24b0
                          try clear c24b1
                          try clear c26
                          try clear c26b0
                          try clear p2
                          obtain ⟨kq, x113_24, rfl, HA, HJ24, ⟨mc24, rfl⟩⟩ := hcut
                          cases kq with
                          | zero => exact absurd HA.out (by simp [bits_DivK.j4])
                          | succ kj24 =>
                            have H := HA.out
                            clear HA
                            simp only [bits_DivK.j4] at H
                            by_cases c27 : x113_24 = true
                            · subst c27
                              have H1 : (if (IntKind.u64.wrap (x16_2 + ((ji10) / 4294967296))) ≥ 4294967296 then (if 0 ≤ ji8 then (some (IntKind.u64.wrap ((IntKind.u64.wrap (x15_18 * 4294967296)) + (IntKind.u64.wrap (x18_2 - 1))), shr .u64 (IntKind.u64.wrap ((IntKind.u64.wrap ((IntKind.u64.wrap ((IntKind.u64.wrap ((IntKind.u64.wrap ((IntKind.u64.wrap ((Go.bits .or .u64 (ji12) (ji15)) * 4294967296)) + ((ji17) / 4294967296))) - (IntKind.u64.wrap (x15_18 * ji10)))) * 4294967296)) + (Go.bits .and .u64 (ji17) 4294967295))) - (IntKind.u64.wrap ((IntKind.u64.wrap (x18_2 - 1)) * ji10)))) ji8)) else (none)) else (bits_DivK.l1 kj24 ji10 ji8 ((ji10) / 4294967296) (Go.bits .and .u64 (ji10) 4294967295) (Go.bits .and .u64 (ji17) 4294967295) x15_18 (IntKind.u64.wrap (x16_2 + ((ji10) / 4294967296))) (IntKind.u64.wrap ((IntKind.u64.wrap ((IntKind.u64.wrap ((Go.bits .or .u64 (ji12) (ji15)) * 4294967296)) + ((ji17) / 4294967296))) - (IntKind.u64.wrap (x15_18 * ji10)))) (IntKind.u64.wrap (x18_2 - 1)))) = some (r1, r2) := by rw [if_pos rfl] at H; exact H
                              clear H
                              have H := H1
                              clear H1
                              by_cases c28 : (IntKind.u64.wrap (x16_2 + ((ji10) / 4294967296))) ≥ 4294967296
                              · rw [if_pos c28] at H
                                have c28b0 : decide (4294967296 ≤ (IntKind.u64.wrap (x16_2 + ((ji10) / 4294967296)))) = true := decide_eq_true c28
                                clear c28
                                by_cases c29 : 0 ≤ ji8
                                · rw [if_pos c29] at H
                                  have c29b0 := eq_true c29
                                  have c29b1 : decide (0 ≤ ji8) = true := decide_eq_true c29
                                  clear c29
                                  obtain ⟨ji30, hji30⟩ : ∃ j_ : Int, (shr .u64 (IntKind.u64.wrap ((IntKind.u64.wrap ((IntKind.u64.wrap ((IntKind.u64.wrap ((IntKind.u64.wrap ((IntKind.u64.wrap ((Go.bits .or .u64 (ji12) (ji15)) * 4294967296)) + ((ji17) / 4294967296))) - (IntKind.u64.wrap (x15_18 * ji10)))) * 4294967296)) + (Go.bits .and .u64 (ji17) 4294967295))) - (IntKind.u64.wrap ((IntKind.u64.wrap (x18_2 - 1)) * ji10)))) ji8) = j_ := ⟨_, rfl⟩
                                  replace H : (some (IntKind.u64.wrap ((IntKind.u64.wrap (x15_18 * 4294967296)) + (IntKind.u64.wrap (x18_2 - 1))), ji30)) = some (r1, r2) := by first | (rw [hji30] at H; exact H) | (simp only [hji30] at H ⊢; exact H)
                                  have hji30_ : ((IntKind.u64.wrap ((IntKind.u64.wrap ((IntKind.u64.wrap ((IntKind.u64.wrap ((IntKind.u64.wrap ((IntKind.u64.wrap ((Go.bits .or .u64 (ji12) (ji15)) * 4294967296)) + ((ji17) / 4294967296))) - (IntKind.u64.wrap (x15_18 * ji10)))) * 4294967296)) + (Go.bits .and .u64 (ji17) 4294967295))) - (IntKind.u64.wrap ((IntKind.u64.wrap (x18_2 - 1)) * ji10)))) / 2 ^ min ji8.toNat 64) = ji30 := hji30
                                  have hji30z : ji8 ≤ 64 → ((IntKind.u64.wrap ((IntKind.u64.wrap ((IntKind.u64.wrap ((IntKind.u64.wrap ((IntKind.u64.wrap ((IntKind.u64.wrap ((Go.bits .or .u64 (ji12) (ji15)) * 4294967296)) + ((ji17) / 4294967296))) - (IntKind.u64.wrap (x15_18 * ji10)))) * 4294967296)) + (Go.bits .and .u64 (ji17) 4294967295))) - (IntKind.u64.wrap ((IntKind.u64.wrap (x18_2 - 1)) * ji10)))) / 2 ^ ji8.toNat) = ji30 := shr_small hji30
                                  simp only [Option.some.injEq, Prod.mk.injEq] at H
                                  obtain ⟨rfl, rfl⟩ := H
                                  go_wp2
                                  repeat (go_quiet (fail); try go_wp2)
                                  go_ret2
                                  exact ⟨by first | rfl | (simp; done) | (simp only [← hji8, ← hji10, ← hji12, ← hji13, ← hji15, ← hji17, ← hji30] <;> (first | rfl | simp)) | (simp [*]; done), by repeat (first | exact Drawn0.refl _ | apply Drawn0.step)⟩
                                · rw [if_neg c29] at H
                                  exact absurd H (by simp)
                              · rw [if_neg c28] at H
                                have c28b0 : decide (4294967296 ≤ (IntKind.u64.wrap (x16_2 + ((ji10) / 4294967296)))) = false := decide_eq_false c28
                                clear c28
                                have H' := Aside0.mk H
                                clear H
                                go_wp2
                                repeat (go_quiet (fail); try go_wp2)
                                go_roundg kj24
                                case measure => have := HJ18.out; have := HK2.out; have := HJ24.out; omega
                                case rel => exact ⟨(IntKind.u64.wrap (x16_2 + ((ji10) / 4294967296))), (IntKind.u64.wrap (x18_2 - 1)), (by first | rfl | (simp; done) | (simp only [← hji10] <;> (first | rfl | simp)) | (simp [*]; done)), (by first | rfl | (simp; done) | (simp [*]; done)), H', ⟨by have := HJ18.out; have := HK2.out; have := HJ24.out; omega⟩, by repeat (first | exact Drawn0.refl _ | apply Drawn0.step)⟩
                            · replace c27 := Bool.eq_false_iff.mpr c27
                              subst c27
                              have H1 : (if 0 ≤ ji8 then (some (IntKind.u64.wrap ((IntKind.u64.wrap (x15_18 * 4294967296)) + x18_2), shr .u64 (IntKind.u64.wrap ((IntKind.u64.wrap ((IntKind.u64.wrap ((IntKind.u64.wrap ((IntKind.u64.wrap ((IntKind.u64.wrap ((Go.bits .or .u64 (ji12) (ji15)) * 4294967296)) + ((ji17) / 4294967296))) - (IntKind.u64.wrap (x15_18 * ji10)))) * 4294967296)) + (Go.bits .and .u64 (ji17) 4294967295))) - (IntKind.u64.wrap (x18_2 * ji10)))) ji8)) else (none)) = some (r1, r2) := by rw [if_neg (show ¬ (false = true) by decide)] at H; exact H
                              clear H
                              have H := H1
                              clear H1
                              by_cases c31 : 0 ≤ ji8
                              · rw [if_pos c31] at H
                                have c31b0 := eq_true c31
                                have c31b1 : decide (0 ≤ ji8) = true := decide_eq_true c31
                                clear c31
                                obtain ⟨ji32, hji32⟩ : ∃ j_ : Int, (shr .u64 (IntKind.u64.wrap ((IntKind.u64.wrap ((IntKind.u64.wrap ((IntKind.u64.wrap ((IntKind.u64.wrap ((IntKind.u64.wrap ((Go.bits .or .u64 (ji12) (ji15)) * 4294967296)) + ((ji17) / 4294967296))) - (IntKind.u64.wrap (x15_18 * ji10)))) * 4294967296)) + (Go.bits .and .u64 (ji17) 4294967295))) - (IntKind.u64.wrap (x18_2 * ji10)))) ji8) = j_ := ⟨_, rfl⟩
                                replace H : (some (IntKind.u64.wrap ((IntKind.u64.wrap (x15_18 * 4294967296)) + x18_2), ji32)) = some (r1, r2) := by first | (rw [hji32] at H; exact H) | (simp only [hji32] at H ⊢; exact H)
                                have hji32_ : ((IntKind.u64.wrap ((IntKind.u64.wrap ((IntKind.u64.wrap ((IntKind.u64.wrap ((IntKind.u64.wrap ((IntKind.u64.wrap ((Go.bits .or .u64 (ji12) (ji15)) * 4294967296)) + ((ji17) / 4294967296))) - (IntKind.u64.wrap (x15_18 * ji10)))) * 4294967296)) + (Go.bits .and .u64 (ji17) 4294967295))) - (IntKind.u64.wrap (x18_2 * ji10)))) / 2 ^ min ji8.toNat 64) = ji32 := hji32
                                have hji32z : ji8 ≤ 64 → ((IntKind.u64.wrap ((IntKind.u64.wrap ((IntKind.u64.wrap ((IntKind.u64.wrap ((IntKind.u64.wrap ((IntKind.u64.wrap ((Go.bits .or .u64 (ji12) (ji15)) * 4294967296)) + ((ji17) / 4294967296))) - (IntKind.u64.wrap (x15_18 * ji10)))) * 4294967296)) + (Go.bits .and .u64 (ji17) 4294967295))) - (IntKind.u64.wrap (x18_2 * ji10)))) / 2 ^ ji8.toNat) = ji32 := shr_small hji32
                                simp only [Option.some.injEq, Prod.mk.injEq] at H
                                obtain ⟨rfl, rfl⟩ := H
                                go_wp2
                                repeat (go_quiet (fail); try go_wp2)
                                go_ret2
                                exact ⟨by first | rfl | (simp; done) | (simp only [← hji8, ← hji10, ← hji12, ← hji13, ← hji15, ← hji17, ← hji32] <;> (first | rfl | simp)) | (simp [*]; done), by repeat (first | exact Drawn0.refl _ | apply Drawn0.step)⟩
                              · rw [if_neg c31] at H
                                exact absurd H (by simp)
          · rw [if_neg c14] at H
            exact absurd H (by simp)
        · rw [if_neg c9] at H
          exact absurd H (by simp)
end Go.Proofs.YtgkdealidnidiaaDoor.Na
namespace Go.Proofs.YtgkdealidnidiaaDoor.Na
open Go.RowKit Go.Proofs.YtgkdealidnidiaaDoorW.PrintWords Go.Proofs.YtgkdealidnidiaaDoorW.PrintLast Go.Proofs.YtgkdealidnidiaaDoorW.PrintMore Go.Proofs.YtgkdealidnidiaaDoor.Dg
structure Gs (u n1 y1 y0 D q r : Nat) : Prop where
  h1 : 2147483648 ≤ y1
  h2 : y1 < 4294967296
  h3 : y0 < 4294967296
  hu : u < y1 * 4294967296 + y0
  hn : n1 < 4294967296
  hD : D = (u * 4294967296 + n1) / (y1 * 4294967296 + y0)
  hq : q * y1 + r = u
  hr : r < 4294967296
  hDq : D ≤ q
  hq1 : q ≤ 4294967297
theorem Gs.low {u n1 y1 y0 D q r : Nat} (h : Gs u n1 y1 y0 D q r) (hle : q * (y1 * 4294967296 + y0) ≤ u * 4294967296 + n1) : q = D := by
  have h1 := h.h1
  have := (Nat.le_div_iff_mul_le (show 0 < y1 * 4294967296 + y0 by omega)).2 hle
  rw [← h.hD] at this
  have := h.hDq
  omega
theorem Gs.mulq {u n1 y1 y0 D q r : Nat} (h : Gs u n1 y1 y0 D q r) : q * (y1 * 4294967296 + y0) + r * 4294967296 = u * 4294967296 + q * y0 := by
  rw [← h.hq]; grind
theorem Gs.stop {u n1 y1 y0 D q r : Nat} (h : Gs u n1 y1 y0 D q r) (hs : q * y0 ≤ 4294967296 * r + n1) : q = D := by
  refine h.low ?_
  have := h.mulq
  omega
theorem Gs.big {u n1 y1 y0 D q r : Nat} (h : Gs u n1 y1 y0 D q r) (hs : 4294967296 ≤ q ∨ 4294967296 * r + n1 < q * y0) : D + 1 ≤ q := by
  have h1 := h.h1
  have hp : 0 < y1 * 4294967296 + y0 := by omega
  rcases hs with hs | hs
  · -- the digit is below the base
    have hlt : D < 4294967296 := by
      rw [h.hD, Nat.div_lt_iff_lt_mul hp]
      have := h.hu
      have h2 : (u + 1) * 4294967296 ≤ (y1 * 4294967296 + y0) * 4294967296 := Nat.mul_le_mul_right _ this
      have := h.hn
      omega
    omega
  · rcases Nat.lt_or_ge D q with hd | hd
    · exact hd
    · exfalso
      have hDq := h.hDq
      have e : D = q := by omega
      have hm := Nat.div_mul_le_self (u * 4294967296 + n1) (y1 * 4294967296 + y0)
      rw [← h.hD, e] at hm
      have := h.mulq
      omega
theorem Gs.down {u n1 y1 y0 D q r : Nat} (h : Gs u n1 y1 y0 D q r) (hb : D + 1 ≤ q) (hr : r + y1 < 4294967296) : Gs u n1 y1 y0 D (q - 1) (r + y1) := by
  refine ⟨h.h1, h.h2, h.h3, h.hu, h.hn, h.hD, ?_, hr, by omega, by have := h.hq1; omega⟩
  have := h.hq
  have e : q * y1 = (q - 1) * y1 + y1 := by rw [← Nat.succ_mul]; congr 1; omega
  omega
theorem Gs.last {u n1 y1 y0 D q r : Nat} (h : Gs u n1 y1 y0 D q r) (hb : D + 1 ≤ q) (hr : ¬ r + y1 < 4294967296) : q - 1 = D := by
  have h1 := h.h1
  have hle : (q - 1) * (y1 * 4294967296 + y0) ≤ u * 4294967296 + n1 := by
    have hq := h.hq
    have e : q * y1 = (q - 1) * y1 + y1 := by rw [← Nat.succ_mul]; congr 1; omega
    have e2 : (q - 1) * (y1 * 4294967296 + y0) = (q - 1) * y1 * 4294967296 + (q - 1) * y0 := by grind
    have e3 : (q - 1) * y0 ≤ 4294967296 * 4294967295 := Nat.mul_le_mul (by have := h.hq1; omega) (by have := h.h3; omega)
    generalize (q - 1) * y1 = A at e e2
    generalize (q - 1) * y0 = C at e2 e3
    omega
  have := (Nat.le_div_iff_mul_le (show 0 < y1 * 4294967296 + y0 by omega)).2 hle
  rw [← h.hD] at this
  omega
theorem Gs.first {u n1 y1 y0 : Nat} (h1 : 2147483648 ≤ y1) (h2 : y1 < 4294967296) (h3 : y0 < 4294967296) (hu : u < y1 * 4294967296 + y0) (hn : n1 < 4294967296) : Gs u n1 y1 y0 ((u * 4294967296 + n1) / (y1 * 4294967296 + y0)) (u / y1) (u % y1) := by
  have hp : 0 < y1 := by omega
  have hq1 : u / y1 ≤ 4294967297 := by
    have : u / y1 < 4294967298 := by
      rw [Nat.div_lt_iff_lt_mul hp]; omega
    omega
  refine ⟨h1, h2, h3, hu, hn, rfl, by rw [Nat.mul_comm]; exact Nat.div_add_mod u y1, Nat.lt_trans (Nat.mod_lt _ hp) h2, ?_, hq1⟩
  have := guess_hi (B := 4294967296) (P := 1) (U := ((u * 4294967296 + n1 : Nat) : Int)) (V := ((y1 * 4294967296 + y0 : Nat) : Int)) (u2 := 0) (u1 := u) (u0 := n1) (v1 := y1) (v0 := y0) (U' := 0) (V' := 0) (d := (((u * 4294967296 + n1) / (y1 * 4294967296 + y0) : Nat) : Int)) (by decide) (by decide) (by simp) (by simp) (by decide) (by decide) (by omega) (by omega) (by omega) (Int.natCast_nonneg _) (by rw [← Int.natCast_mul]; exact Int.ofNat_le.2 (Nat.div_mul_le_self _ _))
  rw [Int.zero_mul, Int.zero_add, ← Int.natCast_ediv] at this
  exact Int.ofNat_le.1 this
theorem uw_nat {x : Nat} (h : x < 18446744073709551616) : IntKind.u64.wrap (x : Int) = (x : Int) := u64w (Int.natCast_nonneg _) (by omega)
theorem Gs.prod {u n1 y1 y0 D q r : Nat} (h : Gs u n1 y1 y0 D q r) (hq : ¬ 4294967296 ≤ q) : q * y0 < 18446744073709551616 := by
  have h3 := h.h3
  have := Nat.mul_le_mul (show q ≤ 4294967295 by omega) (show y0 ≤ 4294967295 by omega)
  omega
theorem Gs.cond {u n1 y1 y0 D q r : Nat} (h : Gs u n1 y1 y0 D q r) (hq : ¬ 4294967296 ≤ q) : decide (IntKind.u64.wrap ((q : Int) * (y0 : Int)) > IntKind.u64.wrap (IntKind.u64.wrap (4294967296 * (r : Int)) + (n1 : Int))) = decide (4294967296 * r + n1 < q * y0) := by
  have hp := h.prod hq
  have hr := h.hr
  have hn := h.hn
  rw [show (q : Int) * (y0 : Int) = ((q * y0 : Nat) : Int) by rw [Int.natCast_mul], uw_nat hp, show (4294967296 : Int) * (r : Int) = ((4294967296 * r : Nat) : Int) by omega, uw_nat (by omega), ← Int.natCast_add, uw_nat (by omega)]
  by_cases hc : 4294967296 * r + n1 < q * y0
  · rw [decide_eq_true hc]; exact decide_eq_true (Int.ofNat_lt.2 hc)
  · rw [decide_eq_false hc]; exact decide_eq_false (fun hh => hc (Int.ofNat_lt.1 hh))
theorem Gs.sum {u n1 y1 y0 D q r : Nat} (h : Gs u n1 y1 y0 D q r) : IntKind.u64.wrap ((r : Int) + (y1 : Int)) = ((r + y1 : Nat) : Int) := by
  have h2 := h.h2; have hr := h.hr
  rw [← Int.natCast_add, uw_nat (by omega)]
theorem pred_wrap {q : Nat} (h0 : 1 ≤ q) (h1 : q ≤ 4294967297) : IntKind.u64.wrap ((q : Int) - 1) = ((q - 1 : Nat) : Int) := by
  rw [u64w (by omega) (by omega)]; omega
theorem divk_l0 (y s u n1 n0 y1 y0 D : Nat) (z : Int × Int) (hz : Ev (fun k => bits_DivK.j2 k y s y1 y0 u n1 n0 D) z) : ∀ (d q r : Nat), q ≤ d → Gs u n1 y1 y0 D q r → Ev (fun k => bits_DivK.l0 k y s y1 y0 u n1 n0 q r) z
  | 0, q, r, hd, h => by
    have hq0 : q = 0 := by omega
    have hD : D = 0 := by have := h.hDq; omega
    subst hq0 hD
    refine Ev.step (f := fun k => bits_DivK.j1 k y s y1 y0 u n1 n0 ((0 : Nat) : Int) r false) (fun k => ?_) ?_
    · have hc := (h.cond (by omega)).trans (decide_eq_false (show ¬ 4294967296 * r + n1 < 0 * y0 by omega))
      rw [bits_DivK.l0, if_neg (by omega), hc]
    · exact Ev.step (fun k => by rw [bits_DivK.j1, if_neg (by decide)]) hz
  | d + 1, q, r, hd, h => by
    have E := Aside0.mk h.sum
    have E2 := Aside0.mk (fun (h0 : 1 ≤ q) => pred_wrap h0 h.hq1)
    by_cases hb : 4294967296 ≤ q ∨ 4294967296 * r + n1 < q * y0
    · have hbig := h.big hb
      have hstep : ∀ k, bits_DivK.l0 (k + 1) y s y1 y0 u n1 n0 q r = bits_DivK.j1 k y s y1 y0 u n1 n0 q r true := by
        intro k
        rw [bits_DivK.l0]
        by_cases hq : 4294967296 ≤ q
        · rw [if_pos (by omega)]
        · rw [if_neg (by omega), h.cond hq, decide_eq_true (by omega)]
      refine Ev.step hstep ?_
      by_cases hr : r + y1 < 4294967296
      · have ih := divk_l0 y s u n1 n0 y1 y0 D z hz d (q - 1) (r + y1) (by omega) (h.down hbig hr)
        refine Ev.step (fun k => ?_) ih
        have g : ¬ ((r + y1 : Nat) : Int) ≥ 4294967296 := by omega
        rw [bits_DivK.j1, if_pos rfl, E.out, if_neg g, E2.out (by omega)]
      · have hl := h.last hbig hr
        refine Ev.step (fun k => ?_) hz
        have g : ((r + y1 : Nat) : Int) ≥ 4294967296 := by omega
        rw [bits_DivK.j1, if_pos rfl, E.out, if_pos g, E2.out (by omega), hl]
    · have hstop := h.stop (by omega)
      refine Ev.step (f := fun k => bits_DivK.j1 k y s y1 y0 u n1 n0 q r false) (fun k => ?_) ?_
      · rw [bits_DivK.l0, if_neg (by omega), h.cond (by omega), decide_eq_false (by omega)]
      · refine Ev.step (fun k => ?_) hz
        rw [bits_DivK.j1, if_neg (by decide), hstop]
theorem rest_wrap {u n1 y1 y0 D q r Y : Nat} (h : Gs u n1 y1 y0 D q r) (hY : Y = y1 * 4294967296 + y0) : IntKind.u64.wrap (IntKind.u64.wrap (IntKind.u64.wrap ((u : Int) * 4294967296) + (n1 : Int)) - IntKind.u64.wrap ((D : Int) * (Y : Int))) = (((u * 4294967296 + n1) % Y : Nat) : Int) := by
  have h1 := h.h1; have h2 := h.h2; have h3 := h.h3
  have hm := Nat.div_add_mod (u * 4294967296 + n1) Y
  have hlt := Nat.mod_lt (u * 4294967296 + n1) (show 0 < Y by omega)
  have hD := h.hD
  rw [← hY] at hD
  rw [← hD] at hm
  have e : (D : Int) * (Y : Int) = ((Y * D : Nat) : Int) := by rw [Int.natCast_mul, Int.mul_comm]
  rw [e]
  generalize Y * D = A at hm
  generalize (u * 4294967296 + n1) % Y = R at hm hlt ⊢
  rw [IntKind.wrap_u64, IntKind.wrap_u64, IntKind.wrap_u64, IntKind.wrap_u64]
  omega
theorem divk_l1 (Y s u n0 y1 y0 D q1 : Nat) (hY : Y = y1 * 4294967296 + y0) (hs : s ≤ 64) (hq1 : q1 < 4294967296) : ∀ (d q r : Nat), q ≤ d → Gs u n0 y1 y0 D q r → D < 4294967296 →
    Ev (fun k => bits_DivK.l1 k Y s y1 y0 n0 q1 r u q) (((q1 * 4294967296 + D : Nat) : Int), (((u * 4294967296 + n0) % Y / 2 ^ s : Nat) : Int)) := by
  intro d
  have fin : ∀ (q r : Nat), Gs u n0 y1 y0 D q r → D < 4294967296 → (IntKind.u64.wrap (IntKind.u64.wrap ((q1 : Int) * 4294967296) + (D : Int)), shr .u64 (IntKind.u64.wrap (IntKind.u64.wrap (IntKind.u64.wrap ((u : Int) * 4294967296) + (n0 : Int)) - IntKind.u64.wrap ((D : Int) * (Y : Int)))) (s : Int)) = ((((q1 * 4294967296 + D : Nat) : Int), (((u * 4294967296 + n0) % Y / 2 ^ s : Nat) : Int))) := by
    intro q r h hD
    rw [rest_wrap h hY, shr_word _ s hs]
    congr 1
    rw [show (q1 : Int) * 4294967296 = ((q1 * 4294967296 : Nat) : Int) by omega, uw_nat (by omega), ← Int.natCast_add, uw_nat (by omega)]
  have gs : (0 : Int) ≤ (s : Int) := by omega
  induction d with
  | zero =>
    intro q r hd h hDl
    have hq0 : q = 0 := by omega
    have hD : D = 0 := by have := h.hDq; omega
    have hfin := fin q r h hDl
    subst hq0 hD
    have hc := (h.cond (by omega)).trans (decide_eq_false (show ¬ 4294967296 * r + n0 < 0 * y0 by omega))
    refine Ev.step (f := fun k => bits_DivK.j4 k Y s y1 y0 n0 q1 r u ((0 : Nat) : Int) false) (fun k => by rw [bits_DivK.l1, if_neg (by omega), hc]) ?_
    refine Ev.step (f := fun _ => some _) (fun k => ?_) (Ev.now _)
    rw [bits_DivK.j4, if_neg (by decide), if_pos gs]
    exact congrArg some hfin
  | succ d ih =>
    intro q r hd h hDl
    have E := Aside0.mk h.sum
    have E2 := Aside0.mk (fun (h0 : 1 ≤ q) => pred_wrap h0 h.hq1)
    have hfin := Aside0.mk (fin q r h hDl)
    by_cases hb : 4294967296 ≤ q ∨ 4294967296 * r + n0 < q * y0
    · have hbig := h.big hb
      have hstep : ∀ k, bits_DivK.l1 (k + 1) Y s y1 y0 n0 q1 r u q = bits_DivK.j4 k Y s y1 y0 n0 q1 r u q true := by
        intro k
        rw [bits_DivK.l1]
        by_cases hq : 4294967296 ≤ q
        · rw [if_pos (by omega)]
        · rw [if_neg (by omega), h.cond hq, decide_eq_true (by omega)]
      refine Ev.step hstep ?_
      by_cases hr : r + y1 < 4294967296
      · refine Ev.step (fun k => ?_) (ih (q - 1) (r + y1) (by omega) (h.down hbig hr) hDl)
        have g : ¬ ((r + y1 : Nat) : Int) ≥ 4294967296 := by omega
        rw [bits_DivK.j4, if_pos rfl, E.out, if_neg g, E2.out (by omega)]
      · have hl := h.last hbig hr
        refine Ev.step (f := fun _ => some _) (fun k => ?_) (Ev.now _)
        have g : ((r + y1 : Nat) : Int) ≥ 4294967296 := by omega
        rw [bits_DivK.j4, if_pos rfl, E.out, if_pos g, E2.out (by omega), hl, if_pos gs]
        exact congrArg some hfin.out
    · have hstop := h.stop (by omega)
      refine Ev.step (f := fun k => bits_DivK.j4 k Y s y1 y0 n0 q1 r u q false) (fun k => ?_) ?_
      · rw [bits_DivK.l1, if_neg (by omega), h.cond (by omega), decide_eq_false (by omega)]
      · refine Ev.step (f := fun _ => some _) (fun k => ?_) (Ev.now _)
        rw [bits_DivK.j4, if_neg (by decide), hstop, if_pos gs]
        exact congrArg some hfin.out
theorem tdiv_word (u y : Nat) (hu : u < 18446744073709551616) : IntKind.u64.wrap (Int.tdiv (u : Int) (y : Int)) = ((u / y : Nat) : Int) := by
  have := Nat.div_le_self u y
  rw [tdiv_nn (Int.natCast_nonneg _), ← Int.natCast_ediv, uw_nat (by omega)]
theorem mod_word (u y1 : Nat) (hu : u < 18446744073709551616) : IntKind.u64.wrap ((u : Int) - IntKind.u64.wrap (((u / y1 : Nat) : Int) * (y1 : Int))) = ((u % y1 : Nat) : Int) := by
  have h := Nat.div_add_mod u y1
  rw [← Int.natCast_mul, Nat.mul_comm (u / y1)]
  generalize y1 * (u / y1) = A at h
  generalize u % y1 = R at h
  rw [uw_nat (by omega), u64w (by omega) (by omega)]; omega
theorem divk_norm (hi lo y : Nat) (hy : y < 18446744073709551616) (hlo : lo < 18446744073709551616) (hh : hi < y) :
    ∃ s Y u v, s ≤ 63 ∧ (64 - nb y = s ∧ nb y ≤ 64 ∧ 0 < nb y) ∧ y * 2 ^ s = Y ∧ Y < 18446744073709551616 ∧ 9223372036854775808 ≤ Y ∧ shl .u64 (y : Int) (s : Int) = ((Y : Nat) : Int) ∧ u < Y ∧
      Go.bits .or .u64 (shl .u64 (hi : Int) (s : Int)) (shr .u64 (lo : Int) ((64 - s : Nat) : Int)) = ((u : Nat) : Int) ∧ shl .u64 (lo : Int) (s : Int) = ((v : Nat) : Int) ∧
      (hi * 18446744073709551616 + lo) * 2 ^ s = u * 18446744073709551616 + v ∧ v < 18446744073709551616 := by
  have hy0 : 0 < y := by omega
  obtain ⟨s, hs⟩ : ∃ s, 64 - nb y = s := ⟨_, rfl⟩
  have hny : nb y ≤ 64 := (nb_le y 64).2 hy
  have hp1 := nb_pos hy0
  have hs64 : s ≤ 63 := by omega
  have hYlt : y * 2 ^ s < 18446744073709551616 := by
    have h1 : y * 2 ^ s < 2 ^ nb y * 2 ^ s := Nat.mul_lt_mul_of_lt_of_le (nb_lt y) (Nat.le_refl _) (Nat.pow_pos (by decide))
    rw [← Nat.pow_add, show nb y + s = 64 by omega] at h1
    exact h1
  have hYge : 9223372036854775808 ≤ y * 2 ^ s := by
    have h1 : 2 ^ (nb y - 1) * 2 ^ s ≤ y * 2 ^ s := Nat.mul_le_mul_right _ (nb_ge hy0)
    rw [← Nat.pow_add, show nb y - 1 + s = 63 by omega] at h1
    exact h1
  have hshly : shl .u64 (y : Int) (s : Int) = ((y * 2 ^ s : Nat) : Int) := by rw [shl_word y s (by omega), Nat.mod_eq_of_lt hYlt]
  -- the dividend's words, shifted
  have hu : hi * 2 ^ s + lo / 2 ^ (64 - s) < y * 2 ^ s := by
    have h1 : lo / 2 ^ (64 - s) < 2 ^ s := by rw [Nat.div_lt_iff_lt_mul (Nat.pow_pos (by decide)), ← two64 s (by omega)]; exact hlo
    have h2 : (hi + 1) * 2 ^ s ≤ y * 2 ^ s := Nat.mul_le_mul_right _ hh
    rw [Nat.add_mul, Nat.one_mul] at h2; omega
  have hshlh : Go.bits .or .u64 (shl .u64 (hi : Int) (s : Int)) (shr .u64 (lo : Int) ((64 - s : Nat) : Int)) = ((hi * 2 ^ s + lo / 2 ^ (64 - s) : Nat) : Int) := by
    have h1 : lo / 2 ^ (64 - s) < 2 ^ s := by rw [Nat.div_lt_iff_lt_mul (Nat.pow_pos (by decide)), ← two64 s (by omega)]; exact hlo
    have h3 : hi * 2 ^ s < 18446744073709551616 := Nat.lt_trans (Nat.lt_of_le_of_lt (Nat.le_add_right _ _) hu) hYlt
    have h4 := nat_join s (hi * 2 ^ s) (lo / 2 ^ (64 - s)) (Nat.mul_mod_left _ _) h1
    rw [shl_word hi s (by omega), shr_word lo (64 - s) (by omega), Nat.mod_eq_of_lt h3, u64_or_nat _ _ h3 (Nat.lt_of_le_of_lt (Nat.div_le_self _ _) hlo), h4]
  have hshll : shl .u64 (lo : Int) (s : Int) = ((lo * 2 ^ s % 18446744073709551616 : Nat) : Int) := shl_word lo s (by omega)
  have hU : (hi * 18446744073709551616 + lo) * 2 ^ s = (hi * 2 ^ s + lo / 2 ^ (64 - s)) * 18446744073709551616 + lo * 2 ^ s % 18446744073709551616 := by
    have h1 := Nat.div_add_mod (lo * 2 ^ s) 18446744073709551616
    rw [mul_pow_div lo s (by omega)] at h1
    grind
  have hU2 : lo * 2 ^ s % 18446744073709551616 < 18446744073709551616 := Nat.mod_lt _ (by decide)
  exact ⟨s, _, _, _, hs64, ⟨hs, hny, hp1⟩, rfl, hYlt, hYge, hshly, hu, hshlh, hshll, hU, hU2⟩
theorem divk_ev (hi lo y : Nat) (hy : y < 18446744073709551616) (hlo : lo < 18446744073709551616) (hh : hi < y) :
    Ev (fun k => bits_DivK.f k hi lo y) ((((hi * 18446744073709551616 + lo) / y : Nat) : Int), (((hi * 18446744073709551616 + lo) % y : Nat) : Int)) := by
  have a1 : ¬ (y : Int) = 0 := by omega
  have a2 : ¬ (y : Int) ≤ (hi : Int) := by omega
  by_cases h0 : hi = 0
  · subst h0
    refine Ev.congr (f := fun _ => some ((((0 * 18446744073709551616 + lo) / y : Nat) : Int), (((0 * 18446744073709551616 + lo) % y : Nat) : Int))) (fun k => ?_) (Ev.now _)
    unfold bits_DivK.f
    rw [if_neg a1, if_neg a2, if_pos (by simp), tdiv_word lo y hlo, tmod_nn (Int.natCast_nonneg _), ← Int.natCast_emod, Nat.zero_mul, Nat.zero_add]
  · obtain ⟨s, Y, u, v, hs64, ⟨hs, hny, hp1⟩, hYY, hYlt, hYge, hshly, hu, hshlh, hshll, hU, hU2⟩ := divk_norm hi lo y hy hlo hh
    have hand : ∀ x : Nat, x < 18446744073709551616 → Go.bits .and .u64 (x : Int) 4294967295 = ((x % 4294967296 : Nat) : Int) := fun x hx => by
      have := u64_and_nat x 4294967295 hx (by decide)
      rw [show ((4294967295 : Nat) : Int) = 4294967295 from rfl] at this
      rw [this, show (4294967295 : Nat) = 2 ^ 32 - 1 by decide, Nat.and_two_pow_sub_one_eq_mod]
    have hYe : Y = Y / 4294967296 * 4294967296 + Y % 4294967296 := by omega
    have hve : v = v / 4294967296 * 4294967296 + v % 4294967296 := by omega
    have hdY : ((Y : Nat) : Int) / 4294967296 = ((Y / 4294967296 : Nat) : Int) := by omega
    have hdv : ((v : Nat) : Int) / 4294967296 = ((v / 4294967296 : Nat) : Int) := by omega
    have hG1 := Gs.first (u := u) (n1 := v / 4294967296) (y1 := Y / 4294967296) (y0 := Y % 4294967296) (by omega) (by omega) (by omega) (by omega) (by omega)
    rw [← hYe] at hG1
    obtain ⟨D1, hD1⟩ : ∃ D, (u * 4294967296 + v / 4294967296) / Y = D := ⟨_, rfl⟩
    have hm1 := Nat.div_add_mod (u * 4294967296 + v / 4294967296) Y
    have hlt1 := Nat.mod_lt (u * 4294967296 + v / 4294967296) (show 0 < Y by omega)
    have hrest1 := rest_wrap hG1 hYe
    rw [hD1] at hG1 hm1 hrest1
    have hD1lt : D1 < 4294967296 := by
      rw [← hD1, Nat.div_lt_iff_lt_mul (by omega)]; omega
    obtain ⟨u2, hm1, hlt1, hrest1⟩ : ∃ u2 : Nat, Y * D1 + u2 = u * 4294967296 + v / 4294967296 ∧ u2 < Y ∧ IntKind.u64.wrap (IntKind.u64.wrap (IntKind.u64.wrap ((u : Int) * 4294967296) + ((v / 4294967296 : Nat) : Int)) - IntKind.u64.wrap ((D1 : Int) * (Y : Int))) = (u2 : Int) := ⟨_, hm1, hlt1, hrest1⟩
    have hrest1 := Aside0.mk hrest1
    have hG2 := Gs.first (u := u2) (n1 := v % 4294967296) (y1 := Y / 4294967296) (y0 := Y % 4294967296) (by omega) (by omega) (by omega) (by omega) (by omega)
    rw [← hYe] at hG2
    obtain ⟨D2, hD2⟩ : ∃ D, (u2 * 4294967296 + v % 4294967296) / Y = D := ⟨_, rfl⟩
    have hm2 := Nat.div_add_mod (u2 * 4294967296 + v % 4294967296) Y
    have hlt2 := Nat.mod_lt (u2 * 4294967296 + v % 4294967296) (show 0 < Y by omega)
    rw [hD2] at hG2 hm2
    have hD2lt : D2 < 4294967296 := by
      rw [← hD2, Nat.div_lt_iff_lt_mul (by omega)]; omega
    have hl1 := divk_l1 Y s u2 (v % 4294967296) (Y / 4294967296) (Y % 4294967296) D2 D1 hYe (by omega) hD1lt _ (u2 / (Y / 4294967296)) (u2 % (Y / 4294967296)) (Nat.le_refl _) hG2 hD2lt
    -- the whole
    have htot : (hi * 18446744073709551616 + lo) * 2 ^ s = Y * (D1 * 4294967296 + D2) + (u2 * 4294967296 + v % 4294967296) % Y := by
      rw [hU]
      generalize (u2 * 4294967296 + v % 4294967296) % Y = R at hm2
      have e1 : Y * (D1 * 4294967296 + D2) = Y * D1 * 4294967296 + Y * D2 := by grind
      rw [e1]
      generalize Y * D1 = A1 at hm1
      generalize Y * D2 = A2 at hm2
      omega
    have hps : 0 < 2 ^ s := Nat.pow_pos (by decide)
    have hq : (hi * 18446744073709551616 + lo) / y = D1 * 4294967296 + D2 := by
      have : (hi * 18446744073709551616 + lo) * 2 ^ s / Y = D1 * 4294967296 + D2 := by rw [htot, Nat.mul_add_div (by omega), Nat.div_eq_of_lt hlt2, Nat.add_zero]
      rw [← hYY, Nat.mul_div_mul_right _ _ hps] at this; exact this
    have hr : (hi * 18446744073709551616 + lo) % y = (u2 * 4294967296 + v % 4294967296) % Y / 2 ^ s := by
      have : (hi * 18446744073709551616 + lo) * 2 ^ s % Y = (u2 * 4294967296 + v % 4294967296) % Y := by rw [htot, Nat.mul_add_mod, Nat.mod_mod]
      rw [← this, ← hYY, Nat.mul_mod_mul_right, Nat.mul_div_cancel _ hps]
    rw [hq, hr]
    have hyn : ¬ ((Y / 4294967296 : Nat) : Int) = 0 := by omega
    have w1 := Aside0.mk (And.intro (tdiv_word u2 (Y / 4294967296) (by omega)) (mod_word u2 (Y / 4294967296) (by omega)))
    have w2 := Aside0.mk (And.intro (tdiv_word u (Y / 4294967296) (by omega)) (mod_word u (Y / 4294967296) (by omega)))
    have hj2 : Ev (fun k => bits_DivK.j2 k Y s ((Y / 4294967296 : Nat) : Int) ((Y % 4294967296 : Nat) : Int) u ((v / 4294967296 : Nat) : Int) ((v % 4294967296 : Nat) : Int) D1) (((D1 * 4294967296 + D2 : Nat) : Int), (((u2 * 4294967296 + v % 4294967296) % Y / 2 ^ s : Nat) : Int)) := by
      refine Ev.step (fun k => ?_) hl1
      rw [bits_DivK.j2, if_neg hyn, hrest1.out, w1.out.1, w1.out.2]
    have hl0 := divk_l0 Y s u (v / 4294967296) (v % 4294967296) (Y / 4294967296) (Y % 4294967296) D1 _ hj2 _ (u / (Y / 4294967296)) (u % (Y / 4294967296)) (Nat.le_refl _) hG1
    have hlz : Ev (fun k => bits_LeadingZeros64.f k (y : Int)) (s : Int) := by
      refine Ev.step (f := fun _ => some (s : Int)) (fun k => ?_) (Ev.now _)
      have E := Aside0.mk (show wrap64 (64 - (nb y : Int)) = (s : Int) by rw [w64 (by omega) (by omega)]; omega)
      unfold bits_LeadingZeros64.f
      simp only [bits_Len64.f]
      rw [if_pos (by omega), Option.bind_some, Int.toNat_natCast, bitLen_nb hy, E.out]
    refine Ev.congr (f := fun k => (bits_LeadingZeros64.f k (y : Int)).bind fun t118 => if 0 ≤ (IntKind.u64.wrap (t118)) then (if 0 ≤ (IntKind.u64.wrap (64 - (IntKind.u64.wrap (t118)))) then (if ((shl .u64 (y : Int) (IntKind.u64.wrap (t118))) / 4294967296) = 0 then (none) else (bits_DivK.l0 k (shl .u64 (y : Int) (IntKind.u64.wrap (t118))) (IntKind.u64.wrap (t118)) ((shl .u64 (y : Int) (IntKind.u64.wrap (t118))) / 4294967296) (Go.bits .and .u64 (shl .u64 (y : Int) (IntKind.u64.wrap (t118))) 4294967295) (Go.bits .or .u64 (shl .u64 (hi : Int) (IntKind.u64.wrap (t118))) (shr .u64 (lo : Int) (IntKind.u64.wrap (64 - (IntKind.u64.wrap (t118)))))) ((shl .u64 (lo : Int) (IntKind.u64.wrap (t118))) / 4294967296) (Go.bits .and .u64 (shl .u64 (lo : Int) (IntKind.u64.wrap (t118))) 4294967295) (IntKind.u64.wrap (Int.tdiv (Go.bits .or .u64 (shl .u64 (hi : Int) (IntKind.u64.wrap (t118))) (shr .u64 (lo : Int) (IntKind.u64.wrap (64 - (IntKind.u64.wrap (t118)))))) ((shl .u64 (y : Int) (IntKind.u64.wrap (t118))) / 4294967296))) (IntKind.u64.wrap ((Go.bits .or .u64 (shl .u64 (hi : Int) (IntKind.u64.wrap (t118))) (shr .u64 (lo : Int) (IntKind.u64.wrap (64 - (IntKind.u64.wrap (t118)))))) - (IntKind.u64.wrap ((IntKind.u64.wrap (Int.tdiv (Go.bits .or .u64 (shl .u64 (hi : Int) (IntKind.u64.wrap (t118))) (shr .u64 (lo : Int) (IntKind.u64.wrap (64 - (IntKind.u64.wrap (t118)))))) ((shl .u64 (y : Int) (IntKind.u64.wrap (t118))) / 4294967296))) * ((shl .u64 (y : Int) (IntKind.u64.wrap (t118))) / 4294967296))))))) else (none)) else (none)) (fun k => by unfold bits_DivK.f; rw [if_neg a1, if_neg a2, if_neg (by omega)]) ?_
    refine Ev.bind hlz ?_
    have E := Aside0.mk (And.intro (uw_nat (x := s) (by omega)) (show IntKind.u64.wrap (64 - (s : Int)) = ((64 - s : Nat) : Int) by rw [u64w (by omega) (by omega)]; omega))
    have gs : (0 : Int) ≤ (s : Int) := by omega
    have gs2 : (0 : Int) ≤ ((64 - s : Nat) : Int) := by omega
    refine Ev.congr (fun k => ?_) hl0
    rw [E.out.1, if_pos gs, E.out.2, if_pos gs2, hshly, hdY, if_neg hyn, hshlh, hshll, hdv, hand Y hYlt, hand v hU2, w2.out.1, w2.out.2]
end Go.Proofs.YtgkdealidnidiaaDoor.Na
namespace Go.Proofs.YtgkdealidnidiaaDoor.Na
open Go.RowKit Go.Proofs.YtgkdealidnidiaaDoorW.PrintWords Go.Proofs.YtgkdealidnidiaaDoorW.PrintLast Go.Proofs.YtgkdealidnidiaaDoorW.PrintMore
attribute [local go_sem] min2_int min_two
set_option linter.unusedVariables false
set_option linter.unusedSimpArgs false
def bits_Div64.f (a0 : Int) (a1 : Int) (a2 : Int) : Option (Int × Int) := if (0 ≤ a0 ∧ a0 < a2) ∧ (0 ≤ a1 ∧ a1 < 18446744073709551616) ∧ a2 < 18446744073709551616 then some ((a0 * 18446744073709551616 + a1) / a2, (a0 * 18446744073709551616 + a1) % a2) else none
theorem bits_Div64.calls (a0 : Int) (a1 : Int) (a2 : Int) (r1 : Int) (r2 : Int) (w : World) (h : bits_Div64.f a0 a1 a2 = some (r1, r2)) :
    Calls Tryd.prog 98 #[.int .u64 a0, .int .u64 a1, .int .u64 a2] w fun e w' => e = .returned (.tuple #[.int .u64 r1, .int .u64 r2]) ∧ Drawn0 w w' := by
  unfold bits_Div64.f at h
  split at h
  · rename_i hc
    obtain ⟨⟨h0, h1⟩, ⟨h2, h3⟩, h4⟩ := hc
    obtain ⟨x, rfl⟩ := Int.eq_ofNat_of_zero_le h0
    obtain ⟨y, rfl⟩ := Int.eq_ofNat_of_zero_le h2
    obtain ⟨z, rfl⟩ := Int.eq_ofNat_of_zero_le (show 0 ≤ a2 by omega)
    obtain ⟨k, hk⟩ := (divk_ev x y z (by omega) (by omega) (by omega)).rounds
    simp only [Option.some.injEq, Prod.mk.injEq] at h
    obtain ⟨rfl, rfl⟩ := h
    exact bits_DivK.calls k x y z _ _ w (by rw [hk]; simp)
  · exact absurd h (by simp)
end Go.Proofs.YtgkdealidnidiaaDoor.Na
namespace Go.Proofs.YtgkdealidnidiaaDoor.Na
open Go.RowKit Go.Proofs.YtgkdealidnidiaaDoorW.PrintWords Go.Proofs.YtgkdealidnidiaaDoorW.PrintLast Go.Proofs.YtgkdealidnidiaaDoorW.PrintMore
attribute [local go_sem] min2_int min_two
set_option linter.unusedVariables false
set_option linter.unusedSimpArgs false
def nat_divSmall.l0 : Nat → List Int → Int → List Int → Int → Int → Option (List Int × Int)
  | 0, _, _, _, _, _ => none
  | k + 1, x0, x1, x6, x7, x8 => if x8 ≥ 0 then (if 0 ≤ x8 then (if x8 < (x0.length : Int) then ((bits_Div64.f x7 (rd x0 x8) x1).bind fun bt133 => (if x8 < (x6.length : Int) then (nat_divSmall.l0 k x0 x1 (x6.set (x8 : Int).toNat bt133.1) bt133.2 (wrap64 (x8 - 1))) else (none))) else (none)) else (none)) else (some (x6, x7))
def nat_divSmall.f (k : Nat) (l0 : List Int) (a1 : Int) : Option (List Int × Int) := if 0 ≤ (l0.length : Int) then (if ((l0.length : Int) : Int).toNat ≤ 35184372088832 then (nat_divSmall.l0 k l0 a1 (List.replicate ((l0.length : Int) : Int).toNat 0) 0 (wrap64 ((l0.length : Int) - 1))) else (none)) else (none)
set_option maxHeartbeats 8000000 in
set_option maxRecDepth 100000 in
theorem nat_divSmall.calls (k : Nat) (A0 : Option Addr) (c0 : Nat) (l0 : List Int) (a1 : Int) (r1 : List Int) (r2 : Int) (w : World) (hr0 : Kd.C (Kd.int .u64) w A0 l0.length l0) (hc0 : l0.length ≤ c0) (h : nat_divSmall.f k l0 a1 = some (r1, r2)) :
    Calls Tryd.prog 67 #[.slice A0 l0.length c0, .int .u64 a1] w fun e w' => ∃ v0_ : Value, e = .returned (.tuple #[v0_, .int .u64 r2]) ∧ Kd.R (Kd.int .u64) 40 w' w.heap.size (fun _ => True) v0_ r1 ∧ Below w.heap.size w w' := by
  have HR0 := Aside0.mk hr0
  have HC0 := Aside0.mk hc0
  clear hr0 hc0
  have HB := Aside0.mk (Below.refl w.heap.size w)
  have H : (if 0 ≤ (l0.length : Int) then (if ((l0.length : Int) : Int).toNat ≤ 35184372088832 then (nat_divSmall.l0 k l0 a1 (List.replicate ((l0.length : Int) : Int).toNat 0) 0 (wrap64 ((l0.length : Int) - 1))) else (none)) else (none)) = some (r1, r2) := h
  clear h
  by_cases c3 : 0 ≤ (l0.length : Int)
  · rw [if_pos c3] at H
    have c3b0 := eq_true c3
    have c3b1 : decide (0 ≤ (l0.length : Int)) = true := decide_eq_true c3
    clear c3
    by_cases c4 : ((l0.length : Int) : Int).toNat ≤ 35184372088832
    · rw [if_pos c4] at H
      have c4b0 := eq_true c4
      have c4b1 : decide (((l0.length : Int) : Int).toNat ≤ 35184372088832) = true := decide_eq_true c4
      clear c4
      obtain ⟨y129, hy129⟩ : ∃ y_ : List Int, y_ = (List.replicate ((l0.length : Int) : Int).toNat 0) := ⟨_, rfl⟩
      replace H : (nat_divSmall.l0 k l0 a1 y129 0 (wrap64 ((l0.length : Int) - 1))) = some (r1, r2) := by first | (rw [hy129]; with_reducible exact H) | (have H2_ := (Option.bind_some _ _).symm.trans H; rw [hy129]; with_reducible exact H2_) | (have H2_ := (Option.bind_some _ _).symm.trans H; with_reducible exact H2_) | with_reducible exact H | (rw [hy129]; exact H) | exact H
      have Ny129 := Aside0.mk hy129
      clear hy129
      have H' := Aside0.mk H
      clear H
      go_enter Tryd.func67, Tryd.ntmps67
      go_wp2_with (first | ((with_reducible refine gate_dst (N := 11) rfl ?_); refine Kd.R_make (Kd.int .u64) _ 40 rfl (N := 11) rfl 22 _ _ rfl (l0.length : Int) rfl rfl Tryd.underlying22 (.int .u64 0) 8 info40 rfl (by decide) (by omega) 0 (ok := fun _ => True) (okp := fun _ => True) rfl (fun _ hk => hk) trivial (of_decide_eq_true (by first | (with_reducible assumption) | assumption)) (Nat.le_trans (Nat.mul_le_mul_right _ (of_decide_eq_true (by first | (with_reducible assumption) | assumption) : (l0.length : Int).toNat ≤ 35184372088832)) (by omega)) (Below.refl _ _) (Nat.le_refl _) ?_; intro v130 w5 ho6 hb hg_ hnew_; clear hg_ hnew_; (first | rw [← Ny129.out] at ho6 | (simp only [Int.reduceToNat] at ho6; rw [← Ny129.out] at ho6)); have n0_ := Aside0.mk (Kd.R_lower ho6 (below_size (by repeat (first | (with_reducible first | exact HB.out | apply below_alloc | apply pw_below_drewN | apply below_drew1) | exact HB.out)))); have n1_ := Aside0.mk (below_step (by repeat (first | (with_reducible first | exact HB.out | apply below_alloc | apply pw_below_drewN | apply below_drew1) | exact HB.out)) hb); clear HB; have HO131 := n0_; have HB := n1_; clear n0_ n1_; clear hb ho6))
      go_loopg [7, 8] k (fun kq v7 v8 w' => ∃ (x6_1 : List Int) (x7_1 : Int) (x8_1 : Int), v7 = .int .u64 x7_1 ∧ v8 = .int .i64 x8_1 ∧ Aside0 (nat_divSmall.l0 kq l0 a1 x6_1 x7_1 x8_1 = some (r1, r2)) ∧ Aside0 (kq ≤ k) ∧ Aside0 (Kd.R (Kd.int .u64) 40 w' w.heap.size (fun _ => True) v130 x6_1) ∧ Aside0 (Below w.heap.size w w'))
      case atStart => exact ⟨(y129), (0), (wrap64 ((l0.length : Int) - 1)), (by first | rfl | (simp; done) | (simp [*]; done)), (by first | rfl | (simp; done) | (simp [*]; done)), H', ⟨Nat.le_refl _⟩, ⟨by (with_reducible repeat (first | apply Kd.R_alloc | apply Kd.R_drewN | apply Kd.R_drew)); exact HO131.out⟩, ⟨by repeat (first | (with_reducible first | exact HB.out | apply below_alloc | apply pw_below_drewN | apply below_drew1) | exact HB.out)⟩⟩
      case round =>
        clear H'
        try clear p2
        try clear c3
        try clear c3b0
        try clear c3b1
        try clear c4
        try clear c4b0
        try clear c4b1
        try clear c6
        try clear p6
        obtain ⟨x6_1, x7_1, x8_1, rfl, rfl, HA, HK1, HO_6, HB⟩ := hrel
        cases gk with
        | zero => exact absurd HA.out (by simp [nat_divSmall.l0])
        | succ k1 =>
          have H := HA.out
          clear HA
          simp only [nat_divSmall.l0] at H
          by_cases c7 : x8_1 ≥ 0
          · rw [if_pos c7] at H
            have c7b0 : decide (0 ≤ x8_1) = true := decide_eq_true c7
            clear c7
            by_cases c8 : 0 ≤ x8_1
            · rw [if_pos c8] at H
              have c8b0 : decide (0 ≤ x8_1) = true := decide_eq_true c8
              clear c8
              by_cases c9 : x8_1 < (l0.length : Int)
              · rw [if_pos c9] at H
                have c9b0 : decide (x8_1 < (l0.length : Int)) = true := decide_eq_true c9
                clear c9
                replace H := Option.bind_eq_some_iff.mp H
                obtain ⟨⟨t133, t134⟩, A100, H⟩ := H
                replace H : (if x8_1 < (x6_1.length : Int) then (nat_divSmall.l0 k1 l0 a1 (x6_1.set (x8_1 : Int).toNat t133) t134 (wrap64 (x8_1 - 1))) else (none)) = some (r1, r2) := H
                have A10 := Aside0.mk A100
                clear A100
                by_cases c11 : x8_1 < (x6_1.length : Int)
                · rw [if_pos c11] at H
                  have c11b0 : decide (x8_1 < (x6_1.length : Int)) = true := decide_eq_true c11
                  clear c11
                  obtain ⟨y135, hy135⟩ : ∃ y_ : List Int, y_ = (x6_1.set (x8_1 : Int).toNat t133) := ⟨_, rfl⟩
                  replace H : (nat_divSmall.l0 k1 l0 a1 y135 t134 (wrap64 (x8_1 - 1))) = some (r1, r2) := by first | (rw [hy135]; with_reducible exact H) | (have H2_ := (Option.bind_some _ _).symm.trans H; rw [hy135]; with_reducible exact H2_) | (have H2_ := (Option.bind_some _ _).symm.trans H; with_reducible exact H2_) | with_reducible exact H | (rw [hy135]; exact H) | exact H
                  have Ny135 := Aside0.mk hy135
                  clear hy135
                  have H' := Aside0.mk H
                  clear H
                  have p132 : 0 ≤ (x8_1 : Int) := of_decide_eq_true (by first | (with_reducible assumption) | assumption)
                  have q132 : x8_1 < (l0.length : Int) := of_decide_eq_true (by first | (with_reducible assumption) | assumption)
                  obtain ⟨ad132, e132, hx132_0⟩ := Kd.at_int HR0.out x8_1 p132 q132
                  cases e132
                  replace hx132_0 := (HB.out.cell (World.block_lt_of_cell? w _ hx132_0)).trans hx132_0
                  replace p132 := eq_true p132
                  replace q132 := eq_true q132
                  go_wp2_with (first | ((with_reducible refine gate_callee (f := 98) rfl ?_); refine goesL_ (some 28) rfl rfl Tryd.func98 (by kernel_rfl) rfl #[.int .u64 x7_1, .int .u64 (rd l0 x8_1), .int .u64 a1] rfl (by (try simp only [List.map_toArray, List.map_cons, List.map_nil]); first | done | rfl | (simp only [List.length_drop, List.length_take]; rfl)) ?_; (with_reducible refine (bits_Div64.calls x7_1 (rd l0 x8_1) a1 t133 t134 _ A10.out).mono ?_); rintro e w' ⟨rfl, ⟨nd, rfl⟩⟩; refine ⟨_, rfl, ?_⟩; (try (rw [drewN_self wr]; generalize hq_ : World.drewN wr _ = wr; have n0_ : Aside0 (Kd.R (Kd.int .u64) 40 wr w.heap.size (fun _ => True) v130 x6_1) := ⟨by rw [← hq_]; exact (by (with_reducible repeat (first | apply Kd.R_alloc | apply Kd.R_drewN | apply Kd.R_drew)); exact HO_6.out)⟩; have n1_ : Aside0 (Below w.heap.size w wr) := ⟨by rw [← hq_]; exact (by repeat (first | (with_reducible first | exact HB.out | apply below_alloc | apply pw_below_drewN | apply below_drew1) | exact HB.out))⟩; clear HO_6 HB hq_; have HO_6 := n0_; have HB := n1_; clear n0_ n1_)); have p12 : 0 ≤ (x8_1 : Int) := of_decide_eq_true (by first | (with_reducible assumption) | assumption); have q12 : (x8_1 : Int) < ((x6_1.length : Int) : Int) := of_decide_eq_true (by first | (with_reducible assumption) | assumption); obtain ⟨go12, co12, eo12, gb12, gl12, cl12, HG12⟩ := Kd.R_form HO_6.out (by omega); (first | cases eo12 | (injection eo12 with ea_ en_ ec_; (first | subst ea_ | (injection ea_ with ea_; subst ea_)); subst ec_; clear en_)); have GB12 := Aside0.mk gb12; have GG12 := Aside0.mk HG12; clear gb12 gl12 HG12; obtain ⟨hx12_0, hf12_0⟩ := Kd.R_celln 0 HO_6.out (x8_1 : Int) p12 q12; replace p12 := eq_true p12; replace q12 := eq_true q12; obtain ⟨hy13_, hz13_⟩ := Kd.R_celln 0 HO_6.out (x8_1 : Int) (of_decide_eq_true (by first | (with_reducible assumption) | assumption)) (of_decide_eq_true (by first | (with_reducible assumption) | assumption)); have HP13 := Kd.R_putg HO_6.out (x8_1 : Int) t133) | ((with_reducible refine gate_store (t := 40) (p := 31) rfl ?_); refine store_event (t := 40) (p := 31) (v := ?vo_w14) (w1 := (wr.setCell ⟨go12, (x8_1 : Int).toNat, none⟩ (.int .u64 t133))) ?hg ?ho ?hn ?hr ?_; (case ho => rfl); (case hg => rfl); (case hn => rfl); (case hr => first | (go_simp; done) | (go_simp; rfl)); intro w14 hw; have hg : wr.grownBy w14 (some go12) := (by rw [hw]; exact HP13.2); have hp_ : Kd.R (Kd.int .u64) 40 w14 w.heap.size (fun _ => True) (.slice (some ⟨go12, 0, none⟩) x6_1.length co12) y135 := (by rw [hw, Ny135.out]; exact HP13.1); clear HP13; have n0_ := Aside0.mk (hp_); have n1_ := Aside0.mk ((by rw [hw]; exact below_set (HB.out) GB12.out : Below w.heap.size w w14)); clear HO_6; clear HB; have HO_6 := n0_; have HB := n1_; clear n0_ n1_; clear hg hw hp_))
                  go_roundg k1
                  case measure => have := HK1.out; omega
                  case rel => exact ⟨(y135), (t134), (wrap64 (x8_1 - 1)), (by first | rfl | (simp; done) | (simp [*]; done)), (by first | rfl | (simp; done) | (simp [*]; done)), H', ⟨by have := HK1.out; omega⟩, ⟨by (with_reducible repeat (first | apply Kd.R_alloc | apply Kd.R_drewN | apply Kd.R_drew)); exact HO_6.out⟩, ⟨by repeat (first | (with_reducible first | exact HB.out | apply below_alloc | apply pw_below_drewN | apply below_drew1) | exact HB.out)⟩⟩
                · rw [if_neg c11] at H
                  exact absurd H (by simp)
              · rw [if_neg c9] at H
                exact absurd H (by simp)
            · rw [if_neg c8] at H
              exact absurd H (by simp)
          · rw [if_neg c7] at H
            have c7b0 : decide (0 ≤ x8_1) = false := decide_eq_false c7
            clear c7
            simp only [Option.some.injEq, Prod.mk.injEq] at H
            obtain ⟨rfl, rfl⟩ := H
            go_wp2
            go_ret2
            exact ⟨_, by first | rfl | (simp [errW_none, errW_some] <;> rfl) | (simp [*, errW_none, errW_some] <;> rfl), by (with_reducible repeat (first | apply Kd.R_alloc | apply Kd.R_drewN | apply Kd.R_drew)); exact HO_6.out, by repeat (first | (with_reducible first | exact HB.out | apply below_alloc | apply pw_below_drewN | apply below_drew1) | exact HB.out)⟩
    · rw [if_neg c4] at H
      exact absurd H (by simp)
  · rw [if_neg c3] at H
    exact absurd H (by simp)
end Go.Proofs.YtgkdealidnidiaaDoor.Na
namespace Go.Proofs.YtgkdealidnidiaaDoor.Na
open Go.RowKit Go.Proofs.YtgkdealidnidiaaDoorW.PrintWords Go.Proofs.YtgkdealidnidiaaDoorW.PrintLast Go.Proofs.YtgkdealidnidiaaDoorW.PrintMore
attribute [local go_sem] min2_int min_two
set_option linter.unusedVariables false
set_option linter.unusedSimpArgs false
mutual
def nat_takeAway.l0 : Nat → List Int → List Int → Int → Int → Int → Int → Int → Option (Int × List Int)
  | 0, _, _, _, _, _, _, _ => none
  | k + 1, x0, x1, x2, x7, x8, x16, x17 => if x17 < x16 then (if 0 ≤ x17 then (if x17 < (x1.length : Int) then ((bits_Mul64.f x2 (rd x1 x17)).bind fun bt435 => ((bits_Add64.f bt435.2 x8 0).bind fun bt437 => (if x17 < (x0.length : Int) then ((bits_Sub64.f (rd x0 x17) bt437.1 x7).bind fun bt440 => (nat_takeAway.l0 k (x0.set (x17 : Int).toNat bt440.1) x1 x2 bt440.2 (IntKind.u64.wrap (bt435.1 + bt437.2)) x16 (wrap64 (x17 + 1)))) else (none)))) else (none)) else (none)) else (if 0 ≤ (x1.length : Int) then (if (x1.length : Int) < (x0.length : Int) then ((bits_Sub64.f (rd x0 (x1.length : Int)) x8 x7).bind fun bt444 => (nat_takeAway.l1 k (x0.set ((x1.length : Int) : Int).toNat bt444.1) x1 x2 bt444.2)) else (none)) else (none))
def nat_takeAway.l1 : Nat → List Int → List Int → Int → Int → Option (Int × List Int)
  | 0, _, _, _, _ => none
  | k + 1, x0, x1, x2, x7 => if x7 > 0 then (nat_takeAway.l2 k x0 x1 (IntKind.u64.wrap (x2 - 1)) x7 0 (x1.length : Int) 0) else (some (x2, x0))
def nat_takeAway.l2 : Nat → List Int → List Int → Int → Int → Int → Int → Int → Option (Int × List Int)
  | 0, _, _, _, _, _, _, _ => none
  | k + 1, x0, x1, x2, x7, x13, x72, x73 => if x73 < x72 then (if 0 ≤ x73 then (if x73 < (x0.length : Int) then (if x73 < (x1.length : Int) then ((bits_Add64.f (rd x0 x73) (rd x1 x73) x13).bind fun bt449 => (nat_takeAway.l2 k (x0.set (x73 : Int).toNat bt449.1) x1 x2 x7 bt449.2 x72 (wrap64 (x73 + 1)))) else (none)) else (none)) else (none)) else (if 0 ≤ (x1.length : Int) then (if (x1.length : Int) < (x0.length : Int) then ((bits_Add64.f (rd x0 (x1.length : Int)) 0 x13).bind fun bt453 => (nat_takeAway.l1 k (x0.set ((x1.length : Int) : Int).toNat bt453.1) x1 x2 (IntKind.u64.wrap (x7 - bt453.2)))) else (none)) else (none))
end
end Go.Proofs.YtgkdealidnidiaaDoor.Na
namespace Go.Proofs.YtgkdealidnidiaaDoor.Na
open Go.RowKit Go.Proofs.YtgkdealidnidiaaDoorW.PrintWords Go.Proofs.YtgkdealidnidiaaDoorW.PrintLast Go.Proofs.YtgkdealidnidiaaDoorW.PrintMore Go.Proofs.YtgkdealidnidiaaDoor.Dg
theorem div_ex {a0 a1 y : Int} (h0 : 0 ≤ a0) (h1 : a0 < y) (h2 : 0 ≤ a1) (h3 : a1 < 18446744073709551616) (h4 : y < 18446744073709551616) :
    ∃ q r, bits_Div64.f a0 a1 y = some (q, r) ∧ q * y + r = a0 * 18446744073709551616 + a1 ∧ 0 ≤ q ∧ q < 18446744073709551616 ∧ 0 ≤ r ∧ r < y := by
  have e := Int.emod_add_mul_ediv (a0 * 18446744073709551616 + a1) y
  have hr := emod_range (s := a0 * 18446744073709551616 + a1) (b := y) (by omega)
  have hq0 : 0 ≤ (a0 * 18446744073709551616 + a1) / y := Int.ediv_nonneg (by omega) (by omega)
  refine ⟨_, _, by unfold bits_Div64.f; rw [if_pos ⟨⟨h0, h1⟩, ⟨h2, h3⟩, h4⟩], by rw [Int.mul_comm]; omega, hq0, ?_, hr.1, hr.2⟩
  refine Int.ediv_lt_of_lt_mul (by omega) ?_
  have : (a0 + 1) * 18446744073709551616 ≤ y * 18446744073709551616 := Int.mul_le_mul_of_nonneg_right (by omega) (by decide)
  rw [Int.mul_comm 18446744073709551616 y]; omega
theorem drop_set_lt (o : List Int) (i n : Nat) (y : Int) (h : i < n) : (o.set i y).drop n = o.drop n := by
  rw [List.drop_set]; rw [if_pos h]
theorem divSmall_loop (l : List Int) (y : Int) (hR : R BW l) (hy0 : 0 < y) (hy : y < 18446744073709551616) (hl : l.length ≤ 1000000000) : ∀ (n : Nat) (o : List Int) (r : Int), n ≤ l.length → o.length = l.length → R BW o → 0 ≤ r → r < y → V BW (l.drop n) = V BW (o.drop n) * y + r →
    ∃ q r', Ev (fun k => nat_divSmall.l0 k l y o r ((n : Int) - 1)) (q, r') ∧ R BW q ∧ q.length = l.length ∧ V BW l = V BW q * y + r' ∧ 0 ≤ r' ∧ r' < y
  | 0, o, r, hn, ho, hRo, hr0, hr1, hV => by
    refine ⟨o, r, Ev.step (f := fun _ => some (o, r)) (fun k => by rw [nat_divSmall.l0, if_neg (by omega)]) (Ev.now _), hRo, ho, by simpa using hV, hr0, hr1⟩
  | n + 1, o, r, hn, ho, hRo, hr0, hr1, hV => by
    have ra := R_getD hR (by decide) n
    rw [BWi] at ra
    have hrd := rd_nat l n
    have hVl := V_drop BW l n (by omega)
    generalize l.getD n 0 = x at ra hrd hVl
    obtain ⟨q, r', eq, hqr, hq0, hq1, hr0', hr1'⟩ := div_ex hr0 hr1 ra.1 ra.2 hy
    obtain ⟨Q, R', hE, h⟩ := divSmall_loop l y hR hy0 hy hl n (o.set n q) r' (by omega) (by rw [List.length_set]; exact ho) (R_set hRo n hq0 (by rw [BWi]; exact hq1)) hr0' hr1' (by
      rw [hVl, V_drop BW (o.set n q) n (by rw [List.length_set]; omega), drop_set_lt _ _ _ _ (by omega), hV, List.getD_eq_getElem?_getD, List.getElem?_set_self (by omega), BWi]
      simp only [Option.getD_some]
      rw [BWi] at hV
      generalize V 18446744073709551616 (o.drop (n + 1)) = A
      grind)
    refine ⟨Q, R', Ev.step (fun k => ?_) hE, h⟩
    have g1 : ((n + 1 : Nat) : Int) - 1 = (n : Int) := by omega
    have g2 : (n : Int) ≥ 0 := by omega
    have g3 : (n : Int) < (l.length : Int) := by omega
    have g4 : (n : Int) < (o.length : Int) := by omega
    have E := Aside0.mk (show wrap64 ((n : Int) - 1) = (n : Int) - 1 from w64 (by omega) (by omega))
    rw [g1, nat_divSmall.l0, if_pos g2, if_pos g2, if_pos g3, hrd, eq, Option.bind_some, if_pos g4, Int.toNat_natCast, E.out]
theorem divSmall_ev (x y : Nat) (hy0 : 0 < y) (hy : y < BW) (hl : (wd BW x).length ≤ 1000000) : ∃ q, Ev (fun k => nat_divSmall.f k (wd BW x) y) (q, ((x % y : Nat) : Int)) ∧ R BW q ∧ q.length = (wd BW x).length ∧ V BW q = ((x / y : Nat) : Int) := by
  have hBW := BWi
  obtain ⟨q, r', hE, h1, h2, h3, h4, h5⟩ := divSmall_loop (wd BW x) y (wd_R (by decide) x) (by omega) (by omega) (by omega) (wd BW x).length (List.replicate (wd BW x).length 0) 0 (Nat.le_refl _) (by simp) (R_zeros (by decide) _) (by omega) (by omega) (by simp [V])
  rw [wd_V (by decide)] at h3
  have hd := digit_of (U := (x : Int)) (V := (y : Int)) (q := V BW q) (by omega) (by omega) (by omega)
  have hr : r' = ((x % y : Nat) : Int) := by rw [Int.natCast_emod, ← hd.2]; omega
  refine ⟨q, ?_, h1, h2, by rw [Int.natCast_ediv]; exact hd.1⟩
  rw [← hr]
  refine Ev.congr (fun k => ?_) hE
  have E := Aside0.mk (show wrap64 (((wd BW x).length : Int) - 1) = ((wd BW x).length : Int) - 1 from w64 (by omega) (by omega))
  unfold nat_divSmall.f
  rw [if_pos (by omega), Int.toNat_natCast, if_pos (by omega), E.out]
end Go.Proofs.YtgkdealidnidiaaDoor.Na
namespace Go.Proofs.YtgkdealidnidiaaDoor.Na
open Go.RowKit Go.Proofs.YtgkdealidnidiaaDoorW.PrintWords Go.Proofs.YtgkdealidnidiaaDoorW.PrintLast Go.Proofs.YtgkdealidnidiaaDoorW.PrintMore
set_option linter.unusedVariables false
set_option linter.unusedSimpArgs false
structure WS (B : Nat) (w0 : World) (g off : Nat) (pre post : List Value) (m : Nat) (w : World) (x : List Int) (W : World) : Prop where
  row : W.heap[g]? = some (.cells (pre ++ (x.map (Value.int .u64) ++ post)).toArray 40 (0, 0))
  hoff : pre.length = off
  len : x.length = m
  kept : Kept w W (fun k => k = g)
  below : Below B w0 W
  hg : B ≤ g
section
variable {B g off m : Nat} {pre post : List Value} {x : List Int} {w0 w W : World}
theorem WS.cell (h : WS B w0 g off pre post m w x W) {i : Nat} (hi : i < m) : W.cell? ⟨g, off + i, none⟩ = some (.int .u64 (x.getD i 0)) := by
  have hl := h.len
  have ho := h.hoff
  simp only [World.cell?, h.row]
  rw [List.getElem?_toArray, List.getElem?_append_right (by omega), List.getElem?_append_left (by rw [List.length_map]; omega), List.getElem?_map, show off + i - pre.length = i by omega, List.getElem?_eq_getElem (by omega)]
  simp [List.getD, List.getElem?_eq_getElem (show i < x.length by omega)]
theorem WS.drewN (h : WS B w0 g off pre post m w x W) (n : Nat) : WS B w0 g off pre post m w x (W.drewN n) := ⟨h.row, h.hoff, h.len, h.kept, pw_below_drewN h.below n, h.hg⟩
theorem WS.drew (h : WS B w0 g off pre post m w x W) : WS B w0 g off pre post m w x W.drew := ⟨h.row, h.hoff, h.len, h.kept, below_drew h.below, h.hg⟩
theorem WS.put (h : WS B w0 g off pre post m w x W) {i : Nat} (hi : i < m) (y : Int) : WS B w0 g off pre post m w (x.set i y) (W.setCell ⟨g, off + i, none⟩ (.int .u64 y)) := by
  have hl := h.len
  have ho := h.hoff
  have hset := heap_setCell_same W g (off + i) _ _ (.int .u64 y) h.row
  refine ⟨?_, ho, by rw [List.length_set]; exact hl, h.kept.setCell (.inl rfl) _, h.below.setCell h.hg _, h.hg⟩
  rw [hset, List.setIfInBounds_toArray]
  congr 3
  rw [List.set_append_right _ _ (by omega), show off + i - pre.length = i by omega, List.set_append_left _ _ (by rw [List.length_map]; omega), List.map_set]
end
end Go.Proofs.YtgkdealidnidiaaDoor.Na
namespace Go.Proofs.YtgkdealidnidiaaDoor.Na
open Go.RowKit Go.Proofs.YtgkdealidnidiaaDoorW.PrintWords Go.Proofs.YtgkdealidnidiaaDoorW.PrintLast Go.Proofs.YtgkdealidnidiaaDoorW.PrintMore Go.Proofs.YtgkdealidnidiaaDoor.Dg
def Kw (k : IntKind) (w : World) (v : Value) (l : List Int) : Prop := ∃ A c, v = .slice A l.length c ∧ l.length ≤ c ∧ Kd.C (Kd.int k) w A l.length l
abbrev Nw (w : World) (v : Value) (x : Nat) : Prop := Kw .u64 w v (wd BW x)
abbrev Dw (w : World) (v : Value) (x : Nat) : Prop := Kw .i64 w v (wd BD x)
theorem Kw.below {k : IntKind} {w w' : World} {v : Value} {l : List Int} (h : Kw k w v l) (hb : Below w.heap.size w w') : Kw k w' v l := by
  obtain ⟨A, c, rfl, hc, hC⟩ := h
  exact ⟨A, c, rfl, hc, Kd.C_below hC hb⟩
theorem Kw.ofV {k : IntKind} {w : World} {e b : Nat} {ok : Nat → Prop} {v : Value} {l : List Int} (h : Kd.V (Kd.int k) e w b ok v l) : Kw k w v l := by
  obtain ⟨A, c, rfl, hl, hf⟩ := h
  exact ⟨A, c, rfl, hl, Kd.F_now hf⟩
theorem Kw.V {k : IntKind} {w : World} {v : Value} {l : List Int} (h : Kw k w v l) (e b : Nat) : Kd.V (Kd.int k) e w b (fun i => i < w.heap.size) v l := by
  obtain ⟨A, c, rfl, hc, hC⟩ := h
  exact ⟨A, c, rfl, hc, Kd.C_F (Kd.heap_int k) hC⟩
theorem Kw.nil (k : IntKind) (w : World) : Kw k w (.slice none 0 0) [] := ⟨none, 0, rfl, Nat.le_refl _, Kd.C_nil _ _⟩
abbrev Kf (k : IntKind) (n : Nat) (w : World) (v : Value) (l : List Int) : Prop := Kd.V (Kd.int k) 0 w 0 (fun i => n ≤ i) v l
abbrev Nf (n : Nat) (w : World) (v : Value) (x : Nat) : Prop := Kf .u64 n w v (wd BW x)
theorem Kf.kw {k : IntKind} {n : Nat} {w : World} {v : Value} {l : List Int} (h : Kf k n w v l) : Kw k w v l := Kw.ofV h
theorem Kf.ofR {k : IntKind} {w : World} {e b : Nat} {ok : Nat → Prop} {v : Value} {l : List Int} (h : Kd.R (Kd.int k) e w b ok v l) : Kf k b w v l := (Kd.R_V (base' := 0) (Kd.R_reok (ok := fun i => b ≤ i) rfl h (fun i hi => Kd.R_base h i hi)) : Kd.V (Kd.int k) e w 0 (fun i => b ≤ i) v l)
theorem Kf.below {k : IntKind} {n : Nat} {w w' : World} {v : Value} {l : List Int} (h : Kf k n w v l) (hb : Below w.heap.size w w') : Kf k n w' v l := Kd.V_below h hb
theorem Kf.put {k : IntKind} {n b : Nat} {w : World} {v : Value} {l : List Int} (h : Kf k n w v l) (hb : b < n) (u : Value) : Kf k n (w.setCell ⟨b, 0, none⟩ u) v l := Kd.V_far (p := ⟨b, 0, none⟩) h (fun i hi he => by have : i = b := he; omega) u
theorem Kf.mono {k : IntKind} {n m : Nat} {w : World} {v : Value} {l : List Int} (h : Kf k n w v l) (hm : m ≤ n) : Kf k m w v l := Kd.V_mono h (fun i hi => Nat.le_trans hm hi)
theorem Kf.nil (k : IntKind) (n : Nat) (w : World) : Kf k n w (.slice none 0 0) [] := Kd.V_nil _ _ _ _ _
theorem Nf.zero (n : Nat) (w : World) : Nf n w (.slice none 0 0) 0 := by unfold Nf; rw [wd_zero]; exact Kf.nil _ _ _
theorem Nw.zero (w : World) : Nw w (.slice none 0 0) 0 := by unfold Nw; rw [wd_zero]; exact Kw.nil _ _
theorem Dw.zero (w : World) : Dw w (.slice none 0 0) 0 := by unfold Dw; rw [wd_zero]; exact Kw.nil _ _
def fitN (n : Nat) : Nat := if (wd BW n).length ≤ 64 then n else 0
theorem fitA_eq (n : Nat) : fitA n = wd BW (fitN n) := by
  unfold fitA fitN
  split
  · rfl
  · rw [wd_zero]
theorem fitN_len (n : Nat) : (wd BW (fitN n)).length ≤ 64 := by
  unfold fitN
  split
  · assumption
  · rw [wd_zero]; decide
theorem from_c {w : World} {u : Value} {l : List Int} {n : Nat} (h1 : Kw .u64 w u l) (hR : R BW l) (hV : V BW l = n) (hl : l.length ≤ 1000000) : Calls Tryd.prog 16 #[u] w fun e w' => ∃ z, e = .returned (.tuple #[.agg #[z], .int .i64 (fitE n)]) ∧ Nf w.heap.size w' z (fitN n) ∧ Below w.heap.size w w' := by
  obtain ⟨A1, c1, rfl, hc1, hC1⟩ := h1
  obtain ⟨k, hk⟩ := (from_ev l n hR hV (by omega)).rounds
  rw [fitA_eq] at hk
  refine (nat_From.calls k A1 c1 _ _ _ w hC1 hc1 hk).mono ?_
  rintro e w' ⟨v0, rfl, hV, hB⟩
  exact ⟨v0, rfl, hV, hB⟩
theorem bits_c {w : World} {u : Value} {x : Nat} (h1 : Nw w u x) (hx : (wd BW x).length ≤ 1000000) : Calls Tryd.prog 20 #[.agg #[u]] w fun e w' => e = .returned (.int .i64 (nb x : Int)) ∧ Below w.heap.size w w' := by
  obtain ⟨A1, c1, rfl, hc1, hC1⟩ := h1
  obtain ⟨k, hk⟩ := (nbits_ev x hx).rounds
  refine (nat_Nat_Bits.calls k A1 c1 _ _ w hC1 hc1 hk).mono ?_
  rintro e w' ⟨rfl, hB⟩
  exact ⟨rfl, hB⟩
theorem zero_c {w : World} {u : Value} {x : Nat} (h1 : Nw w u x) : Calls Tryd.prog 22 #[.agg #[u]] w fun e w' => e = .returned (.bool (decide (x = 0))) ∧ Below w.heap.size w w' := by
  obtain ⟨A1, c1, rfl, hc1, hC1⟩ := h1
  have hk : nat_Nat_Zero.f (wd BW x) = some (decide (x = 0)) := by
    unfold nat_Nat_Zero.f
    congr 1
    by_cases hn : x = 0
    · subst hn; rw [wd_zero]; rfl
    · have := wd_ne (b := BW) (n := x) (by decide) (by omega)
      rw [decide_eq_false hn]
      cases hw : wd BW x with
      | nil => exact absurd hw this
      | cons a l => simp; omega
  refine (nat_Nat_Zero.calls A1 c1 _ _ w hC1 hc1 hk).mono ?_
  rintro e w' ⟨rfl, hB⟩
  exact ⟨rfl, hB⟩
theorem cmp_c {w : World} {u : Value} {x : Nat} (h1 : Nw w u x) {v : Value} {y : Nat} (h2 : Nw w v y) (hx : (wd BW x).length ≤ 1000000) : Calls Tryd.prog 36 #[.agg #[u], .agg #[v]] w fun e w' => e = .returned (.int .i64 (cmpN x y)) ∧ Below w.heap.size w w' := by
  obtain ⟨A1, c1, rfl, hc1, hC1⟩ := h1
  obtain ⟨A2, c2, rfl, hc2, hC2⟩ := h2
  obtain ⟨k, hk⟩ := (ncmp_ev x y hx).rounds
  refine (nat_Nat_Cmp.calls k A1 c1 _ A2 c2 _ _ w hC1 hc1 hC2 hc2 hk).mono ?_
  rintro e w' ⟨rfl, hB⟩
  exact ⟨rfl, hB⟩
theorem shr_c {w : World} {u : Value} {x : Nat} (h1 : Nw w u x) (hx : (wd BW x).length ≤ 1000000) (n : Nat) (hn : n < 9223372036854775808) : Calls Tryd.prog 29 #[.agg #[u], .int .i64 (n : Int)] w fun e w' => ∃ z, e = .returned (.tuple #[.agg #[z], .int .i64 0]) ∧ Nf w.heap.size w' z (x / 2 ^ n) ∧ Below w.heap.size w w' := by
  obtain ⟨A1, c1, rfl, hc1, hC1⟩ := h1
  obtain ⟨k, hk⟩ := (nshr_ev x n hx hn).rounds
  refine (nat_Nat_Shr.calls k A1 c1 _ _ _ _ w hC1 hc1 hk).mono ?_
  rintro e w' ⟨v0, rfl, hV, hB⟩
  exact ⟨v0, rfl, hV, hB⟩
theorem shrneg_c {w : World} {u : Value} {x : Nat} (h1 : Nw w u x) (n : Int) (hn : n < 0) : Calls Tryd.prog 29 #[.agg #[u], .int .i64 n] w fun e w' => ∃ z, e = .returned (.tuple #[.agg #[z], .int .i64 5]) ∧ Nf w.heap.size w' z 0 ∧ Below w.heap.size w w' := by
  obtain ⟨A1, c1, rfl, hc1, hC1⟩ := h1
  obtain ⟨k, hk⟩ := (nshr_neg (wd BW x) n hn).rounds
  rw [← wd_zero BW] at hk
  refine (nat_Nat_Shr.calls k A1 c1 _ _ _ _ w hC1 hc1 hk).mono ?_
  rintro e w' ⟨v0, rfl, hV, hB⟩
  exact ⟨v0, rfl, hV, hB⟩
theorem of_c {w : World} (x : Nat) (hx : x < BW) : Calls Tryd.prog 55 #[.int .u64 (x : Int)] w fun e w' => ∃ z, e = .returned (.agg #[z]) ∧ Nf w.heap.size w' z x ∧ Below w.heap.size w w' := by
  obtain ⟨k, hk⟩ := (of_ev x hx).rounds
  refine (nat_Of.calls k _ _ w hk).mono ?_
  rintro e w' ⟨v0, rfl, hV, hB⟩
  exact ⟨v0, rfl, hV, hB⟩
theorem norm_c {w : World} {n0 : Nat} (hn0 : n0 ≤ w.heap.size) {u : Value} {l : List Int} {n : Nat} (h1 : Kf .u64 n0 w u l) (hR : R BW l) (hV : V BW l = n) (hl : l.length ≤ 1000000) : Calls Tryd.prog 68 #[u] w fun e w' => ∃ z, e = .returned (.agg #[z]) ∧ Nf n0 w' z n ∧ Below w.heap.size w w' := by
  obtain ⟨k, hk⟩ := (normf_ev l (by omega)).rounds
  rw [strip_eq (n := n) (by decide) hR hV] at hk
  obtain ⟨A1, c1, rfl⟩ := Kd.V_slice h1
  refine (nat_norm.calls k (fun i => n0 ≤ i) A1 c1 _ _ w h1 hk).mono ?_
  rintro e w' ⟨v0, rfl, hV, hB⟩
  exact ⟨v0, rfl, Kd.V_mono hV (fun i hi => hi.elim id (fun h => Nat.le_trans hn0 h)), hB⟩
theorem divs_c {w : World} {u : Value} {x : Nat} (h1 : Nw w u x) (hx : (wd BW x).length ≤ 1000000) (y : Nat) (hy0 : 0 < y) (hy : y < BW) : Calls Tryd.prog 67 #[u, .int .u64 (y : Int)] w fun e w' => ∃ z q, e = .returned (.tuple #[z, .int .u64 ((x % y : Nat) : Int)]) ∧ Kf .u64 w.heap.size w' z q ∧ R BW q ∧ q.length = (wd BW x).length ∧ V BW q = ((x / y : Nat) : Int) ∧ Below w.heap.size w w' := by
  obtain ⟨A1, c1, rfl, hc1, hC1⟩ := h1
  obtain ⟨q, hE, hR, hl, hV⟩ := divSmall_ev x y hy0 hy hx
  obtain ⟨k, hk⟩ := hE.rounds
  refine (nat_divSmall.calls k A1 c1 _ _ _ _ w hC1 hc1 hk).mono ?_
  rintro e w' ⟨v0, rfl, hK, hB⟩
  exact ⟨v0, q, rfl, Kf.ofR hK, hR, hl, hV, hB⟩
theorem shifted_c {w : World} {u : Value} {l : List Int} (h1 : Kw .u64 w u l) (n : Nat) (hn : n < 64) (hR : R BW l) (hl : l.length ≤ 1000000) : Calls Tryd.prog 76 #[u, .int .u64 (n : Int)] w fun e w' => ∃ z r, e = .returned z ∧ Kf .u64 w.heap.size w' z r ∧ R BW r ∧ V BW r = V BW l * ((2 ^ n : Nat) : Int) ∧ r.length = l.length + 1 ∧ Below w.heap.size w w' := by
  obtain ⟨A1, c1, rfl, hc1, hC1⟩ := h1
  obtain ⟨r, hE, h3, h4, h5⟩ := shifted_ev l n hn hR (by omega)
  obtain ⟨k, hk⟩ := hE.rounds
  refine (nat_shifted.calls k A1 c1 _ _ _ w hC1 hc1 hk).mono ?_
  rintro e w' ⟨v0, rfl, hV, hB⟩
  exact ⟨v0, r, rfl, Kf.ofR hV, h3, h4, h5, hB⟩
theorem rfrom_c {w : World} {u : Value} {l : List Int} {n : Nat} (h1 : Kw .u64 w u l) (hR : R BW l) (hV : V BW l = n) (hl : l.length ≤ 1000000) : Calls Tryd.prog 15 #[u] w fun e w' => ∃ z, e = .returned (z) ∧ Dw w' z n ∧ Below w.heap.size w w' := by
  obtain ⟨A1, c1, rfl, hc1, hC1⟩ := h1
  obtain ⟨k, hk⟩ := (rfrom_ev l n hR hV (by omega)).rounds
  refine (chaffref01_From.calls k A1 c1 _ _ w hC1 hc1 hk).mono ?_
  rintro e w' ⟨v0, rfl, hV, hB⟩
  exact ⟨v0, rfl, Kw.ofV hV, hB⟩
theorem rbits_c {w : World} {u : Value} {x : Nat} (h1 : Dw w u x) (hx : (wd BD x).length ≤ 1000000) : Calls Tryd.prog 21 #[u] w fun e w' => e = .returned (.int .i64 (nb x : Int)) ∧ Below w.heap.size w w' := by
  obtain ⟨A1, c1, rfl, hc1, hC1⟩ := h1
  obtain ⟨k, hk⟩ := (rbits_ev x hx).rounds
  refine (chaffref01_Bits.calls k A1 c1 _ _ w hC1 hc1 hk).mono ?_
  rintro e w' ⟨rfl, hD⟩
  exact ⟨rfl, hD.below⟩
theorem rshl_c {w : World} {u : Value} {x : Nat} (h1 : Dw w u x) (hx : (wd BD x).length ≤ 1000000) (n : Nat) (hn : n ≤ 1000000) : Calls Tryd.prog 30 #[u, .int .i64 (n : Int)] w fun e w' => ∃ z, e = .returned (z) ∧ Dw w' z (x * 2 ^ n) ∧ Below w.heap.size w w' := by
  obtain ⟨A1, c1, rfl, hc1, hC1⟩ := h1
  obtain ⟨k, hk⟩ := (rshl_ev x n hn hx).rounds
  refine (chaffref01_Shl.calls k A1 c1 _ _ _ w hC1 hc1 hk).mono ?_
  rintro e w' ⟨v0, rfl, hV, hB⟩
  exact ⟨v0, rfl, Kw.ofV hV, hB⟩
theorem rshr_c {w : World} {u : Value} {x : Nat} (h1 : Dw w u x) (hx : (wd BD x).length ≤ 1000000) (n : Nat) (hn : n ≤ 1000000) : Calls Tryd.prog 31 #[u, .int .i64 (n : Int)] w fun e w' => ∃ z, e = .returned (z) ∧ Dw w' z (x / 2 ^ n) ∧ Below w.heap.size w w' := by
  obtain ⟨A1, c1, rfl, hc1, hC1⟩ := h1
  obtain ⟨k, hk⟩ := (rshr_ev x n hn hx).rounds
  refine (chaffref01_Shr.calls k A1 c1 _ _ _ w hC1 hc1 hk).mono ?_
  rintro e w' ⟨v0, rfl, hV, hB⟩
  exact ⟨v0, rfl, Kw.ofV hV, hB⟩
theorem is_c {w : World} {u : Value} {x : Nat} (h1 : Nw w u x) {v : Value} {y : Nat} (h2 : Dw w v y) (hx : (wd BW x).length ≤ 250000) : Calls Tryd.prog 27 #[.agg #[u], v] w fun e w' => e = .returned (.bool (decide (x = y))) ∧ Below w.heap.size w w' := by
  obtain ⟨A1, c1, rfl, hc1, hC1⟩ := h1
  obtain ⟨A2, c2, rfl, hc2, hC2⟩ := h2
  obtain ⟨k, hk⟩ := (is_ev x y hx).rounds
  refine (chafflaw01_Is.calls k A1 c1 _ A2 c2 _ _ w hC1 hc1 hC2 hc2 hk).mono ?_
  rintro e w' ⟨rfl, hB⟩
  exact ⟨rfl, hB⟩
theorem got_c {w : World} {u : Value} {x : Nat} (h1 : Nw w u x) (n : Int) {v : Value} {y : Nat} (h2 : Dw w v y) (hx : (wd BW x).length ≤ 250000) (hy : (wd BD y).length ≤ 1000000) : Calls Tryd.prog 17 #[.agg #[u], .int .i64 n, v] w fun e w' => e = .returned (.bool (if 4096 < nb y then (decide (n = 1) && decide (x = 0)) else (decide (n = 0) && decide (x = y)))) ∧ Below w.heap.size w w' := by
  obtain ⟨A1, c1, rfl, hc1, hC1⟩ := h1
  obtain ⟨A2, c2, rfl, hc2, hC2⟩ := h2
  obtain ⟨k, hk⟩ := (got_ev x n y hx hy).rounds
  refine (chafflaw01_got.calls k A1 c1 _ n A2 c2 _ _ w hC1 hc1 hC2 hc2 hk).mono ?_
  rintro e w' ⟨rfl, hB⟩
  exact ⟨rfl, hB⟩
end Go.Proofs.YtgkdealidnidiaaDoor.Na
namespace Go.Proofs.YtgkdealidnidiaaDoor.Cel
open Go.RowKit
section
variable {P : Program}
theorem end_cell {fn : Func} {p u : Tmp} {ty : TypeId} {d : TypeDesc} (h : fn.results = #[.cell p ty, .tmp u]) (tmps : Array Value) (U : World) (b : Nat) (cells old : Array Value) (hZ : U.heap[b]? = some (.cells old ty (0, 0)))
    (hp : tmps.getD p undef = .pointer (some ⟨b, 0, none⟩)) (hu : P.underlying ty = some d) (hd : (match d with | .struct _ | .array _ _ => true | _ => false) = true) (hi : (P.info? ty).map (·.size) = some cells.size) :
    (results fn tmps).run P (U.setRow b cells) = .ok (.tuple #[.agg cells, tmps.getD u undef]) (U.setRow b cells) := by
  have hR := setRow_heap U b old cells ty (0, 0) hZ
  rw [results_cell_tmp h, hp]
  simp [asAddr, run_loadVar_row _ _ ty ty _ (0, 0) _ hR hu hd hi]
theorem wpList_load_row_w {ops : Array Oper} {rest : List Oper} {o : Oper} {a : Act} {w : World} {Q : Exit → Act → World → Prop} (hw : Region.wanted o (yielded ops a.tmps) = true) (ty : TypeId) (x : Operand) (ho : o.op = .load ty x)
    (g : Nat) (hx : a.eval x = .pointer (some ⟨g, 0, none⟩)) (t : TypeId) (cs : Array Value) (fr : Nat × Nat) (d : TypeDesc) (hg : w.heap[g]? = some (.cells cs t fr))
    (hu : P.underlying ty = some d) (hd : (match d with | .struct _ | .array _ _ => true | _ => false) = true) (hi : (P.info? ty).map (·.size) = some cs.size)
    (h : wpList P ops Q rest (a.put o.dst (.agg cs)) w) : wpList P ops Q (o :: rest) a w :=
  wpList_step fun _ hK => by rw [if_pos hw]; exact wp_load_row ty x ho g hx t cs fr d hg hu hd hi (hK _ _ h)
end
end Go.Proofs.YtgkdealidnidiaaDoor.Cel
namespace Go.Proofs.YtgkdealidnidiaaDoor.Na
open Go.RowKit Go.Proofs.YtgkdealidnidiaaDoorW.PrintWords Go.Proofs.YtgkdealidnidiaaDoorW.PrintLast Go.Proofs.YtgkdealidnidiaaDoorW.PrintMore Go.Proofs.YtgkdealidnidiaaDoor.Dg
set_option linter.unusedSimpArgs false
set_option linter.unusedVariables false
theorem infoN : (Tryd.prog.info? 29).map (·.size) = some 1 := by kernel_rfl
def bx (W : World) (b : Nat) (v : Value) : Prop := W.heap[b]? = some (.cells #[v] 29 (0, 0))
theorem bx.below {W W' : World} {b : Nat} {v : Value} (h : bx W b v) (hb : Below W.heap.size W W') : bx W' b v := (hb.block _ (Array.getElem?_eq_some_iff.1 h).1).trans h
theorem bx.alloc {W : World} {b : Nat} {v : Value} (h : bx W b v) (o : Obj) : bx (W.alloc o) b v := h.below (below_alloc (Below.refl _ _) o)
theorem bx.drew {W : World} {b : Nat} {v : Value} (h : bx W b v) : bx W.drew b v := h
theorem bx.new (W : World) (v : Value) : bx (W.alloc (.cells #[v] 29)) W.heap.size v := heap_alloc_new W _
theorem bx.lt {W : World} {b : Nat} {v : Value} (h : bx W b v) : b < W.heap.size := (Array.getElem?_eq_some_iff.1 h).1
theorem bx.put {W : World} {b : Nat} {v : Value} (h : bx W b v) (u : Value) : bx (W.setRow b #[u]) b u := setRow_heap W b #[v] #[u] 29 (0, 0) h
theorem decf {p : Prop} [Decidable p] (h : ¬ p) : decide p = false := decide_eq_false h
end Go.Proofs.YtgkdealidnidiaaDoor.Na
