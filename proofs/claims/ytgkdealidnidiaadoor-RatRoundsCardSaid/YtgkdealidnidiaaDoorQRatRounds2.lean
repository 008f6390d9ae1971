/- Texts of the seat, as far as the row needs them. -/
import Derived.Shelf.Spec.BitsCarry
import Derived.Test.YtgkdealidnidiaaDoorQRatRounds1
set_option linter.unusedVariables false
set_option linter.unusedSimpArgs false
set_option maxHeartbeats 8000000
set_option maxRecDepth 100000
namespace Go.Proofs.YtgkdealidnidiaaDoor.Na
open Go.RowKit Go.Proofs.YtgkdealidnidiaaDoorW.PrintWords Go.Proofs.YtgkdealidnidiaaDoorW.PrintLast Go.Proofs.YtgkdealidnidiaaDoorW.PrintMore
attribute [local go_sem] zx0 zd1
def nat_Nat_Cmp.l0 : Nat → Int → List Int → List Int → Option (Int)
 | 0, _, _, _ => none
 | k + 1, x5, x172000, x173000 => if x5 ≥ 0 then (if 0 ≤ x5 then (if x5 < (x172000.length : Int) then (if x5 < (x173000.length : Int) then (if (rd x172000 x5) = (rd x173000 x5) then (nat_Nat_Cmp.l0 k (wrap64 (x5 - 1)) x172000 x173000) else (if (rd x172000 x5) < (rd x173000 x5) then (some (-1)) else (some 1))) else (none)) else (none)) else (none)) else (some 0)
def nat_Nat_Cmp.f (k : Nat) (l0_0 : List Int) (l1_0 : List Int) : Option (Int) := if (l0_0.length : Int) < (l1_0.length : Int) then (some (-1)) else (if (l0_0.length : Int) > (l1_0.length : Int) then (some 1) else (nat_Nat_Cmp.l0 k (wrap64 ((l0_0.length : Int) - 1)) l0_0 l1_0))
theorem nat_Nat_Cmp.calls (k : Nat) (A0_0 : Option Addr) (c0_0 : Nat) (l0_0 : List Int) (A1_0 : Option Addr) (c1_0 : Nat) (l1_0 : List Int) (r : Int) (w : World) (hr0_0 : Kd.C (Kd.int .u64) w A0_0 l0_0.length l0_0) (hc0_0 : l0_0.length ≤ c0_0) (hr1_0 : Kd.C (Kd.int .u64) w A1_0 l1_0.length l1_0) (hc1_0 : l1_0.length ≤ c1_0) (h : nat_Nat_Cmp.f k l0_0 l1_0 = some r) :
  Calls Tryd.prog 36 #[.agg #[.slice A0_0 l0_0.length c0_0], .agg #[.slice A1_0 l1_0.length c1_0]] w fun e w' => e = .returned (.int .i64 r) ∧ Below w.heap.size w w' := by
 have hu29 := Tryd.underlying29
 have HR0_0 := Q0.mk hr0_0
 have HC0_0 := Q0.mk hc0_0
 clear hr0_0 hc0_0
 have HR1_0 := Q0.mk hr1_0
 have HC1_0 := Q0.mk hc1_0
 clear hr1_0 hc1_0
 have HB := Q0.mk (Below.refl w.heap.size w)
 have H : (if (l0_0.length : Int) < (l1_0.length : Int) then (some (-1)) else (if (l0_0.length : Int) > (l1_0.length : Int) then (some 1) else (nat_Nat_Cmp.l0 k (wrap64 ((l0_0.length : Int) - 1)) l0_0 l1_0))) = some r := h
 clear h
 by_cases c3 : (l0_0.length : Int) < (l1_0.length : Int)
 ·rw [if_pos c3] at H
  have c3b0 : decide ((l0_0.length : Int) < (l1_0.length : Int)) = true := decide_eq_true c3
  have c3b1 : decide (l0_0.length < l1_0.length) = true := decide_eq_true (Int.ofNat_lt.mp c3)
  clear c3
  obtain rfl := Option.some.inj H
  go_enter Tryd.func36, Tryd.ntmps36
  go_wp2_with (first | ((with_reducible refine gD (N := 2) rfl ?_); refine xE ?hg (N := 2) ?hd (cs := #[.slice A0_0 l0_0.length c0_0]) (t := 29) ?hr ?_; (case hd => rfl); (case hg => rfl); (case hr => first | (go_simp; done) | (go_simp; rfl)); intro gb171 hg w4 hbox hb; have q_ := zm (w := w) hb (by repeat (first | (with_reducible first | exact HB.out | apply bA | apply bN | apply b1_) | exact HB.out)); replace HB := Q0.mk (bP q_ hb); have BK171 := Q0.mk (hbox); have GW171 := Q0.mk ((by rw [hg]; exact (bZ q_) : w.heap.size ≤ gb171)); have GE171 := GW171; clear q_; clear hb hbox hg) | ((with_reducible refine gD (N := 3) rfl ?_); refine xE ?hg (N := 3) ?hd (cs := #[.slice A1_0 l1_0.length c1_0]) (t := 29) ?hr ?_; (case hd => rfl); (case hg => rfl); (case hr => first | (go_simp; done) | (go_simp; rfl)); intro gb172 hg w5 hbox hb; have q_ := zm (w := w) hb (by repeat (first | (with_reducible first | exact HB.out | apply bA | apply bN | apply b1_ | refine bS ?_ GE171.out) | exact HB.out)); replace HB := Q0.mk (bP q_ hb); have BK172 := Q0.mk (hbox); have GW172 := Q0.mk ((by rw [hg]; exact (bZ q_) : w.heap.size ≤ gb172)); have GE172 := GW172; have NB171_172 := Q0.mk ((by rw [hg]; exact Nat.ne_of_lt (zj0 (g := gb171) (o := .cells #[.slice A0_0 l0_0.length c0_0] 29 (0, 0)) (by (with_reducible repeat (first | refine kN ?_ _ | refine kD ?_ | refine kA ?_ _)); exact BK171.out)) : gb171 ≠ gb172)); replace BK171 := Q0.mk (kB (g := gb171) (o := .cells #[.slice A0_0 l0_0.length c0_0] 29 (0, 0)) (by (with_reducible repeat (first | refine kN ?_ _ | refine kD ?_ | refine kA ?_ _)); exact BK171.out) hb); have NB172_171 := Q0.mk NB171_172.out.symm; clear q_; clear hb hbox hg; have hnb6 := NB171_172.out; have hnc6 := NB172_171.out; have hcz7_0 : w5.cell? ⟨gb171, 0, none⟩ = some (.slice A0_0 l0_0.length c0_0) := (kC BK171.out 0).trans rfl; have hfz7_0 := kF BK171.out 0; have hcz8_0 : w5.cell? ⟨gb172, 0, none⟩ = some (.slice A1_0 l1_0.length c1_0) := (kC BK172.out 0).trans rfl; have hfz8_0 := kF BK172.out 0))
  repeat (go_quiet (first | ((with_reducible refine gD (N := 2) rfl ?_); refine xE ?hg (N := 2) ?hd (cs := #[.slice A0_0 l0_0.length c0_0]) (t := 29) ?hr ?_; (case hd => rfl); (case hg => rfl); (case hr => first | (go_simp; done) | (go_simp; rfl)); intro gb171 hg w4 hbox hb; have q_ := zm (w := w) hb (by repeat (first | (with_reducible first | exact HB.out | apply bA | apply bN | apply b1_) | exact HB.out)); replace HB := Q0.mk (bP q_ hb); have BK171 := Q0.mk (hbox); have GW171 := Q0.mk ((by rw [hg]; exact (bZ q_) : w.heap.size ≤ gb171)); have GE171 := GW171; clear q_; clear hb hbox hg) | ((with_reducible refine gD (N := 3) rfl ?_); refine xE ?hg (N := 3) ?hd (cs := #[.slice A1_0 l1_0.length c1_0]) (t := 29) ?hr ?_; (case hd => rfl); (case hg => rfl); (case hr => first | (go_simp; done) | (go_simp; rfl)); intro gb172 hg w5 hbox hb; have q_ := zm (w := w) hb (by repeat (first | (with_reducible first | exact HB.out | apply bA | apply bN | apply b1_ | refine bS ?_ GE171.out) | exact HB.out)); replace HB := Q0.mk (bP q_ hb); have BK172 := Q0.mk (hbox); have GW172 := Q0.mk ((by rw [hg]; exact (bZ q_) : w.heap.size ≤ gb172)); have GE172 := GW172; have NB171_172 := Q0.mk ((by rw [hg]; exact Nat.ne_of_lt (zj0 (g := gb171) (o := .cells #[.slice A0_0 l0_0.length c0_0] 29 (0, 0)) (by (with_reducible repeat (first | refine kN ?_ _ | refine kD ?_ | refine kA ?_ _)); exact BK171.out)) : gb171 ≠ gb172)); replace BK171 := Q0.mk (kB (g := gb171) (o := .cells #[.slice A0_0 l0_0.length c0_0] 29 (0, 0)) (by (with_reducible repeat (first | refine kN ?_ _ | refine kD ?_ | refine kA ?_ _)); exact BK171.out) hb); have NB172_171 := Q0.mk NB171_172.out.symm; clear q_; clear hb hbox hg; have hnb6 := NB171_172.out; have hnc6 := NB172_171.out; have hcz7_0 : w5.cell? ⟨gb171, 0, none⟩ = some (.slice A0_0 l0_0.length c0_0) := (kC BK171.out 0).trans rfl; have hfz7_0 := kF BK171.out 0; have hcz8_0 : w5.cell? ⟨gb172, 0, none⟩ = some (.slice A1_0 l1_0.length c1_0) := (kC BK172.out 0).trans rfl; have hfz8_0 := kF BK172.out 0)); try go_wp2_with (first | ((with_reducible refine gD (N := 2) rfl ?_); refine xE ?hg (N := 2) ?hd (cs := #[.slice A0_0 l0_0.length c0_0]) (t := 29) ?hr ?_; (case hd => rfl); (case hg => rfl); (case hr => first | (go_simp; done) | (go_simp; rfl)); intro gb171 hg w4 hbox hb; have q_ := zm (w := w) hb (by repeat (first | (with_reducible first | exact HB.out | apply bA | apply bN | apply b1_) | exact HB.out)); replace HB := Q0.mk (bP q_ hb); have BK171 := Q0.mk (hbox); have GW171 := Q0.mk ((by rw [hg]; exact (bZ q_) : w.heap.size ≤ gb171)); have GE171 := GW171; clear q_; clear hb hbox hg) | ((with_reducible refine gD (N := 3) rfl ?_); refine xE ?hg (N := 3) ?hd (cs := #[.slice A1_0 l1_0.length c1_0]) (t := 29) ?hr ?_; (case hd => rfl); (case hg => rfl); (case hr => first | (go_simp; done) | (go_simp; rfl)); intro gb172 hg w5 hbox hb; have q_ := zm (w := w) hb (by repeat (first | (with_reducible first | exact HB.out | apply bA | apply bN | apply b1_ | refine bS ?_ GE171.out) | exact HB.out)); replace HB := Q0.mk (bP q_ hb); have BK172 := Q0.mk (hbox); have GW172 := Q0.mk ((by rw [hg]; exact (bZ q_) : w.heap.size ≤ gb172)); have GE172 := GW172; have NB171_172 := Q0.mk ((by rw [hg]; exact Nat.ne_of_lt (zj0 (g := gb171) (o := .cells #[.slice A0_0 l0_0.length c0_0] 29 (0, 0)) (by (with_reducible repeat (first | refine kN ?_ _ | refine kD ?_ | refine kA ?_ _)); exact BK171.out)) : gb171 ≠ gb172)); replace BK171 := Q0.mk (kB (g := gb171) (o := .cells #[.slice A0_0 l0_0.length c0_0] 29 (0, 0)) (by (with_reducible repeat (first | refine kN ?_ _ | refine kD ?_ | refine kA ?_ _)); exact BK171.out) hb); have NB172_171 := Q0.mk NB171_172.out.symm; clear q_; clear hb hbox hg; have hnb6 := NB171_172.out; have hnc6 := NB172_171.out; have hcz7_0 : w5.cell? ⟨gb171, 0, none⟩ = some (.slice A0_0 l0_0.length c0_0) := (kC BK171.out 0).trans rfl; have hfz7_0 := kF BK171.out 0; have hcz8_0 : w5.cell? ⟨gb172, 0, none⟩ = some (.slice A1_0 l1_0.length c1_0) := (kC BK172.out 0).trans rfl; have hfz8_0 := kF BK172.out 0)))
  go_ret
  exact ⟨by first | rfl | (simp [eN, eS] <;> rfl) | (simp [*, eN, eS] <;> rfl), by repeat (first | (with_reducible first | exact HB.out | apply bA | apply bN | apply b1_ | refine bS ?_ GE171.out | refine bS ?_ GE172.out) | exact HB.out)⟩
 ·rw [if_neg c3] at H
  have c3b0 : decide ((l0_0.length : Int) < (l1_0.length : Int)) = false := decide_eq_false c3
  have c3b1 : decide (l0_0.length < l1_0.length) = false := decide_eq_false (fun h => c3 (Int.ofNat_lt.mpr h))
  clear c3
  by_cases c9 : (l0_0.length : Int) > (l1_0.length : Int)
  ·rw [if_pos c9] at H
   have c9b0 : decide ((l1_0.length : Int) < (l0_0.length : Int)) = true := decide_eq_true c9
   have c9b1 : decide (l1_0.length < l0_0.length) = true := decide_eq_true (Int.ofNat_lt.mp c9)
   clear c9
   obtain rfl := Option.some.inj H
   go_enter Tryd.func36, Tryd.ntmps36
   go_wp2_with (first | ((with_reducible refine gD (N := 2) rfl ?_); refine xE ?hg (N := 2) ?hd (cs := #[.slice A0_0 l0_0.length c0_0]) (t := 29) ?hr ?_; (case hd => rfl); (case hg => rfl); (case hr => first | (go_simp; done) | (go_simp; rfl)); intro gb171 hg w10 hbox hb; have q_ := zm (w := w) hb (by repeat (first | (with_reducible first | exact HB.out | apply bA | apply bN | apply b1_) | exact HB.out)); replace HB := Q0.mk (bP q_ hb); have BK171 := Q0.mk (hbox); have GW171 := Q0.mk ((by rw [hg]; exact (bZ q_) : w.heap.size ≤ gb171)); have GE171 := GW171; clear q_; clear hb hbox hg) | ((with_reducible refine gD (N := 3) rfl ?_); refine xE ?hg (N := 3) ?hd (cs := #[.slice A1_0 l1_0.length c1_0]) (t := 29) ?hr ?_; (case hd => rfl); (case hg => rfl); (case hr => first | (go_simp; done) | (go_simp; rfl)); intro gb172 hg w11 hbox hb; have q_ := zm (w := w) hb (by repeat (first | (with_reducible first | exact HB.out | apply bA | apply bN | apply b1_ | refine bS ?_ GE171.out) | exact HB.out)); replace HB := Q0.mk (bP q_ hb); have BK172 := Q0.mk (hbox); have GW172 := Q0.mk ((by rw [hg]; exact (bZ q_) : w.heap.size ≤ gb172)); have GE172 := GW172; have NB171_172 := Q0.mk ((by rw [hg]; exact Nat.ne_of_lt (zj0 (g := gb171) (o := .cells #[.slice A0_0 l0_0.length c0_0] 29 (0, 0)) (by (with_reducible repeat (first | refine kN ?_ _ | refine kD ?_ | refine kA ?_ _)); exact BK171.out)) : gb171 ≠ gb172)); replace BK171 := Q0.mk (kB (g := gb171) (o := .cells #[.slice A0_0 l0_0.length c0_0] 29 (0, 0)) (by (with_reducible repeat (first | refine kN ?_ _ | refine kD ?_ | refine kA ?_ _)); exact BK171.out) hb); have NB172_171 := Q0.mk NB171_172.out.symm; clear q_; clear hb hbox hg; have hnb12 := NB171_172.out; have hnc12 := NB172_171.out; have hcz13_0 : w11.cell? ⟨gb171, 0, none⟩ = some (.slice A0_0 l0_0.length c0_0) := (kC BK171.out 0).trans rfl; have hfz13_0 := kF BK171.out 0; have hcz14_0 : w11.cell? ⟨gb172, 0, none⟩ = some (.slice A1_0 l1_0.length c1_0) := (kC BK172.out 0).trans rfl; have hfz14_0 := kF BK172.out 0))
   repeat (go_quiet (first | ((with_reducible refine gD (N := 2) rfl ?_); refine xE ?hg (N := 2) ?hd (cs := #[.slice A0_0 l0_0.length c0_0]) (t := 29) ?hr ?_; (case hd => rfl); (case hg => rfl); (case hr => first | (go_simp; done) | (go_simp; rfl)); intro gb171 hg w10 hbox hb; have q_ := zm (w := w) hb (by repeat (first | (with_reducible first | exact HB.out | apply bA | apply bN | apply b1_) | exact HB.out)); replace HB := Q0.mk (bP q_ hb); have BK171 := Q0.mk (hbox); have GW171 := Q0.mk ((by rw [hg]; exact (bZ q_) : w.heap.size ≤ gb171)); have GE171 := GW171; clear q_; clear hb hbox hg) | ((with_reducible refine gD (N := 3) rfl ?_); refine xE ?hg (N := 3) ?hd (cs := #[.slice A1_0 l1_0.length c1_0]) (t := 29) ?hr ?_; (case hd => rfl); (case hg => rfl); (case hr => first | (go_simp; done) | (go_simp; rfl)); intro gb172 hg w11 hbox hb; have q_ := zm (w := w) hb (by repeat (first | (with_reducible first | exact HB.out | apply bA | apply bN | apply b1_ | refine bS ?_ GE171.out) | exact HB.out)); replace HB := Q0.mk (bP q_ hb); have BK172 := Q0.mk (hbox); have GW172 := Q0.mk ((by rw [hg]; exact (bZ q_) : w.heap.size ≤ gb172)); have GE172 := GW172; have NB171_172 := Q0.mk ((by rw [hg]; exact Nat.ne_of_lt (zj0 (g := gb171) (o := .cells #[.slice A0_0 l0_0.length c0_0] 29 (0, 0)) (by (with_reducible repeat (first | refine kN ?_ _ | refine kD ?_ | refine kA ?_ _)); exact BK171.out)) : gb171 ≠ gb172)); replace BK171 := Q0.mk (kB (g := gb171) (o := .cells #[.slice A0_0 l0_0.length c0_0] 29 (0, 0)) (by (with_reducible repeat (first | refine kN ?_ _ | refine kD ?_ | refine kA ?_ _)); exact BK171.out) hb); have NB172_171 := Q0.mk NB171_172.out.symm; clear q_; clear hb hbox hg; have hnb12 := NB171_172.out; have hnc12 := NB172_171.out; have hcz13_0 : w11.cell? ⟨gb171, 0, none⟩ = some (.slice A0_0 l0_0.length c0_0) := (kC BK171.out 0).trans rfl; have hfz13_0 := kF BK171.out 0; have hcz14_0 : w11.cell? ⟨gb172, 0, none⟩ = some (.slice A1_0 l1_0.length c1_0) := (kC BK172.out 0).trans rfl; have hfz14_0 := kF BK172.out 0)); try go_wp2_with (first | ((with_reducible refine gD (N := 2) rfl ?_); refine xE ?hg (N := 2) ?hd (cs := #[.slice A0_0 l0_0.length c0_0]) (t := 29) ?hr ?_; (case hd => rfl); (case hg => rfl); (case hr => first | (go_simp; done) | (go_simp; rfl)); intro gb171 hg w10 hbox hb; have q_ := zm (w := w) hb (by repeat (first | (with_reducible first | exact HB.out | apply bA | apply bN | apply b1_) | exact HB.out)); replace HB := Q0.mk (bP q_ hb); have BK171 := Q0.mk (hbox); have GW171 := Q0.mk ((by rw [hg]; exact (bZ q_) : w.heap.size ≤ gb171)); have GE171 := GW171; clear q_; clear hb hbox hg) | ((with_reducible refine gD (N := 3) rfl ?_); refine xE ?hg (N := 3) ?hd (cs := #[.slice A1_0 l1_0.length c1_0]) (t := 29) ?hr ?_; (case hd => rfl); (case hg => rfl); (case hr => first | (go_simp; done) | (go_simp; rfl)); intro gb172 hg w11 hbox hb; have q_ := zm (w := w) hb (by repeat (first | (with_reducible first | exact HB.out | apply bA | apply bN | apply b1_ | refine bS ?_ GE171.out) | exact HB.out)); replace HB := Q0.mk (bP q_ hb); have BK172 := Q0.mk (hbox); have GW172 := Q0.mk ((by rw [hg]; exact (bZ q_) : w.heap.size ≤ gb172)); have GE172 := GW172; have NB171_172 := Q0.mk ((by rw [hg]; exact Nat.ne_of_lt (zj0 (g := gb171) (o := .cells #[.slice A0_0 l0_0.length c0_0] 29 (0, 0)) (by (with_reducible repeat (first | refine kN ?_ _ | refine kD ?_ | refine kA ?_ _)); exact BK171.out)) : gb171 ≠ gb172)); replace BK171 := Q0.mk (kB (g := gb171) (o := .cells #[.slice A0_0 l0_0.length c0_0] 29 (0, 0)) (by (with_reducible repeat (first | refine kN ?_ _ | refine kD ?_ | refine kA ?_ _)); exact BK171.out) hb); have NB172_171 := Q0.mk NB171_172.out.symm; clear q_; clear hb hbox hg; have hnb12 := NB171_172.out; have hnc12 := NB172_171.out; have hcz13_0 : w11.cell? ⟨gb171, 0, none⟩ = some (.slice A0_0 l0_0.length c0_0) := (kC BK171.out 0).trans rfl; have hfz13_0 := kF BK171.out 0; have hcz14_0 : w11.cell? ⟨gb172, 0, none⟩ = some (.slice A1_0 l1_0.length c1_0) := (kC BK172.out 0).trans rfl; have hfz14_0 := kF BK172.out 0)))
   go_ret
   exact ⟨by first | rfl | (simp [eN, eS] <;> rfl) | (simp [*, eN, eS] <;> rfl), by repeat (first | (with_reducible first | exact HB.out | apply bA | apply bN | apply b1_ | refine bS ?_ GE171.out | refine bS ?_ GE172.out) | exact HB.out)⟩
  ·rw [if_neg c9] at H
   have c9b0 : decide ((l1_0.length : Int) < (l0_0.length : Int)) = false := decide_eq_false c9
   have c9b1 : decide (l1_0.length < l0_0.length) = false := decide_eq_false (fun h => c9 (Int.ofNat_lt.mpr h))
   clear c9
   have H' := Q0.mk H
   clear H
   go_enter Tryd.func36, Tryd.ntmps36
   go_wp2_with (first | ((with_reducible refine gD (N := 2) rfl ?_); refine xE ?hg (N := 2) ?hd (cs := #[.slice A0_0 l0_0.length c0_0]) (t := 29) ?hr ?_; (case hd => rfl); (case hg => rfl); (case hr => first | (go_simp; done) | (go_simp; rfl)); intro gb171 hg w15 hbox hb; have q_ := zm (w := w) hb (by repeat (first | (with_reducible first | exact HB.out | apply bA | apply bN | apply b1_) | exact HB.out)); replace HB := Q0.mk (bP q_ hb); have BK171 := Q0.mk (hbox); have GW171 := Q0.mk ((by rw [hg]; exact (bZ q_) : w.heap.size ≤ gb171)); have GE171 := GW171; clear q_; clear hb hbox hg) | ((with_reducible refine gD (N := 3) rfl ?_); refine xE ?hg (N := 3) ?hd (cs := #[.slice A1_0 l1_0.length c1_0]) (t := 29) ?hr ?_; (case hd => rfl); (case hg => rfl); (case hr => first | (go_simp; done) | (go_simp; rfl)); intro gb172 hg w16 hbox hb; have q_ := zm (w := w) hb (by repeat (first | (with_reducible first | exact HB.out | apply bA | apply bN | apply b1_ | refine bS ?_ GE171.out) | exact HB.out)); replace HB := Q0.mk (bP q_ hb); have BK172 := Q0.mk (hbox); have GW172 := Q0.mk ((by rw [hg]; exact (bZ q_) : w.heap.size ≤ gb172)); have GE172 := GW172; have NB171_172 := Q0.mk ((by rw [hg]; exact Nat.ne_of_lt (zj0 (g := gb171) (o := .cells #[.slice A0_0 l0_0.length c0_0] 29 (0, 0)) (by (with_reducible repeat (first | refine kN ?_ _ | refine kD ?_ | refine kA ?_ _)); exact BK171.out)) : gb171 ≠ gb172)); replace BK171 := Q0.mk (kB (g := gb171) (o := .cells #[.slice A0_0 l0_0.length c0_0] 29 (0, 0)) (by (with_reducible repeat (first | refine kN ?_ _ | refine kD ?_ | refine kA ?_ _)); exact BK171.out) hb); have NB172_171 := Q0.mk NB171_172.out.symm; clear q_; clear hb hbox hg; have hnb17 := NB171_172.out; have hnc17 := NB172_171.out; have hcz18_0 : w16.cell? ⟨gb171, 0, none⟩ = some (.slice A0_0 l0_0.length c0_0) := (kC BK171.out 0).trans rfl; have hfz18_0 := kF BK171.out 0; have hcz19_0 : w16.cell? ⟨gb172, 0, none⟩ = some (.slice A1_0 l1_0.length c1_0) := (kC BK172.out 0).trans rfl; have hfz19_0 := kF BK172.out 0))
   repeat (go_quiet (first | ((with_reducible refine gD (N := 2) rfl ?_); refine xE ?hg (N := 2) ?hd (cs := #[.slice A0_0 l0_0.length c0_0]) (t := 29) ?hr ?_; (case hd => rfl); (case hg => rfl); (case hr => first | (go_simp; done) | (go_simp; rfl)); intro gb171 hg w15 hbox hb; have q_ := zm (w := w) hb (by repeat (first | (with_reducible first | exact HB.out | apply bA | apply bN | apply b1_) | exact HB.out)); replace HB := Q0.mk (bP q_ hb); have BK171 := Q0.mk (hbox); have GW171 := Q0.mk ((by rw [hg]; exact (bZ q_) : w.heap.size ≤ gb171)); have GE171 := GW171; clear q_; clear hb hbox hg) | ((with_reducible refine gD (N := 3) rfl ?_); refine xE ?hg (N := 3) ?hd (cs := #[.slice A1_0 l1_0.length c1_0]) (t := 29) ?hr ?_; (case hd => rfl); (case hg => rfl); (case hr => first | (go_simp; done) | (go_simp; rfl)); intro gb172 hg w16 hbox hb; have q_ := zm (w := w) hb (by repeat (first | (with_reducible first | exact HB.out | apply bA | apply bN | apply b1_ | refine bS ?_ GE171.out) | exact HB.out)); replace HB := Q0.mk (bP q_ hb); have BK172 := Q0.mk (hbox); have GW172 := Q0.mk ((by rw [hg]; exact (bZ q_) : w.heap.size ≤ gb172)); have GE172 := GW172; have NB171_172 := Q0.mk ((by rw [hg]; exact Nat.ne_of_lt (zj0 (g := gb171) (o := .cells #[.slice A0_0 l0_0.length c0_0] 29 (0, 0)) (by (with_reducible repeat (first | refine kN ?_ _ | refine kD ?_ | refine kA ?_ _)); exact BK171.out)) : gb171 ≠ gb172)); replace BK171 := Q0.mk (kB (g := gb171) (o := .cells #[.slice A0_0 l0_0.length c0_0] 29 (0, 0)) (by (with_reducible repeat (first | refine kN ?_ _ | refine kD ?_ | refine kA ?_ _)); exact BK171.out) hb); have NB172_171 := Q0.mk NB171_172.out.symm; clear q_; clear hb hbox hg; have hnb17 := NB171_172.out; have hnc17 := NB172_171.out; have hcz18_0 : w16.cell? ⟨gb171, 0, none⟩ = some (.slice A0_0 l0_0.length c0_0) := (kC BK171.out 0).trans rfl; have hfz18_0 := kF BK171.out 0; have hcz19_0 : w16.cell? ⟨gb172, 0, none⟩ = some (.slice A1_0 l1_0.length c1_0) := (kC BK172.out 0).trans rfl; have hfz19_0 := kF BK172.out 0)); try go_wp2_with (first | ((with_reducible refine gD (N := 2) rfl ?_); refine xE ?hg (N := 2) ?hd (cs := #[.slice A0_0 l0_0.length c0_0]) (t := 29) ?hr ?_; (case hd => rfl); (case hg => rfl); (case hr => first | (go_simp; done) | (go_simp; rfl)); intro gb171 hg w15 hbox hb; have q_ := zm (w := w) hb (by repeat (first | (with_reducible first | exact HB.out | apply bA | apply bN | apply b1_) | exact HB.out)); replace HB := Q0.mk (bP q_ hb); have BK171 := Q0.mk (hbox); have GW171 := Q0.mk ((by rw [hg]; exact (bZ q_) : w.heap.size ≤ gb171)); have GE171 := GW171; clear q_; clear hb hbox hg) | ((with_reducible refine gD (N := 3) rfl ?_); refine xE ?hg (N := 3) ?hd (cs := #[.slice A1_0 l1_0.length c1_0]) (t := 29) ?hr ?_; (case hd => rfl); (case hg => rfl); (case hr => first | (go_simp; done) | (go_simp; rfl)); intro gb172 hg w16 hbox hb; have q_ := zm (w := w) hb (by repeat (first | (with_reducible first | exact HB.out | apply bA | apply bN | apply b1_ | refine bS ?_ GE171.out) | exact HB.out)); replace HB := Q0.mk (bP q_ hb); have BK172 := Q0.mk (hbox); have GW172 := Q0.mk ((by rw [hg]; exact (bZ q_) : w.heap.size ≤ gb172)); have GE172 := GW172; have NB171_172 := Q0.mk ((by rw [hg]; exact Nat.ne_of_lt (zj0 (g := gb171) (o := .cells #[.slice A0_0 l0_0.length c0_0] 29 (0, 0)) (by (with_reducible repeat (first | refine kN ?_ _ | refine kD ?_ | refine kA ?_ _)); exact BK171.out)) : gb171 ≠ gb172)); replace BK171 := Q0.mk (kB (g := gb171) (o := .cells #[.slice A0_0 l0_0.length c0_0] 29 (0, 0)) (by (with_reducible repeat (first | refine kN ?_ _ | refine kD ?_ | refine kA ?_ _)); exact BK171.out) hb); have NB172_171 := Q0.mk NB171_172.out.symm; clear q_; clear hb hbox hg; have hnb17 := NB171_172.out; have hnc17 := NB172_171.out; have hcz18_0 : w16.cell? ⟨gb171, 0, none⟩ = some (.slice A0_0 l0_0.length c0_0) := (kC BK171.out 0).trans rfl; have hfz18_0 := kF BK171.out 0; have hcz19_0 : w16.cell? ⟨gb172, 0, none⟩ = some (.slice A1_0 l1_0.length c1_0) := (kC BK172.out 0).trans rfl; have hfz19_0 := kF BK172.out 0)))
   go_loopg [5] k (fun kq v5 w' => ∃ (x5_1 : Int), v5 = .int .i64 x5_1 ∧ Q0 (nat_Nat_Cmp.l0 kq x5_1 l0_0 l1_0 = some r) ∧ Q0 (kq ≤ k) ∧ Q0 (w'.heap[gb171]? = some (.cells #[(.slice A0_0 l0_0.length c0_0)] 29 (0, 0))) ∧ Q0 (w'.heap[gb172]? = some (.cells #[(.slice A1_0 l1_0.length c1_0)] 29 (0, 0))) ∧ Q0 (Below w.heap.size w w'))
   case atStart => exact ⟨(wrap64 ((l0_0.length : Int) - 1)), (by first | rfl | (simp; done) | (simp [*]; done)), H', ⟨Nat.le_refl _⟩, ⟨by (with_reducible repeat (first | refine kN ?_ _ | refine kD ?_ | refine kA ?_ _)); exact BK171.out⟩, ⟨by (with_reducible repeat (first | refine kN ?_ _ | refine kD ?_ | refine kA ?_ _)); exact BK172.out⟩, ⟨by repeat (first | (with_reducible first | exact HB.out | apply bA | apply bN | apply b1_ | refine bS ?_ GE171.out | refine bS ?_ GE172.out) | exact HB.out)⟩⟩
   case round =>
    clear H'
    obtain ⟨x5_1, rfl, HA, HK1, BK171, BK172, HB⟩ := hrel
    cases gk with
    | zero => exact absurd HA.out (by simp [nat_Nat_Cmp.l0])
    | succ k1 =>
     have H := HA.out
     clear HA
     simp only [nat_Nat_Cmp.l0] at H
     by_cases c20 : x5_1 ≥ 0
     ·rw [if_pos c20] at H
      have c20b0 : decide (0 ≤ x5_1) = true := decide_eq_true c20
      clear c20
      by_cases c21 : 0 ≤ x5_1
      ·rw [if_pos c21] at H
       have c21b0 : decide (0 ≤ x5_1) = true := decide_eq_true c21
       clear c21
       by_cases c22 : x5_1 < (l0_0.length : Int)
       ·rw [if_pos c22] at H
        have c22b0 : decide (x5_1 < (l0_0.length : Int)) = true := decide_eq_true c22
        clear c22
        by_cases c23 : x5_1 < (l1_0.length : Int)
        ·rw [if_pos c23] at H
         have c23b0 : decide (x5_1 < (l1_0.length : Int)) = true := decide_eq_true c23
         clear c23
         by_cases c24 : (rd l0_0 x5_1) = (rd l1_0 x5_1)
         ·rw [if_pos c24] at H
          have c24b0 : ((rd l0_0 x5_1) == (rd l1_0 x5_1)) = true := beq_iff_eq.mpr c24
          have c24b1 : ((rd l0_0 x5_1) != (rd l1_0 x5_1)) = false := bne_eq_false_iff_eq.mpr c24
          clear c24
          have H' := Q0.mk H
          clear H
          have hnb25 := NB171_172.out
          have hnc25 := NB172_171.out
          have hcz26_0 : wr.cell? ⟨gb171, 0, none⟩ = some (.slice A0_0 l0_0.length c0_0) := (kC BK171.out 0).trans rfl
          have hfz26_0 := kF BK171.out 0
          have p173 : 0 ≤ (x5_1 : Int) := of_decide_eq_true (by first | (with_reducible assumption) | assumption)
          have q173 : x5_1 < (l0_0.length : Int) := of_decide_eq_true (by first | (with_reducible assumption) | assumption)
          obtain ⟨ad173, e173, hx173_0⟩ := Kd.zk HR0_0.out x5_1 p173 q173
          cases e173
          replace hx173_0 := (HB.out.cell (World.block_lt_of_cell? w _ hx173_0)).trans hx173_0
          replace p173 := eq_true p173
          replace q173 := eq_true q173
          have hcz27_0 : wr.cell? ⟨gb172, 0, none⟩ = some (.slice A1_0 l1_0.length c1_0) := (kC BK172.out 0).trans rfl
          have hfz27_0 := kF BK172.out 0
          have p174 : 0 ≤ (x5_1 : Int) := of_decide_eq_true (by first | (with_reducible assumption) | assumption)
          have q174 : x5_1 < (l1_0.length : Int) := of_decide_eq_true (by first | (with_reducible assumption) | assumption)
          obtain ⟨ad174, e174, hx174_0⟩ := Kd.zk HR1_0.out x5_1 p174 q174
          cases e174
          replace hx174_0 := (HB.out.cell (World.block_lt_of_cell? w _ hx174_0)).trans hx174_0
          replace p174 := eq_true p174
          replace q174 := eq_true q174
          go_wp2
          repeat (go_quiet (fail); try go_wp2)
          go_roundg k1
          case measure => have := HK1.out; omega
          case rel => exact ⟨(wrap64 (x5_1 - 1)), (by first | rfl | (simp; done) | (simp [*]; done)), H', ⟨by have := HK1.out; omega⟩, ⟨by (with_reducible repeat (first | refine kN ?_ _ | refine kD ?_ | refine kA ?_ _)); exact BK171.out⟩, ⟨by (with_reducible repeat (first | refine kN ?_ _ | refine kD ?_ | refine kA ?_ _)); exact BK172.out⟩, ⟨by repeat (first | (with_reducible first | exact HB.out | apply bA | apply bN | apply b1_ | refine bS ?_ GE171.out | refine bS ?_ GE172.out) | exact HB.out)⟩⟩
         ·rw [if_neg c24] at H
          have c24b0 : ((rd l0_0 x5_1) == (rd l1_0 x5_1)) = false := beq_eq_false_iff_ne.mpr c24
          have c24b1 : ((rd l0_0 x5_1) != (rd l1_0 x5_1)) = true := bne_iff_ne.mpr c24
          by_cases c28 : (rd l0_0 x5_1) < (rd l1_0 x5_1)
          ·rw [if_pos c28] at H
           have c28b0 : decide ((rd l0_0 x5_1) < (rd l1_0 x5_1)) = true := decide_eq_true c28
           clear c28
           obtain rfl := Option.some.inj H
           have hnb29 := NB171_172.out
           have hnc29 := NB172_171.out
           have hcz30_0 : wr.cell? ⟨gb171, 0, none⟩ = some (.slice A0_0 l0_0.length c0_0) := (kC BK171.out 0).trans rfl
           have hfz30_0 := kF BK171.out 0
           have p173 : 0 ≤ (x5_1 : Int) := of_decide_eq_true (by first | (with_reducible assumption) | assumption)
           have q173 : x5_1 < (l0_0.length : Int) := of_decide_eq_true (by first | (with_reducible assumption) | assumption)
           obtain ⟨ad173, e173, hx173_0⟩ := Kd.zk HR0_0.out x5_1 p173 q173
           cases e173
           replace hx173_0 := (HB.out.cell (World.block_lt_of_cell? w _ hx173_0)).trans hx173_0
           replace p173 := eq_true p173
           replace q173 := eq_true q173
           have hcz31_0 : wr.cell? ⟨gb172, 0, none⟩ = some (.slice A1_0 l1_0.length c1_0) := (kC BK172.out 0).trans rfl
           have hfz31_0 := kF BK172.out 0
           have p174 : 0 ≤ (x5_1 : Int) := of_decide_eq_true (by first | (with_reducible assumption) | assumption)
           have q174 : x5_1 < (l1_0.length : Int) := of_decide_eq_true (by first | (with_reducible assumption) | assumption)
           obtain ⟨ad174, e174, hx174_0⟩ := Kd.zk HR1_0.out x5_1 p174 q174
           cases e174
           replace hx174_0 := (HB.out.cell (World.block_lt_of_cell? w _ hx174_0)).trans hx174_0
           replace p174 := eq_true p174
           replace q174 := eq_true q174
           have p175 : 0 ≤ (x5_1 : Int) := of_decide_eq_true (by first | (with_reducible assumption) | assumption)
           have q175 : x5_1 < (l0_0.length : Int) := of_decide_eq_true (by first | (with_reducible assumption) | assumption)
           obtain ⟨ad175, e175, hx175_0⟩ := Kd.zk HR0_0.out x5_1 p175 q175
           obtain rfl : ad173 = ad175 := (by injection e175)
           replace hx175_0 := (HB.out.cell (World.block_lt_of_cell? w _ hx175_0)).trans hx175_0
           replace p175 := eq_true p175
           replace q175 := eq_true q175
           have p176 : 0 ≤ (x5_1 : Int) := of_decide_eq_true (by first | (with_reducible assumption) | assumption)
           have q176 : x5_1 < (l1_0.length : Int) := of_decide_eq_true (by first | (with_reducible assumption) | assumption)
           obtain ⟨ad176, e176, hx176_0⟩ := Kd.zk HR1_0.out x5_1 p176 q176
           obtain rfl : ad174 = ad176 := (by injection e176)
           replace hx176_0 := (HB.out.cell (World.block_lt_of_cell? w _ hx176_0)).trans hx176_0
           replace p176 := eq_true p176
           replace q176 := eq_true q176
           go_wp2
           repeat (go_quiet (fail); try go_wp2)
           go_ret
           exact ⟨by first | rfl | (simp [eN, eS] <;> rfl) | (simp [*, eN, eS] <;> rfl), by repeat (first | (with_reducible first | exact HB.out | apply bA | apply bN | apply b1_ | refine bS ?_ GE171.out | refine bS ?_ GE172.out) | exact HB.out)⟩
          ·rw [if_neg c28] at H
           have c28b0 : decide ((rd l0_0 x5_1) < (rd l1_0 x5_1)) = false := decide_eq_false c28
           clear c28
           obtain rfl := Option.some.inj H
           have hnb32 := NB171_172.out
           have hnc32 := NB172_171.out
           have hcz33_0 : wr.cell? ⟨gb171, 0, none⟩ = some (.slice A0_0 l0_0.length c0_0) := (kC BK171.out 0).trans rfl
           have hfz33_0 := kF BK171.out 0
           have p173 : 0 ≤ (x5_1 : Int) := of_decide_eq_true (by first | (with_reducible assumption) | assumption)
           have q173 : x5_1 < (l0_0.length : Int) := of_decide_eq_true (by first | (with_reducible assumption) | assumption)
           obtain ⟨ad173, e173, hx173_0⟩ := Kd.zk HR0_0.out x5_1 p173 q173
           cases e173
           replace hx173_0 := (HB.out.cell (World.block_lt_of_cell? w _ hx173_0)).trans hx173_0
           replace p173 := eq_true p173
           replace q173 := eq_true q173
           have hcz34_0 : wr.cell? ⟨gb172, 0, none⟩ = some (.slice A1_0 l1_0.length c1_0) := (kC BK172.out 0).trans rfl
           have hfz34_0 := kF BK172.out 0
           have p174 : 0 ≤ (x5_1 : Int) := of_decide_eq_true (by first | (with_reducible assumption) | assumption)
           have q174 : x5_1 < (l1_0.length : Int) := of_decide_eq_true (by first | (with_reducible assumption) | assumption)
           obtain ⟨ad174, e174, hx174_0⟩ := Kd.zk HR1_0.out x5_1 p174 q174
           cases e174
           replace hx174_0 := (HB.out.cell (World.block_lt_of_cell? w _ hx174_0)).trans hx174_0
           replace p174 := eq_true p174
           replace q174 := eq_true q174
           have p175 : 0 ≤ (x5_1 : Int) := of_decide_eq_true (by first | (with_reducible assumption) | assumption)
           have q175 : x5_1 < (l0_0.length : Int) := of_decide_eq_true (by first | (with_reducible assumption) | assumption)
           obtain ⟨ad175, e175, hx175_0⟩ := Kd.zk HR0_0.out x5_1 p175 q175
           obtain rfl : ad173 = ad175 := (by injection e175)
           replace hx175_0 := (HB.out.cell (World.block_lt_of_cell? w _ hx175_0)).trans hx175_0
           replace p175 := eq_true p175
           replace q175 := eq_true q175
           have p176 : 0 ≤ (x5_1 : Int) := of_decide_eq_true (by first | (with_reducible assumption) | assumption)
           have q176 : x5_1 < (l1_0.length : Int) := of_decide_eq_true (by first | (with_reducible assumption) | assumption)
           obtain ⟨ad176, e176, hx176_0⟩ := Kd.zk HR1_0.out x5_1 p176 q176
           obtain rfl : ad174 = ad176 := (by injection e176)
           replace hx176_0 := (HB.out.cell (World.block_lt_of_cell? w _ hx176_0)).trans hx176_0
           replace p176 := eq_true p176
           replace q176 := eq_true q176
           go_wp2
           repeat (go_quiet (fail); try go_wp2)
           go_ret
           exact ⟨by first | rfl | (simp [eN, eS] <;> rfl) | (simp [*, eN, eS] <;> rfl), by repeat (first | (with_reducible first | exact HB.out | apply bA | apply bN | apply b1_ | refine bS ?_ GE171.out | refine bS ?_ GE172.out) | exact HB.out)⟩
        ·rw [if_neg c23] at H
         exact absurd H (by simp)
       ·rw [if_neg c22] at H
        exact absurd H (by simp)
      ·rw [if_neg c21] at H
       exact absurd H (by simp)
     ·rw [if_neg c20] at H
      have c20b0 : decide (0 ≤ x5_1) = false := decide_eq_false c20
      clear c20
      obtain rfl := Option.some.inj H
      go_wp2
      repeat (go_quiet (fail); try go_wp2)
      go_ret
      exact ⟨by first | rfl | (simp [eN, eS] <;> rfl) | (simp [*, eN, eS] <;> rfl), by repeat (first | (with_reducible first | exact HB.out | apply bA | apply bN | apply b1_ | refine bS ?_ GE171.out | refine bS ?_ GE172.out) | exact HB.out)⟩
def bits_Sub64.f (a0 : Int) (a1 : Int) (a2 : Int) : Option (Int × Int) := if (0 ≤ a0 ∧ 0 ≤ a1 ∧ a1 < 18446744073709551616) ∧ 0 ≤ a2 ∧ a2 ≤ 1 then some ((a0 + 18446744073709551616 - a1 - a2) % 18446744073709551616, if a0 < a1 + a2 then 1 else 0) else none
theorem bits_Sub64.run (a0 a1 a2 r1 r2 : Int) (h : bits_Sub64.f a0 a1 a2 = some (r1, r2)) (w : World) :
  (callFunc 82 #[.int .u64 a0, .int .u64 a1, .int .u64 a2]).run Tryd.prog w = .ok (.value (.tuple #[.int .u64 r1, .int .u64 r2])) w := by
 unfold bits_Sub64.f at h
 split at h
 ·rename_i hc
  simp only [Option.some.injEq, Prod.mk.injEq] at h
  obtain ⟨rfl, rfl⟩ := h
  obtain ⟨⟨h0, h1, h1b⟩, h2, h3⟩ := hc
  obtain ⟨x, rfl⟩ := Int.eq_ofNat_of_zero_le h0
  obtain ⟨y, rfl⟩ := Int.eq_ofNat_of_zero_le h1
  obtain ⟨b, rfl⟩ := Int.eq_ofNat_of_zero_le h2
  rw [run_callFunc_extern Tryd.func82 (by kernel_rfl) (by kernel_rfl) (by kernel_rfl) (e := sub64Entry) (by kernel_rfl), run_sub64 x y b (by omega)]
  simp only [Result.andThen]
  congr 6
  ·omega
  ·by_cases hlt : x < y + b
   ·rw [if_pos hlt, if_pos (by omega)]; rfl
   ·rw [if_neg hlt, if_neg (by omega)]; rfl
 ·exact absurd h (by simp)
def nat_Nat_Sub.l0 : Nat → List Int → Int → Int → Int → List Int → List Int → Option (List Int × Int)
 | 0, _, _, _, _, _, _ => none
 | k + 1, x6, x7, x20, x21, x405000, x406000 => if x21 < x20 then (if 0 ≤ x21 then (if x21 < (x405000.length : Int) then ((nat_Nat_word.f x406000 x21).bind fun t412 => ((bits_Sub64.f (rd x405000 x21) t412 x7).bind fun bt413 => (if x21 < (x6.length : Int) then (nat_Nat_Sub.l0 k (x6.set (x21 : Int).toNat bt413.1) bt413.2 x20 (wrap64 (x21 + 1)) x405000 x406000) else (none)))) else (none)) else (none)) else ((nat_norm.f k x6).bind fun t416 => (some (t416, 0)))
def nat_Nat_Sub.f (k : Nat) (l0_0 : List Int) (l1_0 : List Int) : Option (List Int × Int) := (nat_Nat_Cmp.f k l0_0 l1_0).bind fun t407 => (if t407 < 0 then (some (([] : List Int), 2)) else (if 0 ≤ (l0_0.length : Int) then (if ((l0_0.length : Int) : Int).toNat ≤ 35184372088832 then (nat_Nat_Sub.l0 k (List.replicate ((l0_0.length : Int) : Int).toNat 0) 0 (l0_0.length : Int) 0 l0_0 l1_0) else (none)) else (none)))
def nat_Nat_Sub.T8 : Bool × List (List Nat × List Nat) := (true, [([], []), ([], []), ([], []), ([2], [2]), ([], []), ([3, 4], [3, 4]), ([5], [5]), ([], []), ([], []), ([7, 8], [7, 8]), ([], []), ([6, 9, 10, 9], [6, 9, 10]), ([11], [11]), ([12], [12]), ([12], [12]), ([0, 1, 0, 1, 2, 3, 4, 5, 6, 7, 8, 9, 10, 11, 12, 13], [0, 1]), ([15, 13, 11, 0, 1, 2, 3, 4, 5, 6, 7, 8, 9, 10, 11, 12, 13], [13, 15]), ([14, 16, 0, 1, 2, 3, 4, 5, 6, 7, 8, 9, 10, 11, 12, 13, 14, 15, 16], [10, 14])])
def nat_Nat_Sub.B8 : List Nat := [0, 0, 0, 4, 0, 28, 60, 0, 0, 384, 0, 2044, 4092, 8188, 8188, 16383, 49151, 131071]
theorem nat_Nat_Sub.tab8 : zo2 .any (opsOf Tryd.f38 8) = nat_Nat_Sub.T8 := by kernel_rfl
theorem nat_Nat_Sub.bits8 : zf2 nat_Nat_Sub.T8.2 nat_Nat_Sub.B8 = true := by kernel_rfl
theorem nat_Nat_Sub.calls (k : Nat) (A0_0 : Option Addr) (c0_0 : Nat) (l0_0 : List Int) (A1_0 : Option Addr) (c1_0 : Nat) (l1_0 : List Int) (r1 : List Int) (r2 : Int) (w : World) (hr0_0 : Kd.C (Kd.int .u64) w A0_0 l0_0.length l0_0) (hc0_0 : l0_0.length ≤ c0_0) (hr1_0 : Kd.C (Kd.int .u64) w A1_0 l1_0.length l1_0) (hc1_0 : l1_0.length ≤ c1_0) (h : nat_Nat_Sub.f k l0_0 l1_0 = some (r1, r2)) :
  Calls Tryd.prog 38 #[.agg #[.slice A0_0 l0_0.length c0_0], .agg #[.slice A1_0 l1_0.length c1_0]] w fun e w' => ∃ v0_ : Value, e = .returned (.tuple #[.agg #[v0_], .int .i64 r2]) ∧ Kd.V (Kd.int .u64) 40 w' w.heap.size (fun k_ => (w.heap.size ≤ k_)) v0_ r1 ∧ Below w.heap.size w w' := by
 have hu29 := Tryd.underlying29
 have HR0_0 := Q0.mk hr0_0
 have HC0_0 := Q0.mk hc0_0
 clear hr0_0 hc0_0
 have HR1_0 := Q0.mk hr1_0
 have HC1_0 := Q0.mk hc1_0
 clear hr1_0 hc1_0
 have HB := Q0.mk (Below.refl w.heap.size w)
 have H : ((nat_Nat_Cmp.f k l0_0 l1_0).bind fun t407 => (if t407 < 0 then (some (([] : List Int), 2)) else (if 0 ≤ (l0_0.length : Int) then (if ((l0_0.length : Int) : Int).toNat ≤ 35184372088832 then (nat_Nat_Sub.l0 k (List.replicate ((l0_0.length : Int) : Int).toNat 0) 0 (l0_0.length : Int) 0 l0_0 l1_0) else (none)) else (none)))) = some (r1, r2) := h
 clear h
 replace H := Option.bind_eq_some_iff.mp H
 obtain ⟨t407, A30, H⟩ := H
 have A3 := Q0.mk A30
 clear A30
 by_cases c4 : t407 < 0
 ·rw [if_pos c4] at H
  have c4b0 : decide (t407 < 0) = true := decide_eq_true c4
  clear c4
  simp only [Option.some.injEq, Prod.mk.injEq] at H
  obtain ⟨rfl, rfl⟩ := H
  go_enter Tryd.func38, Tryd.ntmps38
  go_wp2_with (first | ((with_reducible refine gD (N := 2) rfl ?_); refine xE ?hg (N := 2) ?hd (cs := #[.slice A0_0 l0_0.length c0_0]) (t := 29) ?hr ?_; (case hd => rfl); (case hg => rfl); (case hr => first | (go_simp; done) | (go_simp; rfl)); intro gb404 hg w5 hbox hb; have q_ := zm (w := w) hb (by repeat (first | (with_reducible first | exact HB.out | apply bA | apply bN | apply b1_) | exact HB.out)); replace HB := Q0.mk (bP q_ hb); have BK404 := Q0.mk (hbox); have GW404 := Q0.mk ((by rw [hg]; exact (bZ q_) : w.heap.size ≤ gb404)); have GE404 := GW404; clear q_; clear hb hbox hg) | ((with_reducible refine gD (N := 3) rfl ?_); refine xE ?hg (N := 3) ?hd (cs := #[.slice A1_0 l1_0.length c1_0]) (t := 29) ?hr ?_; (case hd => rfl); (case hg => rfl); (case hr => first | (go_simp; done) | (go_simp; rfl)); intro gb405 hg w6 hbox hb; have q_ := zm (w := w) hb (by repeat (first | (with_reducible first | exact HB.out | apply bA | apply bN | apply b1_ | refine bS ?_ GE404.out) | exact HB.out)); replace HB := Q0.mk (bP q_ hb); have BK405 := Q0.mk (hbox); have GW405 := Q0.mk ((by rw [hg]; exact (bZ q_) : w.heap.size ≤ gb405)); have GE405 := GW405; have NB404_405 := Q0.mk ((by rw [hg]; exact Nat.ne_of_lt (zj0 (g := gb404) (o := .cells #[.slice A0_0 l0_0.length c0_0] 29 (0, 0)) (by (with_reducible repeat (first | refine kN ?_ _ | refine kD ?_ | refine kA ?_ _)); exact BK404.out)) : gb404 ≠ gb405)); replace BK404 := Q0.mk (kB (g := gb404) (o := .cells #[.slice A0_0 l0_0.length c0_0] 29 (0, 0)) (by (with_reducible repeat (first | refine kN ?_ _ | refine kD ?_ | refine kA ?_ _)); exact BK404.out) hb); have NB405_404 := Q0.mk NB404_405.out.symm; clear q_; clear hb hbox hg) | ((with_reducible refine gD (N := 4) rfl ?_); refine xE ?hg (N := 4) ?hd (cs := #[.slice none 0 0]) (t := 29) ?hr ?_; (case hd => rfl); (case hg => rfl); (case hr => first | (go_simp; done) | (go_simp; rfl)); intro gb406 hg w7 hbox hb; have q_ := zm (w := w) hb (by repeat (first | (with_reducible first | exact HB.out | apply bA | apply bN | apply b1_ | refine bS ?_ GE404.out | refine bS ?_ GE405.out) | exact HB.out)); replace HB := Q0.mk (bP q_ hb); have BK406 := Q0.mk (hbox); have GW406 := Q0.mk ((by rw [hg]; exact (bZ q_) : w.heap.size ≤ gb406)); have GE406 := GW406; have NB404_406 := Q0.mk ((by rw [hg]; exact Nat.ne_of_lt (zj0 (g := gb404) (o := .cells #[.slice A0_0 l0_0.length c0_0] 29 (0, 0)) (by (with_reducible repeat (first | refine kN ?_ _ | refine kD ?_ | refine kA ?_ _)); exact BK404.out)) : gb404 ≠ gb406)); replace BK404 := Q0.mk (kB (g := gb404) (o := .cells #[.slice A0_0 l0_0.length c0_0] 29 (0, 0)) (by (with_reducible repeat (first | refine kN ?_ _ | refine kD ?_ | refine kA ?_ _)); exact BK404.out) hb); have NB406_404 := Q0.mk NB404_406.out.symm; have NB405_406 := Q0.mk ((by rw [hg]; exact Nat.ne_of_lt (zj0 (g := gb405) (o := .cells #[.slice A1_0 l1_0.length c1_0] 29 (0, 0)) (by (with_reducible repeat (first | refine kN ?_ _ | refine kD ?_ | refine kA ?_ _)); exact BK405.out)) : gb405 ≠ gb406)); replace BK405 := Q0.mk (kB (g := gb405) (o := .cells #[.slice A1_0 l1_0.length c1_0] 29 (0, 0)) (by (with_reducible repeat (first | refine kN ?_ _ | refine kD ?_ | refine kA ?_ _)); exact BK405.out) hb); have NB406_405 := Q0.mk NB405_406.out.symm; clear q_; clear hb hbox hg; have hnb8 := NB404_405.out; have hnc8 := NB405_404.out; have hnb9 := NB404_406.out; have hnc9 := NB406_404.out; have hcz10_0 : w7.cell? ⟨gb404, 0, none⟩ = some (.slice A0_0 l0_0.length c0_0) := (kC BK404.out 0).trans rfl; have hfz10_0 := kF BK404.out 0; have hnb11 := NB405_406.out; have hnc11 := NB406_405.out; have hcz12_0 : w7.cell? ⟨gb405, 0, none⟩ = some (.slice A1_0 l1_0.length c1_0) := (kC BK405.out 0).trans rfl; have hfz12_0 := kF BK405.out 0) | ((with_reducible refine gC (f := 36) rfl ?_); refine zx (some 11) rfl rfl Tryd.func36 (by kernel_rfl) rfl #[.agg #[.slice A0_0 l0_0.length c0_0], .agg #[.slice A1_0 l1_0.length c1_0]] rfl (by (try simp only [List.map_toArray, List.map_cons, List.map_nil]); first | done | rfl | (simp only [List.length_drop, List.length_take]; rfl)) ?_; (with_reducible refine (nat_Nat_Cmp.calls k _ _ l0_0 _ _ l1_0 t407 _ ?side1 ?side2 ?side3 ?side4 A3.out).mono ?_); (case side1 => repeat (first | exact (Kd.zu HR0_0.out HB.out) | (with_reducible refine Kd.ze ?_ _) | (with_reducible refine Kd.zf ?_ _) | (with_reducible refine Kd.zi ?_))); (case side2 => exact HC0_0.out); (case side3 => repeat (first | exact (Kd.zu HR1_0.out HB.out) | (with_reducible refine Kd.ze ?_ _) | (with_reducible refine Kd.zf ?_ _) | (with_reducible refine Kd.zi ?_))); (case side4 => exact HC1_0.out); rintro e w13 ⟨rfl, hb⟩; refine ⟨_, rfl, ?_⟩; replace BK404 := Q0.mk (kB (g := gb404) (o := .cells #[.slice A0_0 l0_0.length c0_0] 29 (0, 0)) (by (with_reducible repeat (first | refine kN ?_ _ | refine kD ?_ | refine kA ?_ _)); exact BK404.out) hb); replace BK405 := Q0.mk (kB (g := gb405) (o := .cells #[.slice A1_0 l1_0.length c1_0] 29 (0, 0)) (by (with_reducible repeat (first | refine kN ?_ _ | refine kD ?_ | refine kA ?_ _)); exact BK405.out) hb); replace BK406 := Q0.mk (kB (g := gb406) (o := .cells #[.slice none 0 0] 29 (0, 0)) (by (with_reducible repeat (first | refine kN ?_ _ | refine kD ?_ | refine kA ?_ _)); exact BK406.out) hb); replace HB := Q0.mk (bP (by repeat (first | (with_reducible first | exact HB.out | apply bA | apply bN | apply b1_ | refine bS ?_ GE404.out | refine bS ?_ GE405.out | refine bS ?_ GE406.out) | exact HB.out)) hb); (try clear hb); (try clear hb2); (try clear hk); (try clear hi); have hcz14_0 : w13.cell? ⟨gb406, 0, none⟩ = some (.slice none 0 0) := (kC BK406.out 0).trans rfl; have hfz14_0 := kF BK406.out 0))
  refine bodyPost_ret (zg1 rfl _ _ gb406 29 #[.slice none 0 0] (0, 0) _ rfl (by (with_reducible repeat (first | refine kN ?_ _ | refine kD ?_ | refine kA ?_ _)); refine zc0 (cs := #[.slice none 0 0]) ?_ 0 _ rfl; (with_reducible repeat (first | refine kN ?_ _ | refine kD ?_ | refine kA ?_ _)); exact BK406.out) Tryd.underlying29 rfl (by kernel_rfl)) rfl ?_
  exact ⟨_, by first | rfl | (simp [eN, eS] <;> rfl) | (simp [*, eN, eS] <;> rfl), Kd.R_V (base := w.heap.size) (by first | exact Kd.zj1 _ _ _ _ _ | exact Kd.N_nil _ _ _ _ _ | exact Kd.zg3 _ _ _ _ _ | exact Kd.Q_nil _ _ _ _ _ | exact Kd.S_nil _ _ _ _ _), by repeat (first | (with_reducible first | exact HB.out | apply bA | apply bN | apply b1_ | refine bS ?_ GE404.out | refine bS ?_ GE405.out | refine bS ?_ GE406.out) | exact HB.out)⟩
 ·rw [if_neg c4] at H
  have c4b0 : decide (t407 < 0) = false := decide_eq_false c4
  clear c4
  by_cases c15 : 0 ≤ (l0_0.length : Int)
  ·rw [if_pos c15] at H
   have c15b0 := eq_true c15
   have c15b1 : decide (0 ≤ (l0_0.length : Int)) = true := decide_eq_true c15
   clear c15
   by_cases c16 : ((l0_0.length : Int) : Int).toNat ≤ 35184372088832
   ·rw [if_pos c16] at H
    have c16b0 := eq_true c16
    have c16b1 : decide (((l0_0.length : Int) : Int).toNat ≤ 35184372088832) = true := decide_eq_true c16
    clear c16
    obtain ⟨y408, hy408⟩ : ∃ y_ : List Int, y_ = (List.replicate ((l0_0.length : Int) : Int).toNat 0) := ⟨_, rfl⟩
    rw [← hy408] at H
    have Ny408 := Q0.mk hy408
    clear hy408
    have H' := Q0.mk H
    clear H
    go_enter Tryd.func38, Tryd.ntmps38
    go_wp2_with (first | ((with_reducible refine gD (N := 2) rfl ?_); refine xE ?hg (N := 2) ?hd (cs := #[.slice A0_0 l0_0.length c0_0]) (t := 29) ?hr ?_; (case hd => rfl); (case hg => rfl); (case hr => first | (go_simp; done) | (go_simp; rfl)); intro gb404 hg w17 hbox hb; have q_ := zm (w := w) hb (by repeat (first | (with_reducible first | exact HB.out | apply bA | apply bN | apply b1_) | exact HB.out)); replace HB := Q0.mk (bP q_ hb); have BK404 := Q0.mk (hbox); have GW404 := Q0.mk ((by rw [hg]; exact (bZ q_) : w.heap.size ≤ gb404)); have GE404 := GW404; clear q_; clear hb hbox hg) | ((with_reducible refine gD (N := 3) rfl ?_); refine xE ?hg (N := 3) ?hd (cs := #[.slice A1_0 l1_0.length c1_0]) (t := 29) ?hr ?_; (case hd => rfl); (case hg => rfl); (case hr => first | (go_simp; done) | (go_simp; rfl)); intro gb405 hg w18 hbox hb; have q_ := zm (w := w) hb (by repeat (first | (with_reducible first | exact HB.out | apply bA | apply bN | apply b1_ | refine bS ?_ GE404.out) | exact HB.out)); replace HB := Q0.mk (bP q_ hb); have BK405 := Q0.mk (hbox); have GW405 := Q0.mk ((by rw [hg]; exact (bZ q_) : w.heap.size ≤ gb405)); have GE405 := GW405; have NB404_405 := Q0.mk ((by rw [hg]; exact Nat.ne_of_lt (zj0 (g := gb404) (o := .cells #[.slice A0_0 l0_0.length c0_0] 29 (0, 0)) (by (with_reducible repeat (first | refine kN ?_ _ | refine kD ?_ | refine kA ?_ _)); exact BK404.out)) : gb404 ≠ gb405)); replace BK404 := Q0.mk (kB (g := gb404) (o := .cells #[.slice A0_0 l0_0.length c0_0] 29 (0, 0)) (by (with_reducible repeat (first | refine kN ?_ _ | refine kD ?_ | refine kA ?_ _)); exact BK404.out) hb); have NB405_404 := Q0.mk NB404_405.out.symm; clear q_; clear hb hbox hg) | ((with_reducible refine gD (N := 4) rfl ?_); refine xE ?hg (N := 4) ?hd (cs := #[.slice none 0 0]) (t := 29) ?hr ?_; (case hd => rfl); (case hg => rfl); (case hr => first | (go_simp; done) | (go_simp; rfl)); intro gb406 hg w19 hbox hb; have q_ := zm (w := w) hb (by repeat (first | (with_reducible first | exact HB.out | apply bA | apply bN | apply b1_ | refine bS ?_ GE404.out | refine bS ?_ GE405.out) | exact HB.out)); replace HB := Q0.mk (bP q_ hb); have BK406 := Q0.mk (hbox); have GW406 := Q0.mk ((by rw [hg]; exact (bZ q_) : w.heap.size ≤ gb406)); have GE406 := GW406; have NB404_406 := Q0.mk ((by rw [hg]; exact Nat.ne_of_lt (zj0 (g := gb404) (o := .cells #[.slice A0_0 l0_0.length c0_0] 29 (0, 0)) (by (with_reducible repeat (first | refine kN ?_ _ | refine kD ?_ | refine kA ?_ _)); exact BK404.out)) : gb404 ≠ gb406)); replace BK404 := Q0.mk (kB (g := gb404) (o := .cells #[.slice A0_0 l0_0.length c0_0] 29 (0, 0)) (by (with_reducible repeat (first | refine kN ?_ _ | refine kD ?_ | refine kA ?_ _)); exact BK404.out) hb); have NB406_404 := Q0.mk NB404_406.out.symm; have NB405_406 := Q0.mk ((by rw [hg]; exact Nat.ne_of_lt (zj0 (g := gb405) (o := .cells #[.slice A1_0 l1_0.length c1_0] 29 (0, 0)) (by (with_reducible repeat (first | refine kN ?_ _ | refine kD ?_ | refine kA ?_ _)); exact BK405.out)) : gb405 ≠ gb406)); replace BK405 := Q0.mk (kB (g := gb405) (o := .cells #[.slice A1_0 l1_0.length c1_0] 29 (0, 0)) (by (with_reducible repeat (first | refine kN ?_ _ | refine kD ?_ | refine kA ?_ _)); exact BK405.out) hb); have NB406_405 := Q0.mk NB405_406.out.symm; clear q_; clear hb hbox hg; have hnb20 := NB404_405.out; have hnc20 := NB405_404.out; have hnb21 := NB404_406.out; have hnc21 := NB406_404.out; have hcz22_0 : w19.cell? ⟨gb404, 0, none⟩ = some (.slice A0_0 l0_0.length c0_0) := (kC BK404.out 0).trans rfl; have hfz22_0 := kF BK404.out 0; have hnb23 := NB405_406.out; have hnc23 := NB406_405.out; have hcz24_0 : w19.cell? ⟨gb405, 0, none⟩ = some (.slice A1_0 l1_0.length c1_0) := (kC BK405.out 0).trans rfl; have hfz24_0 := kF BK405.out 0) | ((with_reducible refine gC (f := 36) rfl ?_); refine zx (some 11) rfl rfl Tryd.func36 (by kernel_rfl) rfl #[.agg #[.slice A0_0 l0_0.length c0_0], .agg #[.slice A1_0 l1_0.length c1_0]] rfl (by (try simp only [List.map_toArray, List.map_cons, List.map_nil]); first | done | rfl | (simp only [List.length_drop, List.length_take]; rfl)) ?_; (with_reducible refine (nat_Nat_Cmp.calls k _ _ l0_0 _ _ l1_0 t407 _ ?side1 ?side2 ?side3 ?side4 A3.out).mono ?_); (case side1 => repeat (first | exact (Kd.zu HR0_0.out HB.out) | (with_reducible refine Kd.ze ?_ _) | (with_reducible refine Kd.zf ?_ _) | (with_reducible refine Kd.zi ?_))); (case side2 => exact HC0_0.out); (case side3 => repeat (first | exact (Kd.zu HR1_0.out HB.out) | (with_reducible refine Kd.ze ?_ _) | (with_reducible refine Kd.zf ?_ _) | (with_reducible refine Kd.zi ?_))); (case side4 => exact HC1_0.out); rintro e w25 ⟨rfl, hb⟩; refine ⟨_, rfl, ?_⟩; replace BK404 := Q0.mk (kB (g := gb404) (o := .cells #[.slice A0_0 l0_0.length c0_0] 29 (0, 0)) (by (with_reducible repeat (first | refine kN ?_ _ | refine kD ?_ | refine kA ?_ _)); exact BK404.out) hb); replace BK405 := Q0.mk (kB (g := gb405) (o := .cells #[.slice A1_0 l1_0.length c1_0] 29 (0, 0)) (by (with_reducible repeat (first | refine kN ?_ _ | refine kD ?_ | refine kA ?_ _)); exact BK405.out) hb); replace BK406 := Q0.mk (kB (g := gb406) (o := .cells #[.slice none 0 0] 29 (0, 0)) (by (with_reducible repeat (first | refine kN ?_ _ | refine kD ?_ | refine kA ?_ _)); exact BK406.out) hb); replace HB := Q0.mk (bP (by repeat (first | (with_reducible first | exact HB.out | apply bA | apply bN | apply b1_ | refine bS ?_ GE404.out | refine bS ?_ GE405.out | refine bS ?_ GE406.out) | exact HB.out)) hb); (try clear hb); (try clear hb2); (try clear hk); (try clear hi); have hcz26_0 : w25.cell? ⟨gb404, 0, none⟩ = some (.slice A0_0 l0_0.length c0_0) := (kC BK404.out 0).trans rfl; have hfz26_0 := kF BK404.out 0) | ((with_reducible refine gD (N := 17) rfl ?_); refine Kd.zx2 (Kd.int .u64) _ 40 rfl (N := 17) rfl 22 _ _ rfl (l0_0.length : Int) rfl rfl Tryd.underlying22 (.int .u64 0) 8 zg2 rfl (by decide) (by omega) 0 (ok := fun _ => True) (okp := fun _ => True) rfl (fun _ hk => hk) trivial (of_decide_eq_true (by first | (with_reducible assumption) | assumption)) (Nat.le_trans (Nat.mul_le_mul_right _ (of_decide_eq_true (by first | (with_reducible assumption) | assumption) : (l0_0.length : Int).toNat ≤ 35184372088832)) (by omega)) (Below.refl _ _) (Nat.le_refl _) ?_; intro v409 w27 ho28 hb hg_ hnew_; clear hg_ hnew_; (first | rw [← Ny408.out] at ho28 | (simp only [Int.reduceToNat] at ho28; rw [← Ny408.out] at ho28)); have q_ := zm (w := w) hb (by repeat (first | (with_reducible first | exact HB.out | apply bA | apply bN | apply b1_ | refine bS ?_ GE404.out | refine bS ?_ GE405.out | refine bS ?_ GE406.out) | exact HB.out)); have HO410 := Q0.mk (Kd.zw0 (Kd.zs1 (M := fun k_ => (w.heap.size ≤ k_)) ho28 (bZ q_) (fun k_ h_ => h_)) (bZ q_)); replace BK404 := Q0.mk (kB (g := gb404) (o := .cells #[.slice A0_0 l0_0.length c0_0] 29 (0, 0)) (by (with_reducible repeat (first | refine kN ?_ _ | refine kD ?_ | refine kA ?_ _)); exact BK404.out) hb); replace BK405 := Q0.mk (kB (g := gb405) (o := .cells #[.slice A1_0 l1_0.length c1_0] 29 (0, 0)) (by (with_reducible repeat (first | refine kN ?_ _ | refine kD ?_ | refine kA ?_ _)); exact BK405.out) hb); replace BK406 := Q0.mk (kB (g := gb406) (o := .cells #[.slice none 0 0] 29 (0, 0)) (by (with_reducible repeat (first | refine kN ?_ _ | refine kD ?_ | refine kA ?_ _)); exact BK406.out) hb); replace HB := Q0.mk (bP q_ hb); clear q_; clear hb ho28; have hcz29_0 : w27.cell? ⟨gb404, 0, none⟩ = some (.slice A0_0 l0_0.length c0_0) := (kC BK404.out 0).trans rfl; have hfz29_0 := kF BK404.out 0))
    go_loopg [7, 21] k (fun kq v7 v21 w' => ∃ (x6_1 : List Int) (x7_1 : Int) (x21_1 : Int), v7 = .int .u64 x7_1 ∧ v21 = .int .i64 x21_1 ∧ Q0 (nat_Nat_Sub.l0 kq x6_1 x7_1 (l0_0.length : Int) x21_1 l0_0 l1_0 = some (r1, r2)) ∧ Q0 (kq ≤ k) ∧ Q0 (Kd.R (Kd.int .u64) 40 w' w.heap.size (fun k_ => (w.heap.size ≤ k_)) v409 x6_1) ∧ Q0 (w'.heap[gb404]? = some (.cells #[(.slice A0_0 l0_0.length c0_0)] 29 (0, 0))) ∧ Q0 (w'.heap[gb405]? = some (.cells #[(.slice A1_0 l1_0.length c1_0)] 29 (0, 0))) ∧ Q0 (w'.heap[gb406]? = some (.cells #[(.slice none 0 0)] 29 (0, 0))) ∧ Q0 (Below w.heap.size w w'))
    case atStart => exact ⟨(y408), (0), (0), (by first | rfl | (simp; done) | (simp [*]; done)), (by first | rfl | (simp; done) | (simp [*]; done)), H', ⟨Nat.le_refl _⟩, ⟨by (with_reducible repeat (first | apply Kd.RA_ | apply Kd.RN_ | apply Kd.RD_)); exact Kd.zb1 HO410.out (fun _ hk => hk.1)⟩, ⟨by (with_reducible repeat (first | refine kN ?_ _ | refine kD ?_ | refine kA ?_ _)); exact BK404.out⟩, ⟨by (with_reducible repeat (first | refine kN ?_ _ | refine kD ?_ | refine kA ?_ _)); exact BK405.out⟩, ⟨by (with_reducible repeat (first | refine kN ?_ _ | refine kD ?_ | refine kA ?_ _)); exact BK406.out⟩, ⟨by repeat (first | (with_reducible first | exact HB.out | apply bA | apply bN | apply b1_ | refine bS ?_ GE404.out | refine bS ?_ GE405.out | refine bS ?_ GE406.out) | exact HB.out)⟩⟩
    case round =>
     clear H'
     obtain ⟨x6_1, x7_1, x21_1, rfl, rfl, HA, HK1, HO_6, BK404, BK405, BK406, HB⟩ := hrel
     cases gk with
     | zero => exact absurd HA.out (by simp [nat_Nat_Sub.l0])
     | succ k1 =>
      have H := HA.out
      clear HA
      simp only [nat_Nat_Sub.l0] at H
      by_cases c30 : x21_1 < (l0_0.length : Int)
      ·rw [if_pos c30] at H
       have c30b0 : decide (x21_1 < (l0_0.length : Int)) = true := decide_eq_true c30
       clear c30
       by_cases c31 : 0 ≤ x21_1
       ·rw [if_pos c31] at H
        have c31b0 : decide (0 ≤ x21_1) = true := decide_eq_true c31
        clear c31
        by_cases c32 : x21_1 < (l0_0.length : Int)
        ·rw [if_pos c32] at H
         have c32b0 : decide (x21_1 < (l0_0.length : Int)) = true := decide_eq_true c32
         clear c32
         replace H := Option.bind_eq_some_iff.mp H
         obtain ⟨t412, A330, H⟩ := H
         have A33 := Q0.mk A330
         clear A330
         replace H := Option.bind_eq_some_iff.mp H
         obtain ⟨⟨t413, t414⟩, A340, H⟩ := H
         have A34 := Q0.mk A340
         clear A340
         by_cases c35 : x21_1 < (x6_1.length : Int)
         ·rw [if_pos c35] at H
          have c35b0 : decide (x21_1 < (x6_1.length : Int)) = true := decide_eq_true c35
          clear c35
          obtain ⟨y415, hy415⟩ : ∃ y_ : List Int, y_ = (x6_1.set (x21_1 : Int).toNat t413) := ⟨_, rfl⟩
          rw [← hy415] at H
          have Ny415 := Q0.mk hy415
          clear hy415
          have H' := Q0.mk H
          clear H
          try go_wp2
          have n0_ := Q0.mk (Kd.RD_ HO_6.out)
          have n1_ := Q0.mk (kD BK404.out)
          have n2_ := Q0.mk (kD BK405.out)
          have n3_ := Q0.mk (kD BK406.out)
          have n4_ := Q0.mk (b1_ HB.out)
          clear HO_6
          clear BK404
          clear BK405
          clear BK406
          clear HB
          have HO_6 := n0_
          have BK404 := n1_
          have BK405 := n2_
          have BK406 := n3_
          have HB := n4_
          clear n0_ n1_ n2_ n3_ n4_
          have p411 : 0 ≤ (x21_1 : Int) := of_decide_eq_true (by first | (with_reducible assumption) | assumption)
          have q411 : x21_1 < (l0_0.length : Int) := of_decide_eq_true (by first | (with_reducible assumption) | assumption)
          obtain ⟨ad411, e411, hx411_0⟩ := Kd.zk HR0_0.out x21_1 p411 q411
          have hw411_0 := hx411_0
          cases e411
          replace hx411_0 := (HB.out.cell (World.block_lt_of_cell? w _ hx411_0)).trans hx411_0
          replace p411 := eq_true p411
          replace q411 := eq_true q411
          refine zt0 (n := 18) (S := fun w' => w'.cell? ⟨gb404, 0, none⟩ = some (.slice (some ad411) l0_0.length c0_0) ∧ w'.cell? ⟨gb405, 0, none⟩ = some (.slice A1_0 l1_0.length c1_0) ∧ w'.cell? (ad411.add (x21_1).toNat) = some (.int .u64 (rd l0_0 x21_1))) (ds := [16]) #[ff,ff,ff,ff,ff,ff,ff,ff,ff,ff,ff,ff,ff,ff,ff,ff,ff,ff] (by kernel_rfl) rfl rfl ⟨(kC BK404.out 0).trans rfl, (kC BK405.out 0).trans rfl, ((HB.out.cell (World.block_lt_of_cell? w _ hw411_0)).trans hw411_0)⟩ (fun hHeld => ?_); refine z02 nat_Nat_Sub.tab8 nat_Nat_Sub.bits8 (fun HT_ HW_ => ?_)
          generalize wr.drew = w37 at HO_6 BK404 BK405 BK406 HB hx411_0 hHeld ⊢
          refine za 0 25 ?_ #[tt,ff,ff,ff,ff,ff,ff,ff,ff,ff,ff,ff,ff,ff,ff,ff,ff,ff] rfl rfl (zb HT_.out (by kernel_rfl)) (fun _ _ _ h => h) (Or.inl ⟨by rfl, ?_⟩) ?_ ?_ ?_
          rotate_left
          ·intro w'
           go_simp
           with_reducible rfl
          rotate_left
          ·simp only [Act.put, s2_, s0_, s1_, iw, jw]
           rfl
          refine za 1 26 ?_ #[tt,tt,ff,ff,ff,ff,ff,ff,ff,ff,ff,ff,ff,ff,ff,ff,ff,ff] rfl rfl (zb HT_.out (by kernel_rfl)) (fun _ _ _ h => h) (Or.inl ⟨by rfl, ?_⟩) ?_ ?_ ?_
          rotate_left
          ·intro w'
           go_simp
           with_reducible rfl
          rotate_left
          ·simp only [Act.put, s2_, s0_, s1_, iw, jw]
           rfl
          refine za 2 27 ?_ #[tt,tt,tt,ff,ff,ff,ff,ff,ff,ff,ff,ff,ff,ff,ff,ff,ff,ff] rfl rfl (zb HT_.out (by kernel_rfl)) (fun _ _ _ h => h) (Or.inl ⟨by rfl, ?_⟩) ?_ ?_ ?_
          rotate_left
          ·intro w'
           go_simp
           with_reducible rfl
          rotate_left
          ·simp only [Act.put, s2_, s0_, s1_, iw, jw]
           rfl
          refine za 4 29 ?_ #[tt,tt,tt,ff,tt,ff,ff,ff,ff,ff,ff,ff,ff,ff,ff,ff,ff,ff] rfl rfl (zb HT_.out (by kernel_rfl)) (fun _ _ _ h => h) (Or.inl ⟨by rfl, ?_⟩) ?_ ?_ ?_
          rotate_left
          ·intro w'
           go_simp
           with_reducible rfl
          rotate_left
          ·simp only [Act.put, s2_, s0_, s1_, iw, jw]
           rfl
          refine za 8 33 ?_ #[tt,tt,tt,ff,tt,ff,ff,ff,tt,ff,ff,ff,ff,ff,ff,ff,ff,ff] rfl rfl (zb HT_.out (by kernel_rfl)) (fun _ _ _ h => h) (Or.inl ⟨by rfl, ?_⟩) ?_ ?_ ?_
          rotate_left
          ·intro w'
           go_simp
           with_reducible rfl
          rotate_left
          ·simp only [Act.put, s2_, s0_, s1_, iw, jw]
           rfl
          refine za 10 35 ?_ #[tt,tt,tt,ff,tt,ff,ff,ff,tt,ff,tt,ff,ff,ff,ff,ff,ff,ff] rfl rfl (zb HT_.out (by kernel_rfl)) (fun _ _ _ h => h) (Or.inl ⟨by rfl, ?_⟩) ?_ ?_ ?_
          rotate_left
          ·intro w'
           go_simp
           with_reducible rfl
          rotate_left
          ·simp only [Act.put, s2_, s0_, s1_, iw, jw]
           rfl
          refine z10 3 28 ?_ #[tt,tt,tt,tt,tt,ff,ff,ff,tt,ff,tt,ff,ff,ff,ff,ff,ff,ff] rfl rfl (zp0 HT_.out HW_.out (by kernel_rfl)) (fun _ _ _ h => h) (Or.inl ⟨by rfl, ?_⟩) hHeld ?_ ?_ ?_
          rotate_left
          ·rintro w' ⟨s0, s1, s2⟩
           go_simp
           with_reducible rfl
          rotate_left
          ·simp only [Act.put, s2_, s0_, s1_, iw, jw]
           rfl
          refine za 5 30 ?_ #[tt,tt,tt,tt,tt,tt,ff,ff,tt,ff,tt,ff,ff,ff,ff,ff,ff,ff] rfl rfl (zb HT_.out (by kernel_rfl)) (fun _ _ _ h => h) (Or.inl ⟨by rfl, ?_⟩) ?_ ?_ ?_
          rotate_left
          ·intro w'
           go_simp
           with_reducible rfl
          rotate_left
          ·simp only [Act.put, s2_, s0_, s1_, iw, jw]
           rfl
          refine z10 6 31 ?_ #[tt,tt,tt,tt,tt,tt,tt,ff,tt,ff,tt,ff,ff,ff,ff,ff,ff,ff] rfl rfl (zp0 HT_.out HW_.out (by kernel_rfl)) (fun _ _ _ h => h) (Or.inl ⟨by rfl, ?_⟩) hHeld ?_ ?_ ?_
          rotate_left
          ·rintro w' ⟨s0, s1, s2⟩
           go_simp
           with_reducible rfl
          rotate_left
          ·simp only [Act.put, s2_, s0_, s1_, iw, jw]
           rfl
          refine z10 7 32 ?_ #[tt,tt,tt,tt,tt,tt,tt,tt,tt,ff,tt,ff,ff,ff,ff,ff,ff,ff] rfl rfl (zp0 HT_.out HW_.out (by kernel_rfl)) (fun _ _ _ h => h) (Or.inl ⟨by rfl, ?_⟩) hHeld ?_ ?_ ?_
          rotate_left
          ·rintro w' ⟨s0, s1, s2⟩
           go_simp
           with_reducible rfl
          rotate_left
          ·simp only [Act.put, s2_, s0_, s1_, iw, jw]
           rfl
          refine zh0 (i := 9) (N := some 34) #[tt,tt,tt,tt,tt,tt,tt,tt,tt,tt,tt,ff,ff,ff,ff,ff,ff,ff] rfl rfl (zb2 HT_.out (by kernel_rfl)) (by decide) (fun K hK => ?_)
          refine z00 Tryd.func80 (by kernel_rfl) rfl #[.agg #[.slice A1_0 l1_0.length c1_0], .int .i64 x21_1] (by rfl) rfl rfl (by (try simp only [List.map_toArray, List.map_cons, List.map_nil]); first | done | rfl | (simp only [List.length_drop, List.length_take]; rfl)) ?_
          with_reducible refine (nat_Nat_word.calls _ _ l1_0 x21_1 t412 _ ?side1 ?side2 A33.out).mono ?_
          (case side1 => repeat (first | exact (Kd.zu HR1_0.out HB.out) | (with_reducible refine Kd.ze ?_ _) | (with_reducible refine Kd.zf ?_ _) | (with_reducible refine Kd.zi ?_)))
          (case side2 => exact HC1_0.out)
          rintro e w38 ⟨rfl, hb⟩
          refine ⟨_, rfl, ?_⟩
          have n0_ := Q0.mk (Kd.zy (by (with_reducible repeat (first | apply Kd.RA_ | apply Kd.RN_ | apply Kd.RD_)); exact HO_6.out) hb)
          have n1_ := Q0.mk (kB (g := gb404) (o := .cells #[.slice (some ad411) l0_0.length c0_0] 29 (0, 0)) (by (with_reducible repeat (first | refine kN ?_ _ | refine kD ?_ | refine kA ?_ _)); exact BK404.out) hb)
          have n2_ := Q0.mk (kB (g := gb405) (o := .cells #[.slice A1_0 l1_0.length c1_0] 29 (0, 0)) (by (with_reducible repeat (first | refine kN ?_ _ | refine kD ?_ | refine kA ?_ _)); exact BK405.out) hb)
          have n3_ := Q0.mk (kB (g := gb406) (o := .cells #[.slice none 0 0] 29 (0, 0)) (by (with_reducible repeat (first | refine kN ?_ _ | refine kD ?_ | refine kA ?_ _)); exact BK406.out) hb)
          have n4_ := Q0.mk (bP (by repeat (first | (with_reducible first | exact HB.out | apply bA | apply bN | apply b1_ | refine bS ?_ GE404.out | refine bS ?_ GE405.out | refine bS ?_ GE406.out) | exact HB.out)) hb)
          clear HO_6
          clear BK404
          clear BK405
          clear BK406
          clear HB
          have HO_6 := n0_
          have BK404 := n1_
          have BK405 := n2_
          have BK406 := n3_
          have HB := n4_
          clear n0_ n1_ n2_ n3_ n4_
          (try clear hb)
          (try clear hb2)
          (try clear hk)
          (try clear hi)
          refine hK.out _ _ ⟨(kC BK404.out 0).trans rfl, (kC BK405.out 0).trans rfl, ((HB.out.cell (World.block_lt_of_cell? w _ hw411_0)).trans hw411_0)⟩ (fun hHeld => ?_)
          clear hK K
          refine zg (a' := ?_) ?_ ?_
          rotate_left
          ·show Act.put _ (some 34) _ = _
           simp only [Act.put, s2_, s0_, s1_, iw, jw]
           rfl
          refine zh0 (i := 11) (N := some 36) #[tt,tt,tt,tt,tt,tt,tt,tt,tt,tt,tt,tt,ff,ff,ff,ff,ff,ff] rfl rfl (zb2 HT_.out (by kernel_rfl)) (by decide) (fun K hK => ?_)
          refine runs_ #[.int .u64 (rd l0_0 x21_1), .int .u64 t412, .int .u64 x7_1] (by rfl) rfl rfl (by (try simp only [List.map_toArray, List.map_cons, List.map_nil]); first | done | rfl | (simp only [List.length_drop, List.length_take]; rfl)) (bits_Sub64.run (rd l0_0 x21_1) t412 x7_1 t413 t414 A34.out _) ?_
          have p36 : 0 ≤ (x21_1 : Int) := of_decide_eq_true (by first | (with_reducible assumption) | assumption)
          have q36 : (x21_1 : Int) < ((x6_1.length : Int) : Int) := of_decide_eq_true (by first | (with_reducible assumption) | assumption)
          obtain ⟨go36, co36, eo36, gb36, gl36, cl36, HG36⟩ := Kd.zi2 HO_6.out (by omega)
          (first | cases eo36 | (injection eo36 with ea_ en_ ec_; (first | subst ea_ | (injection ea_ with ea_; subst ea_)); subst ec_; clear en_))
          have GB36 := Q0.mk gb36
          have GG36 := Q0.mk HG36
          clear gb36 gl36 HG36
          obtain ⟨hx36_0, hf36_0⟩ := Kd.z81 0 HO_6.out (x21_1 : Int) p36 q36
          replace p36 := eq_true p36
          replace q36 := eq_true q36
          have HP39 := Kd.R_putn HO_6.out (x21_1 : Int) t413
          rw [← Ny415.out] at HP39
          have HQ39 := Q0.mk HP39
          clear HP39
          refine hK.out _ _ ⟨(kC BK404.out 0).trans rfl, (kC BK405.out 0).trans rfl, ((HB.out.cell (World.block_lt_of_cell? w _ hw411_0)).trans hw411_0)⟩ (fun hHeld => ?_)
          clear hK K
          refine zg (a' := ?_) ?_ ?_
          rotate_left
          ·show Act.put _ (some 36) _ = _
           simp only [Act.put, s2_, s0_, s1_, iw, jw]
           rfl
          refine za 12 24 ?_ #[tt,tt,tt,tt,tt,tt,tt,tt,tt,tt,tt,tt,tt,ff,ff,ff,ff,ff] rfl rfl (zb HT_.out (by kernel_rfl)) (fun _ _ _ h => h) (Or.inl ⟨by rfl, ?_⟩) ?_ ?_ ?_
          rotate_left
          ·intro w'
           go_simp
           with_reducible rfl
          rotate_left
          ·simp only [Act.put, s2_, s0_, s1_, iw, jw]
           rfl
          refine za 13 37 ?_ #[tt,tt,tt,tt,tt,tt,tt,tt,tt,tt,tt,tt,tt,tt,ff,ff,ff,ff] rfl rfl (zb HT_.out (by kernel_rfl)) (fun _ _ _ h => h) (Or.inl ⟨by rfl, ?_⟩) ?_ ?_ ?_
          rotate_left
          ·intro w'
           go_simp
           with_reducible rfl
          rotate_left
          ·simp only [Act.put, s2_, s0_, s1_, iw, jw]
           rfl
          refine za 14 38 ?_ #[tt,tt,tt,tt,tt,tt,tt,tt,tt,tt,tt,tt,tt,tt,tt,ff,ff,ff] rfl rfl (zb HT_.out (by kernel_rfl)) (fun _ _ _ h => h) (Or.inl ⟨by rfl, ?_⟩) ?_ ?_ ?_
          rotate_left
          ·intro w'
           go_simp
           with_reducible rfl
          rotate_left
          ·simp only [Act.put, s2_, s0_, s1_, iw, jw]
           rfl
          refine za 15 39 ?_ #[tt,tt,tt,tt,tt,tt,tt,tt,tt,tt,tt,tt,tt,tt,tt,tt,ff,ff] rfl rfl (zb HT_.out (by kernel_rfl)) (fun _ _ _ h => h) (Or.inl ⟨by rfl, ?_⟩) ?_ ?_ ?_
          rotate_left
          ·intro w'
           go_simp
           with_reducible rfl
          rotate_left
          ·simp only [Act.put, s2_, s0_, s1_, iw, jw]
           rfl
          refine zk3 (i := 16) (N := none) #[tt,tt,tt,tt,tt,tt,tt,tt,tt,tt,tt,tt,tt,tt,tt,tt,tt,ff] rfl rfl (zb2 HT_.out (by kernel_rfl)) (by decide) (fun K hK => ?_)
          refine zw1 (w1 := ?_) (by rfl) rfl ?_ ?_
          rotate_left
          ·go_simp
           rfl
          refine hK.out _ _ ?_
          clear hK K
          refine za 17 7 ?_ #[tt,tt,tt,tt,tt,tt,tt,tt,tt,tt,tt,tt,tt,tt,tt,tt,tt,tt] rfl rfl (zb HT_.out (by kernel_rfl)) (fun _ _ _ h => h) (Or.inl ⟨by rfl, ?_⟩) ?_ ?_ ?_
          rotate_left
          ·intro w'
           go_simp
           with_reducible rfl
          rotate_left
          ·simp only [Act.put, s2_, s0_, s1_, iw, jw]
           rfl
          refine zh1 (z03 HT_.out (by kernel_rfl)) ?_
          try go_wp2
          go_roundg k1
          case measure => have := HK1.out; omega
          case rel => exact ⟨(y415), (t414), (wrap64 (x21_1 + 1)), (by first | rfl | (simp; done) | (simp [*]; done)), (by first | rfl | (simp; done) | (simp [*]; done)), H', ⟨by have := HK1.out; omega⟩, ⟨by (with_reducible repeat (first | apply Kd.RA_ | apply Kd.RN_ | apply Kd.RD_)); exact HQ39.out⟩, ⟨by (with_reducible repeat (first | refine kN ?_ _ | refine kD ?_ | refine kA ?_ _)); refine zr0 ?_ (by have h_ := Kd.zp2 HO_6.out BK404.out (by decide); intro e_; exact h_ (by rw [e_]; rfl)) _; (with_reducible repeat (first | refine kN ?_ _ | refine kD ?_ | refine kA ?_ _)); exact BK404.out⟩, ⟨by (with_reducible repeat (first | refine kN ?_ _ | refine kD ?_ | refine kA ?_ _)); refine zr0 ?_ (by have h_ := Kd.zp2 HO_6.out BK405.out (by decide); intro e_; exact h_ (by rw [e_]; rfl)) _; (with_reducible repeat (first | refine kN ?_ _ | refine kD ?_ | refine kA ?_ _)); exact BK405.out⟩, ⟨by (with_reducible repeat (first | refine kN ?_ _ | refine kD ?_ | refine kA ?_ _)); refine zr0 ?_ (by have h_ := Kd.zp2 HO_6.out BK406.out (by decide); intro e_; exact h_ (by rw [e_]; rfl)) _; (with_reducible repeat (first | refine kN ?_ _ | refine kD ?_ | refine kA ?_ _)); exact BK406.out⟩, ⟨by repeat (first | (with_reducible first | exact HB.out | apply bA | apply bN | apply b1_ | refine bS ?_ GB36.out | refine bS ?_ GE404.out | refine bS ?_ GE405.out | refine bS ?_ GE406.out) | exact HB.out)⟩⟩
         ·rw [if_neg c35] at H
          exact absurd H (by simp)
        ·rw [if_neg c32] at H
         exact absurd H (by simp)
       ·rw [if_neg c31] at H
        exact absurd H (by simp)
      ·rw [if_neg c30] at H
       have c30b0 : decide (x21_1 < (l0_0.length : Int)) = false := decide_eq_false c30
       clear c30
       replace H := Option.bind_eq_some_iff.mp H
       obtain ⟨t416, A400, H⟩ := H
       have A40 := Q0.mk A400
       clear A400
       simp only [Option.some.injEq, Prod.mk.injEq] at H
       obtain ⟨rfl, rfl⟩ := H
       obtain ⟨Ao41, co41, eo41⟩ := Kd.zl0 HO_6.out
       subst eo41
       go_wp2_with (first | ((with_reducible refine gC (f := 68) rfl ?_); refine zx (some 42) rfl rfl Tryd.func68 (by kernel_rfl) rfl #[.slice Ao41 x6_1.length co41] rfl (by (try simp only [List.map_toArray, List.map_cons, List.map_nil]); first | done | rfl | (simp only [List.length_drop, List.length_take]; rfl)) ?_; (with_reducible refine (nat_norm.calls k1 (fun k_ => some k_ = (.slice Ao41 x6_1.length co41 : Value).ownBlock) _ _ x6_1 t416 _ ?side1 A40.out).mono ?_); (case side1 => exact Kd.R_V (Kd.z11 rfl (Kd.RT_ (Kd.RT_ (Kd.RT_ (HO_6.out) BK404.out (by decide)) BK405.out (by decide)) BK406.out (by decide)))); rintro e w42 ⟨v417, rfl, ho0, hb⟩; refine ⟨_, rfl, ?_⟩; have q_ := zm (w := w) hb (by repeat (first | (with_reducible first | exact HB.out | apply bA | apply bN | apply b1_ | refine bS ?_ GE404.out | refine bS ?_ GE405.out | refine bS ?_ GE406.out) | exact HB.out)); have HO418 := Q0.mk (Kd.za0 (Kd.VM_ (ok' := fun k_ => (w.heap.size ≤ k_) ∧ k_ ≠ gb404 ∧ k_ ≠ gb405 ∧ k_ ≠ gb406) ho0 (fun k_ hk_ => ⟨Or.elim hk_ (fun hs_ => ((Kd.RT_ (Kd.RT_ (Kd.RT_ (HO_6.out) BK404.out (by decide)) BK405.out (by decide)) BK406.out (by decide)).1 k_ hs_.symm).1.1.1) (fun hn_ => (Nat.le_trans (bZ q_) hn_)), Or.elim hk_ (fun hs_ => ((Kd.RT_ (Kd.RT_ (Kd.RT_ (HO_6.out) BK404.out (by decide)) BK405.out (by decide)) BK406.out (by decide)).1 k_ hs_.symm).1.1.2) (fun hn_ => (Kd.zm0 (g := gb404) (o := .cells #[.slice A0_0 l0_0.length c0_0] 29 (0, 0)) (by (with_reducible repeat (first | refine kN ?_ _ | refine kD ?_ | refine kA ?_ _)); exact BK404.out) k_ hn_)), Or.elim hk_ (fun hs_ => ((Kd.RT_ (Kd.RT_ (Kd.RT_ (HO_6.out) BK404.out (by decide)) BK405.out (by decide)) BK406.out (by decide)).1 k_ hs_.symm).1.2) (fun hn_ => (Kd.zm0 (g := gb405) (o := .cells #[.slice A1_0 l1_0.length c1_0] 29 (0, 0)) (by (with_reducible repeat (first | refine kN ?_ _ | refine kD ?_ | refine kA ?_ _)); exact BK405.out) k_ hn_)), Or.elim hk_ (fun hs_ => ((Kd.RT_ (Kd.RT_ (Kd.RT_ (HO_6.out) BK404.out (by decide)) BK405.out (by decide)) BK406.out (by decide)).1 k_ hs_.symm).2) (fun hn_ => (Kd.zm0 (g := gb406) (o := .cells #[.slice none 0 0] 29 (0, 0)) (by (with_reducible repeat (first | refine kN ?_ _ | refine kD ?_ | refine kA ?_ _)); exact BK406.out) k_ hn_))⟩)) (bZ q_)); replace HO_6 := Q0.mk (Kd.zy (by (with_reducible repeat (first | apply Kd.RA_ | apply Kd.RN_ | apply Kd.RD_)); exact HO_6.out) hb); replace BK404 := Q0.mk (kB (g := gb404) (o := .cells #[.slice A0_0 l0_0.length c0_0] 29 (0, 0)) (by (with_reducible repeat (first | refine kN ?_ _ | refine kD ?_ | refine kA ?_ _)); exact BK404.out) hb); replace BK405 := Q0.mk (kB (g := gb405) (o := .cells #[.slice A1_0 l1_0.length c1_0] 29 (0, 0)) (by (with_reducible repeat (first | refine kN ?_ _ | refine kD ?_ | refine kA ?_ _)); exact BK405.out) hb); replace BK406 := Q0.mk (kB (g := gb406) (o := .cells #[.slice none 0 0] 29 (0, 0)) (by (with_reducible repeat (first | refine kN ?_ _ | refine kD ?_ | refine kA ?_ _)); exact BK406.out) hb); replace HB := Q0.mk (bP q_ hb); clear q_; (try clear hb); (try clear hb2); (try clear hk); (try clear hi); (try clear ho0); obtain ⟨Ao43, co43, eo43⟩ := Kd.zo HO418.out; subst eo43; have hnb44 := NB406_404.out; have hnc44 := NB404_406.out; have hnb45 := NB406_405.out; have hnc45 := NB405_406.out; have hcz46_0 : w42.cell? ⟨gb406, 0, none⟩ = some (.slice none 0 0) := (kC BK406.out 0).trans rfl; have hfz46_0 := kF BK406.out 0))
       refine bodyPost_ret (zg1 rfl _ _ gb406 29 #[.slice Ao43 t416.length co43] (0, 0) _ rfl (by (with_reducible repeat (first | refine kN ?_ _ | refine kD ?_ | refine kA ?_ _)); refine zc0 (cs := #[.slice none 0 0]) ?_ 0 _ rfl; (with_reducible repeat (first | refine kN ?_ _ | refine kD ?_ | refine kA ?_ _)); exact BK406.out) Tryd.underlying29 rfl (by kernel_rfl)) rfl ?_
       exact ⟨_, by first | rfl | (simp [eN, eS] <;> rfl) | (simp [*, eN, eS] <;> rfl), by (with_reducible repeat (first | apply Kd.VA_ | apply Kd.VN_ | apply Kd.VD_)); exact Kd.VM_ (Kd.zn1 (p := ⟨gb406, 0, none⟩) (Kd.VM_ HO418.out (fun k_ hk => (⟨hk, hk.2.2.2⟩ : _ ∧ k_ ≠ gb406))) (fun _ hk => hk.2) (.slice Ao43 t416.length co43)) (fun _ hk => hk.1.1), by repeat (first | (with_reducible first | exact HB.out | apply bA | apply bN | apply b1_ | refine bS ?_ GE404.out | refine bS ?_ GE405.out | refine bS ?_ GE406.out) | exact HB.out)⟩
   ·rw [if_neg c16] at H
    exact absurd H (by simp)
  ·rw [if_neg c15] at H
   exact absurd H (by simp)
mutual
def chaffref01_Add.l0 : Nat → List Int → List Int → List Int → Int → Int → Option (List Int)
 | 0, _, _, _, _, _ => none
 | k + 1, x0, x1, x5, x6, x7 => if x7 < (x0.length : Int) then (chaffref01_Add.j1 k x0 x1 x5 x6 x7 true) else (if x7 < (x1.length : Int) then (chaffref01_Add.j1 k x0 x1 x5 x6 x7 true) else (chaffref01_Add.j1 k x0 x1 x5 x6 x7 (decide (x6 > 0))))
def chaffref01_Add.j1 : Nat → List Int → List Int → List Int → Int → Int → Bool → Option (List Int)
 | 0, _, _, _, _, _, _ => none
 | k + 1, x0, x1, x5, x6, x7, x22 => if x22 = true then ((chaffref01_at.f x0 x7).bind fun t248 => ((chaffref01_at.f x1 x7).bind fun t249 => (if x5.length < 17592186044416 then (chaffref01_Add.l0 k x0 x1 (x5 ++ [Int.tmod (wrap64 ((wrap64 (t248 + t249)) + x6)) 65536]) (wrap64 (Int.tdiv (wrap64 ((wrap64 (t248 + t249)) + x6)) 65536)) (wrap64 (x7 + 1))) else (none)))) else ((chaffref01_trim.f k x5).bind fun t253 => (some t253))
end
def chaffref01_Add.f (k : Nat) (l0 : List Int) (l1 : List Int) : Option (List Int) := chaffref01_Add.l0 k l0 l1 ([] : List Int) 0 0
theorem chaffref01_Add.calls (k : Nat) (A0 : Option Addr) (c0 : Nat) (l0 : List Int) (A1 : Option Addr) (c1 : Nat) (l1 : List Int) (r : List Int) (w : World) (hr0 : Kd.C (Kd.int .i64) w A0 l0.length l0) (hc0 : l0.length ≤ c0) (hr1 : Kd.C (Kd.int .i64) w A1 l1.length l1) (hc1 : l1.length ≤ c1) (h : chaffref01_Add.f k l0 l1 = some r) :
  Calls Tryd.prog 34 #[.slice A0 l0.length c0, .slice A1 l1.length c1] w fun e w' => ∃ v0_ : Value, e = .returned (v0_) ∧ Kd.V (Kd.int .i64) 3 w' w.heap.size (fun k_ => (w.heap.size ≤ k_)) v0_ r ∧ Below w.heap.size w w' := by
 have HR0 := Q0.mk hr0
 have HC0 := Q0.mk hc0
 clear hr0 hc0
 have HR1 := Q0.mk hr1
 have HC1 := Q0.mk hc1
 clear hr1 hc1
 have HB := Q0.mk (Below.refl w.heap.size w)
 have H : (chaffref01_Add.l0 k l0 l1 ([] : List Int) 0 0) = some r := h
 clear h
 have H' := Q0.mk H
 clear H
 go_enter Tryd.func34, Tryd.ntmps34
 go_wp2
 go_loopg [5, 6, 7] k (fun kq v5 v6 v7 w' => ∃ (x5_1 : List Int) (x6_1 : Int) (x7_1 : Int), v6 = .int .i64 x6_1 ∧ v7 = .int .i64 x7_1 ∧ Q0 (chaffref01_Add.l0 kq l0 l1 x5_1 x6_1 x7_1 = some r) ∧ Q0 (kq ≤ k) ∧ Q0 (Kd.R (Kd.int .i64) 3 w' w.heap.size (fun k_ => (w.heap.size ≤ k_)) v5 x5_1) ∧ Q0 (Below w.heap.size w w'))
 case atStart => exact ⟨(([] : List Int)), (0), (0), (by first | rfl | (simp; done) | (simp [*]; done)), (by first | rfl | (simp; done) | (simp [*]; done)), H', ⟨Nat.le_refl _⟩, ⟨by first | exact Kd.zj1 _ _ _ _ _ | exact Kd.N_nil _ _ _ _ _ | exact Kd.zg3 _ _ _ _ _ | exact Kd.Q_nil _ _ _ _ _ | exact Kd.S_nil _ _ _ _ _⟩, ⟨by repeat (first | (with_reducible first | exact HB.out | apply bA | apply bN | apply b1_) | exact HB.out)⟩⟩
 case round =>
  clear H'
  try clear c1
  try clear p2
  obtain ⟨x5_1, x6_1, x7_1, rfl, rfl, HA, HK1, HO_5, HB⟩ := hrel
  cases gk with
  | zero => exact absurd HA.out (by simp [chaffref01_Add.l0])
  | succ k1 =>
   have H := HA.out
   clear HA
   simp only [chaffref01_Add.l0] at H
   have HC3 := Q0.mk H
   clear H
   go_upto_region 4 with (fail)
   go_cut [22] (fun v22 wc => ∃ (kq : Nat) (x22_2 : Bool), v22 = .bool x22_2 ∧ Q0 (chaffref01_Add.j1 kq l0 l1 x5_1 x6_1 x7_1 x22_2 = some r) ∧ Q0 (kq ≤ k1) ∧ Q0 (Kd.R (Kd.int .i64) 3 wc w.heap.size (fun k_ => (w.heap.size ≤ k_)) u5 x5_1) ∧ Q0 (Below w.heap.size w wc))
   case first =>
    have H := HC3.out
    clear HC3
    by_cases c4 : x7_1 < (l0.length : Int)
    ·rw [if_pos c4] at H
     have c4b0 : decide (x7_1 < (l0.length : Int)) = true := decide_eq_true c4
     clear c4
     (first | rw [c4b0] | (simp only [iw, jw]; rw [c4b0]) | skip)
     have H' := Q0.mk H
     clear H
     go_wp2
     go_meet
     case rel => exact ⟨_, (true), (by first | rfl | (simp; done) | (simp [*]; done)), H', ⟨by have := HK1.out; first | omega | exact Nat.le_refl _⟩, ⟨by (with_reducible repeat (first | apply Kd.RA_ | apply Kd.RN_ | apply Kd.RD_)); exact HO_5.out⟩, ⟨by repeat (first | (with_reducible first | exact HB.out | apply bA | apply bN | apply b1_) | exact HB.out)⟩⟩
    ·rw [if_neg c4] at H
     have c4b0 : decide (x7_1 < (l0.length : Int)) = false := decide_eq_false c4
     clear c4
     (first | rw [c4b0] | (simp only [iw, jw]; rw [c4b0]) | skip)
     by_cases c5 : x7_1 < (l1.length : Int)
     ·rw [if_pos c5] at H
      have c5b0 : decide (x7_1 < (l1.length : Int)) = true := decide_eq_true c5
      clear c5
      have H' := Q0.mk H
      clear H
      go_wp2
      go_meet
      case rel => exact ⟨_, (true), (by first | rfl | (simp; done) | (simp [*]; done)), H', ⟨by have := HK1.out; first | omega | exact Nat.le_refl _⟩, ⟨by (with_reducible repeat (first | apply Kd.RA_ | apply Kd.RN_ | apply Kd.RD_)); exact HO_5.out⟩, ⟨by repeat (first | (with_reducible first | exact HB.out | apply bA | apply bN | apply b1_) | exact HB.out)⟩⟩
     ·rw [if_neg c5] at H
      have c5b0 : decide (x7_1 < (l1.length : Int)) = false := decide_eq_false c5
      clear c5
      have H' := Q0.mk H
      clear H
      go_wp2
      go_meet
      case rel => exact ⟨_, (decide (x6_1 > 0)), (by first | rfl | (simp; done) | (simp [*]; done)), H', ⟨by have := HK1.out; first | omega | exact Nat.le_refl _⟩, ⟨by (with_reducible repeat (first | apply Kd.RA_ | apply Kd.RN_ | apply Kd.RD_)); exact HO_5.out⟩, ⟨by repeat (first | (with_reducible first | exact HB.out | apply bA | apply bN | apply b1_) | exact HB.out)⟩⟩
   case rest =>
    clear HC3
    try clear c1
    try clear p2
    try clear c3
    try clear c4
    try clear c4b0
    try clear c5
    try clear c5b0
    try clear p2
    obtain ⟨kq, x22_2, rfl, HA, HJ2, HO_5, HB⟩ := hcut
    cases kq with
    | zero => exact absurd HA.out (by simp [chaffref01_Add.j1])
    | succ kj2 =>
     have H := HA.out
     clear HA
     simp only [chaffref01_Add.j1] at H
     by_cases c6 : x22_2 = true
     ·subst c6
      have H1 : ((chaffref01_at.f l0 x7_1).bind fun t248 => ((chaffref01_at.f l1 x7_1).bind fun t249 => (if x5_1.length < 17592186044416 then (chaffref01_Add.l0 kj2 l0 l1 (x5_1 ++ [Int.tmod (wrap64 ((wrap64 (t248 + t249)) + x6_1)) 65536]) (wrap64 (Int.tdiv (wrap64 ((wrap64 (t248 + t249)) + x6_1)) 65536)) (wrap64 (x7_1 + 1))) else (none)))) = some r := by rw [if_pos rfl] at H; exact H
      clear H
      have H := H1
      clear H1
      replace H := Option.bind_eq_some_iff.mp H
      obtain ⟨t248, A70, H⟩ := H
      replace H : ((chaffref01_at.f l1 x7_1).bind fun t249 => (if x5_1.length < 17592186044416 then (chaffref01_Add.l0 kj2 l0 l1 (x5_1 ++ [Int.tmod (wrap64 ((wrap64 (t248 + t249)) + x6_1)) 65536]) (wrap64 (Int.tdiv (wrap64 ((wrap64 (t248 + t249)) + x6_1)) 65536)) (wrap64 (x7_1 + 1))) else (none))) = some r := H
      have A7 := Q0.mk A70
      clear A70
      replace H := Option.bind_eq_some_iff.mp H
      obtain ⟨t249, A80, H⟩ := H
      replace H : (if x5_1.length < 17592186044416 then (chaffref01_Add.l0 kj2 l0 l1 (x5_1 ++ [Int.tmod (wrap64 ((wrap64 (t248 + t249)) + x6_1)) 65536]) (wrap64 (Int.tdiv (wrap64 ((wrap64 (t248 + t249)) + x6_1)) 65536)) (wrap64 (x7_1 + 1))) else (none)) = some r := H
      have A8 := Q0.mk A80
      clear A80
      by_cases c9 : x5_1.length < 17592186044416
      ·rw [if_pos c9] at H
       have LMc9 := Q0.mk c9
       clear c9
       obtain ⟨y250, hy250⟩ : ∃ y_ : List Int, y_ = (x5_1 ++ [Int.tmod (wrap64 ((wrap64 (t248 + t249)) + x6_1)) 65536]) := ⟨_, rfl⟩
       replace H : (chaffref01_Add.l0 kj2 l0 l1 y250 (wrap64 (Int.tdiv (wrap64 ((wrap64 (t248 + t249)) + x6_1)) 65536)) (wrap64 (x7_1 + 1))) = some r := by first | (rw [hy250]; with_reducible exact H) | (have H2_ := (Option.bind_some _ _).symm.trans H; rw [hy250]; with_reducible exact H2_) | (have H2_ := (Option.bind_some _ _).symm.trans H; with_reducible exact H2_) | with_reducible exact H | (rw [hy250]; exact H) | exact H
       have Ny250 := Q0.mk hy250
       clear hy250
       have H' := Q0.mk H
       clear H
       go_wp2_with (first | ((with_reducible refine gC (f := 78) rfl ?_); refine zx (some 27) rfl rfl Tryd.func78 (by kernel_rfl) rfl #[.slice A0 l0.length c0, .int .i64 x7_1] rfl (by (try simp only [List.map_toArray, List.map_cons, List.map_nil]); first | done | rfl | (simp only [List.length_drop, List.length_take]; rfl)) ?_; (with_reducible refine (chaffref01_at.calls _ _ l0 x7_1 t248 _ ?side1 ?side2 A7.out).mono ?_); (case side1 => repeat (first | exact (Kd.zu HR0.out HB.out) | (with_reducible refine Kd.ze ?_ _) | (with_reducible refine Kd.zf ?_ _) | (with_reducible refine Kd.zi ?_))); (case side2 => exact HC0.out); rintro e w' ⟨rfl, ⟨nd, rfl⟩⟩; refine ⟨_, rfl, ?_⟩) | ((with_reducible refine gC (f := 78) rfl ?_); refine zx (some 30) rfl rfl Tryd.func78 (by kernel_rfl) rfl #[.slice A1 l1.length c1, .int .i64 x7_1] rfl (by (try simp only [List.map_toArray, List.map_cons, List.map_nil]); first | done | rfl | (simp only [List.length_drop, List.length_take]; rfl)) ?_; (with_reducible refine (chaffref01_at.calls _ _ l1 x7_1 t249 _ ?side1 ?side2 A8.out).mono ?_); (case side1 => repeat (first | exact (Kd.zu HR1.out (by repeat (first | (with_reducible first | exact HB.out | apply bA | apply bN | apply b1_) | exact HB.out))) | (with_reducible refine Kd.ze ?_ _) | (with_reducible refine Kd.zf ?_ _) | (with_reducible refine Kd.zi ?_))); (case side2 => exact HC1.out); rintro e w' ⟨rfl, ⟨nd, rfl⟩⟩; refine ⟨_, rfl, ?_⟩) | ((with_reducible refine zz0 (b := .append) (xs := #[.tmp 34, .tmp 37]) rfl ?_); (try (refine zr1 (by rfl) ?_; dsimp only)); at_builtin; refine Kd.zz (Kd.int .i64) (w0 := w) w.heap.size rfl (.tmp 34) (.tmp 37) 26 3 (.int .i64 0) 8 rfl Tryd.underlying26 info3 rfl (by decide) (by omega) u5 x5_1 (Int.tmod (wrap64 ((wrap64 (t248 + t249)) + x6_1)) 65536) [.int .i64 (Int.tmod (wrap64 ((wrap64 (t248 + t249)) + x6_1)) 65536)] (fun k_ => (w.heap.size ≤ k_)) (fun _ => False) rfl rfl ?aP (fun _ hk => hk.elim) ?aF ?aO ?aB ?aS ?aL ?_; (case aP => exact rfl); (case aB => exact (by repeat (first | (with_reducible first | exact HB.out | apply bA | apply bN | apply b1_) | exact HB.out))); (case aF => exact (fun k_ hk => (Nat.le_trans (bZ (by repeat (first | (with_reducible first | exact HB.out | apply bA | apply bN | apply b1_) | exact HB.out))) hk))); (case aO => exact (by (with_reducible repeat (first | apply Kd.RA_ | apply Kd.RN_ | apply Kd.RD_)); exact HO_5.out)); (case aS => exact (bZ (by repeat (first | (with_reducible first | exact HB.out | apply bA | apply bN | apply b1_) | exact HB.out)))); (case aL => have := LMc9.out; omega); intro v251 w10 ho hb hg hat; rw [← Ny250.out] at ho; have n0_ := Q0.mk (hb); have n1_ := Q0.mk (ho); clear HB; clear HO_5; have HB := n0_; have HO252 := n1_; clear n0_ n1_; clear ho hb hg hat))
       go_roundg kj2
       case measure => have := HK1.out; have := HJ2.out; omega
       case rel => exact ⟨(y250), (wrap64 (Int.tdiv (wrap64 ((wrap64 (t248 + t249)) + x6_1)) 65536)), (wrap64 (x7_1 + 1)), (by first | rfl | (simp; done) | (simp [*]; done)), (by first | rfl | (simp; done) | (simp [*]; done)), H', ⟨by have := HK1.out; have := HJ2.out; omega⟩, ⟨by (with_reducible repeat (first | apply Kd.RA_ | apply Kd.RN_ | apply Kd.RD_)); exact HO252.out⟩, ⟨by repeat (first | (with_reducible first | exact HB.out | apply bA | apply bN | apply b1_) | exact HB.out)⟩⟩
      ·rw [if_neg c9] at H
       exact absurd H (by simp)
     ·replace c6 := Bool.eq_false_iff.mpr c6
      subst c6
      have H1 : ((chaffref01_trim.f kj2 x5_1).bind fun t253 => (some t253)) = some r := by rw [if_neg (show ¬ (false = true) by decide)] at H; exact H
      clear H
      have H := H1
      clear H1
      replace H := Option.bind_eq_some_iff.mp H
      obtain ⟨t253, A110, H⟩ := H
      replace H : (some t253) = some r := H
      have A11 := Q0.mk A110
      clear A110
      obtain rfl := Option.some.inj H
      obtain ⟨Ao12, co12, eo12⟩ := Kd.zl0 HO_5.out
      subst eo12
      go_wp2_with (first | ((with_reducible refine gC (f := 63) rfl ?_); refine zx (some 42) rfl rfl Tryd.func63 (by kernel_rfl) rfl #[.slice Ao12 x5_1.length co12] rfl (by (try simp only [List.map_toArray, List.map_cons, List.map_nil]); first | done | rfl | (simp only [List.length_drop, List.length_take]; rfl)) ?_; (with_reducible refine (chaffref01_trim.calls kj2 (fun k_ => some k_ = (.slice Ao12 x5_1.length co12 : Value).ownBlock) _ _ x5_1 t253 _ ?side1 A11.out).mono ?_); (case side1 => exact Kd.R_V (Kd.z11 rfl (HO_5.out))); rintro e w13 ⟨v254, rfl, ho0, hb⟩; refine ⟨_, rfl, ?_⟩; have q_ := zm (w := w) hb (by repeat (first | (with_reducible first | exact HB.out | apply bA | apply bN | apply b1_) | exact HB.out)); have HO255 := Q0.mk (Kd.za0 (Kd.VM_ (ok' := fun k_ => (w.heap.size ≤ k_)) ho0 (fun k_ hk_ => Or.elim hk_ (fun hs_ => ((HO_5.out).1 k_ hs_.symm)) (fun hn_ => (Nat.le_trans (bZ q_) hn_)))) (bZ q_)); replace HO_5 := Q0.mk (Kd.zy (by (with_reducible repeat (first | apply Kd.RA_ | apply Kd.RN_ | apply Kd.RD_)); exact HO_5.out) hb); replace HB := Q0.mk (bP q_ hb); clear q_; (try clear hb); (try clear hb2); (try clear hk); (try clear hi); (try clear ho0)))
      go_ret
      exact ⟨_, by first | rfl | (simp [eN, eS] <;> rfl) | (simp [*, eN, eS] <;> rfl), by (with_reducible repeat (first | apply Kd.VA_ | apply Kd.VN_ | apply Kd.VD_)); exact HO255.out, by repeat (first | (with_reducible first | exact HB.out | apply bA | apply bN | apply b1_) | exact HB.out)⟩
def chaffref01_Sub.l0 : Nat → List Int → List Int → List Int → Int → Int → Option (List Int)
 | 0, _, _, _, _, _ => none
 | k + 1, x0, x1, x5, x6, x7 => if x7 < (x0.length : Int) then (if 0 ≤ x7 then ((chaffref01_at.f x1 x7).bind fun t420 => (if (wrap64 ((wrap64 ((rd x0 x7) - t420)) - x6)) < 0 then (if x5.length < 17592186044416 then (chaffref01_Sub.l0 k x0 x1 (x5 ++ [wrap64 ((wrap64 ((wrap64 ((rd x0 x7) - t420)) - x6)) + 65536)]) 1 (wrap64 (x7 + 1))) else (none)) else (if x5.length < 17592186044416 then (chaffref01_Sub.l0 k x0 x1 (x5 ++ [wrap64 ((wrap64 ((rd x0 x7) - t420)) - x6)]) 0 (wrap64 (x7 + 1))) else (none)))) else (none)) else ((chaffref01_trim.f k x5).bind fun t427 => (some t427))
def chaffref01_Sub.f (k : Nat) (l0 : List Int) (l1 : List Int) : Option (List Int) := chaffref01_Sub.l0 k l0 l1 ([] : List Int) 0 0
theorem chaffref01_Sub.calls (k : Nat) (A0 : Option Addr) (c0 : Nat) (l0 : List Int) (A1 : Option Addr) (c1 : Nat) (l1 : List Int) (r : List Int) (w : World) (hr0 : Kd.C (Kd.int .i64) w A0 l0.length l0) (hc0 : l0.length ≤ c0) (hr1 : Kd.C (Kd.int .i64) w A1 l1.length l1) (hc1 : l1.length ≤ c1) (h : chaffref01_Sub.f k l0 l1 = some r) :
  Calls Tryd.prog 39 #[.slice A0 l0.length c0, .slice A1 l1.length c1] w fun e w' => ∃ v0_ : Value, e = .returned (v0_) ∧ Kd.V (Kd.int .i64) 3 w' w.heap.size (fun k_ => (w.heap.size ≤ k_)) v0_ r ∧ Below w.heap.size w w' := by
 have HR0 := Q0.mk hr0
 have HC0 := Q0.mk hc0
 clear hr0 hc0
 have HR1 := Q0.mk hr1
 have HC1 := Q0.mk hc1
 clear hr1 hc1
 have HB := Q0.mk (Below.refl w.heap.size w)
 have H : (chaffref01_Sub.l0 k l0 l1 ([] : List Int) 0 0) = some r := h
 clear h
 have H' := Q0.mk H
 clear H
 go_enter Tryd.func39, Tryd.ntmps39
 go_wp2
 repeat (go_quiet (fail); try go_wp2)
 go_loopg [5, 6, 7] k (fun kq v5 v6 v7 w' => ∃ (x5_1 : List Int) (x6_1 : Int) (x7_1 : Int), v6 = .int .i64 x6_1 ∧ v7 = .int .i64 x7_1 ∧ Q0 (chaffref01_Sub.l0 kq l0 l1 x5_1 x6_1 x7_1 = some r) ∧ Q0 (kq ≤ k) ∧ Q0 (Kd.R (Kd.int .i64) 3 w' w.heap.size (fun k_ => (w.heap.size ≤ k_)) v5 x5_1) ∧ Q0 (Below w.heap.size w w'))
 case atStart => exact ⟨(([] : List Int)), (0), (0), (by first | rfl | (simp; done) | (simp [*]; done)), (by first | rfl | (simp; done) | (simp [*]; done)), H', ⟨Nat.le_refl _⟩, ⟨by first | exact Kd.zj1 _ _ _ _ _ | exact Kd.N_nil _ _ _ _ _ | exact Kd.zg3 _ _ _ _ _ | exact Kd.Q_nil _ _ _ _ _ | exact Kd.S_nil _ _ _ _ _⟩, ⟨by repeat (first | (with_reducible first | exact HB.out | apply bA | apply bN | apply b1_) | exact HB.out)⟩⟩
 case round =>
  clear H'
  obtain ⟨x5_1, x6_1, x7_1, rfl, rfl, HA, HK1, HO_5, HB⟩ := hrel
  cases gk with
  | zero => exact absurd HA.out (by simp [chaffref01_Sub.l0])
  | succ k1 =>
   have H := HA.out
   clear HA
   simp only [chaffref01_Sub.l0] at H
   by_cases c3 : x7_1 < (l0.length : Int)
   ·rw [if_pos c3] at H
    have c3b0 : decide (x7_1 < (l0.length : Int)) = true := decide_eq_true c3
    clear c3
    by_cases c4 : 0 ≤ x7_1
    ·rw [if_pos c4] at H
     have c4b0 : decide (0 ≤ x7_1) = true := decide_eq_true c4
     clear c4
     replace H := Option.bind_eq_some_iff.mp H
     obtain ⟨t420, A50, H⟩ := H
     have A5 := Q0.mk A50
     clear A50
     by_cases c6 : (wrap64 ((wrap64 ((rd l0 x7_1) - t420)) - x6_1)) < 0
     ·rw [if_pos c6] at H
      have c6b0 : decide ((wrap64 ((wrap64 ((rd l0 x7_1) - t420)) - x6_1)) < 0) = true := decide_eq_true c6
      clear c6
      by_cases c7 : x5_1.length < 17592186044416
      ·rw [if_pos c7] at H
       have LMc7 := Q0.mk c7
       clear c7
       obtain ⟨y421, hy421⟩ : ∃ y_ : List Int, y_ = (x5_1 ++ [wrap64 ((wrap64 ((wrap64 ((rd l0 x7_1) - t420)) - x6_1)) + 65536)]) := ⟨_, rfl⟩
       rw [← hy421] at H
       have Ny421 := Q0.mk hy421
       clear hy421
       have H' := Q0.mk H
       clear H
       have p419 : 0 ≤ (x7_1 : Int) := of_decide_eq_true (by first | (with_reducible assumption) | assumption)
       have q419 : x7_1 < (l0.length : Int) := of_decide_eq_true (by first | (with_reducible assumption) | assumption)
       obtain ⟨ad419, e419, hx419_0⟩ := Kd.zk HR0.out x7_1 p419 q419
       cases e419
       replace hx419_0 := (HB.out.cell (World.block_lt_of_cell? w _ hx419_0)).trans hx419_0
       replace p419 := eq_true p419
       replace q419 := eq_true q419
       go_wp2_with (first | (go_at_call 78; (with_reducible refine (chaffref01_at.calls _ _ l1 x7_1 t420 _ ?side1 ?side2 A5.out).mono ?_); (case side1 => repeat (first | exact (Kd.zu HR1.out HB.out) | (with_reducible refine Kd.ze ?_ _) | (with_reducible refine Kd.zf ?_ _) | (with_reducible refine Kd.zi ?_))); (case side2 => exact HC1.out); rintro e w' ⟨rfl, ⟨nd, rfl⟩⟩; (try first | exact ⟨rfl, _, World.drewN_drewN _ _ _⟩ | exact ⟨rfl, _, Eq.trans (World.drewN_drewN _ _ _) (congrArg (World.drewN _) (Nat.add_assoc _ _ _))⟩)) | ((with_reducible refine zz0 (b := .append) (xs := #[.tmp 29, .tmp 31]) rfl ?_); at_builtin; refine Kd.zz (Kd.int .i64) (w0 := w) w.heap.size rfl (.tmp 29) (.tmp 31) 26 3 (.int .i64 0) 8 rfl Tryd.underlying26 info3 rfl (by decide) (by omega) u5 x5_1 (wrap64 ((wrap64 ((wrap64 ((rd l0 x7_1) - t420)) - x6_1)) + 65536)) [.int .i64 (wrap64 ((wrap64 ((wrap64 ((rd l0 x7_1) - t420)) - x6_1)) + 65536))] (fun k_ => (w.heap.size ≤ k_)) (fun _ => False) rfl rfl ?aP (fun _ hk => hk.elim) ?aF ?aO ?aB ?aS ?aL ?_; (case aP => exact rfl); (case aB => exact (by repeat (first | (with_reducible first | exact HB.out | apply bA | apply bN | apply b1_) | exact HB.out))); (case aF => exact (fun k_ hk => (Nat.le_trans (bZ (by repeat (first | (with_reducible first | exact HB.out | apply bA | apply bN | apply b1_) | exact HB.out))) hk))); (case aO => exact (by (with_reducible repeat (first | apply Kd.RA_ | apply Kd.RN_ | apply Kd.RD_)); exact HO_5.out)); (case aS => exact (bZ (by repeat (first | (with_reducible first | exact HB.out | apply bA | apply bN | apply b1_) | exact HB.out)))); (case aL => have := LMc7.out; omega); intro v422 w8 ho hb hg hat; rw [← Ny421.out] at ho; have n0_ := Q0.mk (hb); have n1_ := Q0.mk (ho); clear HB; clear HO_5; have HB := n0_; have HO423 := n1_; clear n0_ n1_; clear ho hb hg hat))
       repeat (go_quiet (first | (go_at_call 78; (with_reducible refine (chaffref01_at.calls _ _ l1 x7_1 t420 _ ?side1 ?side2 A5.out).mono ?_); (case side1 => repeat (first | exact (Kd.zu HR1.out HB.out) | (with_reducible refine Kd.ze ?_ _) | (with_reducible refine Kd.zf ?_ _) | (with_reducible refine Kd.zi ?_))); (case side2 => exact HC1.out); rintro e w' ⟨rfl, ⟨nd, rfl⟩⟩; (try first | exact ⟨rfl, _, World.drewN_drewN _ _ _⟩ | exact ⟨rfl, _, Eq.trans (World.drewN_drewN _ _ _) (congrArg (World.drewN _) (Nat.add_assoc _ _ _))⟩)) | ((with_reducible refine zz0 (b := .append) (xs := #[.tmp 29, .tmp 31]) rfl ?_); at_builtin; refine Kd.zz (Kd.int .i64) (w0 := w) w.heap.size rfl (.tmp 29) (.tmp 31) 26 3 (.int .i64 0) 8 rfl Tryd.underlying26 info3 rfl (by decide) (by omega) u5 x5_1 (wrap64 ((wrap64 ((wrap64 ((rd l0 x7_1) - t420)) - x6_1)) + 65536)) [.int .i64 (wrap64 ((wrap64 ((wrap64 ((rd l0 x7_1) - t420)) - x6_1)) + 65536))] (fun k_ => (w.heap.size ≤ k_)) (fun _ => False) rfl rfl ?aP (fun _ hk => hk.elim) ?aF ?aO ?aB ?aS ?aL ?_; (case aP => exact rfl); (case aB => exact (by repeat (first | (with_reducible first | exact HB.out | apply bA | apply bN | apply b1_) | exact HB.out))); (case aF => exact (fun k_ hk => (Nat.le_trans (bZ (by repeat (first | (with_reducible first | exact HB.out | apply bA | apply bN | apply b1_) | exact HB.out))) hk))); (case aO => exact (by (with_reducible repeat (first | apply Kd.RA_ | apply Kd.RN_ | apply Kd.RD_)); exact HO_5.out)); (case aS => exact (bZ (by repeat (first | (with_reducible first | exact HB.out | apply bA | apply bN | apply b1_) | exact HB.out)))); (case aL => have := LMc7.out; omega); intro v422 w8 ho hb hg hat; rw [← Ny421.out] at ho; have n0_ := Q0.mk (hb); have n1_ := Q0.mk (ho); clear HB; clear HO_5; have HB := n0_; have HO423 := n1_; clear n0_ n1_; clear ho hb hg hat)); try go_wp2_with (first | (go_at_call 78; (with_reducible refine (chaffref01_at.calls _ _ l1 x7_1 t420 _ ?side1 ?side2 A5.out).mono ?_); (case side1 => repeat (first | exact (Kd.zu HR1.out HB.out) | (with_reducible refine Kd.ze ?_ _) | (with_reducible refine Kd.zf ?_ _) | (with_reducible refine Kd.zi ?_))); (case side2 => exact HC1.out); rintro e w' ⟨rfl, ⟨nd, rfl⟩⟩; (try first | exact ⟨rfl, _, World.drewN_drewN _ _ _⟩ | exact ⟨rfl, _, Eq.trans (World.drewN_drewN _ _ _) (congrArg (World.drewN _) (Nat.add_assoc _ _ _))⟩)) | ((with_reducible refine zz0 (b := .append) (xs := #[.tmp 29, .tmp 31]) rfl ?_); at_builtin; refine Kd.zz (Kd.int .i64) (w0 := w) w.heap.size rfl (.tmp 29) (.tmp 31) 26 3 (.int .i64 0) 8 rfl Tryd.underlying26 info3 rfl (by decide) (by omega) u5 x5_1 (wrap64 ((wrap64 ((wrap64 ((rd l0 x7_1) - t420)) - x6_1)) + 65536)) [.int .i64 (wrap64 ((wrap64 ((wrap64 ((rd l0 x7_1) - t420)) - x6_1)) + 65536))] (fun k_ => (w.heap.size ≤ k_)) (fun _ => False) rfl rfl ?aP (fun _ hk => hk.elim) ?aF ?aO ?aB ?aS ?aL ?_; (case aP => exact rfl); (case aB => exact (by repeat (first | (with_reducible first | exact HB.out | apply bA | apply bN | apply b1_) | exact HB.out))); (case aF => exact (fun k_ hk => (Nat.le_trans (bZ (by repeat (first | (with_reducible first | exact HB.out | apply bA | apply bN | apply b1_) | exact HB.out))) hk))); (case aO => exact (by (with_reducible repeat (first | apply Kd.RA_ | apply Kd.RN_ | apply Kd.RD_)); exact HO_5.out)); (case aS => exact (bZ (by repeat (first | (with_reducible first | exact HB.out | apply bA | apply bN | apply b1_) | exact HB.out)))); (case aL => have := LMc7.out; omega); intro v422 w8 ho hb hg hat; rw [← Ny421.out] at ho; have n0_ := Q0.mk (hb); have n1_ := Q0.mk (ho); clear HB; clear HO_5; have HB := n0_; have HO423 := n1_; clear n0_ n1_; clear ho hb hg hat)))
       go_roundg k1
       case measure => have := HK1.out; omega
       case rel => exact ⟨(y421), (1), (wrap64 (x7_1 + 1)), (by first | rfl | (simp; done) | (simp [*]; done)), (by first | rfl | (simp; done) | (simp [*]; done)), H', ⟨by have := HK1.out; omega⟩, ⟨by (with_reducible repeat (first | apply Kd.RA_ | apply Kd.RN_ | apply Kd.RD_)); exact HO423.out⟩, ⟨by repeat (first | (with_reducible first | exact HB.out | apply bA | apply bN | apply b1_) | exact HB.out)⟩⟩
      ·rw [if_neg c7] at H
       exact absurd H (by simp)
     ·rw [if_neg c6] at H
      have c6b0 : decide ((wrap64 ((wrap64 ((rd l0 x7_1) - t420)) - x6_1)) < 0) = false := decide_eq_false c6
      clear c6
      by_cases c9 : x5_1.length < 17592186044416
      ·rw [if_pos c9] at H
       have LMc9 := Q0.mk c9
       clear c9
       obtain ⟨y424, hy424⟩ : ∃ y_ : List Int, y_ = (x5_1 ++ [wrap64 ((wrap64 ((rd l0 x7_1) - t420)) - x6_1)]) := ⟨_, rfl⟩
       rw [← hy424] at H
       have Ny424 := Q0.mk hy424
       clear hy424
       have H' := Q0.mk H
       clear H
       have p419 : 0 ≤ (x7_1 : Int) := of_decide_eq_true (by first | (with_reducible assumption) | assumption)
       have q419 : x7_1 < (l0.length : Int) := of_decide_eq_true (by first | (with_reducible assumption) | assumption)
       obtain ⟨ad419, e419, hx419_0⟩ := Kd.zk HR0.out x7_1 p419 q419
       cases e419
       replace hx419_0 := (HB.out.cell (World.block_lt_of_cell? w _ hx419_0)).trans hx419_0
       replace p419 := eq_true p419
       replace q419 := eq_true q419
       go_wp2_with (first | (go_at_call 78; (with_reducible refine (chaffref01_at.calls _ _ l1 x7_1 t420 _ ?side1 ?side2 A5.out).mono ?_); (case side1 => repeat (first | exact (Kd.zu HR1.out HB.out) | (with_reducible refine Kd.ze ?_ _) | (with_reducible refine Kd.zf ?_ _) | (with_reducible refine Kd.zi ?_))); (case side2 => exact HC1.out); rintro e w' ⟨rfl, ⟨nd, rfl⟩⟩; (try first | exact ⟨rfl, _, World.drewN_drewN _ _ _⟩ | exact ⟨rfl, _, Eq.trans (World.drewN_drewN _ _ _) (congrArg (World.drewN _) (Nat.add_assoc _ _ _))⟩)) | ((with_reducible refine zz0 (b := .append) (xs := #[.tmp 29, .tmp 31]) rfl ?_); at_builtin; refine Kd.zz (Kd.int .i64) (w0 := w) w.heap.size rfl (.tmp 29) (.tmp 31) 26 3 (.int .i64 0) 8 rfl Tryd.underlying26 info3 rfl (by decide) (by omega) u5 x5_1 (wrap64 ((wrap64 ((rd l0 x7_1) - t420)) - x6_1)) [.int .i64 (wrap64 ((wrap64 ((rd l0 x7_1) - t420)) - x6_1))] (fun k_ => (w.heap.size ≤ k_)) (fun _ => False) rfl rfl ?aP (fun _ hk => hk.elim) ?aF ?aO ?aB ?aS ?aL ?_; (case aP => exact rfl); (case aB => exact (by repeat (first | (with_reducible first | exact HB.out | apply bA | apply bN | apply b1_) | exact HB.out))); (case aF => exact (fun k_ hk => (Nat.le_trans (bZ (by repeat (first | (with_reducible first | exact HB.out | apply bA | apply bN | apply b1_) | exact HB.out))) hk))); (case aO => exact (by (with_reducible repeat (first | apply Kd.RA_ | apply Kd.RN_ | apply Kd.RD_)); exact HO_5.out)); (case aS => exact (bZ (by repeat (first | (with_reducible first | exact HB.out | apply bA | apply bN | apply b1_) | exact HB.out)))); (case aL => have := LMc9.out; omega); intro v425 w10 ho hb hg hat; rw [← Ny424.out] at ho; have n0_ := Q0.mk (hb); have n1_ := Q0.mk (ho); clear HB; clear HO_5; have HB := n0_; have HO426 := n1_; clear n0_ n1_; clear ho hb hg hat))
       repeat (go_quiet (first | (go_at_call 78; (with_reducible refine (chaffref01_at.calls _ _ l1 x7_1 t420 _ ?side1 ?side2 A5.out).mono ?_); (case side1 => repeat (first | exact (Kd.zu HR1.out HB.out) | (with_reducible refine Kd.ze ?_ _) | (with_reducible refine Kd.zf ?_ _) | (with_reducible refine Kd.zi ?_))); (case side2 => exact HC1.out); rintro e w' ⟨rfl, ⟨nd, rfl⟩⟩; (try first | exact ⟨rfl, _, World.drewN_drewN _ _ _⟩ | exact ⟨rfl, _, Eq.trans (World.drewN_drewN _ _ _) (congrArg (World.drewN _) (Nat.add_assoc _ _ _))⟩)) | ((with_reducible refine zz0 (b := .append) (xs := #[.tmp 29, .tmp 31]) rfl ?_); at_builtin; refine Kd.zz (Kd.int .i64) (w0 := w) w.heap.size rfl (.tmp 29) (.tmp 31) 26 3 (.int .i64 0) 8 rfl Tryd.underlying26 info3 rfl (by decide) (by omega) u5 x5_1 (wrap64 ((wrap64 ((rd l0 x7_1) - t420)) - x6_1)) [.int .i64 (wrap64 ((wrap64 ((rd l0 x7_1) - t420)) - x6_1))] (fun k_ => (w.heap.size ≤ k_)) (fun _ => False) rfl rfl ?aP (fun _ hk => hk.elim) ?aF ?aO ?aB ?aS ?aL ?_; (case aP => exact rfl); (case aB => exact (by repeat (first | (with_reducible first | exact HB.out | apply bA | apply bN | apply b1_) | exact HB.out))); (case aF => exact (fun k_ hk => (Nat.le_trans (bZ (by repeat (first | (with_reducible first | exact HB.out | apply bA | apply bN | apply b1_) | exact HB.out))) hk))); (case aO => exact (by (with_reducible repeat (first | apply Kd.RA_ | apply Kd.RN_ | apply Kd.RD_)); exact HO_5.out)); (case aS => exact (bZ (by repeat (first | (with_reducible first | exact HB.out | apply bA | apply bN | apply b1_) | exact HB.out)))); (case aL => have := LMc9.out; omega); intro v425 w10 ho hb hg hat; rw [← Ny424.out] at ho; have n0_ := Q0.mk (hb); have n1_ := Q0.mk (ho); clear HB; clear HO_5; have HB := n0_; have HO426 := n1_; clear n0_ n1_; clear ho hb hg hat)); try go_wp2_with (first | (go_at_call 78; (with_reducible refine (chaffref01_at.calls _ _ l1 x7_1 t420 _ ?side1 ?side2 A5.out).mono ?_); (case side1 => repeat (first | exact (Kd.zu HR1.out HB.out) | (with_reducible refine Kd.ze ?_ _) | (with_reducible refine Kd.zf ?_ _) | (with_reducible refine Kd.zi ?_))); (case side2 => exact HC1.out); rintro e w' ⟨rfl, ⟨nd, rfl⟩⟩; (try first | exact ⟨rfl, _, World.drewN_drewN _ _ _⟩ | exact ⟨rfl, _, Eq.trans (World.drewN_drewN _ _ _) (congrArg (World.drewN _) (Nat.add_assoc _ _ _))⟩)) | ((with_reducible refine zz0 (b := .append) (xs := #[.tmp 29, .tmp 31]) rfl ?_); at_builtin; refine Kd.zz (Kd.int .i64) (w0 := w) w.heap.size rfl (.tmp 29) (.tmp 31) 26 3 (.int .i64 0) 8 rfl Tryd.underlying26 info3 rfl (by decide) (by omega) u5 x5_1 (wrap64 ((wrap64 ((rd l0 x7_1) - t420)) - x6_1)) [.int .i64 (wrap64 ((wrap64 ((rd l0 x7_1) - t420)) - x6_1))] (fun k_ => (w.heap.size ≤ k_)) (fun _ => False) rfl rfl ?aP (fun _ hk => hk.elim) ?aF ?aO ?aB ?aS ?aL ?_; (case aP => exact rfl); (case aB => exact (by repeat (first | (with_reducible first | exact HB.out | apply bA | apply bN | apply b1_) | exact HB.out))); (case aF => exact (fun k_ hk => (Nat.le_trans (bZ (by repeat (first | (with_reducible first | exact HB.out | apply bA | apply bN | apply b1_) | exact HB.out))) hk))); (case aO => exact (by (with_reducible repeat (first | apply Kd.RA_ | apply Kd.RN_ | apply Kd.RD_)); exact HO_5.out)); (case aS => exact (bZ (by repeat (first | (with_reducible first | exact HB.out | apply bA | apply bN | apply b1_) | exact HB.out)))); (case aL => have := LMc9.out; omega); intro v425 w10 ho hb hg hat; rw [← Ny424.out] at ho; have n0_ := Q0.mk (hb); have n1_ := Q0.mk (ho); clear HB; clear HO_5; have HB := n0_; have HO426 := n1_; clear n0_ n1_; clear ho hb hg hat)))
       go_roundg k1
       case measure => have := HK1.out; omega
       case rel => exact ⟨(y424), (0), (wrap64 (x7_1 + 1)), (by first | rfl | (simp; done) | (simp [*]; done)), (by first | rfl | (simp; done) | (simp [*]; done)), H', ⟨by have := HK1.out; omega⟩, ⟨by (with_reducible repeat (first | apply Kd.RA_ | apply Kd.RN_ | apply Kd.RD_)); exact HO426.out⟩, ⟨by repeat (first | (with_reducible first | exact HB.out | apply bA | apply bN | apply b1_) | exact HB.out)⟩⟩
      ·rw [if_neg c9] at H
       exact absurd H (by simp)
    ·rw [if_neg c4] at H
     exact absurd H (by simp)
   ·rw [if_neg c3] at H
    have c3b0 : decide (x7_1 < (l0.length : Int)) = false := decide_eq_false c3
    clear c3
    replace H := Option.bind_eq_some_iff.mp H
    obtain ⟨t427, A110, H⟩ := H
    have A11 := Q0.mk A110
    clear A110
    obtain rfl := Option.some.inj H
    obtain ⟨Ao12, co12, eo12⟩ := Kd.zl0 HO_5.out
    subst eo12
    go_wp2_with (first | (go_at_call 63; (with_reducible refine (chaffref01_trim.calls k1 (fun k_ => some k_ = (.slice Ao12 x5_1.length co12 : Value).ownBlock) _ _ x5_1 t427 _ ?side1 A11.out).mono ?_); (case side1 => exact Kd.R_V (Kd.z11 rfl (HO_5.out))); rintro e w13 ⟨v428, rfl, ho0, hb⟩; have q_ := zm (w := w) hb (by repeat (first | (with_reducible first | exact HB.out | apply bA | apply bN | apply b1_) | exact HB.out)); have HO429 := Q0.mk (Kd.za0 (Kd.VM_ (ok' := fun k_ => (w.heap.size ≤ k_)) ho0 (fun k_ hk_ => Or.elim hk_ (fun hs_ => ((HO_5.out).1 k_ hs_.symm)) (fun hn_ => (Nat.le_trans (bZ q_) hn_)))) (bZ q_)); replace HO_5 := Q0.mk (Kd.zy (by (with_reducible repeat (first | apply Kd.RA_ | apply Kd.RN_ | apply Kd.RD_)); exact HO_5.out) hb); replace HB := Q0.mk (bP q_ hb); clear q_; (try clear hb); (try clear hb2); (try clear hk); (try clear hi); (try clear ho0)))
    repeat (go_quiet (first | (go_at_call 63; (with_reducible refine (chaffref01_trim.calls k1 (fun k_ => some k_ = (.slice Ao12 x5_1.length co12 : Value).ownBlock) _ _ x5_1 t427 _ ?side1 A11.out).mono ?_); (case side1 => exact Kd.R_V (Kd.z11 rfl (HO_5.out))); rintro e w13 ⟨v428, rfl, ho0, hb⟩; have q_ := zm (w := w) hb (by repeat (first | (with_reducible first | exact HB.out | apply bA | apply bN | apply b1_) | exact HB.out)); have HO429 := Q0.mk (Kd.za0 (Kd.VM_ (ok' := fun k_ => (w.heap.size ≤ k_)) ho0 (fun k_ hk_ => Or.elim hk_ (fun hs_ => ((HO_5.out).1 k_ hs_.symm)) (fun hn_ => (Nat.le_trans (bZ q_) hn_)))) (bZ q_)); replace HO_5 := Q0.mk (Kd.zy (by (with_reducible repeat (first | apply Kd.RA_ | apply Kd.RN_ | apply Kd.RD_)); exact HO_5.out) hb); replace HB := Q0.mk (bP q_ hb); clear q_; (try clear hb); (try clear hb2); (try clear hk); (try clear hi); (try clear ho0))); try go_wp2_with (first | (go_at_call 63; (with_reducible refine (chaffref01_trim.calls k1 (fun k_ => some k_ = (.slice Ao12 x5_1.length co12 : Value).ownBlock) _ _ x5_1 t427 _ ?side1 A11.out).mono ?_); (case side1 => exact Kd.R_V (Kd.z11 rfl (HO_5.out))); rintro e w13 ⟨v428, rfl, ho0, hb⟩; have q_ := zm (w := w) hb (by repeat (first | (with_reducible first | exact HB.out | apply bA | apply bN | apply b1_) | exact HB.out)); have HO429 := Q0.mk (Kd.za0 (Kd.VM_ (ok' := fun k_ => (w.heap.size ≤ k_)) ho0 (fun k_ hk_ => Or.elim hk_ (fun hs_ => ((HO_5.out).1 k_ hs_.symm)) (fun hn_ => (Nat.le_trans (bZ q_) hn_)))) (bZ q_)); replace HO_5 := Q0.mk (Kd.zy (by (with_reducible repeat (first | apply Kd.RA_ | apply Kd.RN_ | apply Kd.RD_)); exact HO_5.out) hb); replace HB := Q0.mk (bP q_ hb); clear q_; (try clear hb); (try clear hb2); (try clear hk); (try clear hi); (try clear ho0))))
    go_ret
    exact ⟨_, by first | rfl | (simp [eN, eS] <;> rfl) | (simp [*, eN, eS] <;> rfl), by (with_reducible repeat (first | apply Kd.VA_ | apply Kd.VN_ | apply Kd.VD_)); exact HO429.out, by repeat (first | (with_reducible first | exact HB.out | apply bA | apply bN | apply b1_) | exact HB.out)⟩
end Go.Proofs.YtgkdealidnidiaaDoor.Na
