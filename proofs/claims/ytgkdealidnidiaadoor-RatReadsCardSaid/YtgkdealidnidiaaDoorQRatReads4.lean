/- Texts of the seat, as far as the row needs them. -/
import Derived.ArgAppend
import Derived.Below
import Derived.BigQuiet
import Derived.Deep.AppendLies
import Derived.Deep.CutBlock
import Derived.Deep.DeepCutAuto
import Derived.Deep.Draws
import Derived.Deep.LoopGhost
import Derived.Deep.OwnRows
import Derived.Deep.QuietTactic
import Derived.Deep.RegionHeld3
import Derived.Ground.Names2Prog
import Derived.KernelRfl
import Derived.Laws.AppendOwn
import Derived.Laws.BitsLemmas
import Derived.Laws.BytesArg
import Derived.Laws.Externs
import Derived.Laws.IdiomCopy
import Derived.Laws.MakeOwn
import Derived.Laws.OwnMore
import Derived.Laws.Rows
import Derived.Laws.Slices
import Derived.Laws.StructEq
import Derived.Lib.AppendStr
import Derived.Lib.BitFns
import Derived.Lib.ConvBytes
import Derived.Lib.LazyBuf
import Derived.Lib.SliceRun
import Derived.Lib.Walk
import Derived.Maps.AppendAt
import Derived.OrdersHeld
import Derived.OwnWalk
import Derived.RowKit
import Derived.RowKit3
import Derived.Shelf.Bits.Mul64
import Derived.Shelf.LaysM
import Derived.Shelf.Slices.Cells
import Derived.Shelf.Slices.CompactI
import Derived.Shelf.Slices.ReverseS
import Derived.Shelf.Small.Bits
import Derived.Shelf.Spec.BitsCarry
import Derived.Shelf.Strconv.Itoa0
import Derived.Shelf.Strconv.Itoa1
import Derived.Shelf.Strconv.Itoa2
import Derived.Shelf.Strings.Builder1
import Derived.Shelf.Strings.Builder2
import Derived.Shelf.Strings.Builder2Cap
import Derived.Shelf.Strings.BuilderCap
import Derived.Shelf.Strings.BuilderF
import Derived.Shelf.Strings.BuilderK
import Derived.Shelf.Strings.OnBuilder
import Derived.Shelf.Strings.Prefix
import Derived.Shelf.Strings.Repeat
import Derived.Tactics
import Derived.Test.YtgkdealidnidiaaDoorProg
import Derived.WalkKit
import Derived.WideLaws
import Derived.Test.YtgkdealidnidiaaDoorQRatReads0
import Derived.Test.YtgkdealidnidiaaDoorQRatReads1
import Derived.Test.YtgkdealidnidiaaDoorQRatReads2
import Derived.Test.YtgkdealidnidiaaDoorQRatReads3
set_option linter.unusedVariables false
set_option linter.unusedSimpArgs false
namespace Go.Proofs.YtgkdealidnidiaaDoor.Na
open Go.RowKit Go.Proofs.YtgkdealidnidiaaDoorW.PrintWords Go.Proofs.YtgkdealidnidiaaDoorW.PrintLast Go.Proofs.YtgkdealidnidiaaDoorW.PrintMore
attribute [local go_sem] max2_int max_two
set_option linter.unusedVariables false
set_option linter.unusedSimpArgs false
def twL : List Int → Int → List Int
 | [], c => if c > 0 then [c] else []
 | x :: l, c => (2 * x + c) % 65536 :: twL l ((2 * x + c) / 65536)
def chaffref01_twice.f (l0 : List Int) (a1 : Int) : Option (List Int) := if (l0.all fun x => decide (0 ≤ x ∧ x < 65536)) = true ∧ (0 ≤ a1 ∧ a1 ≤ 1) ∧ l0.length ≤ 1000000000 then some (twL l0 a1) else none
theorem tw_drop {l : List Int} {j : Nat} (h : j < l.length) (c : Int) : twL (l.drop j) c = (2 * l.getD j 0 + c) % 65536 :: twL (l.drop (j + 1)) ((2 * l.getD j 0 + c) / 65536) := by
 rw [List.drop_eq_getElem_cons h, twL]
 simp [List.getD, List.getElem?_eq_getElem h]
structure TwS (w : World) (v : Value) (l : List Int) (a1 : Int) (o : List Int) (j : Nat) (c : Int) (W : World) : Prop where
 row : Kd.R (Kd.int .i64) 3 W w.heap.size (fun _ => True) v o
 below : Below w.heap.size w W
 len : o.length = j
 all : o ++ twL (l.drop j) c = twL l a1
set_option maxHeartbeats 8000000 in
set_option maxRecDepth 100000 in
theorem chaffref01_twice.calls (A0 : Option Addr) (c0 : Nat) (l0 : List Int) (a1 : Int) (r : List Int) (w : World) (hr0 : Kd.C (Kd.int .i64) w A0 l0.length l0) (hc0 : l0.length ≤ c0) (h : chaffref01_twice.f l0 a1 = some r) :
  Calls Tryd.prog 77 #[.slice A0 l0.length c0, .int .i64 a1] w fun e w' => ∃ v0_ : Value, e = .returned (v0_) ∧ Kd.R (Kd.int .i64) 3 w' w.heap.size (fun _ => True) v0_ r ∧ Below w.heap.size w w' := by
 unfold chaffref01_twice.f at h
 split at h
 ·rename_i hcond
  obtain rfl := Option.some.inj h
  obtain ⟨hall, ⟨hb0, hb1⟩, hn⟩ := hcond
  have hrange : Aside0 (∀ j, j < l0.length → 0 ≤ l0.getD j 0 ∧ l0.getD j 0 < 65536) := ⟨fun j hj => by
   rw [List.all_eq_true] at hall
   have := of_decide_eq_true (hall (l0[j]) (List.getElem_mem hj))
   simpa [List.getD, List.getElem?_eq_getElem hj] using this⟩
  have HR0 := Aside0.mk hr0
  clear h hall hr0
  obtain ⟨i0, hi, hz0, hz1, hz2⟩ := info_parts info3
  obtain ⟨w1, hmk, hown, hg⟩ := run_make_own (P := Tryd.prog) w w.heap.size 26 3 i0 (.int .i64 0) 1 Tryd.underlying26 hi hz0 hz1 .i64 .i64 (l0.length + 1) (by rw [hz2]; omega) (by unfold maxLen; omega) (Nat.le_refl _)
  have hmk2 : (Instr.makeSlice 26 (.int .i64 0) (.int .i64 ((l0.length : Int) + 1))).run Tryd.prog w = .ok (.slice (some ⟨w.heap.size, 0, none⟩) 0 (l0.length + 1)) w1 := hmk
  have HS := Aside0.mk (show TwS w (.slice (some ⟨w.heap.size, 0, none⟩) 0 (l0.length + 1)) l0 a1 [] 0 a1 w1 from ⟨Kd.R_of_own hown (fun _ _ => trivial), (Below.refl _ _).grown hg (Nat.le_refl _) (by intro k hk; cases hk), rfl, rfl⟩)
  have hw1 : wrap64 ((l0.length : Int) + 1) = (l0.length : Int) + 1 := by unfold wrap64; omega
  clear hmk hown hg hi hz0 hz1 hz2
  go_enter Tryd.func77, Tryd.ntmps77
  go_wp2
  clear hmk2 hw1
  go_loopw [5, 6, 7] (fun v5 v6 v7 W => ∃ (j : Nat) (o : List Int) (c : Int), v6 = .int .i64 c ∧ v7 = .int .i64 j ∧ j ≤ l0.length ∧ 0 ≤ c ∧ c ≤ 1 ∧ Aside0 (TwS w v5 l0 a1 o j c W)) (fun _ _ v7 _ => l0.length - (intOf v7).toNat)
  case atStart => exact ⟨0, [], a1, rfl, rfl, by omega, hb0, hb1, HS⟩
  case round =>
   obtain ⟨j, o, c, rfl, rfl, hj, hc0, hc1, HT⟩ := hrel
   clear HS
   by_cases hlt : j < l0.length
   ·obtain ⟨ad, e, hx⟩ := Kd.at_int HR0.out (j : Int) (by omega) (by omega)
    cases e
    rw [Int.toNat_natCast] at hx
    have hx2 := (HT.out.below.cell (World.block_lt_of_cell? w _ hx)).trans hx
    have hr := hrange.out j hlt
    have hN := Aside0.mk (tw_drop hlt c)
    have hx3 : wr.cell? (ad.add j) = some (.int .i64 (l0.getD j 0)) := by rw [hx2]; simp [rd]
    clear hx hx2
    generalize l0.getD j 0 = x at hr hN hx3
    have hm := Int.tmod_eq_emod_of_nonneg (a := 2 * x + c) (b := 65536) (by omega)
    have hd := Int.tdiv_eq_ediv_of_nonneg (a := 2 * x + c) (b := 65536) (by omega)
    have hL := Aside0.mk HT.out.len
    have hs := Aside0.mk (below_size HT.out.below)
    go_wp2_with (at_builtin; refine Kd.R_append (Kd.int .i64) (w0 := w) w.heap.size rfl (.tmp 27) (.tmp 30) 26 3 (.int .i64 0) 8 rfl Tryd.underlying26 info3 rfl (by decide) (by omega) u5 o ((2 * x + c) % 65536) [.int .i64 ((2 * x + c) % 65536)] (fun _ => True) (fun _ => False) rfl rfl ?aP (fun _ hk => hk.elim) (fun _ _ => trivial) HT.out.row HT.out.below hs.out (by rw [hL.out]; omega) ?_; (case aP => exact rfl); intro v1 w10 ho hb hg hat; have HN := Aside0.mk (show TwS w v1 l0 a1 (o ++ [(2 * x + c) % 65536]) (j + 1) ((2 * x + c) / 65536) w10 from ⟨ho, hb, by rw [List.length_append, hL.out]; rfl, by rw [List.append_assoc]; exact (congrArg (o ++ ·) hN.out).symm.trans HT.out.all⟩); clear ho hb hg hat)
    go_roundw
    case rel => exact ⟨j + 1, _, (2 * x + c) / 65536, rfl, by go_num, by omega, by omega, by omega, HN⟩
    case measure => simp [intOf]; omega
   ·obtain rfl : j = l0.length := by omega
    have hall := HT.out.all
    rw [List.drop_length, twL] at hall
    have hL := Aside0.mk HT.out.len
    have hs := Aside0.mk (below_size HT.out.below)
    by_cases hc : c > 0
    ·rw [if_pos hc] at hall
     have HA := Aside0.mk hall
     clear hall
     go_wp2_with (at_builtin; refine Kd.R_append (Kd.int .i64) (w0 := w) w.heap.size rfl (.tmp 36) (.tmp 38) 26 3 (.int .i64 0) 8 rfl Tryd.underlying26 info3 rfl (by decide) (by omega) u5 o c [.int .i64 c] (fun _ => True) (fun _ => False) rfl rfl ?aP (fun _ hk => hk.elim) (fun _ _ => trivial) HT.out.row HT.out.below hs.out (by rw [hL.out]; omega) ?_; (case aP => exact rfl); intro v1 w10 ho hb hg hat; have HN := Aside0.mk ho; have HB := Aside0.mk hb; clear ho hb hg hat)
     go_ret
     exact ⟨_, rfl, by rw [← HA.out]; exact HN.out, HB.out⟩
    ·rw [if_neg hc, List.append_nil] at hall
     have HA := Aside0.mk hall
     clear hall
     go_wp2
     go_ret
     exact ⟨_, rfl, by rw [← HA.out]; exact HT.out.row, HT.out.below⟩
 ·exact absurd h (by simp)
end Go.Proofs.YtgkdealidnidiaaDoor.Na
namespace Go.Proofs.YtgkdealidnidiaaDoor.Na
open Go.RowKit Go.Proofs.YtgkdealidnidiaaDoorW.PrintWords Go.Proofs.YtgkdealidnidiaaDoorW.PrintLast Go.Proofs.YtgkdealidnidiaaDoorW.PrintMore
attribute [local go_sem] max2_int max_two
set_option linter.unusedVariables false
set_option linter.unusedSimpArgs false
def chaffref01_Bit.l0 : Nat → Int → Int → Int → Option (Int)
 | 0, _, _, _ => none
 | k + 1, x1, x5, x6 => if x6 < (Int.tmod x1 16) then (chaffref01_Bit.l0 k x1 (wrap64 (Int.tdiv x5 2)) (wrap64 (x6 + 1))) else (some (Int.tmod x5 2))
def chaffref01_Bit.f (k : Nat) (l0 : List Int) (a1 : Int) : Option (Int) := (chaffref01_at.f l0 (wrap64 (Int.tdiv a1 16))).bind fun t508 => (chaffref01_Bit.l0 k a1 t508 0)
set_option maxHeartbeats 8000000 in
set_option maxRecDepth 100000 in
theorem chaffref01_Bit.calls (k : Nat) (A0 : Option Addr) (c0 : Nat) (l0 : List Int) (a1 : Int) (r : Int) (w : World) (hr0 : Kd.C (Kd.int .i64) w A0 l0.length l0) (hc0 : l0.length ≤ c0) (h : chaffref01_Bit.f k l0 a1 = some r) :
  Calls Tryd.prog 84 #[.slice A0 l0.length c0, .int .i64 a1] w fun e w' => e = .returned (.int .i64 r) ∧ Drawn0 w w' := by
 have HR0 := Aside0.mk hr0
 have HC0 := Aside0.mk hc0
 clear hr0 hc0
 have H : ((chaffref01_at.f l0 (wrap64 (Int.tdiv a1 16))).bind fun t508 => (chaffref01_Bit.l0 k a1 t508 0)) = some r := h
 clear h
 replace H := Option.bind_eq_some_iff.mp H
 obtain ⟨t508, A30, H⟩ := H
 replace H : (chaffref01_Bit.l0 k a1 t508 0) = some r := H
 have A3 := Aside0.mk A30
 clear A30
 have H' := Aside0.mk H
 clear H
 go_enter Tryd.func84, Tryd.ntmps84
 go_wp2_with (first | ((with_reducible refine gate_callee (f := 78) rfl ?_); refine goesL_ (some 10) rfl rfl Tryd.func78 (by kernel_rfl) rfl #[.slice A0 l0.length c0, .int .i64 (wrap64 (Int.tdiv a1 16))] rfl (by (try simp only [List.map_toArray, List.map_cons, List.map_nil]); first | done | rfl | (simp only [List.length_drop, List.length_take]; rfl)) ?_; (with_reducible refine (chaffref01_at.calls _ _ l0 (wrap64 (Int.tdiv a1 16)) t508 _ ?side1 ?side2 A3.out).mono ?_); (case side1 => repeat (first | exact HR0.out | (with_reducible refine Kd.C_alloc ?_ _) | (with_reducible refine Kd.C_drewN ?_ _) | (with_reducible refine Kd.C_drew ?_))); (case side2 => exact HC0.out); rintro e w' ⟨rfl, ⟨nd, rfl⟩⟩; refine ⟨_, rfl, ?_⟩))
 go_loopg [5, 6] k (fun kq v5 v6 w' => ∃ (x5_1 : Int) (x6_1 : Int), v5 = .int .i64 x5_1 ∧ v6 = .int .i64 x6_1 ∧ Aside0 (chaffref01_Bit.l0 kq a1 x5_1 x6_1 = some r) ∧ Aside0 (kq ≤ k) ∧ Drawn0 w w')
 case atStart => exact ⟨(t508), (0), (by first | rfl | (simp; done) | (simp [*]; done)), (by first | rfl | (simp; done) | (simp [*]; done)), H', ⟨Nat.le_refl _⟩, by repeat (first | exact Drawn0.refl _ | apply Drawn0.step)⟩
 case round =>
  clear H'
  try clear p2
  obtain ⟨x5_1, x6_1, rfl, rfl, HA, HK1, ⟨m1, rfl⟩⟩ := hrel
  cases gk with
  | zero => exact absurd HA.out (by simp [chaffref01_Bit.l0])
  | succ k1 =>
   have H := HA.out
   clear HA
   simp only [chaffref01_Bit.l0] at H
   by_cases c4 : x6_1 < (Int.tmod a1 16)
   ·rw [if_pos c4] at H
    have c4b0 : decide (x6_1 < (Int.tmod a1 16)) = true := decide_eq_true c4
    clear c4
    have H' := Aside0.mk H
    clear H
    go_wp2
    go_roundg k1
    case measure => have := HK1.out; omega
    case rel => exact ⟨(wrap64 (Int.tdiv x5_1 2)), (wrap64 (x6_1 + 1)), (by first | rfl | (simp; done) | (simp [*]; done)), (by first | rfl | (simp; done) | (simp [*]; done)), H', ⟨by have := HK1.out; omega⟩, by repeat (first | exact Drawn0.refl _ | apply Drawn0.step)⟩
   ·rw [if_neg c4] at H
    have c4b0 : decide (x6_1 < (Int.tmod a1 16)) = false := decide_eq_false c4
    clear c4
    obtain rfl := Option.some.inj H
    go_wp2
    go_ret
    exact ⟨by first | rfl | (simp; done) | (simp [*]; done), by repeat (first | exact Drawn0.refl _ | apply Drawn0.step)⟩
end Go.Proofs.YtgkdealidnidiaaDoor.Na
namespace Go.Proofs.YtgkdealidnidiaaDoor.Na
open Go.RowKit Go.Proofs.YtgkdealidnidiaaDoorW.PrintWords Go.Proofs.YtgkdealidnidiaaDoorW.PrintLast Go.Proofs.YtgkdealidnidiaaDoorW.PrintMore
attribute [local go_sem] max2_int max_two
set_option linter.unusedVariables false
set_option linter.unusedSimpArgs false
mutual
def chaffref01_Div.l0 : Nat → List Int → List Int → List Int → List Int → Int → Option (List Int × List Int)
 | 0, _, _, _, _, _ => none
 | k + 1, x0, x1, x6, x7, x8 => if x8 ≥ 0 then ((chaffref01_Bit.f k x0 x8).bind fun t516 => ((chaffref01_twice.f x7 t516).bind fun t517 => ((chaffref01_Cmp.f k t517 x1).bind fun t520 => (if t520 ≥ 0 then ((chaffref01_Sub.f k t517 x1).bind fun t521 => (chaffref01_Div.l1 k x0 x1 x6 t521 x8 1 0)) else (chaffref01_Div.l0 k x0 x1 x6 t517 (wrap64 (x8 - 1))))))) else ((chaffref01_trim.f k x6).bind fun t513 => (some (t513, x7)))
def chaffref01_Div.l1 : Nat → List Int → List Int → List Int → List Int → Int → Int → Int → Option (List Int × List Int)
 | 0, _, _, _, _, _, _, _ => none
 | k + 1, x0, x1, x6, x7, x8, x9, x10 => if x10 < (Int.tmod x8 16) then (chaffref01_Div.l1 k x0 x1 x6 x7 x8 (wrap64 (x9 * 2)) (wrap64 (x10 + 1))) else (if 0 ≤ (wrap64 (Int.tdiv x8 16)) then (if (wrap64 (Int.tdiv x8 16)) < (x6.length : Int) then (chaffref01_Div.l0 k x0 x1 (x6.set ((wrap64 (Int.tdiv x8 16)) : Int).toNat (wrap64 ((rd x6 (wrap64 (Int.tdiv x8 16))) + x9))) x7 (wrap64 (x8 - 1))) else (none)) else (none))
end
def chaffref01_Div.f (k : Nat) (l0 : List Int) (l1 : List Int) : Option (List Int × List Int) := if 0 ≤ (l0.length : Int) then (if ((l0.length : Int) : Int).toNat ≤ 35184372088832 then ((chaffref01_Bits.f k l0).bind fun t512 => (chaffref01_Div.l0 k l0 l1 (List.replicate ((l0.length : Int) : Int).toNat 0) ([] : List Int) (wrap64 (t512 - 1)))) else (none)) else (none)
set_option maxHeartbeats 8000000 in
set_option maxRecDepth 100000 in
theorem chaffref01_Div.calls (k : Nat) (A0 : Option Addr) (c0 : Nat) (l0 : List Int) (A1 : Option Addr) (c1 : Nat) (l1 : List Int) (r1 : List Int) (r2 : List Int) (w : World) (hr0 : Kd.C (Kd.int .i64) w A0 l0.length l0) (hc0 : l0.length ≤ c0) (hr1 : Kd.C (Kd.int .i64) w A1 l1.length l1) (hc1 : l1.length ≤ c1) (h : chaffref01_Div.f k l0 l1 = some (r1, r2)) :
  Calls Tryd.prog 42 #[.slice A0 l0.length c0, .slice A1 l1.length c1] w fun e w' => ∃ v0_ v1_ : Value, e = .returned (.tuple #[v0_, v1_]) ∧ Kd.V (Kd.int .i64) 3 w' w.heap.size (fun k_ => (w.heap.size ≤ k_)) v0_ r1 ∧ Kd.V (Kd.int .i64) 3 w' w.heap.size (fun k_ => (w.heap.size ≤ k_)) v1_ r2 ∧ Below w.heap.size w w' := by
 have HR0 := Aside0.mk hr0
 have HC0 := Aside0.mk hc0
 clear hr0 hc0
 have HR1 := Aside0.mk hr1
 have HC1 := Aside0.mk hc1
 clear hr1 hc1
 have HB := Aside0.mk (Below.refl w.heap.size w)
 have H : (if 0 ≤ (l0.length : Int) then (if ((l0.length : Int) : Int).toNat ≤ 35184372088832 then ((chaffref01_Bits.f k l0).bind fun t512 => (chaffref01_Div.l0 k l0 l1 (List.replicate ((l0.length : Int) : Int).toNat 0) ([] : List Int) (wrap64 (t512 - 1)))) else (none)) else (none)) = some (r1, r2) := h
 clear h
 by_cases c3 : 0 ≤ (l0.length : Int)
 ·rw [if_pos c3] at H
  have c3b0 := eq_true c3
  have c3b1 : decide (0 ≤ (l0.length : Int)) = true := decide_eq_true c3
  clear c3
  by_cases c4 : ((l0.length : Int) : Int).toNat ≤ 35184372088832
  ·rw [if_pos c4] at H
   have c4b0 := eq_true c4
   have c4b1 : decide (((l0.length : Int) : Int).toNat ≤ 35184372088832) = true := decide_eq_true c4
   clear c4
   obtain ⟨y509, hy509⟩ : ∃ y_ : List Int, y_ = (List.replicate ((l0.length : Int) : Int).toNat 0) := ⟨_, rfl⟩
   replace H : ((chaffref01_Bits.f k l0).bind fun t512 => (chaffref01_Div.l0 k l0 l1 y509 ([] : List Int) (wrap64 (t512 - 1)))) = some (r1, r2) := by first | (rw [hy509]; with_reducible exact H) | (have H2_ := (Option.bind_some _ _).symm.trans H; rw [hy509]; with_reducible exact H2_) | (have H2_ := (Option.bind_some _ _).symm.trans H; with_reducible exact H2_) | with_reducible exact H | (rw [hy509]; exact H) | exact H
   have Ny509 := Aside0.mk hy509
   clear hy509
   replace H := Option.bind_eq_some_iff.mp H
   obtain ⟨t512, A50, H⟩ := H
   replace H : (chaffref01_Div.l0 k l0 l1 y509 ([] : List Int) (wrap64 (t512 - 1))) = some (r1, r2) := H
   have A5 := Aside0.mk A50
   clear A50
   have H' := Aside0.mk H
   clear H
   go_enter Tryd.func42, Tryd.ntmps42
   go_wp2_with (first | ((with_reducible refine gate_dst (N := 13) rfl ?_); refine Kd.R_make (Kd.int .i64) _ 3 rfl (N := 13) rfl 26 _ _ rfl (l0.length : Int) rfl rfl Tryd.underlying26 (.int .i64 0) 8 info3 rfl (by decide) (by omega) 0 (ok := fun _ => True) (okp := fun _ => True) rfl (fun _ hk => hk) trivial (of_decide_eq_true (by first | (with_reducible assumption) | assumption)) (Nat.le_trans (Nat.mul_le_mul_right _ (of_decide_eq_true (by first | (with_reducible assumption) | assumption) : (l0.length : Int).toNat ≤ 35184372088832)) (by omega)) (Below.refl _ _) (Nat.le_refl _) ?_; intro v510 w6 ho7 hb hg_ hnew_; clear hg_ hnew_; (first | rw [← Ny509.out] at ho7 | (simp only [Int.reduceToNat] at ho7; rw [← Ny509.out] at ho7)); have n0_ := Aside0.mk (Kd.R_lower (Kd.R_newM (M := fun k_ => (w.heap.size ≤ k_)) ho7 (below_size (by repeat (first | (with_reducible first | exact HB.out | apply below_alloc | apply pw_below_drewN | apply below_drew1) | exact HB.out))) (fun k_ h_ => h_)) (below_size (by repeat (first | (with_reducible first | exact HB.out | apply below_alloc | apply pw_below_drewN | apply below_drew1) | exact HB.out)))); have n1_ := Aside0.mk (below_step (by repeat (first | (with_reducible first | exact HB.out | apply below_alloc | apply pw_below_drewN | apply below_drew1) | exact HB.out)) hb); clear HB; have HO511 := n0_; have HB := n1_; clear n0_ n1_; clear hb ho7) | ((with_reducible refine gate_callee (f := 21) rfl ?_); refine goesL_ (some 15) rfl rfl Tryd.func21 (by kernel_rfl) rfl #[.slice A0 l0.length c0] rfl (by (try simp only [List.map_toArray, List.map_cons, List.map_nil]); first | done | rfl | (simp only [List.length_drop, List.length_take]; rfl)) ?_; (with_reducible refine (chaffref01_Bits.calls k _ _ l0 t512 _ ?side1 ?side2 A5.out).mono ?_); (case side1 => repeat (first | exact (Kd.C_below HR0.out HB.out) | (with_reducible refine Kd.C_alloc ?_ _) | (with_reducible refine Kd.C_drewN ?_ _) | (with_reducible refine Kd.C_drew ?_))); (case side2 => exact HC0.out); rintro e w' ⟨rfl, ⟨nd, rfl⟩⟩; refine ⟨_, rfl, ?_⟩))
   go_loopg [7, 8] k (fun kq v7 v8 w' => ∃ (x6_1 : List Int) (x7_1 : List Int) (x8_1 : Int), v8 = .int .i64 x8_1 ∧ Aside0 (chaffref01_Div.l0 kq l0 l1 x6_1 x7_1 x8_1 = some (r1, r2)) ∧ Aside0 (kq ≤ k) ∧ Aside0 (Kd.R (Kd.int .i64) 3 w' w.heap.size (fun k_ => (w.heap.size ≤ k_)) v510 x6_1) ∧ Aside0 (Kd.V (Kd.int .i64) 3 w' w.heap.size (fun k_ => (w.heap.size ≤ k_) ∧ some k_ ≠ (v510 : Value).ownBlock) v7 x7_1) ∧ Aside0 (Below w.heap.size w w'))
   case atStart => exact ⟨(y509), (([] : List Int)), (wrap64 (t512 - 1)), (by first | rfl | (simp; done) | (simp [*]; done)), H', ⟨Nat.le_refl _⟩, ⟨by (with_reducible repeat (first | apply Kd.R_alloc | apply Kd.R_drewN | apply Kd.R_drew)); exact Kd.R_mono HO511.out (fun _ hk => hk.1)⟩, ⟨Kd.R_V (base := w.heap.size) (by first | exact Kd.R_nil _ _ _ _ _ | exact Kd.N_nil _ _ _ _ _ | exact Kd.V_nil _ _ _ _ _ | exact Kd.Q_nil _ _ _ _ _ | exact Kd.S_nil _ _ _ _ _)⟩, ⟨by repeat (first | (with_reducible first | exact HB.out | apply below_alloc | apply pw_below_drewN | apply below_drew1) | exact HB.out)⟩⟩
   case round =>
    clear H'
    try clear c1
    try clear c2
    try clear p2
    try clear c3
    try clear c3b0
    try clear c3b1
    try clear c4
    try clear c4b0
    try clear c4b1
    try clear p6
    obtain ⟨x6_1, x7_1, x8_1, rfl, HA, HK1, HO_6, HO_7, HB⟩ := hrel
    cases gk with
    | zero => exact absurd HA.out (by simp [chaffref01_Div.l0])
    | succ k1 =>
     have H := HA.out
     clear HA
     simp only [chaffref01_Div.l0] at H
     by_cases c8 : x8_1 ≥ 0
     ·rw [if_pos c8] at H
      have c8b0 : decide (0 ≤ x8_1) = true := decide_eq_true c8
      clear c8
      replace H := Option.bind_eq_some_iff.mp H
      obtain ⟨t516, A90, H⟩ := H
      replace H : ((chaffref01_twice.f x7_1 t516).bind fun t517 => ((chaffref01_Cmp.f k1 t517 l1).bind fun t520 => (if t520 ≥ 0 then ((chaffref01_Sub.f k1 t517 l1).bind fun t521 => (chaffref01_Div.l1 k1 l0 l1 x6_1 t521 x8_1 1 0)) else (chaffref01_Div.l0 k1 l0 l1 x6_1 t517 (wrap64 (x8_1 - 1)))))) = some (r1, r2) := H
      have A9 := Aside0.mk A90
      clear A90
      replace H := Option.bind_eq_some_iff.mp H
      obtain ⟨t517, A100, H⟩ := H
      replace H : ((chaffref01_Cmp.f k1 t517 l1).bind fun t520 => (if t520 ≥ 0 then ((chaffref01_Sub.f k1 t517 l1).bind fun t521 => (chaffref01_Div.l1 k1 l0 l1 x6_1 t521 x8_1 1 0)) else (chaffref01_Div.l0 k1 l0 l1 x6_1 t517 (wrap64 (x8_1 - 1))))) = some (r1, r2) := H
      have A10 := Aside0.mk A100
      clear A100
      replace H := Option.bind_eq_some_iff.mp H
      obtain ⟨t520, A110, H⟩ := H
      replace H : (if t520 ≥ 0 then ((chaffref01_Sub.f k1 t517 l1).bind fun t521 => (chaffref01_Div.l1 k1 l0 l1 x6_1 t521 x8_1 1 0)) else (chaffref01_Div.l0 k1 l0 l1 x6_1 t517 (wrap64 (x8_1 - 1)))) = some (r1, r2) := H
      have A11 := Aside0.mk A110
      clear A110
      by_cases c12 : t520 ≥ 0
      ·rw [if_pos c12] at H
       have c12b0 : decide (0 ≤ t520) = true := decide_eq_true c12
       clear c12
       replace H := Option.bind_eq_some_iff.mp H
       obtain ⟨t521, A130, H⟩ := H
       replace H : (chaffref01_Div.l1 k1 l0 l1 x6_1 t521 x8_1 1 0) = some (r1, r2) := H
       have A13 := Aside0.mk A130
       clear A130
       have H' := Aside0.mk H
       clear H
       go_wp2_with (first | ((with_reducible refine gate_callee (f := 84) rfl ?_); refine goesL_ (some 24) rfl rfl Tryd.func84 (by kernel_rfl) rfl #[.slice A0 l0.length c0, .int .i64 x8_1] rfl (by (try simp only [List.map_toArray, List.map_cons, List.map_nil]); first | done | rfl | (simp only [List.length_drop, List.length_take]; rfl)) ?_; (with_reducible refine (chaffref01_Bit.calls k1 _ _ l0 x8_1 t516 _ ?side1 ?side2 A9.out).mono ?_); (case side1 => repeat (first | exact (Kd.C_below HR0.out HB.out) | (with_reducible refine Kd.C_alloc ?_ _) | (with_reducible refine Kd.C_drewN ?_ _) | (with_reducible refine Kd.C_drew ?_))); (case side2 => exact HC0.out); rintro e w' ⟨rfl, ⟨nd, rfl⟩⟩; refine ⟨_, rfl, ?_⟩; obtain ⟨Ao14, co14, eo14⟩ := Kd.V_slice HO_7.out; subst eo14) | ((with_reducible refine gate_callee (f := 77) rfl ?_); refine goesL_ (some 25) rfl rfl Tryd.func77 (by kernel_rfl) rfl #[.slice Ao14 x7_1.length co14, .int .i64 t516] rfl (by (try simp only [List.map_toArray, List.map_cons, List.map_nil]); first | done | rfl | (simp only [List.length_drop, List.length_take]; rfl)) ?_; (with_reducible refine (chaffref01_twice.calls _ _ x7_1 t516 t517 _ ?side1 ?side2 A10.out).mono ?_); (case side1 => repeat (first | exact (Kd.V_reads' HO_7.out).2.2 | (with_reducible refine Kd.C_alloc ?_ _) | (with_reducible refine Kd.C_drewN ?_ _) | (with_reducible refine Kd.C_drew ?_))); (case side2 => exact (Kd.V_reads' HO_7.out).2.1); rintro e w15 ⟨v518, rfl, ho0, hb⟩; refine ⟨_, rfl, ?_⟩; have n0_ := Aside0.mk (Kd.R_elder' (by (with_reducible repeat (first | apply Kd.R_alloc | apply Kd.R_drewN | apply Kd.R_drew)); exact HO_6.out) (Kd.R_base ho0) hb); have n1_ := Aside0.mk (Kd.V_elder' (by (with_reducible repeat (first | apply Kd.V_alloc | apply Kd.V_drewN | apply Kd.V_drew)); exact HO_7.out) (Kd.R_base ho0) hb); have n2_ := Aside0.mk (Kd.R_lower (Kd.R_new' (Kd.R_newM (M := fun k_ => (w.heap.size ≤ k_)) ho0 (below_size (by repeat (first | (with_reducible first | exact HB.out | apply below_alloc | apply pw_below_drewN | apply below_drew1) | exact HB.out))) (fun k_ h_ => h_)) (Kd.R_lt (by (with_reducible repeat (first | apply Kd.R_alloc | apply Kd.R_drewN | apply Kd.R_drew)); exact HO_6.out))) (below_size (by repeat (first | (with_reducible first | exact HB.out | apply below_alloc | apply pw_below_drewN | apply below_drew1) | exact HB.out)))); have n3_ := Aside0.mk (below_step (by repeat (first | (with_reducible first | exact HB.out | apply below_alloc | apply pw_below_drewN | apply below_drew1) | exact HB.out)) hb); clear HO_6; clear HO_7; clear HB; have HO_6 := n0_; have HO_7 := n1_; have HO519 := n2_; have HB := n3_; clear n0_ n1_ n2_ n3_; (try clear hb); (try clear hb2); (try clear hk); (try clear hi); (try clear ho0); obtain ⟨Ao16, co16, eo16⟩ := Kd.R_slice HO519.out; subst eo16) | ((with_reducible refine gate_callee (f := 37) rfl ?_); refine goesL_ (some 28) rfl rfl Tryd.func37 (by kernel_rfl) rfl #[.slice Ao16 t517.length co16, .slice A1 l1.length c1] rfl (by (try simp only [List.map_toArray, List.map_cons, List.map_nil]); first | done | rfl | (simp only [List.length_drop, List.length_take]; rfl)) ?_; (with_reducible refine (chaffref01_Cmp.calls k1 _ _ t517 _ _ l1 t520 _ ?side1 ?side2 ?side3 ?side4 A11.out).mono ?_); (case side1 => repeat (first | exact (Kd.R_reads' HO519.out).2.2 | (with_reducible refine Kd.C_alloc ?_ _) | (with_reducible refine Kd.C_drewN ?_ _) | (with_reducible refine Kd.C_drew ?_))); (case side2 => exact (Kd.R_reads' HO519.out).2.1); (case side3 => repeat (first | exact (Kd.C_below HR1.out HB.out) | (with_reducible refine Kd.C_alloc ?_ _) | (with_reducible refine Kd.C_drewN ?_ _) | (with_reducible refine Kd.C_drew ?_))); (case side4 => exact HC1.out); rintro e w' ⟨rfl, ⟨nd, rfl⟩⟩; refine ⟨_, rfl, ?_⟩) | ((with_reducible refine gate_callee (f := 39) rfl ?_); refine goesL_ (some 32) rfl rfl Tryd.func39 (by kernel_rfl) rfl #[.slice Ao16 t517.length co16, .slice A1 l1.length c1] rfl (by (try simp only [List.map_toArray, List.map_cons, List.map_nil]); first | done | rfl | (simp only [List.length_drop, List.length_take]; rfl)) ?_; (with_reducible refine (chaffref01_Sub.calls k1 _ _ t517 _ _ l1 t521 _ ?side1 ?side2 ?side3 ?side4 A13.out).mono ?_); (case side1 => repeat (first | exact (Kd.R_reads' HO519.out).2.2 | (with_reducible refine Kd.C_alloc ?_ _) | (with_reducible refine Kd.C_drewN ?_ _) | (with_reducible refine Kd.C_drew ?_))); (case side2 => exact (Kd.R_reads' HO519.out).2.1); (case side3 => repeat (first | exact (Kd.C_below HR1.out (by repeat (first | (with_reducible first | exact HB.out | apply below_alloc | apply pw_below_drewN | apply below_drew1) | exact HB.out))) | (with_reducible refine Kd.C_alloc ?_ _) | (with_reducible refine Kd.C_drewN ?_ _) | (with_reducible refine Kd.C_drew ?_))); (case side4 => exact HC1.out); rintro e w17 ⟨v522, rfl, ho0, hb⟩; refine ⟨_, rfl, ?_⟩; have n0_ := Aside0.mk (Kd.R_below (by (with_reducible repeat (first | apply Kd.R_alloc | apply Kd.R_drewN | apply Kd.R_drew)); exact HO_6.out) hb); have n1_ := Aside0.mk (Kd.V_below (by (with_reducible repeat (first | apply Kd.V_alloc | apply Kd.V_drewN | apply Kd.V_drew)); exact HO_7.out) hb); have n2_ := Aside0.mk (Kd.R_below (by (with_reducible repeat (first | apply Kd.R_alloc | apply Kd.R_drewN | apply Kd.R_drew)); exact HO519.out) hb); have n3_ := Aside0.mk (Kd.V_lower (Kd.V_mono (ok' := fun k_ => (w.heap.size ≤ k_) ∧ some k_ ≠ (v510 : Value).ownBlock ∧ some k_ ≠ (.slice Ao16 t517.length co16 : Value).ownBlock) ho0 (fun k_ hk_ => ⟨(Nat.le_trans (below_size (by repeat (first | (with_reducible first | exact HB.out | apply below_alloc | apply pw_below_drewN | apply below_drew1) | exact HB.out))) hk_), (Kd.fresh' (Kd.R_lt (by (with_reducible repeat (first | apply Kd.R_alloc | apply Kd.R_drewN | apply Kd.R_drew)); exact HO_6.out)) k_ hk_), (Kd.fresh' (Kd.R_lt (by (with_reducible repeat (first | apply Kd.R_alloc | apply Kd.R_drewN | apply Kd.R_drew)); exact HO519.out)) k_ hk_)⟩)) (below_size (by repeat (first | (with_reducible first | exact HB.out | apply below_alloc | apply pw_below_drewN | apply below_drew1) | exact HB.out)))); have n4_ := Aside0.mk (below_step (by repeat (first | (with_reducible first | exact HB.out | apply below_alloc | apply pw_below_drewN | apply below_drew1) | exact HB.out)) hb); clear HO_6; clear HO_7; clear HO519; clear HB; have HO_6 := n0_; have HO_7 := n1_; have HO519 := n2_; have HO523 := n3_; have HB := n4_; clear n0_ n1_ n2_ n3_ n4_; (try clear hb); (try clear hb2); (try clear hk); (try clear hi); (try clear ho0)))
       go_loopg [9, 10] k1 (fun kq v9 v10 w' => ∃ (x9_2 : Int) (x10_2 : Int), v9 = .int .i64 x9_2 ∧ v10 = .int .i64 x10_2 ∧ Aside0 (chaffref01_Div.l1 kq l0 l1 x6_1 t521 x8_1 x9_2 x10_2 = some (r1, r2)) ∧ Aside0 (kq ≤ k1) ∧ Aside0 (Kd.R (Kd.int .i64) 3 w' w.heap.size (fun k_ => (w.heap.size ≤ k_)) v510 x6_1) ∧ Aside0 (Kd.V (Kd.int .i64) 3 w' w.heap.size (fun k_ => (w.heap.size ≤ k_) ∧ some k_ ≠ (v510 : Value).ownBlock) v522 t521) ∧ Aside0 (Below w.heap.size w w'))
       case atStart => exact ⟨(1), (0), (by first | rfl | (simp; done) | (simp [*]; done)), (by first | rfl | (simp; done) | (simp [*]; done)), H', ⟨Nat.le_refl _⟩, ⟨by (with_reducible repeat (first | apply Kd.R_alloc | apply Kd.R_drewN | apply Kd.R_drew)); exact Kd.R_mono HO_6.out (fun _ hk => hk.1)⟩, ⟨by (with_reducible repeat (first | apply Kd.V_alloc | apply Kd.V_drewN | apply Kd.V_drew)); exact Kd.V_mono HO523.out (fun _ hk => ⟨hk.1, hk.2.1⟩)⟩, ⟨by repeat (first | (with_reducible first | exact HB.out | apply below_alloc | apply pw_below_drewN | apply below_drew1) | exact HB.out)⟩⟩
       case round =>
        clear H'
        try clear c1
        try clear c2
        try clear p2
        try clear c3
        try clear c3b0
        try clear c3b1
        try clear c4
        try clear c4b0
        try clear c4b1
        try clear p6
        try clear c7
        try clear c8
        try clear c8b0
        try clear c12
        try clear c12b0
        try clear p2
        try clear p6
        obtain ⟨x9_2, x10_2, rfl, rfl, HA, HK2, HO_6, HO_7, HB⟩ := hrel
        cases gk with
        | zero => exact absurd HA.out (by simp [chaffref01_Div.l1])
        | succ k2 =>
         have H := HA.out
         clear HA
         simp only [chaffref01_Div.l1] at H
         by_cases c18 : x10_2 < (Int.tmod x8_1 16)
         ·rw [if_pos c18] at H
          have c18b0 : decide (x10_2 < (Int.tmod x8_1 16)) = true := decide_eq_true c18
          clear c18
          have H' := Aside0.mk H
          clear H
          go_wp2
          go_roundg k2
          case measure => have := HK1.out; have := HK2.out; omega
          case rel => exact ⟨(wrap64 (x9_2 * 2)), (wrap64 (x10_2 + 1)), (by first | rfl | (simp; done) | (simp [*]; done)), (by first | rfl | (simp; done) | (simp [*]; done)), H', ⟨by have := HK1.out; have := HK2.out; omega⟩, ⟨by (with_reducible repeat (first | apply Kd.R_alloc | apply Kd.R_drewN | apply Kd.R_drew)); exact HO_6.out⟩, ⟨by (with_reducible repeat (first | apply Kd.V_alloc | apply Kd.V_drewN | apply Kd.V_drew)); exact HO_7.out⟩, ⟨by repeat (first | (with_reducible first | exact HB.out | apply below_alloc | apply pw_below_drewN | apply below_drew1) | exact HB.out)⟩⟩
         ·rw [if_neg c18] at H
          have c18b0 : decide (x10_2 < (Int.tmod x8_1 16)) = false := decide_eq_false c18
          clear c18
          obtain ⟨ji19, hji19⟩ : ∃ j_ : Int, (wrap64 (Int.tdiv x8_1 16)) = j_ := ⟨_, rfl⟩
          replace H : (if 0 ≤ (ji19) then (if (ji19) < (x6_1.length : Int) then (chaffref01_Div.l0 k2 l0 l1 (x6_1.set ((ji19) : Int).toNat (wrap64 ((rd x6_1 (ji19)) + x9_2))) t521 (wrap64 (x8_1 - 1))) else (none)) else (none)) = some (r1, r2) := by first | (rw [hji19] at H; exact H) | (simp only [hji19] at H ⊢; exact H)
          have hji19w : (IntKind.i64.wrap (Int.tdiv x8_1 16)) = ji19 := (i64_w _).trans hji19
          by_cases c20 : 0 ≤ (ji19)
          ·rw [if_pos c20] at H
           have c20b0 : decide (0 ≤ (ji19)) = true := decide_eq_true c20
           clear c20
           by_cases c21 : (ji19) < (x6_1.length : Int)
           ·rw [if_pos c21] at H
            have c21b0 : decide ((ji19) < (x6_1.length : Int)) = true := decide_eq_true c21
            clear c21
            obtain ⟨y525, hy525⟩ : ∃ y_ : List Int, y_ = (x6_1.set ((ji19) : Int).toNat (wrap64 ((rd x6_1 (ji19)) + x9_2))) := ⟨_, rfl⟩
            replace H : (chaffref01_Div.l0 k2 l0 l1 y525 t521 (wrap64 (x8_1 - 1))) = some (r1, r2) := by first | (rw [hy525]; with_reducible exact H) | (have H2_ := (Option.bind_some _ _).symm.trans H; rw [hy525]; with_reducible exact H2_) | (have H2_ := (Option.bind_some _ _).symm.trans H; with_reducible exact H2_) | with_reducible exact H | (rw [hy525]; exact H) | exact H
            have Ny525 := Aside0.mk hy525
            clear hy525
            have H' := Aside0.mk H
            clear H
            obtain ⟨Ao23, co23, eo23⟩ := Kd.R_slice HO_6.out
            subst eo23
            have p524 : 0 ≤ ((ji19) : Int) := of_decide_eq_true (by first | (with_reducible assumption) | assumption)
            have q524 : (ji19) < (x6_1.length : Int) := of_decide_eq_true (by first | (with_reducible assumption) | assumption)
            obtain ⟨ad524, e524, hx524_0⟩ := Kd.at_int (Kd.R_reads' HO_6.out).2.2 (ji19) p524 q524
            cases e524
            replace p524 := eq_true p524
            replace q524 := eq_true q524
            have p22 : 0 ≤ ((ji19) : Int) := of_decide_eq_true (by first | (with_reducible assumption) | assumption)
            have q22 : ((ji19) : Int) < ((x6_1.length : Int) : Int) := of_decide_eq_true (by first | (with_reducible assumption) | assumption)
            obtain ⟨go22, co22, eo22, gb22, gl22, cl22, HG22⟩ := Kd.R_form HO_6.out (by omega)
            (first | cases eo22 | (injection eo22 with ea_ en_ ec_; (first | subst ea_ | (injection ea_ with ea_; subst ea_)); subst ec_; clear en_))
            have GB22 := Aside0.mk gb22
            have GG22 := Aside0.mk HG22
            clear gb22 gl22 HG22
            (first | simp only [add_plain] at hx524_0 | skip)
            obtain ⟨hx22_0, hf22_0⟩ := Kd.R_celln 0 HO_6.out ((ji19) : Int) p22 q22
            replace p22 := eq_true p22
            replace q22 := eq_true q22
            have HP24 := Kd.R_putg HO_6.out ((ji19) : Int) (wrap64 ((rd x6_1 (ji19)) + x9_2))
            go_wp2_with (first | ((with_reducible refine gate_store (t := 3) (p := 51) rfl ?_); refine store_event (t := 3) (p := 51) (v := ?vo_w25) (w1 := (wr.setCell ⟨go22, ((ji19) : Int).toNat, none⟩ (.int .i64 (wrap64 ((rd x6_1 (ji19)) + x9_2))))) ?hg ?ho ?hn ?hr ?_; (case ho => rfl); (case hg => rfl); (case hn => rfl); (case hr => first | (go_simp; done) | (go_simp; rfl)); intro w25 hw; have hg : wr.grownBy w25 (some go22) := (by rw [hw]; exact HP24.2); have hp_ : Kd.R (Kd.int .i64) 3 w25 w.heap.size (fun k_ => (w.heap.size ≤ k_)) (.slice (some ⟨go22, 0, none⟩) x6_1.length co23) y525 := (by rw [hw, Ny525.out]; exact HP24.1); clear HP24; have n0_ := Aside0.mk (hp_); have n1_ := Aside0.mk (Kd.V_afterv (v := (.slice (some ⟨go22, 0, none⟩) x6_1.length co23)) (v1 := (.slice (some ⟨go22, 0, none⟩) x6_1.length co23)) (ok := (fun k_ => (w.heap.size ≤ k_))) (by (with_reducible repeat (first | apply Kd.V_alloc | apply Kd.V_drewN | apply Kd.V_drew)); exact HO_7.out) hg (.inl rfl)); have n2_ := Aside0.mk ((by rw [hw]; exact below_set (HB.out) GB22.out : Below w.heap.size w w25)); clear HO_6; clear HO_7; clear HB; have HO_6 := n0_; have HO_7 := n1_; have HB := n2_; clear n0_ n1_ n2_; clear hg hw hp_))
            go_roundg k2
            case measure => have := HK1.out; have := HK2.out; omega
            case rel => exact ⟨(y525), (t521), (wrap64 (x8_1 - 1)), (by first | rfl | (simp; done) | (simp [*]; done)), H', ⟨by have := HK1.out; have := HK2.out; omega⟩, ⟨by (with_reducible repeat (first | apply Kd.R_alloc | apply Kd.R_drewN | apply Kd.R_drew)); exact HO_6.out⟩, ⟨by (with_reducible repeat (first | apply Kd.V_alloc | apply Kd.V_drewN | apply Kd.V_drew)); exact HO_7.out⟩, ⟨by repeat (first | (with_reducible first | exact HB.out | apply below_alloc | apply pw_below_drewN | apply below_drew1) | exact HB.out)⟩⟩
           ·rw [if_neg c21] at H
            exact absurd H (by simp)
          ·rw [if_neg c20] at H
           exact absurd H (by simp)
      ·rw [if_neg c12] at H
       have c12b0 : decide (0 ≤ t520) = false := decide_eq_false c12
       clear c12
       have H' := Aside0.mk H
       clear H
       go_wp2_with (first | ((with_reducible refine gate_callee (f := 84) rfl ?_); refine goesL_ (some 24) rfl rfl Tryd.func84 (by kernel_rfl) rfl #[.slice A0 l0.length c0, .int .i64 x8_1] rfl (by (try simp only [List.map_toArray, List.map_cons, List.map_nil]); first | done | rfl | (simp only [List.length_drop, List.length_take]; rfl)) ?_; (with_reducible refine (chaffref01_Bit.calls k1 _ _ l0 x8_1 t516 _ ?side1 ?side2 A9.out).mono ?_); (case side1 => repeat (first | exact (Kd.C_below HR0.out HB.out) | (with_reducible refine Kd.C_alloc ?_ _) | (with_reducible refine Kd.C_drewN ?_ _) | (with_reducible refine Kd.C_drew ?_))); (case side2 => exact HC0.out); rintro e w' ⟨rfl, ⟨nd, rfl⟩⟩; refine ⟨_, rfl, ?_⟩; obtain ⟨Ao26, co26, eo26⟩ := Kd.V_slice HO_7.out; subst eo26) | ((with_reducible refine gate_callee (f := 77) rfl ?_); refine goesL_ (some 25) rfl rfl Tryd.func77 (by kernel_rfl) rfl #[.slice Ao26 x7_1.length co26, .int .i64 t516] rfl (by (try simp only [List.map_toArray, List.map_cons, List.map_nil]); first | done | rfl | (simp only [List.length_drop, List.length_take]; rfl)) ?_; (with_reducible refine (chaffref01_twice.calls _ _ x7_1 t516 t517 _ ?side1 ?side2 A10.out).mono ?_); (case side1 => repeat (first | exact (Kd.V_reads' HO_7.out).2.2 | (with_reducible refine Kd.C_alloc ?_ _) | (with_reducible refine Kd.C_drewN ?_ _) | (with_reducible refine Kd.C_drew ?_))); (case side2 => exact (Kd.V_reads' HO_7.out).2.1); rintro e w27 ⟨v518, rfl, ho0, hb⟩; refine ⟨_, rfl, ?_⟩; have n0_ := Aside0.mk (Kd.R_elder' (by (with_reducible repeat (first | apply Kd.R_alloc | apply Kd.R_drewN | apply Kd.R_drew)); exact HO_6.out) (Kd.R_base ho0) hb); have n1_ := Aside0.mk (Kd.V_elder' (by (with_reducible repeat (first | apply Kd.V_alloc | apply Kd.V_drewN | apply Kd.V_drew)); exact HO_7.out) (Kd.R_base ho0) hb); have n2_ := Aside0.mk (Kd.R_lower (Kd.R_new' (Kd.R_newM (M := fun k_ => (w.heap.size ≤ k_)) ho0 (below_size (by repeat (first | (with_reducible first | exact HB.out | apply below_alloc | apply pw_below_drewN | apply below_drew1) | exact HB.out))) (fun k_ h_ => h_)) (Kd.R_lt (by (with_reducible repeat (first | apply Kd.R_alloc | apply Kd.R_drewN | apply Kd.R_drew)); exact HO_6.out))) (below_size (by repeat (first | (with_reducible first | exact HB.out | apply below_alloc | apply pw_below_drewN | apply below_drew1) | exact HB.out)))); have n3_ := Aside0.mk (below_step (by repeat (first | (with_reducible first | exact HB.out | apply below_alloc | apply pw_below_drewN | apply below_drew1) | exact HB.out)) hb); clear HO_6; clear HO_7; clear HB; have HO_6 := n0_; have HO_7 := n1_; have HO519 := n2_; have HB := n3_; clear n0_ n1_ n2_ n3_; (try clear hb); (try clear hb2); (try clear hk); (try clear hi); (try clear ho0); obtain ⟨Ao28, co28, eo28⟩ := Kd.R_slice HO519.out; subst eo28) | ((with_reducible refine gate_callee (f := 37) rfl ?_); refine goesL_ (some 28) rfl rfl Tryd.func37 (by kernel_rfl) rfl #[.slice Ao28 t517.length co28, .slice A1 l1.length c1] rfl (by (try simp only [List.map_toArray, List.map_cons, List.map_nil]); first | done | rfl | (simp only [List.length_drop, List.length_take]; rfl)) ?_; (with_reducible refine (chaffref01_Cmp.calls k1 _ _ t517 _ _ l1 t520 _ ?side1 ?side2 ?side3 ?side4 A11.out).mono ?_); (case side1 => repeat (first | exact (Kd.R_reads' HO519.out).2.2 | (with_reducible refine Kd.C_alloc ?_ _) | (with_reducible refine Kd.C_drewN ?_ _) | (with_reducible refine Kd.C_drew ?_))); (case side2 => exact (Kd.R_reads' HO519.out).2.1); (case side3 => repeat (first | exact (Kd.C_below HR1.out HB.out) | (with_reducible refine Kd.C_alloc ?_ _) | (with_reducible refine Kd.C_drewN ?_ _) | (with_reducible refine Kd.C_drew ?_))); (case side4 => exact HC1.out); rintro e w' ⟨rfl, ⟨nd, rfl⟩⟩; refine ⟨_, rfl, ?_⟩))
       go_roundg k1
       case measure => have := HK1.out; omega
       case rel => exact ⟨(x6_1), (t517), (wrap64 (x8_1 - 1)), (by first | rfl | (simp; done) | (simp [*]; done)), H', ⟨by have := HK1.out; omega⟩, ⟨by (with_reducible repeat (first | apply Kd.R_alloc | apply Kd.R_drewN | apply Kd.R_drew)); exact Kd.R_mono HO_6.out (fun _ hk => hk.1)⟩, ⟨Kd.R_V (by (with_reducible repeat (first | apply Kd.R_alloc | apply Kd.R_drewN | apply Kd.R_drew)); exact Kd.R_mono HO519.out (fun _ hk => ⟨hk.1.1, hk.2⟩))⟩, ⟨by repeat (first | (with_reducible first | exact HB.out | apply below_alloc | apply pw_below_drewN | apply below_drew1) | exact HB.out)⟩⟩
     ·rw [if_neg c8] at H
      have c8b0 : decide (0 ≤ x8_1) = false := decide_eq_false c8
      clear c8
      replace H := Option.bind_eq_some_iff.mp H
      obtain ⟨t513, A290, H⟩ := H
      replace H : (some (t513, x7_1)) = some (r1, r2) := H
      have A29 := Aside0.mk A290
      clear A290
      simp only [Option.some.injEq, Prod.mk.injEq] at H
      obtain ⟨rfl, rfl⟩ := H
      obtain ⟨Ao30, co30, eo30⟩ := Kd.R_slice HO_6.out
      subst eo30
      go_wp2_with (first | ((with_reducible refine gate_callee (f := 63) rfl ?_); refine goesL_ (some 53) rfl rfl Tryd.func63 (by kernel_rfl) rfl #[.slice Ao30 x6_1.length co30] rfl (by (try simp only [List.map_toArray, List.map_cons, List.map_nil]); first | done | rfl | (simp only [List.length_drop, List.length_take]; rfl)) ?_; (with_reducible refine (chaffref01_trim.calls k1 (fun k_ => some k_ = (.slice Ao30 x6_1.length co30 : Value).ownBlock) _ _ x6_1 t513 _ ?side1 A29.out).mono ?_); (case side1 => exact Kd.R_V (Kd.R_tight rfl (HO_6.out))); rintro e w31 ⟨v514, rfl, ho0, hb⟩; refine ⟨_, rfl, ?_⟩; have n0_ := Aside0.mk (Kd.R_below (by (with_reducible repeat (first | apply Kd.R_alloc | apply Kd.R_drewN | apply Kd.R_drew)); exact HO_6.out) hb); have n1_ := Aside0.mk (Kd.V_below (by (with_reducible repeat (first | apply Kd.V_alloc | apply Kd.V_drewN | apply Kd.V_drew)); exact HO_7.out) hb); have n2_ := Aside0.mk (Kd.V_lower (Kd.V_mono (ok' := fun k_ => (w.heap.size ≤ k_)) ho0 (fun k_ hk_ => Or.elim hk_ (fun hs_ => ((HO_6.out).1 k_ hs_.symm)) (fun hn_ => (Nat.le_trans (below_size (by repeat (first | (with_reducible first | exact HB.out | apply below_alloc | apply pw_below_drewN | apply below_drew1) | exact HB.out))) hn_)))) (below_size (by repeat (first | (with_reducible first | exact HB.out | apply below_alloc | apply pw_below_drewN | apply below_drew1) | exact HB.out)))); have n3_ := Aside0.mk (below_step (by repeat (first | (with_reducible first | exact HB.out | apply below_alloc | apply pw_below_drewN | apply below_drew1) | exact HB.out)) hb); clear HO_6; clear HO_7; clear HB; have HO_6 := n0_; have HO_7 := n1_; have HO515 := n2_; have HB := n3_; clear n0_ n1_ n2_ n3_; (try clear hb); (try clear hb2); (try clear hk); (try clear hi); (try clear ho0)))
      go_ret2
      exact ⟨_, _, by first | rfl | (simp [errW_none, errW_some] <;> rfl) | (simp [*, errW_none, errW_some] <;> rfl), by (with_reducible repeat (first | apply Kd.V_alloc | apply Kd.V_drewN | apply Kd.V_drew)); exact HO515.out, by (with_reducible repeat (first | apply Kd.V_alloc | apply Kd.V_drewN | apply Kd.V_drew)); exact Kd.V_mono HO_7.out (fun _ hk => hk.1), by repeat (first | (with_reducible first | exact HB.out | apply below_alloc | apply pw_below_drewN | apply below_drew1) | exact HB.out)⟩
  ·rw [if_neg c4] at H
   exact absurd H (by simp)
 ·rw [if_neg c3] at H
  exact absurd H (by simp)
end Go.Proofs.YtgkdealidnidiaaDoor.Na
namespace Go.Proofs.YtgkdealidnidiaaDoor.Na
open Go.RowKit Go.Proofs.YtgkdealidnidiaaDoorW.PrintWords Go.Proofs.YtgkdealidnidiaaDoorW.PrintLast Go.Proofs.YtgkdealidnidiaaDoorW.PrintMore
attribute [local go_sem] max2_int max_two
set_option linter.unusedVariables false
set_option linter.unusedSimpArgs false
def chaffref01_Gcd.l0 : Nat → List Int → List Int → Option (List Int)
 | 0, _, _ => none
 | k + 1, x0, x1 => if (x1.length : Int) > 0 then ((chaffref01_Div.f k x0 x1).bind fun bt526 => (chaffref01_Gcd.l0 k x1 bt526.2)) else (some x0)
def chaffref01_Gcd.f (k : Nat) (l0 : List Int) (l1 : List Int) : Option (List Int) := chaffref01_Gcd.l0 k l0 l1
set_option maxHeartbeats 8000000 in
set_option maxRecDepth 100000 in
theorem chaffref01_Gcd.calls (k : Nat) (P0_ : Nat → Prop) (A0 : Option Addr) (c0 : Nat) (l0 : List Int) (P1_ : Nat → Prop) (A1 : Option Addr) (c1 : Nat) (l1 : List Int) (r : List Int) (w : World) (hs0 : Kd.V (Kd.int .i64) 3 w w.heap.size (fun k_ => P0_ k_) (.slice A0 l0.length c0) l0) (hs1 : Kd.V (Kd.int .i64) 3 w w.heap.size (fun k_ => P1_ k_) (.slice A1 l1.length c1) l1) (h : chaffref01_Gcd.f k l0 l1 = some r) :
  Calls Tryd.prog 43 #[.slice A0 l0.length c0, .slice A1 l1.length c1] w fun e w' => ∃ v0_ : Value, e = .returned (v0_) ∧ Kd.V (Kd.int .i64) 3 w' w.heap.size (fun k_ => ((P0_ k_ ∨ P1_ k_) ∨ w.heap.size ≤ k_)) v0_ r ∧ Below w.heap.size w w' := by
 have HO0 := Aside0.mk (show Kd.V (Kd.int .i64) 3 w w.heap.size (fun k_ => ((P0_ k_ ∨ P1_ k_) ∨ w.heap.size ≤ k_)) (.slice A0 l0.length c0) l0 from Kd.V_mono hs0 (fun k_ hk => .inl (.inl hk)))
 have HO1 := Aside0.mk (show Kd.V (Kd.int .i64) 3 w w.heap.size (fun k_ => ((P0_ k_ ∨ P1_ k_) ∨ w.heap.size ≤ k_)) (.slice A1 l1.length c1) l1 from Kd.V_mono hs1 (fun k_ hk => .inl (.inr hk)))
 have HB := Aside0.mk (Below.refl w.heap.size w)
 have H : (chaffref01_Gcd.l0 k l0 l1) = some r := h
 clear h
 have H' := Aside0.mk H
 clear H
 go_enter Tryd.func43, Tryd.ntmps43
 go_wp2
 go_loopg [0, 1] k (fun kq v0 v1 w' => ∃ (x0_1 : List Int) (x1_1 : List Int), Aside0 (chaffref01_Gcd.l0 kq x0_1 x1_1 = some r) ∧ Aside0 (kq ≤ k) ∧ Aside0 (Kd.V (Kd.int .i64) 3 w' w.heap.size (fun k_ => ((P0_ k_ ∨ P1_ k_) ∨ w.heap.size ≤ k_)) v0 x0_1) ∧ Aside0 (Kd.V (Kd.int .i64) 3 w' w.heap.size (fun k_ => ((P0_ k_ ∨ P1_ k_) ∨ w.heap.size ≤ k_)) v1 x1_1) ∧ Aside0 (Below w.heap.size w w'))
 case atStart => exact ⟨(l0), (l1), H', ⟨Nat.le_refl _⟩, ⟨by (with_reducible repeat (first | apply Kd.V_alloc | apply Kd.V_drewN | apply Kd.V_drew)); exact HO0.out⟩, ⟨by (with_reducible repeat (first | apply Kd.V_alloc | apply Kd.V_drewN | apply Kd.V_drew)); exact HO1.out⟩, ⟨by repeat (first | (with_reducible first | exact HB.out | apply below_alloc | apply pw_below_drewN | apply below_drew1) | exact HB.out)⟩⟩
 case round =>
  clear H'
  try clear c1
  try clear p2
  obtain ⟨x0_1, x1_1, HA, HK1, HO_0, HO_1, HB⟩ := hrel
  cases gk with
  | zero => exact absurd HA.out (by simp [chaffref01_Gcd.l0])
  | succ k1 =>
   have H := HA.out
   clear HA
   simp only [chaffref01_Gcd.l0] at H
   by_cases c3 : (x1_1.length : Int) > 0
   ·rw [if_pos c3] at H
    have c3b0 : decide (0 < (x1_1.length : Int)) = true := decide_eq_true c3
    have c3b1 : decide (0 < x1_1.length) = true := decide_eq_true (by omega)
    clear c3
    replace H := Option.bind_eq_some_iff.mp H
    obtain ⟨⟨t526, t529⟩, A40, H⟩ := H
    replace H : (chaffref01_Gcd.l0 k1 x1_1 t529) = some r := H
    have A4 := Aside0.mk A40
    clear A40
    have H' := Aside0.mk H
    clear H
    obtain ⟨Ao5, co5, eo5⟩ := Kd.V_slice HO_1.out
    subst eo5
    obtain ⟨Ao6, co6, eo6⟩ := Kd.V_slice HO_0.out
    subst eo6
    go_wp2_with (first | ((with_reducible refine gate_callee (f := 42) rfl ?_); refine goesL_ (some 13) rfl rfl Tryd.func42 (by kernel_rfl) rfl #[.slice Ao6 x0_1.length co6, .slice Ao5 x1_1.length co5] rfl (by (try simp only [List.map_toArray, List.map_cons, List.map_nil]); first | done | rfl | (simp only [List.length_drop, List.length_take]; rfl)) ?_; (with_reducible refine (chaffref01_Div.calls k1 _ _ x0_1 _ _ x1_1 t526 t529 _ ?side1 ?side2 ?side3 ?side4 A4.out).mono ?_); (case side1 => repeat (first | exact (Kd.V_reads' HO_0.out).2.2 | (with_reducible refine Kd.C_alloc ?_ _) | (with_reducible refine Kd.C_drewN ?_ _) | (with_reducible refine Kd.C_drew ?_))); (case side2 => exact (Kd.V_reads' HO_0.out).2.1); (case side3 => repeat (first | exact (Kd.V_reads' HO_1.out).2.2 | (with_reducible refine Kd.C_alloc ?_ _) | (with_reducible refine Kd.C_drewN ?_ _) | (with_reducible refine Kd.C_drew ?_))); (case side4 => exact (Kd.V_reads' HO_1.out).2.1); rintro e w7 ⟨v527, v530, rfl, ho0, ho1, hb⟩; refine ⟨_, rfl, ?_⟩; have n0_ := Aside0.mk (Kd.V_below (by (with_reducible repeat (first | apply Kd.V_alloc | apply Kd.V_drewN | apply Kd.V_drew)); exact HO_0.out) hb); have n1_ := Aside0.mk (Kd.V_below (by (with_reducible repeat (first | apply Kd.V_alloc | apply Kd.V_drewN | apply Kd.V_drew)); exact HO_1.out) hb); have n2_ := Aside0.mk (Kd.V_lower (Kd.V_mono (ok' := fun k_ => ((P0_ k_ ∨ P1_ k_) ∨ w.heap.size ≤ k_)) ho0 (fun k_ hk_ => (.inr (Nat.le_trans (below_size (by repeat (first | (with_reducible first | exact HB.out | apply below_alloc | apply pw_below_drewN | apply below_drew1) | exact HB.out))) hk_)))) (below_size (by repeat (first | (with_reducible first | exact HB.out | apply below_alloc | apply pw_below_drewN | apply below_drew1) | exact HB.out)))); have n3_ := Aside0.mk (Kd.V_lower (Kd.V_mono (ok' := fun k_ => ((P0_ k_ ∨ P1_ k_) ∨ w.heap.size ≤ k_)) ho1 (fun k_ hk_ => (.inr (Nat.le_trans (below_size (by repeat (first | (with_reducible first | exact HB.out | apply below_alloc | apply pw_below_drewN | apply below_drew1) | exact HB.out))) hk_)))) (below_size (by repeat (first | (with_reducible first | exact HB.out | apply below_alloc | apply pw_below_drewN | apply below_drew1) | exact HB.out)))); have n4_ := Aside0.mk (below_step (by repeat (first | (with_reducible first | exact HB.out | apply below_alloc | apply pw_below_drewN | apply below_drew1) | exact HB.out)) hb); clear HO_0; clear HO_1; clear HB; have HO_0 := n0_; have HO_1 := n1_; have HO528 := n2_; have HO531 := n3_; have HB := n4_; clear n0_ n1_ n2_ n3_ n4_; (try clear hb); (try clear hb2); (try clear hk); (try clear hi); (try clear ho0); (try clear ho1)))
    go_roundg k1
    case measure => have := HK1.out; omega
    case rel => exact ⟨(x1_1), (t529), H', ⟨by have := HK1.out; omega⟩, ⟨by (with_reducible repeat (first | apply Kd.V_alloc | apply Kd.V_drewN | apply Kd.V_drew)); exact HO_1.out⟩, ⟨by (with_reducible repeat (first | apply Kd.V_alloc | apply Kd.V_drewN | apply Kd.V_drew)); exact HO531.out⟩, ⟨by repeat (first | (with_reducible first | exact HB.out | apply below_alloc | apply pw_below_drewN | apply below_drew1) | exact HB.out)⟩⟩
   ·rw [if_neg c3] at H
    have c3b0 : decide (0 < (x1_1.length : Int)) = false := decide_eq_false c3
    have c3b1 : decide (0 < x1_1.length) = false := decide_eq_false (by omega)
    clear c3
    obtain rfl := Option.some.inj H
    obtain ⟨Ao8, co8, eo8⟩ := Kd.V_slice HO_1.out
    subst eo8
    go_wp2
    go_ret
    exact ⟨_, by first | rfl | (simp [errW_none, errW_some] <;> rfl) | (simp [*, errW_none, errW_some] <;> rfl), by (with_reducible repeat (first | apply Kd.V_alloc | apply Kd.V_drewN | apply Kd.V_drew)); exact HO_0.out, by repeat (first | (with_reducible first | exact HB.out | apply below_alloc | apply pw_below_drewN | apply below_drew1) | exact HB.out)⟩
end Go.Proofs.YtgkdealidnidiaaDoor.Na
namespace Go.Proofs.YtgkdealidnidiaaDoor.Na
open Go.RowKit Go.Proofs.YtgkdealidnidiaaDoorW.PrintWords Go.Proofs.YtgkdealidnidiaaDoorW.PrintLast Go.Proofs.YtgkdealidnidiaaDoorW.PrintMore Go.Proofs.YtgkdealidnidiaaDoor.Dg
theorem tw_R : ∀ (l : List Int) (c : Int), R BD l → 0 ≤ c → c ≤ 1 → R BD (twL l c)
 | [], c, _, h0, h1 => by
  unfold twL; split
  ·exact R_one h0 (by rw [BDi]; omega)
  ·exact R_nil _
 | x :: l, c, hR, h0, h1 => by
  have hx := (R_cons.1 hR).1
  rw [BDi] at hx
  exact R_cons.2 ⟨by rw [BDi]; omega, tw_R l _ (R_cons.1 hR).2 (by omega) (by omega)⟩
theorem tw_V : ∀ (l : List Int) (c : Int), R BD l → 0 ≤ c → V BD (twL l c) = 2 * V BD l + c
 | [], c, _, h0 => by
  unfold twL; split
  ·simp [V]
  ·simp [V]; omega
 | x :: l, c, hR, h0 => by
  have hx := (R_cons.1 hR).1
  rw [BDi] at hx
  have := tw_V l ((2 * x + c) / 65536) (R_cons.1 hR).2 (by omega)
  rw [twL, V, V, BDi]
  rw [BDi] at this
  rw [this]; omega
theorem tw_NZ : ∀ (l : List Int) (c : Int), R BD l → NZ l → 0 ≤ c → NZ (twL l c)
 | [], c, _, _, h0 => by
  unfold twL; split
  ·exact .inr ⟨[], c, rfl, by omega⟩
  ·exact .inl rfl
 | x :: l, c, hR, hN, h0 => by
  have hx := (R_cons.1 hR).1
  rw [BDi] at hx
  rw [twL]
  have ih := tw_NZ l ((2 * x + c) / 65536) (R_cons.1 hR).2 (NZ_tail hN) (by omega)
  rcases ih with h | ⟨m, y, h, hy⟩
  ·rcases NZ_cons hN with ⟨rfl, hx0⟩ | ⟨hl, hN2⟩
   ·unfold twL at h
    split at h
    ·cases h
    ·refine .inr ⟨[], (2 * x + c) % 65536, ?_, by omega⟩
     unfold twL; rw [if_neg (by omega)]; rfl
   ·cases l with
    | nil => exact absurd rfl hl
    | cons z l => rw [twL] at h; cases h
  ·exact .inr ⟨(2 * x + c) % 65536 :: m, y, by rw [h]; rfl, hy⟩
theorem tw_some {l : List Int} {c : Int} (hR : R BD l) (h0 : 0 ≤ c) (h1 : c ≤ 1) (hl : l.length ≤ 1000000000) : chaffref01_twice.f l c = some (twL l c) := by
 unfold chaffref01_twice.f
 rw [if_pos ⟨List.all_eq_true.2 fun x hx => decide_eq_true (by have := hR x hx; rw [BDi] at this; exact this), ⟨h0, h1⟩, hl⟩]
theorem tw_wd (x bit : Nat) (hb : bit ≤ 1) (hl : (wd BD x).length ≤ 1000000000) : chaffref01_twice.f (wd BD x) bit = some (wd BD (2 * x + bit)) := by
 rw [tw_some (wd_R (by decide) x) (by omega) (by omega) hl]
 congr 1
 exact eq_wd' (by decide) (tw_R _ bit (wd_R (by decide) x) (by omega) (by omega)) (tw_NZ _ bit (wd_R (by decide) x) (wd_NZ (by decide) x) (by omega)) (by rw [tw_V _ _ (wd_R (by decide) x) (by omega), wd_V (by decide)]; omega)
theorem pw_le {b : Int} (hb : 0 < b) {m n : Nat} (h : m ≤ n) : b ^ m ≤ b ^ n := by
 obtain ⟨d, rfl⟩ : ∃ d, n = m + d := ⟨n - m, by omega⟩
 have h1 := pw_pos hb m
 have h2 := pw_pos hb d
 have := Int.mul_le_mul_of_nonneg_left (show 1 ≤ b ^ d by omega) (Int.le_of_lt h1)
 rw [Int.pow_add]; omega
theorem len_twice {r z k : Nat} (h : (wd BD r).length ≤ k) (hz : z ≤ 2 * r + 1) : (wd BD z).length ≤ k + 1 := by
 rw [len_le_iff (by decide)] at h ⊢
 rw [Nat.pow_succ]
 have e : BD = 65536 := rfl
 generalize BD ^ k = M at h ⊢
 rw [e]; omega
theorem wrap_twice {P : Nat} (h : P ≤ 32768) : wrap64 ((P : Int) * 2) = ((P * 2 : Nat) : Int) := by rw [w64 (by omega) (by omega)]; omega
theorem wrap_sum {A P : Nat} (h : A + P < 65536) : wrap64 ((A : Int) + (P : Int)) = ((A + P : Nat) : Int) := by rw [w64 (by omega) (by omega)]; omega
theorem getD_V {b : Int} (hb : 0 < b) {l : List Int} (hR : R b l) (i : Nat) : l.getD i 0 = V b l / b ^ i % b := by
 have hp := pw_pos hb i
 by_cases h : i < l.length
 ·have s := V_split b l i
  have t0 := V_nonneg hb (R_take hR i)
  have t1 := V_lt hb (R_take hR i)
  rw [List.length_take, Nat.min_eq_left (by omega)] at s t1
  rw [V_drop b l i h] at s
  have r := R_getD hR hb i
  have e : V b l / b ^ i = l.getD i 0 + b * V b (l.drop (i + 1)) := by
   rw [s, Int.add_mul_ediv_left _ _ (by omega), Int.ediv_eq_zero_of_lt t0 t1, Int.zero_add]
  rw [e, Int.add_mul_emod_self_left, Int.emod_eq_of_lt r.1 r.2]
 ·have t0 := V_nonneg hb hR
  have t1 := V_lt hb hR
  have : b ^ l.length ≤ b ^ i := pw_le hb (by omega)
  rw [List.getD_eq_getElem?_getD, List.getElem?_eq_none (by omega), Int.ediv_eq_zero_of_lt t0 (by omega)]; simp
theorem getD_N {b m : Nat} (hb : 2 ≤ b) {l : List Int} (hR : R b l) (hV : V b l = m) (i : Nat) : l.getD i 0 = ((m / b ^ i % b : Nat) : Int) := by
 rw [getD_V (by omega) hR, hV]; simp
theorem half_mod (y k : Nat) (hk : k < 16) : y % 65536 / 2 ^ k % 2 = y / 2 ^ k % 2 := by
 have e : 65536 = 2 ^ k * (2 * 2 ^ (15 - k)) := by
  rw [← Nat.mul_assoc, ← Nat.pow_succ, ← Nat.pow_add, show k + 1 + (15 - k) = 16 by omega]
 rw [e, Nat.mod_mul_right_div_self, Nat.mod_mul_right_mod]
theorem pow_split (x n : Nat) : x / 2 ^ n = x / 65536 ^ (n / 16) / 2 ^ (n % 16) := by
 rw [Nat.div_div_eq_div_mul, show 65536 = 2 ^ 16 by decide, ← Nat.pow_mul, ← Nat.pow_add, show 16 * (n / 16) + n % 16 = n by omega]
theorem bit_loop (n : Nat) (hn : n ≤ 1000000000) : ∀ (d j : Nat) (x : Nat), j + d = n % 16 → x < 65536 → Ev (fun k => chaffref01_Bit.l0 k n x j) ((x / 2 ^ d % 2 : Nat) : Int)
 | 0, j, x, hj, hx => by
  refine Ev.step (f := fun _ => some ((x / 2 ^ 0 % 2 : Nat) : Int)) (fun k => ?_) (Ev.now _)
  rw [chaffref01_Bit.l0, tmod_nn (by omega), if_neg (by omega), tmod_nn (by omega)]; simp
 | d + 1, j, x, hj, hx => by
  have ih := bit_loop n hn d (j + 1) (x / 2) (by omega) (by omega)
  rw [Nat.div_div_eq_div_mul, show 2 * 2 ^ d = 2 ^ (d + 1) by rw [Nat.pow_succ, Nat.mul_comm]] at ih
  refine Ev.step (fun k => ?_) ih
  have g : (j : Int) < (n : Int) % 16 := by omega
  have E := Aside0.mk (And.intro (show wrap64 (Int.tdiv (x : Int) 2) = ((x / 2 : Nat) : Int) by rw [tdiv_nn (by omega), w64 (by omega) (by omega)]; omega) (show wrap64 ((j : Int) + 1) = ((j + 1 : Nat) : Int) by rw [w64 (by omega) (by omega)]; rfl))
  rw [chaffref01_Bit.l0, tmod_nn (by omega), if_pos g, E.out.1, E.out.2]
theorem bit_ev (x n : Nat) (hn : n ≤ 1000000000) : Ev (fun k => chaffref01_Bit.f k (wd BD x) n) ((x / 2 ^ n % 2 : Nat) : Int) := by
 have hd := getD_N (b := BD) (m := x) (by decide) (wd_R (by decide) x) (wd_V (by decide) x) (n / 16)
 have hlt : x / BD ^ (n / 16) % BD < 65536 := Nat.mod_lt _ (by decide)
 have ih := bit_loop n hn (n % 16) 0 (x / BD ^ (n / 16) % BD) (by omega) hlt
 rw [half_mod _ _ (Nat.mod_lt _ (by decide)), ← pow_split] at ih
 refine Ev.congr (fun k => ?_) ih
 have E := Aside0.mk (show wrap64 (Int.tdiv (n : Int) 16) = ((n / 16 : Nat) : Int) by rw [tdiv_nn (by omega), w64 (by omega) (by omega)]; omega)
 unfold chaffref01_Bit.f
 rw [E.out, at_some, Option.bind_some, hd]; rfl
theorem pw_loop (i : Nat) (hi : i ≤ 1000000000) (a b q r : List Int) (z : List Int × List Int) : ∀ (d j : Nat), j + d = i % 16 →
  Ev (fun k => chaffref01_Div.l1 k a b q r i ((2 ^ (i % 16) : Nat) : Int) ((i % 16 : Nat) : Int)) z → Ev (fun k => chaffref01_Div.l1 k a b q r i ((2 ^ j : Nat) : Int) j) z
 | 0, j, hj, h => by
  obtain rfl : j = i % 16 := by omega
  exact h
 | d + 1, j, hj, h => by
  refine Ev.step (fun k => ?_) (pw_loop i hi a b q r z d (j + 1) (by omega) h)
  have g : (j : Int) < (i : Int) % 16 := by omega
  have hp : 2 ^ j ≤ 2 ^ 15 := Nat.pow_le_pow_right (by decide) (by omega)
  have E := Aside0.mk (And.intro (show wrap64 (((2 ^ j : Nat) : Int) * 2) = ((2 ^ (j + 1) : Nat) : Int) by rw [Nat.pow_succ]; exact wrap_twice hp) (show wrap64 ((j : Int) + 1) = ((j + 1 : Nat) : Int) by rw [w64 (by omega) (by omega)]; rfl))
  rw [chaffref01_Div.l1, tmod_nn (by omega), if_pos g, E.out.1, E.out.2]
theorem digit_room {Q k : Nat} (hk : k < 16) : (Q * 2 ^ (k + 1)) % 65536 + 2 ^ k < 65536 := by
 have e : 65536 = 2 ^ (k + 1) * 2 ^ (15 - k) := by rw [← Nat.pow_add, show k + 1 + (15 - k) = 16 by omega]
 have h1 : (Q * 2 ^ (k + 1)) % 65536 = 2 ^ (k + 1) * (Q % 2 ^ (15 - k)) := by
  rw [Nat.mul_comm Q, e, Nat.mul_mod_mul_left]
 have h2 : Q % 2 ^ (15 - k) + 1 ≤ 2 ^ (15 - k) := Nat.mod_lt _ (Nat.pow_pos (by decide))
 have h3 : 2 ^ (k + 1) * (Q % 2 ^ (15 - k) + 1) ≤ 2 ^ (k + 1) * 2 ^ (15 - k) := Nat.mul_le_mul_left _ h2
 have h4 : 2 ^ (k + 1) = 2 ^ k + 2 ^ k := by rw [Nat.pow_succ]; omega
 have h5 : 0 < 2 ^ k := Nat.pow_pos (by decide)
 rw [← e, Nat.mul_add] at h3
 omega
theorem pow_split2 (Q i : Nat) : Q * 2 ^ (i + 1) / 65536 ^ (i / 16) = Q * 2 ^ (i % 16 + 1) := by
 have e : 2 ^ (i + 1) = 2 ^ (i % 16 + 1) * 65536 ^ (i / 16) := by
  rw [show 65536 = 2 ^ 16 by decide, ← Nat.pow_mul, ← Nat.pow_add, show i % 16 + 1 + 16 * (i / 16) = i + 1 by omega]
 rw [e, ← Nat.mul_assoc, Nat.mul_div_cancel _ (Nat.pow_pos (by decide))]
theorem half_step {x y q r i : Nat} (hr : x / 2 ^ (i + 1) = q * y + r) : x / 2 ^ i = 2 * (q * y + r) + x / 2 ^ i % 2 := by
 rw [← hr, Nat.pow_succ, ← Nat.div_div_eq_div_mul]; omega
theorem rdiv_loop (x y : Nat) (hy : 0 < y) (hx : (wd BD x).length ≤ 1000000) (hyl : (wd BD y).length ≤ 1000000) : ∀ (i : Nat) (q : List Int) (Q r : Nat), i ≤ 16 * (wd BD x).length → R BD q → q.length = (wd BD x).length → V BD q = ((Q * 2 ^ i : Nat) : Int) → x / 2 ^ i = Q * y + r → r < y →
  Ev (fun k => chaffref01_Div.l0 k (wd BD x) (wd BD y) q (wd BD r) ((i : Int) - 1)) (wd BD (x / y), wd BD (x % y))
 | 0, q, Q, r, hi, hR, hl, hV, hQ, hr => by
  rw [Nat.pow_zero, Nat.div_one] at hQ
  rw [Nat.pow_zero, Nat.mul_one] at hV
  have e1 : x / y = Q := by rw [hQ, Nat.mul_comm, Nat.mul_add_div hy, Nat.div_eq_of_lt hr]; omega
  have e2 : x % y = r := by rw [hQ, Nat.mul_comm, Nat.mul_add_mod, Nat.mod_eq_of_lt hr]
  refine Ev.step (f := fun k => (chaffref01_trim.f k q).bind fun t => some (t, wd BD r)) (fun k => by rw [chaffref01_Div.l0, if_neg (by omega)]) ?_
  refine Ev.bind (trimf_ev q (by omega)) ?_
  rw [strip_eq (n := Q) (by decide) hR hV, e1, e2]
  exact Ev.now _
 | i + 1, q, Q, r, hi, hR, hl, hV, hQ, hr => by
  have hb1 : x / 2 ^ i % 2 ≤ 1 := by omega
  have hstep := half_step hQ
  have hrl : (wd BD r).length ≤ 1000000 := Nat.le_trans (len_mono (by decide) (Nat.le_of_lt hr)) hyl
  have h2l : (wd BD (2 * r + x / 2 ^ i % 2)).length ≤ 1000001 := len_twice hrl (by omega)
  refine Ev.step (f := fun k => (chaffref01_Bit.f k (wd BD x) (i : Int)).bind fun t516 => (chaffref01_twice.f (wd BD r) t516).bind fun t517 => (chaffref01_Cmp.f k t517 (wd BD y)).bind fun t520 => if t520 ≥ 0 then ((chaffref01_Sub.f k t517 (wd BD y)).bind fun t521 => chaffref01_Div.l1 k (wd BD x) (wd BD y) q t521 (i : Int) 1 0) else chaffref01_Div.l0 k (wd BD x) (wd BD y) q t517 (wrap64 ((i : Int) - 1))) (fun k => ?_) ?_
  ·rw [show ((i + 1 : Nat) : Int) - 1 = (i : Int) by omega, chaffref01_Div.l0, if_pos (by omega)]
  ·refine Ev.bind (bit_ev x i (by omega)) ?_
   refine Ev.congr (f := fun k => (chaffref01_Cmp.f k (wd BD (2 * r + x / 2 ^ i % 2)) (wd BD y)).bind fun t520 => if t520 ≥ 0 then ((chaffref01_Sub.f k (wd BD (2 * r + x / 2 ^ i % 2)) (wd BD y)).bind fun t521 => chaffref01_Div.l1 k (wd BD x) (wd BD y) q t521 (i : Int) 1 0) else chaffref01_Div.l0 k (wd BD x) (wd BD y) q (wd BD (2 * r + x / 2 ^ i % 2)) (wrap64 ((i : Int) - 1))) (fun k => by rw [tw_wd r _ hb1 (by omega), Option.bind_some]) ?_
   generalize hz : 2 * r + x / 2 ^ i % 2 = z at h2l
   refine Ev.bind (rcmp_ev2 z y h2l) ?_
   by_cases hlt : z < y
   ·have hc : ¬ cmpN z y ≥ 0 := by unfold cmpN; rw [if_pos hlt]; decide
    refine Ev.congr (f := fun k => chaffref01_Div.l0 k (wd BD x) (wd BD y) q (wd BD z) ((i : Int) - 1)) (fun k => by rw [if_neg hc, w64 (by omega) (by omega)]) ?_
    refine rdiv_loop x y hy hx hyl i q (2 * Q) z (by omega) hR hl ?_ ?_ hlt
    ·rw [hV]; congr 1; rw [Nat.pow_succ]; grind
    ·rw [hstep, ← hz]; grind
   ·have hc : cmpN z y ≥ 0 := by unfold cmpN; rw [if_neg hlt]; split <;> decide
    refine Ev.congr (f := fun k => (chaffref01_Sub.f k (wd BD z) (wd BD y)).bind fun t521 => chaffref01_Div.l1 k (wd BD x) (wd BD y) q t521 (i : Int) 1 0) (fun k => by rw [if_pos hc]) ?_
    refine Ev.bind (rsub_ev2 z y (by omega) h2l) ?_
    refine pw_loop i (by omega) _ _ _ _ _ (i % 16) 0 (by omega) ?_
    have hroom := digit_room (Q := Q) (k := i % 16) (Nat.mod_lt _ (by decide))
    have hdig := getD_N (b := BD) (m := Q * 2 ^ (i + 1)) (by decide) hR hV (i / 16)
    rw [show (BD : Nat) ^ (i / 16) = 65536 ^ (i / 16) from rfl, pow_split2] at hdig
    have hdig2 : q.getD (i / 16) 0 = ((Q * 2 ^ (i % 16 + 1) % 65536 : Nat) : Int) := hdig
    have hilt : i / 16 < q.length := by omega
    refine Ev.step (f := fun k => chaffref01_Div.l0 k (wd BD x) (wd BD y) (q.set (i / 16) ((Q * 2 ^ (i % 16 + 1) % 65536 + 2 ^ (i % 16) : Nat) : Int)) (wd BD (z - y)) ((i : Int) - 1)) (fun k => ?_) ?_
    ·have g1 : ¬ ((i % 16 : Nat) : Int) < (i : Int) % 16 := by omega
     have g2 : (0 : Int) ≤ ((i / 16 : Nat) : Int) := by omega
     have g3 : ((i / 16 : Nat) : Int) < (q.length : Int) := by omega
     have E := Aside0.mk (And.intro (show wrap64 (Int.tdiv (i : Int) 16) = ((i / 16 : Nat) : Int) by rw [tdiv_nn (by omega), w64 (by omega) (by omega)]; omega) (And.intro (show wrap64 ((i : Int) - 1) = (i : Int) - 1 from w64 (by omega) (by omega)) (show wrap64 (((Q * 2 ^ (i % 16 + 1) % 65536 : Nat) : Int) + ((2 ^ (i % 16) : Nat) : Int)) = ((Q * 2 ^ (i % 16 + 1) % 65536 + 2 ^ (i % 16) : Nat) : Int) from wrap_sum hroom)))
     rw [chaffref01_Div.l1, tmod_nn (by omega), if_neg g1, E.out.1, if_pos g2, if_pos g3, rd_nat, hdig2, E.out.2.2, E.out.2.1, Int.toNat_natCast]
    ·refine rdiv_loop x y hy hx hyl i _ (2 * Q + 1) (z - y) (by omega) (R_set hR _ (Int.natCast_nonneg _) (by rw [BDi]; exact Int.ofNat_lt.2 hroom)) (by rw [List.length_set]; exact hl) ?_ ?_ (by omega)
     ·rw [V_set _ _ _ _ hilt, hV, hdig2]
      have e3 : (BD : Int) ^ (i / 16) = ((65536 ^ (i / 16) : Nat) : Int) := by rw [Int.natCast_pow]
      rw [e3]
      have e4 : 65536 ^ (i / 16) * 2 ^ (i % 16) = 2 ^ i := by rw [show 65536 = 2 ^ 16 by decide, ← Nat.pow_mul, ← Nat.pow_add, show 16 * (i / 16) + i % 16 = i by omega]
      have e5 : ((65536 ^ (i / 16) : Nat) : Int) * (((Q * 2 ^ (i % 16 + 1) % 65536 + 2 ^ (i % 16) : Nat) : Int) - ((Q * 2 ^ (i % 16 + 1) % 65536 : Nat) : Int)) = ((2 ^ i : Nat) : Int) := by
       rw [← e4, Int.natCast_mul]; congr 1; omega
      rw [e5, ← Int.natCast_add]; congr 1
      rw [Nat.pow_succ]; grind
     ·rw [hstep]
      have e6 : 2 * (Q * y + r) + x / 2 ^ i % 2 = 2 * (Q * y) + z := by rw [← hz]; omega
      rw [e6]
      have e7 : (2 * Q + 1) * y = 2 * (Q * y) + y := by grind
      rw [e7]; omega
theorem rdiv_ev (x y : Nat) (hy : 0 < y) (hx : (wd BD x).length ≤ 1000000) (hyl : (wd BD y).length ≤ 1000000) : Ev (fun k => chaffref01_Div.f k (wd BD x) (wd BD y)) (wd BD (x / y), wd BD (x % y)) := by
 have hnb : nb x ≤ 16 * (wd BD x).length := by
  rw [nb_le, ← pow16]; exact (len_le_iff (by decide) _).1 (Nat.le_refl _)
 unfold chaffref01_Div.f
 refine Ev.congr (f := fun k => (chaffref01_Bits.f k (wd BD x)).bind fun t512 => chaffref01_Div.l0 k (wd BD x) (wd BD y) (List.replicate (wd BD x).length 0) [] (wrap64 (t512 - 1))) (fun k => by rw [if_pos (by omega), Int.toNat_natCast, if_pos (by omega)]) ?_
 refine Ev.bind (rbits_ev x (by omega)) ?_
 refine Ev.congr (f := fun k => chaffref01_Div.l0 k (wd BD x) (wd BD y) (List.replicate (wd BD x).length 0) (wd BD 0) ((nb x : Int) - 1)) (fun k => by rw [w64 (by omega) (by omega), wd_zero]) ?_
 exact rdiv_loop x y hy hx hyl (nb x) _ 0 0 hnb (R_zeros (by decide) _) (by simp) (by rw [V_zeros]; simp) (by rw [Nat.div_eq_of_lt (nb_lt x)]; simp) hy
theorem rgcd_loop : ∀ (y x : Nat), (wd BD x).length ≤ 1000000 → (wd BD y).length ≤ 1000000 → Ev (fun k => chaffref01_Gcd.l0 k (wd BD x) (wd BD y)) (wd BD (Nat.gcd x y)) := by
 intro y
 induction y using Nat.strongRecOn with
 | _ y ih =>
  intro x hx hy
  by_cases h0 : y = 0
  ·subst h0
   rw [wd_zero, Nat.gcd_zero_right]
   exact Ev.step (f := fun _ => some (wd BD x)) (fun k => by rw [chaffref01_Gcd.l0, if_neg (by simp)]) (Ev.now _)
  ·have hlen : 0 < (wd BD y).length := List.length_pos_iff.2 (wd_ne (by decide) (by omega))
   refine Ev.step (f := fun k => (chaffref01_Div.f k (wd BD x) (wd BD y)).bind fun bt => chaffref01_Gcd.l0 k (wd BD y) bt.2) (fun k => by rw [chaffref01_Gcd.l0, if_pos (by omega)]) ?_
   refine Ev.bind (rdiv_ev x y (by omega) hx hy) ?_
   have hm := Nat.mod_lt x (show 0 < y by omega)
   have := ih (x % y) hm y hy (Nat.le_trans (len_mono (by decide) (Nat.le_of_lt hm)) hy)
   rwa [Nat.gcd_comm, ← Nat.gcd_rec, Nat.gcd_comm] at this
theorem rgcd_ev (x y : Nat) (hx : (wd BD x).length ≤ 1000000) (hy : (wd BD y).length ≤ 1000000) : Ev (fun k => chaffref01_Gcd.f k (wd BD x) (wd BD y)) (wd BD (Nat.gcd x y)) := rgcd_loop y x hx hy
end Go.Proofs.YtgkdealidnidiaaDoor.Na
namespace Go.Proofs.YtgkdealidnidiaaDoor.Na
open Go.RowKit Go.Proofs.YtgkdealidnidiaaDoorW.PrintWords Go.Proofs.YtgkdealidnidiaaDoorW.PrintLast Go.Proofs.YtgkdealidnidiaaDoorW.PrintMore
attribute [local go_sem] max2_int max_two
set_option linter.unusedVariables false
set_option linter.unusedSimpArgs false
def nat_Nat_Zero.f (l0_0 : List Int) : Option (Bool) := some ((l0_0.length : Int) == 0)
set_option maxHeartbeats 8000000 in
set_option maxRecDepth 100000 in
theorem nat_Nat_Zero.calls (A0_0 : Option Addr) (c0_0 : Nat) (l0_0 : List Int) (r : Bool) (w : World) (hr0_0 : Kd.C (Kd.int .u64) w A0_0 l0_0.length l0_0) (hc0_0 : l0_0.length ≤ c0_0) (h : nat_Nat_Zero.f l0_0 = some r) :
  Calls Tryd.prog 22 #[.agg #[.slice A0_0 l0_0.length c0_0]] w fun e w' => e = .returned (.bool r) ∧ Below w.heap.size w w' := by
 have hu29 := Tryd.underlying29
 have HR0_0 := Aside0.mk hr0_0
 have HC0_0 := Aside0.mk hc0_0
 clear hr0_0 hc0_0
 have HB := Aside0.mk (Below.refl w.heap.size w)
 have H : (some ((l0_0.length : Int) == 0)) = some r := h
 clear h
 obtain rfl := Option.some.inj H
 go_enter Tryd.func22, Tryd.ntmps22
 go_wp2_with (first | ((with_reducible refine gate_dst (N := 1) rfl ?_); refine box_event ?hg (N := 1) ?hd (cs := #[.slice A0_0 l0_0.length c0_0]) (t := 29) ?hr ?_; (case hd => rfl); (case hg => rfl); (case hr => first | (go_simp; done) | (go_simp; rfl)); intro gb207 hg w2 hbox hb; have n0_ := Aside0.mk (below_step (by repeat (first | (with_reducible first | exact HB.out | apply below_alloc | apply pw_below_drewN | apply below_drew1) | exact HB.out)) hb); have n1_ := Aside0.mk (hbox); have n2_ := Aside0.mk ((by rw [hg]; exact (below_size (by repeat (first | (with_reducible first | exact HB.out | apply below_alloc | apply pw_below_drewN | apply below_drew1) | exact HB.out))) : w.heap.size ≤ gb207)); have n3_ := Aside0.mk ((by rw [hg]; exact (below_size (by repeat (first | (with_reducible first | exact HB.out | apply below_alloc | apply pw_below_drewN | apply below_drew1) | exact HB.out))) : w.heap.size ≤ gb207)); clear HB; have HB := n0_; have BK207 := n1_; have GW207 := n2_; have GE207 := n3_; clear n0_ n1_ n2_ n3_; clear hb hbox hg; have hcz3_0 : w2.cell? ⟨gb207, 0, none⟩ = some (.slice A0_0 l0_0.length c0_0) := (blk_cell BK207.out 0).trans rfl; have hfz3_0 := blk_frozen BK207.out 0))
 go_ret
 exact ⟨by first | rfl | (simp [errW_none, errW_some] <;> rfl) | (simp [*, errW_none, errW_some] <;> rfl), by repeat (first | (with_reducible first | exact HB.out | apply below_alloc | apply pw_below_drewN | apply below_drew1 | refine below_set ?_ GE207.out) | exact HB.out)⟩
end Go.Proofs.YtgkdealidnidiaaDoor.Na
namespace Go.Proofs.YtgkdealidnidiaaDoor.Na
open Go.RowKit Go.Proofs.YtgkdealidnidiaaDoorW.PrintWords Go.Proofs.YtgkdealidnidiaaDoorW.PrintLast Go.Proofs.YtgkdealidnidiaaDoorW.PrintMore
attribute [local go_sem] max2_int max_two
set_option linter.unusedVariables false
set_option linter.unusedSimpArgs false
def nat_shifted.l0 : Nat → List Int → Int → List Int → Int → Int → Option (List Int)
 | 0, _, _, _, _, _ => none
 | k + 1, x0, x1, x5, x12, x13 => if x13 < x12 then (if 0 ≤ x13 then (if x13 < (x5.length : Int) then (if x13 < (x0.length : Int) then (if 0 ≤ x1 then ((some (x5.set (x13 : Int).toNat (Go.bits .or .u64 (rd x5 x13) (shl .u64 (rd x0 x13) x1)) : List Int)).bind fun y307 => (if x1 > 0 then (if 0 ≤ (IntKind.u64.wrap (64 - x1)) then (if 0 ≤ (wrap64 (x13 + 1)) then (if (wrap64 (x13 + 1)) < (x5.length : Int) then (nat_shifted.l0 k x0 x1 (y307.set ((wrap64 (x13 + 1)) : Int).toNat (shr .u64 (rd x0 x13) (IntKind.u64.wrap (64 - x1)))) x12 (wrap64 (x13 + 1))) else (none)) else (none)) else (none)) else (nat_shifted.l0 k x0 x1 y307 x12 (wrap64 (x13 + 1))))) else (none)) else (none)) else (none)) else (none)) else (some x5)
def nat_shifted.f (k : Nat) (l0 : List Int) (a1 : Int) : Option (List Int) := if 0 ≤ (wrap64 ((l0.length : Int) + 1)) then (if (wrap64 ((l0.length : Int) + 1) : Int).toNat ≤ 35184372088832 then (nat_shifted.l0 k l0 a1 (List.replicate (wrap64 ((l0.length : Int) + 1) : Int).toNat 0) (l0.length : Int) 0) else (none)) else (none)
def nat_shifted.T5 : Bool × List (List Nat × List Nat) := (true, [([], []), ([], []), ([0, 1], [0, 1]), ([2], [2]), ([], []), ([], []), ([4, 5], [4, 5]), ([6], [6]), ([], []), ([7, 8], [7, 8]), ([3, 9], [3, 9]), ([0, 1, 0, 1, 2, 3, 4, 5, 6, 7, 8, 9, 10], [0, 1]), ([11, 10, 0, 1, 2, 3, 4, 5, 6, 7, 8, 9, 10], [10, 11])])
def nat_shifted.B5 : List Nat := [0, 0, 3, 7, 0, 0, 48, 112, 0, 496, 1023, 2047, 4095]
theorem nat_shifted.tab5 : rtab .any (opsOf Tryd.f76 5) = nat_shifted.T5 := by kernel_rfl
theorem nat_shifted.bits5 : waitsOk nat_shifted.T5.2 nat_shifted.B5 = true := by kernel_rfl
set_option maxHeartbeats 8000000 in
set_option maxRecDepth 100000 in
theorem nat_shifted.calls (k : Nat) (A0 : Option Addr) (c0 : Nat) (l0 : List Int) (a1 : Int) (r : List Int) (w : World) (hr0 : Kd.C (Kd.int .u64) w A0 l0.length l0) (hc0 : l0.length ≤ c0) (h : nat_shifted.f k l0 a1 = some r) :
  Calls Tryd.prog 76 #[.slice A0 l0.length c0, .int .u64 a1] w fun e w' => ∃ v0_ : Value, e = .returned (v0_) ∧ Kd.R (Kd.int .u64) 40 w' w.heap.size (fun _ => True) v0_ r ∧ Below w.heap.size w w' := by
 have HR0 := Aside0.mk hr0
 have HC0 := Aside0.mk hc0
 clear hr0 hc0
 have HB := Aside0.mk (Below.refl w.heap.size w)
 have H : (if 0 ≤ (wrap64 ((l0.length : Int) + 1)) then (if (wrap64 ((l0.length : Int) + 1) : Int).toNat ≤ 35184372088832 then (nat_shifted.l0 k l0 a1 (List.replicate (wrap64 ((l0.length : Int) + 1) : Int).toNat 0) (l0.length : Int) 0) else (none)) else (none)) = some r := h
 clear h
 obtain ⟨ji3, hji3⟩ : ∃ j_ : Int, (wrap64 ((l0.length : Int) + 1)) = j_ := ⟨_, rfl⟩
 replace H : (if 0 ≤ (ji3) then (if (ji3 : Int).toNat ≤ 35184372088832 then (nat_shifted.l0 k l0 a1 (List.replicate (ji3 : Int).toNat 0) (l0.length : Int) 0) else (none)) else (none)) = some r := by first | (rw [hji3] at H; exact H) | (simp only [hji3] at H ⊢; exact H)
 have hji3w : (IntKind.i64.wrap ((l0.length : Int) + 1)) = ji3 := (i64_w _).trans hji3
 by_cases c4 : 0 ≤ (ji3)
 ·rw [if_pos c4] at H
  have c4b0 := eq_true c4
  have c4b1 : decide (0 ≤ (ji3)) = true := decide_eq_true c4
  clear c4
  by_cases c5 : (ji3 : Int).toNat ≤ 35184372088832
  ·rw [if_pos c5] at H
   have c5b0 := eq_true c5
   have c5b1 : decide ((ji3 : Int).toNat ≤ 35184372088832) = true := decide_eq_true c5
   clear c5
   obtain ⟨y302, hy302⟩ : ∃ y_ : List Int, y_ = (List.replicate (ji3 : Int).toNat 0) := ⟨_, rfl⟩
   replace H : (nat_shifted.l0 k l0 a1 y302 (l0.length : Int) 0) = some r := by first | (rw [hy302]; with_reducible exact H) | (have H2_ := (Option.bind_some _ _).symm.trans H; rw [hy302]; with_reducible exact H2_) | (have H2_ := (Option.bind_some _ _).symm.trans H; with_reducible exact H2_) | with_reducible exact H | (rw [hy302]; exact H) | exact H
   have Ny302 := Aside0.mk hy302
   clear hy302
   have H' := Aside0.mk H
   clear H
   go_enter Tryd.func76, Tryd.ntmps76
   go_wp2_with (first | ((with_reducible refine gate_dst (N := 10) rfl ?_); refine Kd.R_make (Kd.int .u64) _ 40 rfl (N := 10) rfl 22 _ _ rfl ji3 rfl rfl Tryd.underlying22 (.int .u64 0) 8 info40 rfl (by decide) (by omega) 0 (ok := fun _ => True) (okp := fun _ => True) rfl (fun _ hk => hk) trivial (of_decide_eq_true (by first | (with_reducible assumption) | assumption)) (Nat.le_trans (Nat.mul_le_mul_right _ (of_decide_eq_true (by first | (with_reducible assumption) | assumption) : ji3.toNat ≤ 35184372088832)) (by omega)) (Below.refl _ _) (Nat.le_refl _) ?_; intro v303 w6 ho7 hb hg_ hnew_; clear hg_ hnew_; (first | rw [← Ny302.out] at ho7 | (simp only [Int.reduceToNat] at ho7; rw [← Ny302.out] at ho7)); have n0_ := Aside0.mk (Kd.R_lower ho7 (below_size (by repeat (first | (with_reducible first | exact HB.out | apply below_alloc | apply pw_below_drewN | apply below_drew1) | exact HB.out)))); have n1_ := Aside0.mk (below_step (by repeat (first | (with_reducible first | exact HB.out | apply below_alloc | apply pw_below_drewN | apply below_drew1) | exact HB.out)) hb); clear HB; have HO304 := n0_; have HB := n1_; clear n0_ n1_; clear hb ho7))
   go_loopg [13] k (fun kq v13 w' => ∃ (x5_1 : List Int) (x13_1 : Int), v13 = .int .i64 x13_1 ∧ Aside0 (nat_shifted.l0 kq l0 a1 x5_1 (l0.length : Int) x13_1 = some r) ∧ Aside0 (kq ≤ k) ∧ Aside0 (Kd.R (Kd.int .u64) 40 w' w.heap.size (fun _ => True) v303 x5_1) ∧ Aside0 (Below w.heap.size w w'))
   case atStart => exact ⟨(y302), (0), (by first | rfl | (simp; done) | (simp [*]; done)), H', ⟨Nat.le_refl _⟩, ⟨by (with_reducible repeat (first | apply Kd.R_alloc | apply Kd.R_drewN | apply Kd.R_drew)); exact HO304.out⟩, ⟨by repeat (first | (with_reducible first | exact HB.out | apply below_alloc | apply pw_below_drewN | apply below_drew1) | exact HB.out)⟩⟩
   case round =>
    clear H'
    try clear p2
    try clear c4
    try clear c4b0
    try clear c4b1
    try clear c5
    try clear c5b0
    try clear c5b1
    try clear p6
    try clear c7
    obtain ⟨x5_1, x13_1, rfl, HA, HK1, HO_5, HB⟩ := hrel
    cases gk with
    | zero => exact absurd HA.out (by simp [nat_shifted.l0])
    | succ k1 =>
     have H := HA.out
     clear HA
     simp only [nat_shifted.l0] at H
     by_cases c8 : x13_1 < (l0.length : Int)
     ·rw [if_pos c8] at H
      have c8b0 : decide (x13_1 < (l0.length : Int)) = true := decide_eq_true c8
      clear c8
      by_cases c9 : 0 ≤ x13_1
      ·rw [if_pos c9] at H
       have c9b0 : decide (0 ≤ x13_1) = true := decide_eq_true c9
       clear c9
       by_cases c10 : x13_1 < (x5_1.length : Int)
       ·rw [if_pos c10] at H
        have c10b0 : decide (x13_1 < (x5_1.length : Int)) = true := decide_eq_true c10
        clear c10
        by_cases c11 : x13_1 < (l0.length : Int)
        ·rw [if_pos c11] at H
         have c11b0 : decide (x13_1 < (l0.length : Int)) = true := decide_eq_true c11
         clear c11
         by_cases c12 : 0 ≤ a1
         ·rw [if_pos c12] at H
          have c12b0 := eq_true c12
          have c12b1 : decide (0 ≤ a1) = true := decide_eq_true c12
          clear c12
          obtain ⟨ji13, hji13⟩ : ∃ j_ : Int, (shl .u64 (rd l0 x13_1) a1) = j_ := ⟨_, rfl⟩
          replace H : ((some (x5_1.set (x13_1 : Int).toNat (Go.bits .or .u64 (rd x5_1 x13_1) (ji13)) : List Int)).bind fun y307 => (if a1 > 0 then (if 0 ≤ (IntKind.u64.wrap (64 - a1)) then (if 0 ≤ (wrap64 (x13_1 + 1)) then (if (wrap64 (x13_1 + 1)) < (x5_1.length : Int) then (nat_shifted.l0 k1 l0 a1 (y307.set ((wrap64 (x13_1 + 1)) : Int).toNat (shr .u64 (rd l0 x13_1) (IntKind.u64.wrap (64 - a1)))) (l0.length : Int) (wrap64 (x13_1 + 1))) else (none)) else (none)) else (none)) else (nat_shifted.l0 k1 l0 a1 y307 (l0.length : Int) (wrap64 (x13_1 + 1))))) = some r := by first | (rw [hji13] at H; exact H) | (simp only [hji13] at H ⊢; exact H)
          have hji13_ : (IntKind.u64.wrap ((rd l0 x13_1) * 2 ^ min a1.toNat 64)) = ji13 := hji13
          have hji13z : a1 ≤ 64 → (IntKind.u64.wrap ((rd l0 x13_1) * 2 ^ a1.toNat)) = ji13 := shl_small hji13
          obtain ⟨y307, hy307⟩ : ∃ y_ : List Int, y_ = (x5_1.set (x13_1 : Int).toNat (Go.bits .or .u64 (rd x5_1 x13_1) (ji13))) := ⟨_, rfl⟩
          replace H : (if a1 > 0 then (if 0 ≤ (IntKind.u64.wrap (64 - a1)) then (if 0 ≤ (wrap64 (x13_1 + 1)) then (if (wrap64 (x13_1 + 1)) < (x5_1.length : Int) then (nat_shifted.l0 k1 l0 a1 (y307.set ((wrap64 (x13_1 + 1)) : Int).toNat (shr .u64 (rd l0 x13_1) (IntKind.u64.wrap (64 - a1)))) (l0.length : Int) (wrap64 (x13_1 + 1))) else (none)) else (none)) else (none)) else (nat_shifted.l0 k1 l0 a1 y307 (l0.length : Int) (wrap64 (x13_1 + 1)))) = some r := by first | (rw [hy307]; with_reducible exact H) | (have H2_ := (Option.bind_some _ _).symm.trans H; rw [hy307]; with_reducible exact H2_) | (have H2_ := (Option.bind_some _ _).symm.trans H; with_reducible exact H2_) | with_reducible exact H | (rw [hy307]; exact H) | exact H
          have Ny307 := Aside0.mk hy307
          clear hy307
          by_cases c15 : a1 > 0
          ·rw [if_pos c15] at H
           have c15b0 : decide (0 < a1) = true := decide_eq_true c15
           clear c15
           obtain ⟨ji16, hji16⟩ : ∃ j_ : Int, (IntKind.u64.wrap (64 - a1)) = j_ := ⟨_, rfl⟩
           replace H : (if 0 ≤ (ji16) then (if 0 ≤ (wrap64 (x13_1 + 1)) then (if (wrap64 (x13_1 + 1)) < (x5_1.length : Int) then (nat_shifted.l0 k1 l0 a1 (y307.set ((wrap64 (x13_1 + 1)) : Int).toNat (shr .u64 (rd l0 x13_1) (ji16))) (l0.length : Int) (wrap64 (x13_1 + 1))) else (none)) else (none)) else (none)) = some r := by first | (rw [hji16] at H; exact H) | (simp only [hji16] at H ⊢; exact H)
           by_cases c17 : 0 ≤ (ji16)
           ·rw [if_pos c17] at H
            have c17b0 := eq_true c17
            have c17b1 : decide (0 ≤ (ji16)) = true := decide_eq_true c17
            clear c17
            obtain ⟨ji18, hji18⟩ : ∃ j_ : Int, (shr .u64 (rd l0 x13_1) (ji16)) = j_ := ⟨_, rfl⟩
            replace H : (if 0 ≤ (wrap64 (x13_1 + 1)) then (if (wrap64 (x13_1 + 1)) < (x5_1.length : Int) then (nat_shifted.l0 k1 l0 a1 (y307.set ((wrap64 (x13_1 + 1)) : Int).toNat (ji18)) (l0.length : Int) (wrap64 (x13_1 + 1))) else (none)) else (none)) = some r := by first | (rw [hji18] at H; exact H) | (simp only [hji18] at H ⊢; exact H)
            have hji18_ : ((rd l0 x13_1) / 2 ^ min (ji16).toNat 64) = ji18 := hji18
            have hji18z : (ji16) ≤ 64 → ((rd l0 x13_1) / 2 ^ (ji16).toNat) = ji18 := shr_small hji18
            obtain ⟨ji19, hji19⟩ : ∃ j_ : Int, (wrap64 (x13_1 + 1)) = j_ := ⟨_, rfl⟩
            replace H : (if 0 ≤ (ji19) then (if (ji19) < (x5_1.length : Int) then (nat_shifted.l0 k1 l0 a1 (y307.set ((ji19) : Int).toNat (ji18)) (l0.length : Int) ji19) else (none)) else (none)) = some r := by first | (rw [hji19] at H; exact H) | (simp only [hji19] at H ⊢; exact H)
            have hji19w : (IntKind.i64.wrap (x13_1 + 1)) = ji19 := (i64_w _).trans hji19
            by_cases c20 : 0 ≤ (ji19)
            ·rw [if_pos c20] at H
             have c20b0 : decide (0 ≤ (ji19)) = true := decide_eq_true c20
             clear c20
             by_cases c21 : (ji19) < (x5_1.length : Int)
             ·rw [if_pos c21] at H
              have c21b0 : decide ((ji19) < (x5_1.length : Int)) = true := decide_eq_true c21
              clear c21
              obtain ⟨y309, hy309⟩ : ∃ y_ : List Int, y_ = (y307.set ((ji19) : Int).toNat (ji18)) := ⟨_, rfl⟩
              replace H : (nat_shifted.l0 k1 l0 a1 y309 (l0.length : Int) ji19) = some r := by first | (rw [hy309]; with_reducible exact H) | (have H2_ := (Option.bind_some _ _).symm.trans H; rw [hy309]; with_reducible exact H2_) | (have H2_ := (Option.bind_some _ _).symm.trans H; with_reducible exact H2_) | with_reducible exact H | (rw [hy309]; exact H) | exact H
              have Ny309 := Aside0.mk hy309
              clear hy309
              have H' := Aside0.mk H
              clear H
              try go_wp2
              have n0_ := Aside0.mk (Kd.R_drew HO_5.out)
              have n1_ := Aside0.mk (below_drew1 HB.out)
              clear HO_5
              clear HB
              have HO_5 := n0_
              have HB := n1_
              clear n0_ n1_
              obtain ⟨Ao24, co24, eo24⟩ := Kd.R_slice HO_5.out
              (first | subst eo24 | (injection eo24 with f1_ f2_ f3_; have f4_ := f1_.symm; have f5_ := f3_.symm; clear f1_ f2_ f3_; subst f4_; subst f5_))
              have p305 : 0 ≤ (x13_1 : Int) := of_decide_eq_true (by first | (with_reducible assumption) | assumption)
              have q305 : x13_1 < (x5_1.length : Int) := of_decide_eq_true (by first | (with_reducible assumption) | assumption)
              obtain ⟨ad305, e305, hx305_0⟩ := Kd.at_int (Kd.R_reads' HO_5.out).2.2 x13_1 p305 q305
              cases e305
              replace p305 := eq_true p305
              replace q305 := eq_true q305
              have p306 : 0 ≤ (x13_1 : Int) := of_decide_eq_true (by first | (with_reducible assumption) | assumption)
              have q306 : x13_1 < (l0.length : Int) := of_decide_eq_true (by first | (with_reducible assumption) | assumption)
              obtain ⟨ad306, e306, hx306_0⟩ := Kd.at_int HR0.out x13_1 p306 q306
              have hw306_0 := hx306_0
              cases e306
              replace hx306_0 := (HB.out.cell (World.block_lt_of_cell? w _ hx306_0)).trans hx306_0
              replace p306 := eq_true p306
              replace q306 := eq_true q306
              have p14 : 0 ≤ (x13_1 : Int) := of_decide_eq_true (by first | (with_reducible assumption) | assumption)
              have q14 : (x13_1 : Int) < ((x5_1.length : Int) : Int) := of_decide_eq_true (by first | (with_reducible assumption) | assumption)
              obtain ⟨go14, co14, eo14, gb14, gl14, cl14, HG14⟩ := Kd.R_form HO_5.out (by omega)
              (first | cases eo14 | (injection eo14 with ea_ en_ ec_; (first | subst ea_ | (injection ea_ with ea_; subst ea_)); subst ec_; clear en_))
              have GB14 := Aside0.mk gb14
              have GG14 := Aside0.mk HG14
              clear gb14 gl14 HG14
              (first | simp only [add_plain] at hx305_0 | skip)
              obtain ⟨hx14_0, hf14_0⟩ := Kd.R_celln 0 HO_5.out (x13_1 : Int) p14 q14
              replace p14 := eq_true p14
              replace q14 := eq_true q14
              have HP25 := Kd.R_putn HO_5.out (x13_1 : Int) (Go.bits .or .u64 (rd x5_1 x13_1) (ji13))
              rw [← Ny307.out] at HP25
              have HQ25 := Aside0.mk HP25
              clear HP25
              refine start_ (n := 13) (S := fun w' => w'.cell? ⟨go14, (x13_1).toNat, none⟩ = some (.int .u64 (rd x5_1 x13_1)) ∧ w'.cell? (ad306.add (x13_1).toNat) = some (.int .u64 (rd l0 x13_1))) (ds := [12]) #[false, false, false, false, false, false, false, false, false, false, false, false, false] (by kernel_rfl) rfl rfl ⟨hx305_0, ((HB.out.cell (World.block_lt_of_cell? w _ hw306_0)).trans hw306_0)⟩ (fun hHeld => ?_); refine with_tabW nat_shifted.tab5 nat_shifted.bits5 (fun HT_ HW_ => ?_)
              generalize wr.drew = w23 at HO_5 HB GG14 HQ25 hf14_0 hx14_0 hx305_0 hx306_0 hHeld ⊢
              refine pure_ (i := 0) (N := some 16) (v := ?_) (a' := ?_) #[true, false, false, false, false, false, false, false, false, false, false, false, false] rfl rfl (any_of HT_.out (by kernel_rfl)) (fun _ _ _ h => h) (Or.inl ⟨by rfl, ?_⟩) ?_ ?_
              rotate_left
              ·intro w'
               go_simp
               with_reducible rfl
              rotate_left
              ·simp only [Act.put, List.setIfInBounds_toArray, List.set_cons_zero, List.set_cons_succ, i64_w, i32_w]
               rfl
              refine pure_ (i := 1) (N := some 17) (v := ?_) (a' := ?_) #[true, true, false, false, false, false, false, false, false, false, false, false, false] rfl rfl (any_of HT_.out (by kernel_rfl)) (fun _ _ _ h => h) (Or.inl ⟨by rfl, ?_⟩) ?_ ?_
              rotate_left
              ·intro w'
               go_simp
               with_reducible rfl
              rotate_left
              ·simp only [Act.put, List.setIfInBounds_toArray, List.set_cons_zero, List.set_cons_succ, i64_w, i32_w]
               rfl
              refine pure_ (i := 2) (N := some 18) (v := ?_) (a' := ?_) #[true, true, true, false, false, false, false, false, false, false, false, false, false] rfl rfl (any_of HT_.out (by kernel_rfl)) (fun _ _ _ h => h) (Or.inl ⟨by rfl, ?_⟩) ?_ ?_
              rotate_left
              ·intro w'
               go_simp
               with_reducible rfl
              rotate_left
              ·simp only [Act.put, List.setIfInBounds_toArray, List.set_cons_zero, List.set_cons_succ, i64_w, i32_w]
               rfl
              refine pure_ (i := 4) (N := some 20) (v := ?_) (a' := ?_) #[true, true, true, false, true, false, false, false, false, false, false, false, false] rfl rfl (any_of HT_.out (by kernel_rfl)) (fun _ _ _ h => h) (Or.inl ⟨by rfl, ?_⟩) ?_ ?_
              rotate_left
              ·intro w'
               go_simp
               with_reducible rfl
              rotate_left
              ·simp only [Act.put, List.setIfInBounds_toArray, List.set_cons_zero, List.set_cons_succ, i64_w, i32_w]
               rfl
              refine pure_ (i := 5) (N := some 21) (v := ?_) (a' := ?_) #[true, true, true, false, true, true, false, false, false, false, false, false, false] rfl rfl (any_of HT_.out (by kernel_rfl)) (fun _ _ _ h => h) (Or.inl ⟨by rfl, ?_⟩) ?_ ?_
              rotate_left
              ·intro w'
               go_simp
               with_reducible rfl
              rotate_left
              ·simp only [Act.put, List.setIfInBounds_toArray, List.set_cons_zero, List.set_cons_succ, i64_w, i32_w]
               rfl
              refine pure_ (i := 6) (N := some 22) (v := ?_) (a' := ?_) #[true, true, true, false, true, true, true, false, false, false, false, false, false] rfl rfl (any_of HT_.out (by kernel_rfl)) (fun _ _ _ h => h) (Or.inl ⟨by rfl, ?_⟩) ?_ ?_
              rotate_left
              ·intro w'
               go_simp
               with_reducible rfl
              rotate_left
              ·simp only [Act.put, List.setIfInBounds_toArray, List.set_cons_zero, List.set_cons_succ, i64_w, i32_w]
               rfl
              refine pure_ (i := 8) (N := some 24) (v := ?_) (a' := ?_) #[true, true, true, false, true, true, true, false, true, false, false, false, false] rfl rfl (any_of HT_.out (by kernel_rfl)) (fun _ _ _ h => h) (Or.inl ⟨by rfl, ?_⟩) ?_ ?_
              rotate_left
              ·intro w'
               go_simp
               with_reducible rfl
              rotate_left
              ·simp only [Act.put, List.setIfInBounds_toArray, List.set_cons_zero, List.set_cons_succ, i64_w, i32_w]
               rfl
              refine take_ (i := 3) (N := some 19) (v := ?_) (a' := ?_) #[true, true, true, true, true, true, true, false, true, false, false, false, false] rfl rfl (take_ofW HT_.out HW_.out (by kernel_rfl)) (fun _ _ _ h => h) (Or.inl ⟨by rfl, ?_⟩) hHeld ?_ ?_
              rotate_left
              ·rintro w' ⟨s0, s1⟩
               go_simp
               with_reducible rfl
              rotate_left
              ·simp only [Act.put, List.setIfInBounds_toArray, List.set_cons_zero, List.set_cons_succ, i64_w, i32_w]
               rfl
              refine take_ (i := 7) (N := some 23) (v := ?_) (a' := ?_) #[true, true, true, true, true, true, true, true, true, false, false, false, false] rfl rfl (take_ofW HT_.out HW_.out (by kernel_rfl)) (fun _ _ _ h => h) (Or.inl ⟨by rfl, ?_⟩) hHeld ?_ ?_
              rotate_left
              ·rintro w' ⟨s0, s1⟩
               go_simp
               with_reducible rfl
              rotate_left
              ·simp only [Act.put, List.setIfInBounds_toArray, List.set_cons_zero, List.set_cons_succ, i64_w, i32_w]
               rfl
              refine pure_ (i := 9) (N := some 25) (v := ?_) (a' := ?_) #[true, true, true, true, true, true, true, true, true, true, false, false, false] rfl rfl (any_of HT_.out (by kernel_rfl)) (fun _ _ _ h => h) (Or.inl ⟨by rfl, ?_⟩) ?_ ?_
              rotate_left
              ·intro w'
               go_simp
               with_reducible rfl
              rotate_left
              ·simp only [Act.put, List.setIfInBounds_toArray, List.set_cons_zero, List.set_cons_succ, i64_w, i32_w]
               rfl
              refine pure_ (i := 10) (N := some 26) (v := ?_) (a' := ?_) #[true, true, true, true, true, true, true, true, true, true, true, false, false] rfl rfl (any_of HT_.out (by kernel_rfl)) (fun _ _ _ h => h) (Or.inl ⟨by rfl, ?_⟩) ?_ ?_
              rotate_left
              ·intro w'
               go_simp
               with_reducible rfl
              rotate_left
              ·simp only [Act.put, List.setIfInBounds_toArray, List.set_cons_zero, List.set_cons_succ, i64_w, i32_w]
               rfl
              refine pure_ (i := 11) (N := some 27) (v := ?_) (a' := ?_) #[true, true, true, true, true, true, true, true, true, true, true, true, false] rfl rfl (any_of HT_.out (by kernel_rfl)) (fun _ _ _ h => h) (Or.inl ⟨by rfl, ?_⟩) ?_ ?_
              rotate_left
              ·intro w'
               go_simp
               with_reducible rfl
              rotate_left
              ·simp only [Act.put, List.setIfInBounds_toArray, List.set_cons_zero, List.set_cons_succ, i64_w, i32_w]
               rfl
              refine last_ (i := 12) (N := none) #[true, true, true, true, true, true, true, true, true, true, true, true, true] rfl rfl (one_of HT_.out (by kernel_rfl)) (by decide) (fun K hK => ?_)
              refine skip_ (w1 := ?_) (by rfl) rfl ?_ ?_
              rotate_left
              ·go_simp
               rfl
              refine hK.out _ _ ?_
              clear hK K
              refine done_ (done_of HT_.out (by kernel_rfl)) ?_
              have n0_ : Aside0 (Kd.R (Kd.int .u64) 40 (w23.setCell ⟨go14, (x13_1 : Int).toNat, none⟩ (.int .u64 (Go.bits .or .u64 (rd x5_1 x13_1) (ji13)))) w.heap.size (fun _ => True) (.slice (some ⟨go14, 0, none⟩) x5_1.length co24) y307) := ⟨by (with_reducible repeat (first | apply Kd.R_alloc | apply Kd.R_drewN | apply Kd.R_drew)); exact HQ25.out⟩
              have n1_ : Aside0 (Below w.heap.size w (w23.setCell ⟨go14, (x13_1 : Int).toNat, none⟩ (.int .u64 (Go.bits .or .u64 (rd x5_1 x13_1) (ji13))))) := ⟨by repeat (first | (with_reducible first | exact HB.out | apply below_alloc | apply pw_below_drewN | apply below_drew1 | refine below_set ?_ GB14.out) | exact HB.out)⟩
              (try clear HO_5)
              (try clear HB)
              generalize (w23.setCell ⟨go14, (x13_1 : Int).toNat, none⟩ (.int .u64 (Go.bits .or .u64 (rd x5_1 x13_1) (ji13)))) = w26 at n0_ n1_ ⊢
              have HO_5 := n0_
              have HB := n1_
              clear n0_ n1_
              have p308 : 0 ≤ (x13_1 : Int) := of_decide_eq_true (by first | (with_reducible assumption) | assumption)
              have q308 : x13_1 < (l0.length : Int) := of_decide_eq_true (by first | (with_reducible assumption) | assumption)
              obtain ⟨ad308, e308, hx308_0⟩ := Kd.at_int HR0.out x13_1 p308 q308
              obtain rfl : ad306 = ad308 := (by injection e308)
              replace hx308_0 := (HB.out.cell (World.block_lt_of_cell? w _ hx308_0)).trans hx308_0
              replace p308 := eq_true p308
              replace q308 := eq_true q308
              have p22 : 0 ≤ ((ji19) : Int) := of_decide_eq_true (by first | (with_reducible assumption) | assumption)
              have q22 : ((ji19) : Int) < ((x5_1.length : Int) : Int) := of_decide_eq_true (by first | (with_reducible assumption) | assumption)
              obtain ⟨hx22_0, hf22_0⟩ := Kd.R_celln 0 HO_5.out ((ji19) : Int) p22 q22
              replace p22 := eq_true p22
              replace q22 := eq_true q22
              obtain ⟨hy27_, hz27_⟩ := Kd.R_celln 0 HO_5.out ((ji19) : Int) (of_decide_eq_true (by first | (with_reducible assumption) | assumption)) (of_decide_eq_true (by first | (with_reducible assumption) | assumption))
              have HP27 := Kd.R_putg HO_5.out ((ji19) : Int) ji18
              try go_wp2_with (first | ((with_reducible refine gate_store (t := 40) (p := 40) rfl ?_); refine store_event (t := 40) (p := 40) (v := ?vo_w28) (w1 := (w26.setCell ⟨go14, ((ji19) : Int).toNat, none⟩ (.int .u64 ji18))) ?hg ?ho ?hn ?hr ?_; (case ho => rfl); (case hg => rfl); (case hn => rfl); (case hr => first | (go_simp; done) | (go_simp; rfl)); intro w28 hw; have hg : w26.grownBy w28 (some go14) := (by rw [hw]; exact HP27.2); have hp_ : Kd.R (Kd.int .u64) 40 w28 w.heap.size (fun _ => True) (.slice (some ⟨go14, 0, none⟩) x5_1.length co24) y309 := (by rw [hw, Ny309.out]; exact HP27.1); clear HP27; have n0_ := Aside0.mk (hp_); have n1_ := Aside0.mk ((by rw [hw]; exact below_set (HB.out) GB14.out : Below w.heap.size w w28)); clear HO_5; clear HB; have HO_5 := n0_; have HB := n1_; clear n0_ n1_; clear hg hw hp_))
              go_roundg k1
              case measure => have := HK1.out; omega
              case rel => exact ⟨(y309), (ji19), (by first | rfl | (simp; done) | (simp only [← hji19] <;> (first | rfl | simp)) | (simp [*]; done)), H', ⟨by have := HK1.out; omega⟩, ⟨by (with_reducible repeat (first | apply Kd.R_alloc | apply Kd.R_drewN | apply Kd.R_drew)); exact HO_5.out⟩, ⟨by repeat (first | (with_reducible first | exact HB.out | apply below_alloc | apply pw_below_drewN | apply below_drew1) | exact HB.out)⟩⟩
             ·rw [if_neg c21] at H
              exact absurd H (by simp)
            ·rw [if_neg c20] at H
             exact absurd H (by simp)
           ·rw [if_neg c17] at H
            exact absurd H (by simp)
          ·rw [if_neg c15] at H
           have c15b0 : decide (0 < a1) = false := decide_eq_false c15
           clear c15
           have H' := Aside0.mk H
           clear H
           try go_wp2
           have n0_ := Aside0.mk (Kd.R_drew HO_5.out)
           have n1_ := Aside0.mk (below_drew1 HB.out)
           clear HO_5
           clear HB
           have HO_5 := n0_
           have HB := n1_
           clear n0_ n1_
           obtain ⟨Ao30, co30, eo30⟩ := Kd.R_slice HO_5.out
           (first | subst eo30 | (injection eo30 with f1_ f2_ f3_; have f4_ := f1_.symm; have f5_ := f3_.symm; clear f1_ f2_ f3_; subst f4_; subst f5_))
           have p305 : 0 ≤ (x13_1 : Int) := of_decide_eq_true (by first | (with_reducible assumption) | assumption)
           have q305 : x13_1 < (x5_1.length : Int) := of_decide_eq_true (by first | (with_reducible assumption) | assumption)
           obtain ⟨ad305, e305, hx305_0⟩ := Kd.at_int (Kd.R_reads' HO_5.out).2.2 x13_1 p305 q305
           cases e305
           replace p305 := eq_true p305
           replace q305 := eq_true q305
           have p306 : 0 ≤ (x13_1 : Int) := of_decide_eq_true (by first | (with_reducible assumption) | assumption)
           have q306 : x13_1 < (l0.length : Int) := of_decide_eq_true (by first | (with_reducible assumption) | assumption)
           obtain ⟨ad306, e306, hx306_0⟩ := Kd.at_int HR0.out x13_1 p306 q306
           have hw306_0 := hx306_0
           cases e306
           replace hx306_0 := (HB.out.cell (World.block_lt_of_cell? w _ hx306_0)).trans hx306_0
           replace p306 := eq_true p306
           replace q306 := eq_true q306
           have p14 : 0 ≤ (x13_1 : Int) := of_decide_eq_true (by first | (with_reducible assumption) | assumption)
           have q14 : (x13_1 : Int) < ((x5_1.length : Int) : Int) := of_decide_eq_true (by first | (with_reducible assumption) | assumption)
           obtain ⟨go14, co14, eo14, gb14, gl14, cl14, HG14⟩ := Kd.R_form HO_5.out (by omega)
           (first | cases eo14 | (injection eo14 with ea_ en_ ec_; (first | subst ea_ | (injection ea_ with ea_; subst ea_)); subst ec_; clear en_))
           have GB14 := Aside0.mk gb14
           have GG14 := Aside0.mk HG14
           clear gb14 gl14 HG14
           (first | simp only [add_plain] at hx305_0 | skip)
           obtain ⟨hx14_0, hf14_0⟩ := Kd.R_celln 0 HO_5.out (x13_1 : Int) p14 q14
           replace p14 := eq_true p14
           replace q14 := eq_true q14
           have HP31 := Kd.R_putn HO_5.out (x13_1 : Int) (Go.bits .or .u64 (rd x5_1 x13_1) (ji13))
           rw [← Ny307.out] at HP31
           have HQ31 := Aside0.mk HP31
           clear HP31
           refine start_ (n := 13) (S := fun w' => w'.cell? ⟨go14, (x13_1).toNat, none⟩ = some (.int .u64 (rd x5_1 x13_1)) ∧ w'.cell? (ad306.add (x13_1).toNat) = some (.int .u64 (rd l0 x13_1))) (ds := [12]) #[false, false, false, false, false, false, false, false, false, false, false, false, false] (by kernel_rfl) rfl rfl ⟨hx305_0, ((HB.out.cell (World.block_lt_of_cell? w _ hw306_0)).trans hw306_0)⟩ (fun hHeld => ?_); refine with_tabW nat_shifted.tab5 nat_shifted.bits5 (fun HT_ HW_ => ?_)
           generalize wr.drew = w29 at HO_5 HB GG14 HQ31 hf14_0 hx14_0 hx305_0 hx306_0 hHeld ⊢
           refine pure_ (i := 0) (N := some 16) (v := ?_) (a' := ?_) #[true, false, false, false, false, false, false, false, false, false, false, false, false] rfl rfl (any_of HT_.out (by kernel_rfl)) (fun _ _ _ h => h) (Or.inl ⟨by rfl, ?_⟩) ?_ ?_
           rotate_left
           ·intro w'
            go_simp
            with_reducible rfl
           rotate_left
           ·simp only [Act.put, List.setIfInBounds_toArray, List.set_cons_zero, List.set_cons_succ, i64_w, i32_w]
            rfl
           refine pure_ (i := 1) (N := some 17) (v := ?_) (a' := ?_) #[true, true, false, false, false, false, false, false, false, false, false, false, false] rfl rfl (any_of HT_.out (by kernel_rfl)) (fun _ _ _ h => h) (Or.inl ⟨by rfl, ?_⟩) ?_ ?_
           rotate_left
           ·intro w'
            go_simp
            with_reducible rfl
           rotate_left
           ·simp only [Act.put, List.setIfInBounds_toArray, List.set_cons_zero, List.set_cons_succ, i64_w, i32_w]
            rfl
           refine pure_ (i := 2) (N := some 18) (v := ?_) (a' := ?_) #[true, true, true, false, false, false, false, false, false, false, false, false, false] rfl rfl (any_of HT_.out (by kernel_rfl)) (fun _ _ _ h => h) (Or.inl ⟨by rfl, ?_⟩) ?_ ?_
           rotate_left
           ·intro w'
            go_simp
            with_reducible rfl
           rotate_left
           ·simp only [Act.put, List.setIfInBounds_toArray, List.set_cons_zero, List.set_cons_succ, i64_w, i32_w]
            rfl
           refine pure_ (i := 4) (N := some 20) (v := ?_) (a' := ?_) #[true, true, true, false, true, false, false, false, false, false, false, false, false] rfl rfl (any_of HT_.out (by kernel_rfl)) (fun _ _ _ h => h) (Or.inl ⟨by rfl, ?_⟩) ?_ ?_
           rotate_left
           ·intro w'
            go_simp
            with_reducible rfl
           rotate_left
           ·simp only [Act.put, List.setIfInBounds_toArray, List.set_cons_zero, List.set_cons_succ, i64_w, i32_w]
            rfl
           refine pure_ (i := 5) (N := some 21) (v := ?_) (a' := ?_) #[true, true, true, false, true, true, false, false, false, false, false, false, false] rfl rfl (any_of HT_.out (by kernel_rfl)) (fun _ _ _ h => h) (Or.inl ⟨by rfl, ?_⟩) ?_ ?_
           rotate_left
           ·intro w'
            go_simp
            with_reducible rfl
           rotate_left
           ·simp only [Act.put, List.setIfInBounds_toArray, List.set_cons_zero, List.set_cons_succ, i64_w, i32_w]
            rfl
           refine pure_ (i := 6) (N := some 22) (v := ?_) (a' := ?_) #[true, true, true, false, true, true, true, false, false, false, false, false, false] rfl rfl (any_of HT_.out (by kernel_rfl)) (fun _ _ _ h => h) (Or.inl ⟨by rfl, ?_⟩) ?_ ?_
           rotate_left
           ·intro w'
            go_simp
            with_reducible rfl
           rotate_left
           ·simp only [Act.put, List.setIfInBounds_toArray, List.set_cons_zero, List.set_cons_succ, i64_w, i32_w]
            rfl
           refine pure_ (i := 8) (N := some 24) (v := ?_) (a' := ?_) #[true, true, true, false, true, true, true, false, true, false, false, false, false] rfl rfl (any_of HT_.out (by kernel_rfl)) (fun _ _ _ h => h) (Or.inl ⟨by rfl, ?_⟩) ?_ ?_
           rotate_left
           ·intro w'
            go_simp
            with_reducible rfl
           rotate_left
           ·simp only [Act.put, List.setIfInBounds_toArray, List.set_cons_zero, List.set_cons_succ, i64_w, i32_w]
            rfl
           refine take_ (i := 3) (N := some 19) (v := ?_) (a' := ?_) #[true, true, true, true, true, true, true, false, true, false, false, false, false] rfl rfl (take_ofW HT_.out HW_.out (by kernel_rfl)) (fun _ _ _ h => h) (Or.inl ⟨by rfl, ?_⟩) hHeld ?_ ?_
           rotate_left
           ·rintro w' ⟨s0, s1⟩
            go_simp
            with_reducible rfl
           rotate_left
           ·simp only [Act.put, List.setIfInBounds_toArray, List.set_cons_zero, List.set_cons_succ, i64_w, i32_w]
            rfl
           refine take_ (i := 7) (N := some 23) (v := ?_) (a' := ?_) #[true, true, true, true, true, true, true, true, true, false, false, false, false] rfl rfl (take_ofW HT_.out HW_.out (by kernel_rfl)) (fun _ _ _ h => h) (Or.inl ⟨by rfl, ?_⟩) hHeld ?_ ?_
           rotate_left
           ·rintro w' ⟨s0, s1⟩
            go_simp
            with_reducible rfl
           rotate_left
           ·simp only [Act.put, List.setIfInBounds_toArray, List.set_cons_zero, List.set_cons_succ, i64_w, i32_w]
            rfl
           refine pure_ (i := 9) (N := some 25) (v := ?_) (a' := ?_) #[true, true, true, true, true, true, true, true, true, true, false, false, false] rfl rfl (any_of HT_.out (by kernel_rfl)) (fun _ _ _ h => h) (Or.inl ⟨by rfl, ?_⟩) ?_ ?_
           rotate_left
           ·intro w'
            go_simp
            with_reducible rfl
           rotate_left
           ·simp only [Act.put, List.setIfInBounds_toArray, List.set_cons_zero, List.set_cons_succ, i64_w, i32_w]
            rfl
           refine pure_ (i := 10) (N := some 26) (v := ?_) (a' := ?_) #[true, true, true, true, true, true, true, true, true, true, true, false, false] rfl rfl (any_of HT_.out (by kernel_rfl)) (fun _ _ _ h => h) (Or.inl ⟨by rfl, ?_⟩) ?_ ?_
           rotate_left
           ·intro w'
            go_simp
            with_reducible rfl
           rotate_left
           ·simp only [Act.put, List.setIfInBounds_toArray, List.set_cons_zero, List.set_cons_succ, i64_w, i32_w]
            rfl
           refine pure_ (i := 11) (N := some 27) (v := ?_) (a' := ?_) #[true, true, true, true, true, true, true, true, true, true, true, true, false] rfl rfl (any_of HT_.out (by kernel_rfl)) (fun _ _ _ h => h) (Or.inl ⟨by rfl, ?_⟩) ?_ ?_
           rotate_left
           ·intro w'
            go_simp
            with_reducible rfl
           rotate_left
           ·simp only [Act.put, List.setIfInBounds_toArray, List.set_cons_zero, List.set_cons_succ, i64_w, i32_w]
            rfl
           refine last_ (i := 12) (N := none) #[true, true, true, true, true, true, true, true, true, true, true, true, true] rfl rfl (one_of HT_.out (by kernel_rfl)) (by decide) (fun K hK => ?_)
           refine skip_ (w1 := ?_) (by rfl) rfl ?_ ?_
           rotate_left
           ·go_simp
            rfl
           refine hK.out _ _ ?_
           clear hK K
           refine done_ (done_of HT_.out (by kernel_rfl)) ?_
           try go_wp2
           go_roundg k1
           case measure => have := HK1.out; omega
           case rel => exact ⟨(y307), (wrap64 (x13_1 + 1)), (by first | rfl | (simp; done) | (simp [*]; done)), H', ⟨by have := HK1.out; omega⟩, ⟨by (with_reducible repeat (first | apply Kd.R_alloc | apply Kd.R_drewN | apply Kd.R_drew)); exact HQ31.out⟩, ⟨by repeat (first | (with_reducible first | exact HB.out | apply below_alloc | apply pw_below_drewN | apply below_drew1 | refine below_set ?_ GB14.out) | exact HB.out)⟩⟩
         ·rw [if_neg c12] at H
          exact absurd H (by simp)
        ·rw [if_neg c11] at H
         exact absurd H (by simp)
       ·rw [if_neg c10] at H
        exact absurd H (by simp)
      ·rw [if_neg c9] at H
       exact absurd H (by simp)
     ·rw [if_neg c8] at H
      have c8b0 : decide (x13_1 < (l0.length : Int)) = false := decide_eq_false c8
      clear c8
      obtain rfl := Option.some.inj H
      go_wp2
      go_ret
      exact ⟨_, by first | rfl | (simp [errW_none, errW_some] <;> rfl) | (simp only [← hji3]; first | rfl | (simp [errW_none, errW_some] <;> rfl)) | (simp [*, errW_none, errW_some] <;> rfl), by (with_reducible repeat (first | apply Kd.R_alloc | apply Kd.R_drewN | apply Kd.R_drew)); exact HO_5.out, by repeat (first | (with_reducible first | exact HB.out | apply below_alloc | apply pw_below_drewN | apply below_drew1) | exact HB.out)⟩
  ·rw [if_neg c5] at H
   exact absurd H (by simp)
 ·rw [if_neg c4] at H
  exact absurd H (by simp)
end Go.Proofs.YtgkdealidnidiaaDoor.Na
