/- Texts of the seat, as far as the row needs them. -/
import Derived.Test.YtgkdealidnidiaaDoorQRatRounds11
set_option linter.unusedVariables false
set_option linter.unusedSimpArgs false
set_option maxHeartbeats 8000000
set_option maxRecDepth 100000
namespace Go.Proofs.YtgkdealidnidiaaDoor.Na
open Go.RowKit Go.Proofs.YtgkdealidnidiaaDoorW.PrintWords Go.Proofs.YtgkdealidnidiaaDoorW.PrintLast Go.Proofs.YtgkdealidnidiaaDoorW.PrintMore Go.Proofs.YtgkdealidnidiaaDoor.Dg
theorem scaled_range_c {w : World} {A1 A2 : Option Addr} {n1 n2 c1 c2 : Nat} (p : Int) (hp : p < 0 ∨ 4096 < p) :
  Calls Tryd.prog 90 #[.agg #[.slice A1 n1 c1, .slice A2 n2 c2, .bool true], .int .i64 p] w fun e w' => e = .returned (.tuple #[.agg #[.slice none 0 0], .bool false, .int .i64 5]) ∧ Below w.heap.size w w' := by
 have hu29 := Tryd.underlying29
 by_cases h0 : p < 0
 ·have d1 : decide (p < 0) = true := decide_eq_true h0
  go_enter Tryd.func90, Tryd.ntmps90
  go_wp2_with fail
  have f_4 : bx ((w.alloc (.cells #[.slice A1 n1 c1, .slice A2 n2 c2, .bool true] 62)).alloc (.cells #[.slice none 0 0] 29)) (w.heap.size + 1) (.slice none 0 0) := by have h := bx.new (w.alloc (.cells #[.slice A1 n1 c1, .slice A2 n2 c2, .bool true] 62)) (.slice none 0 0); simpa using h
  refine bodyPost_ret (zt (rs := [.cell 4 29, .tmp 5, .tmp 6]) rfl (by simp) (.cell (w.heap.size + 1) 29 #[.slice none 0 0] (0, 0) _ rfl f_4 Tryd.underlying29 rfl zh (.tmp (.tmp .nil)))) rfl ?_
  exact ⟨rfl, bA (bA (Below.refl _ _) _) _⟩
 ·have d1 : decide (p < 0) = false := decide_eq_false h0
  have d2 : decide (p > 4096) = true := decide_eq_true (by omega)
  have d3 : decide (4096 < p) = true := decide_eq_true (by omega)
  go_enter Tryd.func90, Tryd.ntmps90
  go_wp2_with fail
  have f_4 : bx ((w.alloc (.cells #[.slice A1 n1 c1, .slice A2 n2 c2, .bool true] 62)).alloc (.cells #[.slice none 0 0] 29)) (w.heap.size + 1) (.slice none 0 0) := by have h := bx.new (w.alloc (.cells #[.slice A1 n1 c1, .slice A2 n2 c2, .bool true] 62)) (.slice none 0 0); simpa using h
  refine bodyPost_ret (zt (rs := [.cell 4 29, .tmp 5, .tmp 6]) rfl (by simp) (.cell (w.heap.size + 1) 29 #[.slice none 0 0] (0, 0) _ rfl f_4 Tryd.underlying29 rfl zh (.tmp (.tmp .nil)))) rfl ?_
  exact ⟨rfl, bA (bA (Below.refl _ _) _) _⟩
theorem scaled_limit_c {w : World} {A1 A2 : Option Addr} {n1 n2 c1 c2 x : Nat} (h1 : Nw w (.slice A1 n1 c1) x) (lx : (wd BW x).length ≤ 64) (p : Nat) (hp : p ≤ 4096) (hfit : ¬ (wd BW (x * 2 ^ p)).length ≤ 64) :
  Calls Tryd.prog 90 #[.agg #[.slice A1 n1 c1, .slice A2 n2 c2, .bool true], .int .i64 (p : Int)] w fun e w' => e = .returned (.tuple #[.agg #[.slice none 0 0], .bool false, .int .i64 1]) ∧ Below w.heap.size w w' := by
 have hu29 := Tryd.underlying29
 have hu62 := Tryd.underlying62
 have f_2 : rb ((w.alloc (.cells #[.slice A1 n1 c1, .slice A2 n2 c2, .bool true] 62)).alloc (.cells #[.slice none 0 0] 29)) w.heap.size (.slice A1 n1 c1) (.slice A2 n2 c2) true := (rb.new w _ _ _).alloc _
 have f_4 : bx ((w.alloc (.cells #[.slice A1 n1 c1, .slice A2 n2 c2, .bool true] 62)).alloc (.cells #[.slice none 0 0] 29)) (w.heap.size + 1) (.slice none 0 0) := by have h := bx.new (w.alloc (.cells #[.slice A1 n1 c1, .slice A2 n2 c2, .bool true] 62)) (.slice none 0 0); simpa using h
 have hB : Below w.heap.size w ((w.alloc (.cells #[.slice A1 n1 c1, .slice A2 n2 c2, .bool true] 62)).alloc (.cells #[.slice none 0 0] 29)) := bA (bA (Below.refl _ _) _) _
 have d1 : decide ((p : Int) < 0) = false := decide_eq_false (by omega)
 have d2 : decide ((p : Int) > 4096) = false := decide_eq_false (by omega)
 have d3 : decide (4096 < (p : Int)) = false := decide_eq_false (by omega)
 have F := fun (W : World) (h : Nw W (.slice A1 n1 c1) x) => shl_c h lx p (by omega)
 have e1 : zw2 (x * 2 ^ p) = 1 := by unfold zw2; rw [if_neg hfit]
 rw [e1] at F
 clear e1 hfit
 have k0 := (kC f_2 0).trans rfl
 go_enter Tryd.func90, Tryd.ntmps90
 go_wp2_with fail
 replace h1 := h1.below hB
 clear k0 f_2
 generalize ((w.alloc (.cells #[.slice A1 n1 c1, .slice A2 n2 c2, .bool true] 62)).alloc (.cells #[.slice none 0 0] 29)) = w_1 at f_4 h1 hB ⊢
 have l_4 : w.heap.size ≤ w.heap.size + 1 := by omega
 generalize w.heap.size + 1 = b_4 at f_4 l_4 ⊢
 refine (F _ h1).mono ?_
 rintro e w_2 ⟨z_n, rfl, hnn, hb⟩
 replace f_4 := f_4.below hb
 replace hB := hB.trans (hb.mono hB.size)
 clear hb
 clear F
 obtain ⟨A_3, n_3, c_3, rfl⟩ := hnn.shape
 replace f_4 := f_4.alloc (.cells #[(.slice A_3 n_3 c_3)] 29)
 have hA := bA (Below.refl w_2.heap.size w_2) (.cells #[(.slice A_3 n_3 c_3)] 29)
 replace hB := hB.trans (hA.mono hB.size)
 have hs4 : (w_2.alloc (.cells #[(.slice A_3 n_3 c_3)] 29)).cell? ⟨b_4, 0, none⟩ = some (.slice none 0 0) := (kC f_4 0).trans rfl
 have hfs4 := kF f_4 0
 go_wp2_with fail
 refine bodyPost_ret (zt (rs := [.cell 4 29, .tmp 5, .tmp 6]) rfl (by simp) (.cell b_4 29 #[.slice none 0 0] (0, 0) _ rfl (f_4.set (.slice none 0 0)) Tryd.underlying29 rfl zh (.tmp (.tmp .nil)))) rfl ?_
 exact ⟨rfl, bS hB l_4⟩
end Go.Proofs.YtgkdealidnidiaaDoor.Na
namespace Go.Proofs.YtgkdealidnidiaaDoor.Na
open Go.RowKit Go.Proofs.YtgkdealidnidiaaDoorW.PrintWords Go.Proofs.YtgkdealidnidiaaDoorW.PrintLast Go.Proofs.YtgkdealidnidiaaDoorW.PrintMore
attribute [local go_sem] zx0 zd1
def chaffref02_Great.l0 : Nat → List (List Int) → Int → Option (Bool)
 | 0, _, _ => none
 | k + 1, x0, x3 => if x3 < (x0.length : Int) then (if 0 ≤ x3 then ((chaffref01_Bits.f k (rd_L5 x0 x3)).bind fun t650 => (if t650 > 4096 then (some true) else (chaffref02_Great.l0 k x0 (wrap64 (x3 + 1))))) else (none)) else (some false)
def chaffref02_Great.f (k : Nat) (l0 : List (List Int)) : Option (Bool) := chaffref02_Great.l0 k l0 0
theorem chaffref02_Great.calls (k : Nat) (A0 : Option Addr) (c0 : Nat) (l0 : List (List Int)) (r : Bool) (w : World) (hr0 : Kd.C (Kd.slice 3 (Kd.int .i64)) w A0 l0.length l0) (hc0 : l0.length ≤ c0) (h : chaffref02_Great.f k l0 = some r) :
  Calls Tryd.prog 91 #[.slice A0 l0.length c0] w fun e w' => e = .returned (.bool r) ∧ D0 w w' := by
 have HR0 := Q0.mk hr0
 have HC0 := Q0.mk hc0
 clear hr0 hc0
 have H : (chaffref02_Great.l0 k l0 0) = some r := h
 clear h
 have H' := Q0.mk H
 clear H
 go_enter Tryd.func91, Tryd.ntmps91
 go_wp2
 go_loopg [3] k (fun kq v3 w' => ∃ (x3_1 : Int), v3 = .int .i64 x3_1 ∧ Q0 (chaffref02_Great.l0 kq l0 x3_1 = some r) ∧ Q0 (kq ≤ k) ∧ D0 w w')
 case atStart => exact ⟨(0), (by first | rfl | (simp; done) | (simp [*]; done)), H', ⟨Nat.le_refl _⟩, by repeat (first | exact D0.refl _ | apply D0.step)⟩
 case round =>
  clear H'
  obtain ⟨x3_1, rfl, HA, HK1, ⟨m1, rfl⟩⟩ := hrel
  cases gk with
  | zero => exact absurd HA.out (by simp [chaffref02_Great.l0])
  | succ k1 =>
   have H := HA.out
   clear HA
   simp only [chaffref02_Great.l0] at H
   by_cases c2 : x3_1 < (l0.length : Int)
   ·rw [if_pos c2] at H
    have c2b0 : decide (x3_1 < (l0.length : Int)) = true := decide_eq_true c2
    clear c2
    by_cases c3 : 0 ≤ x3_1
    ·rw [if_pos c3] at H
     have c3b0 : decide (0 ≤ x3_1) = true := decide_eq_true c3
     clear c3
     replace H := Option.bind_eq_some_iff.mp H
     obtain ⟨t650, A40, H⟩ := H
     replace H : (if t650 > 4096 then (some true) else (chaffref02_Great.l0 k1 l0 (wrap64 (x3_1 + 1)))) = some r := H
     have A4 := Q0.mk A40
     clear A40
     by_cases c5 : t650 > 4096
     ·rw [if_pos c5] at H
      have c5b0 : decide (4096 < t650) = true := decide_eq_true c5
      clear c5
      obtain rfl := Option.some.inj H
      have p649 : 0 ≤ (x3_1 : Int) := of_decide_eq_true (by first | (with_reducible assumption) | assumption)
      have q649 : x3_1 < (l0.length : Int) := of_decide_eq_true (by first | (with_reducible assumption) | assumption)
      obtain ⟨ad649, A649_0, c649_0, e649, hx649_0, hl649_0, hi649_0⟩ := at_L5 HR0.out x3_1 p649 q649
      cases e649
      have HR649_0 := Q0.mk hi649_0
      have HC649_0 := Q0.mk hl649_0
      clear hi649_0 hl649_0
      replace p649 := eq_true p649
      replace q649 := eq_true q649
      go_wp2_with (first | ((with_reducible refine gC (f := 21) rfl ?_); refine zx (some 14) rfl rfl Tryd.func21 (by kernel_rfl) rfl #[.slice A649_0 (rd_L5 l0 x3_1).length c649_0] rfl (by (try simp only [List.map_toArray, List.map_cons, List.map_nil]); first | done | rfl | (simp only [List.length_drop, List.length_take]; rfl)) ?_; (with_reducible refine (chaffref01_Bits.calls k1 _ _ (rd_L5 l0 x3_1) t650 _ ?side1 ?side2 A4.out).mono ?_); (case side1 => repeat (first | exact HR649_0.out | (with_reducible refine Kd.ze ?_ _) | (with_reducible refine Kd.zf ?_ _) | (with_reducible refine Kd.zi ?_))); (case side2 => exact HC649_0.out); rintro e w' ⟨rfl, ⟨nd, rfl⟩⟩; refine ⟨_, rfl, ?_⟩))
      go_ret
      exact ⟨by first | rfl | (simp; done) | (simp [*]; done), by repeat (first | exact D0.refl _ | apply D0.step)⟩
     ·rw [if_neg c5] at H
      have c5b0 : decide (4096 < t650) = false := decide_eq_false c5
      clear c5
      have H' := Q0.mk H
      clear H
      have p649 : 0 ≤ (x3_1 : Int) := of_decide_eq_true (by first | (with_reducible assumption) | assumption)
      have q649 : x3_1 < (l0.length : Int) := of_decide_eq_true (by first | (with_reducible assumption) | assumption)
      obtain ⟨ad649, A649_0, c649_0, e649, hx649_0, hl649_0, hi649_0⟩ := at_L5 HR0.out x3_1 p649 q649
      cases e649
      have HR649_0 := Q0.mk hi649_0
      have HC649_0 := Q0.mk hl649_0
      clear hi649_0 hl649_0
      replace p649 := eq_true p649
      replace q649 := eq_true q649
      go_wp2_with (first | ((with_reducible refine gC (f := 21) rfl ?_); refine zx (some 14) rfl rfl Tryd.func21 (by kernel_rfl) rfl #[.slice A649_0 (rd_L5 l0 x3_1).length c649_0] rfl (by (try simp only [List.map_toArray, List.map_cons, List.map_nil]); first | done | rfl | (simp only [List.length_drop, List.length_take]; rfl)) ?_; (with_reducible refine (chaffref01_Bits.calls k1 _ _ (rd_L5 l0 x3_1) t650 _ ?side1 ?side2 A4.out).mono ?_); (case side1 => repeat (first | exact HR649_0.out | (with_reducible refine Kd.ze ?_ _) | (with_reducible refine Kd.zf ?_ _) | (with_reducible refine Kd.zi ?_))); (case side2 => exact HC649_0.out); rintro e w' ⟨rfl, ⟨nd, rfl⟩⟩; refine ⟨_, rfl, ?_⟩))
      go_roundg k1
      case measure => have := HK1.out; omega
      case rel => exact ⟨(wrap64 (x3_1 + 1)), (by first | rfl | (simp; done) | (simp [*]; done)), H', ⟨by have := HK1.out; omega⟩, by repeat (first | exact D0.refl _ | apply D0.step)⟩
    ·rw [if_neg c3] at H
     exact absurd H (by simp)
   ·rw [if_neg c2] at H
    have c2b0 : decide (x3_1 < (l0.length : Int)) = false := decide_eq_false c2
    clear c2
    obtain rfl := Option.some.inj H
    go_wp2
    go_ret
    exact ⟨by first | rfl | (simp; done) | (simp [*]; done), by repeat (first | exact D0.refl _ | apply D0.step)⟩
def chaffref02_Floor.j0 : Nat → Int → Bool → List Int → List Int → Option (List Int × Int)
 | 0, _, _, _, _ => none
 | k + 1, x1, x14, x652000, x652001 => if x14 = true then (some (([] : List Int), 5)) else ((chaffref01_Shl.f k x652000 x1).bind fun t652 => ((chaffref02_Great.f k (([t652] : List (List Int)))).bind fun t658 => (if t658 = true then (some (([] : List Int), 1)) else ((chaffref01_Div.f k t652 x652001).bind fun bt659 => (some (bt659.1, 0))))))
def chaffref02_Floor.f (k : Nat) (l0_0 : List Int) (l0_1 : List Int) (a1 : Int) : Option (List Int × Int) := if a1 < 0 then (chaffref02_Floor.j0 k a1 true l0_0 l0_1) else (chaffref02_Floor.j0 k a1 (decide (a1 > 4096)) l0_0 l0_1)
theorem chaffref02_Floor.calls (k : Nat) (A0_0 : Option Addr) (c0_0 : Nat) (l0_0 : List Int) (A0_1 : Option Addr) (c0_1 : Nat) (l0_1 : List Int) (a1 : Int) (r1 : List Int) (r2 : Int) (w : World) (hr0_0 : Kd.C (Kd.int .i64) w A0_0 l0_0.length l0_0) (hc0_0 : l0_0.length ≤ c0_0) (hr0_1 : Kd.C (Kd.int .i64) w A0_1 l0_1.length l0_1) (hc0_1 : l0_1.length ≤ c0_1) (h : chaffref02_Floor.f k l0_0 l0_1 a1 = some (r1, r2)) :
  Calls Tryd.prog 53 #[.agg #[.slice A0_0 l0_0.length c0_0, .slice A0_1 l0_1.length c0_1], .int .i64 a1] w fun e w' => ∃ v0_ : Value, e = .returned (.tuple #[v0_, .int .i64 r2]) ∧ Kd.V (Kd.int .i64) 3 w' w.heap.size (fun k_ => (w.heap.size ≤ k_)) v0_ r1 ∧ Below w.heap.size w w' := by
 have hu66 := Tryd.underlying66
 have HR0_0 := Q0.mk hr0_0
 have HC0_0 := Q0.mk hc0_0
 clear hr0_0 hc0_0
 have HR0_1 := Q0.mk hr0_1
 have HC0_1 := Q0.mk hc0_1
 clear hr0_1 hc0_1
 have HB := Q0.mk (Below.refl w.heap.size w)
 have H : (if a1 < 0 then (chaffref02_Floor.j0 k a1 true l0_0 l0_1) else (chaffref02_Floor.j0 k a1 (decide (a1 > 4096)) l0_0 l0_1)) = some (r1, r2) := h
 clear h
 have HC3 := Q0.mk H
 clear H
 go_enter Tryd.func53, Tryd.ntmps53
 go_upto_region 1 with (first | ((with_reducible refine gD (N := 2) rfl ?_); refine xE ?hg (N := 2) ?hd (cs := #[.slice A0_0 l0_0.length c0_0, .slice A0_1 l0_1.length c0_1]) (t := 66) ?hr ?_; (case hd => rfl); (case hg => rfl); (case hr => first | (go_simp; done) | (go_simp; rfl)); intro gb651 hg w4 hbox hb; have q_ := zm (w := w) hb (by repeat (first | (with_reducible first | exact HB.out | apply bA | apply bN | apply b1_) | exact HB.out)); replace HB := Q0.mk (bP q_ hb); have BK651 := Q0.mk (hbox); have GW651 := Q0.mk ((by rw [hg]; exact (bZ q_) : w.heap.size ≤ gb651)); have GE651 := GW651; clear q_; clear hb hbox hg))
 (try simp only [Act.put, s2_, s0_, s1_])
 go_cut [14] (fun v14 wc => ∃ (kq : Nat) (x14_2 : Bool), v14 = .bool x14_2 ∧ Q0 (chaffref02_Floor.j0 kq a1 x14_2 l0_0 l0_1 = some (r1, r2)) ∧ Q0 (kq ≤ k) ∧ Q0 (wc.heap[gb651]? = some (.cells #[(.slice A0_0 l0_0.length c0_0), (.slice A0_1 l0_1.length c0_1)] 66 (0, 0))) ∧ Q0 (Below w.heap.size w wc))
 case first =>
  have H := HC3.out
  clear HC3
  by_cases c5 : a1 < 0
  ·rw [if_pos c5] at H
   have c5b0 : decide (a1 < 0) = true := decide_eq_true c5
   clear c5
   (first | rw [c5b0] | (simp only [iw, jw]; rw [c5b0]) | skip)
   have H' := Q0.mk H
   clear H
   go_wp2
   go_meet
   case rel => exact ⟨_, (true), (by first | rfl | (simp; done) | (simp [*]; done)), H', ⟨by first | omega | exact Nat.le_refl _⟩, ⟨by (with_reducible repeat (first | refine kN ?_ _ | refine kD ?_ | refine kA ?_ _)); exact BK651.out⟩, ⟨by repeat (first | (with_reducible first | exact HB.out | apply bA | apply bN | apply b1_ | refine bS ?_ GE651.out) | exact HB.out)⟩⟩
  ·rw [if_neg c5] at H
   have c5b0 : decide (a1 < 0) = false := decide_eq_false c5
   clear c5
   (first | rw [c5b0] | (simp only [iw, jw]; rw [c5b0]) | skip)
   have H' := Q0.mk H
   clear H
   go_wp2
   go_meet
   case rel => exact ⟨_, (decide (a1 > 4096)), (by first | rfl | (simp; done) | (simp [*]; done)), H', ⟨by first | omega | exact Nat.le_refl _⟩, ⟨by (with_reducible repeat (first | refine kN ?_ _ | refine kD ?_ | refine kA ?_ _)); exact BK651.out⟩, ⟨by repeat (first | (with_reducible first | exact HB.out | apply bA | apply bN | apply b1_ | refine bS ?_ GE651.out) | exact HB.out)⟩⟩
 case rest =>
  clear HC3
  try clear p2
  try clear c5
  try clear c5b0
  obtain ⟨kq, x14_2, rfl, HA, HJ2, BK651, HB⟩ := hcut
  cases kq with
  | zero => exact absurd HA.out (by simp [chaffref02_Floor.j0])
  | succ kj2 =>
   have H := HA.out
   clear HA
   simp only [chaffref02_Floor.j0] at H
   by_cases c6 : x14_2 = true
   ·subst c6
    have H1 : (some (([] : List Int), 5)) = some (r1, r2) := by rw [if_pos rfl] at H; exact H
    clear H
    have H := H1
    clear H1
    simp only [Option.some.injEq, Prod.mk.injEq] at H
    obtain ⟨rfl, rfl⟩ := H
    go_wp2
    go_ret2
    exact ⟨_, by first | rfl | (simp [eN, eS] <;> rfl) | (simp [*, eN, eS] <;> rfl), Kd.R_V (base := w.heap.size) (by first | exact Kd.zj1 _ _ _ _ _ | exact Kd.N_nil _ _ _ _ _ | exact Kd.zg3 _ _ _ _ _ | exact Kd.Q_nil _ _ _ _ _ | exact Kd.S_nil _ _ _ _ _), by repeat (first | (with_reducible first | exact HB.out | apply bA | apply bN | apply b1_ | refine bS ?_ GE651.out) | exact HB.out)⟩
   ·replace c6 := Bool.eq_false_iff.mpr c6
    subst c6
    have H1 : ((chaffref01_Shl.f kj2 l0_0 a1).bind fun t652 => ((chaffref02_Great.f kj2 (([t652] : List (List Int)))).bind fun t658 => (if t658 = true then (some (([] : List Int), 1)) else ((chaffref01_Div.f kj2 t652 l0_1).bind fun bt659 => (some (bt659.1, 0)))))) = some (r1, r2) := by rw [if_neg (show ¬ (false = true) by decide)] at H; exact H
    clear H
    have H := H1
    clear H1
    replace H := Option.bind_eq_some_iff.mp H
    obtain ⟨t652, A70, H⟩ := H
    replace H : ((chaffref02_Great.f kj2 (([t652] : List (List Int)))).bind fun t658 => (if t658 = true then (some (([] : List Int), 1)) else ((chaffref01_Div.f kj2 t652 l0_1).bind fun bt659 => (some (bt659.1, 0))))) = some (r1, r2) := H
    have A7 := Q0.mk A70
    clear A70
    obtain ⟨y655, hy655⟩ : ∃ y_ : List (List Int), y_ = (([t652] : List (List Int))) := ⟨_, rfl⟩
    replace H : ((chaffref02_Great.f kj2 y655).bind fun t658 => (if t658 = true then (some (([] : List Int), 1)) else ((chaffref01_Div.f kj2 t652 l0_1).bind fun bt659 => (some (bt659.1, 0))))) = some (r1, r2) := by first | (rw [hy655]; with_reducible exact H) | (have H2_ := (Option.bind_some _ _).symm.trans H; rw [hy655]; with_reducible exact H2_) | (have H2_ := (Option.bind_some _ _).symm.trans H; with_reducible exact H2_) | with_reducible exact H | (rw [hy655]; exact H) | exact H
    have Ny655 := Q0.mk hy655
    clear hy655
    replace H := Option.bind_eq_some_iff.mp H
    obtain ⟨t658, A80, H⟩ := H
    replace H : (if t658 = true then (some (([] : List Int), 1)) else ((chaffref01_Div.f kj2 t652 l0_1).bind fun bt659 => (some (bt659.1, 0)))) = some (r1, r2) := H
    have A8 := Q0.mk A80
    clear A80
    by_cases c9 : t658 = true
    ·subst c9
     have H1 : (some (([] : List Int), 1)) = some (r1, r2) := by rw [if_pos rfl] at H; exact H
     clear H
     have H := H1
     clear H1
     simp only [Option.some.injEq, Prod.mk.injEq] at H
     obtain ⟨rfl, rfl⟩ := H
     have hcz10_0 : wc.cell? ⟨gb651, 0, none⟩ = some (.slice A0_0 l0_0.length c0_0) := (kC BK651.out 0).trans rfl
     have hcz10_1 : wc.cell? ⟨gb651, 1, none⟩ = some (.slice A0_1 l0_1.length c0_1) := (kC BK651.out 1).trans rfl
     have hfz10_0 := kF BK651.out 0
     have hfz10_1 := kF BK651.out 1
     go_wp2_with (first | ((with_reducible refine gC (f := 30) rfl ?_); refine zx (some 18) rfl rfl Tryd.func30 (by kernel_rfl) rfl #[.slice A0_0 l0_0.length c0_0, .int .i64 a1] rfl (by (try simp only [List.map_toArray, List.map_cons, List.map_nil]); first | done | rfl | (simp only [List.length_drop, List.length_take]; rfl)) ?_; (with_reducible refine (chaffref01_Shl.calls kj2 _ _ l0_0 a1 t652 _ ?side1 ?side2 A7.out).mono ?_); (case side1 => repeat (first | exact (Kd.zu HR0_0.out HB.out) | (with_reducible refine Kd.ze ?_ _) | (with_reducible refine Kd.zf ?_ _) | (with_reducible refine Kd.zi ?_))); (case side2 => exact HC0_0.out); rintro e w11 ⟨v653, rfl, ho0, hb⟩; refine ⟨_, rfl, ?_⟩; have q_ := zm (w := w) hb (by repeat (first | (with_reducible first | exact HB.out | apply bA | apply bN | apply b1_ | refine bS ?_ GE651.out) | exact HB.out)); have HO654 := Q0.mk (Kd.za0 (Kd.VM_ (ok' := fun k_ => (w.heap.size ≤ k_) ∧ k_ ≠ gb651) ho0 (fun k_ hk_ => ⟨(Nat.le_trans (bZ q_) hk_), (Kd.zm0 (g := gb651) (o := .cells #[.slice A0_0 l0_0.length c0_0, .slice A0_1 l0_1.length c0_1] 66 (0, 0)) (by (with_reducible repeat (first | refine kN ?_ _ | refine kD ?_ | refine kA ?_ _)); exact BK651.out) k_ hk_)⟩)) (bZ q_)); replace BK651 := Q0.mk (kB (g := gb651) (o := .cells #[.slice A0_0 l0_0.length c0_0, .slice A0_1 l0_1.length c0_1] 66 (0, 0)) (by (with_reducible repeat (first | refine kN ?_ _ | refine kD ?_ | refine kA ?_ _)); exact BK651.out) hb); replace HB := Q0.mk (bP q_ hb); clear q_; (try clear hb); (try clear hb2); (try clear hk); (try clear hi); (try clear ho0); obtain ⟨Ao12, co12, eo12⟩ := Kd.zo HO654.out; subst eo12) | ((with_reducible refine gD (N := 20) rfl ?_); refine Kd.N_lit (Kd.slice 3 (Kd.int .i64)) _ 26 ?hg (N' := 20) ?hd (xs := ([t652] : List (List Int))) (inner := [.slice Ao12 t652.length co12]) (ok := (fun k_ => (w.heap.size ≤ k_) ∧ k_ ≠ gb651)) (okp := (fun k_ => (w.heap.size ≤ k_) ∧ k_ ≠ gb651)) ?hr ?hp (fun _ hk => hk) ((show ∀ k_, w11.heap.size ≤ k_ → (fun k_ => (w.heap.size ≤ k_) ∧ k_ ≠ gb651) k_ from fun k_ hk => ⟨(Nat.le_trans (bZ (by repeat (first | (with_reducible first | exact HB.out | apply bA | apply bN | apply b1_ | refine bS ?_ GE651.out) | exact HB.out))) hk), Kd.zm0 (g := gb651) (o := .cells #[.slice A0_0 l0_0.length c0_0, .slice A0_1 l0_1.length c0_1] 66 (0, 0)) (by (with_reducible repeat (first | refine kN ?_ _ | refine kD ?_ | refine kA ?_ _)); exact BK651.out) k_ hk⟩) _ (Nat.le_refl _)) (Below.refl _ _) (Nat.le_refl _) (by simp) ?_; (case hd => rfl); (case hg => rfl); (case hr => first | (go_simp; done) | (go_simp; rfl)); (case hp => exact (zg0.one (show Kd.FK (Kd.slice 3 (Kd.int .i64)) _ _ t652 [.slice Ao12 t652.length co12] from (Kd.FK_slice_mk (Kd.z90 (Kd.VM_ (ok' := (fun k_ => (w.heap.size ≤ k_) ∧ k_ ≠ gb651)) (HO654.out) (fun k_ hk => ⟨hk.1, hk.2⟩))).2.1 (Kd.V_F (Kd.VM_ (ok' := (fun k_ => (w.heap.size ≤ k_) ∧ k_ ≠ gb651)) (HO654.out) (fun k_ hk => ⟨hk.1, hk.2⟩))))) (zg0.none _ _))); intro v656 w13 ho14 hb hg_ hnew_; clear hg_ hnew_; (first | rw [← Ny655.out] at ho14 | (simp only [Int.reduceToNat] at ho14; rw [← Ny655.out] at ho14)); have q_ := zm (w := w) hb (by repeat (first | (with_reducible first | exact HB.out | apply bA | apply bN | apply b1_ | refine bS ?_ GE651.out) | exact HB.out)); replace HO654 := Q0.mk (Kd.V_elder' (by (with_reducible repeat (first | apply Kd.VA_ | apply Kd.VN_ | apply Kd.VD_)); exact HO654.out) (Kd.N_base ho14) hb); have HO657 := Q0.mk (Kd.N_lower ho14 (bZ q_)); replace BK651 := Q0.mk (kB (g := gb651) (o := .cells #[.slice A0_0 l0_0.length c0_0, .slice A0_1 l0_1.length c0_1] 66 (0, 0)) (by (with_reducible repeat (first | refine kN ?_ _ | refine kD ?_ | refine kA ?_ _)); exact BK651.out) hb); replace HB := Q0.mk (bP q_ hb); clear q_; clear hb ho14; obtain ⟨Ao15, co15, eo15⟩ := Kd.N_slice HO657.out; subst eo15) | ((with_reducible refine gC (f := 91) rfl ?_); refine zx (some 21) rfl rfl Tryd.func91 (by kernel_rfl) rfl #[.slice Ao15 y655.length co15] rfl (by (try simp only [List.map_toArray, List.map_cons, List.map_nil]); first | done | rfl | (simp only [List.length_drop, List.length_take]; rfl)) ?_; (with_reducible refine (chaffref02_Great.calls kj2 _ _ y655 true _ ?side1 ?side2 A8.out).mono ?_); (case side1 => repeat (first | exact (Kd.N_reads' HO657.out).2.2 | (with_reducible refine Kd.ze ?_ _) | (with_reducible refine Kd.zf ?_ _) | (with_reducible refine Kd.zi ?_))); (case side2 => exact (Kd.N_reads' HO657.out).2.1); rintro e w' ⟨rfl, ⟨nd, rfl⟩⟩; refine ⟨_, rfl, ?_⟩))
     go_ret2
     exact ⟨_, by first | rfl | (simp [eN, eS] <;> rfl) | (simp [*, eN, eS] <;> rfl), Kd.R_V (base := w.heap.size) (by first | exact Kd.zj1 _ _ _ _ _ | exact Kd.N_nil _ _ _ _ _ | exact Kd.zg3 _ _ _ _ _ | exact Kd.Q_nil _ _ _ _ _ | exact Kd.S_nil _ _ _ _ _), by repeat (first | (with_reducible first | exact HB.out | apply bA | apply bN | apply b1_ | refine bS ?_ GE651.out) | exact HB.out)⟩
    ·replace c9 := Bool.eq_false_iff.mpr c9
     subst c9
     have H1 : ((chaffref01_Div.f kj2 t652 l0_1).bind fun bt659 => (some (bt659.1, 0))) = some (r1, r2) := by rw [if_neg (show ¬ (false = true) by decide)] at H; exact H
     clear H
     have H := H1
     clear H1
     replace H := Option.bind_eq_some_iff.mp H
     obtain ⟨⟨t659, t662⟩, A160, H⟩ := H
     replace H : (some (t659, 0)) = some (r1, r2) := H
     have A16 := Q0.mk A160
     clear A160
     simp only [Option.some.injEq, Prod.mk.injEq] at H
     obtain ⟨rfl, rfl⟩ := H
     have hcz17_0 : wc.cell? ⟨gb651, 0, none⟩ = some (.slice A0_0 l0_0.length c0_0) := (kC BK651.out 0).trans rfl
     have hcz17_1 : wc.cell? ⟨gb651, 1, none⟩ = some (.slice A0_1 l0_1.length c0_1) := (kC BK651.out 1).trans rfl
     have hfz17_0 := kF BK651.out 0
     have hfz17_1 := kF BK651.out 1
     go_wp2_with (first | ((with_reducible refine gC (f := 30) rfl ?_); refine zx (some 18) rfl rfl Tryd.func30 (by kernel_rfl) rfl #[.slice A0_0 l0_0.length c0_0, .int .i64 a1] rfl (by (try simp only [List.map_toArray, List.map_cons, List.map_nil]); first | done | rfl | (simp only [List.length_drop, List.length_take]; rfl)) ?_; (with_reducible refine (chaffref01_Shl.calls kj2 _ _ l0_0 a1 t652 _ ?side1 ?side2 A7.out).mono ?_); (case side1 => repeat (first | exact (Kd.zu HR0_0.out HB.out) | (with_reducible refine Kd.ze ?_ _) | (with_reducible refine Kd.zf ?_ _) | (with_reducible refine Kd.zi ?_))); (case side2 => exact HC0_0.out); rintro e w18 ⟨v653, rfl, ho0, hb⟩; refine ⟨_, rfl, ?_⟩; have q_ := zm (w := w) hb (by repeat (first | (with_reducible first | exact HB.out | apply bA | apply bN | apply b1_ | refine bS ?_ GE651.out) | exact HB.out)); have HO654 := Q0.mk (Kd.za0 (Kd.VM_ (ok' := fun k_ => (w.heap.size ≤ k_) ∧ k_ ≠ gb651) ho0 (fun k_ hk_ => ⟨(Nat.le_trans (bZ q_) hk_), (Kd.zm0 (g := gb651) (o := .cells #[.slice A0_0 l0_0.length c0_0, .slice A0_1 l0_1.length c0_1] 66 (0, 0)) (by (with_reducible repeat (first | refine kN ?_ _ | refine kD ?_ | refine kA ?_ _)); exact BK651.out) k_ hk_)⟩)) (bZ q_)); replace BK651 := Q0.mk (kB (g := gb651) (o := .cells #[.slice A0_0 l0_0.length c0_0, .slice A0_1 l0_1.length c0_1] 66 (0, 0)) (by (with_reducible repeat (first | refine kN ?_ _ | refine kD ?_ | refine kA ?_ _)); exact BK651.out) hb); replace HB := Q0.mk (bP q_ hb); clear q_; (try clear hb); (try clear hb2); (try clear hk); (try clear hi); (try clear ho0); obtain ⟨Ao19, co19, eo19⟩ := Kd.zo HO654.out; subst eo19) | ((with_reducible refine gD (N := 20) rfl ?_); refine Kd.N_lit (Kd.slice 3 (Kd.int .i64)) _ 26 ?hg (N' := 20) ?hd (xs := ([t652] : List (List Int))) (inner := [.slice Ao19 t652.length co19]) (ok := (fun k_ => (w.heap.size ≤ k_) ∧ k_ ≠ gb651)) (okp := (fun k_ => (w.heap.size ≤ k_) ∧ k_ ≠ gb651)) ?hr ?hp (fun _ hk => hk) ((show ∀ k_, w18.heap.size ≤ k_ → (fun k_ => (w.heap.size ≤ k_) ∧ k_ ≠ gb651) k_ from fun k_ hk => ⟨(Nat.le_trans (bZ (by repeat (first | (with_reducible first | exact HB.out | apply bA | apply bN | apply b1_ | refine bS ?_ GE651.out) | exact HB.out))) hk), Kd.zm0 (g := gb651) (o := .cells #[.slice A0_0 l0_0.length c0_0, .slice A0_1 l0_1.length c0_1] 66 (0, 0)) (by (with_reducible repeat (first | refine kN ?_ _ | refine kD ?_ | refine kA ?_ _)); exact BK651.out) k_ hk⟩) _ (Nat.le_refl _)) (Below.refl _ _) (Nat.le_refl _) (by simp) ?_; (case hd => rfl); (case hg => rfl); (case hr => first | (go_simp; done) | (go_simp; rfl)); (case hp => exact (zg0.one (show Kd.FK (Kd.slice 3 (Kd.int .i64)) _ _ t652 [.slice Ao19 t652.length co19] from (Kd.FK_slice_mk (Kd.z90 (Kd.VM_ (ok' := (fun k_ => (w.heap.size ≤ k_) ∧ k_ ≠ gb651)) (HO654.out) (fun k_ hk => ⟨hk.1, hk.2⟩))).2.1 (Kd.V_F (Kd.VM_ (ok' := (fun k_ => (w.heap.size ≤ k_) ∧ k_ ≠ gb651)) (HO654.out) (fun k_ hk => ⟨hk.1, hk.2⟩))))) (zg0.none _ _))); intro v656 w20 ho21 hb hg_ hnew_; clear hg_ hnew_; (first | rw [← Ny655.out] at ho21 | (simp only [Int.reduceToNat] at ho21; rw [← Ny655.out] at ho21)); have q_ := zm (w := w) hb (by repeat (first | (with_reducible first | exact HB.out | apply bA | apply bN | apply b1_ | refine bS ?_ GE651.out) | exact HB.out)); replace HO654 := Q0.mk (Kd.V_elder' (by (with_reducible repeat (first | apply Kd.VA_ | apply Kd.VN_ | apply Kd.VD_)); exact HO654.out) (Kd.N_base ho21) hb); have HO657 := Q0.mk (Kd.N_lower ho21 (bZ q_)); replace BK651 := Q0.mk (kB (g := gb651) (o := .cells #[.slice A0_0 l0_0.length c0_0, .slice A0_1 l0_1.length c0_1] 66 (0, 0)) (by (with_reducible repeat (first | refine kN ?_ _ | refine kD ?_ | refine kA ?_ _)); exact BK651.out) hb); replace HB := Q0.mk (bP q_ hb); clear q_; clear hb ho21; obtain ⟨Ao22, co22, eo22⟩ := Kd.N_slice HO657.out; subst eo22) | ((with_reducible refine gC (f := 91) rfl ?_); refine zx (some 21) rfl rfl Tryd.func91 (by kernel_rfl) rfl #[.slice Ao22 y655.length co22] rfl (by (try simp only [List.map_toArray, List.map_cons, List.map_nil]); first | done | rfl | (simp only [List.length_drop, List.length_take]; rfl)) ?_; (with_reducible refine (chaffref02_Great.calls kj2 _ _ y655 false _ ?side1 ?side2 A8.out).mono ?_); (case side1 => repeat (first | exact (Kd.N_reads' HO657.out).2.2 | (with_reducible refine Kd.ze ?_ _) | (with_reducible refine Kd.zf ?_ _) | (with_reducible refine Kd.zi ?_))); (case side2 => exact (Kd.N_reads' HO657.out).2.1); rintro e w' ⟨rfl, ⟨nd, rfl⟩⟩; refine ⟨_, rfl, ?_⟩; have hcz23_0 : w20.cell? ⟨gb651, 0, none⟩ = some (.slice A0_0 l0_0.length c0_0) := (kC BK651.out 0).trans rfl; have hcz23_1 : w20.cell? ⟨gb651, 1, none⟩ = some (.slice A0_1 l0_1.length c0_1) := (kC BK651.out 1).trans rfl; have hfz23_0 := kF BK651.out 0; have hfz23_1 := kF BK651.out 1) | ((with_reducible refine gC (f := 42) rfl ?_); refine zx (some 26) rfl rfl Tryd.func42 (by kernel_rfl) rfl #[.slice Ao19 t652.length co19, .slice A0_1 l0_1.length c0_1] rfl (by (try simp only [List.map_toArray, List.map_cons, List.map_nil]); first | done | rfl | (simp only [List.length_drop, List.length_take]; rfl)) ?_; (with_reducible refine (chaffref01_Div.calls kj2 _ _ t652 _ _ l0_1 t659 t662 _ ?side1 ?side2 ?side3 ?side4 A16.out).mono ?_); (case side1 => repeat (first | exact (Kd.z90 HO654.out).2.2 | (with_reducible refine Kd.ze ?_ _) | (with_reducible refine Kd.zf ?_ _) | (with_reducible refine Kd.zi ?_))); (case side2 => exact (Kd.z90 HO654.out).2.1); (case side3 => repeat (first | exact (Kd.zu HR0_1.out (by repeat (first | (with_reducible first | exact HB.out | apply bA | apply bN | apply b1_ | refine bS ?_ GE651.out) | exact HB.out))) | (with_reducible refine Kd.ze ?_ _) | (with_reducible refine Kd.zf ?_ _) | (with_reducible refine Kd.zi ?_))); (case side4 => exact HC0_1.out); rintro e w24 ⟨v660, v663, rfl, ho0, ho1, hb⟩; refine ⟨_, rfl, ?_⟩; have q_ := zm (w := w) hb (by repeat (first | (with_reducible first | exact HB.out | apply bA | apply bN | apply b1_ | refine bS ?_ GE651.out) | exact HB.out)); replace HO654 := Q0.mk (Kd.zl (by (with_reducible repeat (first | apply Kd.VA_ | apply Kd.VN_ | apply Kd.VD_)); exact HO654.out) hb); have HO661 := Q0.mk (Kd.za0 (Kd.VM_ (ok' := fun k_ => (w.heap.size ≤ k_) ∧ some k_ ≠ (.slice Ao22 y655.length co22 : Value).ownBlock ∧ k_ ≠ gb651) ho0 (fun k_ hk_ => ⟨(Nat.le_trans (bZ q_) hk_), (Kd.fresh' (Kd.N_lt (by (with_reducible repeat (first | apply Kd.N_alloc | apply Kd.N_drewN | apply Kd.N_drew)); exact HO657.out)) k_ hk_), (Kd.zm0 (g := gb651) (o := .cells #[.slice A0_0 l0_0.length c0_0, .slice A0_1 l0_1.length c0_1] 66 (0, 0)) (by (with_reducible repeat (first | refine kN ?_ _ | refine kD ?_ | refine kA ?_ _)); exact BK651.out) k_ hk_)⟩)) (bZ q_)); have HO664 := Q0.mk (Kd.za0 (Kd.VM_ (ok' := fun k_ => (w.heap.size ≤ k_) ∧ some k_ ≠ (.slice Ao22 y655.length co22 : Value).ownBlock ∧ k_ ≠ gb651) ho1 (fun k_ hk_ => ⟨(Nat.le_trans (bZ q_) hk_), (Kd.fresh' (Kd.N_lt (by (with_reducible repeat (first | apply Kd.N_alloc | apply Kd.N_drewN | apply Kd.N_drew)); exact HO657.out)) k_ hk_), (Kd.zm0 (g := gb651) (o := .cells #[.slice A0_0 l0_0.length c0_0, .slice A0_1 l0_1.length c0_1] 66 (0, 0)) (by (with_reducible repeat (first | refine kN ?_ _ | refine kD ?_ | refine kA ?_ _)); exact BK651.out) k_ hk_)⟩)) (bZ q_)); replace HO657 := Q0.mk (Kd.N_below (by (with_reducible repeat (first | apply Kd.N_alloc | apply Kd.N_drewN | apply Kd.N_drew)); exact HO657.out) hb); replace BK651 := Q0.mk (kB (g := gb651) (o := .cells #[.slice A0_0 l0_0.length c0_0, .slice A0_1 l0_1.length c0_1] 66 (0, 0)) (by (with_reducible repeat (first | refine kN ?_ _ | refine kD ?_ | refine kA ?_ _)); exact BK651.out) hb); replace HB := Q0.mk (bP q_ hb); clear q_; (try clear hb); (try clear hb2); (try clear hk); (try clear hi); (try clear ho0); (try clear ho1)))
     go_ret2
     exact ⟨_, by first | rfl | (simp [eN, eS] <;> rfl) | (simp [*, eN, eS] <;> rfl), by (with_reducible repeat (first | apply Kd.VA_ | apply Kd.VN_ | apply Kd.VD_)); exact Kd.VM_ HO661.out (fun _ hk => hk.1), by repeat (first | (with_reducible first | exact HB.out | apply bA | apply bN | apply b1_ | refine bS ?_ GE651.out) | exact HB.out)⟩
end Go.Proofs.YtgkdealidnidiaaDoor.Na
namespace Go.Proofs.YtgkdealidnidiaaDoor.Na
open Go.RowKit Go.Proofs.YtgkdealidnidiaaDoorW.PrintWords Go.Proofs.YtgkdealidnidiaaDoorW.PrintLast Go.Proofs.YtgkdealidnidiaaDoorW.PrintMore Go.Proofs.YtgkdealidnidiaaDoor.Dg
theorem great_ev (n : Nat) (h : (wd BD n).length ≤ 1000000) : Ev (fun k => chaffref02_Great.f k [wd BD n]) (decide (4096 < nb n)) := by
 refine Ev.step (f := fun k => (chaffref01_Bits.f k (wd BD n)).bind fun t => if t > 4096 then some true else chaffref02_Great.l0 k [wd BD n] (wrap64 (0 + 1))) (fun k => by
  show chaffref02_Great.l0 (k + 1) [wd BD n] 0 = _
  rw [chaffref02_Great.l0, if_pos (by simp), if_pos (by omega)]; rfl) ?_
 refine Ev.bind (rbits_ev n h) ?_
 by_cases hg : 4096 < nb n
 ·rw [decide_eq_true hg]
  refine Ev.congr (f := fun _ => some true) (fun k => by rw [if_pos (by omega)]) (Ev.now _)
 ·rw [decide_eq_false hg]
  refine Ev.congr (f := fun k => chaffref02_Great.l0 k [wd BD n] (wrap64 (0 + 1))) (fun k => by rw [if_neg (by omega)]) ?_
  refine Ev.step (f := fun _ => some false) (fun k => ?_) (Ev.now _)
  rw [show wrap64 (0 + 1) = 1 from w64 (by omega) (by omega), chaffref02_Great.l0, if_neg (by simp)]
theorem ffloor_range (a b : List Int) (p : Int) (h : p < 0 ∨ 4096 < p) : Ev (fun k => chaffref02_Floor.f k a b p) (([] : List Int), (5 : Int)) := by
 unfold chaffref02_Floor.f
 by_cases h0 : p < 0
 ·refine Ev.congr (f := fun k => chaffref02_Floor.j0 k p true a b) (fun k => by rw [if_pos h0]) ?_
  exact Ev.step (f := fun _ => some (([] : List Int), (5 : Int))) (fun k => by rw [chaffref02_Floor.j0, if_pos rfl]) (Ev.now _)
 ·refine Ev.congr (f := fun k => chaffref02_Floor.j0 k p true a b) (fun k => by rw [if_neg h0, decide_eq_true (show p > 4096 by omega)]) ?_
  exact Ev.step (f := fun _ => some (([] : List Int), (5 : Int))) (fun k => by rw [chaffref02_Floor.j0, if_pos rfl]) (Ev.now _)
theorem ffloor_main (x : Nat) (b : List Int) (p : Nat) (hp : p ≤ 4096) (hx : (wd BD x).length ≤ 1000000) (hl : (wd BD (x * 2 ^ p)).length ≤ 1000000) {z : List Int × Int}
  (K : Ev (fun k => if decide (4096 < nb (x * 2 ^ p)) = true then some (([] : List Int), (1 : Int)) else (chaffref01_Div.f k (wd BD (x * 2 ^ p)) b).bind fun t => some (t.1, 0)) z) : Ev (fun k => chaffref02_Floor.f k (wd BD x) b (p : Int)) z := by
 unfold chaffref02_Floor.f
 refine Ev.congr (f := fun k => chaffref02_Floor.j0 k (p : Int) false (wd BD x) b) (fun k => by rw [if_neg (by omega), decide_eq_false (show ¬ (p : Int) > 4096 by omega)]) ?_
 refine Ev.step (f := fun k => (chaffref01_Shl.f k (wd BD x) (p : Int)).bind fun t652 => ((chaffref02_Great.f k (([t652] : List (List Int)))).bind fun t658 => (if t658 = true then (some (([] : List Int), 1)) else ((chaffref01_Div.f k t652 b).bind fun bt659 => (some (bt659.1, 0)))))) (fun k => by rw [chaffref02_Floor.j0, if_neg (by decide)]) ?_
 exact Ev.bind (rshl_ev x p (by omega) hx) (Ev.bind (great_ev _ hl) K)
theorem ffloor_great (x : Nat) (b : List Int) (p : Nat) (hp : p ≤ 4096) (hx : (wd BD x).length ≤ 1000000) (hl : (wd BD (x * 2 ^ p)).length ≤ 1000000) (hg : 4096 < nb (x * 2 ^ p)) : Ev (fun k => chaffref02_Floor.f k (wd BD x) b (p : Int)) (([] : List Int), (1 : Int)) := by
 refine ffloor_main x b p hp hx hl ?_
 rw [decide_eq_true hg]
 exact Ev.congr (fun k => by rw [if_pos rfl]) (Ev.now _)
theorem z13 (x y : Nat) (p : Nat) (hp : p ≤ 4096) (hx : (wd BD x).length ≤ 1000000) (hl : (wd BD (x * 2 ^ p)).length ≤ 1000000) (hg : ¬ 4096 < nb (x * 2 ^ p)) (hy0 : 0 < y) (hy : (wd BD y).length ≤ 1000000) : Ev (fun k => chaffref02_Floor.f k (wd BD x) (wd BD y) (p : Int)) (wd BD (x * 2 ^ p / y), (0 : Int)) := by
 refine ffloor_main x _ p hp hx hl ?_
 rw [decide_eq_false hg]
 refine Ev.congr (f := fun k => (chaffref01_Div.f k (wd BD (x * 2 ^ p)) (wd BD y)).bind fun t => some (t.1, 0)) (fun k => by rw [if_neg (by decide)]) ?_
 exact Ev.bind (rdiv_ev _ y hy0 hl hy) (Ev.now _)
theorem za2 {w : World} {A1 A2 : Option Addr} {n1 n2 c1 c2 x y : Nat} {p ec : Int} {r : List Int} (h1 : Dw w (.slice A1 n1 c1) x) (h2 : Dw w (.slice A2 n2 c2) y) (hE : Ev (fun k => chaffref02_Floor.f k (wd BD x) (wd BD y) p) (r, ec)) :
  Calls Tryd.prog 53 #[.agg #[.slice A1 n1 c1, .slice A2 n2 c2], .int .i64 p] w fun e w' => ∃ z, e = .returned (.tuple #[z, .int .i64 ec]) ∧ Kf .i64 w.heap.size w' z r ∧ Below w.heap.size w w' := by
 obtain ⟨k, hk⟩ := hE.rounds
 obtain ⟨A, c, e1, hc, hC⟩ := h1
 injection e1 with e1 e2 e3
 subst e1 e2 e3
 obtain ⟨A, c, e1, hc', hC'⟩ := h2
 injection e1 with e1 e2 e3
 subst e1 e2 e3
 refine (chaffref02_Floor.calls k _ _ _ _ _ _ p _ _ w hC hc hC' hc' hk).mono ?_
 rintro e w' ⟨v0, rfl, hV, hB⟩
 exact ⟨v0, rfl, hV, hB⟩
theorem rof_c {w : World} (x : Nat) (hx : x < BW) : Calls Tryd.prog 73 #[.int .u64 (x : Int)] w fun e w' => ∃ z, e = .returned z ∧ Dw w' z x ∧ Below w.heap.size w w' := by
 obtain ⟨k, hk⟩ := (rof_ev x hx).rounds
 refine (chaffref01_Of.calls k _ _ w hk).mono ?_
 rintro e w' ⟨v0, rfl, hV, hB⟩
 exact ⟨v0, rfl, Kw.ofV hV, hB⟩
theorem great_c {w : World} {A1 : Option Addr} {n1 c1 e x : Nat} (h1 : Dw w (.slice A1 n1 c1) x) (hx : (wd BD x).length ≤ 1000000) :
  Calls Tryd.prog 91 #[.slice (some ⟨w.heap.size, 0, none⟩) 1 1] (w.alloc (.cells #[.slice A1 n1 c1] e)) fun e' w' => e' = .returned (.bool (decide (4096 < nb x))) ∧ Below w.heap.size w w' := by
 obtain ⟨A, c, e1, hc, hC⟩ := h1
 injection e1 with e1 e2 e3
 subst e1 e2 e3
 obtain ⟨k, hk⟩ := (great_ev x hx).rounds
 have hr : Kd.C (Kd.slice 3 (Kd.int .i64)) (w.alloc (.cells #[.slice A1 (wd BD x).length c1] e)) (some ⟨w.heap.size, 0, none⟩) [wd BD x].length [wd BD x] := by
  refine ⟨rfl, by simp, fun _ => ⟨_, rfl, ?_⟩⟩
  intro j p hj
  match j, hj with
  | 0, hj =>
   have hp : wd BD x = p := by simpa using hj
   subst hp
   refine ⟨[Value.slice A1 (wd BD x).length c1], rfl, ⟨A1, c1, rfl, hc, Kd.ze hC _⟩, ?_⟩
   intro i u hi
   match i, hi with
   | 0, hi =>
    have hu : Value.slice A1 (wd BD x).length c1 = u := by simpa using hi
    subst hu
    have h0 : (w.alloc (.cells #[.slice A1 (wd BD x).length c1] e)).heap[w.heap.size]? = some (.cells #[.slice A1 (wd BD x).length c1] e (0, 0)) := heap_alloc_new w _
    exact (kC h0 0).trans rfl
   | i + 1, hi => simp at hi
  | j + 1, hj => simp at hj
 refine (chaffref02_Great.calls k _ 1 [wd BD x] _ _ hr (Nat.le_refl _) hk).mono ?_
 rintro e' w' ⟨rfl, hD⟩
 exact ⟨rfl, (bA (Below.refl _ _) _).trans (hD.below.mono (by simp))⟩
theorem rceil_no_c {w : World} {A1 A2 : Option Addr} {n1 n2 c1 c2 x y : Nat} (h1 : Dw w (.slice A1 n1 c1) x) (h2 : Dw w (.slice A2 n2 c2) y) {p ec : Int} (hE : Ev (fun k => chaffref02_Floor.f k (wd BD x) (wd BD y) p) (([] : List Int), ec)) (hc : ¬ ec = 0) :
  Calls Tryd.prog 54 #[.agg #[.slice A1 n1 c1, .slice A2 n2 c2], .int .i64 p] w fun e w' => e = .returned (.tuple #[.slice none 0 0, .int .i64 ec]) ∧ Below w.heap.size w w' := by
 have hu66 := Tryd.underlying66
 have f_2 : qb (w.alloc (.cells #[.slice A1 n1 c1, .slice A2 n2 c2] 66)) w.heap.size (.slice A1 n1 c1) (.slice A2 n2 c2) := qb.new w _ _
 have hB : Below w.heap.size w (w.alloc (.cells #[.slice A1 n1 c1, .slice A2 n2 c2] 66)) := bA (Below.refl _ _) _
 go_enter Tryd.func54, Tryd.ntmps54
 go_wp2_with (first | refine Cel.lW rfl 66 _ rfl w.heap.size rfl 66 #[.slice A1 n1 c1, .slice A2 n2 c2] (0, 0) _ f_2 hu66 rfl zj2 ?_)
 replace h1 := h1.below hB
 replace h2 := h2.below hB
 generalize (w.alloc (.cells #[.slice A1 n1 c1, .slice A2 n2 c2] 66)) = w_1 at f_2 h1 h2 hB ⊢
 refine (za2 h1 h2 hE).mono ?_
 rintro e w_2 ⟨z_q, rfl, hq0, hb⟩
 replace f_2 := f_2.below hb
 replace h1 := h1.below hb
 replace h2 := h2.below hb
 replace hB := hB.trans (hb.mono hB.size)
 clear hb
 have he0 : (ec == 0) = false := beq_eq_false_iff_ne.2 hc
 go_wp2
 go_ret2
 exact ⟨rfl, hB⟩
theorem lenBD_succ (n : Nat) : (wd BD (n + 1)).length ≤ (wd BD n).length + 1 := by
 rw [zn (by decide)]
 have h : n < BD ^ (wd BD n).length := (zn (by decide) _).1 (Nat.le_refl _)
 rw [Nat.pow_succ]
 generalize BD ^ (wd BD n).length = q at h ⊢
 have : BD = 65536 := rfl
 rw [this]; omega
theorem rceil_even_c {w : World} {A1 A2 : Option Addr} {n1 n2 c1 c2 x y : Nat} (h1 : Dw w (.slice A1 n1 c1) x) (h2 : Dw w (.slice A2 n2 c2) y) (p : Nat) (hp : p ≤ 4096) (lx : (wd BD x).length ≤ 100000) (ly : (wd BD y).length ≤ 100000) (ln : (wd BD (x * 2 ^ p)).length ≤ 100000) (hg : ¬ 4096 < nb (x * 2 ^ p)) (hy0 : 0 < y) (hm : x * 2 ^ p % y = 0) :
  Calls Tryd.prog 54 #[.agg #[.slice A1 n1 c1, .slice A2 n2 c2], .int .i64 (p : Int)] w fun e w' => ∃ z, e = .returned (.tuple #[z, .int .i64 0]) ∧ Dw w' z (x * 2 ^ p / y) ∧ Below w.heap.size w w' := by
 have hu66 := Tryd.underlying66
 have f_2 : qb (w.alloc (.cells #[.slice A1 n1 c1, .slice A2 n2 c2] 66)) w.heap.size (.slice A1 n1 c1) (.slice A2 n2 c2) := qb.new w _ _
 have hB : Below w.heap.size w (w.alloc (.cells #[.slice A1 n1 c1, .slice A2 n2 c2] 66)) := bA (Below.refl _ _) _
 go_enter Tryd.func54, Tryd.ntmps54
 go_wp2_with (first | refine Cel.lW rfl 66 _ rfl w.heap.size rfl 66 #[.slice A1 n1 c1, .slice A2 n2 c2] (0, 0) _ f_2 hu66 rfl zj2 ?_)
 replace h1 := h1.below hB
 replace h2 := h2.below hB
 generalize (w.alloc (.cells #[.slice A1 n1 c1, .slice A2 n2 c2] 66)) = w_1 at f_2 h1 h2 hB ⊢
 refine (za2 h1 h2 (z13 x y p hp (by omega) (by omega) hg hy0 (by omega))).mono ?_
 rintro e w_2 ⟨z_q, rfl, hq0, hb⟩
 replace f_2 := f_2.below hb
 replace h1 := h1.below hb
 replace h2 := h2.below hb
 replace hB := hB.trans (hb.mono hB.size)
 clear hb
 have hq : Dw w_2 z_q (x * 2 ^ p / y) := Kf.kw hq0
 clear hq0
 have F := fun (W : World) (h : Dw W (.slice A1 n1 c1) x) => rshl_c h (by omega) p (by omega)
 obtain ⟨n, hn⟩ : ∃ n, x * 2 ^ p = n := ⟨_, rfl⟩
 rw [hn] at F hq ln hg hm
 have HN := Q0.mk hn
 clear hn
 obtain ⟨A_3, n_3, c_3, rfl⟩ := hq.shape
 go_wp2_with fail
 have lq := zy0 (b := BD) (x := n / y) (y := n) (by decide) (Nat.div_le_self _ _)
 have hb : Below w_2.heap.size w_2 w_2.drew := zf0 (Below.refl _ _)
 refine zt0 (n := 10) (S := fun w' => Below w_2.drew.heap.size w_2.drew w') (ds := []) #[ff,ff,ff,ff,ff,ff,ff,ff,ff,ff] (by kernel_rfl) rfl rfl (Below.refl _ _) (fun hS => ?_)
 replace f_2 := f_2.below hb
 replace h1 := h1.below hb
 replace h2 := h2.below hb
 replace hq := hq.below hb
 replace hB := hB.trans (hb.mono hB.size)
 clear hb
 generalize w_2.drew = w_4 at f_2 h1 h2 hq hB hS ⊢
 have sf_2 := f_2
 refine za 0 17 ?_ #[tt,ff,ff,ff,ff,ff,ff,ff,ff,ff] rfl rfl (by kernel_rfl) (fun _ _ _ h => h) (Or.inl ⟨by rfl, ?_⟩) ?_ ?_ ?_
 rotate_left
 ·intro w'
  go_simp
  with_reducible rfl
 rotate_left
 ·simp only [Act.put, s2_, s0_, s1_, iw, jw]
  rfl
 refine za 1 18 ?_ #[tt,tt,ff,ff,ff,ff,ff,ff,ff,ff] rfl rfl (by kernel_rfl) (fun _ _ _ h => h) (Or.inl ⟨by rfl, ?_⟩) ?_ ?_ ?_
 rotate_left
 ·intro w'
  go_simp
  with_reducible rfl
 rotate_left
 ·simp only [Act.put, s2_, s0_, s1_, iw, jw]
  rfl
 refine z10 2 19 ?_ #[tt,tt,tt,ff,ff,ff,ff,ff,ff,ff] rfl rfl (by kernel_rfl) (fun _ _ _ h => h) (Or.inl ⟨by rfl, ?_⟩) hS ?_ ?_ ?_
 rotate_left
 ·intro w' hS_
  have k_ := (kC (qb.below sf_2 hS_) 1).trans rfl
  go_simp
  with_reducible rfl
 rotate_left
 ·simp only [Act.put, s2_, s0_, s1_, iw, jw]
  rfl
 refine za 4 21 ?_ #[tt,tt,tt,ff,tt,ff,ff,ff,ff,ff] rfl rfl (by kernel_rfl) (fun _ _ _ h => h) (Or.inl ⟨by rfl, ?_⟩) ?_ ?_ ?_
 rotate_left
 ·intro w'
  go_simp
  with_reducible rfl
 rotate_left
 ·simp only [Act.put, s2_, s0_, s1_, iw, jw]
  rfl
 refine z10 5 22 ?_ #[tt,tt,tt,ff,tt,tt,ff,ff,ff,ff] rfl rfl (by kernel_rfl) (fun _ _ _ h => h) (Or.inl ⟨by rfl, ?_⟩) hS ?_ ?_ ?_
 rotate_left
 ·intro w' hS_
  have k_ := (kC (qb.below sf_2 hS_) 0).trans rfl
  go_simp
  with_reducible rfl
 rotate_left
 ·simp only [Act.put, s2_, s0_, s1_, iw, jw]
  rfl
 refine za 6 23 ?_ #[tt,tt,tt,ff,tt,tt,tt,ff,ff,ff] rfl rfl (by kernel_rfl) (fun _ _ _ h => h) (Or.inl ⟨by rfl, ?_⟩) ?_ ?_ ?_
 rotate_left
 ·intro w'
  go_simp
  with_reducible rfl
 rotate_left
 ·simp only [Act.put, s2_, s0_, s1_, iw, jw]
  rfl
 refine zh0 (i := 3) (N := some 20) #[tt,tt,tt,tt,tt,tt,tt,ff,ff,ff] rfl rfl (by kernel_rfl) (by decide) (fun K hK => ?_)
 refine z00 Tryd.func35 (by kernel_rfl) rfl #[(.slice A_3 n_3 c_3), .slice A2 n2 c2] (by rfl) rfl rfl (by (try simp only [List.map_toArray, List.map_cons, List.map_nil]); first | done | rfl | (simp only [List.length_drop, List.length_take]; rfl)) ?_
 refine (rmul_c hq h2 (by omega) (by omega)).mono ?_
 rintro e w_5 ⟨z_m, rfl, hmm, hb⟩
 refine ⟨_, rfl, ?_⟩
 replace hS := hS.trans (hb.mono hS.size)
 replace f_2 := f_2.below hb
 replace h1 := h1.below hb
 replace h2 := h2.below hb
 replace hq := hq.below hb
 replace hB := hB.trans (hb.mono hB.size)
 clear hb
 refine hK.out _ _ hS (fun hS => ?_)
 clear hK K
 refine zg (a' := ?_) ?_ ?_
 rotate_left
 ·show Act.put _ (some 20) _ = _
  simp only [Act.put, s2_, s0_, s1_, iw, jw]
  rfl
 refine zh0 (i := 7) (N := some 24) #[tt,tt,tt,tt,tt,tt,tt,tt,ff,ff] rfl rfl (by kernel_rfl) (by decide) (fun K hK => ?_)
 refine z00 Tryd.func30 (by kernel_rfl) rfl #[.slice A1 n1 c1, .int .i64 (p : Int)] (by rfl) rfl rfl (by (try simp only [List.map_toArray, List.map_cons, List.map_nil]); first | done | rfl | (simp only [List.length_drop, List.length_take]; rfl)) ?_
 refine (F _ h1).mono ?_
 rintro e w_6 ⟨z_s, rfl, hs, hb⟩
 refine ⟨_, rfl, ?_⟩
 replace hS := hS.trans (hb.mono hS.size)
 replace f_2 := f_2.below hb
 replace h1 := h1.below hb
 replace h2 := h2.below hb
 replace hq := hq.below hb
 replace hmm := hmm.below hb
 replace hB := hB.trans (hb.mono hB.size)
 clear hb
 refine hK.out _ _ hS (fun hS => ?_)
 clear hK K
 refine zg (a' := ?_) ?_ ?_
 rotate_left
 ·show Act.put _ (some 24) _ = _
  simp only [Act.put, s2_, s0_, s1_, iw, jw]
  rfl
 clear F
 have lqy : (wd BD (n / y * y)).length ≤ 1000000 := by have := zy0 (b := BD) (x := n / y * y) (y := n) (by decide) (Nat.div_mul_le_self n y); omega
 refine zh0 (i := 8) (N := some 25) #[tt,tt,tt,tt,tt,tt,tt,tt,tt,ff] rfl rfl (by kernel_rfl) (by decide) (fun K hK => ?_)
 refine z00 Tryd.func37 (by kernel_rfl) rfl #[z_m, z_s] (by rfl) rfl rfl (by (try simp only [List.map_toArray, List.map_cons, List.map_nil]); first | done | rfl | (simp only [List.length_drop, List.length_take]; rfl)) ?_
 have F := rcmp_c hmm hs lqy
 rw [cmpN_eq (show n / y * y = n by have := Nat.div_add_mod n y; rw [hm, Nat.add_zero, Nat.mul_comm] at this; exact this)] at F
 refine (F).mono ?_
 rintro e w_7 ⟨rfl, hb⟩
 refine ⟨_, rfl, ?_⟩
 replace hS := hS.trans (hb.mono hS.size)
 replace f_2 := f_2.below hb
 replace h1 := h1.below hb
 replace h2 := h2.below hb
 replace hq := hq.below hb
 replace hmm := hmm.below hb
 replace hs := hs.below hb
 replace hB := hB.trans (hb.mono hB.size)
 clear hb
 refine hK.out _ _ hS (fun hS => ?_)
 clear hK K
 refine zg (a' := ?_) ?_ ?_
 rotate_left
 ·show Act.put _ (some 25) _ = _
  simp only [Act.put, s2_, s0_, s1_, iw, jw]
  rfl
 clear F
 refine za 9 26 ?_ #[tt,tt,tt,tt,tt,tt,tt,tt,tt,tt] rfl rfl (by kernel_rfl) (fun _ _ _ h => h) (Or.inl ⟨by rfl, ?_⟩) ?_ ?_ ?_
 rotate_left
 ·intro w'
  go_simp
  with_reducible rfl
 rotate_left
 ·simp only [Act.put, s2_, s0_, s1_, iw, jw]
  rfl
 refine zh1 (by kernel_rfl) ?_
 clear f_2 h1 h2 hmm hs sf_2
 go_wp2_with fail
 have hgq : ¬ 4096 < nb (n / y) := by have := nb_mono (Nat.div_le_self n y); omega
 have F := great_c (e := 26) hq (by omega)
 rw [decide_eq_false hgq] at F
 refine (F).mono ?_
 rintro e w_8 ⟨rfl, hb⟩
 replace hq := hq.below hb
 replace hB := hB.trans (hb.mono hB.size)
 clear hb
 go_wp2
 go_ret2
 exact ⟨_, rfl, by rw [HN.out]; exact hq, hB⟩
theorem rceil_more_c {w : World} {A1 A2 : Option Addr} {n1 n2 c1 c2 x y : Nat} (h1 : Dw w (.slice A1 n1 c1) x) (h2 : Dw w (.slice A2 n2 c2) y) (p : Nat) (hp : p ≤ 4096) (lx : (wd BD x).length ≤ 100000) (ly : (wd BD y).length ≤ 100000) (ln : (wd BD (x * 2 ^ p)).length ≤ 100000) (hg : ¬ 4096 < nb (x * 2 ^ p)) (hy0 : 0 < y) (hm : ¬ x * 2 ^ p % y = 0) (hb1 : ¬ 4096 < nb (x * 2 ^ p / y + 1)) :
  Calls Tryd.prog 54 #[.agg #[.slice A1 n1 c1, .slice A2 n2 c2], .int .i64 (p : Int)] w fun e w' => ∃ z, e = .returned (.tuple #[z, .int .i64 0]) ∧ Dw w' z (x * 2 ^ p / y + 1) ∧ Below w.heap.size w w' := by
 have hu66 := Tryd.underlying66
 have f_2 : qb (w.alloc (.cells #[.slice A1 n1 c1, .slice A2 n2 c2] 66)) w.heap.size (.slice A1 n1 c1) (.slice A2 n2 c2) := qb.new w _ _
 have hB : Below w.heap.size w (w.alloc (.cells #[.slice A1 n1 c1, .slice A2 n2 c2] 66)) := bA (Below.refl _ _) _
 go_enter Tryd.func54, Tryd.ntmps54
 go_wp2_with (first | refine Cel.lW rfl 66 _ rfl w.heap.size rfl 66 #[.slice A1 n1 c1, .slice A2 n2 c2] (0, 0) _ f_2 hu66 rfl zj2 ?_)
 replace h1 := h1.below hB
 replace h2 := h2.below hB
 generalize (w.alloc (.cells #[.slice A1 n1 c1, .slice A2 n2 c2] 66)) = w_1 at f_2 h1 h2 hB ⊢
 refine (za2 h1 h2 (z13 x y p hp (by omega) (by omega) hg hy0 (by omega))).mono ?_
 rintro e w_2 ⟨z_q, rfl, hq0, hb⟩
 replace f_2 := f_2.below hb
 replace h1 := h1.below hb
 replace h2 := h2.below hb
 replace hB := hB.trans (hb.mono hB.size)
 clear hb
 have hq : Dw w_2 z_q (x * 2 ^ p / y) := Kf.kw hq0
 clear hq0
 have F := fun (W : World) (h : Dw W (.slice A1 n1 c1) x) => rshl_c h (by omega) p (by omega)
 obtain ⟨n, hn⟩ : ∃ n, x * 2 ^ p = n := ⟨_, rfl⟩
 rw [hn] at F hq ln hg hm hb1
 have HN := Q0.mk hn
 clear hn
 obtain ⟨A_3, n_3, c_3, rfl⟩ := hq.shape
 go_wp2_with fail
 have lq := zy0 (b := BD) (x := n / y) (y := n) (by decide) (Nat.div_le_self _ _)
 have hb : Below w_2.heap.size w_2 w_2.drew := zf0 (Below.refl _ _)
 refine zt0 (n := 10) (S := fun w' => Below w_2.drew.heap.size w_2.drew w') (ds := []) #[ff,ff,ff,ff,ff,ff,ff,ff,ff,ff] (by kernel_rfl) rfl rfl (Below.refl _ _) (fun hS => ?_)
 replace f_2 := f_2.below hb
 replace h1 := h1.below hb
 replace h2 := h2.below hb
 replace hq := hq.below hb
 replace hB := hB.trans (hb.mono hB.size)
 clear hb
 generalize w_2.drew = w_4 at f_2 h1 h2 hq hB hS ⊢
 have sf_2 := f_2
 refine za 0 17 ?_ #[tt,ff,ff,ff,ff,ff,ff,ff,ff,ff] rfl rfl (by kernel_rfl) (fun _ _ _ h => h) (Or.inl ⟨by rfl, ?_⟩) ?_ ?_ ?_
 rotate_left
 ·intro w'
  go_simp
  with_reducible rfl
 rotate_left
 ·simp only [Act.put, s2_, s0_, s1_, iw, jw]
  rfl
 refine za 1 18 ?_ #[tt,tt,ff,ff,ff,ff,ff,ff,ff,ff] rfl rfl (by kernel_rfl) (fun _ _ _ h => h) (Or.inl ⟨by rfl, ?_⟩) ?_ ?_ ?_
 rotate_left
 ·intro w'
  go_simp
  with_reducible rfl
 rotate_left
 ·simp only [Act.put, s2_, s0_, s1_, iw, jw]
  rfl
 refine z10 2 19 ?_ #[tt,tt,tt,ff,ff,ff,ff,ff,ff,ff] rfl rfl (by kernel_rfl) (fun _ _ _ h => h) (Or.inl ⟨by rfl, ?_⟩) hS ?_ ?_ ?_
 rotate_left
 ·intro w' hS_
  have k_ := (kC (qb.below sf_2 hS_) 1).trans rfl
  go_simp
  with_reducible rfl
 rotate_left
 ·simp only [Act.put, s2_, s0_, s1_, iw, jw]
  rfl
 refine za 4 21 ?_ #[tt,tt,tt,ff,tt,ff,ff,ff,ff,ff] rfl rfl (by kernel_rfl) (fun _ _ _ h => h) (Or.inl ⟨by rfl, ?_⟩) ?_ ?_ ?_
 rotate_left
 ·intro w'
  go_simp
  with_reducible rfl
 rotate_left
 ·simp only [Act.put, s2_, s0_, s1_, iw, jw]
  rfl
 refine z10 5 22 ?_ #[tt,tt,tt,ff,tt,tt,ff,ff,ff,ff] rfl rfl (by kernel_rfl) (fun _ _ _ h => h) (Or.inl ⟨by rfl, ?_⟩) hS ?_ ?_ ?_
 rotate_left
 ·intro w' hS_
  have k_ := (kC (qb.below sf_2 hS_) 0).trans rfl
  go_simp
  with_reducible rfl
 rotate_left
 ·simp only [Act.put, s2_, s0_, s1_, iw, jw]
  rfl
 refine za 6 23 ?_ #[tt,tt,tt,ff,tt,tt,tt,ff,ff,ff] rfl rfl (by kernel_rfl) (fun _ _ _ h => h) (Or.inl ⟨by rfl, ?_⟩) ?_ ?_ ?_
 rotate_left
 ·intro w'
  go_simp
  with_reducible rfl
 rotate_left
 ·simp only [Act.put, s2_, s0_, s1_, iw, jw]
  rfl
 refine zh0 (i := 3) (N := some 20) #[tt,tt,tt,tt,tt,tt,tt,ff,ff,ff] rfl rfl (by kernel_rfl) (by decide) (fun K hK => ?_)
 refine z00 Tryd.func35 (by kernel_rfl) rfl #[(.slice A_3 n_3 c_3), .slice A2 n2 c2] (by rfl) rfl rfl (by (try simp only [List.map_toArray, List.map_cons, List.map_nil]); first | done | rfl | (simp only [List.length_drop, List.length_take]; rfl)) ?_
 refine (rmul_c hq h2 (by omega) (by omega)).mono ?_
 rintro e w_5 ⟨z_m, rfl, hmm, hb⟩
 refine ⟨_, rfl, ?_⟩
 replace hS := hS.trans (hb.mono hS.size)
 replace f_2 := f_2.below hb
 replace h1 := h1.below hb
 replace h2 := h2.below hb
 replace hq := hq.below hb
 replace hB := hB.trans (hb.mono hB.size)
 clear hb
 refine hK.out _ _ hS (fun hS => ?_)
 clear hK K
 refine zg (a' := ?_) ?_ ?_
 rotate_left
 ·show Act.put _ (some 20) _ = _
  simp only [Act.put, s2_, s0_, s1_, iw, jw]
  rfl
 refine zh0 (i := 7) (N := some 24) #[tt,tt,tt,tt,tt,tt,tt,tt,ff,ff] rfl rfl (by kernel_rfl) (by decide) (fun K hK => ?_)
 refine z00 Tryd.func30 (by kernel_rfl) rfl #[.slice A1 n1 c1, .int .i64 (p : Int)] (by rfl) rfl rfl (by (try simp only [List.map_toArray, List.map_cons, List.map_nil]); first | done | rfl | (simp only [List.length_drop, List.length_take]; rfl)) ?_
 refine (F _ h1).mono ?_
 rintro e w_6 ⟨z_s, rfl, hs, hb⟩
 refine ⟨_, rfl, ?_⟩
 replace hS := hS.trans (hb.mono hS.size)
 replace f_2 := f_2.below hb
 replace h1 := h1.below hb
 replace h2 := h2.below hb
 replace hq := hq.below hb
 replace hmm := hmm.below hb
 replace hB := hB.trans (hb.mono hB.size)
 clear hb
 refine hK.out _ _ hS (fun hS => ?_)
 clear hK K
 refine zg (a' := ?_) ?_ ?_
 rotate_left
 ·show Act.put _ (some 24) _ = _
  simp only [Act.put, s2_, s0_, s1_, iw, jw]
  rfl
 clear F
 have lqy : (wd BD (n / y * y)).length ≤ 1000000 := by have := zy0 (b := BD) (x := n / y * y) (y := n) (by decide) (Nat.div_mul_le_self n y); omega
 refine zh0 (i := 8) (N := some 25) #[tt,tt,tt,tt,tt,tt,tt,tt,tt,ff] rfl rfl (by kernel_rfl) (by decide) (fun K hK => ?_)
 refine z00 Tryd.func37 (by kernel_rfl) rfl #[z_m, z_s] (by rfl) rfl rfl (by (try simp only [List.map_toArray, List.map_cons, List.map_nil]); first | done | rfl | (simp only [List.length_drop, List.length_take]; rfl)) ?_
 have F := rcmp_c hmm hs lqy
 rw [cmpN_lt (show n / y * y < n by have := Nat.div_add_mod n y; rw [Nat.mul_comm] at this; omega)] at F
 refine (F).mono ?_
 rintro e w_7 ⟨rfl, hb⟩
 refine ⟨_, rfl, ?_⟩
 replace hS := hS.trans (hb.mono hS.size)
 replace f_2 := f_2.below hb
 replace h1 := h1.below hb
 replace h2 := h2.below hb
 replace hq := hq.below hb
 replace hmm := hmm.below hb
 replace hs := hs.below hb
 replace hB := hB.trans (hb.mono hB.size)
 clear hb
 refine hK.out _ _ hS (fun hS => ?_)
 clear hK K
 refine zg (a' := ?_) ?_ ?_
 rotate_left
 ·show Act.put _ (some 25) _ = _
  simp only [Act.put, s2_, s0_, s1_, iw, jw]
  rfl
 clear F
 refine za 9 26 ?_ #[tt,tt,tt,tt,tt,tt,tt,tt,tt,tt] rfl rfl (by kernel_rfl) (fun _ _ _ h => h) (Or.inl ⟨by rfl, ?_⟩) ?_ ?_ ?_
 rotate_left
 ·intro w'
  go_simp
  with_reducible rfl
 rotate_left
 ·simp only [Act.put, s2_, s0_, s1_, iw, jw]
  rfl
 refine zh1 (by kernel_rfl) ?_
 clear f_2 h1 h2 hmm hs sf_2
 go_wp2_with fail
 refine (rof_c 1 (by decide)).mono ?_
 rintro e w_8 ⟨z_o, rfl, ho, hb⟩
 replace hq := hq.below hb
 replace hB := hB.trans (hb.mono hB.size)
 clear hb
 go_wp2_with fail
 have l1_ : (wd BD 1).length ≤ 1000000 := Nat.le_trans ((zn (by decide) 1).2 (by decide)) (by decide)
 have ls : (wd BD (n / y + 1)).length ≤ 1000000 := by have := zy0 (b := BD) (x := n / y + 1) (y := n + 1) (by decide) (by have := Nat.div_le_self n y; omega); have := lenBD_succ n; omega
 refine (radd_c hq ho (by omega) l1_).mono ?_
 rintro e w_9 ⟨z_r, rfl, hr, hb⟩
 replace hq := hq.below hb
 replace ho := ho.below hb
 replace hB := hB.trans (hb.mono hB.size)
 clear hb
 obtain ⟨A_10, n_10, c_10, rfl⟩ := hr.shape
 go_wp2_with fail
 have F := great_c (e := 26) hr ls
 rw [decide_eq_false hb1] at F
 refine (F).mono ?_
 rintro e w_11 ⟨rfl, hb⟩
 replace hq := hq.below hb
 replace ho := ho.below hb
 replace hr := hr.below hb
 replace hB := hB.trans (hb.mono hB.size)
 clear hb
 go_wp2
 go_ret2
 exact ⟨_, rfl, by rw [HN.out]; exact hr, hB⟩
theorem rceil_great_c {w : World} {A1 A2 : Option Addr} {n1 n2 c1 c2 x y : Nat} (h1 : Dw w (.slice A1 n1 c1) x) (h2 : Dw w (.slice A2 n2 c2) y) (p : Nat) (hp : p ≤ 4096) (lx : (wd BD x).length ≤ 100000) (ly : (wd BD y).length ≤ 100000) (ln : (wd BD (x * 2 ^ p)).length ≤ 100000) (hg : ¬ 4096 < nb (x * 2 ^ p)) (hy0 : 0 < y) (hm : ¬ x * 2 ^ p % y = 0) (hb1 : 4096 < nb (x * 2 ^ p / y + 1)) :
  Calls Tryd.prog 54 #[.agg #[.slice A1 n1 c1, .slice A2 n2 c2], .int .i64 (p : Int)] w fun e w' => e = .returned (.tuple #[.slice none 0 0, .int .i64 1]) ∧ Below w.heap.size w w' := by
 have hu66 := Tryd.underlying66
 have f_2 : qb (w.alloc (.cells #[.slice A1 n1 c1, .slice A2 n2 c2] 66)) w.heap.size (.slice A1 n1 c1) (.slice A2 n2 c2) := qb.new w _ _
 have hB : Below w.heap.size w (w.alloc (.cells #[.slice A1 n1 c1, .slice A2 n2 c2] 66)) := bA (Below.refl _ _) _
 go_enter Tryd.func54, Tryd.ntmps54
 go_wp2_with (first | refine Cel.lW rfl 66 _ rfl w.heap.size rfl 66 #[.slice A1 n1 c1, .slice A2 n2 c2] (0, 0) _ f_2 hu66 rfl zj2 ?_)
 replace h1 := h1.below hB
 replace h2 := h2.below hB
 generalize (w.alloc (.cells #[.slice A1 n1 c1, .slice A2 n2 c2] 66)) = w_1 at f_2 h1 h2 hB ⊢
 refine (za2 h1 h2 (z13 x y p hp (by omega) (by omega) hg hy0 (by omega))).mono ?_
 rintro e w_2 ⟨z_q, rfl, hq0, hb⟩
 replace f_2 := f_2.below hb
 replace h1 := h1.below hb
 replace h2 := h2.below hb
 replace hB := hB.trans (hb.mono hB.size)
 clear hb
 have hq : Dw w_2 z_q (x * 2 ^ p / y) := Kf.kw hq0
 clear hq0
 have F := fun (W : World) (h : Dw W (.slice A1 n1 c1) x) => rshl_c h (by omega) p (by omega)
 obtain ⟨n, hn⟩ : ∃ n, x * 2 ^ p = n := ⟨_, rfl⟩
 rw [hn] at F hq ln hg hm hb1
 have HN := Q0.mk hn
 clear hn
 obtain ⟨A_3, n_3, c_3, rfl⟩ := hq.shape
 go_wp2_with fail
 have lq := zy0 (b := BD) (x := n / y) (y := n) (by decide) (Nat.div_le_self _ _)
 have hb : Below w_2.heap.size w_2 w_2.drew := zf0 (Below.refl _ _)
 refine zt0 (n := 10) (S := fun w' => Below w_2.drew.heap.size w_2.drew w') (ds := []) #[ff,ff,ff,ff,ff,ff,ff,ff,ff,ff] (by kernel_rfl) rfl rfl (Below.refl _ _) (fun hS => ?_)
 replace f_2 := f_2.below hb
 replace h1 := h1.below hb
 replace h2 := h2.below hb
 replace hq := hq.below hb
 replace hB := hB.trans (hb.mono hB.size)
 clear hb
 generalize w_2.drew = w_4 at f_2 h1 h2 hq hB hS ⊢
 have sf_2 := f_2
 refine za 0 17 ?_ #[tt,ff,ff,ff,ff,ff,ff,ff,ff,ff] rfl rfl (by kernel_rfl) (fun _ _ _ h => h) (Or.inl ⟨by rfl, ?_⟩) ?_ ?_ ?_
 rotate_left
 ·intro w'
  go_simp
  with_reducible rfl
 rotate_left
 ·simp only [Act.put, s2_, s0_, s1_, iw, jw]
  rfl
 refine za 1 18 ?_ #[tt,tt,ff,ff,ff,ff,ff,ff,ff,ff] rfl rfl (by kernel_rfl) (fun _ _ _ h => h) (Or.inl ⟨by rfl, ?_⟩) ?_ ?_ ?_
 rotate_left
 ·intro w'
  go_simp
  with_reducible rfl
 rotate_left
 ·simp only [Act.put, s2_, s0_, s1_, iw, jw]
  rfl
 refine z10 2 19 ?_ #[tt,tt,tt,ff,ff,ff,ff,ff,ff,ff] rfl rfl (by kernel_rfl) (fun _ _ _ h => h) (Or.inl ⟨by rfl, ?_⟩) hS ?_ ?_ ?_
 rotate_left
 ·intro w' hS_
  have k_ := (kC (qb.below sf_2 hS_) 1).trans rfl
  go_simp
  with_reducible rfl
 rotate_left
 ·simp only [Act.put, s2_, s0_, s1_, iw, jw]
  rfl
 refine za 4 21 ?_ #[tt,tt,tt,ff,tt,ff,ff,ff,ff,ff] rfl rfl (by kernel_rfl) (fun _ _ _ h => h) (Or.inl ⟨by rfl, ?_⟩) ?_ ?_ ?_
 rotate_left
 ·intro w'
  go_simp
  with_reducible rfl
 rotate_left
 ·simp only [Act.put, s2_, s0_, s1_, iw, jw]
  rfl
 refine z10 5 22 ?_ #[tt,tt,tt,ff,tt,tt,ff,ff,ff,ff] rfl rfl (by kernel_rfl) (fun _ _ _ h => h) (Or.inl ⟨by rfl, ?_⟩) hS ?_ ?_ ?_
 rotate_left
 ·intro w' hS_
  have k_ := (kC (qb.below sf_2 hS_) 0).trans rfl
  go_simp
  with_reducible rfl
 rotate_left
 ·simp only [Act.put, s2_, s0_, s1_, iw, jw]
  rfl
 refine za 6 23 ?_ #[tt,tt,tt,ff,tt,tt,tt,ff,ff,ff] rfl rfl (by kernel_rfl) (fun _ _ _ h => h) (Or.inl ⟨by rfl, ?_⟩) ?_ ?_ ?_
 rotate_left
 ·intro w'
  go_simp
  with_reducible rfl
 rotate_left
 ·simp only [Act.put, s2_, s0_, s1_, iw, jw]
  rfl
 refine zh0 (i := 3) (N := some 20) #[tt,tt,tt,tt,tt,tt,tt,ff,ff,ff] rfl rfl (by kernel_rfl) (by decide) (fun K hK => ?_)
 refine z00 Tryd.func35 (by kernel_rfl) rfl #[(.slice A_3 n_3 c_3), .slice A2 n2 c2] (by rfl) rfl rfl (by (try simp only [List.map_toArray, List.map_cons, List.map_nil]); first | done | rfl | (simp only [List.length_drop, List.length_take]; rfl)) ?_
 refine (rmul_c hq h2 (by omega) (by omega)).mono ?_
 rintro e w_5 ⟨z_m, rfl, hmm, hb⟩
 refine ⟨_, rfl, ?_⟩
 replace hS := hS.trans (hb.mono hS.size)
 replace f_2 := f_2.below hb
 replace h1 := h1.below hb
 replace h2 := h2.below hb
 replace hq := hq.below hb
 replace hB := hB.trans (hb.mono hB.size)
 clear hb
 refine hK.out _ _ hS (fun hS => ?_)
 clear hK K
 refine zg (a' := ?_) ?_ ?_
 rotate_left
 ·show Act.put _ (some 20) _ = _
  simp only [Act.put, s2_, s0_, s1_, iw, jw]
  rfl
 refine zh0 (i := 7) (N := some 24) #[tt,tt,tt,tt,tt,tt,tt,tt,ff,ff] rfl rfl (by kernel_rfl) (by decide) (fun K hK => ?_)
 refine z00 Tryd.func30 (by kernel_rfl) rfl #[.slice A1 n1 c1, .int .i64 (p : Int)] (by rfl) rfl rfl (by (try simp only [List.map_toArray, List.map_cons, List.map_nil]); first | done | rfl | (simp only [List.length_drop, List.length_take]; rfl)) ?_
 refine (F _ h1).mono ?_
 rintro e w_6 ⟨z_s, rfl, hs, hb⟩
 refine ⟨_, rfl, ?_⟩
 replace hS := hS.trans (hb.mono hS.size)
 replace f_2 := f_2.below hb
 replace h1 := h1.below hb
 replace h2 := h2.below hb
 replace hq := hq.below hb
 replace hmm := hmm.below hb
 replace hB := hB.trans (hb.mono hB.size)
 clear hb
 refine hK.out _ _ hS (fun hS => ?_)
 clear hK K
 refine zg (a' := ?_) ?_ ?_
 rotate_left
 ·show Act.put _ (some 24) _ = _
  simp only [Act.put, s2_, s0_, s1_, iw, jw]
  rfl
 clear F
 have lqy : (wd BD (n / y * y)).length ≤ 1000000 := by have := zy0 (b := BD) (x := n / y * y) (y := n) (by decide) (Nat.div_mul_le_self n y); omega
 refine zh0 (i := 8) (N := some 25) #[tt,tt,tt,tt,tt,tt,tt,tt,tt,ff] rfl rfl (by kernel_rfl) (by decide) (fun K hK => ?_)
 refine z00 Tryd.func37 (by kernel_rfl) rfl #[z_m, z_s] (by rfl) rfl rfl (by (try simp only [List.map_toArray, List.map_cons, List.map_nil]); first | done | rfl | (simp only [List.length_drop, List.length_take]; rfl)) ?_
 have F := rcmp_c hmm hs lqy
 rw [cmpN_lt (show n / y * y < n by have := Nat.div_add_mod n y; rw [Nat.mul_comm] at this; omega)] at F
 refine (F).mono ?_
 rintro e w_7 ⟨rfl, hb⟩
 refine ⟨_, rfl, ?_⟩
 replace hS := hS.trans (hb.mono hS.size)
 replace f_2 := f_2.below hb
 replace h1 := h1.below hb
 replace h2 := h2.below hb
 replace hq := hq.below hb
 replace hmm := hmm.below hb
 replace hs := hs.below hb
 replace hB := hB.trans (hb.mono hB.size)
 clear hb
 refine hK.out _ _ hS (fun hS => ?_)
 clear hK K
 refine zg (a' := ?_) ?_ ?_
 rotate_left
 ·show Act.put _ (some 25) _ = _
  simp only [Act.put, s2_, s0_, s1_, iw, jw]
  rfl
 clear F
 refine za 9 26 ?_ #[tt,tt,tt,tt,tt,tt,tt,tt,tt,tt] rfl rfl (by kernel_rfl) (fun _ _ _ h => h) (Or.inl ⟨by rfl, ?_⟩) ?_ ?_ ?_
 rotate_left
 ·intro w'
  go_simp
  with_reducible rfl
 rotate_left
 ·simp only [Act.put, s2_, s0_, s1_, iw, jw]
  rfl
 refine zh1 (by kernel_rfl) ?_
 clear f_2 h1 h2 hmm hs sf_2
 go_wp2_with fail
 refine (rof_c 1 (by decide)).mono ?_
 rintro e w_8 ⟨z_o, rfl, ho, hb⟩
 replace hq := hq.below hb
 replace hB := hB.trans (hb.mono hB.size)
 clear hb
 go_wp2_with fail
 have l1_ : (wd BD 1).length ≤ 1000000 := Nat.le_trans ((zn (by decide) 1).2 (by decide)) (by decide)
 have ls : (wd BD (n / y + 1)).length ≤ 1000000 := by have := zy0 (b := BD) (x := n / y + 1) (y := n + 1) (by decide) (by have := Nat.div_le_self n y; omega); have := lenBD_succ n; omega
 refine (radd_c hq ho (by omega) l1_).mono ?_
 rintro e w_9 ⟨z_r, rfl, hr, hb⟩
 replace hq := hq.below hb
 replace ho := ho.below hb
 replace hB := hB.trans (hb.mono hB.size)
 clear hb
 obtain ⟨A_10, n_10, c_10, rfl⟩ := hr.shape
 go_wp2_with fail
 have F := great_c (e := 26) hr ls
 rw [decide_eq_true hb1] at F
 refine (F).mono ?_
 rintro e w_11 ⟨rfl, hb⟩
 replace hq := hq.below hb
 replace ho := ho.below hb
 replace hr := hr.below hb
 replace hB := hB.trans (hb.mono hB.size)
 clear hb
 go_wp2
 go_ret2
 exact ⟨rfl, hB⟩
theorem make0_c {w : World} {A1 A2 : Option Addr} {c1 c2 k1 k2 : Nat} {l1 l2 : List Int} (h1 : Kw .u64 w (.slice A1 k1 c1) l1) (h2 : Kw .u64 w (.slice A2 k2 c2) l2) (r1 : R BW l1) (r2 : R BW l2) {m n : Nat} (em : V BW l1 = m) (en : V BW l2 = n) (ll1 : l1.length ≤ 30) (ll2 : l2.length ≤ 30) (lm : (wd BW m).length ≤ 30) (ln : (wd BW n).length ≤ 30) (hn0 : n = 0) :
  Calls Tryd.prog 47 #[.slice A1 k1 c1, .slice A2 k2 c2] w fun e w' => e = .returned (.tuple #[.agg #[.slice none 0 0, .slice none 0 0, .bool false], .agg #[.slice none 0 0, .slice none 0 0], .bool false]) ∧ Below w.heap.size w w' := by
 have hu29 := Tryd.underlying29
 have hu62 := Tryd.underlying62
 have hu66 := Tryd.underlying66
 have lmD := zq3 lm
 have lnD := zq3 ln
 have f_4 : rb ((w.alloc (.cells #[.slice none 0 0, .slice none 0 0, .bool false] 62)).alloc (.cells #[.slice none 0 0, .slice none 0 0] 66)) w.heap.size (.slice none 0 0) (.slice none 0 0) false := (rb.new w _ _ _).alloc _
 have f_5 : qb ((w.alloc (.cells #[.slice none 0 0, .slice none 0 0, .bool false] 62)).alloc (.cells #[.slice none 0 0, .slice none 0 0] 66)) (w.heap.size + 1) (.slice none 0 0) (.slice none 0 0) := by have h := qb.new (w.alloc (.cells #[.slice none 0 0, .slice none 0 0, .bool false] 62)) (.slice none 0 0) (.slice none 0 0); simpa using h
 have hB : Below w.heap.size w ((w.alloc (.cells #[.slice none 0 0, .slice none 0 0, .bool false] 62)).alloc (.cells #[.slice none 0 0, .slice none 0 0] 66)) := bA (bA (Below.refl _ _) _) _
 go_enter Tryd.func47, Tryd.ntmps47
 go_wp2_with fail
 replace h1 := h1.below hB
 replace h2 := h2.below hB
 generalize ((w.alloc (.cells #[.slice none 0 0, .slice none 0 0, .bool false] 62)).alloc (.cells #[.slice none 0 0, .slice none 0 0] 66)) = w_1 at f_4 f_5 h1 h2 hB ⊢
 have l_4 : w.heap.size ≤ w.heap.size := Nat.le_refl _
 have l_5 : w.heap.size ≤ w.heap.size + 1 := by omega
 obtain ⟨b_4, e_4⟩ : ∃ b, w.heap.size = b := ⟨_, rfl⟩
 have n_45 : w.heap.size ≠ w.heap.size + 1 := by omega
 generalize w.heap.size + 1 = b_5 at f_5 l_5 n_45 ⊢
 clear e_4 b_4
 refine (fromk_c h1 r1 em (by omega) (by omega)).mono ?_
 rintro e w_2 ⟨z_a, rfl, ha, hb⟩
 replace h1 := h1.below hb
 replace h2 := h2.below hb
 replace f_4 := f_4.below hb
 replace f_5 := f_5.below hb
 replace hB := hB.trans (hb.mono hB.size)
 clear hb
 obtain ⟨A_3, n_3, c_3, rfl⟩ := ha.shape
 have hA : Below w_2.heap.size w_2 (w_2.alloc (.cells #[(.slice A_3 n_3 c_3)] 29)) := bA (Below.refl _ _) _
 have f_a := bx.new w_2 (.slice A_3 n_3 c_3)
 go_wp2_with fail
 replace h1 := h1.below hA
 replace h2 := h2.below hA
 replace f_4 := f_4.below hA
 replace f_5 := f_5.below hA
 replace ha := ha.below hA
 replace hB := hB.trans (hA.mono hB.size)
 clear hA
 generalize (w_2.alloc (.cells #[(.slice A_3 n_3 c_3)] 29)) = w_4 at f_a h1 h2 f_4 f_5 ha hB ⊢
 generalize w_2.heap.size = b_a at f_a ⊢
 refine (fromk_c h2 r2 en (by omega) (by omega)).mono ?_
 rintro e w_5 ⟨z_b, rfl, hbb, hb⟩
 replace h1 := h1.below hb
 replace h2 := h2.below hb
 replace f_4 := f_4.below hb
 replace f_5 := f_5.below hb
 replace ha := ha.below hb
 replace f_a := f_a.below hb
 replace hB := hB.trans (hb.mono hB.size)
 clear hb
 obtain ⟨A_6, n_6, c_6, rfl⟩ := hbb.shape
 have g_b := bx.new w_5 (.slice A_6 n_6 c_6)
 have hA : Below w_5.heap.size w_5 (w_5.alloc (.cells #[(.slice A_6 n_6 c_6)] 29)) := bA (Below.refl _ _) _
 go_wp2_with (first | refine Cel.lW rfl 29 _ rfl w_5.heap.size rfl 29 #[(.slice A_6 n_6 c_6)] (0, 0) _ g_b hu29 rfl zh ?_)
 replace h1 := h1.below hA
 replace h2 := h2.below hA
 replace f_4 := f_4.below hA
 replace f_5 := f_5.below hA
 replace ha := ha.below hA
 replace hbb := hbb.below hA
 replace f_a := f_a.below hA
 replace hB := hB.trans (hA.mono hB.size)
 clear hA
 generalize (w_5.alloc (.cells #[(.slice A_6 n_6 c_6)] 29)) = w_30 at g_b h1 h2 f_4 f_5 ha hbb f_a hB ⊢
 generalize w_5.heap.size = b_b at g_b ⊢
 have F := zy1 hbb
 rw [decide_eq_true hn0] at F
 refine (F).mono ?_
 rintro e w_31 ⟨rfl, hb⟩
 replace h1 := h1.below hb
 replace h2 := h2.below hb
 replace f_4 := f_4.below hb
 replace f_5 := f_5.below hb
 replace ha := ha.below hb
 replace hbb := hbb.below hb
 replace f_a := f_a.below hb
 replace g_b := g_b.below hb
 replace hB := hB.trans (hb.mono hB.size)
 clear hb
 clear F
 have hi2 : (Tryd.prog.info? 62).map (·.size) = some (#[.slice none 0 0, .slice none 0 0, .bool false] : Array Value).size := za1
 have ho2 : (#[.slice none 0 0, .slice none 0 0, .bool false] : Array Value).all (·.oneCell') = true := by kernel_rfl
 have hi6 : (Tryd.prog.info? 66).map (·.size) = some (#[.slice none 0 0, .slice none 0 0] : Array Value).size := zj2
 have ho6 : (#[.slice none 0 0, .slice none 0 0] : Array Value).all (·.oneCell') = true := by kernel_rfl
 have f_4' := f_4.put #[.slice none 0 0, .slice none 0 0, .bool false]
 have f_5' : qb (w_31.setRow w.heap.size #[.slice none 0 0, .slice none 0 0, .bool false]) b_5 (.slice none 0 0) (.slice none 0 0) := (setRow_other w_31 w.heap.size b_5 _ n_45.symm).trans f_5
 go_wp2_with (first | refine wpList_store_row rfl 62 _ _ rfl w.heap.size #[.slice none 0 0, .slice none 0 0, .bool false] rfl rfl 62 _ f_4 hi2 rfl ho2 ?_ | refine wpList_store_row rfl 66 _ _ rfl b_5 #[.slice none 0 0, .slice none 0 0] rfl rfl 66 _ f_5' hi6 rfl ho6 ?_)
 refine bodyPost_ret (zt (rs := [.cell 4 62, .cell 5 66, .tmp 6]) rfl (by simp) (.cell w.heap.size 62 #[.slice none 0 0, .slice none 0 0, .bool false] (0, 0) _ rfl ((setRow_other _ b_5 w.heap.size _ n_45).trans f_4') Tryd.underlying62 rfl za1 (.cell b_5 66 #[.slice none 0 0, .slice none 0 0] (0, 0) _ rfl (f_5'.put _ _) Tryd.underlying66 rfl zj2 (.tmp .nil)))) rfl ?_
 exact ⟨rfl, below_setRow (below_setRow hB l_4 _) l_5 _⟩
end Go.Proofs.YtgkdealidnidiaaDoor.Na
