/- Texts of the seat, as far as the row needs them. -/
import Derived.ChangeArms
import Derived.ChangeSlices
import Derived.DataReads
import Derived.LaidMore
import Derived.LaidSub
import Derived.MakeChecks
import Derived.ProofKit
import Derived.Test.YtgkdealidnidiaaDoorRows
import Derived.WideShapes
import Derived.Test.YtgkdealidnidiaaDoorQRatRounds12
set_option linter.unusedVariables false
set_option linter.unusedSimpArgs false
set_option maxHeartbeats 16000000
set_option maxRecDepth 100000
namespace Go.Proofs.YtgkdealidnidiaaDoor.Na
open Go.RowKit Go.Proofs.YtgkdealidnidiaaDoorW.PrintWords Go.Proofs.YtgkdealidnidiaaDoorW.PrintLast Go.Proofs.YtgkdealidnidiaaDoorW.PrintMore Go.Proofs.YtgkdealidnidiaaDoor.Dg
theorem rrounds_great {w : World} (A1 A2 : Option Addr) (c1 c2 n1 n2 : Nat) (pp : Int) (hg : 30 < n1 ∨ 30 < n2) (htab : Tab w) :
  Calls Tryd.prog 10 #[.slice A1 n1 c1, .slice A2 n2 c2, .int .i64 pp] w fun e w' => e = .returned (.bool true) ∧ Below w.heap.size w w' := by
 by_cases g1 : 30 < n1
 ·have da1 : decide ((n1 : Int) > 30) = true := decide_eq_true (by omega)
  have db1 : decide (30 < (n1 : Int)) = true := decide_eq_true (by omega)
  have dc1 : decide (30 < n1) = true := decide_eq_true (by omega)
  clear hg
  go_enter Tryd.func10, Tryd.ntmps10
  go_wp2_with fail
  refine (zs2 htab).mono ?_
  rintro e w1 ⟨rfl, hb⟩
  go_wp2
  go_ret
  exact ⟨rfl, hb⟩
 ·have g2 : 30 < n2 := by omega
  have da1 : decide ((n1 : Int) > 30) = false := decide_eq_false (by omega)
  have db1 : decide (30 < (n1 : Int)) = false := decide_eq_false (by omega)
  have dc1 : decide (30 < n1) = false := decide_eq_false (by omega)
  have da2 : decide ((n2 : Int) > 30) = true := decide_eq_true (by omega)
  have db2 : decide (30 < (n2 : Int)) = true := decide_eq_true (by omega)
  have dc2 : decide (30 < n2) = true := decide_eq_true (by omega)
  clear hg
  go_enter Tryd.func10, Tryd.ntmps10
  go_wp2_with fail
  refine (zs2 htab).mono ?_
  rintro e w1 ⟨rfl, hb⟩
  go_wp2
  go_ret
  exact ⟨rfl, hb⟩
theorem rrounds_small {w : World} (A1 A2 : Option Addr) (c1 c2 : Nat) (l1 l2 : List Int) (pp : Int) (h1 : Kw .u64 w (.slice A1 l1.length c1) l1) (h2 : Kw .u64 w (.slice A2 l2.length c2) l2) (r1 : R BW l1) (r2 : R BW l2) (htab : Tab w) (hg : ¬ (30 < l1.length ∨ 30 < l2.length)) :
  Calls Tryd.prog 10 #[.slice A1 l1.length c1, .slice A2 l2.length c2, .int .i64 pp] w fun e w' => e = .returned (.bool true) ∧ Below w.heap.size w w'  := by
 have hu29 := Tryd.underlying29
 have hu62 := Tryd.underlying62
 have hu66 := Tryd.underlying66
 have hB : Below w.heap.size w w := Below.refl _ _
 obtain ⟨m, em, lm⟩ := V_nat r1
 obtain ⟨n1, en1⟩ : ∃ n, l1.length = n := ⟨_, rfl⟩
 rw [en1] at h1 lm hg ⊢
 obtain ⟨n, en, ln⟩ := V_nat r2
 obtain ⟨n2, en2⟩ : ∃ n, l2.length = n := ⟨_, rfl⟩
 rw [en2] at h2 ln hg ⊢
 have da1 : decide ((n1 : Int) > 30) = false := decide_eq_false (by omega)
 have db1 : decide (30 < (n1 : Int)) = false := decide_eq_false (by omega)
 have dc1 : decide (30 < n1) = false := decide_eq_false (by omega)
 have da2 : decide ((n2 : Int) > 30) = false := decide_eq_false (by omega)
 have db2 : decide (30 < (n2 : Int)) = false := decide_eq_false (by omega)
 have dc2 : decide (30 < n2) = false := decide_eq_false (by omega)
 have b1 : n1 ≤ 30 := by omega
 have b2 : n2 ≤ 30 := by omega
 clear hg
 have lmD := zq3 lm
 have lnD := zq3 ln
 go_enter Tryd.func10, Tryd.ntmps10
 go_wp2_with fail
 by_cases hn0 : n = 0
 ·refine (make0_c h1 h2 r1 r2 em en (by omega) (by omega) (by omega) (by omega) hn0).mono ?_
  rintro e w_1 ⟨rfl, hb⟩
  replace h1 := h1.below hb
  replace h2 := h2.below hb
  replace htab := htab.below hb
  replace hB := hB.trans (hb.mono hB.size)
  clear hb
  have hi2 : (Tryd.prog.info? 62).map (·.size) = some (#[.slice none 0 0, .slice none 0 0, .bool false] : Array Value).size := za1
  have ho2 : (#[.slice none 0 0, .slice none 0 0, .bool false] : Array Value).all (·.oneCell') = true := by kernel_rfl
  have hi6 : (Tryd.prog.info? 66).map (·.size) = some (#[.slice none 0 0, .slice none 0 0] : Array Value).size := zj2
  have ho6 : (#[.slice none 0 0, .slice none 0 0] : Array Value).all (·.oneCell') = true := by kernel_rfl
  have g_1 : rb ((w_1.alloc (.cells #[.slice none 0 0, .slice none 0 0, .bool false] 62)).alloc (.cells #[.slice none 0 0, .slice none 0 0] 66)) w_1.heap.size (.slice none 0 0) (.slice none 0 0) false := (rb.new w_1 _ _ _).alloc _
  have g_2 : qb ((w_1.alloc (.cells #[.slice none 0 0, .slice none 0 0, .bool false] 62)).alloc (.cells #[.slice none 0 0, .slice none 0 0] 66)) (w_1.heap.size + 1) (.slice none 0 0) (.slice none 0 0) := by have h := qb.new (w_1.alloc (.cells #[.slice none 0 0, .slice none 0 0, .bool false] 62)) (.slice none 0 0) (.slice none 0 0); simpa using h
  have g_2' : qb (((w_1.alloc (.cells #[.slice none 0 0, .slice none 0 0, .bool false] 62)).alloc (.cells #[.slice none 0 0, .slice none 0 0] 66)).setRow w_1.heap.size #[.slice none 0 0, .slice none 0 0, .bool false]) (w_1.heap.size + 1) (.slice none 0 0) (.slice none 0 0) := (setRow_other _ w_1.heap.size (w_1.heap.size + 1) _ (by omega)).trans g_2
  have f_r : rb ((((w_1.alloc (.cells #[.slice none 0 0, .slice none 0 0, .bool false] 62)).alloc (.cells #[.slice none 0 0, .slice none 0 0] 66)).setRow w_1.heap.size #[.slice none 0 0, .slice none 0 0, .bool false]).setRow (w_1.heap.size + 1) #[.slice none 0 0, .slice none 0 0]) w_1.heap.size (.slice none 0 0) (.slice none 0 0) false := (setRow_other _ (w_1.heap.size + 1) w_1.heap.size _ (by omega)).trans (g_1.put _)
  have f_m : qb ((((w_1.alloc (.cells #[.slice none 0 0, .slice none 0 0, .bool false] 62)).alloc (.cells #[.slice none 0 0, .slice none 0 0] 66)).setRow w_1.heap.size #[.slice none 0 0, .slice none 0 0, .bool false]).setRow (w_1.heap.size + 1) #[.slice none 0 0, .slice none 0 0]) (w_1.heap.size + 1) (.slice none 0 0) (.slice none 0 0) := g_2'.put _ _
  have hA : Below w_1.heap.size w_1 ((((w_1.alloc (.cells #[.slice none 0 0, .slice none 0 0, .bool false] 62)).alloc (.cells #[.slice none 0 0, .slice none 0 0] 66)).setRow w_1.heap.size #[.slice none 0 0, .slice none 0 0, .bool false]).setRow (w_1.heap.size + 1) #[.slice none 0 0, .slice none 0 0]) := below_setRow (below_setRow (bA (bA (Below.refl _ _) _) _) (Nat.le_refl _) _) (by omega) _
  go_wp2_with (first | refine wpList_store_row rfl 62 _ _ rfl w_1.heap.size #[.slice none 0 0, .slice none 0 0, .bool false] rfl rfl 62 _ g_1 hi2 rfl ho2 ?_ | refine wpList_store_row rfl 66 _ _ rfl (w_1.heap.size + 1) #[.slice none 0 0, .slice none 0 0] rfl rfl 66 _ g_2' hi6 rfl ho6 ?_)
  replace h1 := h1.below hA
  replace h2 := h2.below hA
  replace htab := htab.below hA
  replace hB := hB.trans (hA.mono hB.size)
  clear hA g_1 g_2 g_2' hi2 ho2 hi6 ho6
  generalize ((((w_1.alloc (.cells #[.slice none 0 0, .slice none 0 0, .bool false] 62)).alloc (.cells #[.slice none 0 0, .slice none 0 0] 66)).setRow w_1.heap.size #[.slice none 0 0, .slice none 0 0, .bool false]).setRow (w_1.heap.size + 1) #[.slice none 0 0, .slice none 0 0]) = w_70 at f_r f_m h1 h2 htab hB ⊢
  generalize w_1.heap.size + 1 = b_m at f_m ⊢
  generalize w_1.heap.size = b_r at f_r ⊢
  refine (zs2 htab).mono ?_
  rintro e w_71 ⟨rfl, hb⟩
  replace h1 := h1.below hb
  replace h2 := h2.below hb
  replace htab := htab.below hb
  replace hB := hB.trans (hb.mono hB.size)
  clear hb
  go_wp2
  go_ret
  exact ⟨rfl, hB⟩
 ·refine (make_c h1 h2 r1 r2 em en (by omega) (by omega) (by omega) (by omega) (Nat.pos_of_ne_zero hn0)).mono ?_
  rintro e w_1 ⟨z1, z2, d1, d2, rfl, hz1, hz2, hd1, hd2, hb⟩
  replace h1 := h1.below hb
  replace h2 := h2.below hb
  replace htab := htab.below hb
  replace hB := hB.trans (hb.mono hB.size)
  clear hb
  have lx := zy0 (b := BW) (x := m / Nat.gcd m n) (y := m) (by decide) (Nat.div_le_self _ _)
  have ly := zy0 (b := BW) (x := n / Nat.gcd m n) (y := n) (by decide) (Nat.div_le_self _ _)
  have hY0 : 0 < n / Nat.gcd m n := Nat.div_pos (Nat.le_of_dvd (Nat.pos_of_ne_zero hn0) (Nat.gcd_dvd_right m n)) (Nat.gcd_pos_of_pos_right m (Nat.pos_of_ne_zero hn0))
  clear h1 h2 r1 r2 em en
  generalize m / Nat.gcd m n = X at hz1 hd1 lx
  generalize n / Nat.gcd m n = Y at hz2 hd2 ly hY0
  have lxD := zq3 lx
  have lyD := zq3 ly
  obtain ⟨A_2, n_2, c_2, rfl⟩ := hz1.shape
  obtain ⟨A_3, n_3, c_3, rfl⟩ := hz2.shape
  obtain ⟨A_d, n_d, c_d, rfl⟩ := hd1.shape
  obtain ⟨A_e, n_e, c_e, rfl⟩ := hd2.shape
  have hi2 : (Tryd.prog.info? 62).map (·.size) = some (#[(.slice A_2 n_2 c_2), (.slice A_3 n_3 c_3), .bool true] : Array Value).size := za1
  have ho2 : (#[(.slice A_2 n_2 c_2), (.slice A_3 n_3 c_3), .bool true] : Array Value).all (·.oneCell') = true := by kernel_rfl
  have hi6 : (Tryd.prog.info? 66).map (·.size) = some (#[(.slice A_d n_d c_d), (.slice A_e n_e c_e)] : Array Value).size := zj2
  have ho6 : (#[(.slice A_d n_d c_d), (.slice A_e n_e c_e)] : Array Value).all (·.oneCell') = true := by kernel_rfl
  have g_1 : rb ((w_1.alloc (.cells #[.slice none 0 0, .slice none 0 0, .bool false] 62)).alloc (.cells #[.slice none 0 0, .slice none 0 0] 66)) w_1.heap.size (.slice none 0 0) (.slice none 0 0) false := (rb.new w_1 _ _ _).alloc _
  have g_2 : qb ((w_1.alloc (.cells #[.slice none 0 0, .slice none 0 0, .bool false] 62)).alloc (.cells #[.slice none 0 0, .slice none 0 0] 66)) (w_1.heap.size + 1) (.slice none 0 0) (.slice none 0 0) := by have h := qb.new (w_1.alloc (.cells #[.slice none 0 0, .slice none 0 0, .bool false] 62)) (.slice none 0 0) (.slice none 0 0); simpa using h
  have g_2' : qb (((w_1.alloc (.cells #[.slice none 0 0, .slice none 0 0, .bool false] 62)).alloc (.cells #[.slice none 0 0, .slice none 0 0] 66)).setRow w_1.heap.size #[(.slice A_2 n_2 c_2), (.slice A_3 n_3 c_3), .bool true]) (w_1.heap.size + 1) (.slice none 0 0) (.slice none 0 0) := (setRow_other _ w_1.heap.size (w_1.heap.size + 1) _ (by omega)).trans g_2
  have f_r : rb ((((w_1.alloc (.cells #[.slice none 0 0, .slice none 0 0, .bool false] 62)).alloc (.cells #[.slice none 0 0, .slice none 0 0] 66)).setRow w_1.heap.size #[(.slice A_2 n_2 c_2), (.slice A_3 n_3 c_3), .bool true]).setRow (w_1.heap.size + 1) #[(.slice A_d n_d c_d), (.slice A_e n_e c_e)]) w_1.heap.size (.slice A_2 n_2 c_2) (.slice A_3 n_3 c_3) true := (setRow_other _ (w_1.heap.size + 1) w_1.heap.size _ (by omega)).trans (g_1.put _)
  have f_m : qb ((((w_1.alloc (.cells #[.slice none 0 0, .slice none 0 0, .bool false] 62)).alloc (.cells #[.slice none 0 0, .slice none 0 0] 66)).setRow w_1.heap.size #[(.slice A_2 n_2 c_2), (.slice A_3 n_3 c_3), .bool true]).setRow (w_1.heap.size + 1) #[(.slice A_d n_d c_d), (.slice A_e n_e c_e)]) (w_1.heap.size + 1) (.slice A_d n_d c_d) (.slice A_e n_e c_e) := g_2'.put _ _
  have hA : Below w_1.heap.size w_1 ((((w_1.alloc (.cells #[.slice none 0 0, .slice none 0 0, .bool false] 62)).alloc (.cells #[.slice none 0 0, .slice none 0 0] 66)).setRow w_1.heap.size #[(.slice A_2 n_2 c_2), (.slice A_3 n_3 c_3), .bool true]).setRow (w_1.heap.size + 1) #[(.slice A_d n_d c_d), (.slice A_e n_e c_e)]) := below_setRow (below_setRow (bA (bA (Below.refl _ _) _) _) (Nat.le_refl _) _) (by omega) _
  go_wp2_with (first | refine wpList_store_row rfl 62 _ _ rfl w_1.heap.size #[(.slice A_2 n_2 c_2), (.slice A_3 n_3 c_3), .bool true] rfl rfl 62 _ g_1 hi2 rfl ho2 ?_ | refine wpList_store_row rfl 66 _ _ rfl (w_1.heap.size + 1) #[(.slice A_d n_d c_d), (.slice A_e n_e c_e)] rfl rfl 66 _ g_2' hi6 rfl ho6 ?_ | refine Cel.lW rfl 62 _ rfl w_1.heap.size rfl 62 #[(.slice A_2 n_2 c_2), (.slice A_3 n_3 c_3), .bool true] (0, 0) _ f_r hu62 rfl za1 ?_)
  replace htab := htab.below hA
  replace hz1 := hz1.below hA
  replace hz2 := hz2.below hA
  replace hd1 := hd1.below hA
  replace hd2 := hd2.below hA
  replace hB := hB.trans (hA.mono hB.size)
  clear hA g_1 g_2 g_2' hi2 ho2 hi6 ho6
  generalize ((((w_1.alloc (.cells #[.slice none 0 0, .slice none 0 0, .bool false] 62)).alloc (.cells #[.slice none 0 0, .slice none 0 0] 66)).setRow w_1.heap.size #[(.slice A_2 n_2 c_2), (.slice A_3 n_3 c_3), .bool true]).setRow (w_1.heap.size + 1) #[(.slice A_d n_d c_d), (.slice A_e n_e c_e)]) = w_70 at f_r f_m htab hz1 hz2 hd1 hd2 hB ⊢
  generalize w_1.heap.size + 1 = b_m at f_m ⊢
  generalize w_1.heap.size = b_r at f_r ⊢
  by_cases hp : pp < 0 ∨ 4096 < pp
  ·have hS : Scl w_70 (.agg #[(.slice A_2 n_2 c_2), (.slice A_3 n_3 c_3), .bool true]) pp 0 false 5 := fun W hW => (scaled_range_c pp hp).mono fun e w' ⟨he, hb⟩ => ⟨_, he, Nf.zero _ _, hb⟩
   refine (floor_c hS).mono ?_
   rintro e w_71 ⟨z_l, rfl, hl, hb⟩
   replace htab := htab.below hb
   replace hz1 := hz1.below hb
   replace hz2 := hz2.below hb
   replace hd1 := hd1.below hb
   replace hd2 := hd2.below hb
   replace f_m := f_m.below hb
   replace f_r := f_r.below hb
   replace hB := hB.trans (hb.mono hB.size)
   clear hb
   obtain ⟨A_72, n_72, c_72, rfl⟩ := hl.shape
   have hA : Below w_71.heap.size w_71 (w_71.alloc (.cells #[(.slice A_72 n_72 c_72)] 29)) := bA (Below.refl _ _) _
   have f_l := bx.new w_71 (.slice A_72 n_72 c_72)
   go_wp2_with (first | refine Cel.lW rfl 62 _ rfl b_r rfl 62 #[(.slice A_2 n_2 c_2), (.slice A_3 n_3 c_3), .bool true] (0, 0) _ (f_r.below hA) hu62 rfl za1 ?_)
   replace htab := htab.below hA
   replace hz1 := hz1.below hA
   replace hz2 := hz2.below hA
   replace hd1 := hd1.below hA
   replace hd2 := hd2.below hA
   replace f_m := f_m.below hA
   replace hl := hl.below hA
   replace f_r := f_r.below hA
   replace hB := hB.trans (hA.mono hB.size)
   clear hA
   generalize (w_71.alloc (.cells #[(.slice A_72 n_72 c_72)] 29)) = w_73 at f_l htab hz1 hz2 hd1 hd2 f_m hl f_r hB ⊢
   generalize w_71.heap.size = b_l at f_l ⊢
   clear hS
   have hS : Scl w_73 (.agg #[(.slice A_2 n_2 c_2), (.slice A_3 n_3 c_3), .bool true]) pp 0 false 5 := fun W hW => (scaled_range_c pp hp).mono fun e w' ⟨he, hb⟩ => ⟨_, he, Nf.zero _ _, hb⟩
   refine (zc4 hS (.inl (by decide))).mono ?_
   rintro e w_74 ⟨z_h, rfl, hh, hb⟩
   replace htab := htab.below hb
   replace hz1 := hz1.below hb
   replace hz2 := hz2.below hb
   replace hd1 := hd1.below hb
   replace hd2 := hd2.below hb
   replace f_m := f_m.below hb
   replace hl := hl.below hb
   replace f_l := f_l.below hb
   replace f_r := f_r.below hb
   replace hB := hB.trans (hb.mono hB.size)
   clear hb
   obtain ⟨A_75, n_75, c_75, rfl⟩ := hh.shape
   have hA : Below w_74.heap.size w_74 (w_74.alloc (.cells #[(.slice A_75 n_75 c_75)] 29)) := bA (Below.refl _ _) _
   have f_h := bx.new w_74 (.slice A_75 n_75 c_75)
   go_wp2_with (first | refine Cel.lW rfl 66 _ rfl b_m rfl 66 #[(.slice A_d n_d c_d), (.slice A_e n_e c_e)] (0, 0) _ (f_m.below hA) hu66 rfl zj2 ?_)
   replace htab := htab.below hA
   replace hz1 := hz1.below hA
   replace hz2 := hz2.below hA
   replace hd1 := hd1.below hA
   replace hd2 := hd2.below hA
   replace f_m := f_m.below hA
   replace hl := hl.below hA
   replace hh := hh.below hA
   replace f_l := f_l.below hA
   replace f_r := f_r.below hA
   replace hB := hB.trans (hA.mono hB.size)
   clear hA
   generalize (w_74.alloc (.cells #[(.slice A_75 n_75 c_75)] 29)) = w_200 at f_h htab hz1 hz2 hd1 hd2 f_m hl hh f_l f_r hB ⊢
   generalize w_74.heap.size = b_h at f_h ⊢
   clear hS
   refine (za2 hd1 hd2 (ffloor_range _ _ pp hp)).mono ?_
   rintro e w_201 ⟨z_u, rfl, hu0, hb⟩
   replace htab := htab.below hb
   replace hz1 := hz1.below hb
   replace hz2 := hz2.below hb
   replace hd1 := hd1.below hb
   replace hd2 := hd2.below hb
   replace f_m := f_m.below hb
   replace hl := hl.below hb
   replace hh := hh.below hb
   replace f_l := f_l.below hb
   replace f_h := f_h.below hb
   replace f_r := f_r.below hb
   replace hB := hB.trans (hb.mono hB.size)
   clear hb
   have hu : Dw w_201 z_u 0 := by have h := Kf.kw hu0; rw [← zo0 BD] at h; exact h
   clear hu0
   go_wp2_with (first | refine Cel.lW rfl 66 _ rfl b_m rfl 66 #[(.slice A_d n_d c_d), (.slice A_e n_e c_e)] (0, 0) _ f_m hu66 rfl zj2 ?_)
   refine (rceil_no_c hd1 hd2 (ffloor_range _ _ pp hp) (by decide)).mono ?_
   rintro e w_202 ⟨rfl, hb⟩
   replace htab := htab.below hb
   replace hz1 := hz1.below hb
   replace hz2 := hz2.below hb
   replace hd1 := hd1.below hb
   replace hd2 := hd2.below hb
   replace f_m := f_m.below hb
   replace hl := hl.below hb
   replace hh := hh.below hb
   replace hu := hu.below hb
   replace f_l := f_l.below hb
   replace f_h := f_h.below hb
   replace f_r := f_r.below hb
   replace hB := hB.trans (hb.mono hB.size)
   clear hb
   go_wp2_with (first | refine Cel.lW rfl 29 _ rfl b_l rfl 29 #[(.slice A_72 n_72 c_72)] (0, 0) _ f_l hu29 rfl zh ?_ | refine Cel.lW rfl 29 _ rfl b_h rfl 29 #[(.slice A_75 n_75 c_75)] (0, 0) _ f_h hu29 rfl zh ?_)
   have F := zy1 hl
   rw [decide_eq_true rfl] at F
   refine (F).mono ?_
   rintro e w_203 ⟨rfl, hb⟩
   replace htab := htab.below hb
   replace hz1 := hz1.below hb
   replace hz2 := hz2.below hb
   replace hd1 := hd1.below hb
   replace hd2 := hd2.below hb
   replace f_m := f_m.below hb
   replace hl := hl.below hb
   replace hh := hh.below hb
   replace hu := hu.below hb
   replace f_l := f_l.below hb
   replace f_h := f_h.below hb
   replace f_r := f_r.below hb
   replace hB := hB.trans (hb.mono hB.size)
   clear hb
   clear F
   go_wp2_with (first | refine Cel.lW rfl 29 _ rfl b_l rfl 29 #[(.slice A_72 n_72 c_72)] (0, 0) _ f_l hu29 rfl zh ?_ | refine Cel.lW rfl 29 _ rfl b_h rfl 29 #[(.slice A_75 n_75 c_75)] (0, 0) _ f_h hu29 rfl zh ?_)
   have F := zy1 hh
   rw [decide_eq_true rfl] at F
   refine (F).mono ?_
   rintro e w_204 ⟨rfl, hb⟩
   replace htab := htab.below hb
   replace hz1 := hz1.below hb
   replace hz2 := hz2.below hb
   replace hd1 := hd1.below hb
   replace hd2 := hd2.below hb
   replace f_m := f_m.below hb
   replace hl := hl.below hb
   replace hh := hh.below hb
   replace hu := hu.below hb
   replace f_l := f_l.below hb
   replace f_h := f_h.below hb
   replace f_r := f_r.below hb
   replace hB := hB.trans (hb.mono hB.size)
   clear hb
   clear F
   go_wp2_with fail
   refine (zs2 htab).mono ?_
   rintro e w_205 ⟨rfl, hb⟩
   replace htab := htab.below hb
   replace hz1 := hz1.below hb
   replace hz2 := hz2.below hb
   replace hd1 := hd1.below hb
   replace hd2 := hd2.below hb
   replace f_m := f_m.below hb
   replace hl := hl.below hb
   replace hh := hh.below hb
   replace hu := hu.below hb
   replace f_l := f_l.below hb
   replace f_h := f_h.below hb
   replace f_r := f_r.below hb
   replace hB := hB.trans (hb.mono hB.size)
   clear hb
   go_wp2
   go_ret
   exact ⟨rfl, hB⟩
  ·obtain ⟨p, rfl⟩ := Int.eq_ofNat_of_zero_le (show 0 ≤ pp by omega)
   have hp4 : p ≤ 4096 := by omega
   clear hp
   have lN : (wd BW (X * 2 ^ p)).length ≤ 143 := len_shl X p (by omega) (by omega)
   have lND := zq3 lN
   by_cases hfit : (wd BW (X * 2 ^ p)).length ≤ 64
   ·have lq : (wd BW (X * 2 ^ p / Y)).length ≤ 64 := Nat.le_trans (zy0 (by decide) (Nat.div_le_self _ _)) hfit
    have hgf : ¬ 4096 < nb (X * 2 ^ p) := fun h => absurd ((zk2 _).1 hfit) (by omega)
    by_cases hm : X * 2 ^ p % Y = 0
    ·have hS : Scl w_70 (.agg #[(.slice A_2 n_2 c_2), (.slice A_3 n_3 c_3), .bool true]) (p : Int) (X * 2 ^ p / Y) false 0 := fun W hW => by have h := zr2 (hz1.below hW) (hz2.below hW) (by omega) hY0 p hp4 hfit; rw [decide_eq_true hm] at h; exact h
     refine (floor_c hS).mono ?_
     rintro e w_71 ⟨z_l, rfl, hl, hb⟩
     replace htab := htab.below hb
     replace hz1 := hz1.below hb
     replace hz2 := hz2.below hb
     replace hd1 := hd1.below hb
     replace hd2 := hd2.below hb
     replace f_m := f_m.below hb
     replace f_r := f_r.below hb
     replace hB := hB.trans (hb.mono hB.size)
     clear hb
     obtain ⟨A_72, n_72, c_72, rfl⟩ := hl.shape
     have hA : Below w_71.heap.size w_71 (w_71.alloc (.cells #[(.slice A_72 n_72 c_72)] 29)) := bA (Below.refl _ _) _
     have f_l := bx.new w_71 (.slice A_72 n_72 c_72)
     go_wp2_with (first | refine Cel.lW rfl 62 _ rfl b_r rfl 62 #[(.slice A_2 n_2 c_2), (.slice A_3 n_3 c_3), .bool true] (0, 0) _ (f_r.below hA) hu62 rfl za1 ?_)
     replace htab := htab.below hA
     replace hz1 := hz1.below hA
     replace hz2 := hz2.below hA
     replace hd1 := hd1.below hA
     replace hd2 := hd2.below hA
     replace f_m := f_m.below hA
     replace hl := hl.below hA
     replace f_r := f_r.below hA
     replace hB := hB.trans (hA.mono hB.size)
     clear hA
     generalize (w_71.alloc (.cells #[(.slice A_72 n_72 c_72)] 29)) = w_73 at f_l htab hz1 hz2 hd1 hd2 f_m hl f_r hB ⊢
     generalize w_71.heap.size = b_l at f_l ⊢
     clear hS
     have hS : Scl w_73 (.agg #[(.slice A_2 n_2 c_2), (.slice A_3 n_3 c_3), .bool true]) (p : Int) (X * 2 ^ p / Y) false 0 := fun W hW => by have h := zr2 (hz1.below hW) (hz2.below hW) (by omega) hY0 p hp4 hfit; rw [decide_eq_true hm] at h; exact h
     refine (zc4 hS (.inr rfl)).mono ?_
     rintro e w_74 ⟨z_h, rfl, hh, hb⟩
     replace htab := htab.below hb
     replace hz1 := hz1.below hb
     replace hz2 := hz2.below hb
     replace hd1 := hd1.below hb
     replace hd2 := hd2.below hb
     replace f_m := f_m.below hb
     replace hl := hl.below hb
     replace f_l := f_l.below hb
     replace f_r := f_r.below hb
     replace hB := hB.trans (hb.mono hB.size)
     clear hb
     obtain ⟨A_75, n_75, c_75, rfl⟩ := hh.shape
     have hA : Below w_74.heap.size w_74 (w_74.alloc (.cells #[(.slice A_75 n_75 c_75)] 29)) := bA (Below.refl _ _) _
     have f_h := bx.new w_74 (.slice A_75 n_75 c_75)
     go_wp2_with (first | refine Cel.lW rfl 66 _ rfl b_m rfl 66 #[(.slice A_d n_d c_d), (.slice A_e n_e c_e)] (0, 0) _ (f_m.below hA) hu66 rfl zj2 ?_)
     replace htab := htab.below hA
     replace hz1 := hz1.below hA
     replace hz2 := hz2.below hA
     replace hd1 := hd1.below hA
     replace hd2 := hd2.below hA
     replace f_m := f_m.below hA
     replace hl := hl.below hA
     replace hh := hh.below hA
     replace f_l := f_l.below hA
     replace f_r := f_r.below hA
     replace hB := hB.trans (hA.mono hB.size)
     clear hA
     generalize (w_74.alloc (.cells #[(.slice A_75 n_75 c_75)] 29)) = w_200 at f_h htab hz1 hz2 hd1 hd2 f_m hl hh f_l f_r hB ⊢
     generalize w_74.heap.size = b_h at f_h ⊢
     clear hS
     refine (za2 hd1 hd2 (z13 X Y p hp4 (by omega) (by omega) hgf hY0 (by omega))).mono ?_
     rintro e w_201 ⟨z_u, rfl, hu0, hb⟩
     replace htab := htab.below hb
     replace hz1 := hz1.below hb
     replace hz2 := hz2.below hb
     replace hd1 := hd1.below hb
     replace hd2 := hd2.below hb
     replace f_m := f_m.below hb
     replace hl := hl.below hb
     replace hh := hh.below hb
     replace f_l := f_l.below hb
     replace f_h := f_h.below hb
     replace f_r := f_r.below hb
     replace hB := hB.trans (hb.mono hB.size)
     clear hb
     have hu : Dw w_201 z_u (X * 2 ^ p / Y) := by exact Kf.kw hu0
     clear hu0
     go_wp2_with (first | refine Cel.lW rfl 66 _ rfl b_m rfl 66 #[(.slice A_d n_d c_d), (.slice A_e n_e c_e)] (0, 0) _ f_m hu66 rfl zj2 ?_)
     refine (rceil_even_c hd1 hd2 p hp4 (by omega) (by omega) (by omega) hgf hY0 hm).mono ?_
     rintro e w_202 ⟨z_v, rfl, hv, hb⟩
     replace htab := htab.below hb
     replace hz1 := hz1.below hb
     replace hz2 := hz2.below hb
     replace hd1 := hd1.below hb
     replace hd2 := hd2.below hb
     replace f_m := f_m.below hb
     replace hl := hl.below hb
     replace hh := hh.below hb
     replace hu := hu.below hb
     replace f_l := f_l.below hb
     replace f_h := f_h.below hb
     replace f_r := f_r.below hb
     replace hB := hB.trans (hb.mono hB.size)
     clear hb
     go_wp2_with (first | refine Cel.lW rfl 29 _ rfl b_l rfl 29 #[(.slice A_72 n_72 c_72)] (0, 0) _ f_l hu29 rfl zh ?_ | refine Cel.lW rfl 29 _ rfl b_h rfl 29 #[(.slice A_75 n_75 c_75)] (0, 0) _ f_h hu29 rfl zh ?_)
     have F := is_c hl hu (by omega)
     rw [decide_eq_true rfl] at F
     refine (F).mono ?_
     rintro e w_203 ⟨rfl, hb⟩
     replace htab := htab.below hb
     replace hz1 := hz1.below hb
     replace hz2 := hz2.below hb
     replace hd1 := hd1.below hb
     replace hd2 := hd2.below hb
     replace f_m := f_m.below hb
     replace hl := hl.below hb
     replace hh := hh.below hb
     replace hu := hu.below hb
     replace hv := hv.below hb
     replace f_l := f_l.below hb
     replace f_h := f_h.below hb
     replace f_r := f_r.below hb
     replace hB := hB.trans (hb.mono hB.size)
     clear hb
     clear F
     go_wp2_with (first | refine Cel.lW rfl 29 _ rfl b_l rfl 29 #[(.slice A_72 n_72 c_72)] (0, 0) _ f_l hu29 rfl zh ?_ | refine Cel.lW rfl 29 _ rfl b_h rfl 29 #[(.slice A_75 n_75 c_75)] (0, 0) _ f_h hu29 rfl zh ?_)
     have F := is_c hh hv (by omega)
     rw [decide_eq_true rfl] at F
     refine (F).mono ?_
     rintro e w_204 ⟨rfl, hb⟩
     replace htab := htab.below hb
     replace hz1 := hz1.below hb
     replace hz2 := hz2.below hb
     replace hd1 := hd1.below hb
     replace hd2 := hd2.below hb
     replace f_m := f_m.below hb
     replace hl := hl.below hb
     replace hh := hh.below hb
     replace hu := hu.below hb
     replace hv := hv.below hb
     replace f_l := f_l.below hb
     replace f_h := f_h.below hb
     replace f_r := f_r.below hb
     replace hB := hB.trans (hb.mono hB.size)
     clear hb
     clear F
     go_wp2_with (first | refine Cel.lW rfl 29 _ rfl b_l rfl 29 #[(.slice A_72 n_72 c_72)] (0, 0) _ f_l hu29 rfl zh ?_ | refine Cel.lW rfl 29 _ rfl b_h rfl 29 #[(.slice A_75 n_75 c_75)] (0, 0) _ f_h hu29 rfl zh ?_)
     have F := sub_c hh hl (by omega)
     rw [if_neg (show ¬ (X * 2 ^ p / Y) < (X * 2 ^ p / Y) by omega), show (X * 2 ^ p / Y) - (X * 2 ^ p / Y) = 0 by omega] at F
     refine (F).mono ?_
     rintro e w_205 ⟨z_d, rfl, hd, hb⟩
     replace htab := htab.below hb
     replace hz1 := hz1.below hb
     replace hz2 := hz2.below hb
     replace hd1 := hd1.below hb
     replace hd2 := hd2.below hb
     replace f_m := f_m.below hb
     replace hl := hl.below hb
     replace hh := hh.below hb
     replace hu := hu.below hb
     replace hv := hv.below hb
     replace f_l := f_l.below hb
     replace f_h := f_h.below hb
     replace f_r := f_r.below hb
     replace hB := hB.trans (hb.mono hB.size)
     clear hb
     clear F
     have hd9 : Nw w_205 z_d 0 := Kf.kw hd
     replace hd := hd9
     clear hd9
     have ldd := z14 (n := 0) (by decide)
     obtain ⟨A_206, n_206, c_206, rfl⟩ := hd.shape
     have hA : Below w_205.heap.size w_205 (w_205.alloc (.cells #[(.slice A_206 n_206 c_206)] 29)) := bA (Below.refl _ _) _
     have f_d := bx.new w_205 (.slice A_206 n_206 c_206)
     go_wp2_with fail
     replace htab := htab.below hA
     replace hd := hd.below hA
     replace hB := hB.trans (hA.mono hB.size)
     clear hA
     generalize (w_205.alloc (.cells #[(.slice A_206 n_206 c_206)] 29)) = w_207 at f_d htab hd hB ⊢
     generalize w_205.heap.size = b_d at f_d ⊢
     have hb : Below w_207.heap.size w_207 w_207.drew := zf0 (Below.refl _ _)
     refine zt0 (n := 12) (S := fun w' => Below w_207.drew.heap.size w_207.drew w') (ds := []) #[ff,ff,ff,ff,ff,ff,ff,ff,ff,ff,ff,ff] (by kernel_rfl) rfl rfl (Below.refl _ _) (fun hS => ?_)
     replace htab := htab.below hb
     replace hd := hd.below hb
     replace f_d := f_d.below hb
     replace hB := hB.trans (hb.mono hB.size)
     clear hb
     generalize w_207.drew = w_300 at htab hd f_d hB hS ⊢
     have sf_d := f_d
     refine zh0 (i := 0) (N := some 122) #[tt,ff,ff,ff,ff,ff,ff,ff,ff,ff,ff,ff] rfl rfl (by kernel_rfl) (by decide) (fun K hK => ?_)
     refine z00 Tryd.func44 (by kernel_rfl) rfl #[] (by rfl) rfl rfl (by (try simp only [List.map_toArray, List.map_cons, List.map_nil]); first | done | rfl | (simp only [List.length_drop, List.length_take]; rfl)) ?_
     refine (zs2 htab).mono ?_
     rintro e w_301 ⟨rfl, hb⟩
     refine ⟨_, rfl, ?_⟩
     replace hS := hS.trans (hb.mono hS.size)
     replace htab := htab.below hb
     replace hd := hd.below hb
     replace f_d := f_d.below hb
     replace hB := hB.trans (hb.mono hB.size)
     clear hb
     refine hK.out _ _ hS (fun hS => ?_)
     clear hK K
     refine zg (a' := ?_) ?_ ?_
     rotate_left
     ·show Act.put _ (some 122) _ = _
      simp only [Act.put, s2_, s0_, s1_, iw, jw]
      rfl
     refine za 1 123 ?_ #[tt,tt,ff,ff,ff,ff,ff,ff,ff,ff,ff,ff] rfl rfl (by kernel_rfl) (fun _ _ _ h => h) (Or.inl ⟨by rfl, ?_⟩) ?_ ?_ ?_
     rotate_left
     ·intro w'
      go_simp
      with_reducible rfl
     rotate_left
     ·simp only [Act.put, s2_, s0_, s1_, iw, jw]
      rfl
     refine za 2 124 ?_ #[tt,tt,tt,ff,ff,ff,ff,ff,ff,ff,ff,ff] rfl rfl (by kernel_rfl) (fun _ _ _ h => h) (Or.inl ⟨by rfl, ?_⟩) ?_ ?_ ?_
     rotate_left
     ·intro w'
      go_simp
      with_reducible rfl
     rotate_left
     ·simp only [Act.put, s2_, s0_, s1_, iw, jw]
      rfl
     refine za 3 125 ?_ #[tt,tt,tt,tt,ff,ff,ff,ff,ff,ff,ff,ff] rfl rfl (by kernel_rfl) (fun _ _ _ h => h) (Or.inl ⟨by rfl, ?_⟩) ?_ ?_ ?_
     rotate_left
     ·intro w'
      go_simp
      with_reducible rfl
     rotate_left
     ·simp only [Act.put, s2_, s0_, s1_, iw, jw]
      rfl
     refine za 4 126 ?_ #[tt,tt,tt,tt,tt,ff,ff,ff,ff,ff,ff,ff] rfl rfl (by kernel_rfl) (fun _ _ _ h => h) (Or.inl ⟨by rfl, ?_⟩) ?_ ?_ ?_
     rotate_left
     ·intro w'
      go_simp
      with_reducible rfl
     rotate_left
     ·simp only [Act.put, s2_, s0_, s1_, iw, jw]
      rfl
     refine za 5 127 ?_ #[tt,tt,tt,tt,tt,tt,ff,ff,ff,ff,ff,ff] rfl rfl (by kernel_rfl) (fun _ _ _ h => h) (Or.inl ⟨by rfl, ?_⟩) ?_ ?_ ?_
     rotate_left
     ·intro w'
      go_simp
      with_reducible rfl
     rotate_left
     ·simp only [Act.put, s2_, s0_, s1_, iw, jw]
      rfl
     refine z10 6 128 ?_ #[tt,tt,tt,tt,tt,tt,tt,ff,ff,ff,ff,ff] rfl rfl (by kernel_rfl) (fun _ _ _ h => h) (Or.inl ⟨by rfl, ?_⟩) hS ?_ ?_ ?_
     rotate_left
     ·intro w' hS_
      have k_ := (kC (bx.below sf_d hS_) 0).trans rfl
      go_simp
      with_reducible rfl
     rotate_left
     ·simp only [Act.put, s2_, s0_, s1_, iw, jw]
      rfl
     refine zh0 (i := 7) (N := some 129) #[tt,tt,tt,tt,tt,tt,tt,tt,ff,ff,ff,ff] rfl rfl (by kernel_rfl) (by decide) (fun K hK => ?_)
     refine z00 Tryd.func55 (by kernel_rfl) rfl #[.int .u64 ((1 : Nat) : Int)] (by rfl) rfl rfl (by (try simp only [List.map_toArray, List.map_cons, List.map_nil]); first | done | rfl | (simp only [List.length_drop, List.length_take]; rfl)) ?_
     refine (of_c 1 (by decide)).mono ?_
     rintro e w_302 ⟨z_o, rfl, ho, hb⟩
     refine ⟨_, rfl, ?_⟩
     replace hS := hS.trans (hb.mono hS.size)
     replace htab := htab.below hb
     replace hd := hd.below hb
     replace f_d := f_d.below hb
     replace hB := hB.trans (hb.mono hB.size)
     clear hb
     refine hK.out _ _ hS (fun hS => ?_)
     clear hK K
     have ho9 : Nw w_302 z_o 1 := Kf.kw ho
     replace ho := ho9
     clear ho9
     obtain ⟨A_o, n_o, c_o, rfl⟩ := ho.shape
     refine zg (a' := ?_) ?_ ?_
     rotate_left
     ·show Act.put _ (some 129) _ = _
      simp only [Act.put, s2_, s0_, s1_, iw, jw]
      rfl
     have F := fun W h1 h2 => cmp_c (w := W) (u := (.slice A_206 n_206 c_206)) (x := 0) h1 (v := .slice A_o n_o c_o) (y := 1) h2 (by omega)
     rw [show zv1 0 1 = -1 by decide] at F
     refine zh0 (i := 8) (N := some 130) #[tt,tt,tt,tt,tt,tt,tt,tt,tt,ff,ff,ff] rfl rfl (by kernel_rfl) (by decide) (fun K hK => ?_)
     refine z00 Tryd.func36 (by kernel_rfl) rfl #[.agg #[(.slice A_206 n_206 c_206)], .agg #[.slice A_o n_o c_o]] (by rfl) rfl rfl (by (try simp only [List.map_toArray, List.map_cons, List.map_nil]); first | done | rfl | (simp only [List.length_drop, List.length_take]; rfl)) ?_
     refine (F _ hd ho).mono ?_
     rintro e w_303 ⟨rfl, hb⟩
     refine ⟨_, rfl, ?_⟩
     replace hS := hS.trans (hb.mono hS.size)
     replace htab := htab.below hb
     replace hd := hd.below hb
     replace f_d := f_d.below hb
     replace hB := hB.trans (hb.mono hB.size)
     clear hb
     refine hK.out _ _ hS (fun hS => ?_)
     clear hK K
     refine zg (a' := ?_) ?_ ?_
     rotate_left
     ·show Act.put _ (some 130) _ = _
      simp only [Act.put, s2_, s0_, s1_, iw, jw]
      rfl
     clear F
     refine za 9 131 ?_ #[tt,tt,tt,tt,tt,tt,tt,tt,tt,tt,ff,ff] rfl rfl (by kernel_rfl) (fun _ _ _ h => h) (Or.inl ⟨by rfl, ?_⟩) ?_ ?_ ?_
     rotate_left
     ·intro w'
      go_simp
      with_reducible rfl
     rotate_left
     ·simp only [Act.put, s2_, s0_, s1_, iw, jw]
      rfl
     refine za 10 132 ?_ #[tt,tt,tt,tt,tt,tt,tt,tt,tt,tt,tt,ff] rfl rfl (by kernel_rfl) (fun _ _ _ h => h) (Or.inl ⟨by rfl, ?_⟩) ?_ ?_ ?_
     rotate_left
     ·intro w'
      go_simp
      with_reducible rfl
     rotate_left
     ·simp only [Act.put, s2_, s0_, s1_, iw, jw]
      rfl
     refine za 11 6 ?_ #[tt,tt,tt,tt,tt,tt,tt,tt,tt,tt,tt,tt] rfl rfl (by kernel_rfl) (fun _ _ _ h => h) (Or.inl ⟨by rfl, ?_⟩) ?_ ?_ ?_
     rotate_left
     ·intro w'
      go_simp
      with_reducible rfl
     rotate_left
     ·simp only [Act.put, s2_, s0_, s1_, iw, jw]
      rfl
     refine zh1 (by kernel_rfl) ?_
     go_wp2
     go_ret
     exact ⟨rfl, hB⟩
    ·by_cases hq : (wd BW ((X * 2 ^ p / Y) + 1)).length ≤ 64
     ·have e1 : zw2 ((X * 2 ^ p / Y) + 1) = 0 := if_pos hq
      have e2 : fitN ((X * 2 ^ p / Y) + 1) = (X * 2 ^ p / Y) + 1 := if_pos hq
      have hb1 : ¬ 4096 < nb ((X * 2 ^ p / Y) + 1) := by have h := zk2 ((X * 2 ^ p / Y) + 1); omega
      have hS : Scl w_70 (.agg #[(.slice A_2 n_2 c_2), (.slice A_3 n_3 c_3), .bool true]) (p : Int) (X * 2 ^ p / Y) true 0 := fun W hW => by have h := zr2 (hz1.below hW) (hz2.below hW) (by omega) hY0 p hp4 hfit; rw [decide_eq_false hm] at h; exact h
      refine (floor_c hS).mono ?_
      rintro e w_71 ⟨z_l, rfl, hl, hb⟩
      replace htab := htab.below hb
      replace hz1 := hz1.below hb
      replace hz2 := hz2.below hb
      replace hd1 := hd1.below hb
      replace hd2 := hd2.below hb
      replace f_m := f_m.below hb
      replace f_r := f_r.below hb
      replace hB := hB.trans (hb.mono hB.size)
      clear hb
      obtain ⟨A_72, n_72, c_72, rfl⟩ := hl.shape
      have hA : Below w_71.heap.size w_71 (w_71.alloc (.cells #[(.slice A_72 n_72 c_72)] 29)) := bA (Below.refl _ _) _
      have f_l := bx.new w_71 (.slice A_72 n_72 c_72)
      go_wp2_with (first | refine Cel.lW rfl 62 _ rfl b_r rfl 62 #[(.slice A_2 n_2 c_2), (.slice A_3 n_3 c_3), .bool true] (0, 0) _ (f_r.below hA) hu62 rfl za1 ?_)
      replace htab := htab.below hA
      replace hz1 := hz1.below hA
      replace hz2 := hz2.below hA
      replace hd1 := hd1.below hA
      replace hd2 := hd2.below hA
      replace f_m := f_m.below hA
      replace hl := hl.below hA
      replace f_r := f_r.below hA
      replace hB := hB.trans (hA.mono hB.size)
      clear hA
      generalize (w_71.alloc (.cells #[(.slice A_72 n_72 c_72)] 29)) = w_73 at f_l htab hz1 hz2 hd1 hd2 f_m hl f_r hB ⊢
      generalize w_71.heap.size = b_l at f_l ⊢
      clear hS
      have hS : Scl w_73 (.agg #[(.slice A_2 n_2 c_2), (.slice A_3 n_3 c_3), .bool true]) (p : Int) (X * 2 ^ p / Y) true 0 := fun W hW => by have h := zr2 (hz1.below hW) (hz2.below hW) (by omega) hY0 p hp4 hfit; rw [decide_eq_false hm] at h; exact h
      have F := ceil_more_c hS lq
      rw [e1, e2] at F
      refine (F).mono ?_
      rintro e w_74 ⟨z_h, rfl, hh, hb⟩
      replace htab := htab.below hb
      replace hz1 := hz1.below hb
      replace hz2 := hz2.below hb
      replace hd1 := hd1.below hb
      replace hd2 := hd2.below hb
      replace f_m := f_m.below hb
      replace hl := hl.below hb
      replace f_l := f_l.below hb
      replace f_r := f_r.below hb
      replace hB := hB.trans (hb.mono hB.size)
      clear hb
      obtain ⟨A_75, n_75, c_75, rfl⟩ := hh.shape
      have hA : Below w_74.heap.size w_74 (w_74.alloc (.cells #[(.slice A_75 n_75 c_75)] 29)) := bA (Below.refl _ _) _
      have f_h := bx.new w_74 (.slice A_75 n_75 c_75)
      go_wp2_with (first | refine Cel.lW rfl 66 _ rfl b_m rfl 66 #[(.slice A_d n_d c_d), (.slice A_e n_e c_e)] (0, 0) _ (f_m.below hA) hu66 rfl zj2 ?_)
      replace htab := htab.below hA
      replace hz1 := hz1.below hA
      replace hz2 := hz2.below hA
      replace hd1 := hd1.below hA
      replace hd2 := hd2.below hA
      replace f_m := f_m.below hA
      replace hl := hl.below hA
      replace hh := hh.below hA
      replace f_l := f_l.below hA
      replace f_r := f_r.below hA
      replace hB := hB.trans (hA.mono hB.size)
      clear hA
      generalize (w_74.alloc (.cells #[(.slice A_75 n_75 c_75)] 29)) = w_200 at f_h htab hz1 hz2 hd1 hd2 f_m hl hh f_l f_r hB ⊢
      generalize w_74.heap.size = b_h at f_h ⊢
      clear hS F
      refine (za2 hd1 hd2 (z13 X Y p hp4 (by omega) (by omega) hgf hY0 (by omega))).mono ?_
      rintro e w_201 ⟨z_u, rfl, hu0, hb⟩
      replace htab := htab.below hb
      replace hz1 := hz1.below hb
      replace hz2 := hz2.below hb
      replace hd1 := hd1.below hb
      replace hd2 := hd2.below hb
      replace f_m := f_m.below hb
      replace hl := hl.below hb
      replace hh := hh.below hb
      replace f_l := f_l.below hb
      replace f_h := f_h.below hb
      replace f_r := f_r.below hb
      replace hB := hB.trans (hb.mono hB.size)
      clear hb
      have hu : Dw w_201 z_u (X * 2 ^ p / Y) := by exact Kf.kw hu0
      clear hu0
      go_wp2_with (first | refine Cel.lW rfl 66 _ rfl b_m rfl 66 #[(.slice A_d n_d c_d), (.slice A_e n_e c_e)] (0, 0) _ f_m hu66 rfl zj2 ?_)
      refine (rceil_more_c hd1 hd2 p hp4 (by omega) (by omega) (by omega) hgf hY0 hm hb1).mono ?_
      rintro e w_202 ⟨z_v, rfl, hv, hb⟩
      replace htab := htab.below hb
      replace hz1 := hz1.below hb
      replace hz2 := hz2.below hb
      replace hd1 := hd1.below hb
      replace hd2 := hd2.below hb
      replace f_m := f_m.below hb
      replace hl := hl.below hb
      replace hh := hh.below hb
      replace hu := hu.below hb
      replace f_l := f_l.below hb
      replace f_h := f_h.below hb
      replace f_r := f_r.below hb
      replace hB := hB.trans (hb.mono hB.size)
      clear hb
      go_wp2_with (first | refine Cel.lW rfl 29 _ rfl b_l rfl 29 #[(.slice A_72 n_72 c_72)] (0, 0) _ f_l hu29 rfl zh ?_ | refine Cel.lW rfl 29 _ rfl b_h rfl 29 #[(.slice A_75 n_75 c_75)] (0, 0) _ f_h hu29 rfl zh ?_)
      have F := is_c hl hu (by omega)
      rw [decide_eq_true rfl] at F
      refine (F).mono ?_
      rintro e w_203 ⟨rfl, hb⟩
      replace htab := htab.below hb
      replace hz1 := hz1.below hb
      replace hz2 := hz2.below hb
      replace hd1 := hd1.below hb
      replace hd2 := hd2.below hb
      replace f_m := f_m.below hb
      replace hl := hl.below hb
      replace hh := hh.below hb
      replace hu := hu.below hb
      replace hv := hv.below hb
      replace f_l := f_l.below hb
      replace f_h := f_h.below hb
      replace f_r := f_r.below hb
      replace hB := hB.trans (hb.mono hB.size)
      clear hb
      clear F
      go_wp2_with (first | refine Cel.lW rfl 29 _ rfl b_l rfl 29 #[(.slice A_72 n_72 c_72)] (0, 0) _ f_l hu29 rfl zh ?_ | refine Cel.lW rfl 29 _ rfl b_h rfl 29 #[(.slice A_75 n_75 c_75)] (0, 0) _ f_h hu29 rfl zh ?_)
      have F := is_c hh hv (by omega)
      rw [decide_eq_true rfl] at F
      refine (F).mono ?_
      rintro e w_204 ⟨rfl, hb⟩
      replace htab := htab.below hb
      replace hz1 := hz1.below hb
      replace hz2 := hz2.below hb
      replace hd1 := hd1.below hb
      replace hd2 := hd2.below hb
      replace f_m := f_m.below hb
      replace hl := hl.below hb
      replace hh := hh.below hb
      replace hu := hu.below hb
      replace hv := hv.below hb
      replace f_l := f_l.below hb
      replace f_h := f_h.below hb
      replace f_r := f_r.below hb
      replace hB := hB.trans (hb.mono hB.size)
      clear hb
      clear F
      go_wp2_with (first | refine Cel.lW rfl 29 _ rfl b_l rfl 29 #[(.slice A_72 n_72 c_72)] (0, 0) _ f_l hu29 rfl zh ?_ | refine Cel.lW rfl 29 _ rfl b_h rfl 29 #[(.slice A_75 n_75 c_75)] (0, 0) _ f_h hu29 rfl zh ?_)
      have F := sub_c hh hl (by omega)
      rw [if_neg (show ¬ ((X * 2 ^ p / Y) + 1) < (X * 2 ^ p / Y) by omega), show ((X * 2 ^ p / Y) + 1) - (X * 2 ^ p / Y) = 1 by omega] at F
      refine (F).mono ?_
      rintro e w_205 ⟨z_d, rfl, hd, hb⟩
      replace htab := htab.below hb
      replace hz1 := hz1.below hb
      replace hz2 := hz2.below hb
      replace hd1 := hd1.below hb
      replace hd2 := hd2.below hb
      replace f_m := f_m.below hb
      replace hl := hl.below hb
      replace hh := hh.below hb
      replace hu := hu.below hb
      replace hv := hv.below hb
      replace f_l := f_l.below hb
      replace f_h := f_h.below hb
      replace f_r := f_r.below hb
      replace hB := hB.trans (hb.mono hB.size)
      clear hb
      clear F
      have hd9 : Nw w_205 z_d 1 := Kf.kw hd
      replace hd := hd9
      clear hd9
      have ldd := z14 (n := 1) (by decide)
      obtain ⟨A_206, n_206, c_206, rfl⟩ := hd.shape
      have hA : Below w_205.heap.size w_205 (w_205.alloc (.cells #[(.slice A_206 n_206 c_206)] 29)) := bA (Below.refl _ _) _
      have f_d := bx.new w_205 (.slice A_206 n_206 c_206)
      go_wp2_with fail
      replace htab := htab.below hA
      replace hd := hd.below hA
      replace hB := hB.trans (hA.mono hB.size)
      clear hA
      generalize (w_205.alloc (.cells #[(.slice A_206 n_206 c_206)] 29)) = w_207 at f_d htab hd hB ⊢
      generalize w_205.heap.size = b_d at f_d ⊢
      have hb : Below w_207.heap.size w_207 w_207.drew := zf0 (Below.refl _ _)
      refine zt0 (n := 12) (S := fun w' => Below w_207.drew.heap.size w_207.drew w') (ds := []) #[ff,ff,ff,ff,ff,ff,ff,ff,ff,ff,ff,ff] (by kernel_rfl) rfl rfl (Below.refl _ _) (fun hS => ?_)
      replace htab := htab.below hb
      replace hd := hd.below hb
      replace f_d := f_d.below hb
      replace hB := hB.trans (hb.mono hB.size)
      clear hb
      generalize w_207.drew = w_300 at htab hd f_d hB hS ⊢
      have sf_d := f_d
      refine zh0 (i := 0) (N := some 122) #[tt,ff,ff,ff,ff,ff,ff,ff,ff,ff,ff,ff] rfl rfl (by kernel_rfl) (by decide) (fun K hK => ?_)
      refine z00 Tryd.func44 (by kernel_rfl) rfl #[] (by rfl) rfl rfl (by (try simp only [List.map_toArray, List.map_cons, List.map_nil]); first | done | rfl | (simp only [List.length_drop, List.length_take]; rfl)) ?_
      refine (zs2 htab).mono ?_
      rintro e w_301 ⟨rfl, hb⟩
      refine ⟨_, rfl, ?_⟩
      replace hS := hS.trans (hb.mono hS.size)
      replace htab := htab.below hb
      replace hd := hd.below hb
      replace f_d := f_d.below hb
      replace hB := hB.trans (hb.mono hB.size)
      clear hb
      refine hK.out _ _ hS (fun hS => ?_)
      clear hK K
      refine zg (a' := ?_) ?_ ?_
      rotate_left
      ·show Act.put _ (some 122) _ = _
       simp only [Act.put, s2_, s0_, s1_, iw, jw]
       rfl
      refine za 1 123 ?_ #[tt,tt,ff,ff,ff,ff,ff,ff,ff,ff,ff,ff] rfl rfl (by kernel_rfl) (fun _ _ _ h => h) (Or.inl ⟨by rfl, ?_⟩) ?_ ?_ ?_
      rotate_left
      ·intro w'
       go_simp
       with_reducible rfl
      rotate_left
      ·simp only [Act.put, s2_, s0_, s1_, iw, jw]
       rfl
      refine za 2 124 ?_ #[tt,tt,tt,ff,ff,ff,ff,ff,ff,ff,ff,ff] rfl rfl (by kernel_rfl) (fun _ _ _ h => h) (Or.inl ⟨by rfl, ?_⟩) ?_ ?_ ?_
      rotate_left
      ·intro w'
       go_simp
       with_reducible rfl
      rotate_left
      ·simp only [Act.put, s2_, s0_, s1_, iw, jw]
       rfl
      refine za 3 125 ?_ #[tt,tt,tt,tt,ff,ff,ff,ff,ff,ff,ff,ff] rfl rfl (by kernel_rfl) (fun _ _ _ h => h) (Or.inl ⟨by rfl, ?_⟩) ?_ ?_ ?_
      rotate_left
      ·intro w'
       go_simp
       with_reducible rfl
      rotate_left
      ·simp only [Act.put, s2_, s0_, s1_, iw, jw]
       rfl
      refine za 4 126 ?_ #[tt,tt,tt,tt,tt,ff,ff,ff,ff,ff,ff,ff] rfl rfl (by kernel_rfl) (fun _ _ _ h => h) (Or.inl ⟨by rfl, ?_⟩) ?_ ?_ ?_
      rotate_left
      ·intro w'
       go_simp
       with_reducible rfl
      rotate_left
      ·simp only [Act.put, s2_, s0_, s1_, iw, jw]
       rfl
      refine za 5 127 ?_ #[tt,tt,tt,tt,tt,tt,ff,ff,ff,ff,ff,ff] rfl rfl (by kernel_rfl) (fun _ _ _ h => h) (Or.inl ⟨by rfl, ?_⟩) ?_ ?_ ?_
      rotate_left
      ·intro w'
       go_simp
       with_reducible rfl
      rotate_left
      ·simp only [Act.put, s2_, s0_, s1_, iw, jw]
       rfl
      refine z10 6 128 ?_ #[tt,tt,tt,tt,tt,tt,tt,ff,ff,ff,ff,ff] rfl rfl (by kernel_rfl) (fun _ _ _ h => h) (Or.inl ⟨by rfl, ?_⟩) hS ?_ ?_ ?_
      rotate_left
      ·intro w' hS_
       have k_ := (kC (bx.below sf_d hS_) 0).trans rfl
       go_simp
       with_reducible rfl
      rotate_left
      ·simp only [Act.put, s2_, s0_, s1_, iw, jw]
       rfl
      refine zh0 (i := 7) (N := some 129) #[tt,tt,tt,tt,tt,tt,tt,tt,ff,ff,ff,ff] rfl rfl (by kernel_rfl) (by decide) (fun K hK => ?_)
      refine z00 Tryd.func55 (by kernel_rfl) rfl #[.int .u64 ((1 : Nat) : Int)] (by rfl) rfl rfl (by (try simp only [List.map_toArray, List.map_cons, List.map_nil]); first | done | rfl | (simp only [List.length_drop, List.length_take]; rfl)) ?_
      refine (of_c 1 (by decide)).mono ?_
      rintro e w_302 ⟨z_o, rfl, ho, hb⟩
      refine ⟨_, rfl, ?_⟩
      replace hS := hS.trans (hb.mono hS.size)
      replace htab := htab.below hb
      replace hd := hd.below hb
      replace f_d := f_d.below hb
      replace hB := hB.trans (hb.mono hB.size)
      clear hb
      refine hK.out _ _ hS (fun hS => ?_)
      clear hK K
      have ho9 : Nw w_302 z_o 1 := Kf.kw ho
      replace ho := ho9
      clear ho9
      obtain ⟨A_o, n_o, c_o, rfl⟩ := ho.shape
      refine zg (a' := ?_) ?_ ?_
      rotate_left
      ·show Act.put _ (some 129) _ = _
       simp only [Act.put, s2_, s0_, s1_, iw, jw]
       rfl
      have F := fun W h1 h2 => cmp_c (w := W) (u := (.slice A_206 n_206 c_206)) (x := 1) h1 (v := .slice A_o n_o c_o) (y := 1) h2 (by omega)
      rw [show zv1 1 1 = 0 by decide] at F
      refine zh0 (i := 8) (N := some 130) #[tt,tt,tt,tt,tt,tt,tt,tt,tt,ff,ff,ff] rfl rfl (by kernel_rfl) (by decide) (fun K hK => ?_)
      refine z00 Tryd.func36 (by kernel_rfl) rfl #[.agg #[(.slice A_206 n_206 c_206)], .agg #[.slice A_o n_o c_o]] (by rfl) rfl rfl (by (try simp only [List.map_toArray, List.map_cons, List.map_nil]); first | done | rfl | (simp only [List.length_drop, List.length_take]; rfl)) ?_
      refine (F _ hd ho).mono ?_
      rintro e w_303 ⟨rfl, hb⟩
      refine ⟨_, rfl, ?_⟩
      replace hS := hS.trans (hb.mono hS.size)
      replace htab := htab.below hb
      replace hd := hd.below hb
      replace f_d := f_d.below hb
      replace hB := hB.trans (hb.mono hB.size)
      clear hb
      refine hK.out _ _ hS (fun hS => ?_)
      clear hK K
      refine zg (a' := ?_) ?_ ?_
      rotate_left
      ·show Act.put _ (some 130) _ = _
       simp only [Act.put, s2_, s0_, s1_, iw, jw]
       rfl
      clear F
      refine za 9 131 ?_ #[tt,tt,tt,tt,tt,tt,tt,tt,tt,tt,ff,ff] rfl rfl (by kernel_rfl) (fun _ _ _ h => h) (Or.inl ⟨by rfl, ?_⟩) ?_ ?_ ?_
      rotate_left
      ·intro w'
       go_simp
       with_reducible rfl
      rotate_left
      ·simp only [Act.put, s2_, s0_, s1_, iw, jw]
       rfl
      refine za 10 132 ?_ #[tt,tt,tt,tt,tt,tt,tt,tt,tt,tt,tt,ff] rfl rfl (by kernel_rfl) (fun _ _ _ h => h) (Or.inl ⟨by rfl, ?_⟩) ?_ ?_ ?_
      rotate_left
      ·intro w'
       go_simp
       with_reducible rfl
      rotate_left
      ·simp only [Act.put, s2_, s0_, s1_, iw, jw]
       rfl
      refine za 11 6 ?_ #[tt,tt,tt,tt,tt,tt,tt,tt,tt,tt,tt,tt] rfl rfl (by kernel_rfl) (fun _ _ _ h => h) (Or.inl ⟨by rfl, ?_⟩) ?_ ?_ ?_
      rotate_left
      ·intro w'
       go_simp
       with_reducible rfl
      rotate_left
      ·simp only [Act.put, s2_, s0_, s1_, iw, jw]
       rfl
      refine zh1 (by kernel_rfl) ?_
      go_wp2
      go_ret
      exact ⟨rfl, hB⟩
     ·have e1 : zw2 ((X * 2 ^ p / Y) + 1) = 1 := if_neg hq
      have e2 : fitN ((X * 2 ^ p / Y) + 1) = 0 := if_neg hq
      have hb1 : 4096 < nb ((X * 2 ^ p / Y) + 1) := by have h := zk2 ((X * 2 ^ p / Y) + 1); omega
      have hS : Scl w_70 (.agg #[(.slice A_2 n_2 c_2), (.slice A_3 n_3 c_3), .bool true]) (p : Int) (X * 2 ^ p / Y) true 0 := fun W hW => by have h := zr2 (hz1.below hW) (hz2.below hW) (by omega) hY0 p hp4 hfit; rw [decide_eq_false hm] at h; exact h
      refine (floor_c hS).mono ?_
      rintro e w_71 ⟨z_l, rfl, hl, hb⟩
      replace htab := htab.below hb
      replace hz1 := hz1.below hb
      replace hz2 := hz2.below hb
      replace hd1 := hd1.below hb
      replace hd2 := hd2.below hb
      replace f_m := f_m.below hb
      replace f_r := f_r.below hb
      replace hB := hB.trans (hb.mono hB.size)
      clear hb
      obtain ⟨A_72, n_72, c_72, rfl⟩ := hl.shape
      have hA : Below w_71.heap.size w_71 (w_71.alloc (.cells #[(.slice A_72 n_72 c_72)] 29)) := bA (Below.refl _ _) _
      have f_l := bx.new w_71 (.slice A_72 n_72 c_72)
      go_wp2_with (first | refine Cel.lW rfl 62 _ rfl b_r rfl 62 #[(.slice A_2 n_2 c_2), (.slice A_3 n_3 c_3), .bool true] (0, 0) _ (f_r.below hA) hu62 rfl za1 ?_)
      replace htab := htab.below hA
      replace hz1 := hz1.below hA
      replace hz2 := hz2.below hA
      replace hd1 := hd1.below hA
      replace hd2 := hd2.below hA
      replace f_m := f_m.below hA
      replace hl := hl.below hA
      replace f_r := f_r.below hA
      replace hB := hB.trans (hA.mono hB.size)
      clear hA
      generalize (w_71.alloc (.cells #[(.slice A_72 n_72 c_72)] 29)) = w_73 at f_l htab hz1 hz2 hd1 hd2 f_m hl f_r hB ⊢
      generalize w_71.heap.size = b_l at f_l ⊢
      clear hS
      have hS : Scl w_73 (.agg #[(.slice A_2 n_2 c_2), (.slice A_3 n_3 c_3), .bool true]) (p : Int) (X * 2 ^ p / Y) true 0 := fun W hW => by have h := zr2 (hz1.below hW) (hz2.below hW) (by omega) hY0 p hp4 hfit; rw [decide_eq_false hm] at h; exact h
      have F := ceil_more_c hS lq
      rw [e1, e2] at F
      refine (F).mono ?_
      rintro e w_74 ⟨z_h, rfl, hh, hb⟩
      replace htab := htab.below hb
      replace hz1 := hz1.below hb
      replace hz2 := hz2.below hb
      replace hd1 := hd1.below hb
      replace hd2 := hd2.below hb
      replace f_m := f_m.below hb
      replace hl := hl.below hb
      replace f_l := f_l.below hb
      replace f_r := f_r.below hb
      replace hB := hB.trans (hb.mono hB.size)
      clear hb
      obtain ⟨A_75, n_75, c_75, rfl⟩ := hh.shape
      have hA : Below w_74.heap.size w_74 (w_74.alloc (.cells #[(.slice A_75 n_75 c_75)] 29)) := bA (Below.refl _ _) _
      have f_h := bx.new w_74 (.slice A_75 n_75 c_75)
      go_wp2_with (first | refine Cel.lW rfl 66 _ rfl b_m rfl 66 #[(.slice A_d n_d c_d), (.slice A_e n_e c_e)] (0, 0) _ (f_m.below hA) hu66 rfl zj2 ?_)
      replace htab := htab.below hA
      replace hz1 := hz1.below hA
      replace hz2 := hz2.below hA
      replace hd1 := hd1.below hA
      replace hd2 := hd2.below hA
      replace f_m := f_m.below hA
      replace hl := hl.below hA
      replace hh := hh.below hA
      replace f_l := f_l.below hA
      replace f_r := f_r.below hA
      replace hB := hB.trans (hA.mono hB.size)
      clear hA
      generalize (w_74.alloc (.cells #[(.slice A_75 n_75 c_75)] 29)) = w_200 at f_h htab hz1 hz2 hd1 hd2 f_m hl hh f_l f_r hB ⊢
      generalize w_74.heap.size = b_h at f_h ⊢
      clear hS F
      refine (za2 hd1 hd2 (z13 X Y p hp4 (by omega) (by omega) hgf hY0 (by omega))).mono ?_
      rintro e w_201 ⟨z_u, rfl, hu0, hb⟩
      replace htab := htab.below hb
      replace hz1 := hz1.below hb
      replace hz2 := hz2.below hb
      replace hd1 := hd1.below hb
      replace hd2 := hd2.below hb
      replace f_m := f_m.below hb
      replace hl := hl.below hb
      replace hh := hh.below hb
      replace f_l := f_l.below hb
      replace f_h := f_h.below hb
      replace f_r := f_r.below hb
      replace hB := hB.trans (hb.mono hB.size)
      clear hb
      have hu : Dw w_201 z_u (X * 2 ^ p / Y) := by exact Kf.kw hu0
      clear hu0
      go_wp2_with (first | refine Cel.lW rfl 66 _ rfl b_m rfl 66 #[(.slice A_d n_d c_d), (.slice A_e n_e c_e)] (0, 0) _ f_m hu66 rfl zj2 ?_)
      refine (rceil_great_c hd1 hd2 p hp4 (by omega) (by omega) (by omega) hgf hY0 hm hb1).mono ?_
      rintro e w_202 ⟨rfl, hb⟩
      replace htab := htab.below hb
      replace hz1 := hz1.below hb
      replace hz2 := hz2.below hb
      replace hd1 := hd1.below hb
      replace hd2 := hd2.below hb
      replace f_m := f_m.below hb
      replace hl := hl.below hb
      replace hh := hh.below hb
      replace hu := hu.below hb
      replace f_l := f_l.below hb
      replace f_h := f_h.below hb
      replace f_r := f_r.below hb
      replace hB := hB.trans (hb.mono hB.size)
      clear hb
      go_wp2_with (first | refine Cel.lW rfl 29 _ rfl b_l rfl 29 #[(.slice A_72 n_72 c_72)] (0, 0) _ f_l hu29 rfl zh ?_ | refine Cel.lW rfl 29 _ rfl b_h rfl 29 #[(.slice A_75 n_75 c_75)] (0, 0) _ f_h hu29 rfl zh ?_)
      have F := is_c hl hu (by omega)
      rw [decide_eq_true rfl] at F
      refine (F).mono ?_
      rintro e w_203 ⟨rfl, hb⟩
      replace htab := htab.below hb
      replace hz1 := hz1.below hb
      replace hz2 := hz2.below hb
      replace hd1 := hd1.below hb
      replace hd2 := hd2.below hb
      replace f_m := f_m.below hb
      replace hl := hl.below hb
      replace hh := hh.below hb
      replace hu := hu.below hb
      replace f_l := f_l.below hb
      replace f_h := f_h.below hb
      replace f_r := f_r.below hb
      replace hB := hB.trans (hb.mono hB.size)
      clear hb
      clear F
      go_wp2_with (first | refine Cel.lW rfl 29 _ rfl b_l rfl 29 #[(.slice A_72 n_72 c_72)] (0, 0) _ f_l hu29 rfl zh ?_ | refine Cel.lW rfl 29 _ rfl b_h rfl 29 #[(.slice A_75 n_75 c_75)] (0, 0) _ f_h hu29 rfl zh ?_)
      have F := zy1 hh
      rw [decide_eq_true rfl] at F
      refine (F).mono ?_
      rintro e w_204 ⟨rfl, hb⟩
      replace htab := htab.below hb
      replace hz1 := hz1.below hb
      replace hz2 := hz2.below hb
      replace hd1 := hd1.below hb
      replace hd2 := hd2.below hb
      replace f_m := f_m.below hb
      replace hl := hl.below hb
      replace hh := hh.below hb
      replace hu := hu.below hb
      replace f_l := f_l.below hb
      replace f_h := f_h.below hb
      replace f_r := f_r.below hb
      replace hB := hB.trans (hb.mono hB.size)
      clear hb
      clear F
      go_wp2_with fail
      refine (zs2 htab).mono ?_
      rintro e w_205 ⟨rfl, hb⟩
      replace htab := htab.below hb
      replace hz1 := hz1.below hb
      replace hz2 := hz2.below hb
      replace hd1 := hd1.below hb
      replace hd2 := hd2.below hb
      replace f_m := f_m.below hb
      replace hl := hl.below hb
      replace hh := hh.below hb
      replace hu := hu.below hb
      replace f_l := f_l.below hb
      replace f_h := f_h.below hb
      replace f_r := f_r.below hb
      replace hB := hB.trans (hb.mono hB.size)
      clear hb
      go_wp2
      go_ret
      exact ⟨rfl, hB⟩
   ·have hgr := mt (zk2 _).2 hfit
    have hS : Scl w_70 (.agg #[(.slice A_2 n_2 c_2), (.slice A_3 n_3 c_3), .bool true]) (p : Int) 0 false 1 := fun W hW => (scaled_limit_c (hz1.below hW) (by omega) p hp4 hfit).mono fun e w' ⟨he, hb⟩ => ⟨_, he, Nf.zero _ _, hb⟩
    refine (floor_c hS).mono ?_
    rintro e w_71 ⟨z_l, rfl, hl, hb⟩
    replace htab := htab.below hb
    replace hz1 := hz1.below hb
    replace hz2 := hz2.below hb
    replace hd1 := hd1.below hb
    replace hd2 := hd2.below hb
    replace f_m := f_m.below hb
    replace f_r := f_r.below hb
    replace hB := hB.trans (hb.mono hB.size)
    clear hb
    obtain ⟨A_72, n_72, c_72, rfl⟩ := hl.shape
    have hA : Below w_71.heap.size w_71 (w_71.alloc (.cells #[(.slice A_72 n_72 c_72)] 29)) := bA (Below.refl _ _) _
    have f_l := bx.new w_71 (.slice A_72 n_72 c_72)
    go_wp2_with (first | refine Cel.lW rfl 62 _ rfl b_r rfl 62 #[(.slice A_2 n_2 c_2), (.slice A_3 n_3 c_3), .bool true] (0, 0) _ (f_r.below hA) hu62 rfl za1 ?_)
    replace htab := htab.below hA
    replace hz1 := hz1.below hA
    replace hz2 := hz2.below hA
    replace hd1 := hd1.below hA
    replace hd2 := hd2.below hA
    replace f_m := f_m.below hA
    replace hl := hl.below hA
    replace f_r := f_r.below hA
    replace hB := hB.trans (hA.mono hB.size)
    clear hA
    generalize (w_71.alloc (.cells #[(.slice A_72 n_72 c_72)] 29)) = w_73 at f_l htab hz1 hz2 hd1 hd2 f_m hl f_r hB ⊢
    generalize w_71.heap.size = b_l at f_l ⊢
    clear hS
    have hS : Scl w_73 (.agg #[(.slice A_2 n_2 c_2), (.slice A_3 n_3 c_3), .bool true]) (p : Int) 0 false 1 := fun W hW => (scaled_limit_c (hz1.below hW) (by omega) p hp4 hfit).mono fun e w' ⟨he, hb⟩ => ⟨_, he, Nf.zero _ _, hb⟩
    refine (zc4 hS (.inl (by decide))).mono ?_
    rintro e w_74 ⟨z_h, rfl, hh, hb⟩
    replace htab := htab.below hb
    replace hz1 := hz1.below hb
    replace hz2 := hz2.below hb
    replace hd1 := hd1.below hb
    replace hd2 := hd2.below hb
    replace f_m := f_m.below hb
    replace hl := hl.below hb
    replace f_l := f_l.below hb
    replace f_r := f_r.below hb
    replace hB := hB.trans (hb.mono hB.size)
    clear hb
    obtain ⟨A_75, n_75, c_75, rfl⟩ := hh.shape
    have hA : Below w_74.heap.size w_74 (w_74.alloc (.cells #[(.slice A_75 n_75 c_75)] 29)) := bA (Below.refl _ _) _
    have f_h := bx.new w_74 (.slice A_75 n_75 c_75)
    go_wp2_with (first | refine Cel.lW rfl 66 _ rfl b_m rfl 66 #[(.slice A_d n_d c_d), (.slice A_e n_e c_e)] (0, 0) _ (f_m.below hA) hu66 rfl zj2 ?_)
    replace htab := htab.below hA
    replace hz1 := hz1.below hA
    replace hz2 := hz2.below hA
    replace hd1 := hd1.below hA
    replace hd2 := hd2.below hA
    replace f_m := f_m.below hA
    replace hl := hl.below hA
    replace hh := hh.below hA
    replace f_l := f_l.below hA
    replace f_r := f_r.below hA
    replace hB := hB.trans (hA.mono hB.size)
    clear hA
    generalize (w_74.alloc (.cells #[(.slice A_75 n_75 c_75)] 29)) = w_200 at f_h htab hz1 hz2 hd1 hd2 f_m hl hh f_l f_r hB ⊢
    generalize w_74.heap.size = b_h at f_h ⊢
    clear hS
    refine (za2 hd1 hd2 (ffloor_great X _ p hp4 (by omega) (by omega) (by omega))).mono ?_
    rintro e w_201 ⟨z_u, rfl, hu0, hb⟩
    replace htab := htab.below hb
    replace hz1 := hz1.below hb
    replace hz2 := hz2.below hb
    replace hd1 := hd1.below hb
    replace hd2 := hd2.below hb
    replace f_m := f_m.below hb
    replace hl := hl.below hb
    replace hh := hh.below hb
    replace f_l := f_l.below hb
    replace f_h := f_h.below hb
    replace f_r := f_r.below hb
    replace hB := hB.trans (hb.mono hB.size)
    clear hb
    have hu : Dw w_201 z_u 0 := by have h := Kf.kw hu0; rw [← zo0 BD] at h; exact h
    clear hu0
    go_wp2_with (first | refine Cel.lW rfl 66 _ rfl b_m rfl 66 #[(.slice A_d n_d c_d), (.slice A_e n_e c_e)] (0, 0) _ f_m hu66 rfl zj2 ?_)
    refine (rceil_no_c hd1 hd2 (ffloor_great X _ p hp4 (by omega) (by omega) (by omega)) (by decide)).mono ?_
    rintro e w_202 ⟨rfl, hb⟩
    replace htab := htab.below hb
    replace hz1 := hz1.below hb
    replace hz2 := hz2.below hb
    replace hd1 := hd1.below hb
    replace hd2 := hd2.below hb
    replace f_m := f_m.below hb
    replace hl := hl.below hb
    replace hh := hh.below hb
    replace hu := hu.below hb
    replace f_l := f_l.below hb
    replace f_h := f_h.below hb
    replace f_r := f_r.below hb
    replace hB := hB.trans (hb.mono hB.size)
    clear hb
    go_wp2_with (first | refine Cel.lW rfl 29 _ rfl b_l rfl 29 #[(.slice A_72 n_72 c_72)] (0, 0) _ f_l hu29 rfl zh ?_ | refine Cel.lW rfl 29 _ rfl b_h rfl 29 #[(.slice A_75 n_75 c_75)] (0, 0) _ f_h hu29 rfl zh ?_)
    have F := zy1 hl
    rw [decide_eq_true rfl] at F
    refine (F).mono ?_
    rintro e w_203 ⟨rfl, hb⟩
    replace htab := htab.below hb
    replace hz1 := hz1.below hb
    replace hz2 := hz2.below hb
    replace hd1 := hd1.below hb
    replace hd2 := hd2.below hb
    replace f_m := f_m.below hb
    replace hl := hl.below hb
    replace hh := hh.below hb
    replace hu := hu.below hb
    replace f_l := f_l.below hb
    replace f_h := f_h.below hb
    replace f_r := f_r.below hb
    replace hB := hB.trans (hb.mono hB.size)
    clear hb
    clear F
    go_wp2_with (first | refine Cel.lW rfl 29 _ rfl b_l rfl 29 #[(.slice A_72 n_72 c_72)] (0, 0) _ f_l hu29 rfl zh ?_ | refine Cel.lW rfl 29 _ rfl b_h rfl 29 #[(.slice A_75 n_75 c_75)] (0, 0) _ f_h hu29 rfl zh ?_)
    have F := zy1 hh
    rw [decide_eq_true rfl] at F
    refine (F).mono ?_
    rintro e w_204 ⟨rfl, hb⟩
    replace htab := htab.below hb
    replace hz1 := hz1.below hb
    replace hz2 := hz2.below hb
    replace hd1 := hd1.below hb
    replace hd2 := hd2.below hb
    replace f_m := f_m.below hb
    replace hl := hl.below hb
    replace hh := hh.below hb
    replace hu := hu.below hb
    replace f_l := f_l.below hb
    replace f_h := f_h.below hb
    replace f_r := f_r.below hb
    replace hB := hB.trans (hb.mono hB.size)
    clear hb
    clear F
    go_wp2_with fail
    refine (zs2 htab).mono ?_
    rintro e w_205 ⟨rfl, hb⟩
    replace htab := htab.below hb
    replace hz1 := hz1.below hb
    replace hz2 := hz2.below hb
    replace hd1 := hd1.below hb
    replace hd2 := hd2.below hb
    replace f_m := f_m.below hb
    replace hl := hl.below hb
    replace hh := hh.below hb
    replace hu := hu.below hb
    replace f_l := f_l.below hb
    replace f_h := f_h.below hb
    replace f_r := f_r.below hb
    replace hB := hB.trans (hb.mono hB.size)
    clear hb
    go_wp2
    go_ret
    exact ⟨rfl, hB⟩
theorem rrounds_walk {w : World} (A1 A2 : Option Addr) (c1 c2 : Nat) (l1 l2 : List Int) (pp : Int) (h1 : Kw .u64 w (.slice A1 l1.length c1) l1) (h2 : Kw .u64 w (.slice A2 l2.length c2) l2) (r1 : R BW l1) (r2 : R BW l2) (htab : Tab w) :
  Calls Tryd.prog 10 #[.slice A1 l1.length c1, .slice A2 l2.length c2, .int .i64 pp] w fun e w' => e = .returned (.bool true) ∧ Below w.heap.size w w'  := by
 by_cases hg : 30 < l1.length ∨ 30 < l2.length
 ·exact rrounds_great A1 A2 c1 c2 _ _ pp hg htab
 ·exact rrounds_small A1 A2 c1 c2 l1 l2 pp h1 h2 r1 r2 htab hg
theorem open_ws {H : Type} {enc : TypeId × Value → H} {W : World} {base : Nat} {spare : Nat → Bool} {held : Bool} {r : Reach} {b0 : Nat} {v : Value} {d : DataW H} {ps : List MemPlace}
  (hv : Value.okWide Tryd.prog W r b0 22 v) (h : DataW.Trod enc Tryd.prog W base spare held 22 v d ps) :
  ∃ A c l, v = .slice A l.length c ∧ l.length ≤ c ∧ Kd.C (Kd.int .u64) W A l.length l ∧ R BW l ∧ l.length ≤ 9223372036854775807 := by
 obtain ⟨a, len, cap, rfl⟩ := Go.WideShapes.okWide_slice Tryd.underlying22 hv
 obtain ⟨fuel, hf⟩ := h
 have hcz : Tryd.prog.cellsOf 40 = 1 := by kernel_rfl
 rcases Go.ChangeShapes.open_ints Tryd.underlying22 Tryd.underlying40 hcz hf with ⟨hc, _⟩ | ⟨a', len', cap', zs, hc, _, hlc, hcm, hzl, _, hcell, hwf⟩
 ·simp [Value.cells] at hc
  obtain ⟨rfl, rfl, rfl⟩ := hc
  exact ⟨none, 0, [], rfl, Nat.le_refl _, Kd.C_nil _ _, zj1 _, by simp⟩
 ·simp [Value.cells] at hc
  obtain ⟨rfl, rfl, rfl⟩ := hc
  have hle : len ≤ zs.length := by rw [hzl]; split <;> omega
  have hcap : cap ≤ 9223372036854775807 := by
   have : cap ≤ maxLen := hcm
   unfold maxLen at this
   omega
  have hl : (zs.take len).length = len := by rw [List.length_take, Nat.min_eq_left hle]
  refine ⟨some a', cap, zs.take len, by rw [hl], by omega, ⟨rfl, by omega, fun _ => ⟨a', rfl, ?_⟩⟩, ?_, by omega⟩
  ·intro j p hj
   refine ⟨[.int .u64 p], rfl, rfl, ?_⟩
   intro i u hi
   match i, hi with
   | 0, hi =>
    have hu : Value.int .u64 p = u := by simpa using hi
    subst hu
    have hj1 : j < (zs.take len).length := (List.getElem?_eq_some_iff.1 hj).1
    have hj2 : j < zs.length := by omega
    have hc := hcell j hj2
    have hz : zs.getD j 0 = p := by
     rw [List.getElem?_take, if_pos (by omega)] at hj
     rw [List.getD_eq_getElem?_getD, hj]; rfl
    rw [hz] at hc
    show W.cell? (a'.add (j * 1 + 0)) = _
    rw [Nat.mul_one, Nat.add_zero]; exact hc
   | i + 1, hi => simp at hi
  ·intro x hx
   have hw := hwf x (List.mem_of_mem_take hx)
   simp [Lit.wf, IntKind.min, IntKind.max, IntKind.signed, IntKind.bits] at hw
   have : ((BW : Nat) : Int) = 18446744073709551616 := rfl
   rw [this]
   omega
end Go.Proofs.YtgkdealidnidiaaDoor.Na
namespace Go.Proofs.YtgkdealidnidiaaDoor
open Go.RowKit
mutual
def flat : DataW Unit → List Value
 | .lit (.int k n) => [.int k n]
 | .agg parts => flats parts
 | _ => []
def flats : List (DataW Unit) → List Value
 | [] => []
 | d :: r => flat d ++ flats r
end
def layObj (d : DataW Unit) : Obj → Obj
 | .cells _ t fr => .cells (flat d).toArray t fr
 | o => o
noncomputable def laidWorld (os : Os) : World :=
 let w0 := World.holding Tryd.prog os ⟨#[], #[], []⟩
 { w0 with heap := ((w0.heap.modify 4 (layObj Rows.laid_math_bits_deBruijn32tab)).modify 5 (layObj Rows.laid_math_bits_deBruijn64tab)).modify 2 (layObj Rows.laid_internal_strconv_uint64pow10) }
theorem tab_of {W : World} (h : laidMetH Tryd.prog [("math/bits.deBruijn32tab", Rows.laid_math_bits_deBruijn32tab), ("math/bits.deBruijn64tab", Rows.laid_math_bits_deBruijn64tab), ("internal/strconv.uint64pow10", Rows.laid_internal_strconv_uint64pow10)] W) : Na.Tab W := by
 rw [MakeChecks.laidMetH_plain _ _ _ (by kernel_rfl)] at h
 have h2 := h.filter (fun x => x.1 == "internal/strconv.uint64pow10")
 have e : ([("math/bits.deBruijn32tab", Rows.laid_math_bits_deBruijn32tab), ("math/bits.deBruijn64tab", Rows.laid_math_bits_deBruijn64tab), ("internal/strconv.uint64pow10", Rows.laid_internal_strconv_uint64pow10)] : List (String × DataW Unit)).filter (fun x => x.1 == "internal/strconv.uint64pow10") = [("internal/strconv.uint64pow10", Lib.tabData .u64 Lib.pow10Tab)] := by kernel_rfl
 rw [e] at h2
 exact Lib.tabIs_of_head (g := 2) (t := 161) (e := 40) (n := 20) (by kernel_rfl) (by kernel_rfl) Tryd.underlying161 Tryd.underlying40 (by kernel_rfl) (by kernel_rfl) h2
end Go.Proofs.YtgkdealidnidiaaDoor
