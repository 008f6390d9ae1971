/- Texts of the seat, as far as the row needs them. -/
import Derived.Deep.Light
import Derived.Laws.ResultCell
import Derived.Laws.Tables
import Derived.Lib.AppendIntMem
import Derived.Lib.Join
import Derived.Lib.OwnBridge
import Derived.Lib.Repeat
import Derived.Outline
import Derived.StillTailTactics
import Derived.Test.YtgkdealidnidiaaDoorQRatRounds8
set_option linter.unusedVariables false
set_option linter.unusedSimpArgs false
set_option maxHeartbeats 8000000
set_option maxRecDepth 100000
namespace Go.Proofs.YtgkdealidnidiaaDoor.Na
open Go.RowKit Go.Proofs.YtgkdealidnidiaaDoorW.PrintWords Go.Proofs.YtgkdealidnidiaaDoorW.PrintLast Go.Proofs.YtgkdealidnidiaaDoorW.PrintMore Go.Proofs.YtgkdealidnidiaaDoor.Dg
theorem lz_ev (y : Nat) (hy : y < 18446744073709551616) (hy0 : 0 < y) : Ev (fun k => bits_LeadingZeros64.f k (y : Int)) ((64 - nb y : Nat) : Int) := by
 have hny : nb y ≤ 64 := (nb_le y 64).2 hy
 refine Ev.step (f := fun _ => some ((64 - nb y : Nat) : Int)) (fun k => ?_) (Ev.now _)
 have E := Q0.mk (show wrap64 (64 - (nb y : Int)) = ((64 - nb y : Nat) : Int) by rw [w64 (by omega) (by omega)]; omega)
 unfold bits_LeadingZeros64.f
 simp only [bits_Len64.f]
 rw [if_pos (by omega), Option.bind_some, Int.toNat_natCast, bitLen_nb hy, E.out]
theorem V_top2 {l : List Int} {n : Nat} (hl : l.length = n + 2) : V BW l = (l.getD (n + 1) 0 * 18446744073709551616 + l.getD n 0) * (BW : Int) ^ n + V BW (l.take n) := by
 have h1 := zd0 BW l n (by omega)
 have h2 := zd0 BW l (n + 1) (by omega)
 rw [zb0 _ _ (by omega), h1, Int.pow_succ, BWi] at h2
 rw [BWi]
 rw [h2]
 generalize (18446744073709551616 : Int) ^ n = Q
 grind
theorem V_top3 {l : List Int} {n : Nat} (hl : l.length = n + 3) : V BW l = ((l.getD (n + 2) 0 * 18446744073709551616 + l.getD (n + 1) 0) * 18446744073709551616 + l.getD n 0) * (BW : Int) ^ n + V BW (l.take n) := by
 have h0 := zd0 BW l n (by omega)
 have h1 := zd0 BW l (n + 1) (by omega)
 have h2 := zd0 BW l (n + 2) (by omega)
 rw [zb0 _ _ (by omega), h1, h0] at h2
 simp only [Int.pow_succ, BWi] at h2
 rw [BWi]
 rw [h2]
 generalize (18446744073709551616 : Int) ^ n = Q
 grind
theorem wnd_getD (U : List Int) (j m i : Nat) (hi : i < m) : ((U.drop j).take m).getD i 0 = U.getD (j + i) 0 := by
 rw [List.getD_eq_getElem?_getD, List.getElem?_take, if_pos hi, List.getElem?_drop, ← List.getD_eq_getElem?_getD]
theorem digit_ev (U v : List Int) (j lb : Nat) (hU : R BW U) (hv : R BW v) (hvl : v.length = lb + 2) (hj : j + (lb + 2) + 1 ≤ U.length) (hlb : lb ≤ 100000) (hv1 : 0 < v.getD (lb + 1) 0) (hlt : V BW (U.drop (j + 1)) < V BW v) :
  ∃ g x', Ev (fun k => nat_guess.f k (U.getD (j + (lb + 2)) 0) (U.getD (j + (lb + 1)) 0) (U.getD (j + lb) 0) (v.getD (lb + 1) 0) (v.getD lb 0)) g ∧
   Ev (fun k => nat_takeW.f k U v g j) (V BW (U.drop j) / V BW v, U.take j ++ x' ++ U.drop (j + (lb + 3))) ∧ R BW x' ∧ x'.length = lb + 3 ∧ V BW x' = V BW (U.drop j) % V BW v ∧ 0 ≤ V BW (U.drop j) / V BW v ∧ V BW (U.drop j) / V BW v < 18446744073709551616 ∧ V BW (U.drop (j + (lb + 3))) = 0 := by
 have hVv0 := zn0 (b := (BW : Int)) (by decide) hv
 have hUd := zn0 (b := (BW : Int)) (by decide) (R_drop hU (j + 1))
 have hVp : 0 < V BW v := by omega
 have hVlt := V_lt (b := (BW : Int)) (by decide) hv
 rw [hvl] at hVlt
 -- what lies above the part is 0
 have hz : V BW (U.drop (j + (lb + 3))) = 0 := by
  have hs := zl3 BW (U.drop (j + 1)) (lb + 2)
  rw [List.drop_drop, List.length_take, List.length_drop, Nat.min_eq_left (by omega), show j + 1 + (lb + 2) = j + (lb + 3) by omega] at hs
  have h0 := zn0 (b := (BW : Int)) (by decide) (R_drop hU (j + (lb + 3)))
  have h1 := zn0 (b := (BW : Int)) (by decide) (zm2 (R_drop hU (j + 1)) (lb + 2))
  have hp := zo3 (b := (BW : Int)) (by decide) (lb + 2)
  rcases Int.lt_or_eq_of_le h0 with h | h
  ·exfalso
   have := Int.mul_le_mul_of_nonneg_left (show 1 ≤ V BW (U.drop (j + (lb + 3))) by omega) (Int.le_of_lt hp)
   omega
  ·exact h.symm
 have hwl : ((U.drop j).take (lb + 3)).length = lb + 3 := by rw [List.length_take, List.length_drop]; omega
 have hVw : V BW ((U.drop j).take (lb + 3)) = V BW (U.drop j) := by
  have hs := zl3 BW (U.drop j) (lb + 3)
  rw [List.drop_drop, hz] at hs
  rw [hs]; simp
 have hwR : R BW ((U.drop j).take (lb + 3)) := zm2 (R_drop hU j) _
 have hw0 := zn0 (b := (BW : Int)) (by decide) hwR
 -- the digit is below the base
 have hUj := zh3 BW U j (by omega)
 have rj := zu0 hU (by decide) j
 rw [BWi] at rj hUj
 rw [BWi] at hVp hlt hVw hw0 hUd hVv0
 have hd0 : 0 ≤ V BW (U.drop j) / V BW v := by rw [BWi]; exact Int.ediv_nonneg (by omega) (by omega)
 have hd1 : V BW (U.drop j) / V BW v < 18446744073709551616 := by
  rw [BWi]
  refine Int.ediv_lt_of_lt_mul hVp ?_
  have : 18446744073709551616 * (V 18446744073709551616 (U.drop (j + 1)) + 1) ≤ 18446744073709551616 * V 18446744073709551616 v := Int.mul_le_mul_of_nonneg_left (by omega) (by decide)
  rw [Int.mul_add] at this
  omega
 have ru2 := zu0 hU (by decide) (j + (lb + 2))
 have ru1 := zu0 hU (by decide) (j + (lb + 1))
 have ru0 := zu0 hU (by decide) (j + lb)
 have rv1 := zu0 hv (by decide) (lb + 1)
 have rv0 := zu0 hv (by decide) lb
 rw [BWi] at ru2 ru1 ru0 rv1 rv0
 obtain ⟨g, hg, hg0, hg1, hN⟩ := guess_ev _ _ _ _ _ ru2.1 ru1.1 ru1.2 ru0.1 ru0.2 hv1 rv1.2 rv0.1 rv0.2
 have hdg : V BW ((U.drop j).take (lb + 3)) / V BW v ≤ g := by
  have hw3 := V_top3 (l := (U.drop j).take (lb + 3)) (n := lb) hwl
  rw [wnd_getD U j (lb + 3) (lb + 2) (by omega), wnd_getD U j (lb + 3) (lb + 1) (by omega), wnd_getD U j (lb + 3) lb (by omega)] at hw3
  have hv2 := V_top2 (l := v) (n := lb) hvl
  have t0 := V_lt (b := (BW : Int)) (by decide) (zm2 hwR lb)
  rw [List.length_take, hwl, Nat.min_eq_left (by omega)] at t0
  have t1 := zn0 (b := (BW : Int)) (by decide) (zm2 hv lb)
  refine hN ((BW : Int) ^ lb) (V BW ((U.drop j).take (lb + 3))) (V BW v) _ _ _ (zo3 (by decide) lb) hw3 hv2 t0 t1 ?_ ?_ ?_
  ·rw [BWi, hVw]; rw [BWi] at hd0; exact hd0
  ·exact Int.ediv_mul_le _ (by rw [BWi]; omega)
  ·rw [BWi, hVw]; rw [BWi] at hd1; exact hd1
 obtain ⟨x', hE, h1, h2, h3⟩ := take_ev ((U.drop j).take (lb + 3)) v g hwR hv (by rw [hwl, hvl]) (by omega) (by rw [BWi]; exact hVp) hg0 hg1 hdg
 have hVw2 : V BW ((U.drop j).take (lb + 3)) = V BW (U.drop j) := by rw [BWi]; exact hVw
 rw [hVw2] at hE h3
 refine ⟨g, x', hg, ?_, h1, by rw [h2, hvl], h3, hd0, hd1, hz⟩
 have hcond : (0 ≤ (j : Int) ∧ (j : Int) + v.length + 1 ≤ U.length) ∧ 0 < v.length ∧ v.length ≤ 1000000000 := by omega
 refine Ev.congr (f := fun k => (nat_takeAway.f k ((U.drop j).take (lb + 3)) v g).bind fun bt => some (bt.1, U.take j ++ bt.2 ++ U.drop (j + (lb + 3)))) (fun k => ?_) (Ev.bind hE (Ev.now _))
 unfold nat_takeW.f
 rw [if_pos hcond, Int.toNat_natCast, hvl]
theorem drop_three {a b c : List Int} {n : Nat} (ha : a.length = n) : (a ++ b ++ c).drop n = b ++ c := by
 subst ha
 rw [List.append_assoc, List.drop_left]
theorem divide_loop (x y : Nat) (s : Nat) (hs : s < 64) (v : List Int) (lb : Nat) (y1 : List Int) (hy1 : y1.length = lb + 2) (hv : R BW v) (hvl : v.length = lb + 2) (hlb : lb ≤ 100000) (hv1 : 0 < v.getD (lb + 1) 0) (hVv : V BW v = ((y * 2 ^ s : Nat) : Int)) (hy : 0 < y) :
  ∀ (n : Nat) (U q : List Int), R BW U → R BW q → U.length ≤ 200000 → n + (lb + 2) ≤ U.length → n ≤ q.length → q.length ≤ 200000 → V BW (U.drop n) < V BW v → ((x * 2 ^ s : Nat) : Int) = V BW U + (BW : Int) ^ n * (V BW v * V BW (q.drop n)) →
   Ev (fun k => nat_divide.l0 k y1 s U v q ((n : Int) - 1)) (wd BW (x / y), wd BW (x % y))
 | 0, U, q, hU, hq, hUl, hnU, hnq, hql, hlt, htot => by
  have hps : 0 < 2 ^ s := Nat.pow_pos (by decide)
  rw [Int.pow_zero, Int.one_mul, List.drop_zero] at htot
  rw [List.drop_zero] at hlt
  have hU0 := zn0 (b := (BW : Int)) (by decide) hU
  have hq0 := zn0 (b := (BW : Int)) (by decide) hq
  obtain ⟨a, ha⟩ := Int.eq_ofNat_of_zero_le hU0
  obtain ⟨b, hb⟩ := Int.eq_ofNat_of_zero_le hq0
  rw [ha, hVv] at hlt
  rw [ha, hb, hVv, ← Int.natCast_mul, ← Int.natCast_add] at htot
  have htot2 : x * 2 ^ s = a + y * 2 ^ s * b := Int.ofNat_inj.1 htot
  have hlt2 : a < y * 2 ^ s := Int.ofNat_lt.1 hlt
  have hq2 : x / y = b := by
   have : x * 2 ^ s / (y * 2 ^ s) = b := by rw [htot2, Nat.add_mul_div_left _ _ (Nat.mul_pos hy hps), Nat.div_eq_of_lt hlt2, Nat.zero_add]
   rwa [Nat.mul_div_mul_right _ _ hps] at this
  have hr2 : x % y * 2 ^ s = a := by
   have : x * 2 ^ s % (y * 2 ^ s) = a := by rw [htot2, Nat.add_mul_mod_self_left, Nat.mod_eq_of_lt hlt2]
   rwa [Nat.mul_mod_mul_right] at this
  have hlenr : (wd BW (x % y * 2 ^ s)).length ≤ 1000000 := by
   have h1 : strip U = wd BW (x % y * 2 ^ s) := zf1 (by decide) hU (by rw [ha, hr2])
   obtain ⟨kk, hk, hkl⟩ := z04 U
   rw [← h1, hk, List.length_take]; omega
  have E := Q0.mk (show wrap64 (s : Int) = (s : Int) from w64 (by omega) (by omega))
  refine Ev.step (f := fun k => (nat_norm.f k U).bind fun t300 => (nat_Nat_Shr.f k t300 (wrap64 (s : Int))).bind fun bt303 => (nat_norm.f k q).bind fun t308 => some (t308, bt303.1)) (fun k => by rw [nat_divide.l0, if_neg (by omega)]) ?_
  refine Ev.bind (ze3 U (by omega)) ?_
  rw [zf1 (n := x % y * 2 ^ s) (by decide) hU (by rw [ha, hr2]), E.out]
  refine Ev.bind (nshr_ev (x % y * 2 ^ s) s hlenr (by omega)) ?_
  refine Ev.bind (ze3 q (by omega)) ?_
  rw [zf1 (n := x / y) (by decide) hq (by rw [hb, hq2]), Nat.mul_div_cancel _ hps]
  exact Ev.now _
 | n + 1, U, q, hU, hq, hUl, hnU, hnq, hql, hlt, htot => by
  obtain ⟨g, x', hg, hE, h1, h2, h3, h4, h5, h6⟩ := digit_ev U v n lb hU hv hvl (by omega) hlb hv1 hlt
  have hVp : 0 < V BW v := by
   have := zn0 (b := (BW : Int)) (by decide) (R_drop hU (n + 1)); omega
  have hmod := zk1 (s := V BW (U.drop n)) hVp
  have hdm := Int.emod_add_mul_ediv (V BW (U.drop n)) (V BW v)
  have hdl : (U.take n).length = n := by rw [List.length_take]; omega
  have hd2 : (U.take n ++ x' ++ U.drop (n + (lb + 3))).drop n = x' ++ U.drop (n + (lb + 3)) := drop_three hdl
  have hVd : V BW ((U.take n ++ x' ++ U.drop (n + (lb + 3))).drop n) = V BW x' := by rw [hd2, zl2, h6]; simp
  have hqd : V BW ((q.set n (V BW (U.drop n) / V BW v)).drop n) = V BW (U.drop n) / V BW v + (BW : Int) * V BW (q.drop (n + 1)) := by
   rw [zh3 _ _ n (by rw [List.length_set]; omega), drop_set_lt _ _ _ _ (by omega), List.getD_eq_getElem?_getD, List.getElem?_set_self (by omega)]; rfl
  have ih := divide_loop x y s hs v lb y1 hy1 hv hvl hlb hv1 hVv hy n (U.take n ++ x' ++ U.drop (n + (lb + 3))) (q.set n (V BW (U.drop n) / V BW v)) (zz.2 ⟨zz.2 ⟨zm2 hU n, h1⟩, R_drop hU _⟩) (R_set hq n h4 (by rw [BWi]; exact h5)) (by rw [List.length_append, List.length_append, hdl, h2, List.length_drop]; omega) (by rw [List.length_append, List.length_append, hdl, h2, List.length_drop]; omega) (by rw [List.length_set]; omega) (by rw [List.length_set]; exact hql) (by rw [hVd, h3]; exact hmod.2) (by
   rw [htot, hqd]
   have e1 := zl3 BW U n
   have e2 : V BW (U.take n ++ x' ++ U.drop (n + (lb + 3))) = V BW (U.take n) + (BW : Int) ^ n * V BW x' := by
    rw [List.append_assoc, zl2, hdl, zl2, h6]; simp
   rw [hdl] at e1
   rw [e1, e2, h3, Int.pow_succ]
   generalize hD : V BW (U.drop n) / V BW v = D at hdm
   generalize V BW (U.drop n) % V BW v = M at hdm
   rw [← hdm]
   generalize (BW : Int) ^ n = Q
   generalize V BW (q.drop (n + 1)) = A
   grind)
  generalize hD : V BW (U.drop n) / V BW v = D at hE h4 h5 ih
  refine Ev.step (f := fun k => (nat_guess.f k (U.getD (n + (lb + 2)) 0) (U.getD (n + (lb + 1)) 0) (U.getD (n + lb) 0) (v.getD (lb + 1) 0) (v.getD lb 0)).bind fun t296 => (nat_takeW.f k U v t296 n).bind fun bt297 => if 0 ≤ (n : Int) then (if (n : Int) < (q.length : Int) then nat_divide.l0 k y1 s bt297.2 v (q.set ((n : Int)).toNat bt297.1) (wrap64 ((n : Int) - 1)) else none) else none) (fun k => ?_) ?_
  ·have g0 : ((n + 1 : Nat) : Int) - 1 = (n : Int) := by omega
   have w1 := Q0.mk (And.intro (show wrap64 ((n : Int) + (y1.length : Int)) = ((n + (lb + 2) : Nat) : Int) by rw [w64 (by omega) (by omega), hy1]; omega) (And.intro (show wrap64 (((n + (lb + 2) : Nat) : Int) - 1) = ((n + (lb + 1) : Nat) : Int) by rw [w64 (by omega) (by omega)]; omega) (And.intro (show wrap64 (((n + (lb + 2) : Nat) : Int) - 2) = ((n + lb : Nat) : Int) by rw [w64 (by omega) (by omega)]; omega) (And.intro (show wrap64 ((y1.length : Int) - 1) = ((lb + 1 : Nat) : Int) by rw [w64 (by omega) (by omega), hy1]; omega) (show wrap64 ((y1.length : Int) - 2) = (lb : Int) by rw [w64 (by omega) (by omega), hy1]; omega)))))
   have a1 : (0 : Int) ≤ ((n + (lb + 2) : Nat) : Int) := by omega
   have a2 : ((n + (lb + 2) : Nat) : Int) < (U.length : Int) := by omega
   have a3 : (0 : Int) ≤ ((n + (lb + 1) : Nat) : Int) := by omega
   have a4 : ((n + (lb + 1) : Nat) : Int) < (U.length : Int) := by omega
   have a5 : (0 : Int) ≤ ((n + lb : Nat) : Int) := by omega
   have a6 : ((n + lb : Nat) : Int) < (U.length : Int) := by omega
   have a7 : (0 : Int) ≤ ((lb + 1 : Nat) : Int) := by omega
   have a8 : ((lb + 1 : Nat) : Int) < (v.length : Int) := by omega
   have a9 : (0 : Int) ≤ (lb : Int) := by omega
   have a10 : (lb : Int) < (v.length : Int) := by omega
   have a0 : (n : Int) ≥ 0 := by omega
   rw [g0, nat_divide.l0, if_pos a0, w1.out.1, if_pos a1, if_pos a2, w1.out.2.1, if_pos a3, if_pos a4, w1.out.2.2.1, if_pos a5, if_pos a6, w1.out.2.2.2.1, if_pos a7, if_pos a8, w1.out.2.2.2.2, if_pos a9, if_pos a10, ze0, ze0, ze0, ze0, ze0]
  ·refine Ev.bind hg (Ev.bind hE ?_)
   refine Ev.congr (fun k => ?_) ih
   have b0 : (0 : Int) ≤ (n : Int) := by omega
   have b1 : (n : Int) < (q.length : Int) := by omega
   have E := Q0.mk (show wrap64 ((n : Int) - 1) = (n : Int) - 1 from w64 (by omega) (by omega))
   rw [if_pos b0, if_pos b1, Int.toNat_natCast, E.out]
theorem divide_ev (x y : Nat) (hxy : y ≤ x) (hyl : 2 ≤ (wd BW y).length) (hxl : (wd BW x).length ≤ 100000) : Ev (fun k => nat_divide.f k (wd BW x) (wd BW y)) (wd BW (x / y), wd BW (x % y)) := by
 obtain ⟨lb, hlb⟩ : ∃ lb, (wd BW y).length = lb + 2 := ⟨(wd BW y).length - 2, by omega⟩
 have hlen := zy0 (b := BW) (by decide) hxy
 have hy : 0 < y := by
  rcases Nat.eq_zero_or_pos y with h | h
  ·subst h; rw [zo0] at hyl; simp at hyl
  ·exact h
 obtain ⟨m, lw, vv, top, e, rfl, htop, htopb, hvv, hye⟩ := wd_last (b := BW) (by decide) hy
 have hml : m.length = lb + 1 := by have := congrArg List.length e; rw [hlb] at this; simp at this; omega
 have htopb2 : top < 18446744073709551616 := htopb
 have htopd : (wd BW y).getD (lb + 1) 0 = (top : Int) := by
  rw [e, List.getD_eq_getElem?_getD, ← hml, List.getElem?_append_right (Nat.le_refl _), Nat.sub_self]; rfl
 obtain ⟨s, hs⟩ : ∃ s, 64 - nb top = s := ⟨_, rfl⟩
 have hnt := nb_pos htop
 have hnt2 : nb top ≤ 64 := (nb_le top 64).2 htopb2
 have hlz := lz_ev top htopb2 htop
 rw [hs] at hlz
 obtain ⟨U, hU, hUR, hUV, hUl⟩ := shifted_ev (wd BW x) s (by omega) (zd2 (by decide) x) (by omega)
 obtain ⟨Y, hY, hYR, hYV, hYl⟩ := shifted_ev (wd BW y) s (by omega) (zd2 (by decide) y) (by omega)
 rw [zn2 (by decide), ← Int.natCast_mul] at hUV hYV
 -- the divisor has room in its own words
 have hnby : nb y = 64 * (lb + 1) + nb top := by rw [hye, hml, pow64]; exact nb_split (by rw [← pow64, ← hml]; exact hvv) htop
 have hfit : y * 2 ^ s < BW ^ (lb + 2) := by
  have h1 : y * 2 ^ s < 2 ^ nb y * 2 ^ s := Nat.mul_lt_mul_of_lt_of_le (nb_lt y) (Nat.le_refl _) (Nat.pow_pos (by decide))
  rw [← Nat.pow_add, hnby, show 64 * (lb + 1) + nb top + s = 64 * (lb + 2) by omega, ← pow64] at h1
  exact h1
 have hvV : V BW (Y.take (lb + 2)) = ((y * 2 ^ s : Nat) : Int) := by
  have hsp := zl3 BW Y (lb + 2)
  rw [List.length_take, hYl, Nat.min_eq_left (by omega), hYV] at hsp
  have h0 := zn0 (b := (BW : Int)) (by decide) (R_drop hYR (lb + 2))
  have h1 := zn0 (b := (BW : Int)) (by decide) (zm2 hYR (lb + 2))
  have hfit2 : ((y * 2 ^ s : Nat) : Int) < (BW : Int) ^ (lb + 2) := by rw [← Int.natCast_pow]; exact Int.ofNat_lt.2 hfit
  rcases Int.lt_or_eq_of_le h0 with h | h
  ·exfalso
   have := Int.mul_le_mul_of_nonneg_left (show 1 ≤ V BW (Y.drop (lb + 2)) by omega) (Int.le_of_lt (zo3 (b := (BW : Int)) (by decide) (lb + 2)))
   omega
  ·rw [← h] at hsp; rw [hsp]; simp
 have hvR : R BW (Y.take (lb + 2)) := zm2 hYR _
 have hvl : (Y.take (lb + 2)).length = lb + 2 := by rw [List.length_take, hYl]; omega
 have hge : BW ^ (lb + 1) ≤ y := by
  have := mt (zn (b := BW) (n := y) (by decide) (lb + 1)).2 (by omega); omega
 have hps : 0 < 2 ^ s := Nat.pow_pos (by decide)
 have hge2 : y ≤ y * 2 ^ s := Nat.le_mul_of_pos_right _ hps
 have hv1 : 0 < (Y.take (lb + 2)).getD (lb + 1) 0 := by
  have r := zu0 hvR (by decide) (lb + 1)
  rcases Int.lt_or_eq_of_le r.1 with h | h
  ·exact h
  ·exfalso
   have h2 := zd0 BW (Y.take (lb + 2)) (lb + 1) (by omega)
   rw [zb0 _ _ (by omega), ← h, Int.mul_zero, Int.add_zero, hvV] at h2
   have h3 := V_lt (b := (BW : Int)) (by decide) (zm2 hvR (lb + 1))
   rw [← h2, List.length_take, hvl, Nat.min_eq_left (by omega), ← Int.natCast_pow] at h3
   have h4 := Int.ofNat_lt.1 h3
   omega
 have hlt : V BW (U.drop ((wd BW x).length - (lb + 2) + 1)) < V BW (Y.take (lb + 2)) := by
  have hsp := zl3 BW U ((wd BW x).length - (lb + 2) + 1)
  rw [List.length_take, hUl, Nat.min_eq_left (by omega), hUV] at hsp
  have h1 := zn0 (b := (BW : Int)) (by decide) (zm2 hUR ((wd BW x).length - (lb + 2) + 1))
  have hxb : x < BW ^ (wd BW x).length := (zn (by decide) _).1 (Nat.le_refl _)
  rw [hvV]
  rcases Int.lt_or_le (V BW (U.drop ((wd BW x).length - (lb + 2) + 1))) ((y * 2 ^ s : Nat) : Int) with h | h
  ·exact h
  ·exfalso
   have hp := zo3 (b := (BW : Int)) (by decide) ((wd BW x).length - (lb + 2) + 1)
   have h2 := Int.mul_le_mul_of_nonneg_left h (Int.le_of_lt hp)
   have h3 : ((BW ^ ((wd BW x).length - (lb + 2) + 1) * (y * 2 ^ s) : Nat) : Int) ≤ ((x * 2 ^ s : Nat) : Int) := by
    rw [Int.natCast_mul, Int.natCast_pow]; omega
   have h4 := Int.ofNat_le.1 h3
   have h5 : BW ^ ((wd BW x).length - (lb + 2) + 1) * (BW ^ (lb + 1) * 2 ^ s) ≤ BW ^ ((wd BW x).length - (lb + 2) + 1) * (y * 2 ^ s) := Nat.mul_le_mul_left _ (Nat.mul_le_mul_right _ hge)
   rw [← Nat.mul_assoc, ← Nat.pow_add, show (wd BW x).length - (lb + 2) + 1 + (lb + 1) = (wd BW x).length by omega] at h5
   have h6 : x * 2 ^ s < BW ^ (wd BW x).length * 2 ^ s := Nat.mul_lt_mul_of_lt_of_le hxb (Nat.le_refl _) hps
   omega
 have hloop := divide_loop x y s (by omega) (Y.take (lb + 2)) lb (wd BW y) hlb hvR hvl (by omega) hv1 hvV hy ((wd BW x).length - (lb + 2) + 1) U (List.replicate ((wd BW x).length - (lb + 2) + 1) 0) hUR (zd4 (by decide) _) (by omega) (by omega) (by simp) (by simp; omega) hlt (by
  rw [List.drop_of_length_le (by simp), hUV]; simp [V])
 have w1 := Q0.mk (And.intro (show wrap64 (((wd BW y).length : Int) - 1) = ((lb + 1 : Nat) : Int) by rw [w64 (by omega) (by omega), hlb]; omega) (And.intro (zm3 (x := s) (by omega)) (And.intro (show wrap64 (((wd BW x).length : Int) - ((wd BW y).length : Int)) = (((wd BW x).length - (lb + 2) : Nat) : Int) by rw [w64 (by omega) (by omega), hlb]; omega) (show wrap64 ((((wd BW x).length - (lb + 2) : Nat) : Int) + 1) = (((wd BW x).length - (lb + 2) + 1 : Nat) : Int) by rw [w64 (by omega) (by omega)]; omega))))
 have a1 : (0 : Int) ≤ ((lb + 1 : Nat) : Int) := by omega
 have a2 : ((lb + 1 : Nat) : Int) < ((wd BW y).length : Int) := by omega
 have a3 : (0 : Int) ≤ ((wd BW y).length : Int) := by omega
 have a4 : ((wd BW y).length : Int) ≤ (Y.length : Int) := by omega
 have a5 : (0 : Int) ≤ (((wd BW x).length - (lb + 2) + 1 : Nat) : Int) := by omega
 have a6 : (wd BW x).length - (lb + 2) + 1 ≤ 35184372088832 := by omega
 refine Ev.congr (f := fun k => (bits_LeadingZeros64.f k (top : Int)).bind fun t277 => (nat_shifted.f k (wd BW x) (IntKind.u64.wrap t277)).bind fun t278 => (nat_shifted.f k (wd BW y) (IntKind.u64.wrap t277)).bind fun t281 => if ((wd BW y).length : Int) ≤ (t281.length : Int) then nat_divide.l0 k (wd BW y) (IntKind.u64.wrap t277) t278 (t281.take (((wd BW y).length : Int)).toNat) (List.replicate ((wd BW x).length - (lb + 2) + 1) 0) (((wd BW x).length - (lb + 2) : Nat) : Int) else none) (fun k => ?_) ?_
 ·unfold nat_divide.f
  rw [w1.out.1, if_pos a1, if_pos a2, ze0, htopd]
  rw [w1.out.2.2.1, w1.out.2.2.2]
  simp only [if_pos a3, if_pos a5, Int.toNat_natCast, if_pos a6]
 ·refine Ev.bind hlz ?_
  rw [w1.out.2.1]
  refine Ev.bind hU (Ev.bind hY ?_)
  refine Ev.congr (fun k => ?_) hloop
  rw [if_pos a4, Int.toNat_natCast, hlb, show (((wd BW x).length - (lb + 2) + 1 : Nat) : Int) - 1 = (((wd BW x).length - (lb + 2) : Nat) : Int) by omega]
def Kw (k : IntKind) (w : World) (v : Value) (l : List Int) : Prop := ∃ A c, v = .slice A l.length c ∧ l.length ≤ c ∧ Kd.C (Kd.int k) w A l.length l
abbrev Nw (w : World) (v : Value) (x : Nat) : Prop := Kw .u64 w v (wd BW x)
abbrev Dw (w : World) (v : Value) (x : Nat) : Prop := Kw .i64 w v (wd BD x)
theorem Kw.below {k : IntKind} {w w' : World} {v : Value} {l : List Int} (h : Kw k w v l) (hb : Below w.heap.size w w') : Kw k w' v l := by
 obtain ⟨A, c, rfl, hc, hC⟩ := h
 exact ⟨A, c, rfl, hc, Kd.zu hC hb⟩
theorem Kw.ofV {k : IntKind} {w : World} {e b : Nat} {ok : Nat → Prop} {v : Value} {l : List Int} (h : Kd.V (Kd.int k) e w b ok v l) : Kw k w v l := by
 obtain ⟨A, c, rfl, hl, hf⟩ := h
 exact ⟨A, c, rfl, hl, Kd.F_now hf⟩
theorem Kw.V {k : IntKind} {w : World} {v : Value} {l : List Int} (h : Kw k w v l) (e b : Nat) : Kd.V (Kd.int k) e w b (fun i => i < w.heap.size) v l := by
 obtain ⟨A, c, rfl, hc, hC⟩ := h
 exact ⟨A, c, rfl, hc, Kd.C_F (Kd.heap_int k) hC⟩
theorem Kw.nil (k : IntKind) (w : World) : Kw k w (.slice none 0 0) [] := ⟨none, 0, rfl, Nat.le_refl _, Kd.C_nil _ _⟩
abbrev Kf (k : IntKind) (n : Nat) (w : World) (v : Value) (l : List Int) : Prop := Kd.V (Kd.int k) 0 w 0 (fun i => n ≤ i) v l
abbrev Nf (n : Nat) (w : World) (v : Value) (x : Nat) : Prop := Kf .u64 n w v (wd BW x)
theorem Kf.kw {k : IntKind} {n : Nat} {w : World} {v : Value} {l : List Int} (h : Kf k n w v l) : Kw k w v l := Kw.ofV h
theorem Kf.ofR {k : IntKind} {w : World} {e b : Nat} {ok : Nat → Prop} {v : Value} {l : List Int} (h : Kd.R (Kd.int k) e w b ok v l) : Kf k b w v l := (Kd.R_V (base' := 0) (Kd.R_reok (ok := fun i => b ≤ i) rfl h (fun i hi => Kd.zr3 h i hi)) : Kd.V (Kd.int k) e w 0 (fun i => b ≤ i) v l)
theorem Kf.below {k : IntKind} {n : Nat} {w w' : World} {v : Value} {l : List Int} (h : Kf k n w v l) (hb : Below w.heap.size w w') : Kf k n w' v l := Kd.zl h hb
theorem Kf.put {k : IntKind} {n b : Nat} {w : World} {v : Value} {l : List Int} (h : Kf k n w v l) (hb : b < n) (u : Value) : Kf k n (w.setCell ⟨b, 0, none⟩ u) v l := Kd.zn1 (p := ⟨b, 0, none⟩) h (fun i hi he => by have : i = b := he; omega) u
theorem Kf.mono {k : IntKind} {n m : Nat} {w : World} {v : Value} {l : List Int} (h : Kf k n w v l) (hm : m ≤ n) : Kf k m w v l := Kd.VM_ h (fun i hi => Nat.le_trans hm hi)
theorem Kf.nil (k : IntKind) (n : Nat) (w : World) : Kf k n w (.slice none 0 0) [] := Kd.zg3 _ _ _ _ _
theorem Nf.zero (n : Nat) (w : World) : Nf n w (.slice none 0 0) 0 := by unfold Nf; rw [zo0]; exact Kf.nil _ _ _
theorem Nw.zero (w : World) : Nw w (.slice none 0 0) 0 := by unfold Nw; rw [zo0]; exact Kw.nil _ _
theorem Dw.zero (w : World) : Dw w (.slice none 0 0) 0 := by unfold Dw; rw [zo0]; exact Kw.nil _ _
def fitN (n : Nat) : Nat := if (wd BW n).length ≤ 64 then n else 0
theorem fitA_eq (n : Nat) : fitA n = wd BW (fitN n) := by
 unfold fitA fitN
 split
 ·rfl
 ·rw [zo0]
theorem from_c {w : World} {u : Value} {l : List Int} {n : Nat} (h1 : Kw .u64 w u l) (hR : R BW l) (hV : V BW l = n) (hl : l.length ≤ 1000000) : Calls Tryd.prog 16 #[u] w fun e w' => ∃ z, e = .returned (.tuple #[.agg #[z], .int .i64 (zw2 n)]) ∧ Nf w.heap.size w' z (fitN n) ∧ Below w.heap.size w w' := by
 obtain ⟨A1, c1, rfl, hc1, hC1⟩ := h1
 obtain ⟨k, hk⟩ := (from_ev l n hR hV (by omega)).rounds
 rw [fitA_eq] at hk
 refine (nat_From.calls k A1 c1 _ _ _ w hC1 hc1 hk).mono ?_
 rintro e w' ⟨v0, rfl, hV, hB⟩
 exact ⟨v0, rfl, hV, hB⟩
theorem bits_c {w : World} {u : Value} {x : Nat} (h1 : Nw w u x) (hx : (wd BW x).length ≤ 1000000) : Calls Tryd.prog 20 #[.agg #[u]] w fun e w' => e = .returned (.int .i64 (nb x : Int)) ∧ Below w.heap.size w w' := by
 obtain ⟨A1, c1, rfl, hc1, hC1⟩ := h1
 obtain ⟨k, hk⟩ := (nbits_ev x hx).rounds
 refine (nat_Nat_Bits.calls k A1 c1 _ _ w hC1 hc1 hk).mono ?_
 rintro e w' ⟨rfl, hB⟩
 exact ⟨rfl, hB⟩
theorem zy1 {w : World} {u : Value} {x : Nat} (h1 : Nw w u x) : Calls Tryd.prog 22 #[.agg #[u]] w fun e w' => e = .returned (.bool (decide (x = 0))) ∧ Below w.heap.size w w' := by
 obtain ⟨A1, c1, rfl, hc1, hC1⟩ := h1
 have hk : nat_Nat_Zero.f (wd BW x) = some (decide (x = 0)) := by
  unfold nat_Nat_Zero.f
  congr 1
  by_cases hn : x = 0
  ·subst hn; rw [zo0]; rfl
  ·have := wd_ne (b := BW) (n := x) (by decide) (by omega)
   rw [decide_eq_false hn]
   cases hw : wd BW x with
   | nil => exact absurd hw this
   | cons a l => simp; omega
 refine (nat_Nat_Zero.calls A1 c1 _ _ w hC1 hc1 hk).mono ?_
 rintro e w' ⟨rfl, hB⟩
 exact ⟨rfl, hB⟩
theorem cmp_c {w : World} {u : Value} {x : Nat} (h1 : Nw w u x) {v : Value} {y : Nat} (h2 : Nw w v y) (hx : (wd BW x).length ≤ 1000000) : Calls Tryd.prog 36 #[.agg #[u], .agg #[v]] w fun e w' => e = .returned (.int .i64 (zv1 x y)) ∧ Below w.heap.size w w' := by
 obtain ⟨A1, c1, rfl, hc1, hC1⟩ := h1
 obtain ⟨A2, c2, rfl, hc2, hC2⟩ := h2
 obtain ⟨k, hk⟩ := (ncmp_ev x y hx).rounds
 refine (nat_Nat_Cmp.calls k A1 c1 _ A2 c2 _ _ w hC1 hc1 hC2 hc2 hk).mono ?_
 rintro e w' ⟨rfl, hB⟩
 exact ⟨rfl, hB⟩
theorem add_c {w : World} {u : Value} {x : Nat} (h1 : Nw w u x) {v : Value} {y : Nat} (h2 : Nw w v y) (hx : (wd BW x).length ≤ 64) (hy : (wd BW y).length ≤ 64) : Calls Tryd.prog 32 #[.agg #[u], .agg #[v]] w fun e w' => ∃ z, e = .returned (.tuple #[.agg #[z], .int .i64 (zw2 (x + y))]) ∧ Nf w.heap.size w' z (fitN (x + y)) ∧ Below w.heap.size w w' := by
 obtain ⟨A1, c1, rfl, hc1, hC1⟩ := h1
 obtain ⟨A2, c2, rfl, hc2, hC2⟩ := h2
 obtain ⟨k, hk⟩ := (add_ev x y (by omega) (by omega)).rounds
 rw [fitA_eq] at hk
 refine (nat_Nat_Add.calls k A1 c1 _ A2 c2 _ _ _ w hC1 hc1 hC2 hc2 hk).mono ?_
 rintro e w' ⟨v0, rfl, hV, hB⟩
 exact ⟨v0, rfl, hV, hB⟩
theorem mul_c {w : World} {u : Value} {x : Nat} (h1 : Nw w u x) {v : Value} {y : Nat} (h2 : Nw w v y) (hx : (wd BW x).length ≤ 64) (hy : (wd BW y).length ≤ 64) : Calls Tryd.prog 33 #[.agg #[u], .agg #[v]] w fun e w' => ∃ z, e = .returned (.tuple #[.agg #[z], .int .i64 (zw2 (x * y))]) ∧ Nf w.heap.size w' z (fitN (x * y)) ∧ Below w.heap.size w w' := by
 obtain ⟨A1, c1, rfl, hc1, hC1⟩ := h1
 obtain ⟨A2, c2, rfl, hc2, hC2⟩ := h2
 obtain ⟨k, hk⟩ := (nmul_ev x y (by omega) (by omega)).rounds
 rw [fitA_eq] at hk
 refine (nat_Nat_Mul.calls k A1 c1 _ A2 c2 _ _ _ w hC1 hc1 hC2 hc2 hk).mono ?_
 rintro e w' ⟨v0, rfl, hV, hB⟩
 exact ⟨v0, rfl, hV, hB⟩
theorem sub_c {w : World} {u : Value} {x : Nat} (h1 : Nw w u x) {v : Value} {y : Nat} (h2 : Nw w v y) (hx : (wd BW x).length ≤ 1000000) : Calls Tryd.prog 38 #[.agg #[u], .agg #[v]] w fun e w' => ∃ z, e = .returned (.tuple #[.agg #[z], .int .i64 (if x < y then 2 else 0)]) ∧ Nf w.heap.size w' z (x - y) ∧ Below w.heap.size w w' := by
 obtain ⟨A1, c1, rfl, hc1, hC1⟩ := h1
 obtain ⟨A2, c2, rfl, hc2, hC2⟩ := h2
 obtain ⟨k, hk⟩ := (sub_ev x y hx).rounds
 have e0 : (if x < y then (([] : List Int), (2 : Int)) else (wd BW (x - y), 0)) = (wd BW (x - y), if x < y then 2 else 0) := by
  by_cases hh : x < y
  ·rw [if_pos hh, if_pos hh, show x - y = 0 by omega, zo0]
  ·rw [if_neg hh, if_neg hh]
 rw [e0] at hk
 refine (nat_Nat_Sub.calls k A1 c1 _ A2 c2 _ _ _ w hC1 hc1 hC2 hc2 hk).mono ?_
 rintro e w' ⟨v0, rfl, hV, hB⟩
 exact ⟨v0, rfl, hV, hB⟩
theorem of_c {w : World} (x : Nat) (hx : x < BW) : Calls Tryd.prog 55 #[.int .u64 (x : Int)] w fun e w' => ∃ z, e = .returned (.agg #[z]) ∧ Nf w.heap.size w' z x ∧ Below w.heap.size w w' := by
 obtain ⟨k, hk⟩ := (of_ev x hx).rounds
 refine (nat_Of.calls k _ _ w hk).mono ?_
 rintro e w' ⟨v0, rfl, hV, hB⟩
 exact ⟨v0, rfl, hV, hB⟩
theorem norm_c {w : World} {n0 : Nat} (hn0 : n0 ≤ w.heap.size) {u : Value} {l : List Int} {n : Nat} (h1 : Kf .u64 n0 w u l) (hR : R BW l) (hV : V BW l = n) (hl : l.length ≤ 1000000) : Calls Tryd.prog 68 #[u] w fun e w' => ∃ z, e = .returned (.agg #[z]) ∧ Nf n0 w' z n ∧ Below w.heap.size w w' := by
 obtain ⟨k, hk⟩ := (ze3 l (by omega)).rounds
 rw [zf1 (n := n) (by decide) hR hV] at hk
 obtain ⟨A1, c1, rfl⟩ := Kd.zo h1
 refine (nat_norm.calls k (fun i => n0 ≤ i) A1 c1 _ _ w h1 hk).mono ?_
 rintro e w' ⟨v0, rfl, hV, hB⟩
 exact ⟨v0, rfl, Kd.VM_ hV (fun i hi => hi.elim id (fun h => Nat.le_trans hn0 h)), hB⟩
theorem divs_c {w : World} {u : Value} {x : Nat} (h1 : Nw w u x) (hx : (wd BW x).length ≤ 1000000) (y : Nat) (hy0 : 0 < y) (hy : y < BW) : Calls Tryd.prog 67 #[u, .int .u64 (y : Int)] w fun e w' => ∃ z q, e = .returned (.tuple #[z, .int .u64 ((x % y : Nat) : Int)]) ∧ Kf .u64 w.heap.size w' z q ∧ R BW q ∧ q.length = (wd BW x).length ∧ V BW q = ((x / y : Nat) : Int) ∧ Below w.heap.size w w' := by
 obtain ⟨A1, c1, rfl, hc1, hC1⟩ := h1
 obtain ⟨q, hE, hR, hl, hV⟩ := divSmall_ev x y hy0 hy hx
 obtain ⟨k, hk⟩ := hE.rounds
 refine (nat_divSmall.calls k A1 c1 _ _ _ _ w hC1 hc1 hk).mono ?_
 rintro e w' ⟨v0, rfl, hK, hB⟩
 exact ⟨v0, q, rfl, Kf.ofR hK, hR, hl, hV, hB⟩
theorem divide_c {w : World} {u : Value} {x : Nat} (h1 : Nw w u x) {v : Value} {y : Nat} (h2 : Nw w v y) (hxy : y ≤ x) (hyl : 2 ≤ (wd BW y).length) (hxl : (wd BW x).length ≤ 100000) : Calls Tryd.prog 83 #[u, v] w fun e w' => ∃ z z', e = .returned (.tuple #[.agg #[z], .agg #[z']]) ∧ Nf w.heap.size w' z (x / y) ∧ Nf w.heap.size w' z' (x % y) ∧ Below w.heap.size w w' := by
 obtain ⟨A1, c1, rfl, hc1, hC1⟩ := h1
 obtain ⟨A2, c2, rfl, hc2, hC2⟩ := h2
 obtain ⟨k, hk⟩ := (divide_ev x y hxy hyl hxl).rounds
 refine (nat_divide.calls k A1 c1 _ A2 c2 _ _ _ w hC1 hc1 hC2 hc2 hk).mono ?_
 rintro e w' ⟨v0, v1, rfl, hV, hV1, hB⟩
 exact ⟨v0, v1, rfl, hV, hV1, hB⟩
theorem shifted_c {w : World} {u : Value} {l : List Int} (h1 : Kw .u64 w u l) (n : Nat) (hn : n < 64) (hR : R BW l) (hl : l.length ≤ 1000000) : Calls Tryd.prog 76 #[u, .int .u64 (n : Int)] w fun e w' => ∃ z r, e = .returned z ∧ Kf .u64 w.heap.size w' z r ∧ R BW r ∧ V BW r = V BW l * ((2 ^ n : Nat) : Int) ∧ r.length = l.length + 1 ∧ Below w.heap.size w w' := by
 obtain ⟨A1, c1, rfl, hc1, hC1⟩ := h1
 obtain ⟨r, hE, h3, h4, h5⟩ := shifted_ev l n hn hR (by omega)
 obtain ⟨k, hk⟩ := hE.rounds
 refine (nat_shifted.calls k A1 c1 _ _ _ w hC1 hc1 hk).mono ?_
 rintro e w' ⟨v0, rfl, hV, hB⟩
 exact ⟨v0, r, rfl, Kf.ofR hV, h3, h4, h5, hB⟩
theorem rshl_c {w : World} {u : Value} {x : Nat} (h1 : Dw w u x) (hx : (wd BD x).length ≤ 1000000) (n : Nat) (hn : n ≤ 1000000) : Calls Tryd.prog 30 #[u, .int .i64 (n : Int)] w fun e w' => ∃ z, e = .returned (z) ∧ Dw w' z (x * 2 ^ n) ∧ Below w.heap.size w w' := by
 obtain ⟨A1, c1, rfl, hc1, hC1⟩ := h1
 obtain ⟨k, hk⟩ := (rshl_ev x n hn hx).rounds
 refine (chaffref01_Shl.calls k A1 c1 _ _ _ w hC1 hc1 hk).mono ?_
 rintro e w' ⟨v0, rfl, hV, hB⟩
 exact ⟨v0, rfl, Kw.ofV hV, hB⟩
theorem radd_c {w : World} {u : Value} {x : Nat} (h1 : Dw w u x) {v : Value} {y : Nat} (h2 : Dw w v y) (hx : (wd BD x).length ≤ 1000000) (hy : (wd BD y).length ≤ 1000000) : Calls Tryd.prog 34 #[u, v] w fun e w' => ∃ z, e = .returned (z) ∧ Dw w' z (x + y) ∧ Below w.heap.size w w' := by
 obtain ⟨A1, c1, rfl, hc1, hC1⟩ := h1
 obtain ⟨A2, c2, rfl, hc2, hC2⟩ := h2
 obtain ⟨k, hk⟩ := (radd_ev x y hx hy).rounds
 refine (chaffref01_Add.calls k A1 c1 _ A2 c2 _ _ w hC1 hc1 hC2 hc2 hk).mono ?_
 rintro e w' ⟨v0, rfl, hV, hB⟩
 exact ⟨v0, rfl, Kw.ofV hV, hB⟩
theorem rmul_c {w : World} {u : Value} {x : Nat} (h1 : Dw w u x) {v : Value} {y : Nat} (h2 : Dw w v y) (hx : (wd BD x).length ≤ 1000000) (hy : (wd BD y).length ≤ 1000000) : Calls Tryd.prog 35 #[u, v] w fun e w' => ∃ z, e = .returned (z) ∧ Dw w' z (x * y) ∧ Below w.heap.size w w' := by
 obtain ⟨A1, c1, rfl, hc1, hC1⟩ := h1
 obtain ⟨A2, c2, rfl, hc2, hC2⟩ := h2
 obtain ⟨k, hk⟩ := (rmul_ev x y hx hy).rounds
 refine (chaffref01_Mul.calls k A1 c1 _ A2 c2 _ _ w hC1 hc1 hC2 hc2 hk).mono ?_
 rintro e w' ⟨v0, rfl, hV, hB⟩
 exact ⟨v0, rfl, Kw.ofV hV, hB⟩
theorem rcmp_c {w : World} {u : Value} {x : Nat} (h1 : Dw w u x) {v : Value} {y : Nat} (h2 : Dw w v y) (hx : (wd BD x).length ≤ 1000000) : Calls Tryd.prog 37 #[u, v] w fun e w' => e = .returned (.int .i64 (zv1 x y)) ∧ Below w.heap.size w w' := by
 obtain ⟨A1, c1, rfl, hc1, hC1⟩ := h1
 obtain ⟨A2, c2, rfl, hc2, hC2⟩ := h2
 obtain ⟨k, hk⟩ := (rcmp_ev2 x y (by omega)).rounds
 refine (chaffref01_Cmp.calls k A1 c1 _ A2 c2 _ _ w hC1 hc1 hC2 hc2 hk).mono ?_
 rintro e w' ⟨rfl, hD⟩
 exact ⟨rfl, hD.below⟩
theorem is_c {w : World} {u : Value} {x : Nat} (h1 : Nw w u x) {v : Value} {y : Nat} (h2 : Dw w v y) (hx : (wd BW x).length ≤ 250000) : Calls Tryd.prog 27 #[.agg #[u], v] w fun e w' => e = .returned (.bool (decide (x = y))) ∧ Below w.heap.size w w' := by
 obtain ⟨A1, c1, rfl, hc1, hC1⟩ := h1
 obtain ⟨A2, c2, rfl, hc2, hC2⟩ := h2
 obtain ⟨k, hk⟩ := (is_ev x y hx).rounds
 refine (chafflaw01_Is.calls k A1 c1 _ A2 c2 _ _ w hC1 hc1 hC2 hc2 hk).mono ?_
 rintro e w' ⟨rfl, hB⟩
 exact ⟨rfl, hB⟩
abbrev Tab (w : World) : Prop := Lib.TabIs Tryd.prog w "internal/strconv.uint64pow10" .u64 Lib.pow10Tab
theorem fmtsmall_c {w : World} (u : Nat) (hu : u < 100) :
  Calls Tryd.prog 99 #[.int .u64 (u : Int), .int .i64 10] w fun e w' => e = .returned (.string (zx1 u)) ∧ Below w.heap.size w w' := by
 have hd : decide ((u : Int) < 100) = true := decide_eq_true (by omega)
 have hwr := Q0.mk (w64 (x := (u : Int)) (by omega) (by omega))
 have hwi : IntKind.i64.wrap (u : Int) = (u : Int) := by rw [IntKind.wrap_i64]; omega
 go_enter Tryd.func99, Tryd.ntmps99
 go_wp2_with fail
 refine (Tryd.internal_strconv_small u hu _).mono ?_
 rintro e w' ⟨rfl, rfl⟩
 go_wp2
 go_ret
 exact ⟨rfl, Below.refl _ _⟩
theorem fmtbig_c {w : World} (u : Nat) (hu : ¬ u < 100) (hu64 : u < 18446744073709551616) (htab : Tab w) :
  Calls Tryd.prog 99 #[.int .u64 (u : Int), .int .i64 10] w fun e w' => e = .returned (.string (zx1 u)) ∧ Below w.heap.size w w' := by
 have hd : decide ((u : Int) < 100) = false := decide_eq_false (by omega)
 have hu1 : 1 ≤ u := by omega
 have hnd20 : Lib.nDigits u ≤ 20 := by have := Lib.numDigits_eq u hu1 hu64; split at this <;> omega
 go_enter Tryd.func99, Tryd.ntmps99
 go_wp2_with fail
 have hH0 := Lib.holds_zero0 w 150 (Lib.nDigits u) (by omega)
 have hfmt := Tryd.internal_strconv_formatBase10 w.heap.size 0 24 u (Array.replicate (Lib.nDigits u) 0) (w.alloc (.cells Lib.zeros24 150)) hH0 (by rw [Array.size_replicate]; exact Lib.lt_pow_nDigits u) hu64 (by rw [Array.size_replicate]; omega)
 rw [Array.size_replicate] at hfmt
 have HH0 := Q0.mk hH0
 have HF := Q0.mk hfmt
 clear hH0 hfmt
 have hal : Tryd.prog.arrayLen 150 = 24 := by kernel_rfl
 have hsl : ∀ W, (Instr.sliceAt 150 (.pointer (some ⟨w.heap.size, 0, none⟩)) none (some (.int .i64 (Lib.nDigits u : Int))) none).run Tryd.prog W = .ok (.slice (some ⟨w.heap.size, 0, none⟩) (Lib.nDigits u) 24) W := fun W => by
  rw [run_sliceAt_array_h W 150 ⟨w.heap.size, 0, none⟩ (by kernel_rfl) .i64 (Lib.nDigits u : Int) (by omega) (by rw [hal]; omega)]
  go_simp
 clear hal
 refine (Tryd.internal_strconv_numDigits u hu1 hu64 _ (Lib.tabIs_alloc htab _)).mono ?_
 rintro e w' ⟨rfl, rfl⟩
 go_wp2_with fail
 refine (HF.out).mono ?_
 rintro e w' ⟨rfl, k, v', dk, rfl, hF⟩
 have hcv : (convert 104 9 (.slice (some ⟨w.heap.size, 0, none⟩) (Lib.nDigits u) 24)).run Tryd.prog ((«Sort».putRow (fun (b : UInt8) => Value.int .u8 (b.toNat : Int)) (w.alloc (.cells Lib.zeros24 150)) w.heap.size 0 dk).drewN k) = .ok (.string ⟨(Lib.decDigits u).toArray⟩) ((«Sort».putRow (fun (b : UInt8) => Value.int .u8 (b.toNat : Int)) (w.alloc (.cells Lib.zeros24 150)) w.heap.size 0 dk).drewN k) := by
  have h := run_convert_bytes_back (P := Tryd.prog) ((«Sort».putRow (fun (b : UInt8) => Value.int .u8 (b.toNat : Int)) (w.alloc (.cells Lib.zeros24 150)) w.heap.size 0 dk).drewN k) 104 9 5 ⟨w.heap.size, 0, none⟩ 24 (Lib.decDigits u) Tryd.underlying104 Tryd.underlying5 Tryd.underlying9 (fun j hj => by
   rw [Lib.row_is_numeral hF j hj, Lib.add_plain, World.cell?_drewN]
   exact «Sort».cell?_putRow (fun (b : UInt8) => Value.int .u8 (b.toNat : Int)) _ w.heap.size 0 _ dk HH0.out (by rw [hF.size, Array.size_replicate]) j (by rw [hF.size]; rw [Lib.decDigits_length] at hj; exact hj))
  rw [Lib.decDigits_length] at h
  exact h
 generalize hW : («Sort».putRow (fun (b : UInt8) => Value.int .u8 (b.toNat : Int)) (w.alloc (.cells Lib.zeros24 150)) w.heap.size 0 dk).drewN k = W at hcv ⊢
 go_wp2
 go_ret
 subst hW
 obtain ⟨os, eo⟩ : ∃ os, («Sort».putRow (fun (b : UInt8) => Value.int .u8 (b.toNat : Int)) (w.alloc (.cells Lib.zeros24 150)) w.heap.size 0 dk).drewN k = «Sort».grow (w.drewN k) os := by
  rw [«Sort».alloc_eq_grow]
  obtain ⟨os', _, e⟩ := «Sort».putRow_grow_new (fun (b : UInt8) => Value.int .u8 (b.toNat : Int)) w #[.cells Lib.zeros24 150] w.heap.size 0 dk (Nat.le_refl _)
  exact ⟨os', by rw [e]; rfl⟩
 refine ⟨rfl, ?_⟩
 rw [eo]
 exact Lib.below_grow _ w (Nat.le_refl _) k os
theorem fmt_c {w : World} (u : Nat) (hu64 : u < 18446744073709551616) (htab : Tab w) :
  Calls Tryd.prog 69 #[.int .u64 (u : Int), .int .i64 10] w fun e w' => e = .returned (.string (zx1 u)) ∧ Below w.heap.size w w' := by
 have K : Calls Tryd.prog 99 #[.int .u64 (u : Int), .int .i64 10] w fun e w' => e = .returned (.string (zx1 u)) ∧ Below w.heap.size w w' := by
  by_cases h : u < 100
  ·exact fmtsmall_c u h
  ·exact fmtbig_c u h hu64 htab
 go_enter Tryd.func69, Tryd.ntmps69
 go_wp2_with fail
 refine K.mono ?_
 rintro e w' ⟨rfl, hb⟩
 go_wp2
 go_ret
 exact ⟨rfl, hb⟩
end Go.Proofs.YtgkdealidnidiaaDoor.Na
namespace Go.Proofs.YtgkdealidnidiaaDoor.Na
def padK : Nat → Nat → List UInt8
 | 0, _ => []
 | k + 1, r => padK k (r / 10) ++ [UInt8.ofNat (48 + r % 10)]
theorem padK_len : ∀ k r, (padK k r).length = k
 | 0, _ => rfl
 | k + 1, r => by rw [padK, List.length_append, padK_len k]; rfl
theorem padK_zero : ∀ k, padK k 0 = List.replicate k 48
 | 0 => rfl
 | k + 1 => by rw [padK, Nat.zero_div, padK_zero k, List.replicate_succ', Nat.zero_mod]; rfl
theorem dec_split : ∀ (k q r : Nat), 0 < q → r < 10 ^ k → Lib.decDigits (q * 10 ^ k + r) = Lib.decDigits q ++ padK k r
 | 0, q, r, hq, hr => by
  obtain rfl : r = 0 := by rw [Nat.pow_zero] at hr; omega
  simp [padK]
 | k + 1, q, r, hq, hr => by
  have hp : 10 ^ (k + 1) = 10 ^ k * 10 := Nat.pow_succ ..
  rw [hp] at hr ⊢
  have h1 : (q * (10 ^ k * 10) + r) / 10 = q * 10 ^ k + r / 10 := by
   rw [← Nat.mul_assoc, Nat.mul_comm _ 10, Nat.mul_add_div (by decide)]
  have h2 : (q * (10 ^ k * 10) + r) % 10 = r % 10 := by
   rw [← Nat.mul_assoc, Nat.mul_comm _ 10, Nat.mul_add_mod]
  have hpos : 0 < 10 ^ k := Nat.pow_pos (by decide)
  have hge : 1 * 10 ^ k ≤ q * 10 ^ k := Nat.mul_le_mul_right _ hq
  have h3 : ¬ q * (10 ^ k * 10) + r < 10 := by
   rw [← Nat.mul_assoc]; omega
  rw [Lib.decDigits, dif_neg h3, h1, h2, dec_split k q (r / 10) hq (by omega), padK, List.append_assoc]
theorem padK_dec : ∀ (k r : Nat), r < 10 ^ (k + 1) → padK (k + 1) r = List.replicate (k + 1 - (Lib.decDigits r).length) 48 ++ Lib.decDigits r
 | 0, r, hr => by
  have h : r < 10 := by simpa using hr
  rw [Lib.decDigits_one h, padK, padK, Nat.mod_eq_of_lt h]; rfl
 | k + 1, r, hr => by
  by_cases h : r < 10
  ·rw [Lib.decDigits_one h, padK, Nat.div_eq_of_lt h, padK_zero, Nat.mod_eq_of_lt h]; rfl
  ·have hd : r / 10 < 10 ^ (k + 1) := by rw [Nat.pow_succ] at hr; omega
   have e : Lib.decDigits r = Lib.decDigits (r / 10) ++ [UInt8.ofNat (48 + r % 10)] := by
    rw [Lib.decDigits, dif_neg h]
   rw [padK, padK_dec k (r / 10) hd, e, List.length_append, List.length_singleton, List.append_assoc]
   congr 2
   omega
theorem dec_len_le (k r : Nat) (hr : r < 10 ^ (k + 1)) : (Lib.decDigits r).length ≤ k + 1 := by
 have h := congrArg List.length (padK_dec k r hr)
 rw [padK_len, List.length_append, List.length_replicate] at h
 omega
def D19 : Nat := 10000000000000000000
theorem D19_eq : D19 = 10 ^ (18 + 1) := by decide
theorem div19_lt {n : Nat} (h : ¬ n = 0) : n / D19 < n := Nat.div_lt_self (by omega) (by decide)
def part (n : Nat) : List UInt8 := if n / D19 = 0 then Lib.decDigits (n % D19) else List.replicate (19 - (Lib.decDigits (n % D19)).length) 48 ++ Lib.decDigits (n % D19)
def partsOf (n : Nat) : List (List UInt8) := if h : n = 0 then [] else part n :: partsOf (n / D19)
termination_by n
decreasing_by exact div19_lt h
theorem zc3 : partsOf 0 = [] := by rw [partsOf, dif_pos rfl]
theorem zd3 {n : Nat} (h : 0 < n) : partsOf n = part n :: partsOf (n / D19) := by rw [partsOf, dif_neg (by omega)]
theorem parts_text : ∀ (k n : Nat), n < k → 0 < n → (partsOf n).reverse.flatten = Lib.decDigits n
 | 0, n, h, _ => by omega
 | k + 1, n, h, h0 => by
  rw [zd3 h0, List.reverse_cons, List.flatten_append]
  have e1 : ([part n] : List (List UInt8)).flatten = part n := by simp
  rw [e1]
  unfold part
  by_cases hq : n / D19 = 0
  ·rw [if_pos hq, hq, zc3]
   have : n < D19 := (Nat.div_eq_zero_iff.1 hq).resolve_left (by decide)
   rw [Nat.mod_eq_of_lt this]; simp
  ·have hlt := div19_lt (n := n) (by omega)
   rw [if_neg hq, parts_text k (n / D19) (Nat.lt_of_lt_of_le hlt (by omega)) (Nat.pos_of_ne_zero hq)]
   have hm : n % D19 < 10 ^ (18 + 1) := by rw [← D19_eq]; exact Nat.mod_lt _ (by decide)
   rw [← padK_dec 18 _ hm, ← dec_split (18 + 1) (n / D19) (n % D19) (Nat.pos_of_ne_zero hq) hm, ← D19_eq]
   congr 1
   have := Nat.div_add_mod n D19
   rw [Nat.mul_comm]; exact this
theorem parts_dec {n : Nat} (h : 0 < n) : (partsOf n).reverse.flatten = Lib.decDigits n := parts_text (n + 1) n (by omega) h
theorem parts_len : ∀ (k n : Nat), n < 2 ^ k → (partsOf n).length ≤ k
 | 0, n, h => by
  obtain rfl : n = 0 := by simpa using h
  rw [zc3]; exact Nat.le_refl _
 | k + 1, n, h => by
  rcases Nat.eq_zero_or_pos n with h0 | h0
  ·subst h0; rw [zc3]; exact Nat.zero_le _
  ·rw [zd3 h0, List.length_cons]
   have : n / D19 < 2 ^ k := by
    have h1 : n / D19 ≤ n / 2 := Nat.div_le_div_left (by decide) (by decide)
    rw [Nat.pow_succ] at h; omega
   have := parts_len k (n / D19) this
   omega
theorem join_flat (xs : List (List UInt8)) : Lib.join xs [] = xs.flatten := by
 unfold Lib.join List.intercalate
 induction xs with
 | nil => rfl
 | cons a t ih =>
  cases t with
  | nil => rfl
  | cons b r => simp only [List.intersperse, List.flatten_cons, List.nil_append] at ih ⊢; rw [ih]
end Go.Proofs.YtgkdealidnidiaaDoor.Na
namespace Go.Proofs.YtgkdealidnidiaaDoor.Cel
open Go.RowKit
section
variable {P : Program}
theorem end_cell {fn : Func} {p u : Tmp} {ty : TypeId} {d : TypeDesc} (h : fn.results = #[.cell p ty, .tmp u]) (tmps : Array Value) (U : World) (b : Nat) (cells old : Array Value) (hZ : U.heap[b]? = some (.cells old ty (0, 0)))
  (hp : tmps.getD p undef = .pointer (some ⟨b, 0, none⟩)) (hu : P.underlying ty = some d) (hd : (match d with | .struct _ | .array _ _ => true | _ => false) = true) (hi : (P.info? ty).map (·.size) = some cells.size) :
  (results fn tmps).run P (U.setRow b cells) = .ok (.tuple #[.agg cells, tmps.getD u undef]) (U.setRow b cells) := by
 have hR := setRow_heap U b old cells ty (0, 0) hZ
 rw [results_cell_tmp h, hp]
 simp [asAddr, run_loadVar_row _ _ ty ty _ (0, 0) _ hR hu hd hi]
theorem lW {ops : Array Oper} {rest : List Oper} {o : Oper} {a : Act} {w : World} {Q : Exit → Act → World → Prop} (hw : Region.wanted o (yielded ops a.tmps) = true) (ty : TypeId) (x : Operand) (ho : o.op = .load ty x)
  (g : Nat) (hx : a.eval x = .pointer (some ⟨g, 0, none⟩)) (t : TypeId) (cs : Array Value) (fr : Nat × Nat) (d : TypeDesc) (hg : w.heap[g]? = some (.cells cs t fr))
  (hu : P.underlying ty = some d) (hd : (match d with | .struct _ | .array _ _ => true | _ => false) = true) (hi : (P.info? ty).map (·.size) = some cs.size)
  (h : wpList P ops Q rest (a.put o.dst (.agg cs)) w) : wpList P ops Q (o :: rest) a w :=
 wpList_step fun _ hK => by rw [if_pos hw]; exact wp_load_row ty x ho g hx t cs fr d hg hu hd hi (hK _ _ h)
theorem wp_store_none {o : Oper} {a : Act} {w : World} {K : Act → World → Prop} {Q : Exit → Act → World → Prop} (hn : o.dst = none) (ty : TypeId) (x y : Operand) (ho : o.op = .store ty x y)
  (g : Nat) (cells : Array Value) (hx : a.eval x = .pointer (some ⟨g, 0, none⟩)) (hy : a.eval y = .agg cells)
  (t : TypeId) (old : Array Value) (hg : w.heap[g]? = some (.cells old t (0, 0))) (hi : (P.info? ty).map (·.size) = some cells.size)
  (hold : old.size = cells.size) (h1 : cells.all (·.oneCell') = true) (h : K a (w.setRow g cells)) : o.wp P a w K Q :=
 wp_store_row ty x y ho g cells hx hy t old hg hi hold h1 (by rw [hn]; exact h)
end
end Go.Proofs.YtgkdealidnidiaaDoor.Cel
namespace Go.Proofs.YtgkdealidnidiaaDoor.Na
open Go.RowKit Go.Proofs.YtgkdealidnidiaaDoorW.PrintWords Go.Proofs.YtgkdealidnidiaaDoorW.PrintLast Go.Proofs.YtgkdealidnidiaaDoorW.PrintMore Go.Proofs.YtgkdealidnidiaaDoor.Dg
theorem Tab.below {w w' : World} (h : Tab w) (hb : Below w.heap.size w w') : Tab w' := by
 unfold Tab Lib.TabIs World.var? at *
 cases hg : Tryd.prog.globalNamed "internal/strconv.uint64pow10" with
 | none => simp [hg] at h
 | some g =>
  simp only [hg, Option.bind_some] at h ⊢
  have hlt : g < w.heap.size := by
   rcases Nat.lt_or_ge g w.heap.size with h' | h'
   ·exact h'
   ·rw [Array.getElem?_eq_none h'] at h; simp at h
  rw [hb.block g hlt]; exact h
def bs (l : List UInt8) : ByteArray := ⟨l.toArray⟩
theorem bs_data (l : List UInt8) : (bs l).data.toList = l := by simp [bs]
theorem bs_size (l : List UInt8) : (bs l).size = l.length := by simp [bs, ByteArray.size]
theorem bs_dec (n : Nat) : bs (Lib.decDigits n) = zx1 n := rfl
theorem map_bs (zs : List (List UInt8)) : zs.map Proofs.encStr = (zs.map bs).map Value.string := by
 simp [List.map_map, bs, Function.comp_def]
theorem turn_c {w0 w : World} {N : Nat} {v : Value} {zs : List (List UInt8)} (h : w.ownsRow N 9 1 v zs.length (zs.map Proofs.encStr)) (hne : v ≠ .slice none 0 0) (hB : Below N w0 w) :
  Calls Tryd.prog 71 #[v] w fun e w' => e = .returned (.tuple #[]) ∧ w'.ownsRow N 9 1 v zs.length (zs.reverse.map Proofs.encStr) ∧ Below N w0 w' := by
 obtain ⟨g, cap, rfl, hbg, hgl, hnc, hcm, hlen, hH⟩ := Lib.holds_of_ownsRow h hne
 refine (Tryd.slices_Reverse_string g 0 cap zs w hH (by unfold maxLen at hcm; omega)).mono ?_
 rintro e w' ⟨rfl, n, rfl⟩
 have h1 := Lib.ownsRow_putRow (q := n) (ys := zs.reverse) h (by simp) (Nat.le_refl _)
 rw [List.take_of_length_le (by simp)] at h1
 exact ⟨rfl, h1, Lib.below_putRow hB hbg⟩
theorem join_c {w : World} {N : Nat} {v : Value} {zs : List (List UInt8)} (h : w.ownsRow N 9 1 v zs.length (zs.map Proofs.encStr)) (hne : v ≠ .slice none 0 0) (hl : zs.flatten.length ≤ 140737488355328) (hz : zs.length ≤ 140737488355328) :
  Calls Tryd.prog 72 #[v, .string ⟨#[]⟩] w fun e w' => e = .returned (.string (bs zs.flatten)) ∧ Below w.heap.size w w' := by
 obtain ⟨g, cap, rfl, hbg, hgl, hnc, hcm, hlen, hH⟩ := Lib.holds_of_ownsRow h hne
 have e1 : (zs.map bs).map (·.data.toList) = zs := by simp [List.map_map, Function.comp_def, bs]
 have H := Tryd.strings_Join g 0 cap (zs.map bs) ⟨#[]⟩ w (fun j x hj => by
  have hj' : j < zs.length := by
   rcases Nat.lt_or_ge j zs.length with h' | h'
   ·exact h'
   ·rw [List.getElem?_eq_none (by simpa using h')] at hj; cases hj
  have := (hH j (by simpa using hj')).1
  rw [this]
  rw [List.getElem?_map, List.getElem?_eq_getElem hj'] at hj
  obtain rfl := Option.some.inj hj
  simp [hj', bs]) hgl (by simpa using hz) (by simpa using hnc) (by rw [e1, join_flat]; exact hl)
 rw [e1, join_flat, List.length_map] at H
 exact H
theorem rep0_c {w : World} (c : Nat) (hc : c ≤ 19) :
  Calls Tryd.prog 70 #[.string ⟨#[48]⟩, .int .i64 (c : Int)] w fun e w' => e = .returned (.string (bs (List.replicate c 48))) ∧ Below w.heap.size w w' := by
 have H := Tryd.strings_Repeat ⟨#[48]⟩ c w (by omega) (by show 1 * c ≤ _; omega)
 refine H.mono ?_
 rintro e w' ⟨rfl, hb⟩
 refine ⟨?_, hb⟩
 have := Lib.repeatL_replicate 48 1 c
 simp only [List.replicate_one, Nat.mul_one] at this
 simp only [bs]
 rw [this]
theorem divs19_c {w : World} {u : Value} {x : Nat} (h1 : Nw w u x) (hx : (wd BW x).length ≤ 1000000) : Calls Tryd.prog 67 #[u, .int .u64 10000000000000000000] w fun e w' => ∃ z q, e = .returned (.tuple #[z, .int .u64 ((x % D19 : Nat) : Int)]) ∧ Kf .u64 w.heap.size w' z q ∧ R BW q ∧ q.length = (wd BW x).length ∧ V BW q = ((x / D19 : Nat) : Int) ∧ Below w.heap.size w w' :=
 divs_c h1 hx D19 (by decide) (by decide)
theorem part_eq (n : Nat) : bs (part n) = if n / D19 = 0 then zx1 (n % D19) else bs (List.replicate (19 - (zx1 (n % D19)).size) 48) ++ zx1 (n % D19) := by
 have hs : (zx1 (n % D19)).size = (Lib.decDigits (n % D19)).length := bs_size _
 unfold part
 split
 ·rfl
 ·apply ba_ext
  rw [ba_append, bs_data, bs_data, decS_data, hs]
theorem dec19 (n : Nat) : (zx1 (n % D19)).size ≤ 19 := by
 have hm : n % D19 < 10 ^ (18 + 1) := by rw [← D19_eq]; exact Nat.mod_lt _ (by decide)
 have := dec_len_le 18 _ hm
 rw [show (zx1 (n % D19)).size = (Lib.decDigits (n % D19)).length from bs_size _]
 exact this
theorem infoS : (Tryd.prog.info? 9).map (fun i => (i.zero, i.size, i.bytes)) = some (some (.string ⟨#[]⟩), Kd.string.sz, 16) := by kernel_rfl
theorem run_field29 (v : Value) (w : World) : (Instr.field 29 (.agg #[v]) 0).run Tryd.prog w = .ok v w := by
 have hu29 := Tryd.underlying29
 have hu22 : Tryd.prog.underlying 22 = some (.slice 40) := Tryd.underlying22
 unfold Instr.field
 go_simp
 simp [asAgg]
theorem dec_zero : zx1 0 = ⟨#[48]⟩ := by
 apply ba_ext
 rw [decS_data, decD_small (by omega)]; rfl
theorem dec_bound (x : Nat) : (Lib.decDigits x).length ≤ 20 * (wd BW x).length + 1 := by
 have h1 : x < BW ^ (wd BW x).length := (zn (by decide) _).1 (Nat.le_refl _)
 have h2 : BW ^ (wd BW x).length ≤ (10 ^ 20) ^ (wd BW x).length := Nat.pow_le_pow_left (by decide) _
 rw [← Nat.pow_mul] at h2
 have h3 : 10 ^ (20 * (wd BW x).length) ≤ 10 ^ (20 * (wd BW x).length + 1) := Nat.pow_le_pow_right (by decide) (by omega)
 exact dec_len_le _ x (Nat.lt_of_lt_of_le h1 (Nat.le_trans h2 h3))
theorem parts_bound (x : Nat) : (partsOf x).length ≤ 64 * (wd BW x).length := by
 have h1 : x < BW ^ (wd BW x).length := (zn (by decide) _).1 (Nat.le_refl _)
 rw [pow64] at h1
 exact parts_len _ x h1
theorem str_c {w : World} {u : Value} {x : Nat} (h1 : Nw w u x) (hx : (wd BW x).length ≤ 10000) (htab : Tab w) :
  Calls Tryd.prog 23 #[.agg #[u]] w fun e w' => e = .returned (.string (zx1 x)) ∧ Below w.heap.size w w' := by
 have hu29 := Tryd.underlying29
 have hu22 := Tryd.underlying22
 obtain ⟨A1, c1, rfl, hc1, hC1⟩ := h1
 have h1 : Nw w (.slice A1 (wd BW x).length c1) x := ⟨A1, c1, rfl, hc1, hC1⟩
 clear hC1 hc1
 obtain ⟨n1, en1⟩ : ∃ n, (wd BW x).length = n := ⟨_, rfl⟩
 rw [en1] at h1 ⊢
 go_enter Tryd.func23, Tryd.ntmps23
 go_wp2_with fail
 have hV0 : Kd.V (Kd.int .u64) 0 (w.alloc (Obj.cells #[Value.slice A1 n1 c1] 29)) 0 (fun i => True ∧ some i ≠ (Value.slice none 0 0).ownBlock) (.slice A1 n1 c1) (wd BW x) := Kd.V_apart_nil (Kd.VM_ (Kd.zl (h1.V 0 0) (bA (Below.refl _ _) _)) (fun i hi => trivial))
 have hB0 : Below w.heap.size w (w.alloc (Obj.cells #[Value.slice A1 n1 c1] 29)) := bA (Below.refl _ _) _
 generalize w.alloc (Obj.cells #[Value.slice A1 n1 c1] 29) = W at hV0 hB0 ⊢
 rw [← en1] at hV0 ⊢
 clear en1 h1
 go_loopg [3, 4] x (fun k s3 s4 wr => ∃ zs : List (List UInt8), Q0 (zs ++ partsOf k = partsOf x) ∧ Q0 (k ≤ x) ∧ Q0 (Kd.R Kd.string 9 wr w.heap.size (fun i => w.heap.size ≤ i) s3 (zs.map bs)) ∧ Q0 (Kd.V (Kd.int .u64) 0 wr 0 (fun i => True ∧ some i ≠ s3.ownBlock) s4 (wd BW k)) ∧ Q0 (Below w.heap.size w wr))
 case atStart => exact ⟨[], ⟨rfl⟩, ⟨Nat.le_refl _⟩, ⟨Kd.zj1 _ _ _ _ _⟩, ⟨hV0⟩, ⟨hB0⟩⟩
 case round =>
  clear hV0 hB0
  obtain ⟨zs, HZ, HK, HO, HV, HB⟩ := hrel
  obtain ⟨A4, c4, rfl⟩ := Kd.zo HV.out
  by_cases hk : gk = 0
  ·subst hk
   rw [zo0] at HV ⊢
   obtain ⟨A3, c3, rfl⟩ := Kd.zl0 HO.out
   rw [zc3, List.append_nil] at HZ
   rw [List.length_map] at HO HV ⊢
   by_cases hz : zs.length = 0
   ·have hd : ((zs.length : Int) == 0) = true := beq_iff_eq.2 (by omega)
    have HX := Q0.mk hz
    clear hz
    go_wp2_with fail
    go_ret
    refine ⟨?_, HB.out⟩
    have h0 := HX.out
    rw [HZ.out] at h0
    have : x = 0 := by
     rcases Nat.eq_zero_or_pos x with h | h
     ·exact h
     ·rw [zd3 h] at h0; simp at h0
    subst this
    rw [dec_zero]
    rfl
   ·have hd : ((zs.length : Int) == 0) = false := beq_eq_false_iff_ne.2 (by omega)
    have HX := Q0.mk hz
    clear hz
    go_wp2_with fail
    have hx0 : 0 < x := by
     rcases Nat.eq_zero_or_pos x with h | h
     ·exfalso; apply HX.out; rw [HZ.out, h, zc3]; rfl
     ·exact h
    have ho := Kd.own_of_R HO.out
    rw [List.length_map] at ho
    have ho' : wr.ownsRow w.heap.size 9 1 (.slice A3 zs.length c3) zs.length (zs.map Proofs.encStr) := by
     rw [map_bs]; exact ho
    have hne : Value.slice A3 zs.length c3 ≠ .slice none 0 0 := by
     intro h; injection h with _ h _; exact HX.out h
    refine (turn_c ho' hne HB.out).mono ?_
    rintro e w1 ⟨rfl, ho1, hB1⟩
    go_wp2_with fail
    have hz1 : zs.reverse.flatten = Lib.decDigits x := by rw [HZ.out]; exact parts_dec hx0
    have hb1 := dec_bound x
    have hb2 := parts_bound x
    rw [← HZ.out] at hb2
    have J := join_c (zs := zs.reverse) (by rw [List.length_reverse]; exact ho1) hne (by rw [hz1]; omega) (by rw [List.length_reverse]; omega)
    rw [hz1, bs_dec] at J
    refine J.mono ?_
    rintro e w2 ⟨rfl, hb⟩
    go_wp2
    go_ret
    exact ⟨rfl, hB1.trans (hb.mono hB1.size)⟩
  ·have hl : 0 < (wd BW gk).length := by
    rcases Nat.eq_zero_or_pos (wd BW gk).length with h | h
    ·exact absurd (List.length_eq_zero_iff.1 h) (wd_ne (by decide) (Nat.pos_of_ne_zero hk))
    ·exact h
   have HL := zy0 (b := BW) (x := gk) (y := x) (by decide) HK.out
   have hN : Nw wr (.slice A4 (wd BW gk).length c4) gk := Kw.ofV HV.out
   obtain ⟨n4, en4⟩ : ∃ n, (wd BW gk).length = n := ⟨_, rfl⟩
   rw [en4] at hl hN HV HL ⊢
   have d1 : decide ((n4 : Int) > 0) = true := decide_eq_true (by omega)
   have d2 : decide (0 < (n4 : Int)) = true := decide_eq_true (by omega)
   have d3 : decide (0 < n4) = true := decide_eq_true (by omega)
   have HN := Q0.mk hN
   have EN := Q0.mk en4
   clear hl en4 hN
   have hxl : (wd BW gk).length ≤ 10000 := by rw [EN.out]; omega
   have HXL := Q0.mk hxl
   clear hxl
   go_wp2_with fail
   refine (divs19_c HN.out (by have := HXL.out; omega)).mono ?_
   rintro e w1 ⟨q, Q, rfl, hq, hqR, hql, hqV, hb⟩
   have hB1 := HB.out.trans (hb.mono HB.out.size)
   have hO1 := Kd.zy HO.out hb
   have HQ := Q0.mk (show R BW Q ∧ Q.length = (wd BW gk).length ∧ V BW Q = ((gk / D19 : Nat) : Int) from ⟨hqR, hql, hqV⟩)
   obtain ⟨m, hm⟩ : ∃ m, gk % D19 = m := ⟨_, rfl⟩
   have hm64 : m < 18446744073709551616 := by rw [← hm]; exact Nat.lt_of_lt_of_le (Nat.mod_lt _ (by decide)) (by decide)
   rw [hm]
   have HM := Q0.mk hm
   have HN1 := Q0.mk (show wr.heap.size ≤ w1.heap.size from hb.size)
   have hZL : zs.length ≤ 640000 := by
    have h1 := congrArg List.length HZ.out
    rw [List.length_append] at h1
    have h2 := parts_bound x
    omega
   have HZL := Q0.mk hZL
   have HP0 := Q0.mk (part_eq gk)
   rw [hm] at HP0
   have hd19 := dec19 gk
   rw [hm] at hd19
   clear HB HV HN hqR hql hqV hm hZL
   have HO0 := HO
   clear HO
   clear hb
   go_wp2_with fail
   refine (norm_c (n := gk / D19) HN1.out hq HQ.out.1 HQ.out.2.2 (by rw [HQ.out.2.1]; have := HXL.out; omega)).mono ?_
   rintro e w2 ⟨z, rfl, hz, hb⟩
   have hB2 := hB1.trans (hb.mono hB1.size)
   have hO2 := Kd.zy hO1 hb
   obtain ⟨A5, c5, rfl⟩ := Kd.zo hz
   obtain ⟨n5, en5⟩ : ∃ n, (wd BW (gk / D19)).length = n := ⟨_, rfl⟩
   rw [en5] at hz ⊢
   have E5 := Q0.mk en5
   clear hq hB1 hO1 HQ hb en5
   have hfd := run_field29 (.slice A5 n5 c5) w2
   go_wp2_with fail
   refine (fmt_c m hm64 (htab.below hB2)).mono ?_
   rintro e w3 ⟨rfl, hb⟩
   have hB3 := hB2.trans (hb.mono hB2.size)
   have hO3 := Kd.zy hO2 hb
   have hz3 := Kd.zl hz hb
   clear hz hB2 hO2 hb
   by_cases hq0 : gk / D19 = 0
   ·have e5 : n5 = 0 := by rw [← E5.out, hq0, zo0]; rfl
    have e1 : decide ((n5 : Int) > 0) = false := decide_eq_false (by omega)
    have e2 : decide (0 < (n5 : Int)) = false := decide_eq_false (by omega)
    have e3 : decide (0 < n5) = false := decide_eq_false (by omega)
    obtain ⟨P, hP⟩ : ∃ P, zx1 m = P := ⟨_, rfl⟩
    have HP : Q0 (P = bs (part gk)) := ⟨by rw [HP0.out, if_pos hq0, hP]⟩
    rw [hP]
    have hO4 := hO3
    have hB4 := hB3
    have HQ0 := Q0.mk hq0
    clear hO3 hB3 hq0 e5 hP
    have hVz : Kd.V (Kd.int .u64) 0 w3 0 (fun i => True ∧ some i ≠ u3.ownBlock) (.slice A5 n5 c5) (wd BW (gk / D19)) := Kd.VM_ hz3 (fun i hi => ⟨trivial, fun h => by have := (Kd.zq2 HO0.out).1 i h.symm; omega⟩)
    have hL0 := HZL.out
    have hLen : ((zs.map bs).length + 1) * 16 ≤ 140737488355328 := by rw [List.length_map]; omega
    go_wp2_with (first | ((with_reducible refine zz0 (b := .append) (xs := #[.tmp 32, .tmp 34]) rfl ?_); at_builtin; refine Kd.zz Kd.string (w0 := w) w.heap.size rfl (.tmp 32) (.tmp 34) 96 9 (.string ⟨#[]⟩) 16 rfl Tryd.underlying96 infoS rfl (by decide) (by omega) u3 (zs.map bs) P [.string P] (fun k_ => w.heap.size ≤ k_) (fun _ => False) rfl rfl (show Kd.M Kd.string _ _ _ P [.string P] from rfl) (fun _ hk => hk.elim) (fun k_ hk => Nat.le_trans hB4.size hk) hO4 hB4 hB4.size hLen ?_; intro v1 w5 ho5 hb5 hg5 hat5; have HO5 := Q0.mk ho5; have HB5 := Q0.mk hb5; have HG5 := Q0.mk hg5; have HA5 := Q0.mk hat5; clear ho5 hb5 hg5 hat5))
    go_roundg (gk / D19)
    case measure => exact div19_lt hk
    case rel =>
     refine ⟨zs ++ [part gk], ⟨?_⟩, ⟨?_⟩, ⟨?_⟩, ⟨?_⟩, ⟨HB5.out⟩⟩
     ·rw [← HZ.out, zd3 (Nat.pos_of_ne_zero hk), List.append_assoc]; rfl
     ·exact Nat.le_trans (Nat.div_le_self _ _) HK.out
     ·rw [List.map_append, List.map_cons, List.map_nil, ← HP.out]; exact HO5.out
     ·exact Kd.V_after hVz HG5.out HA5.out
   ·have e5 : 0 < n5 := by
     rw [← E5.out]
     rcases Nat.eq_zero_or_pos (wd BW (gk / D19)).length with h | h
     ·exact absurd (List.length_eq_zero_iff.1 h) (wd_ne (by decide) (Nat.pos_of_ne_zero hq0))
     ·exact h
    have e1 : decide ((n5 : Int) > 0) = true := decide_eq_true (by omega)
    have e2 : decide (0 < (n5 : Int)) = true := decide_eq_true (by omega)
    have e3 : decide (0 < n5) = true := decide_eq_true (by omega)
    obtain ⟨s1, hs1⟩ : ∃ s, (zx1 m).size = s := ⟨_, rfl⟩
    have hsub : IntKind.i64.wrap (19 - ((zx1 m).size : Int)) = ((19 - s1 : Nat) : Int) := by rw [IntKind.wrap_i64]; omega
    have HQ0 := Q0.mk hq0
    clear hq0 e5
    go_wp2_with fail
    have J := rep0_c (w := w3) (19 - s1) (by omega)
    rw [show ((19 - s1 : Nat) : Int) = 19 - (s1 : Int) by omega] at J
    refine J.mono ?_
    rintro e w4 ⟨rfl, hb⟩
    have hO4 := Kd.zy hO3 hb
    have hB4 := hB3.trans (hb.mono hB3.size)
    have hz4 := Kd.zl hz3 hb
    obtain ⟨X, hX⟩ : ∃ X, bs (List.replicate (19 - s1) 48) = X := ⟨_, rfl⟩
    have hXs : X.size = 19 - s1 := by rw [← hX, bs_size, List.length_replicate]
    obtain ⟨Y, hY⟩ : ∃ Y, zx1 m = Y := ⟨_, rfl⟩
    have HP1 : Q0 (bs (part gk) = X ++ Y) := ⟨by rw [HP0.out, if_neg HQ0.out, hs1, hX, hY]⟩
    have hYs : Y.size ≤ 19 := by rw [← hY]; exact hd19
    rw [hX]
    rw [hY] at hs1 ⊢
    have hsz : X.size + Y.size ≤ 9223372036854775807 := by omega
    obtain ⟨P, hP⟩ : ∃ P, X ++ Y = P := ⟨_, rfl⟩
    have HP : Q0 (P = bs (part gk)) := ⟨by rw [HP1.out, hP]⟩
    clear J hb hX hY hXs hYs hs1 hsub hO3 hB3 hz3 HP0 hd19
    have hVz : Kd.V (Kd.int .u64) 0 w4 0 (fun i => True ∧ some i ≠ u3.ownBlock) (.slice A5 n5 c5) (wd BW (gk / D19)) := Kd.VM_ hz4 (fun i hi => ⟨trivial, fun h => by have := (Kd.zq2 HO0.out).1 i h.symm; omega⟩)
    have hL0 := HZL.out
    have hLen : ((zs.map bs).length + 1) * 16 ≤ 140737488355328 := by rw [List.length_map]; omega
    go_wp2_with (first | ((with_reducible refine zz0 (b := .append) (xs := #[.tmp 32, .tmp 34]) rfl ?_); at_builtin; refine Kd.zz Kd.string (w0 := w) w.heap.size rfl (.tmp 32) (.tmp 34) 96 9 (.string ⟨#[]⟩) 16 rfl Tryd.underlying96 infoS rfl (by decide) (by omega) u3 (zs.map bs) P [.string P] (fun k_ => w.heap.size ≤ k_) (fun _ => False) rfl rfl (show Kd.M Kd.string _ _ _ P [.string P] from rfl) (fun _ hk => hk.elim) (fun k_ hk => Nat.le_trans hB4.size hk) hO4 hB4 hB4.size hLen ?_; intro v1 w5 ho5 hb5 hg5 hat5; have HO5 := Q0.mk ho5; have HB5 := Q0.mk hb5; have HG5 := Q0.mk hg5; have HA5 := Q0.mk hat5; clear ho5 hb5 hg5 hat5))
    go_roundg (gk / D19)
    case measure => exact div19_lt hk
    case rel =>
     refine ⟨zs ++ [part gk], ⟨?_⟩, ⟨?_⟩, ⟨?_⟩, ⟨?_⟩, ⟨HB5.out⟩⟩
     ·rw [← HZ.out, zd3 (Nat.pos_of_ne_zero hk), List.append_assoc]; rfl
     ·exact Nat.le_trans (Nat.div_le_self _ _) HK.out
     ·rw [List.map_append, List.map_cons, List.map_nil, ← HP.out]; exact HO5.out
     ·exact Kd.V_after hVz HG5.out HA5.out
theorem zh : (Tryd.prog.info? 29).map (·.size) = some 1 := by kernel_rfl
def bx (W : World) (b : Nat) (v : Value) : Prop := W.heap[b]? = some (.cells #[v] 29 (0, 0))
theorem bx.below {W W' : World} {b : Nat} {v : Value} (h : bx W b v) (hb : Below W.heap.size W W') : bx W' b v := (hb.block _ (Array.getElem?_eq_some_iff.1 h).1).trans h
theorem bx.alloc {W : World} {b : Nat} {v : Value} (h : bx W b v) (o : Obj) : bx (W.alloc o) b v := h.below (bA (Below.refl _ _) o)
theorem bx.drew {W : World} {b : Nat} {v : Value} (h : bx W b v) : bx W.drew b v := h
theorem bx.new (W : World) (v : Value) : bx (W.alloc (.cells #[v] 29)) W.heap.size v := heap_alloc_new W _
theorem bx.lt {W : World} {b : Nat} {v : Value} (h : bx W b v) : b < W.heap.size := (Array.getElem?_eq_some_iff.1 h).1
theorem bx.put {W : World} {b : Nat} {v : Value} (h : bx W b v) (u : Value) : bx (W.setRow b #[u]) b u := setRow_heap W b #[v] #[u] 29 (0, 0) h
theorem Kw.one {k : IntKind} {w : World} {v : Value} {l : List Int} (h : Kw k w v l) : (#[v] : Array Value).all (·.oneCell') = true := by
 obtain ⟨A, c, rfl, _⟩ := h
 kernel_rfl
theorem decf {p : Prop} [Decidable p] (h : ¬ p) : decide p = false := decide_eq_false h
theorem div_lt_c {w : World} {u : Value} {x : Nat} (h1 : Nw w u x) {v : Value} {y : Nat} (h2 : Nw w v y) (hx : (wd BW x).length ≤ 1000000) (hlt : x < y) :
  Calls Tryd.prog 40 #[.agg #[u], .agg #[v]] w fun e w' => e = .returned (.tuple #[.agg #[.slice none 0 0], .agg #[u], .int .i64 0]) ∧ Below w.heap.size w w' := by
 have hou := h1.one
 have hu29 := Tryd.underlying29
 have hi29 : (Tryd.prog.info? 29).map (·.size) = some (#[Value.slice none 0 0] : Array Value).size := zh
 have ho29 : (#[Value.slice none 0 0] : Array Value).all (·.oneCell') = true := by kernel_rfl
 go_enter Tryd.func40, Tryd.ntmps40
 go_wp2_with fail
 obtain ⟨W, eW⟩ : ∃ W, (((w.alloc (Obj.cells #[u] 29)).alloc (Obj.cells #[v] 29)).alloc (Obj.cells #[Value.slice none 0 0] 29)).alloc (Obj.cells #[Value.slice none 0 0] 29) = W := ⟨_, rfl⟩
 rw [eW]
 have hB : Below w.heap.size w W := by rw [← eW]; exact ((((Below.refl _ _).alloc (by simp <;> omega) _).alloc (by simp <;> omega) _).alloc (by simp <;> omega) _).alloc (by simp <;> omega) _
 have f3 : bx W (w.heap.size + 1 + 1 + 1) (.slice none 0 0) := by rw [← eW]; have := bx.new (((w.alloc (Obj.cells #[u] 29)).alloc (Obj.cells #[v] 29)).alloc (Obj.cells #[Value.slice none 0 0] 29)) (.slice none 0 0); simpa using this
 have f2 : bx W (w.heap.size + 1 + 1) (.slice none 0 0) := by rw [← eW]; have := (bx.new ((w.alloc (Obj.cells #[u] 29)).alloc (Obj.cells #[v] 29)) (.slice none 0 0)).alloc (Obj.cells #[Value.slice none 0 0] 29); simpa using this
 have f1 : bx W (w.heap.size + 1) v := by rw [← eW]; have := ((bx.new (w.alloc (Obj.cells #[u] 29)) v).alloc (Obj.cells #[Value.slice none 0 0] 29)).alloc (Obj.cells #[Value.slice none 0 0] 29); simpa using this
 have f0 : bx W w.heap.size u := by rw [← eW]; exact (((bx.new w u).alloc (Obj.cells #[v] 29)).alloc (Obj.cells #[Value.slice none 0 0] 29)).alloc (Obj.cells #[Value.slice none 0 0] 29)
 obtain ⟨b0, e0⟩ : ∃ b, w.heap.size = b := ⟨_, rfl⟩
 obtain ⟨b1, e1⟩ : ∃ b, w.heap.size + 1 = b := ⟨_, rfl⟩
 obtain ⟨b2, e2⟩ : ∃ b, w.heap.size + 1 + 1 = b := ⟨_, rfl⟩
 obtain ⟨b3, e3⟩ : ∃ b, w.heap.size + 1 + 1 + 1 = b := ⟨_, rfl⟩
 rw [e3] at f3 ⊢
 rw [e2] at f2 ⊢
 rw [e1] at f1 ⊢
 have n01 : b0 ≠ b1 := by omega
 have n02 : b0 ≠ b2 := by omega
 have n03 : b0 ≠ b3 := by omega
 have n12 : b1 ≠ b2 := by omega
 have n13 : b1 ≠ b3 := by omega
 have n23 : b2 ≠ b3 := by omega
 have l2 : w.heap.size ≤ b2 := by omega
 have l3 : w.heap.size ≤ b3 := by omega
 clear e1 e2 e3 eW
 rw [e0] at f0
 have Z := zy1 (h2.below hB)
 rw [decf (show ¬ y = 0 by omega)] at Z
 refine Z.mono ?_
 rintro e w1 ⟨rfl, hb⟩
 replace f3 := f3.below hb
 replace f2 := f2.below hb
 replace f1 := f1.below hb
 replace f0 := f0.below hb
 replace hB := hB.trans (hb.mono hB.size)
 clear hb Z
 go_wp2_with (first | refine Cel.lW rfl 29 _ rfl b0 rfl 29 #[u] (0, 0) _ f0 hu29 rfl zh ?_ | refine Cel.lW rfl 29 _ rfl b1 rfl 29 #[v] (0, 0) _ f1 hu29 rfl zh ?_)
 have Z := cmp_c (h1.below hB) (h2.below hB) hx
 rw [show zv1 x y = -1 by unfold zv1; rw [if_pos hlt]] at Z
 refine Z.mono ?_
 rintro e w2 ⟨rfl, hb⟩
 replace f3 := f3.below hb
 replace f2 := f2.below hb
 replace f1 := f1.below hb
 replace f0 := f0.below hb
 replace hB := hB.trans (hb.mono hB.size)
 clear hb Z
 go_wp2_with fail
 refine zt0 (n := 5) (S := fun w' => w'.cell? ⟨b0, 0, none⟩ = some u) (ds := []) #[ff,ff,ff,ff,ff] (by kernel_rfl) rfl rfl ((kC f0 0).trans rfl) (fun hHeld => ?_)
 replace f3 := f3.drew
 replace f2 := f2.drew
 replace f0 := f0.drew
 replace hB := hB.drew
 generalize w2.drew = w3 at f3 f2 f0 hB hHeld ⊢
 refine za 0 21 ?_ #[tt,ff,ff,ff,ff] rfl rfl (by kernel_rfl) (fun _ _ _ h => h) (Or.inl ⟨by rfl, ?_⟩) ?_ ?_ ?_
 rotate_left
 ·intro w'
  go_simp
  with_reducible rfl
 rotate_left
 ·simp only [Act.put, s2_, s0_, s1_, iw, jw]
  rfl
 refine z10 1 22 ?_ #[tt,tt,ff,ff,ff] rfl rfl (by kernel_rfl) (fun _ _ _ h => h) (Or.inl ⟨by rfl, ?_⟩) hHeld ?_ ?_ ?_
 rotate_left
 ·intro w' s0
  go_simp
  with_reducible rfl
 rotate_left
 ·simp only [Act.put, s2_, s0_, s1_, iw, jw]
  rfl
 refine zh0 (i := 2) (N := none) #[tt,tt,tt,ff,ff] rfl rfl (by kernel_rfl) (by decide) (fun K hK => ?_)
 have hs38 : w3.cell? ⟨b2, 0, none⟩ = some (.slice none 0 0) := (kC f2 0).trans rfl
 have hfs38 := kF f2 0
 refine zw1 (w1 := ?_) (by rfl) rfl ?_ ?_
 rotate_left
 ·go_simp
  rfl
 refine hK.out _ _ (((cell_far (p := ⟨b2, _, none⟩) n02 _).trans (hHeld))) (fun hHeld => ?_)
 replace f3 := zr0 f3 (p := ⟨b2, 0, none⟩) n23.symm (.slice none 0 0)
 replace f2 := zc0 (cs := #[.slice none 0 0]) (cs' := #[.slice none 0 0]) f2 0 (.slice none 0 0) rfl
 replace hB := bS (v := .slice none 0 0) (j := 0) hB l2
 clear hs38 hfs38
 generalize w3.setCell ⟨b2, 0, none⟩ (.slice none 0 0) = w4 at f3 f2 hB hHeld ⊢
 obtain ⟨A1, c1, e1, -, -⟩ := id h1
 refine zh0 (i := 3) (N := none) #[tt,tt,tt,tt,ff] rfl rfl (by kernel_rfl) (by decide) (fun K hK => ?_)
 have hs38 : w4.cell? ⟨b3, 0, none⟩ = some (.slice none 0 0) := (kC f3 0).trans rfl
 have hfs38 := kF f3 0
 refine zw1 (w1 := ?_) (by rfl) rfl ?_ ?_
 rotate_left
 ·rw [e1]
  go_simp
  rfl
 refine hK.out _ _ (((cell_far (p := ⟨b3, _, none⟩) n03 _).trans (hHeld))) (fun hHeld => ?_)
 replace f2 := zr0 f2 (p := ⟨b3, 0, none⟩) n23 (.slice A1 (wd BW x).length c1)
 replace f3 := zc0 (cs := #[.slice none 0 0]) (cs' := #[.slice A1 (wd BW x).length c1]) f3 0 (.slice A1 (wd BW x).length c1) rfl
 replace hB := bS (v := .slice A1 (wd BW x).length c1) (j := 0) hB l3
 clear hs38 hfs38
 refine za 4 6 ?_ #[tt,tt,tt,tt,tt] rfl rfl (by kernel_rfl) (fun _ _ _ h => h) (Or.inl ⟨by rfl, ?_⟩) ?_ ?_ ?_
 rotate_left
 ·intro w'
  go_simp
  with_reducible rfl
 rotate_left
 ·simp only [Act.put, s2_, s0_, s1_, iw, jw]
  rfl
 refine zh1 (by kernel_rfl) ?_
 go_wp2
 refine bodyPost_ret (zt (rs := [.cell 4 29, .cell 5 29, .tmp 6]) rfl (by simp) (.cell b2 29 #[.slice none 0 0] (0, 0) _ rfl f2 Tryd.underlying29 rfl zh (.cell b3 29 #[.slice A1 (wd BW x).length c1] (0, 0) _ rfl f3 Tryd.underlying29 rfl zh (.tmp .nil)))) rfl ?_
 exact ⟨by rw [e1]; rfl, hB⟩
theorem div_great_c {w : World} {u : Value} {x : Nat} (h1 : Nw w u x) {v : Value} {y : Nat} (h2 : Nw w v y) (hxy : y ≤ x) (hyl : 2 ≤ (wd BW y).length) (hxl : (wd BW x).length ≤ 100000) :
  Calls Tryd.prog 40 #[.agg #[u], .agg #[v]] w fun e w' => ∃ z z', e = .returned (.tuple #[.agg #[z], .agg #[z'], .int .i64 0]) ∧ Nf w.heap.size w' z (x / y) ∧ Nf w.heap.size w' z' (x % y) ∧ Below w.heap.size w w' := by
 have hy0 : ¬ y = 0 := by
  rintro rfl; rw [zo0] at hyl; simp at hyl
 obtain ⟨A1, c1, rfl, hc1, hC1⟩ := h1
 have h1 : Nw w (.slice A1 (wd BW x).length c1) x := ⟨A1, c1, rfl, hc1, hC1⟩
 obtain ⟨A2, c2, rfl, hc2, hC2⟩ := h2
 have h2 : Nw w (.slice A2 (wd BW y).length c2) y := ⟨A2, c2, rfl, hc2, hC2⟩
 clear hC1 hC2 hc1 hc2
 obtain ⟨n1, en1⟩ : ∃ n, (wd BW x).length = n := ⟨_, rfl⟩
 obtain ⟨n2, en2⟩ : ∃ n, (wd BW y).length = n := ⟨_, rfl⟩
 rw [en1] at h1 hxl ⊢
 rw [en2] at h2 hyl ⊢
 have hl1 : ((n2 : Int) == 1) = false := beq_eq_false_iff_ne.mpr (by omega)
 have hcm : decide (zv1 x y < 0) = false := decide_eq_false (by unfold zv1; rw [if_neg (by omega)]; split <;> omega)
 have hu29 := Tryd.underlying29
 have hi29 : (Tryd.prog.info? 29).map (·.size) = some (#[Value.slice none 0 0] : Array Value).size := zh
 have ho29 : (#[Value.slice none 0 0] : Array Value).all (·.oneCell') = true := by kernel_rfl
 go_enter Tryd.func40, Tryd.ntmps40
 go_wp2_with fail
 obtain ⟨W, eW⟩ : ∃ W, (((w.alloc (Obj.cells #[(.slice A1 n1 c1)] 29)).alloc (Obj.cells #[(.slice A2 n2 c2)] 29)).alloc (Obj.cells #[Value.slice none 0 0] 29)).alloc (Obj.cells #[Value.slice none 0 0] 29) = W := ⟨_, rfl⟩
 rw [eW]
 have hB : Below w.heap.size w W := by rw [← eW]; exact ((((Below.refl _ _).alloc (by simp <;> omega) _).alloc (by simp <;> omega) _).alloc (by simp <;> omega) _).alloc (by simp <;> omega) _
 have f3 : bx W (w.heap.size + 1 + 1 + 1) (.slice none 0 0) := by rw [← eW]; have := bx.new (((w.alloc (Obj.cells #[(.slice A1 n1 c1)] 29)).alloc (Obj.cells #[(.slice A2 n2 c2)] 29)).alloc (Obj.cells #[Value.slice none 0 0] 29)) (.slice none 0 0); simpa using this
 have f2 : bx W (w.heap.size + 1 + 1) (.slice none 0 0) := by rw [← eW]; have := (bx.new ((w.alloc (Obj.cells #[(.slice A1 n1 c1)] 29)).alloc (Obj.cells #[(.slice A2 n2 c2)] 29)) (.slice none 0 0)).alloc (Obj.cells #[Value.slice none 0 0] 29); simpa using this
 have f1 : bx W (w.heap.size + 1) (.slice A2 n2 c2) := by rw [← eW]; have := ((bx.new (w.alloc (Obj.cells #[(.slice A1 n1 c1)] 29)) (.slice A2 n2 c2)).alloc (Obj.cells #[Value.slice none 0 0] 29)).alloc (Obj.cells #[Value.slice none 0 0] 29); simpa using this
 have f0 : bx W w.heap.size (.slice A1 n1 c1) := by rw [← eW]; exact (((bx.new w (.slice A1 n1 c1)).alloc (Obj.cells #[(.slice A2 n2 c2)] 29)).alloc (Obj.cells #[Value.slice none 0 0] 29)).alloc (Obj.cells #[Value.slice none 0 0] 29)
 obtain ⟨b0, e0⟩ : ∃ b, w.heap.size = b := ⟨_, rfl⟩
 obtain ⟨b1, e1⟩ : ∃ b, w.heap.size + 1 = b := ⟨_, rfl⟩
 obtain ⟨b2, e2⟩ : ∃ b, w.heap.size + 1 + 1 = b := ⟨_, rfl⟩
 obtain ⟨b3, e3⟩ : ∃ b, w.heap.size + 1 + 1 + 1 = b := ⟨_, rfl⟩
 rw [e3] at f3 ⊢
 rw [e2] at f2 ⊢
 rw [e1] at f1 ⊢
 have n01 : b0 ≠ b1 := by omega
 have n02 : b0 ≠ b2 := by omega
 have n03 : b0 ≠ b3 := by omega
 have n12 : b1 ≠ b2 := by omega
 have n13 : b1 ≠ b3 := by omega
 have n23 : b2 ≠ b3 := by omega
 have l2 : w.heap.size ≤ b2 := by omega
 have l3 : w.heap.size ≤ b3 := by omega
 clear e1 e2 e3 eW
 rw [e0] at f0
 have Z := zy1 (h2.below hB)
 rw [decf hy0] at Z
 refine Z.mono ?_
 rintro e w1 ⟨rfl, hb⟩
 replace f3 := f3.below hb
 replace f2 := f2.below hb
 replace f1 := f1.below hb
 replace f0 := f0.below hb
 replace hB := hB.trans (hb.mono hB.size)
 clear hb Z
 go_wp2_with (first | refine Cel.lW rfl 29 _ rfl b0 rfl 29 #[.slice A1 n1 c1] (0, 0) _ f0 hu29 rfl zh ?_ | refine Cel.lW rfl 29 _ rfl b1 rfl 29 #[.slice A2 n2 c2] (0, 0) _ f1 hu29 rfl zh ?_)
 refine (cmp_c (h1.below hB) (h2.below hB) (by omega)).mono ?_
 rintro e w2 ⟨rfl, hb⟩
 replace f3 := f3.below hb
 replace f2 := f2.below hb
 replace f1 := f1.below hb
 replace f0 := f0.below hb
 replace hB := hB.trans (hb.mono hB.size)
 clear hb
 generalize zv1 x y = cm at hcm ⊢
 have k1 : w2.cell? ⟨b1, 0, none⟩ = some (.slice A2 n2 c2) := (kC f1 0).trans rfl
 have k0 : w2.cell? ⟨b0, 0, none⟩ = some (.slice A1 n1 c1) := (kC f0 0).trans rfl
 go_wp2_with fail
 refine (divide_c (h1.below hB) (h2.below hB) hxy (by omega) (by omega)).mono ?_
 rintro e w3 ⟨q, r, rfl, hq, hr, hb⟩
 have g3 := f3.lt
 have g2 := f2.lt
 have hw2 := hB.size
 replace f3 := f3.below hb
 replace f2 := f2.below hb
 replace hB := hB.trans (hb.mono hB.size)
 clear hb k1 k0 f1 f0
 obtain ⟨A3, c3, rfl⟩ := Kd.zo hq
 obtain ⟨A4, c4, rfl⟩ := Kd.zo hr
 unfold Nf at hq hr
 generalize hL3 : wd BW (x / y) = L3 at hq ⊢
 generalize hL4 : wd BW (x % y) = L4 at hr ⊢
 obtain ⟨n3, en3⟩ : ∃ n, L3.length = n := ⟨_, rfl⟩
 obtain ⟨n4, en4⟩ : ∃ n, L4.length = n := ⟨_, rfl⟩
 rw [en3] at hq ⊢
 rw [en4] at hr ⊢
 go_wp2_with fail
 have l24 := f2.lt
 have l34 := f3.lt
 have f4 := (bx.new w3 (.slice A3 n3 c3)).alloc (.cells #[.slice A4 n4 c4] 29)
 have f5 := bx.new (w3.alloc (.cells #[.slice A3 n3 c3] 29)) (.slice A4 n4 c4)
 replace f3 := (f3.alloc (.cells #[.slice A3 n3 c3] 29)).alloc (.cells #[.slice A4 n4 c4] 29)
 replace f2 := (f2.alloc (.cells #[.slice A3 n3 c3] 29)).alloc (.cells #[.slice A4 n4 c4] 29)
 have hA : Below w3.heap.size w3 ((w3.alloc (.cells #[.slice A3 n3 c3] 29)).alloc (.cells #[.slice A4 n4 c4] 29)) := bA (bA (Below.refl _ _) _) _
 replace hB := hB.trans (hA.mono hB.size)
 replace hq := hq.below hA
 replace hr := hr.below hA
 clear hA
 rw [show (w3.alloc (.cells #[.slice A3 n3 c3] 29)).heap.size = w3.heap.size + 1 by simp] at f5
 have n42 : w3.heap.size ≠ b2 := by omega
 have n43 : w3.heap.size ≠ b3 := by omega
 have n52 : w3.heap.size + 1 ≠ b2 := by omega
 have n53 : w3.heap.size + 1 ≠ b3 := by omega
 generalize (w3.alloc (Obj.cells #[Value.slice A3 n3 c3] 29)).alloc (Obj.cells #[Value.slice A4 n4 c4] 29) = w4 at f2 f3 f4 f5 hB hq hr ⊢
 generalize w3.heap.size + 1 = b5 at f5 n52 n53 ⊢
 generalize w3.heap.size = b4 at f4 n42 n43 l24 l34 ⊢
 refine zt0 (n := 5) (S := fun w' => w'.cell? ⟨b4, 0, none⟩ = some (.slice A3 n3 c3) ∧ w'.cell? ⟨b5, 0, none⟩ = some (.slice A4 n4 c4)) (ds := []) #[ff,ff,ff,ff,ff] (by kernel_rfl) rfl rfl ⟨(kC f4 0).trans rfl, (kC f5 0).trans rfl⟩ (fun hHeld => ?_)
 replace f3 := f3.drew
 replace f2 := f2.drew
 replace hB := hB.drew
 replace hq := Kd.VD_ hq
 replace hr := Kd.VD_ hr
 clear f4 f5
 generalize w4.drew = w5 at f3 f2 hB hq hr hHeld ⊢
 refine z10 0 50 ?_ #[tt,ff,ff,ff,ff] rfl rfl (by kernel_rfl) (fun _ _ _ h => h) (Or.inl ⟨by rfl, ?_⟩) hHeld ?_ ?_ ?_
 rotate_left
 ·rintro w' ⟨s0, s1⟩
  go_simp
  with_reducible rfl
 rotate_left
 ·simp only [Act.put, s2_, s0_, s1_, iw, jw]
  rfl
 refine z10 1 51 ?_ #[tt,tt,ff,ff,ff] rfl rfl (by kernel_rfl) (fun _ _ _ h => h) (Or.inl ⟨by rfl, ?_⟩) hHeld ?_ ?_ ?_
 rotate_left
 ·rintro w' ⟨s0, s1⟩
  go_simp
  with_reducible rfl
 rotate_left
 ·simp only [Act.put, s2_, s0_, s1_, iw, jw]
  rfl
 refine zh0 (i := 2) (N := none) #[tt,tt,tt,ff,ff] rfl rfl (by kernel_rfl) (by decide) (fun K hK => ?_)
 have hs_ := (kC f2 0).trans rfl
 have hfs_ := kF f2 0
 refine zw1 (w1 := ?_) (by rfl) rfl ?_ ?_
 rotate_left
 ·go_simp
  rfl
 clear hs_ hfs_
 refine hK.out _ _ ⟨(cell_far (p := ⟨b2, _, none⟩) n42 _).trans hHeld.1, (cell_far (p := ⟨b2, _, none⟩) n52 _).trans hHeld.2⟩ (fun hHeld => ?_)
 replace f3 := zr0 f3 (p := ⟨b2, 0, none⟩) n23.symm (.slice A3 n3 c3)
 replace f2 := zc0 (cs := #[.slice none 0 0]) (cs' := #[.slice A3 n3 c3]) f2 0 (.slice A3 n3 c3) rfl
 replace hB := bS (v := .slice A3 n3 c3) (j := 0) hB l2
 replace hq := Kf.put (n := w2.heap.size) hq g2 (.slice A3 n3 c3)
 replace hr := Kf.put (n := w2.heap.size) hr g2 (.slice A3 n3 c3)
 generalize w5.setCell ⟨b2, 0, none⟩ (.slice A3 n3 c3) = w6 at f3 f2 hB hq hr hHeld ⊢
 refine zh0 (i := 3) (N := none) #[tt,tt,tt,tt,ff] rfl rfl (by kernel_rfl) (by decide) (fun K hK => ?_)
 have hs_ := (kC f3 0).trans rfl
 have hfs_ := kF f3 0
 refine zw1 (w1 := ?_) (by rfl) rfl ?_ ?_
 rotate_left
 ·go_simp
  rfl
 clear hs_ hfs_
 refine hK.out _ _ ⟨(cell_far (p := ⟨b3, _, none⟩) n43 _).trans hHeld.1, (cell_far (p := ⟨b3, _, none⟩) n53 _).trans hHeld.2⟩ (fun hHeld => ?_)
 replace f2 := zr0 f2 (p := ⟨b3, 0, none⟩) n23 (.slice A4 n4 c4)
 replace f3 := zc0 (cs := #[.slice none 0 0]) (cs' := #[.slice A4 n4 c4]) f3 0 (.slice A4 n4 c4) rfl
 replace hB := bS (v := .slice A4 n4 c4) (j := 0) hB l3
 replace hq := Kf.put (n := w2.heap.size) hq g3 (.slice A4 n4 c4)
 replace hr := Kf.put (n := w2.heap.size) hr g3 (.slice A4 n4 c4)
 refine za 4 6 ?_ #[tt,tt,tt,tt,tt] rfl rfl (by kernel_rfl) (fun _ _ _ h => h) (Or.inl ⟨by rfl, ?_⟩) ?_ ?_ ?_
 rotate_left
 ·intro w'
  go_simp
  with_reducible rfl
 rotate_left
 ·simp only [Act.put, s2_, s0_, s1_, iw, jw]
  rfl
 refine zh1 (by kernel_rfl) ?_
 go_wp2
 refine bodyPost_ret (zt (rs := [.cell 4 29, .cell 5 29, .tmp 6]) rfl (by simp) (.cell b2 29 #[.slice A3 n3 c3] (0, 0) _ rfl f2 Tryd.underlying29 rfl zh (.cell b3 29 #[.slice A4 n4 c4] (0, 0) _ rfl f3 Tryd.underlying29 rfl zh (.tmp .nil)))) rfl ?_
 rw [← hL3] at hq
 rw [← hL4] at hr
 exact ⟨_, _, rfl, Kf.mono hq hw2, Kf.mono hr hw2, hB⟩
theorem Nw.lt {w : World} {A : Option Addr} {c : Nat} {y : Nat} (h : Nw w (.slice A 1 c) y) : 0 < y ∧ y < BW := by
 obtain ⟨A', c', e, _⟩ := h
 injection e with e1 e2 e3
 refine ⟨?_, by have := (zn (b := BW) (n := y) (by decide) 1).1 (by omega); simpa using this⟩
 rcases Nat.eq_zero_or_pos y with h | h
 ·subst h; rw [zo0] at e2; simp at e2
 ·exact h
theorem Nw.word {w : World} {A : Option Addr} {c : Nat} {y : Nat} (h : Nw w (.slice A 1 c) y) : (∃ ad, A = some ad) ∧ ∀ ad, A = some ad → w.cell? ad = some (.int .u64 (y : Int)) := by
 have hl := h.lt
 obtain ⟨A', c', e, hc, hC⟩ := h
 injection e with e1 e2 e3
 subst e1
 rw [wd_small (by decide) hl.1 hl.2] at hC
 obtain ⟨ad, ea, hx⟩ := Kd.zk hC 0 (by omega) (by simp)
 subst ea
 refine ⟨⟨_, rfl⟩, ?_⟩
 rintro ad' e'
 injection e' with e'
 subst e'
 simpa [Addr.add_zero', rd] using hx
theorem div_small_c {w : World} {u : Value} {x : Nat} (h1 : Nw w u x) {v : Value} {y : Nat} (h2 : Nw w v y) (hxy : y ≤ x) (hyl : (wd BW y).length = 1) (hxl : (wd BW x).length ≤ 100000) :
  Calls Tryd.prog 40 #[.agg #[u], .agg #[v]] w fun e w' => ∃ z z', e = .returned (.tuple #[.agg #[z], .agg #[z'], .int .i64 0]) ∧ Nf w.heap.size w' z (x / y) ∧ Nf w.heap.size w' z' (x % y) ∧ Below w.heap.size w w' := by
 have hy0 : ¬ y = 0 := by
  rintro rfl; rw [zo0] at hyl; simp at hyl
 obtain ⟨A1, c1, rfl, hc1, hC1⟩ := h1
 have h1 : Nw w (.slice A1 (wd BW x).length c1) x := ⟨A1, c1, rfl, hc1, hC1⟩
 obtain ⟨A2, c2, rfl, hc2, hC2⟩ := h2
 have h2 : Nw w (.slice A2 (wd BW y).length c2) y := ⟨A2, c2, rfl, hc2, hC2⟩
 clear hC1 hC2 hc1 hc2
 obtain ⟨n1, en1⟩ : ∃ n, (wd BW x).length = n := ⟨_, rfl⟩
 rw [en1] at h1 hxl ⊢
 rw [hyl] at h2 ⊢
 obtain ⟨ad, rfl⟩ := (Nw.word h2).1
 have hl1 : ((1 : Int) == 1) = true := rfl
 have hcm : decide (zv1 x y < 0) = false := decide_eq_false (by unfold zv1; rw [if_neg (by omega)]; split <;> omega)
 have hu29 := Tryd.underlying29
 have hi29 : (Tryd.prog.info? 29).map (·.size) = some (#[Value.slice none 0 0] : Array Value).size := zh
 have ho29 : (#[Value.slice none 0 0] : Array Value).all (·.oneCell') = true := by kernel_rfl
 go_enter Tryd.func40, Tryd.ntmps40
 go_wp2_with fail
 obtain ⟨W, eW⟩ : ∃ W, (((w.alloc (Obj.cells #[(.slice A1 n1 c1)] 29)).alloc (Obj.cells #[(.slice (some ad) 1 c2)] 29)).alloc (Obj.cells #[Value.slice none 0 0] 29)).alloc (Obj.cells #[Value.slice none 0 0] 29) = W := ⟨_, rfl⟩
 rw [eW]
 have hB : Below w.heap.size w W := by rw [← eW]; exact ((((Below.refl _ _).alloc (by simp <;> omega) _).alloc (by simp <;> omega) _).alloc (by simp <;> omega) _).alloc (by simp <;> omega) _
 have f3 : bx W (w.heap.size + 1 + 1 + 1) (.slice none 0 0) := by rw [← eW]; have := bx.new (((w.alloc (Obj.cells #[(.slice A1 n1 c1)] 29)).alloc (Obj.cells #[(.slice (some ad) 1 c2)] 29)).alloc (Obj.cells #[Value.slice none 0 0] 29)) (.slice none 0 0); simpa using this
 have f2 : bx W (w.heap.size + 1 + 1) (.slice none 0 0) := by rw [← eW]; have := (bx.new ((w.alloc (Obj.cells #[(.slice A1 n1 c1)] 29)).alloc (Obj.cells #[(.slice (some ad) 1 c2)] 29)) (.slice none 0 0)).alloc (Obj.cells #[Value.slice none 0 0] 29); simpa using this
 have f1 : bx W (w.heap.size + 1) (.slice (some ad) 1 c2) := by rw [← eW]; have := ((bx.new (w.alloc (Obj.cells #[(.slice A1 n1 c1)] 29)) (.slice (some ad) 1 c2)).alloc (Obj.cells #[Value.slice none 0 0] 29)).alloc (Obj.cells #[Value.slice none 0 0] 29); simpa using this
 have f0 : bx W w.heap.size (.slice A1 n1 c1) := by rw [← eW]; exact (((bx.new w (.slice A1 n1 c1)).alloc (Obj.cells #[(.slice (some ad) 1 c2)] 29)).alloc (Obj.cells #[Value.slice none 0 0] 29)).alloc (Obj.cells #[Value.slice none 0 0] 29)
 obtain ⟨b0, e0⟩ : ∃ b, w.heap.size = b := ⟨_, rfl⟩
 obtain ⟨b1, e1⟩ : ∃ b, w.heap.size + 1 = b := ⟨_, rfl⟩
 obtain ⟨b2, e2⟩ : ∃ b, w.heap.size + 1 + 1 = b := ⟨_, rfl⟩
 obtain ⟨b3, e3⟩ : ∃ b, w.heap.size + 1 + 1 + 1 = b := ⟨_, rfl⟩
 rw [e3] at f3 ⊢
 rw [e2] at f2 ⊢
 rw [e1] at f1 ⊢
 have n01 : b0 ≠ b1 := by omega
 have n02 : b0 ≠ b2 := by omega
 have n03 : b0 ≠ b3 := by omega
 have n12 : b1 ≠ b2 := by omega
 have n13 : b1 ≠ b3 := by omega
 have n23 : b2 ≠ b3 := by omega
 have l2 : w.heap.size ≤ b2 := by omega
 have l3 : w.heap.size ≤ b3 := by omega
 clear e1 e2 e3 eW
 rw [e0] at f0
 have Z := zy1 (h2.below hB)
 rw [decf hy0] at Z
 refine Z.mono ?_
 rintro e w1 ⟨rfl, hb⟩
 replace f3 := f3.below hb
 replace f2 := f2.below hb
 replace f1 := f1.below hb
 replace f0 := f0.below hb
 replace hB := hB.trans (hb.mono hB.size)
 clear hb Z
 go_wp2_with (first | refine Cel.lW rfl 29 _ rfl b0 rfl 29 #[.slice A1 n1 c1] (0, 0) _ f0 hu29 rfl zh ?_ | refine Cel.lW rfl 29 _ rfl b1 rfl 29 #[.slice (some ad) 1 c2] (0, 0) _ f1 hu29 rfl zh ?_)
 refine (cmp_c (h1.below hB) (h2.below hB) (by omega)).mono ?_
 rintro e w2 ⟨rfl, hb⟩
 replace f3 := f3.below hb
 replace f2 := f2.below hb
 replace f1 := f1.below hb
 replace f0 := f0.below hb
 replace hB := hB.trans (hb.mono hB.size)
 clear hb
 generalize zv1 x y = cm at hcm ⊢
 have k1 : w2.cell? ⟨b1, 0, none⟩ = some (.slice (some ad) 1 c2) := (kC f1 0).trans rfl
 have k0 : w2.cell? ⟨b0, 0, none⟩ = some (.slice A1 n1 c1) := (kC f0 0).trans rfl
 go_wp2_with fail
 have k2 : w2.cell? ad = some (.int .u64 (y : Int)) := (Nw.word (h2.below hB)).2 ad rfl
 refine zt0 (n := 12) (S := fun w' => w'.cell? ⟨b0, 0, none⟩ = some (.slice A1 n1 c1) ∧ w'.cell? ⟨b1, 0, none⟩ = some (.slice (some ad) 1 c2) ∧ w'.cell? ad = some (.int .u64 (y : Int))) (ds := []) #[ff,ff,ff,ff,ff,ff,ff,ff,ff,ff,ff,ff] (by kernel_rfl) rfl rfl ⟨k0, k1, k2⟩ (fun hHeld => ?_)
 replace f3 := f3.drew
 replace f2 := f2.drew
 replace f1 := f1.drew
 replace f0 := f0.drew
 replace hB := hB.drew
 clear k0 k1 k2
 generalize w2.drew = w3 at f3 f2 f1 f0 hB hHeld ⊢
 refine za 0 29 ?_ #[tt,ff,ff,ff,ff,ff,ff,ff,ff,ff,ff,ff] rfl rfl (by kernel_rfl) (fun _ _ _ h => h) (Or.inl ⟨by rfl, ?_⟩) ?_ ?_ ?_
 rotate_left
 ·intro w'
  go_simp
  with_reducible rfl
 rotate_left
 ·simp only [Act.put, s2_, s0_, s1_, iw, jw]
  rfl
 refine za 2 31 ?_ #[tt,ff,tt,ff,ff,ff,ff,ff,ff,ff,ff,ff] rfl rfl (by kernel_rfl) (fun _ _ _ h => h) (Or.inl ⟨by rfl, ?_⟩) ?_ ?_ ?_
 rotate_left
 ·intro w'
  go_simp
  with_reducible rfl
 rotate_left
 ·simp only [Act.put, s2_, s0_, s1_, iw, jw]
  rfl
 refine z10 1 30 ?_ #[tt,tt,tt,ff,ff,ff,ff,ff,ff,ff,ff,ff] rfl rfl (by kernel_rfl) (fun _ _ _ h => h) (Or.inl ⟨by rfl, ?_⟩) hHeld ?_ ?_ ?_
 rotate_left
 ·rintro w' ⟨s0, s1, s2⟩
  go_simp
  with_reducible rfl
 rotate_left
 ·simp only [Act.put, s2_, s0_, s1_, iw, jw]
  rfl
 refine z10 3 32 ?_ #[tt,tt,tt,tt,ff,ff,ff,ff,ff,ff,ff,ff] rfl rfl (by kernel_rfl) (fun _ _ _ h => h) (Or.inl ⟨by rfl, ?_⟩) hHeld ?_ ?_ ?_
 rotate_left
 ·rintro w' ⟨s0, s1, s2⟩
  go_simp
  with_reducible rfl
 rotate_left
 ·simp only [Act.put, s2_, s0_, s1_, iw, jw]
  rfl
 refine za 4 33 ?_ #[tt,tt,tt,tt,tt,ff,ff,ff,ff,ff,ff,ff] rfl rfl (by kernel_rfl) (fun _ _ _ h => h) (Or.inl ⟨by rfl, ?_⟩) ?_ ?_ ?_
 rotate_left
 ·intro w'
  go_simp
  with_reducible rfl
 rotate_left
 ·simp only [Act.put, s2_, s0_, s1_, iw, jw]
  rfl
 refine z10 5 34 ?_ #[tt,tt,tt,tt,tt,tt,ff,ff,ff,ff,ff,ff] rfl rfl (by kernel_rfl) (fun _ _ _ h => h) (Or.inl ⟨by rfl, ?_⟩) hHeld ?_ ?_ ?_
 rotate_left
 ·rintro w' ⟨s0, s1, s2⟩
  go_simp
  with_reducible rfl
 rotate_left
 ·simp only [Act.put, s2_, s0_, s1_, iw, jw]
  rfl
 refine zh0 (i := 6) (N := some 35) #[tt,tt,tt,tt,tt,tt,tt,ff,ff,ff,ff,ff] rfl rfl (by kernel_rfl) (by decide) (fun K hK => ?_)
 refine z00 Tryd.func67 (by kernel_rfl) rfl #[.slice A1 n1 c1, .int .u64 (y : Int)] (by rfl) rfl rfl (by (try simp only [List.map_toArray, List.map_cons, List.map_nil]); first | done | rfl | (simp only [List.length_drop, List.length_take]; rfl)) ?_
 obtain ⟨m, hm⟩ : ∃ m, x % y = m := ⟨_, rfl⟩
 have Z := divs_c (h1.below hB) (by omega) y (Nw.lt h2).1 (Nw.lt h2).2
 rw [hm] at Z
 refine Z.mono ?_
 rintro e w4 ⟨q, Q, rfl, hq, hqR, hql, hqV, hb⟩
 refine ⟨_, rfl, ?_⟩
 have g3 := f3.lt
 have g2 := f2.lt
 have hw3 := hB.size
 replace f3 := f3.below hb
 replace f2 := f2.below hb
 replace f1 := f1.below hb
 replace f0 := f0.below hb
 replace hB := hB.trans (hb.mono hB.size)
 refine hK.out _ _ ⟨(kC f0 0).trans rfl, (kC f1 0).trans rfl, (Nw.word (h2.below hB)).2 ad rfl⟩ (fun hHeld => ?_)
 refine zg (a' := ?_) ?_ ?_
 rotate_left
 ·show Act.put _ (some 35) _ = _
  simp only [Act.put, s2_, s0_, s1_, iw, jw]
  rfl
 refine za 7 28 ?_ #[tt,tt,tt,tt,tt,tt,tt,tt,ff,ff,ff,ff] rfl rfl (by kernel_rfl) (fun _ _ _ h => h) (Or.inl ⟨by rfl, ?_⟩) ?_ ?_ ?_
 rotate_left
 ·intro w'
  go_simp
  with_reducible rfl
 rotate_left
 ·simp only [Act.put, s2_, s0_, s1_, iw, jw]
  rfl
 refine za 8 36 ?_ #[tt,tt,tt,tt,tt,tt,tt,tt,tt,ff,ff,ff] rfl rfl (by kernel_rfl) (fun _ _ _ h => h) (Or.inl ⟨by rfl, ?_⟩) ?_ ?_ ?_
 rotate_left
 ·intro w'
  go_simp
  with_reducible rfl
 rotate_left
 ·simp only [Act.put, s2_, s0_, s1_, iw, jw]
  rfl
 refine za 9 37 ?_ #[tt,tt,tt,tt,tt,tt,tt,tt,tt,tt,ff,ff] rfl rfl (by kernel_rfl) (fun _ _ _ h => h) (Or.inl ⟨by rfl, ?_⟩) ?_ ?_ ?_
 rotate_left
 ·intro w'
  go_simp
  with_reducible rfl
 rotate_left
 ·simp only [Act.put, s2_, s0_, s1_, iw, jw]
  rfl
 refine za 10 7 ?_ #[tt,tt,tt,tt,tt,tt,tt,tt,tt,tt,tt,ff] rfl rfl (by kernel_rfl) (fun _ _ _ h => h) (Or.inl ⟨by rfl, ?_⟩) ?_ ?_ ?_
 rotate_left
 ·intro w'
  go_simp
  with_reducible rfl
 rotate_left
 ·simp only [Act.put, s2_, s0_, s1_, iw, jw]
  rfl
 refine za 11 8 ?_ #[tt,tt,tt,tt,tt,tt,tt,tt,tt,tt,tt,tt] rfl rfl (by kernel_rfl) (fun _ _ _ h => h) (Or.inl ⟨by rfl, ?_⟩) ?_ ?_ ?_
 rotate_left
 ·intro w'
  go_simp
  with_reducible rfl
 rotate_left
 ·simp only [Act.put, s2_, s0_, s1_, iw, jw]
  rfl
 refine zh1 (by kernel_rfl) ?_
 obtain ⟨A3, c3, rfl⟩ := Kd.zo hq
 rw [en1] at hql
 have hmy : m < 18446744073709551616 := by have := (Nw.lt h2).2; have := Nat.mod_lt x (Nw.lt h2).1; have : BW = 18446744073709551616 := rfl; omega
 have HQL := Q0.mk hql
 rw [hql] at hq ⊢
 clear hql
 go_wp2_with fail
 refine (norm_c (n := x / y) hb.size (show Kf .u64 w3.heap.size w4 _ Q by rw [← HQL.out] at hq; rw [← HQL.out]; exact hq) hqR hqV (by have := HQL.out; omega)).mono ?_
 rintro e w5 ⟨z, rfl, hz, hb5⟩
 replace f3 := f3.below hb5
 replace f2 := f2.below hb5
 replace hB := hB.trans (hb5.mono hB.size)
 clear f1 f0 hq hqR hqV Z
 go_wp2_with fail
 refine (of_c m hmy).mono ?_
 rintro e w6 ⟨z2, rfl, hz2, hb6⟩
 have hw5 := hb5.size
 have hw4 := hb.size
 replace f3 := f3.below hb6
 replace f2 := f2.below hb6
 replace hz : Kf .u64 w3.heap.size w6 z _ := Kd.zl hz hb6
 replace hz2 : Kf .u64 w3.heap.size w6 z2 _ := Kf.mono hz2 (Nat.le_trans hw4 hw5)
 replace hB := hB.trans (hb6.mono hB.size)
 clear hb hb5 hb6
 obtain ⟨A5, c5, rfl⟩ := Kd.zo hz
 obtain ⟨A6, c6, rfl⟩ := Kd.zo hz2
 have hs2 : w6.cell? ⟨b2, 0, none⟩ = some (.slice none 0 0) := (kC f2 0).trans rfl
 have hfs2 := kF f2 0
 have hs3 : w6.cell? ⟨b3, 0, none⟩ = some (.slice none 0 0) := (kC f3 0).trans rfl
 have hfs3 := kF f3 0
 have n32 := n23.symm
 go_wp2_with fail
 replace f3 := zr0 f3 (p := ⟨b2, 0, none⟩) n23.symm (.slice A5 (wd BW (x / y)).length c5)
 replace f2 := zc0 (cs := #[.slice none 0 0]) (cs' := #[.slice A5 (wd BW (x / y)).length c5]) f2 0 (.slice A5 (wd BW (x / y)).length c5) rfl
 replace f2 := zr0 f2 (p := ⟨b3, 0, none⟩) n23 (.slice A6 (wd BW m).length c6)
 replace f3 := zc0 (cs := #[.slice none 0 0]) (cs' := #[.slice A6 (wd BW m).length c6]) f3 0 (.slice A6 (wd BW m).length c6) rfl
 replace hB := bS (v := .slice A6 (wd BW m).length c6) (j := 0) (bS (v := .slice A5 (wd BW (x / y)).length c5) (j := 0) hB l2) l3
 replace hz := Kf.put (n := w3.heap.size) (Kf.put (n := w3.heap.size) hz g2 (.slice A5 (wd BW (x / y)).length c5)) g3 (.slice A6 (wd BW m).length c6)
 replace hz2 := Kf.put (n := w3.heap.size) (Kf.put (n := w3.heap.size) hz2 g2 (.slice A5 (wd BW (x / y)).length c5)) g3 (.slice A6 (wd BW m).length c6)
 refine bodyPost_ret (zt (rs := [.cell 4 29, .cell 5 29, .tmp 6]) rfl (by simp) (.cell b2 29 #[.slice A5 (wd BW (x / y)).length c5] (0, 0) _ rfl f2 Tryd.underlying29 rfl zh (.cell b3 29 #[.slice A6 (wd BW m).length c6] (0, 0) _ rfl f3 Tryd.underlying29 rfl zh (.tmp .nil)))) rfl ?_
 subst hm
 exact ⟨_, _, rfl, Kf.mono hz hw3, Kf.mono hz2 hw3, hB⟩
theorem div_c {w : World} {P : Nat → Prop} {u : Value} {x : Nat} (h1 : Kd.V (Kd.int .u64) 0 w 0 P u (wd BW x)) {v : Value} {y : Nat} (h2 : Nw w v y) (hxl : (wd BW x).length ≤ 100000) (hy : 0 < y) :
  Calls Tryd.prog 40 #[.agg #[u], .agg #[v]] w fun e w' => ∃ z z', e = .returned (.tuple #[.agg #[z], .agg #[z'], .int .i64 0]) ∧ Nf w.heap.size w' z (x / y) ∧ Kd.V (Kd.int .u64) 0 w' 0 (fun i => P i ∨ w.heap.size ≤ i) z' (wd BW (x % y)) ∧ Below w.heap.size w w' := by
 have h1' : Nw w u x := Kw.ofV h1
 by_cases hlt : x < y
 ·refine (div_lt_c h1' h2 (by omega) hlt).mono ?_
  rintro e w' ⟨rfl, hb⟩
  refine ⟨_, _, rfl, ?_, ?_, hb⟩
  ·rw [Nat.div_eq_of_lt hlt]; exact Nf.zero _ _
  ·rw [Nat.mod_eq_of_lt hlt]; exact Kd.VM_ (Kd.zl h1 hb) (fun i hi => .inl hi)
 ·by_cases hl : (wd BW y).length = 1
  ·refine (div_small_c h1' h2 (by omega) hl hxl).mono ?_
   rintro e w' ⟨z, z', rfl, hz, hz', hb⟩
   exact ⟨z, z', rfl, hz, Kd.VM_ hz' (fun i hi => .inr hi), hb⟩
  ·have h2l : 2 ≤ (wd BW y).length := by
    rcases Nat.eq_zero_or_pos (wd BW y).length with h | h
    ·exact absurd (List.length_eq_zero_iff.1 h) (wd_ne (by decide) hy)
    ·omega
   refine (div_great_c h1' h2 (by omega) h2l hxl).mono ?_
   rintro e w' ⟨z, z', rfl, hz, hz', hb⟩
   exact ⟨z, z', rfl, hz, Kd.VM_ hz' (fun i hi => .inr hi), hb⟩
def decF : Nat → Nat → List UInt8
 | 0, _ => []
 | k + 1, u => if u < 10 then [UInt8.ofNat (48 + u)] else decF k (u / 10) ++ [UInt8.ofNat (48 + u % 10)]
theorem decF_eq : ∀ (k u : Nat), u < 10 ^ (k + 1) → Lib.decDigits u = decF (k + 1) u
 | 0, u, h => by
  have h : u < 10 := by simpa using h
  rw [Lib.decDigits_one h, decF, if_pos h]
 | k + 1, u, h => by
  by_cases h1 : u < 10
  ·rw [Lib.decDigits_one h1, decF, if_pos h1]
  ·rw [Lib.decDigits, dif_neg h1, decF, if_neg h1, decF_eq k (u / 10) (by rw [Nat.pow_succ] at h; omega)]
theorem dec_awake : zx1 18446744073709551616 = ⟨#[49, 56, 52, 52, 54, 55, 52, 52, 48, 55, 51, 55, 48, 57, 53, 53, 49, 54, 49, 54]⟩ := by
 unfold zx1
 rw [decF_eq 19 _ (by decide)]
 rfl
theorem Kw.newly (k : IntKind) (w : World) (l : List Int) (e : Nat) (c : Nat) (hl : l.length ≤ 1000) (hc : l.length ≤ c) : Kw k (w.alloc (.cells (l.map (Value.int k)).toArray e)) (.slice (some ⟨w.heap.size, 0, none⟩) l.length c) l := by
 refine ⟨_, _, rfl, hc, rfl, by omega, fun _ => ⟨_, rfl, ?_⟩⟩
 intro j p hj
 refine ⟨[.int k p], rfl, rfl, ?_⟩
 intro i u hi
 match i, hi with
 | 0, hi =>
  have hu : Value.int k p = u := by simpa using hi
  subst hu
  have h0 : (w.alloc (.cells (l.map (Value.int k)).toArray e)).heap[w.heap.size]? = some (.cells (l.map (Value.int k)).toArray e (0, 0)) := heap_alloc_new w _
  have h1 := kC h0 j
  have e1 : (⟨w.heap.size, 0, none⟩ : Addr).add (j * (Kd.int k).sz + 0) = ⟨w.heap.size, j, none⟩ := by
   show (⟨w.heap.size, 0, none⟩ : Addr).add (j * 1 + 0) = _
   unfold Addr.add
   by_cases hj0 : j = 0
   ·subst hj0; simp
   ·simp; omega
  rw [e1, h1]
  simp [List.getElem?_map, hj]
 | i + 1, hi => simp at hi
theorem Kw.shape {k : IntKind} {w : World} {v : Value} {l : List Int} (h : Kw k w v l) : ∃ A n c, v = .slice A n c := by
 obtain ⟨A, c, rfl, _⟩ := h
 exact ⟨_, _, _, rfl⟩
theorem V_nat {l : List Int} (h : R BW l) : ∃ n : Nat, V BW l = n ∧ (wd BW n).length ≤ l.length := by
 have h0 := zn0 (by decide) h
 have h1 := V_lt (by decide) h
 obtain ⟨n, hn⟩ := Int.eq_ofNat_of_zero_le h0
 refine ⟨n, hn, (zn (by decide) _).2 ?_⟩
 rw [hn] at h1
 exact_mod_cast h1
theorem awake_c {w : World} (htab : Tab w) :
  Calls Tryd.prog 14 #[] w fun e w' => e = .returned (.bool true) ∧ Below w.heap.size w w' := by
 have hu29 := Tryd.underlying29
 have hB : Below w.heap.size w w := Below.refl _ _
 go_enter Tryd.func14, Tryd.ntmps14
 go_wp2_with fail
 have hl : (wd BW 18446744073709551616).length ≤ 2 := (zn (by decide) 2).2 (by decide)
 have F := from_c (n := 18446744073709551616) (Kw.newly .u64 w [0, 1] 40 2 (by decide) (by decide)) (by intro x hx; simp at hx; rcases hx with rfl | rfl <;> decide) (by decide) (by decide)
 rw [show zw2 18446744073709551616 = 0 by unfold zw2; rw [if_pos (by omega)], show fitN 18446744073709551616 = 18446744073709551616 by unfold fitN; rw [if_pos (by omega)]] at F
 refine F.mono ?_
 rintro e w1 ⟨z, rfl, hz, hb⟩
 have hB1 : Below w.heap.size w w1 := (bA (Below.refl _ _) _).trans (hb.mono (by simp))
 have hN : Nw w1 z 18446744073709551616 := Kf.kw hz
 obtain ⟨A3, n3, c3, rfl⟩ := hN.shape
 clear F hz hb hB
 go_wp2_with fail
 have f1 := bx.new w1 (.slice A3 n3 c3)
 have hN2 := hN.below (bA (Below.refl w1.heap.size w1) (.cells #[.slice A3 n3 c3] 29))
 have hB := hB1.trans ((bA (Below.refl w1.heap.size w1) (.cells #[.slice A3 n3 c3] 29)).mono hB1.size)
 clear hN hB1
 generalize w1.alloc (.cells #[.slice A3 n3 c3] 29) = w2 at f1 hN2 hB ⊢
 generalize w1.heap.size = b1 at f1 ⊢
 have F := bits_c hN2 (by omega)
 rw [show nb 18446744073709551616 = 65 by decide] at F
 refine F.mono ?_
 rintro e w3 ⟨rfl, hb⟩
 replace f1 := f1.below hb
 replace hN2 := hN2.below hb
 replace hB := hB.trans (hb.mono hB.size)
 clear hb
 clear F
 go_wp2_with (first | refine Cel.lW rfl 29 _ rfl b1 rfl 29 #[.slice A3 n3 c3] (0, 0) _ f1 hu29 rfl zh ?_)
 have F := str_c hN2 (by omega) (htab.below hB)
 rw [dec_awake] at F
 refine F.mono ?_
 rintro e w4 ⟨rfl, hb⟩
 replace hB := hB.trans (hb.mono hB.size)
 clear hb
 clear F f1 hN2
 go_wp2_with fail
 refine (of_c 7 (by decide)).mono ?_
 rintro e w5 ⟨z7, rfl, h7, hb⟩
 replace hB := hB.trans (hb.mono hB.size)
 clear hb
 go_wp2_with fail
 refine (of_c 6 (by decide)).mono ?_
 rintro e w6 ⟨z6, rfl, h6, hb⟩
 have h7' := (Kf.kw h7).below hb
 replace hB := hB.trans (hb.mono hB.size)
 clear hb
 go_wp2_with fail
 have l7 : (wd BW 7).length ≤ 1000000 := Nat.le_trans ((zn (by decide) 1).2 (by decide)) (by decide)
 refine (cmp_c h7' (Kf.kw h6) l7).mono ?_
 rintro e w7 ⟨rfl, hb⟩
 replace hB := hB.trans (hb.mono hB.size)
 clear hb
 rw [show zv1 7 6 = 1 by decide]
 go_wp2
 go_ret
 exact ⟨rfl, hB⟩
theorem len_add {x y k : Nat} (hx : (wd BW x).length ≤ k) (hy : (wd BW y).length ≤ k) : (wd BW (x + y)).length ≤ k + 1 := by
 rw [zn (by decide)] at hx hy ⊢
 rw [Nat.pow_succ]
 generalize BW ^ k = p at hx hy ⊢
 have : BW = 18446744073709551616 := rfl
 rw [this]; omega
theorem len_mul {x y i j : Nat} (hx : (wd BW x).length ≤ i) (hy : (wd BW y).length ≤ j) : (wd BW (x * y)).length ≤ i + j := by
 rw [zn (by decide)] at hx hy ⊢
 rw [Nat.pow_add]
 exact Nat.mul_lt_mul'' hx hy
theorem zb4 {n : Nat} (h : (wd BW n).length ≤ 64) : zw2 n = 0 := by unfold zw2; rw [if_pos h]
theorem za4 {n : Nat} (h : (wd BW n).length ≤ 64) : fitN n = n := by unfold fitN; rw [if_pos h]
theorem fromk_c {w : World} {u : Value} {l : List Int} {n : Nat} (h1 : Kw .u64 w u l) (hR : R BW l) (hV : V BW l = n) (hl : l.length ≤ 1000000) (hf : (wd BW n).length ≤ 64) : Calls Tryd.prog 16 #[u] w fun e w' => ∃ z, e = .returned (.tuple #[.agg #[z], .int .i64 0]) ∧ Nw w' z n ∧ Below w.heap.size w w' := by
 have F := from_c h1 hR hV hl
 rw [zb4 hf, za4 hf] at F
 refine F.mono ?_
 rintro e w' ⟨z, rfl, hz, hb⟩
 exact ⟨z, rfl, Kf.kw hz, hb⟩
theorem addk_c {w : World} {u : Value} {x : Nat} (h1 : Nw w u x) {v : Value} {y : Nat} (h2 : Nw w v y) (k : Nat) (hx : (wd BW x).length ≤ k) (hy : (wd BW y).length ≤ k) (hk : k ≤ 63) : Calls Tryd.prog 32 #[.agg #[u], .agg #[v]] w fun e w' => ∃ z, e = .returned (.tuple #[.agg #[z], .int .i64 0]) ∧ Nw w' z (x + y) ∧ Below w.heap.size w w' := by
 have F := add_c h1 h2 (by omega) (by omega)
 have hf := len_add hx hy
 rw [zb4 (by omega), za4 (by omega)] at F
 refine F.mono ?_
 rintro e w' ⟨z, rfl, hz, hb⟩
 exact ⟨z, rfl, Kf.kw hz, hb⟩
theorem cmpN_eq {x y : Nat} (h : x = y) : zv1 x y = 0 := by unfold zv1; rw [if_neg (by omega), if_neg (by omega)]
theorem cmpN_lt {x y : Nat} (h : x < y) : zv1 x y = -1 := by unfold zv1; rw [if_pos h]
theorem gcd_c {w : World} {u : Value} {x : Nat} (h1 : Nw w u x) {v : Value} {y : Nat} (h2 : Nw w v y) (hxl : (wd BW x).length ≤ 100000) (hyl : (wd BW y).length ≤ 100000) :
  Calls Tryd.prog 41 #[.agg #[u], .agg #[v]] w fun e w' => ∃ z, e = .returned (.agg #[z]) ∧ Nw w' z (Nat.gcd x y) ∧ Below w.heap.size w w' := by
 have hu29 := Tryd.underlying29
 have hi29 : (Tryd.prog.info? 29).map (·.size) = some (#[Value.slice none 0 0] : Array Value).size := zh
 have ho29 : (#[Value.slice none 0 0] : Array Value).all (·.oneCell') = true := by kernel_rfl
 go_enter Tryd.func41, Tryd.ntmps41
 go_wp2_with fail
 obtain ⟨W, eW⟩ : ∃ W, ((w.alloc (Obj.cells #[u] 29)).alloc (Obj.cells #[v] 29)).alloc (Obj.cells #[Value.slice none 0 0] 29) = W := ⟨_, rfl⟩
 rw [eW]
 have hB : Below w.heap.size w W := by rw [← eW]; exact (((Below.refl _ _).alloc (by simp <;> omega) _).alloc (by simp <;> omega) _).alloc (by simp <;> omega) _
 have f2 : bx W (w.heap.size + 1 + 1) (.slice none 0 0) := by rw [← eW]; have := (bx.new ((w.alloc (Obj.cells #[u] 29)).alloc (Obj.cells #[v] 29)) (.slice none 0 0)); simpa using this
 have f1 : bx W (w.heap.size + 1) v := by rw [← eW]; have := ((bx.new (w.alloc (Obj.cells #[u] 29)) v).alloc (Obj.cells #[Value.slice none 0 0] 29)); simpa using this
 have f0 : bx W w.heap.size u := by rw [← eW]; exact ((bx.new w u).alloc (Obj.cells #[v] 29)).alloc (Obj.cells #[Value.slice none 0 0] 29)
 obtain ⟨b0, e0⟩ : ∃ b, w.heap.size = b := ⟨_, rfl⟩
 obtain ⟨b1, e1⟩ : ∃ b, w.heap.size + 1 = b := ⟨_, rfl⟩
 obtain ⟨b2, e2⟩ : ∃ b, w.heap.size + 1 + 1 = b := ⟨_, rfl⟩
 have hU : Kd.V (Kd.int .u64) 0 W 0 (fun i => i ≠ b0 ∧ i ≠ b1 ∧ i ≠ b2) u (wd BW x) := Kd.VM_ (Kd.zl (h1.V 0 0) hB) (fun i hi => ⟨by omega, by omega, by omega⟩)
 have hV : Kd.V (Kd.int .u64) 0 W 0 (fun i => i ≠ b0 ∧ i ≠ b1 ∧ i ≠ b2) v (wd BW y) := Kd.VM_ (Kd.zl (h2.V 0 0) hB) (fun i hi => ⟨by omega, by omega, by omega⟩)
 rw [e2] at f2 ⊢
 rw [e1] at f1 ⊢
 have n01 : b0 ≠ b1 := by omega
 have n02 : b0 ≠ b2 := by omega
 have n12 : b1 ≠ b2 := by omega
 have l0 : w.heap.size ≤ b0 := by omega
 have l1 : w.heap.size ≤ b1 := by omega
 have l2 : w.heap.size ≤ b2 := by omega
 rw [e0] at f0 ⊢
 clear e1 e2 eW h1 h2
 have l0' := l0
 have l1' := l1
 have l2' := l2
 clear e0 l0 l1 l2
 go_loopg [] y (fun k wr => ∃ p U V, Q0 (Nat.gcd p k = Nat.gcd x y) ∧ Q0 ((wd BW p).length ≤ 100000) ∧ Q0 ((wd BW k).length ≤ 100000) ∧ Q0 (bx wr b0 U) ∧ Q0 (bx wr b1 V) ∧ Q0 (bx wr b2 (.slice none 0 0)) ∧ Q0 (Kd.V (Kd.int .u64) 0 wr 0 (fun i => i ≠ b0 ∧ i ≠ b1 ∧ i ≠ b2) U (wd BW p)) ∧ Q0 (Kd.V (Kd.int .u64) 0 wr 0 (fun i => i ≠ b0 ∧ i ≠ b1 ∧ i ≠ b2) V (wd BW k)) ∧ Q0 (Below w.heap.size w wr))
 case atStart => exact ⟨x, u, v, ⟨rfl⟩, ⟨hxl⟩, ⟨hyl⟩, ⟨f0⟩, ⟨f1⟩, ⟨f2⟩, ⟨hU⟩, ⟨hV⟩, ⟨hB⟩⟩
 case round =>
  clear f0 f1 f2 hU hV hB hxl hyl
  obtain ⟨p, U, V, HG, HP, HK, G0, G1, G2, HU, HV, HB⟩ := hrel
  have f0 := G0.out
  have f1 := G1.out
  have f2 := G2.out
  have hV' : Nw wr V gk := Kw.ofV HV.out
  obtain ⟨A1, c1, rfl⟩ := Kd.zo HV.out
  obtain ⟨A0, c0, rfl⟩ := Kd.zo HU.out
  obtain ⟨n1, en1⟩ : ∃ n, (wd BW gk).length = n := ⟨_, rfl⟩
  obtain ⟨n0, en0⟩ : ∃ n, (wd BW p).length = n := ⟨_, rfl⟩
  rw [en1] at f1 hV' HV
  rw [en0] at f0 HU
  clear G0 G1 G2 en0 en1
  go_wp2_with (first | refine Cel.lW rfl 29 _ rfl b1 rfl 29 #[.slice A1 n1 c1] (0, 0) _ f1 hu29 rfl zh ?_)
  by_cases hk : gk = 0
  ·have Z := zy1 hV'
   rw [decide_eq_true hk] at Z
   refine Z.mono ?_
   rintro e w1 ⟨rfl, hb⟩
   have hB := HB.out.trans (hb.mono HB.out.size)
   have hUw := Kd.zl HU.out hb
   have hgp : p = Nat.gcd x y := by rw [← HG.out, hk, Nat.gcd_zero_right]
   replace f0 := f0.below hb
   replace f2 := f2.below hb
   have k0 : w1.cell? ⟨b0, 0, none⟩ = some (.slice A0 n0 c0) := (kC f0 0).trans rfl
   have k2 : w1.cell? ⟨b2, 0, none⟩ = some (.slice none 0 0) := (kC f2 0).trans rfl
   have hfs2 := kF f2 0
   have HGP := Q0.mk hgp
   clear hb Z HU HV HB hV' f1 hk HG HK HP hgp
   go_wp2_with fail
   refine bodyPost_ret (results_cell_row rfl _ _ b2 29 #[.slice A0 n0 c0] (0, 0) _ rfl (zc0 (cs := #[.slice none 0 0]) (cs' := #[.slice A0 n0 c0]) f2 0 (.slice A0 n0 c0) rfl) Tryd.underlying29 rfl zh) rfl ?_
   refine ⟨_, rfl, ?_, ?_⟩
   ·rw [← HGP.out]
    exact Kw.ofV (Kd.zn1 (p := ⟨b2, 0, none⟩) hUw (fun i hi => hi.2.2) (.slice A0 n0 c0))
   ·exact bS hB l2'
  ·have Z := zy1 hV'
   rw [decide_eq_false hk] at Z
   refine Z.mono ?_
   rintro e w1 ⟨rfl, hb⟩
   have hB := HB.out.trans (hb.mono HB.out.size)
   have hU1 := Kd.zl HU.out hb
   have hVw := hV'.below hb
   have hV1 := Kd.zl HV.out hb
   replace f0 := f0.below hb
   replace f1 := f1.below hb
   replace f2 := f2.below hb
   clear hb Z HU HV HB hV'
   go_wp2_with (first | refine Cel.lW rfl 29 _ rfl b1 rfl 29 #[.slice A1 n1 c1] (0, 0) _ f1 hu29 rfl zh ?_ | refine Cel.lW rfl 29 _ rfl b0 rfl 29 #[.slice A0 n0 c0] (0, 0) _ f0 hu29 rfl zh ?_)
   have Z := div_c hU1 hVw HP.out (by omega)
   refine Z.mono ?_
   rintro e w2 ⟨z, z', rfl, hz, hz', hb⟩
   replace hB := hB.trans (hb.mono hB.size)
   have s1 := f0.lt
   have s2 := f1.lt
   have s3 := f2.lt
   have hz2 : Kd.V (Kd.int .u64) 0 w2 0 (fun i => i ≠ b0 ∧ i ≠ b1 ∧ i ≠ b2) z' (wd BW (p % gk)) := Kd.VM_ hz' (fun i hi => hi.elim id (fun h => ⟨by omega, by omega, by omega⟩))
   replace f0 := f0.below hb
   replace f1 := f1.below hb
   replace f2 := f2.below hb
   have hV2 := Kd.zl hV1 hb
   obtain ⟨A3, c3, rfl⟩ := Kd.zo hz
   obtain ⟨A4, c4, rfl⟩ := Kd.zo hz2
   obtain ⟨n3, en3⟩ : ∃ n, (wd BW (p / gk)).length = n := ⟨_, rfl⟩
   obtain ⟨n4, en4⟩ : ∃ n, (wd BW (p % gk)).length = n := ⟨_, rfl⟩
   rw [en3] at hz ⊢
   rw [en4] at hz' hz2 ⊢
   clear hb Z hU1 hV1 hVw hz hz' en3 en4
   have HZ := Q0.mk hz2
   have HV := Q0.mk hV2
   clear hz2 hV2
   go_wp2_with fail
   have l24 := f2.lt
   have l14 := f1.lt
   have l04 := f0.lt
   have f5 := bx.new (w2.alloc (.cells #[.slice A3 n3 c3] 29)) (.slice A4 n4 c4)
   replace f0 := (f0.alloc (.cells #[.slice A3 n3 c3] 29)).alloc (.cells #[.slice A4 n4 c4] 29)
   replace f1 := (f1.alloc (.cells #[.slice A3 n3 c3] 29)).alloc (.cells #[.slice A4 n4 c4] 29)
   replace f2 := (f2.alloc (.cells #[.slice A3 n3 c3] 29)).alloc (.cells #[.slice A4 n4 c4] 29)
   have hA : Below w2.heap.size w2 ((w2.alloc (.cells #[.slice A3 n3 c3] 29)).alloc (.cells #[.slice A4 n4 c4] 29)) := bA (bA (Below.refl _ _) _) _
   replace hB := hB.trans (hA.mono hB.size)
   have hz2 := Kd.zl HZ.out hA
   have hV2 := Kd.zl HV.out hA
   rw [show (w2.alloc (.cells #[.slice A3 n3 c3] 29)).heap.size = w2.heap.size + 1 by simp] at f5
   have n50 : w2.heap.size + 1 ≠ b0 := by omega
   clear hA HZ HV s1 s2 s3 l24 l14
   generalize (w2.alloc (Obj.cells #[Value.slice A3 n3 c3] 29)).alloc (Obj.cells #[Value.slice A4 n4 c4] 29) = w4 at f0 f1 f2 f5 hB hz2 hV2 ⊢
   generalize w2.heap.size + 1 = b5 at f5 n50 ⊢
   clear l04
   have n10 := n01.symm
   refine zt0 (n := 4) (S := fun w' => w'.cell? ⟨b1, 0, none⟩ = some (.slice A1 n1 c1) ∧ w'.cell? ⟨b5, 0, none⟩ = some (.slice A4 n4 c4)) (ds := [3]) #[ff,ff,ff,ff] (by kernel_rfl) rfl rfl ⟨(kC f1 0).trans rfl, (kC f5 0).trans rfl⟩ (fun hHeld => ?_)
   replace f0 := f0.drew
   replace f1 := f1.drew
   replace f2 := f2.drew
   replace hB := hB.drew
   replace hz2 := Kd.VD_ hz2
   replace hV2 := Kd.VD_ hV2
   clear f5
   generalize w4.drew = w5 at f0 f1 f2 hB hz2 hV2 hHeld ⊢
   refine z10 0 18 ?_ #[tt,ff,ff,ff] rfl rfl (by kernel_rfl) (fun _ _ _ h => h) (Or.inl ⟨by rfl, ?_⟩) hHeld ?_ ?_ ?_
   rotate_left
   ·rintro w' ⟨s0, s1⟩
    go_simp
    with_reducible rfl
   rotate_left
   ·simp only [Act.put, s2_, s0_, s1_, iw, jw]
    rfl
   refine z10 1 19 ?_ #[tt,tt,ff,ff] rfl rfl (by kernel_rfl) (fun _ _ _ h => h) (Or.inl ⟨by rfl, ?_⟩) hHeld ?_ ?_ ?_
   rotate_left
   ·rintro w' ⟨s0, s1⟩
    go_simp
    with_reducible rfl
   rotate_left
   ·simp only [Act.put, s2_, s0_, s1_, iw, jw]
    rfl
   refine zh0 (i := 2) (N := none) #[tt,tt,tt,ff] rfl rfl (by kernel_rfl) (by decide) (fun K hK => ?_)
   have hs_ := (kC f0 0).trans rfl
   have hfs_ := kF f0 0
   refine zw1 (w1 := ?_) (by rfl) rfl ?_ ?_
   rotate_left
   ·go_simp
    rfl
   clear hs_ hfs_
   refine hK.out _ _ ⟨(cell_far (p := ⟨b0, _, none⟩) n10 _).trans hHeld.1, (cell_far (p := ⟨b0, _, none⟩) n50 _).trans hHeld.2⟩ (fun hHeld => ?_)
   replace f1 := zr0 f1 (p := ⟨b0, 0, none⟩) n10 (.slice A1 n1 c1)
   replace f2 := zr0 f2 (p := ⟨b0, 0, none⟩) n02.symm (.slice A1 n1 c1)
   replace f0 := zc0 (cs := #[.slice A0 n0 c0]) (cs' := #[.slice A1 n1 c1]) f0 0 (.slice A1 n1 c1) rfl
   replace hB := bS (v := .slice A1 n1 c1) (j := 0) hB l0'
   replace hz2 := Kd.zn1 (p := ⟨b0, 0, none⟩) hz2 (fun i hi => hi.1) (.slice A1 n1 c1)
   replace hV2 := Kd.zn1 (p := ⟨b0, 0, none⟩) hV2 (fun i hi => hi.1) (.slice A1 n1 c1)
   generalize w5.setCell ⟨b0, 0, none⟩ (.slice A1 n1 c1) = w6 at f1 f0 f2 hB hz2 hV2 hHeld ⊢
   refine zk3 (i := 3) (N := none) #[tt,tt,tt,tt] rfl rfl (by kernel_rfl) (by decide) (fun K hK => ?_)
   have hs_ := (kC f1 0).trans rfl
   have hfs_ := kF f1 0
   refine zw1 (w1 := ?_) (by rfl) rfl ?_ ?_
   rotate_left
   ·go_simp
    rfl
   clear hs_ hfs_
   refine hK.out _ _ ?_
   replace f0 := zr0 f0 (p := ⟨b1, 0, none⟩) n01 (.slice A4 n4 c4)
   replace f2 := zr0 f2 (p := ⟨b1, 0, none⟩) n12.symm (.slice A4 n4 c4)
   replace f1 := zc0 (cs := #[.slice A1 n1 c1]) (cs' := #[.slice A4 n4 c4]) f1 0 (.slice A4 n4 c4) rfl
   replace hB := bS (v := .slice A4 n4 c4) (j := 0) hB l1'
   replace hz2 := Kd.zn1 (p := ⟨b1, 0, none⟩) hz2 (fun i hi => hi.2.1) (.slice A4 n4 c4)
   replace hV2 := Kd.zn1 (p := ⟨b1, 0, none⟩) hV2 (fun i hi => hi.2.1) (.slice A4 n4 c4)
   refine zh1 (by kernel_rfl) ?_
   go_wp2
   go_roundg (p % gk)
   case measure => exact Nat.mod_lt _ (Nat.pos_of_ne_zero hk)
   case rel =>
    refine ⟨gk, .slice A1 n1 c1, .slice A4 n4 c4, ⟨?_⟩, HK, ⟨?_⟩, ⟨f0⟩, ⟨f1⟩, ⟨f2⟩, ⟨hV2⟩, ⟨hz2⟩, ⟨hB⟩⟩
    ·rw [← HG.out, Nat.gcd_comm gk, ← Nat.gcd_rec, Nat.gcd_comm]
    ·exact Nat.le_trans (zy0 (by decide) (Nat.mod_le _ _)) HP.out
theorem za1 : (Tryd.prog.info? 62).map (·.size) = some 3 := by kernel_rfl
def rb (W : World) (b : Nat) (u v : Value) (s : Bool) : Prop := W.heap[b]? = some (.cells #[u, v, .bool s] 62 (0, 0))
theorem rb.below {W W' : World} {b : Nat} {u v : Value} {s : Bool} (h : rb W b u v s) (hb : Below W.heap.size W W') : rb W' b u v s := (hb.block _ (Array.getElem?_eq_some_iff.1 h).1).trans h
theorem rb.alloc {W : World} {b : Nat} {u v : Value} {s : Bool} (h : rb W b u v s) (o : Obj) : rb (W.alloc o) b u v s := h.below (bA (Below.refl _ _) o)
theorem rb.new (W : World) (u v : Value) (s : Bool) : rb (W.alloc (.cells #[u, v, .bool s] 62)) W.heap.size u v s := heap_alloc_new W _
theorem rb.lt {W : World} {b : Nat} {u v : Value} {s : Bool} (h : rb W b u v s) : b < W.heap.size := (Array.getElem?_eq_some_iff.1 h).1
theorem rb.put {W : World} {b : Nat} {u v : Value} {s : Bool} (h : rb W b u v s) (cs : Array Value) : (W.setRow b cs).heap[b]? = some (.cells cs 62 (0, 0)) := setRow_heap W b _ cs 62 (0, 0) h
theorem Kw.setRow {k : IntKind} {w : World} {u : Value} {l : List Int} {n b : Nat} (h : Kf k n w u l) (hb : b < n) (cs : Array Value) : Kf k n (w.setRow b cs) u l := Kd.V_step h (fun i hi hlt => by
 have hne : i ≠ b := by omega
 exact setRow_other w b i cs hne)
theorem newr_c {w : World} {u : Value} {a : Nat} (h1 : Nw w u a) {v : Value} {b : Nat} (h2 : Nw w v b) (la : (wd BW a).length ≤ 100000) (lb : (wd BW b).length ≤ 100000) (hb0 : 0 < b) :
  Calls Tryd.prog 45 #[.agg #[u], .agg #[v]] w fun e w' => ∃ z z', e = .returned (.tuple #[.agg #[z, z', .bool true], .int .i64 0]) ∧ Nf w.heap.size w' z (a / Nat.gcd a b) ∧ Nf w.heap.size w' z' (b / Nat.gcd a b) ∧ Below w.heap.size w w' := by
 have hu29 := Tryd.underlying29
 have hu62 := Tryd.underlying62
 have hi62 : (Tryd.prog.info? 62).map (·.size) = some (#[Value.slice none 0 0, Value.slice none 0 0, Value.bool false] : Array Value).size := za1
 have ho62 : (#[Value.slice none 0 0, Value.slice none 0 0, Value.bool false] : Array Value).all (·.oneCell') = true := by kernel_rfl
 obtain ⟨Au, nu, cu, rfl⟩ := h1.shape
 obtain ⟨Av, nv, cv, rfl⟩ := h2.shape
 go_enter Tryd.func45, Tryd.ntmps45
 go_wp2_with fail
 have hB : Below w.heap.size w (((w.alloc (Obj.cells #[.slice Au nu cu] 29)).alloc (Obj.cells #[.slice Av nv cv] 29)).alloc (Obj.cells #[Value.slice none 0 0, Value.slice none 0 0, Value.bool false] 62)) := (((Below.refl _ _).alloc (by simp <;> omega) _).alloc (by simp <;> omega) _).alloc (by simp <;> omega) _
 have f_a := ((bx.new w (.slice Au nu cu)).alloc (Obj.cells #[.slice Av nv cv] 29)).alloc (Obj.cells #[Value.slice none 0 0, Value.slice none 0 0, Value.bool false] 62)
 have f_b := (bx.new (w.alloc (Obj.cells #[.slice Au nu cu] 29)) (.slice Av nv cv)).alloc (Obj.cells #[Value.slice none 0 0, Value.slice none 0 0, Value.bool false] 62)
 have f_z := rb.new ((w.alloc (Obj.cells #[.slice Au nu cu] 29)).alloc (Obj.cells #[.slice Av nv cv] 29)) (.slice none 0 0) (.slice none 0 0) false
 have ha := h1.below hB
 have hbb := h2.below hB
 have l_z : w.heap.size ≤ w.heap.size + 1 + 1 := by omega
 rw [show (w.alloc (Obj.cells #[.slice Au nu cu] 29)).heap.size = w.heap.size + 1 by simp] at f_b
 rw [show ((w.alloc (Obj.cells #[.slice Au nu cu] 29)).alloc (Obj.cells #[.slice Av nv cv] 29)).heap.size = w.heap.size + 1 + 1 by simp] at f_z
 generalize (((w.alloc (Obj.cells #[.slice Au nu cu] 29)).alloc (Obj.cells #[.slice Av nv cv] 29)).alloc (Obj.cells #[Value.slice none 0 0, Value.slice none 0 0, Value.bool false] 62)) = w_1 at f_a f_b f_z ha hbb hB ⊢
 generalize w.heap.size + 1 + 1 = b_z at f_z l_z ⊢
 generalize w.heap.size + 1 = b_b at f_b ⊢
 clear h1 h2
 go_wp2_with (first | refine Cel.lW rfl 29 _ rfl b_b rfl 29 #[(.slice Av nv cv)] (0, 0) _ f_b hu29 rfl zh ?_)
 have hgp := Nat.gcd_pos_of_pos_right a hb0
 have F := zy1 hbb
 rw [decide_eq_false (show ¬ b = 0 by omega)] at F
 refine (F).mono ?_
 rintro e w_2 ⟨rfl, hb⟩
 replace ha := ha.below hb
 replace hbb := hbb.below hb
 replace f_z := f_z.below hb
 replace f_a := f_a.below hb
 replace f_b := f_b.below hb
 replace hB := hB.trans (hb.mono hB.size)
 clear hb
 clear F
 go_wp2_with (first | refine Cel.lW rfl 29 _ rfl w.heap.size rfl 29 #[(.slice Au nu cu)] (0, 0) _ f_a hu29 rfl zh ?_ | refine Cel.lW rfl 29 _ rfl b_b rfl 29 #[(.slice Av nv cv)] (0, 0) _ f_b hu29 rfl zh ?_)
 refine (gcd_c ha hbb la lb).mono ?_
 rintro e w_3 ⟨z_g, rfl, hg, hb⟩
 replace ha := ha.below hb
 replace hbb := hbb.below hb
 replace f_z := f_z.below hb
 replace f_a := f_a.below hb
 replace f_b := f_b.below hb
 replace hB := hB.trans (hb.mono hB.size)
 clear hb
 obtain ⟨A_4, n_4, c_4, rfl⟩ := hg.shape
 go_wp2_with (first | refine Cel.lW rfl 29 _ rfl w.heap.size rfl 29 #[(.slice Au nu cu)] (0, 0) _ (f_a.alloc _) hu29 rfl zh ?_ | refine Cel.lW rfl 29 _ rfl w_3.heap.size rfl 29 #[(.slice A_4 n_4 c_4)] (0, 0) _ (bx.new w_3 _) hu29 rfl zh ?_)
 have f_g := bx.new w_3 (.slice A_4 n_4 c_4)
 have hA_ := bA (Below.refl w_3.heap.size w_3) (.cells #[(.slice A_4 n_4 c_4)] 29)
 replace ha := ha.below hA_
 replace hbb := hbb.below hA_
 replace f_z := f_z.below hA_
 replace hg := hg.below hA_
 replace f_a := f_a.below hA_
 replace f_b := f_b.below hA_
 replace hB := hB.trans (hA_.mono hB.size)
 clear hA_
 generalize w_3.alloc (.cells #[(.slice A_4 n_4 c_4)] 29) = w_5 at f_g ha hbb f_z hg f_a f_b hB ⊢
 generalize w_3.heap.size = b_g at f_g ⊢
 have lzx := f_z.lt
 have hwx := hB.size
 refine (div_c (ha.V 0 0) hg la hgp).mono ?_
 rintro e w_6 ⟨z_x, z_m, rfl, hx, hm0, hb⟩
 replace ha := ha.below hb
 replace hbb := hbb.below hb
 replace f_z := f_z.below hb
 replace hg := hg.below hb
 replace f_a := f_a.below hb
 replace f_b := f_b.below hb
 replace f_g := f_g.below hb
 replace hB := hB.trans (hb.mono hB.size)
 clear hb
 have hm : Nw w_6 z_m _ := Kw.ofV hm0
 clear hm0
 obtain ⟨A_7, n_7, c_7, rfl⟩ := (Kf.kw hx).shape
 obtain ⟨A_8, n_8, c_8, rfl⟩ := hm.shape
 have g2_ := bx.new (w_6.alloc (.cells #[(.slice A_7 n_7 c_7)] 29)) (.slice A_8 n_8 c_8)
 rw [show (w_6.alloc (.cells #[(.slice A_7 n_7 c_7)] 29)).heap.size = w_6.heap.size + 1 by simp] at g2_
 go_wp2_with (first | refine Cel.lW rfl 29 _ rfl b_b rfl 29 #[(.slice Av nv cv)] (0, 0) _ ((f_b.alloc _).alloc _) hu29 rfl zh ?_ | refine Cel.lW rfl 29 _ rfl b_g rfl 29 #[(.slice A_4 n_4 c_4)] (0, 0) _ ((f_g.alloc _).alloc _) hu29 rfl zh ?_)
 clear g2_
 have f_x := (bx.new w_6 (.slice A_7 n_7 c_7)).alloc (.cells #[(.slice A_8 n_8 c_8)] 29)
 have f_m := bx.new (w_6.alloc (.cells #[(.slice A_7 n_7 c_7)] 29)) (.slice A_8 n_8 c_8)
 rw [show (w_6.alloc (.cells #[(.slice A_7 n_7 c_7)] 29)).heap.size = w_6.heap.size + 1 by simp] at f_m
 have hA_ : Below w_6.heap.size w_6 ((w_6.alloc (.cells #[(.slice A_7 n_7 c_7)] 29)).alloc (.cells #[(.slice A_8 n_8 c_8)] 29)) := bA (bA (Below.refl _ _) _) _
 replace ha := ha.below hA_
 replace hbb := hbb.below hA_
 replace f_z := f_z.below hA_
 replace hg := hg.below hA_
 replace hx := hx.below hA_
 replace hm := hm.below hA_
 replace f_a := f_a.below hA_
 replace f_b := f_b.below hA_
 replace f_g := f_g.below hA_
 replace hB := hB.trans (hA_.mono hB.size)
 clear hA_
 generalize (w_6.alloc (.cells #[(.slice A_7 n_7 c_7)] 29)).alloc (.cells #[(.slice A_8 n_8 c_8)] 29) = w_9 at f_x f_m ha hbb f_z hg hx hm f_a f_b f_g hB ⊢
 generalize w_6.heap.size + 1 = b_m at f_m ⊢
 generalize w_6.heap.size = b_x at f_x ⊢
 have lzy := f_z.lt
 have hwy := hB.size
 refine (div_c (hbb.V 0 0) hg lb hgp).mono ?_
 rintro e w_10 ⟨z_y, z_n, rfl, hy, hn0, hb⟩
 replace ha := ha.below hb
 replace hbb := hbb.below hb
 replace f_z := f_z.below hb
 replace hg := hg.below hb
 replace hx := hx.below hb
 replace f_a := f_a.below hb
 replace f_b := f_b.below hb
 replace f_g := f_g.below hb
 replace f_x := f_x.below hb
 replace hB := hB.trans (hb.mono hB.size)
 clear hb
 have hn : Nw w_10 z_n _ := Kw.ofV hn0
 clear hn0
 obtain ⟨A_11, n_11, c_11, rfl⟩ := (Kf.kw hy).shape
 obtain ⟨A_12, n_12, c_12, rfl⟩ := hn.shape
 have hi2 : (Tryd.prog.info? 62).map (·.size) = some (#[(.slice A_7 n_7 c_7), (.slice A_11 n_11 c_11), .bool true] : Array Value).size := za1
 have ho2 : (#[(.slice A_7 n_7 c_7), (.slice A_11 n_11 c_11), .bool true] : Array Value).all (·.oneCell') = true := by kernel_rfl
 have hA_ : Below w_10.heap.size w_10 ((w_10.alloc (.cells #[(.slice A_11 n_11 c_11)] 29)).alloc (.cells #[(.slice A_12 n_12 c_12)] 29)) := bA (bA (Below.refl _ _) _) _
 replace hx := hx.below hA_
 replace hy := hy.below hA_
 have hB2 := hB.trans (hA_.mono hB.size)
 have f_z2 := f_z.below hA_
 go_wp2_with (first | refine Cel.lW rfl 29 _ rfl b_x rfl 29 #[(.slice A_7 n_7 c_7)] (0, 0) _ ((f_x.alloc _).alloc _) hu29 rfl zh ?_ | refine Cel.lW rfl 29 _ rfl w_10.heap.size rfl 29 #[(.slice A_11 n_11 c_11)] (0, 0) _ ((bx.new w_10 _).alloc _) hu29 rfl zh ?_ | refine wpList_store_row rfl 62 _ _ rfl b_z #[(.slice A_7 n_7 c_7), (.slice A_11 n_11 c_11), .bool true] rfl rfl 62 _ f_z2 hi2 rfl ho2 ?_)
 refine bodyPost_ret (zt (rs := [.cell 4 62, .tmp 5]) rfl (by simp) (.cell b_z 62 #[(.slice A_7 n_7 c_7), (.slice A_11 n_11 c_11), .bool true] (0, 0) _ rfl (f_z2.put _) Tryd.underlying62 rfl za1 (.tmp .nil))) rfl ?_
 exact ⟨_, _, rfl, Kf.mono (Kw.setRow hx lzx _) hwx, Kf.mono (Kw.setRow hy lzy _) hwy, below_setRow hB2 l_z _⟩
theorem newk_c {w : World} {u : Value} {a : Nat} (h1 : Nw w u a) {v : Value} {b : Nat} (h2 : Nw w v b) (la : (wd BW a).length ≤ 100000) (lb : (wd BW b).length ≤ 100000) (hb0 : 0 < b) :
  Calls Tryd.prog 45 #[.agg #[u], .agg #[v]] w fun e w' => ∃ z z', e = .returned (.tuple #[.agg #[z, z', .bool true], .int .i64 0]) ∧ Nf w.heap.size w' z (a / Nat.gcd a b) ∧ Nf w.heap.size w' z' (b / Nat.gcd a b) ∧ Below w.heap.size w w' := newr_c h1 h2 la lb hb0
theorem qnum_c {w : World} {A1 A2 : Option Addr} {n1 n2 c1 c2 : Nat} {s : Bool} :
  Calls Tryd.prog 88 #[.agg #[.slice A1 n1 c1, .slice A2 n2 c2, .bool s]] w fun e w' => e = .returned (.agg #[.slice A1 n1 c1]) ∧ Below w.heap.size w w' := by
 have hu29 := Tryd.underlying29
 have hu62 := Tryd.underlying62
 go_enter Tryd.func88, Tryd.ntmps88
 have f0 := (rb.new w (.slice A1 n1 c1) (.slice A2 n2 c2) s).alloc (.cells #[.slice none 0 0] 29)
 have f1 := bx.new (w.alloc (.cells #[.slice A1 n1 c1, .slice A2 n2 c2, .bool s] 62)) (.slice none 0 0)
 rw [show (w.alloc (.cells #[.slice A1 n1 c1, .slice A2 n2 c2, .bool s] 62)).heap.size = w.heap.size + 1 by simp] at f1
 have k0 := (kC f0 0).trans rfl
 have f2 := bx.new (w.alloc (.cells #[.slice A1 n1 c1, .slice A2 n2 c2, .bool s] 62)) (.slice A1 n1 c1)
 rw [show (w.alloc (.cells #[.slice A1 n1 c1, .slice A2 n2 c2, .bool s] 62)).heap.size = w.heap.size + 1 by simp] at f2
 clear f1
 go_wp2_with fail
 refine bodyPost_ret (results_cell_row rfl _ _ (w.heap.size + 1) 29 #[.slice A1 n1 c1] (0, 0) _ rfl f2 Tryd.underlying29 rfl zh) rfl ?_
 exact ⟨rfl, bA (bA (Below.refl _ _) _) _⟩
theorem zn3 {w : World} {A1 A2 : Option Addr} {n1 n2 c1 c2 : Nat} :
  Calls Tryd.prog 89 #[.agg #[.slice A1 n1 c1, .slice A2 n2 c2, .bool true]] w fun e w' => e = .returned (.agg #[.slice A2 n2 c2]) ∧ Below w.heap.size w w' := by
 have hu29 := Tryd.underlying29
 have hu62 := Tryd.underlying62
 go_enter Tryd.func89, Tryd.ntmps89
 have f0 := (rb.new w (.slice A1 n1 c1) (.slice A2 n2 c2) true).alloc (.cells #[.slice none 0 0] 29)
 have f1 := bx.new (w.alloc (.cells #[.slice A1 n1 c1, .slice A2 n2 c2, .bool true] 62)) (.slice none 0 0)
 rw [show (w.alloc (.cells #[.slice A1 n1 c1, .slice A2 n2 c2, .bool true] 62)).heap.size = w.heap.size + 1 by simp] at f1
 have k0 := (kC f0 1).trans rfl
 have k2 := (kC f0 2).trans rfl
 have f2 := bx.new (w.alloc (.cells #[.slice A1 n1 c1, .slice A2 n2 c2, .bool true] 62)) (.slice A2 n2 c2)
 rw [show (w.alloc (.cells #[.slice A1 n1 c1, .slice A2 n2 c2, .bool true] 62)).heap.size = w.heap.size + 1 by simp] at f2
 clear f1
 go_wp2_with fail
 refine bodyPost_ret (results_cell_row rfl _ _ (w.heap.size + 1) 29 #[.slice A2 n2 c2] (0, 0) _ rfl f2 Tryd.underlying29 rfl zh) rfl ?_
 exact ⟨rfl, bA (bA (Below.refl _ _) _) _⟩
theorem ofr_c {w : World} (a b : Nat) (ha : a < BW) (hb0 : b < BW) (hbp : 0 < b) :
  Calls Tryd.prog 60 #[.int .u64 (a : Int), .int .u64 (b : Int)] w fun e w' => ∃ z z', e = .returned (.tuple #[.agg #[z, z', .bool true], .int .i64 0]) ∧ Nw w' z (a / Nat.gcd a b) ∧ Nw w' z' (b / Nat.gcd a b) ∧ Below w.heap.size w w' := by
 have hu29 := Tryd.underlying29
 have hu62 := Tryd.underlying62
 go_enter Tryd.func60, Tryd.ntmps60
 go_wp2_with fail
 have hB : Below w.heap.size w (w.alloc (Obj.cells #[Value.slice none 0 0, Value.slice none 0 0, Value.bool false] 62)) := bA (Below.refl _ _) _
 have f_z := rb.new w (.slice none 0 0) (.slice none 0 0) false
 generalize w.alloc (Obj.cells #[Value.slice none 0 0, Value.slice none 0 0, Value.bool false] 62) = W at hB f_z ⊢
 have l_z : w.heap.size ≤ w.heap.size := Nat.le_refl _
 have e0 : w.heap.size < W.heap.size := f_z.lt
 refine (of_c a ha).mono ?_
 rintro e w1 ⟨z1, rfl, h1, hb⟩
 have h1 := Kf.kw h1
 replace f_z := f_z.below hb
 replace hB := hB.trans (hb.mono hB.size)
 clear hb
 go_wp2_with fail
 refine (of_c b hb0).mono ?_
 rintro e w2 ⟨z2, rfl, h2, hb⟩
 have h2 := Kf.kw h2
 replace f_z := f_z.below hb
 replace h1 := h1.below hb
 replace hB := hB.trans (hb.mono hB.size)
 clear hb
 go_wp2_with fail
 have la : (wd BW a).length ≤ 100000 := Nat.le_trans ((zn (by decide) 1).2 (by rw [Nat.pow_one]; exact ha)) (by decide)
 have lb : (wd BW b).length ≤ 100000 := Nat.le_trans ((zn (by decide) 1).2 (by rw [Nat.pow_one]; exact hb0)) (by decide)
 refine (newk_c h1 h2 la lb hbp).mono ?_
 rintro e w3 ⟨z, z', rfl, hz, hz', hb⟩
 have lz := f_z.lt
 have lw := hB.size
 replace f_z := f_z.below hb
 replace hB := hB.trans (hb.mono hB.size)
 clear hb
 obtain ⟨A3, n3, c3, rfl⟩ := (Kf.kw hz).shape
 obtain ⟨A4, n4, c4, rfl⟩ := (Kf.kw hz').shape
 have hi2 : (Tryd.prog.info? 62).map (·.size) = some (#[.slice A3 n3 c3, .slice A4 n4 c4, .bool true] : Array Value).size := za1
 have ho2 : (#[.slice A3 n3 c3, .slice A4 n4 c4, .bool true] : Array Value).all (·.oneCell') = true := by kernel_rfl
 go_wp2_with (first | refine wpList_store_row rfl 62 _ _ rfl w.heap.size #[.slice A3 n3 c3, .slice A4 n4 c4, .bool true] rfl rfl 62 _ f_z hi2 rfl ho2 ?_)
 refine bodyPost_ret (zt (rs := [.cell 4 62, .tmp 5]) rfl (by simp) (.cell w.heap.size 62 #[.slice A3 n3 c3, .slice A4 n4 c4, .bool true] (0, 0) _ rfl (f_z.put _) Tryd.underlying62 rfl za1 (.tmp .nil))) rfl ?_
 exact ⟨_, _, rfl, Kf.kw (Kw.setRow hz lz _), Kf.kw (Kw.setRow hz' lz _), below_setRow hB l_z _⟩
theorem qstr_c {w : World} {A1 A2 : Option Addr} {n1 n2 c1 c2 x y : Nat} (h1 : Nw w (.slice A1 n1 c1) x) (h2 : Nw w (.slice A2 n2 c2) y) (lx : (wd BW x).length ≤ 10000) (ly : (wd BW y).length ≤ 10000) (htab : Tab w) :
  Calls Tryd.prog 49 #[.agg #[.slice A1 n1 c1, .slice A2 n2 c2, .bool true]] w fun e w' => e = .returned (.string (zx1 x ++ ⟨#[47]⟩ ++ zx1 y)) ∧ Below w.heap.size w w' := by
 have hu29 := Tryd.underlying29
 have hu62 := Tryd.underlying62
 have sx : (zx1 x).size ≤ 200001 := by have h := dec_bound x; have e : (zx1 x).size = (Lib.decDigits x).length := bs_size _; omega
 have sy : (zx1 y).size ≤ 200001 := by have h := dec_bound y; have e : (zx1 y).size = (Lib.decDigits y).length := bs_size _; omega
 obtain ⟨X, hX⟩ : ∃ X, zx1 x = X := ⟨_, rfl⟩
 obtain ⟨Y, hY⟩ : ∃ Y, zx1 y = Y := ⟨_, rfl⟩
 rw [hX] at sx ⊢
 rw [hY] at sy ⊢
 have HX := Q0.mk hX
 have HY := Q0.mk hY
 clear hX hY
 have e1 : X.size + (⟨#[47]⟩ : ByteArray).size ≤ 9223372036854775807 := by show X.size + 1 ≤ _; omega
 obtain ⟨Z, hZ⟩ : ∃ Z, X ++ ⟨#[47]⟩ = Z := ⟨_, rfl⟩
 have e2 : Z.size + Y.size ≤ 9223372036854775807 := by rw [← hZ, ByteArray.size_append]; show X.size + 1 + _ ≤ _; omega
 have e3 : ¬ 9223372036854775807 < X.size + 1 := by omega
 have e4 : ¬ 9223372036854775807 < Z.size + Y.size := by omega
 go_enter Tryd.func49, Tryd.ntmps49
 go_wp2_with fail
 have hB : Below w.heap.size w (w.alloc (Obj.cells #[.slice A1 n1 c1, .slice A2 n2 c2, .bool true] 62)) := bA (Below.refl _ _) _
 have f_q := rb.new w (.slice A1 n1 c1) (.slice A2 n2 c2) true
 replace h1 := h1.below hB
 replace h2 := h2.below hB
 replace htab := htab.below hB
 generalize (w.alloc (Obj.cells #[.slice A1 n1 c1, .slice A2 n2 c2, .bool true] 62)) = w_1 at f_q h1 h2 htab hB ⊢
 have hb : Below w_1.heap.size w_1 w_1.drew := zf0 (Below.refl _ _)
 refine zt0 (n := 9) (S := fun w' => Below w_1.drew.heap.size w_1.drew w') (ds := []) #[ff,ff,ff,ff,ff,ff,ff,ff,ff] (by kernel_rfl) rfl rfl (Below.refl _ _) (fun hS => ?_)
 replace h1 := h1.below hb
 replace h2 := h2.below hb
 replace htab := htab.below hb
 replace f_q := f_q.below hb
 replace hB := hB.trans (hb.mono hB.size)
 clear hb
 generalize w_1.drew = w_2 at h1 h2 htab f_q hB hS ⊢
 have sf_q := f_q
 refine z10 0 3 ?_ #[tt,ff,ff,ff,ff,ff,ff,ff,ff] rfl rfl (by kernel_rfl) (fun _ _ _ h => h) (Or.inl ⟨by rfl, ?_⟩) hS ?_ ?_ ?_
 rotate_left
 ·intro w' hS_
  have k0_ := (kC (rb.below sf_q hS_) 0).trans rfl
  have k1_ := (kC (rb.below sf_q hS_) 1).trans rfl
  have k2_ := (kC (rb.below sf_q hS_) 2).trans rfl
  go_simp
  with_reducible rfl
 rotate_left
 ·simp only [Act.put, s2_, s0_, s1_, iw, jw]
  rfl
 refine z10 4 7 ?_ #[tt,ff,ff,ff,tt,ff,ff,ff,ff] rfl rfl (by kernel_rfl) (fun _ _ _ h => h) (Or.inl ⟨by rfl, ?_⟩) hS ?_ ?_ ?_
 rotate_left
 ·intro w' hS_
  have k0_ := (kC (rb.below sf_q hS_) 0).trans rfl
  have k1_ := (kC (rb.below sf_q hS_) 1).trans rfl
  have k2_ := (kC (rb.below sf_q hS_) 2).trans rfl
  go_simp
  with_reducible rfl
 rotate_left
 ·simp only [Act.put, s2_, s0_, s1_, iw, jw]
  rfl
 refine zh0 (i := 1) (N := some 4) #[tt,tt,ff,ff,tt,ff,ff,ff,ff] rfl rfl (by kernel_rfl) (by decide) (fun K hK => ?_)
 refine z00 Tryd.func88 (by kernel_rfl) rfl #[.agg #[.slice A1 n1 c1, .slice A2 n2 c2, .bool true]] (by rfl) rfl rfl (by (try simp only [List.map_toArray, List.map_cons, List.map_nil]); first | done | rfl | (simp only [List.length_drop, List.length_take]; rfl)) ?_
 refine (qnum_c).mono ?_
 rintro e w_3 ⟨rfl, hb⟩
 refine ⟨_, rfl, ?_⟩
 replace hS := hS.trans (hb.mono hS.size)
 replace h1 := h1.below hb
 replace h2 := h2.below hb
 replace htab := htab.below hb
 replace f_q := f_q.below hb
 replace hB := hB.trans (hb.mono hB.size)
 clear hb
 refine hK.out _ _ hS (fun hS => ?_)
 clear hK K
 refine zg (a' := ?_) ?_ ?_
 rotate_left
 ·show Act.put _ (some 4) _ = _
  simp only [Act.put, s2_, s0_, s1_, iw, jw]
  rfl
 refine zh0 (i := 2) (N := some 5) #[tt,tt,tt,ff,tt,ff,ff,ff,ff] rfl rfl (by kernel_rfl) (by decide) (fun K hK => ?_)
 refine z00 Tryd.func23 (by kernel_rfl) rfl #[.agg #[.slice A1 n1 c1]] (by rfl) rfl rfl (by (try simp only [List.map_toArray, List.map_cons, List.map_nil]); first | done | rfl | (simp only [List.length_drop, List.length_take]; rfl)) ?_
 have F := str_c h1 lx htab
 rw [HX.out] at F
 refine (F).mono ?_
 rintro e w_4 ⟨rfl, hb⟩
 refine ⟨_, rfl, ?_⟩
 replace hS := hS.trans (hb.mono hS.size)
 replace h1 := h1.below hb
 replace h2 := h2.below hb
 replace htab := htab.below hb
 replace f_q := f_q.below hb
 replace hB := hB.trans (hb.mono hB.size)
 clear hb
 refine hK.out _ _ hS (fun hS => ?_)
 clear hK K
 refine zg (a' := ?_) ?_ ?_
 rotate_left
 ·show Act.put _ (some 5) _ = _
  simp only [Act.put, s2_, s0_, s1_, iw, jw]
  rfl
 clear F
 refine za 3 6 ?_ #[tt,tt,tt,tt,tt,ff,ff,ff,ff] rfl rfl (by kernel_rfl) (fun _ _ _ h => h) (Or.inl ⟨by rfl, ?_⟩) ?_ ?_ ?_
 rotate_left
 ·intro w'
  go_simp
  with_reducible rfl
 rotate_left
 ·simp only [Act.put, s2_, s0_, s1_, iw, jw]
  rfl
 refine zh0 (i := 5) (N := some 8) #[tt,tt,tt,tt,tt,tt,ff,ff,ff] rfl rfl (by kernel_rfl) (by decide) (fun K hK => ?_)
 refine z00 Tryd.func89 (by kernel_rfl) rfl #[.agg #[.slice A1 n1 c1, .slice A2 n2 c2, .bool true]] (by rfl) rfl rfl (by (try simp only [List.map_toArray, List.map_cons, List.map_nil]); first | done | rfl | (simp only [List.length_drop, List.length_take]; rfl)) ?_
 refine (zn3).mono ?_
 rintro e w_5 ⟨rfl, hb⟩
 refine ⟨_, rfl, ?_⟩
 replace hS := hS.trans (hb.mono hS.size)
 replace h1 := h1.below hb
 replace h2 := h2.below hb
 replace htab := htab.below hb
 replace f_q := f_q.below hb
 replace hB := hB.trans (hb.mono hB.size)
 clear hb
 refine hK.out _ _ hS (fun hS => ?_)
 clear hK K
 refine zg (a' := ?_) ?_ ?_
 rotate_left
 ·show Act.put _ (some 8) _ = _
  simp only [Act.put, s2_, s0_, s1_, iw, jw]
  rfl
 refine zh0 (i := 6) (N := some 9) #[tt,tt,tt,tt,tt,tt,tt,ff,ff] rfl rfl (by kernel_rfl) (by decide) (fun K hK => ?_)
 refine z00 Tryd.func23 (by kernel_rfl) rfl #[.agg #[.slice A2 n2 c2]] (by rfl) rfl rfl (by (try simp only [List.map_toArray, List.map_cons, List.map_nil]); first | done | rfl | (simp only [List.length_drop, List.length_take]; rfl)) ?_
 have F := str_c h2 ly htab
 rw [HY.out] at F
 refine (F).mono ?_
 rintro e w_6 ⟨rfl, hb⟩
 refine ⟨_, rfl, ?_⟩
 replace hS := hS.trans (hb.mono hS.size)
 replace h1 := h1.below hb
 replace h2 := h2.below hb
 replace htab := htab.below hb
 replace f_q := f_q.below hb
 replace hB := hB.trans (hb.mono hB.size)
 clear hb
 refine hK.out _ _ hS (fun hS => ?_)
 clear hK K
 refine zg (a' := ?_) ?_ ?_
 rotate_left
 ·show Act.put _ (some 9) _ = _
  simp only [Act.put, s2_, s0_, s1_, iw, jw]
  rfl
 clear F
 refine za 7 10 ?_ #[tt,tt,tt,tt,tt,tt,tt,tt,ff] rfl rfl (by kernel_rfl) (fun _ _ _ h => h) (Or.inl ⟨by rfl, ?_⟩) ?_ ?_ ?_
 rotate_left
 ·intro w'
  go_simp
  with_reducible rfl
 rotate_left
 ·simp only [Act.put, s2_, s0_, s1_, iw, jw]
  rfl
 refine za 8 2 ?_ #[tt,tt,tt,tt,tt,tt,tt,tt,tt] rfl rfl (by kernel_rfl) (fun _ _ _ h => h) (Or.inl ⟨by rfl, ?_⟩) ?_ ?_ ?_
 rotate_left
 ·intro w'
  go_simp
  with_reducible rfl
 rotate_left
 ·simp only [Act.put, s2_, s0_, s1_, iw, jw]
  rfl
 refine zh1 (by kernel_rfl) ?_
 go_wp2
 go_ret
 exact ⟨by rw [hZ]; rfl, hB⟩
end Go.Proofs.YtgkdealidnidiaaDoor.Na
