/- Texts of the seat, as far as the row needs them. -/
import Derived.Test.YtgkdealidnidiaaDoorQRatRounds7
set_option linter.unusedVariables false
set_option linter.unusedSimpArgs false
set_option maxHeartbeats 8000000
set_option maxRecDepth 100000
namespace Go.Proofs.YtgkdealidnidiaaDoor.Na
open Go.RowKit Go.Proofs.YtgkdealidnidiaaDoorW.PrintWords Go.Proofs.YtgkdealidnidiaaDoorW.PrintLast Go.Proofs.YtgkdealidnidiaaDoorW.PrintMore
def nat_takeW.f (k : Nat) (l0 l1 : List Int) (a2 j : Int) : Option (Int × List Int) :=
 if (0 ≤ j ∧ j + l1.length + 1 ≤ l0.length) ∧ 0 < l1.length ∧ l1.length ≤ 1000000000 then
  (nat_takeAway.f k ((l0.drop j.toNat).take (l1.length + 1)) l1 a2).bind fun bt => some (bt.1, l0.take j.toNat ++ bt.2 ++ l0.drop (j.toNat + (l1.length + 1)))
 else none
theorem nat_takeW.calls (k : Nat) (P0_ : Nat → Prop) (A : Addr) (c0 : Nat) (l0 : List Int) (A1 : Option Addr) (c1 : Nat) (l1 : List Int) (a2 j r1 : Int) (r2 : List Int) (w0 w : World) (hB : Below w0.heap.size w0 w) (ho0 : Kd.R (Kd.int .u64) 40 w w0.heap.size P0_ (.slice (some A) l0.length c0) l0) (hr1 : ∀ W_, Kept w W_ (fun k_ => P0_ k_) → Kd.C (Kd.int .u64) W_ A1 l1.length l1) (hc1 : l1.length ≤ c1) (h : nat_takeW.f k l0 l1 a2 j = some (r1, r2)) :
  Calls Tryd.prog 108 #[.slice (some (A.add j.toNat)) (l1.length + 1) (c0 - j.toNat), .slice A1 l1.length c1, .int .u64 a2] w fun e w' => e = .returned (.int .u64 r1) ∧ Kd.R (Kd.int .u64) 40 w' w0.heap.size (fun k_ => (P0_ k_ ∨ w.heap.size ≤ k_)) (.slice (some A) l0.length c0) r2 ∧ Below w0.heap.size w0 w' ∧ Kept w w' (fun k_ => P0_ k_) := by
 unfold nat_takeW.f at h
 split at h
 ·rename_i hc
  obtain ⟨⟨h0, h1⟩, h2, h3⟩ := hc
  obtain ⟨J, rfl⟩ := Int.eq_ofNat_of_zero_le h0
  rw [Int.toNat_natCast] at h ⊢
  obtain ⟨⟨s1, s2⟩, hk, hr⟩ := Option.bind_eq_some_iff.mp h
  simp only [Option.some.injEq, Prod.mk.injEq] at hr
  obtain ⟨rfl, rfl⟩ := hr
  have hown := Kd.own_of_R ho0
  rcases hown.2 with ⟨he, _⟩ | ⟨g, cap, cur, he, hg, hh, hn, hm, hsz, htk⟩
  ·cases he
  ·injection he with e1 e2 e3
   injection e1 with e1
   subst e1 e3
   have hPg : P0_ g := ho0.1 g rfl
   -- the row, in three parts
   have hcur : cur.toList = (l0.take J).map (Value.int .u64) ++ (((l0.drop J).take (l1.length + 1)).map (Value.int .u64) ++ ((l0.drop (J + (l1.length + 1))).map (Value.int .u64) ++ cur.toList.drop l0.length)) := by
    have e4 : cur.toList = cur.toList.take l0.length ++ cur.toList.drop l0.length := (List.take_append_drop _ _).symm
    rw [Nat.mul_one] at htk
    rw [htk] at e4
    conv => lhs; rw [e4]
    have e5 : l0 = l0.take J ++ ((l0.drop J).take (l1.length + 1) ++ l0.drop (J + (l1.length + 1))) := by
     rw [← List.drop_drop, List.take_append_drop, List.take_append_drop]
    conv => lhs; rw [show encs (Value.int .u64) l0 = encs (Value.int .u64) (l0.take J ++ ((l0.drop J).take (l1.length + 1) ++ l0.drop (J + (l1.length + 1)))) by rw [← e5]]
    simp [encs]
   have hlen : ((l0.drop J).take (l1.length + 1)).length = l1.length + 1 := by rw [List.length_take, List.length_drop]; omega
   have hWS : WS w0.heap.size w0 g J ((l0.take J).map (Value.int .u64)) ((l0.drop (J + (l1.length + 1))).map (Value.int .u64) ++ cur.toList.drop l0.length) (l1.length + 1) w ((l0.drop J).take (l1.length + 1)) w :=
    ⟨by rw [← hcur]; exact hh, by rw [List.length_map, List.length_take]; omega, hlen, Kept.refl _ _, hB, hg⟩
   have hK : ∀ W, Kept w W (fun k => k = g) → Kept w W (fun k_ => P0_ k_) := fun W hk => hk.mono (fun k hk => by subst hk; exact hPg)
   obtain ⟨adv, rfl⟩ : ∃ adv, A1 = some adv := by
    obtain ⟨ad, e, _⟩ := Kd.zk (hr1 w (Kept.refl _ _)) 0 (by decide) (by omega)
    exact ⟨ad, e⟩
   have hv : ∀ W, Kept w W (fun k => k = g) → ∀ i, i < l1.length → W.cell? (adv.add i) = some (.int .u64 (l1.getD i 0)) := by
    intro W hW i hi
    obtain ⟨ad, e, hx⟩ := Kd.zk (hr1 W (hK W hW)) (i : Int) (by omega) (by omega)
    injection e with e
    subst e
    rw [Int.toNat_natCast] at hx
    rw [hx]; simp [rd]
   have hJ : (⟨g, 0, none⟩ : Addr).add J = ⟨g, J, none⟩ := by simp [Addr.add]; omega
   rw [hJ]
   refine (takeAway_wnd k w0.heap.size w0 g J _ _ adv _ l1 a2 _ s2 (c0 - J) c1 w hWS hv h3 (by omega) hc1 hk).mono ?_
   rintro e w' ⟨rfl, hw⟩
   refine ⟨rfl, ?_, hw.below, hK _ hw.kept⟩
   have hl2 := hw.len
   have hrl : (l0.take J ++ s2 ++ l0.drop (J + (l1.length + 1))).length = l0.length := by
    rw [List.length_append, List.length_append, List.length_take, List.length_drop, hl2]; omega
   refine Kd.R_of_own ⟨by simp [encs], .inr ⟨g, c0, _, by rw [hrl], hw.hg, hw.row, by omega, hm, ?_, ?_⟩⟩ (fun k hk => by
    simp only [Value.ownBlock, Option.some.injEq] at hk
    subst hk; exact .inl hPg)
   ·have := congrArg List.length hcur
    rw [Array.length_toList, hsz] at this
    rw [List.size_toArray]
    simp only [List.length_append, List.length_map, hlen, hl2] at this ⊢
    omega
   ·rw [List.toList_toArray, Nat.mul_one]
    have e6 : (l0.take J).map (Value.int .u64) ++ (s2.map (Value.int .u64) ++ ((l0.drop (J + (l1.length + 1))).map (Value.int .u64) ++ cur.toList.drop l0.length)) = encs (Value.int .u64) (l0.take J ++ s2 ++ l0.drop (J + (l1.length + 1))) ++ cur.toList.drop l0.length := by simp [encs]
    rw [e6, List.take_append_of_le_length (by simp [encs]), List.take_of_length_le (by simp [encs])]
 ·exact absurd h (by simp)
theorem takeW_cond {k : Nat} {l0 l1 : List Int} {a2 j : Int} {r : Int × List Int} (h : nat_takeW.f k l0 l1 a2 j = some r) : (0 ≤ j ∧ j + l1.length + 1 ≤ l0.length) ∧ 0 < l1.length ∧ l1.length ≤ 1000000000 := by
 unfold nat_takeW.f at h
 split at h
 ·assumption
 ·exact absurd h (by simp)
theorem cut_wnd (A : Addr) (n c m : Nat) (j b : Int) (h0 : 0 ≤ j) (hb : b = j + m) (hm : 0 < m) (hn : b ≤ n) (hc : n ≤ c) :
  ∀ W : World, (Instr.slice 22 (.slice (some A) n c) (some (.int .i64 j)) (some (.int .i64 b)) none).run Tryd.prog W = .ok (.slice (some (A.add j.toNat)) m (c - j.toNat)) W := by
 obtain ⟨i0, hi, _, hsz, _⟩ := info_parts zg2
 intro W
 rw [cut_mid (P := Tryd.prog) 22 40 .i64 .i64 Tryd.underlying22 hi 1 hsz (some A) n c j b h0 (by omega) hn hc W]
 rw [if_neg (by omega), Nat.mul_one, show b.toNat - j.toNat = m by omega]; rfl
theorem wnd_facts {n co y l : Nat} {x ji : Int} (hc : (0 ≤ x ∧ x + y + 1 ≤ n) ∧ 0 < y ∧ y ≤ 1000000000) (hn : n ≤ 9223372036854775807) (hco : n ≤ co) (hy : y = l) (hj : wrap64 (x + l) = ji) (A : Addr) :
  (∀ W : World, (Instr.slice 22 (.slice (some A) n co) (some (.int .i64 x)) (some (.int .i64 (ji + 1))) none).run Tryd.prog W = .ok (.slice (some (A.add x.toNat)) (y + 1) (co - x.toNat)) W) ∧ wrap64 (ji + 1) = ji + 1 := by
 have hji : ji = x + l := by rw [← hj]; unfold wrap64; omega
 subst hy
 clear hj
 subst hji
 exact ⟨cut_wnd A n co (y + 1) x (x + y + 1) hc.1.1 (by omega) (by omega) (by omega) hco, by unfold wrap64; omega⟩
theorem pos_of {x : Int} {n : Nat} (h0 : 0 ≤ x) (h1 : x < (n : Int)) : 0 < n := by omega
theorem C_kept_int {w W : World} {S : Nat → Prop} {A : Option Addr} {n : Nat} {xs : List Int} (h : (Kd.int .u64).C w A n xs) (hk : Kept w W S) (hne : ∀ ad, A = some ad → ¬ S ad.block) : (Kd.int .u64).C W A n xs := by
 obtain ⟨h1, h2, h3⟩ := h
 refine ⟨h1, h2, fun hn => ?_⟩
 obtain ⟨ad, e, hc⟩ := h3 hn
 refine ⟨ad, e, fun j p hj => ?_⟩
 obtain ⟨c, hl, hr, hcell⟩ := hc j p hj
 exact ⟨c, hl, hr, fun i u hi => cell_kept (hcell i u hi) hk (by rw [add_block]; exact hne ad e)⟩
end Go.Proofs.YtgkdealidnidiaaDoor.Na
namespace Go.Proofs.YtgkdealidnidiaaDoor.Na
open Go.RowKit Go.Proofs.YtgkdealidnidiaaDoorW.PrintWords Go.Proofs.YtgkdealidnidiaaDoorW.PrintLast Go.Proofs.YtgkdealidnidiaaDoorW.PrintMore
attribute [local go_sem] zx0 zd1
def nat_divide.l0 : Nat → List Int → Int → List Int → List Int → List Int → Int → Option (List Int × List Int)
 | 0, _, _, _, _, _, _ => none
 | k + 1, x1, x6, x7, x8, x9, x10 => if x10 ≥ 0 then (if 0 ≤ (wrap64 (x10 + (x1.length : Int))) then (if (wrap64 (x10 + (x1.length : Int))) < (x7.length : Int) then (if 0 ≤ (wrap64 ((wrap64 (x10 + (x1.length : Int))) - 1)) then (if (wrap64 ((wrap64 (x10 + (x1.length : Int))) - 1)) < (x7.length : Int) then (if 0 ≤ (wrap64 ((wrap64 (x10 + (x1.length : Int))) - 2)) then (if (wrap64 ((wrap64 (x10 + (x1.length : Int))) - 2)) < (x7.length : Int) then (if 0 ≤ (wrap64 ((x1.length : Int) - 1)) then (if (wrap64 ((x1.length : Int) - 1)) < (x8.length : Int) then (if 0 ≤ (wrap64 ((x1.length : Int) - 2)) then (if (wrap64 ((x1.length : Int) - 2)) < (x8.length : Int) then ((nat_guess.f k (rd x7 (wrap64 (x10 + (x1.length : Int)))) (rd x7 (wrap64 ((wrap64 (x10 + (x1.length : Int))) - 1))) (rd x7 (wrap64 ((wrap64 (x10 + (x1.length : Int))) - 2))) (rd x8 (wrap64 ((x1.length : Int) - 1))) (rd x8 (wrap64 ((x1.length : Int) - 2)))).bind fun t296 => ((nat_takeW.f k x7 x8 t296 x10).bind fun bt297 => (if 0 ≤ x10 then (if x10 < (x9.length : Int) then (nat_divide.l0 k x1 x6 bt297.2 x8 (x9.set (x10 : Int).toNat bt297.1) (wrap64 (x10 - 1))) else (none)) else (none)))) else (none)) else (none)) else (none)) else (none)) else (none)) else (none)) else (none)) else (none)) else (none)) else (none)) else ((nat_norm.f k x7).bind fun t300 => ((nat_Nat_Shr.f k t300 (wrap64 (x6))).bind fun bt303 => ((nat_norm.f k x9).bind fun t308 => (some (t308, bt303.1)))))
def nat_divide.f (k : Nat) (l0 : List Int) (l1 : List Int) : Option (List Int × List Int) := if 0 ≤ (wrap64 ((l1.length : Int) - 1)) then (if (wrap64 ((l1.length : Int) - 1)) < (l1.length : Int) then ((bits_LeadingZeros64.f k (rd l1 (wrap64 ((l1.length : Int) - 1)))).bind fun t277 => ((nat_shifted.f k l0 (IntKind.u64.wrap (t277))).bind fun t278 => ((nat_shifted.f k l1 (IntKind.u64.wrap (t277))).bind fun t281 => (if 0 ≤ (l1.length : Int) then (if (l1.length : Int) ≤ (t281.length : Int) then (if 0 ≤ (wrap64 ((wrap64 ((l0.length : Int) - (l1.length : Int))) + 1)) then (if (wrap64 ((wrap64 ((l0.length : Int) - (l1.length : Int))) + 1) : Int).toNat ≤ 35184372088832 then (nat_divide.l0 k l1 (IntKind.u64.wrap (t277)) t278 (t281.take ((l1.length : Int) : Int).toNat) (List.replicate (wrap64 ((wrap64 ((l0.length : Int) - (l1.length : Int))) + 1) : Int).toNat 0) (wrap64 ((l0.length : Int) - (l1.length : Int)))) else (none)) else (none)) else (none)) else (none))))) else (none)) else (none)
def nat_divide.T2 : Bool × List (List Nat × List Nat) := (true, [([], []), ([], []), ([0, 1], [0, 1]), ([], []), ([], []), ([3, 4, 2], [3, 4]), ([], []), ([6], [6]), ([5, 7], [5, 7]), ([2, 5, 0, 1, 2], [2]), ([8, 9, 0, 1, 2, 3, 4, 5, 6, 7, 8, 9], [8])])
def nat_divide.B2 : List Nat := [0, 0, 3, 0, 0, 31, 0, 64, 255, 63, 1023]
theorem nat_divide.tab2 : zo2 .any (opsOf Tryd.f83 2) = nat_divide.T2 := by kernel_rfl
theorem nat_divide.bits2 : zf2 nat_divide.T2.2 nat_divide.B2 = true := by kernel_rfl
def nat_divide.T8 : Bool × List (List Nat × List Nat) := (true, [([], []), ([], []), ([0, 1], [0, 1]), ([2], [2]), ([], []), ([], []), ([5], [5]), ([4, 6], [4, 6]), ([7], [7]), ([], []), ([], []), ([10], [10]), ([9, 11], [9, 11]), ([12], [12]), ([], []), ([], []), ([15], [15]), ([16], [16]), ([14, 17], [14, 17]), ([18], [18]), ([], []), ([], []), ([21], [21]), ([22], [22]), ([20, 23], [20, 23]), ([24], [24]), ([3, 8, 13, 19, 25], [3, 8, 13, 19, 25]), ([26, 26, 0, 1, 2, 3, 4, 5, 6, 7, 8, 9, 10, 11, 12, 13, 14, 15, 16, 17, 18, 19, 20, 21, 22, 23, 24, 25, 26], [26])])
def nat_divide.B8 : List Nat := [0, 0, 3, 7, 0, 0, 32, 112, 240, 0, 0, 1024, 3584, 7680, 0, 0, 32768, 98304, 245760, 507904, 0, 0, 2097152, 6291456, 15728640, 32505856, 67108863, 134217727]
theorem nat_divide.tab8 : zo2 .any (opsOf Tryd.f83 8) = nat_divide.T8 := by kernel_rfl
theorem nat_divide.bits8 : zf2 nat_divide.T8.2 nat_divide.B8 = true := by kernel_rfl
theorem nat_divide.calls (k : Nat) (A0 : Option Addr) (c0 : Nat) (l0 : List Int) (A1 : Option Addr) (c1 : Nat) (l1 : List Int) (r1 : List Int) (r2 : List Int) (w : World) (hr0 : Kd.C (Kd.int .u64) w A0 l0.length l0) (hc0 : l0.length ≤ c0) (hr1 : Kd.C (Kd.int .u64) w A1 l1.length l1) (hc1 : l1.length ≤ c1) (h : nat_divide.f k l0 l1 = some (r1, r2)) :
  Calls Tryd.prog 83 #[.slice A0 l0.length c0, .slice A1 l1.length c1] w fun e w' => ∃ v0_ v1_ : Value, e = .returned (.tuple #[.agg #[v0_], .agg #[v1_]]) ∧ Kd.V (Kd.int .u64) 40 w' w.heap.size (fun k_ => (w.heap.size ≤ k_)) v0_ r1 ∧ Kd.V (Kd.int .u64) 40 w' w.heap.size (fun k_ => (w.heap.size ≤ k_)) v1_ r2 ∧ Below w.heap.size w w' := by
 have hu29 := Tryd.underlying29
 have HR0 := Q0.mk hr0
 have HC0 := Q0.mk hc0
 clear hr0 hc0
 have HR1 := Q0.mk hr1
 have HC1 := Q0.mk hc1
 clear hr1 hc1
 have HB := Q0.mk (Below.refl w.heap.size w)
 have H : (if 0 ≤ (wrap64 ((l1.length : Int) - 1)) then (if (wrap64 ((l1.length : Int) - 1)) < (l1.length : Int) then ((bits_LeadingZeros64.f k (rd l1 (wrap64 ((l1.length : Int) - 1)))).bind fun t277 => ((nat_shifted.f k l0 (IntKind.u64.wrap (t277))).bind fun t278 => ((nat_shifted.f k l1 (IntKind.u64.wrap (t277))).bind fun t281 => (if 0 ≤ (l1.length : Int) then (if (l1.length : Int) ≤ (t281.length : Int) then (if 0 ≤ (wrap64 ((wrap64 ((l0.length : Int) - (l1.length : Int))) + 1)) then (if (wrap64 ((wrap64 ((l0.length : Int) - (l1.length : Int))) + 1) : Int).toNat ≤ 35184372088832 then (nat_divide.l0 k l1 (IntKind.u64.wrap (t277)) t278 (t281.take ((l1.length : Int) : Int).toNat) (List.replicate (wrap64 ((wrap64 ((l0.length : Int) - (l1.length : Int))) + 1) : Int).toNat 0) (wrap64 ((l0.length : Int) - (l1.length : Int)))) else (none)) else (none)) else (none)) else (none))))) else (none)) else (none)) = some (r1, r2) := h
 clear h
 obtain ⟨ji3, hji3⟩ : ∃ j_ : Int, (wrap64 ((l1.length : Int) - 1)) = j_ := ⟨_, rfl⟩
 replace H : (if 0 ≤ (ji3) then (if (ji3) < (l1.length : Int) then ((bits_LeadingZeros64.f k (rd l1 (ji3))).bind fun t277 => ((nat_shifted.f k l0 (IntKind.u64.wrap (t277))).bind fun t278 => ((nat_shifted.f k l1 (IntKind.u64.wrap (t277))).bind fun t281 => (if 0 ≤ (l1.length : Int) then (if (l1.length : Int) ≤ (t281.length : Int) then (if 0 ≤ (wrap64 ((wrap64 ((l0.length : Int) - (l1.length : Int))) + 1)) then (if (wrap64 ((wrap64 ((l0.length : Int) - (l1.length : Int))) + 1) : Int).toNat ≤ 35184372088832 then (nat_divide.l0 k l1 (IntKind.u64.wrap (t277)) t278 (t281.take ((l1.length : Int) : Int).toNat) (List.replicate (wrap64 ((wrap64 ((l0.length : Int) - (l1.length : Int))) + 1) : Int).toNat 0) (wrap64 ((l0.length : Int) - (l1.length : Int)))) else (none)) else (none)) else (none)) else (none))))) else (none)) else (none)) = some (r1, r2) := by first | (rw [hji3] at H; exact H) | (simp only [hji3] at H ⊢; exact H)
 have hji3w : (IntKind.i64.wrap ((l1.length : Int) - 1)) = ji3 := (iw _).trans hji3
 by_cases c4 : 0 ≤ (ji3)
 ·rw [if_pos c4] at H
  have c4b0 : decide (0 ≤ (ji3)) = true := decide_eq_true c4
  clear c4
  by_cases c5 : (ji3) < (l1.length : Int)
  ·rw [if_pos c5] at H
   have c5b0 : decide ((ji3) < (l1.length : Int)) = true := decide_eq_true c5
   clear c5
   replace H := Option.bind_eq_some_iff.mp H
   obtain ⟨t277, A60, H⟩ := H
   replace H : ((nat_shifted.f k l0 (IntKind.u64.wrap (t277))).bind fun t278 => ((nat_shifted.f k l1 (IntKind.u64.wrap (t277))).bind fun t281 => (if 0 ≤ (l1.length : Int) then (if (l1.length : Int) ≤ (t281.length : Int) then (if 0 ≤ (wrap64 ((wrap64 ((l0.length : Int) - (l1.length : Int))) + 1)) then (if (wrap64 ((wrap64 ((l0.length : Int) - (l1.length : Int))) + 1) : Int).toNat ≤ 35184372088832 then (nat_divide.l0 k l1 (IntKind.u64.wrap (t277)) t278 (t281.take ((l1.length : Int) : Int).toNat) (List.replicate (wrap64 ((wrap64 ((l0.length : Int) - (l1.length : Int))) + 1) : Int).toNat 0) (wrap64 ((l0.length : Int) - (l1.length : Int)))) else (none)) else (none)) else (none)) else (none)))) = some (r1, r2) := H
   have A6 := Q0.mk A60
   clear A60
   replace H := Option.bind_eq_some_iff.mp H
   obtain ⟨t278, A70, H⟩ := H
   replace H : ((nat_shifted.f k l1 (IntKind.u64.wrap (t277))).bind fun t281 => (if 0 ≤ (l1.length : Int) then (if (l1.length : Int) ≤ (t281.length : Int) then (if 0 ≤ (wrap64 ((wrap64 ((l0.length : Int) - (l1.length : Int))) + 1)) then (if (wrap64 ((wrap64 ((l0.length : Int) - (l1.length : Int))) + 1) : Int).toNat ≤ 35184372088832 then (nat_divide.l0 k l1 (IntKind.u64.wrap (t277)) t278 (t281.take ((l1.length : Int) : Int).toNat) (List.replicate (wrap64 ((wrap64 ((l0.length : Int) - (l1.length : Int))) + 1) : Int).toNat 0) (wrap64 ((l0.length : Int) - (l1.length : Int)))) else (none)) else (none)) else (none)) else (none))) = some (r1, r2) := H
   have A7 := Q0.mk A70
   clear A70
   replace H := Option.bind_eq_some_iff.mp H
   obtain ⟨t281, A80, H⟩ := H
   replace H : (if 0 ≤ (l1.length : Int) then (if (l1.length : Int) ≤ (t281.length : Int) then (if 0 ≤ (wrap64 ((wrap64 ((l0.length : Int) - (l1.length : Int))) + 1)) then (if (wrap64 ((wrap64 ((l0.length : Int) - (l1.length : Int))) + 1) : Int).toNat ≤ 35184372088832 then (nat_divide.l0 k l1 (IntKind.u64.wrap (t277)) t278 (t281.take ((l1.length : Int) : Int).toNat) (List.replicate (wrap64 ((wrap64 ((l0.length : Int) - (l1.length : Int))) + 1) : Int).toNat 0) (wrap64 ((l0.length : Int) - (l1.length : Int)))) else (none)) else (none)) else (none)) else (none)) = some (r1, r2) := H
   have A8 := Q0.mk A80
   clear A80
   by_cases c9 : 0 ≤ (l1.length : Int)
   ·rw [if_pos c9] at H
    have c9b0 := eq_true c9
    have c9b1 : decide (0 ≤ (l1.length : Int)) = true := decide_eq_true c9
    clear c9
    by_cases c10 : (l1.length : Int) ≤ (t281.length : Int)
    ·rw [if_pos c10] at H
     have c10b0 := eq_true c10
     have c10b1 : decide ((l1.length : Int) ≤ (t281.length : Int)) = true := decide_eq_true c10
     clear c10
     obtain ⟨y284, hy284⟩ : ∃ y_ : List Int, y_ = (t281.take ((l1.length : Int) : Int).toNat) := ⟨_, rfl⟩
     replace H : (if 0 ≤ (wrap64 ((wrap64 ((l0.length : Int) - (l1.length : Int))) + 1)) then (if (wrap64 ((wrap64 ((l0.length : Int) - (l1.length : Int))) + 1) : Int).toNat ≤ 35184372088832 then (nat_divide.l0 k l1 (IntKind.u64.wrap (t277)) t278 y284 (List.replicate (wrap64 ((wrap64 ((l0.length : Int) - (l1.length : Int))) + 1) : Int).toNat 0) (wrap64 ((l0.length : Int) - (l1.length : Int)))) else (none)) else (none)) = some (r1, r2) := by first | (rw [hy284]; with_reducible exact H) | (have H2_ := (Option.bind_some _ _).symm.trans H; rw [hy284]; with_reducible exact H2_) | (have H2_ := (Option.bind_some _ _).symm.trans H; with_reducible exact H2_) | with_reducible exact H | (rw [hy284]; exact H) | exact H
     have Ny284 := Q0.mk hy284
     clear hy284
     obtain ⟨ji11, hji11⟩ : ∃ j_ : Int, (wrap64 ((wrap64 ((l0.length : Int) - (l1.length : Int))) + 1)) = j_ := ⟨_, rfl⟩
     replace H : (if 0 ≤ (ji11) then (if (ji11 : Int).toNat ≤ 35184372088832 then (nat_divide.l0 k l1 (IntKind.u64.wrap (t277)) t278 y284 (List.replicate (ji11 : Int).toNat 0) (wrap64 ((l0.length : Int) - (l1.length : Int)))) else (none)) else (none)) = some (r1, r2) := by first | (rw [hji11] at H; exact H) | (simp only [hji11] at H ⊢; exact H)
     (try rw [hji11] at A6)
     (try rw [hji11] at A7)
     (try rw [hji11] at A8)
     have hji11w : (IntKind.i64.wrap ((wrap64 ((l0.length : Int) - (l1.length : Int))) + 1)) = ji11 := (iw _).trans hji11
     by_cases c12 : 0 ≤ (ji11)
     ·rw [if_pos c12] at H
      have c12b0 := eq_true c12
      have c12b1 : decide (0 ≤ (ji11)) = true := decide_eq_true c12
      clear c12
      by_cases c13 : (ji11 : Int).toNat ≤ 35184372088832
      ·rw [if_pos c13] at H
       have c13b0 := eq_true c13
       have c13b1 : decide ((ji11 : Int).toNat ≤ 35184372088832) = true := decide_eq_true c13
       clear c13
       obtain ⟨y288, hy288⟩ : ∃ y_ : List Int, y_ = (List.replicate (ji11 : Int).toNat 0) := ⟨_, rfl⟩
       replace H : (nat_divide.l0 k l1 (IntKind.u64.wrap (t277)) t278 y284 y288 (wrap64 ((l0.length : Int) - (l1.length : Int)))) = some (r1, r2) := by first | (rw [hy288]; with_reducible exact H) | (have H2_ := (Option.bind_some _ _).symm.trans H; rw [hy288]; with_reducible exact H2_) | (have H2_ := (Option.bind_some _ _).symm.trans H; with_reducible exact H2_) | with_reducible exact H | (rw [hy288]; exact H) | exact H
       have Ny288 := Q0.mk hy288
       clear hy288
       have H' := Q0.mk H
       clear H
       go_enter Tryd.func83, Tryd.ntmps83
       try go_wp2_with (first | ((with_reducible refine gD (N := 4) rfl ?_); refine xE ?hg (N := 4) ?hd (cs := #[.slice none 0 0]) (t := 29) ?hr ?_; (case hd => rfl); (case hg => rfl); (case hr => first | (go_simp; done) | (go_simp; rfl)); intro gb274 hg w14 hbox hb; have q_ := zm (w := w) hb (by repeat (first | (with_reducible first | exact HB.out | apply bA | apply bN | apply b1_) | exact HB.out)); replace HB := Q0.mk (bP q_ hb); have BK274 := Q0.mk (hbox); have GW274 := Q0.mk ((by rw [hg]; exact (bZ q_) : w.heap.size ≤ gb274)); have GE274 := GW274; clear q_; clear hb hbox hg) | ((with_reducible refine gD (N := 5) rfl ?_); refine xE ?hg (N := 5) ?hd (cs := #[.slice none 0 0]) (t := 29) ?hr ?_; (case hd => rfl); (case hg => rfl); (case hr => first | (go_simp; done) | (go_simp; rfl)); intro gb275 hg w15 hbox hb; have q_ := zm (w := w) hb (by repeat (first | (with_reducible first | exact HB.out | apply bA | apply bN | apply b1_ | refine bS ?_ GE274.out) | exact HB.out)); replace HB := Q0.mk (bP q_ hb); have BK275 := Q0.mk (hbox); have GW275 := Q0.mk ((by rw [hg]; exact (bZ q_) : w.heap.size ≤ gb275)); have GE275 := GW275; have NB274_275 := Q0.mk ((by rw [hg]; exact Nat.ne_of_lt (zj0 (g := gb274) (o := .cells #[.slice none 0 0] 29 (0, 0)) (by (with_reducible repeat (first | refine kN ?_ _ | refine kD ?_ | refine kA ?_ _)); exact BK274.out)) : gb274 ≠ gb275)); replace BK274 := Q0.mk (kB (g := gb274) (o := .cells #[.slice none 0 0] 29 (0, 0)) (by (with_reducible repeat (first | refine kN ?_ _ | refine kD ?_ | refine kA ?_ _)); exact BK274.out) hb); have NB275_274 := Q0.mk NB274_275.out.symm; clear q_; clear hb hbox hg; have p276 : 0 ≤ ((ji3) : Int) := of_decide_eq_true (by first | (with_reducible assumption) | assumption); have q276 : (ji3) < (l1.length : Int) := of_decide_eq_true (by first | (with_reducible assumption) | assumption); obtain ⟨ad276, e276, hx276_0⟩ := Kd.zk HR1.out (ji3) p276 q276; cases e276; replace hx276_0 := (HB.out.cell (World.block_lt_of_cell? w _ hx276_0)).trans hx276_0; replace p276 := eq_true p276; replace q276 := eq_true q276) | ((with_reducible refine gC (f := 106) rfl ?_); refine zx (some 21) rfl rfl Tryd.func106 (by kernel_rfl) rfl #[.int .u64 (rd l1 (ji3))] rfl (by (try simp only [List.map_toArray, List.map_cons, List.map_nil]); first | done | (simp only [hji3]; rfl) | rfl | (simp only [List.length_drop, List.length_take]; rfl)) ?_; (with_reducible refine (bits_LeadingZeros64.calls k (rd l1 (ji3)) t277 _ A6.out).mono ?_); rintro e w' ⟨rfl, ⟨nd, rfl⟩⟩; refine ⟨_, rfl, ?_⟩))
       (try (rw [zl1 w15]; generalize hq_ : World.drewN w15 _ = w15; have n0_ : Q0 (w15.heap[gb274]? = some (.cells #[.slice none 0 0] 29 (0, 0))) := ⟨by rw [← hq_]; exact (by (with_reducible repeat (first | refine kN ?_ _ | refine kD ?_ | refine kA ?_ _)); exact BK274.out)⟩; have n1_ : Q0 (w15.heap[gb275]? = some (.cells #[.slice none 0 0] 29 (0, 0))) := ⟨by rw [← hq_]; exact (by (with_reducible repeat (first | refine kN ?_ _ | refine kD ?_ | refine kA ?_ _)); exact BK275.out)⟩; have n2_ : Q0 (Below w.heap.size w w15) := ⟨by rw [← hq_]; exact (by repeat (first | (with_reducible first | exact HB.out | apply bA | apply bN | apply b1_ | refine bS ?_ GE274.out | refine bS ?_ GE275.out) | exact HB.out))⟩; clear BK274 BK275 HB hq_; have BK274 := n0_; have BK275 := n1_; have HB := n2_; clear n0_ n1_ n2_))
       have n0_ := Q0.mk (kD BK274.out)
       have n1_ := Q0.mk (kD BK275.out)
       have n2_ := Q0.mk (b1_ HB.out)
       clear BK274
       clear BK275
       clear HB
       have BK274 := n0_
       have BK275 := n1_
       have HB := n2_
       clear n0_ n1_ n2_
       refine zt0 (n := 11) (S := fun w' => True) (ds := []) #[ff,ff,ff,ff,ff,ff,ff,ff,ff,ff,ff] (by kernel_rfl) rfl rfl trivial (fun hHeld => ?_); refine z02 nat_divide.tab2 nat_divide.bits2 (fun HT_ HW_ => ?_)
       generalize w15.drew = w16 at BK274 BK275 HB hHeld ⊢
       refine za 0 23 ?_ #[tt,ff,ff,ff,ff,ff,ff,ff,ff,ff,ff] rfl rfl (zb HT_.out (by kernel_rfl)) (fun _ _ _ h => h) (Or.inl ⟨by rfl, ?_⟩) ?_ ?_ ?_
       rotate_left
       ·intro w'
        go_simp
        with_reducible rfl
       rotate_left
       ·simp only [Act.put, s2_, s0_, s1_, iw, jw]
        rfl
       refine za 1 24 ?_ #[tt,tt,ff,ff,ff,ff,ff,ff,ff,ff,ff] rfl rfl (zb HT_.out (by kernel_rfl)) (fun _ _ _ h => h) (Or.inl ⟨by rfl, ?_⟩) ?_ ?_ ?_
       rotate_left
       ·intro w'
        go_simp
        with_reducible rfl
       rotate_left
       ·simp only [Act.put, s2_, s0_, s1_, iw, jw]
        rfl
       refine za 3 26 ?_ #[tt,tt,ff,tt,ff,ff,ff,ff,ff,ff,ff] rfl rfl (zb HT_.out (by kernel_rfl)) (fun _ _ _ h => h) (Or.inl ⟨by rfl, ?_⟩) ?_ ?_ ?_
       rotate_left
       ·intro w'
        go_simp
        with_reducible rfl
       rotate_left
       ·simp only [Act.put, s2_, s0_, s1_, iw, jw]
        rfl
       refine za 4 27 ?_ #[tt,tt,ff,tt,tt,ff,ff,ff,ff,ff,ff] rfl rfl (zb HT_.out (by kernel_rfl)) (fun _ _ _ h => h) (Or.inl ⟨by rfl, ?_⟩) ?_ ?_ ?_
       rotate_left
       ·intro w'
        go_simp
        with_reducible rfl
       rotate_left
       ·simp only [Act.put, s2_, s0_, s1_, iw, jw]
        rfl
       refine za 6 29 ?_ #[tt,tt,ff,tt,tt,ff,tt,ff,ff,ff,ff] rfl rfl (zb HT_.out (by kernel_rfl)) (fun _ _ _ h => h) (Or.inl ⟨by rfl, ?_⟩) ?_ ?_ ?_
       rotate_left
       ·intro w'
        go_simp
        with_reducible rfl
       rotate_left
       ·simp only [Act.put, s2_, s0_, s1_, iw, jw]
        rfl
       refine za 7 30 ?_ #[tt,tt,ff,tt,tt,ff,tt,tt,ff,ff,ff] rfl rfl (zb HT_.out (by kernel_rfl)) (fun _ _ _ h => h) (Or.inl ⟨by rfl, ?_⟩) ?_ ?_ ?_
       rotate_left
       ·intro w'
        go_simp
        with_reducible rfl
       rotate_left
       ·simp only [Act.put, s2_, s0_, s1_, iw, jw]
        rfl
       refine zh0 (i := 2) (N := some 25) #[tt,tt,tt,tt,tt,ff,tt,tt,ff,ff,ff] rfl rfl (zb2 HT_.out (by kernel_rfl)) (by decide) (fun K hK => ?_)
       refine z00 Tryd.func76 (by kernel_rfl) rfl #[.slice A0 l0.length c0, .int .u64 (IntKind.u64.wrap (t277))] (by rfl) rfl rfl (by (try simp only [List.map_toArray, List.map_cons, List.map_nil]); first | done | rfl | (simp only [List.length_drop, List.length_take]; rfl)) ?_
       with_reducible refine (nat_shifted.calls k _ _ l0 (IntKind.u64.wrap (t277)) t278 _ ?side1 ?side2 A7.out).mono ?_
       (case side1 => repeat (first | exact (Kd.zu HR0.out HB.out) | (with_reducible refine Kd.ze ?_ _) | (with_reducible refine Kd.zf ?_ _) | (with_reducible refine Kd.zi ?_)))
       (case side2 => exact HC0.out)
       rintro e w17 ⟨v279, rfl, ho0, hb⟩
       refine ⟨_, rfl, ?_⟩
       have n0_ := Q0.mk (Kd.zw0 (Kd.zs1 (M := fun k_ => (w.heap.size ≤ k_)) ho0 (bZ (by repeat (first | (with_reducible first | exact HB.out | apply bA | apply bN | apply b1_ | refine bS ?_ GE274.out | refine bS ?_ GE275.out) | exact HB.out))) (fun k_ h_ => h_)) (bZ (by repeat (first | (with_reducible first | exact HB.out | apply bA | apply bN | apply b1_ | refine bS ?_ GE274.out | refine bS ?_ GE275.out) | exact HB.out))))
       have n1_ := Q0.mk (kB (g := gb274) (o := .cells #[.slice none 0 0] 29 (0, 0)) (by (with_reducible repeat (first | refine kN ?_ _ | refine kD ?_ | refine kA ?_ _)); exact BK274.out) hb)
       have n2_ := Q0.mk (kB (g := gb275) (o := .cells #[.slice none 0 0] 29 (0, 0)) (by (with_reducible repeat (first | refine kN ?_ _ | refine kD ?_ | refine kA ?_ _)); exact BK275.out) hb)
       have n3_ := Q0.mk (bP (by repeat (first | (with_reducible first | exact HB.out | apply bA | apply bN | apply b1_ | refine bS ?_ GE274.out | refine bS ?_ GE275.out) | exact HB.out)) hb)
       clear BK274
       clear BK275
       clear HB
       have HO280 := n0_
       have BK274 := n1_
       have BK275 := n2_
       have HB := n3_
       clear n0_ n1_ n2_ n3_
       (try clear hb)
       (try clear hb2)
       (try clear hk)
       (try clear hi)
       (try clear ho0)
       refine hK.out _ _ trivial (fun hHeld => ?_)
       clear hK K
       refine zg (a' := ?_) ?_ ?_
       rotate_left
       ·show Act.put _ (some 25) _ = _
        simp only [Act.put, s2_, s0_, s1_, iw, jw]
        rfl
       refine zh0 (i := 5) (N := some 28) #[tt,tt,tt,tt,tt,tt,tt,tt,ff,ff,ff] rfl rfl (zb2 HT_.out (by kernel_rfl)) (by decide) (fun K hK => ?_)
       refine z00 Tryd.func76 (by kernel_rfl) rfl #[.slice (some ad276) l1.length c1, .int .u64 (IntKind.u64.wrap (t277))] (by rfl) rfl rfl (by (try simp only [List.map_toArray, List.map_cons, List.map_nil]); first | done | rfl | (simp only [List.length_drop, List.length_take]; rfl)) ?_
       with_reducible refine (nat_shifted.calls k _ _ l1 (IntKind.u64.wrap (t277)) t281 _ ?side1 ?side2 A8.out).mono ?_
       (case side1 => repeat (first | exact (Kd.zu HR1.out HB.out) | (with_reducible refine Kd.ze ?_ _) | (with_reducible refine Kd.zf ?_ _) | (with_reducible refine Kd.zi ?_)))
       (case side2 => exact HC1.out)
       rintro e w18 ⟨v282, rfl, ho0, hb⟩
       refine ⟨_, rfl, ?_⟩
       have n0_ := Q0.mk (Kd.zz3 (by (with_reducible repeat (first | apply Kd.RA_ | apply Kd.RN_ | apply Kd.RD_)); exact HO280.out) (Kd.zr3 ho0) hb)
       have n1_ := Q0.mk (Kd.zw0 (Kd.R_new' (Kd.zs1 (M := fun k_ => (w.heap.size ≤ k_)) ho0 (bZ (by repeat (first | (with_reducible first | exact HB.out | apply bA | apply bN | apply b1_ | refine bS ?_ GE274.out | refine bS ?_ GE275.out) | exact HB.out))) (fun k_ h_ => h_)) (Kd.R_lt (by (with_reducible repeat (first | apply Kd.RA_ | apply Kd.RN_ | apply Kd.RD_)); exact HO280.out))) (bZ (by repeat (first | (with_reducible first | exact HB.out | apply bA | apply bN | apply b1_ | refine bS ?_ GE274.out | refine bS ?_ GE275.out) | exact HB.out))))
       have n2_ := Q0.mk (kB (g := gb274) (o := .cells #[.slice none 0 0] 29 (0, 0)) (by (with_reducible repeat (first | refine kN ?_ _ | refine kD ?_ | refine kA ?_ _)); exact BK274.out) hb)
       have n3_ := Q0.mk (kB (g := gb275) (o := .cells #[.slice none 0 0] 29 (0, 0)) (by (with_reducible repeat (first | refine kN ?_ _ | refine kD ?_ | refine kA ?_ _)); exact BK275.out) hb)
       have n4_ := Q0.mk (bP (by repeat (first | (with_reducible first | exact HB.out | apply bA | apply bN | apply b1_ | refine bS ?_ GE274.out | refine bS ?_ GE275.out) | exact HB.out)) hb)
       clear HO280
       clear BK274
       clear BK275
       clear HB
       have HO280 := n0_
       have HO283 := n1_
       have BK274 := n2_
       have BK275 := n3_
       have HB := n4_
       clear n0_ n1_ n2_ n3_ n4_
       (try clear hb)
       (try clear hb2)
       (try clear hk)
       (try clear hi)
       (try clear ho0)
       obtain ⟨Ao20, co20, eo20⟩ := Kd.zl0 HO283.out
       (first | subst eo20 | (injection eo20 with f1_ f2_ f3_; have f4_ := f1_.symm; have f5_ := f3_.symm; clear f1_ f2_ f3_; subst f4_; subst f5_))
       have q19 : ((l1.length : Int) : Int) ≤ ((t281.length : Int) : Int) := of_decide_eq_true (by first | (with_reducible assumption) | assumption)
       obtain ⟨i019, hi019, _, hsz19, _⟩ := info_parts zg2
       have hroom19 : t281.length ≤ co20 := (Kd.zw HO283.out).2.1
       have hC19 : Kd.C (Kd.int .u64) _ Ao20 t281.length t281 := (Kd.zw HO283.out).2.2
       have hcut19 := cut_to (P := Tryd.prog) 22 40 .i64 Tryd.underlying22 hi019 Ao20 t281.length co20 (l1.length : Int) (of_decide_eq_true (by first | (with_reducible assumption) | assumption)) q19 hroom19
       have hr19 := Kd.C_take (m := ((l1.length : Int) : Int).toNat) hC19 (by omega)
       have hy19 : y284.length = ((l1.length : Int) : Int).toNat := (by rw [Ny284.out, List.length_take]; omega)
       rw [← Ny284.out] at hr19
       rw [← hy19] at hcut19
       have HR287 := Q0.mk hr19
       have HC287 := Q0.mk (show y284.length ≤ co20 from by omega)
       clear hr19 hC19 hroom19 hi019 hsz19
       have KY19 := Q0.mk hy19
       clear hy19
       have KL19 := Q0.mk (show ((l1.length : Int) : Int).toNat ≤ t281.length from by omega)
       replace q19 := eq_true q19
       refine hK.out _ _ trivial (fun hHeld => ?_)
       clear hK K
       refine zg (a' := ?_) ?_ ?_
       rotate_left
       ·show Act.put _ (some 28) _ = _
        simp only [Act.put, s2_, s0_, s1_, iw, jw]
        rfl
       refine za 8 31 ?_ #[tt,tt,tt,tt,tt,tt,tt,tt,tt,ff,ff] rfl rfl (zb HT_.out (by kernel_rfl)) (fun _ _ _ h => h) (Or.inl ⟨by rfl, ?_⟩) ?_ ?_ ?_
       rotate_left
       ·intro w'
        go_simp
        with_reducible rfl
       rotate_left
       ·simp only [Act.put, s2_, s0_, s1_, iw, jw]
        rfl
       refine za 9 7 ?_ #[tt,tt,tt,tt,tt,tt,tt,tt,tt,tt,ff] rfl rfl (zb HT_.out (by kernel_rfl)) (fun _ _ _ h => h) (Or.inl ⟨by rfl, ?_⟩) ?_ ?_ ?_
       rotate_left
       ·intro w'
        go_simp
        with_reducible rfl
       rotate_left
       ·simp only [Act.put, s2_, s0_, s1_, iw, jw]
        rfl
       refine za 10 8 ?_ #[tt,tt,tt,tt,tt,tt,tt,tt,tt,tt,tt] rfl rfl (zb HT_.out (by kernel_rfl)) (fun _ _ _ h => h) (Or.inl ⟨by rfl, ?_⟩) ?_ ?_ ?_
       rotate_left
       ·intro w'
        go_simp
        with_reducible rfl
       rotate_left
       ·simp only [Act.put, s2_, s0_, s1_, iw, jw]
        rfl
       refine zh1 (z03 HT_.out (by kernel_rfl)) ?_
       try go_wp2_with (first | ((with_reducible refine gD (N := 38) rfl ?_); refine Kd.zx2 (Kd.int .u64) _ 40 rfl (N := 38) rfl 22 _ _ rfl ji11 rfl rfl Tryd.underlying22 (.int .u64 0) 8 zg2 rfl (by decide) (by omega) 0 (ok := fun _ => True) (okp := fun _ => True) rfl (fun _ hk => hk) trivial (of_decide_eq_true (by first | (with_reducible assumption) | assumption)) (Nat.le_trans (Nat.mul_le_mul_right _ (of_decide_eq_true (by first | (with_reducible assumption) | assumption) : ji11.toNat ≤ 35184372088832)) (by omega)) (Below.refl _ _) (Nat.le_refl _) ?_; intro v289 w21 ho22 hb hg_ hnew_; clear hg_ hnew_; (first | rw [← Ny288.out] at ho22 | (simp only [Int.reduceToNat] at ho22; rw [← Ny288.out] at ho22)); have q_ := zm (w := w) hb (by repeat (first | (with_reducible first | exact HB.out | apply bA | apply bN | apply b1_ | refine bS ?_ GE274.out | refine bS ?_ GE275.out) | exact HB.out)); have HO290 := Q0.mk (Kd.zw0 (Kd.R_new' (Kd.R_new' (Kd.zs1 (M := fun k_ => (w.heap.size ≤ k_)) ho22 (bZ q_) (fun k_ h_ => h_)) (Kd.R_lt (by (with_reducible repeat (first | apply Kd.RA_ | apply Kd.RN_ | apply Kd.RD_)); exact HO280.out))) (Kd.R_lt (by (with_reducible repeat (first | apply Kd.RA_ | apply Kd.RN_ | apply Kd.RD_)); exact HO283.out))) (bZ q_)); replace HO280 := Q0.mk (Kd.zz3 (by (with_reducible repeat (first | apply Kd.RA_ | apply Kd.RN_ | apply Kd.RD_)); exact HO280.out) (Kd.zr3 ho22) hb); replace HO283 := Q0.mk (Kd.zz3 (by (with_reducible repeat (first | apply Kd.RA_ | apply Kd.RN_ | apply Kd.RD_)); exact HO283.out) (Kd.zr3 ho22) hb); replace BK274 := Q0.mk (kB (g := gb274) (o := .cells #[.slice none 0 0] 29 (0, 0)) (by (with_reducible repeat (first | refine kN ?_ _ | refine kD ?_ | refine kA ?_ _)); exact BK274.out) hb); replace BK275 := Q0.mk (kB (g := gb275) (o := .cells #[.slice none 0 0] 29 (0, 0)) (by (with_reducible repeat (first | refine kN ?_ _ | refine kD ?_ | refine kA ?_ _)); exact BK275.out) hb); replace HR287 := Q0.mk (Kd.zu (by repeat (first | (with_reducible exact HR287.out) | (with_reducible refine Kd.ze ?_ _) | (with_reducible refine Kd.zf ?_ _) | (with_reducible refine Kd.zi ?_) | exact HR287.out)) hb); replace HB := Q0.mk (bP q_ hb); clear q_; clear hb ho22))
       have NE1 := Q0.mk (show ∀ k, (v279 : Value).ownBlock = some k → some k ≠ (.slice Ao20 t281.length co20 : Value).ownBlock from fun k e => (HO280.out.1 k e).1.2)
       have NE2 := Q0.mk (show ∀ k, (v289 : Value).ownBlock = some k → some k ≠ (.slice Ao20 t281.length co20 : Value).ownBlock from fun k e => (HO290.out.1 k e).2)
       go_loopg [10] k (fun kq v10 w' => ∃ (x7_1 : List Int) (x9_1 : List Int) (x10_1 : Int), v10 = .int .i64 x10_1 ∧ Q0 (nat_divide.l0 kq l1 (IntKind.u64.wrap (t277)) x7_1 y284 x9_1 x10_1 = some (r1, r2)) ∧ Q0 (kq ≤ k) ∧ Q0 (Kd.R (Kd.int .u64) 40 w' w.heap.size (fun k_ => (w.heap.size ≤ k_) ∧ some k_ ≠ (v289 : Value).ownBlock) v279 x7_1) ∧ Q0 (Kd.R (Kd.int .u64) 40 w' w.heap.size (fun k_ => (w.heap.size ≤ k_) ∧ some k_ ≠ (v279 : Value).ownBlock) v289 x9_1) ∧ Q0 (w'.heap[gb274]? = some (.cells #[(.slice none 0 0)] 29 (0, 0))) ∧ Q0 (w'.heap[gb275]? = some (.cells #[(.slice none 0 0)] 29 (0, 0))) ∧ Q0 (Below w.heap.size w w') ∧ Q0 (Kd.C (Kd.int .u64) w' Ao20 y284.length y284))
       case atStart => exact ⟨(t278), (y288), (wrap64 ((l0.length : Int) - (l1.length : Int))), (by first | rfl | (simp; done) | (simp [*]; done)), H', ⟨Nat.le_refl _⟩, ⟨by (with_reducible repeat (first | apply Kd.RA_ | apply Kd.RN_ | apply Kd.RD_)); exact Kd.zb1 HO280.out (fun _ hk => ⟨hk.1.1.1, hk.2⟩)⟩, ⟨by (with_reducible repeat (first | apply Kd.RA_ | apply Kd.RN_ | apply Kd.RD_)); exact Kd.zb1 HO290.out (fun _ hk => ⟨hk.1.1.1, hk.1.2⟩)⟩, ⟨by (with_reducible repeat (first | refine kN ?_ _ | refine kD ?_ | refine kA ?_ _)); exact BK274.out⟩, ⟨by (with_reducible repeat (first | refine kN ?_ _ | refine kD ?_ | refine kA ?_ _)); exact BK275.out⟩, ⟨by repeat (first | (with_reducible first | exact HB.out | apply bA | apply bN | apply b1_ | refine bS ?_ GE274.out | refine bS ?_ GE275.out) | exact HB.out)⟩, ⟨by repeat (first | (with_reducible exact HR287.out) | (with_reducible refine Kd.ze ?_ _) | (with_reducible refine Kd.zf ?_ _) | (with_reducible refine Kd.zi ?_) | exact HR287.out)⟩⟩
       case round =>
        clear H' HR287
        obtain ⟨x7_1, x9_1, x10_1, rfl, HA, HK1, HO_7, HO_9, BK274, BK275, HB, HR287⟩ := hrel
        cases gk with
        | zero => exact absurd HA.out (by simp [nat_divide.l0])
        | succ k1 =>
         have H := HA.out
         clear HA
         simp only [nat_divide.l0] at H
         by_cases c23 : x10_1 ≥ 0
         ·rw [if_pos c23] at H
          have c23b0 : decide (0 ≤ x10_1) = true := decide_eq_true c23
          clear c23
          obtain ⟨ji24, hji24⟩ : ∃ j_ : Int, (wrap64 (x10_1 + (l1.length : Int))) = j_ := ⟨_, rfl⟩
          replace H : (if 0 ≤ (ji24) then (if (ji24) < (x7_1.length : Int) then (if 0 ≤ (wrap64 ((ji24) - 1)) then (if (wrap64 ((ji24) - 1)) < (x7_1.length : Int) then (if 0 ≤ (wrap64 ((ji24) - 2)) then (if (wrap64 ((ji24) - 2)) < (x7_1.length : Int) then (if 0 ≤ (wrap64 ((l1.length : Int) - 1)) then (if (wrap64 ((l1.length : Int) - 1)) < (y284.length : Int) then (if 0 ≤ (wrap64 ((l1.length : Int) - 2)) then (if (wrap64 ((l1.length : Int) - 2)) < (y284.length : Int) then ((nat_guess.f k1 (rd x7_1 (ji24)) (rd x7_1 (wrap64 ((ji24) - 1))) (rd x7_1 (wrap64 ((ji24) - 2))) (rd y284 (wrap64 ((l1.length : Int) - 1))) (rd y284 (wrap64 ((l1.length : Int) - 2)))).bind fun t296 => ((nat_takeW.f k1 x7_1 y284 t296 x10_1).bind fun bt297 => (if 0 ≤ x10_1 then (if x10_1 < (x9_1.length : Int) then (nat_divide.l0 k1 l1 (IntKind.u64.wrap (t277)) bt297.2 y284 (x9_1.set (x10_1 : Int).toNat bt297.1) (wrap64 (x10_1 - 1))) else (none)) else (none)))) else (none)) else (none)) else (none)) else (none)) else (none)) else (none)) else (none)) else (none)) else (none)) else (none)) = some (r1, r2) := by first | (rw [hji24] at H; exact H) | (simp only [hji24] at H ⊢; exact H)
          have hji24w : (IntKind.i64.wrap (x10_1 + (l1.length : Int))) = ji24 := (iw _).trans hji24
          by_cases c25 : 0 ≤ (ji24)
          ·rw [if_pos c25] at H
           have c25b0 : decide (0 ≤ (ji24)) = true := decide_eq_true c25
           clear c25
           by_cases c26 : (ji24) < (x7_1.length : Int)
           ·rw [if_pos c26] at H
            have c26b0 : decide ((ji24) < (x7_1.length : Int)) = true := decide_eq_true c26
            clear c26
            obtain ⟨ji27, hji27⟩ : ∃ j_ : Int, (wrap64 ((ji24) - 1)) = j_ := ⟨_, rfl⟩
            replace H : (if 0 ≤ (ji27) then (if (ji27) < (x7_1.length : Int) then (if 0 ≤ (wrap64 ((ji24) - 2)) then (if (wrap64 ((ji24) - 2)) < (x7_1.length : Int) then (if 0 ≤ (wrap64 ((l1.length : Int) - 1)) then (if (wrap64 ((l1.length : Int) - 1)) < (y284.length : Int) then (if 0 ≤ (wrap64 ((l1.length : Int) - 2)) then (if (wrap64 ((l1.length : Int) - 2)) < (y284.length : Int) then ((nat_guess.f k1 (rd x7_1 (ji24)) (rd x7_1 (ji27)) (rd x7_1 (wrap64 ((ji24) - 2))) (rd y284 (wrap64 ((l1.length : Int) - 1))) (rd y284 (wrap64 ((l1.length : Int) - 2)))).bind fun t296 => ((nat_takeW.f k1 x7_1 y284 t296 x10_1).bind fun bt297 => (if 0 ≤ x10_1 then (if x10_1 < (x9_1.length : Int) then (nat_divide.l0 k1 l1 (IntKind.u64.wrap (t277)) bt297.2 y284 (x9_1.set (x10_1 : Int).toNat bt297.1) (wrap64 (x10_1 - 1))) else (none)) else (none)))) else (none)) else (none)) else (none)) else (none)) else (none)) else (none)) else (none)) else (none)) = some (r1, r2) := by first | (rw [hji27] at H; exact H) | (simp only [hji27] at H ⊢; exact H)
            have hji27w : (IntKind.i64.wrap ((ji24) - 1)) = ji27 := (iw _).trans hji27
            by_cases c28 : 0 ≤ (ji27)
            ·rw [if_pos c28] at H
             have c28b0 : decide (0 ≤ (ji27)) = true := decide_eq_true c28
             clear c28
             by_cases c29 : (ji27) < (x7_1.length : Int)
             ·rw [if_pos c29] at H
              have c29b0 : decide ((ji27) < (x7_1.length : Int)) = true := decide_eq_true c29
              clear c29
              obtain ⟨ji30, hji30⟩ : ∃ j_ : Int, (wrap64 ((ji24) - 2)) = j_ := ⟨_, rfl⟩
              replace H : (if 0 ≤ (ji30) then (if (ji30) < (x7_1.length : Int) then (if 0 ≤ (wrap64 ((l1.length : Int) - 1)) then (if (wrap64 ((l1.length : Int) - 1)) < (y284.length : Int) then (if 0 ≤ (wrap64 ((l1.length : Int) - 2)) then (if (wrap64 ((l1.length : Int) - 2)) < (y284.length : Int) then ((nat_guess.f k1 (rd x7_1 (ji24)) (rd x7_1 (ji27)) (rd x7_1 (ji30)) (rd y284 (wrap64 ((l1.length : Int) - 1))) (rd y284 (wrap64 ((l1.length : Int) - 2)))).bind fun t296 => ((nat_takeW.f k1 x7_1 y284 t296 x10_1).bind fun bt297 => (if 0 ≤ x10_1 then (if x10_1 < (x9_1.length : Int) then (nat_divide.l0 k1 l1 (IntKind.u64.wrap (t277)) bt297.2 y284 (x9_1.set (x10_1 : Int).toNat bt297.1) (wrap64 (x10_1 - 1))) else (none)) else (none)))) else (none)) else (none)) else (none)) else (none)) else (none)) else (none)) = some (r1, r2) := by first | (rw [hji30] at H; exact H) | (simp only [hji30] at H ⊢; exact H)
              have hji30w : (IntKind.i64.wrap ((ji24) - 2)) = ji30 := (iw _).trans hji30
              by_cases c31 : 0 ≤ (ji30)
              ·rw [if_pos c31] at H
               have c31b0 : decide (0 ≤ (ji30)) = true := decide_eq_true c31
               clear c31
               by_cases c32 : (ji30) < (x7_1.length : Int)
               ·rw [if_pos c32] at H
                have c32b0 : decide ((ji30) < (x7_1.length : Int)) = true := decide_eq_true c32
                clear c32
                obtain ⟨ji33, hji33⟩ : ∃ j_ : Int, (wrap64 ((l1.length : Int) - 1)) = j_ := ⟨_, rfl⟩
                replace H : (if 0 ≤ (ji33) then (if (ji33) < (y284.length : Int) then (if 0 ≤ (wrap64 ((l1.length : Int) - 2)) then (if (wrap64 ((l1.length : Int) - 2)) < (y284.length : Int) then ((nat_guess.f k1 (rd x7_1 (ji24)) (rd x7_1 (ji27)) (rd x7_1 (ji30)) (rd y284 (ji33)) (rd y284 (wrap64 ((l1.length : Int) - 2)))).bind fun t296 => ((nat_takeW.f k1 x7_1 y284 t296 x10_1).bind fun bt297 => (if 0 ≤ x10_1 then (if x10_1 < (x9_1.length : Int) then (nat_divide.l0 k1 l1 (IntKind.u64.wrap (t277)) bt297.2 y284 (x9_1.set (x10_1 : Int).toNat bt297.1) (wrap64 (x10_1 - 1))) else (none)) else (none)))) else (none)) else (none)) else (none)) else (none)) = some (r1, r2) := by first | (rw [hji33] at H; exact H) | (simp only [hji33] at H ⊢; exact H)
                have hji33w : (IntKind.i64.wrap ((l1.length : Int) - 1)) = ji33 := (iw _).trans hji33
                obtain rfl : ji33 = ji3 := hji33.symm.trans hji3
                by_cases c34 : 0 ≤ (ji33)
                ·rw [if_pos c34] at H
                 have c34b0 : decide (0 ≤ (ji33)) = true := decide_eq_true c34
                 clear c34
                 by_cases c35 : (ji33) < (y284.length : Int)
                 ·rw [if_pos c35] at H
                  have c35b0 : decide ((ji33) < (y284.length : Int)) = true := decide_eq_true c35
                  clear c35
                  obtain ⟨ji36, hji36⟩ : ∃ j_ : Int, (wrap64 ((l1.length : Int) - 2)) = j_ := ⟨_, rfl⟩
                  replace H : (if 0 ≤ (ji36) then (if (ji36) < (y284.length : Int) then ((nat_guess.f k1 (rd x7_1 (ji24)) (rd x7_1 (ji27)) (rd x7_1 (ji30)) (rd y284 (ji33)) (rd y284 (ji36))).bind fun t296 => ((nat_takeW.f k1 x7_1 y284 t296 x10_1).bind fun bt297 => (if 0 ≤ x10_1 then (if x10_1 < (x9_1.length : Int) then (nat_divide.l0 k1 l1 (IntKind.u64.wrap (t277)) bt297.2 y284 (x9_1.set (x10_1 : Int).toNat bt297.1) (wrap64 (x10_1 - 1))) else (none)) else (none)))) else (none)) else (none)) = some (r1, r2) := by first | (rw [hji36] at H; exact H) | (simp only [hji36] at H ⊢; exact H)
                  have hji36w : (IntKind.i64.wrap ((l1.length : Int) - 2)) = ji36 := (iw _).trans hji36
                  by_cases c37 : 0 ≤ (ji36)
                  ·rw [if_pos c37] at H
                   have c37b0 : decide (0 ≤ (ji36)) = true := decide_eq_true c37
                   clear c37
                   by_cases c38 : (ji36) < (y284.length : Int)
                   ·rw [if_pos c38] at H
                    have c38b0 : decide ((ji36) < (y284.length : Int)) = true := decide_eq_true c38
                    clear c38
                    replace H := Option.bind_eq_some_iff.mp H
                    obtain ⟨t296, A390, H⟩ := H
                    replace H : ((nat_takeW.f k1 x7_1 y284 t296 x10_1).bind fun bt297 => (if 0 ≤ x10_1 then (if x10_1 < (x9_1.length : Int) then (nat_divide.l0 k1 l1 (IntKind.u64.wrap (t277)) bt297.2 y284 (x9_1.set (x10_1 : Int).toNat bt297.1) (wrap64 (x10_1 - 1))) else (none)) else (none))) = some (r1, r2) := H
                    have A39 := Q0.mk A390
                    clear A390
                    replace H := Option.bind_eq_some_iff.mp H
                    obtain ⟨⟨t297, t298⟩, A400, H⟩ := H
                    replace H : (if 0 ≤ x10_1 then (if x10_1 < (x9_1.length : Int) then (nat_divide.l0 k1 l1 (IntKind.u64.wrap (t277)) t298 y284 (x9_1.set (x10_1 : Int).toNat t297) (wrap64 (x10_1 - 1))) else (none)) else (none)) = some (r1, r2) := H
                    have A40 := Q0.mk A400
                    clear A400
                    by_cases c41 : 0 ≤ x10_1
                    ·rw [if_pos c41] at H
                     have c41b0 : decide (0 ≤ x10_1) = true := decide_eq_true c41
                     clear c41
                     by_cases c42 : x10_1 < (x9_1.length : Int)
                     ·rw [if_pos c42] at H
                      have c42b0 : decide (x10_1 < (x9_1.length : Int)) = true := decide_eq_true c42
                      clear c42
                      obtain ⟨y299, hy299⟩ : ∃ y_ : List Int, y_ = (x9_1.set (x10_1 : Int).toNat t297) := ⟨_, rfl⟩
                      replace H : (nat_divide.l0 k1 l1 (IntKind.u64.wrap (t277)) t298 y284 y299 (wrap64 (x10_1 - 1))) = some (r1, r2) := by first | (rw [hy299]; with_reducible exact H) | (have H2_ := (Option.bind_some _ _).symm.trans H; rw [hy299]; with_reducible exact H2_) | (have H2_ := (Option.bind_some _ _).symm.trans H; with_reducible exact H2_) | with_reducible exact H | (rw [hy299]; exact H) | exact H
                      have Ny299 := Q0.mk hy299
                      clear hy299
                      have H' := Q0.mk H
                      clear H
                      try go_wp2
                      have n0_ := Q0.mk (Kd.RD_ HO_7.out)
                      have n1_ := Q0.mk (Kd.RD_ HO_9.out)
                      have n2_ := Q0.mk (kD BK274.out)
                      have n3_ := Q0.mk (kD BK275.out)
                      have n4_ := Q0.mk (b1_ HB.out)
                      clear HO_7
                      clear HO_9
                      clear BK274
                      clear BK275
                      clear HB
                      have HO_7 := n0_
                      have HO_9 := n1_
                      have BK274 := n2_
                      have BK275 := n3_
                      have HB := n4_
                      clear n0_ n1_ n2_ n3_ n4_
                      have HR287 := Q0.mk (Kd.zi HR287.out)
                      obtain ⟨Ao45, co45, eo45⟩ := Kd.zl0 HO_7.out
                      (first | subst eo45 | (injection eo45 with f1_ f2_ f3_; have f4_ := f1_.symm; have f5_ := f3_.symm; clear f1_ f2_ f3_; subst f4_; subst f5_))
                      have p291 : 0 ≤ ((ji24) : Int) := of_decide_eq_true (by first | (with_reducible assumption) | assumption)
                      have q291 : (ji24) < (x7_1.length : Int) := of_decide_eq_true (by first | (with_reducible assumption) | assumption)
                      obtain ⟨ad291, e291, hx291_0⟩ := Kd.zk (Kd.zw HO_7.out).2.2 (ji24) p291 q291
                      cases e291
                      replace p291 := eq_true p291
                      replace q291 := eq_true q291
                      have p292 : 0 ≤ ((ji27) : Int) := of_decide_eq_true (by first | (with_reducible assumption) | assumption)
                      have q292 : (ji27) < (x7_1.length : Int) := of_decide_eq_true (by first | (with_reducible assumption) | assumption)
                      obtain ⟨ad292, e292, hx292_0⟩ := Kd.zk (Kd.zw HO_7.out).2.2 (ji27) p292 q292
                      obtain rfl : ad291 = ad292 := (by injection e292)
                      replace p292 := eq_true p292
                      replace q292 := eq_true q292
                      have p293 : 0 ≤ ((ji30) : Int) := of_decide_eq_true (by first | (with_reducible assumption) | assumption)
                      have q293 : (ji30) < (x7_1.length : Int) := of_decide_eq_true (by first | (with_reducible assumption) | assumption)
                      obtain ⟨ad293, e293, hx293_0⟩ := Kd.zk (Kd.zw HO_7.out).2.2 (ji30) p293 q293
                      obtain rfl : ad291 = ad293 := (by injection e293)
                      replace p293 := eq_true p293
                      replace q293 := eq_true q293
                      have p294 : 0 ≤ ((ji33) : Int) := of_decide_eq_true (by first | (with_reducible assumption) | assumption)
                      have q294 : (ji33) < (y284.length : Int) := of_decide_eq_true (by first | (with_reducible assumption) | assumption)
                      obtain ⟨ad294, e294, hx294_0⟩ := Kd.zk HR287.out (ji33) p294 q294
                      cases e294
                      replace p294 := eq_true p294
                      replace q294 := eq_true q294
                      have p295 : 0 ≤ ((ji36) : Int) := of_decide_eq_true (by first | (with_reducible assumption) | assumption)
                      have q295 : (ji36) < (y284.length : Int) := of_decide_eq_true (by first | (with_reducible assumption) | assumption)
                      obtain ⟨ad295, e295, hx295_0⟩ := Kd.zk HR287.out (ji36) p295 q295
                      obtain rfl : ad294 = ad295 := (by injection e295)
                      replace p295 := eq_true p295
                      replace q295 := eq_true q295
                      refine zt0 (n := 28) (S := fun w' => w'.cell? (ad291.add ((ji24)).toNat) = some (.int .u64 (rd x7_1 (ji24))) ∧ w'.cell? (ad291.add ((ji27)).toNat) = some (.int .u64 (rd x7_1 (ji27))) ∧ w'.cell? (ad291.add ((ji30)).toNat) = some (.int .u64 (rd x7_1 (ji30))) ∧ w'.cell? (ad294.add ((ji33)).toNat) = some (.int .u64 (rd y284 (ji33))) ∧ w'.cell? (ad294.add ((ji36)).toNat) = some (.int .u64 (rd y284 (ji36)))) (ds := []) #[ff,ff,ff,ff,ff,ff,ff,ff,ff,ff,ff,ff,ff,ff,ff,ff,ff,ff,ff,ff,ff,ff,ff,ff,ff,ff,ff,ff] (by kernel_rfl) rfl rfl ⟨hx291_0, hx292_0, hx293_0, hx294_0, hx295_0⟩ (fun hHeld => ?_); refine z02 nat_divide.tab8 nat_divide.bits8 (fun HT_ HW_ => ?_)
                      generalize wr.drew = w44 at HR287 HO_7 HO_9 BK274 BK275 HB hx291_0 hx292_0 hx293_0 hx294_0 hx295_0 hHeld ⊢
                      refine za 0 52 ?_ #[tt,ff,ff,ff,ff,ff,ff,ff,ff,ff,ff,ff,ff,ff,ff,ff,ff,ff,ff,ff,ff,ff,ff,ff,ff,ff,ff,ff] rfl rfl (zb HT_.out (by kernel_rfl)) (fun _ _ _ h => h) (Or.inl ⟨by rfl, ?_⟩) ?_ ?_ ?_
                      rotate_left
                      ·intro w'
                       go_simp
                       with_reducible rfl
                      rotate_left
                      ·simp only [Act.put, s2_, s0_, s1_, iw, jw]
                       rfl
                      refine za 1 53 ?_ #[tt,tt,ff,ff,ff,ff,ff,ff,ff,ff,ff,ff,ff,ff,ff,ff,ff,ff,ff,ff,ff,ff,ff,ff,ff,ff,ff,ff] rfl rfl (zb HT_.out (by kernel_rfl)) (fun _ _ _ h => h) (Or.inl ⟨by rfl, ?_⟩) ?_ ?_ ?_
                      rotate_left
                      ·intro w'
                       go_simp
                       with_reducible rfl
                      rotate_left
                      ·simp only [Act.put, s2_, s0_, s1_, iw, jw]
                       rfl
                      refine za 2 54 ?_ #[tt,tt,tt,ff,ff,ff,ff,ff,ff,ff,ff,ff,ff,ff,ff,ff,ff,ff,ff,ff,ff,ff,ff,ff,ff,ff,ff,ff] rfl rfl (zb HT_.out (by kernel_rfl)) (fun _ _ _ h => h) (Or.inl ⟨by rfl, ?_⟩) ?_ ?_ ?_
                      rotate_left
                      ·intro w'
                       go_simp
                       with_reducible rfl
                      rotate_left
                      ·simp only [Act.put, s2_, s0_, s1_, iw, jw]
                       rfl
                      refine za 4 56 ?_ #[tt,tt,tt,ff,tt,ff,ff,ff,ff,ff,ff,ff,ff,ff,ff,ff,ff,ff,ff,ff,ff,ff,ff,ff,ff,ff,ff,ff] rfl rfl (zb HT_.out (by kernel_rfl)) (fun _ _ _ h => h) (Or.inl ⟨by rfl, ?_⟩) ?_ ?_ ?_
                      rotate_left
                      ·intro w'
                       go_simp
                       with_reducible rfl
                      rotate_left
                      ·simp only [Act.put, s2_, s0_, s1_, iw, jw]
                       rfl
                      refine za 5 57 ?_ #[tt,tt,tt,ff,tt,tt,ff,ff,ff,ff,ff,ff,ff,ff,ff,ff,ff,ff,ff,ff,ff,ff,ff,ff,ff,ff,ff,ff] rfl rfl (zb HT_.out (by kernel_rfl)) (fun _ _ _ h => h) (Or.inl ⟨by rfl, ?_⟩) ?_ ?_ ?_
                      rotate_left
                      ·intro w'
                       go_simp
                       with_reducible rfl
                      rotate_left
                      ·simp only [Act.put, s2_, s0_, s1_, iw, jw]
                       rfl
                      refine za 6 58 ?_ #[tt,tt,tt,ff,tt,tt,tt,ff,ff,ff,ff,ff,ff,ff,ff,ff,ff,ff,ff,ff,ff,ff,ff,ff,ff,ff,ff,ff] rfl rfl (zb HT_.out (by kernel_rfl)) (fun _ _ _ h => h) (Or.inl ⟨by rfl, ?_⟩) ?_ ?_ ?_
                      rotate_left
                      ·intro w'
                       go_simp
                       with_reducible rfl
                      rotate_left
                      ·simp only [Act.put, s2_, s0_, s1_, iw, jw]
                       rfl
                      refine za 7 59 ?_ #[tt,tt,tt,ff,tt,tt,tt,tt,ff,ff,ff,ff,ff,ff,ff,ff,ff,ff,ff,ff,ff,ff,ff,ff,ff,ff,ff,ff] rfl rfl (zb HT_.out (by kernel_rfl)) (fun _ _ _ h => h) (Or.inl ⟨by rfl, ?_⟩) ?_ ?_ ?_
                      rotate_left
                      ·intro w'
                       go_simp
                       with_reducible rfl
                      rotate_left
                      ·simp only [Act.put, s2_, s0_, s1_, iw, jw]
                       rfl
                      refine za 9 61 ?_ #[tt,tt,tt,ff,tt,tt,tt,tt,ff,tt,ff,ff,ff,ff,ff,ff,ff,ff,ff,ff,ff,ff,ff,ff,ff,ff,ff,ff] rfl rfl (zb HT_.out (by kernel_rfl)) (fun _ _ _ h => h) (Or.inl ⟨by rfl, ?_⟩) ?_ ?_ ?_
                      rotate_left
                      ·intro w'
                       go_simp
                       with_reducible rfl
                      rotate_left
                      ·simp only [Act.put, s2_, s0_, s1_, iw, jw]
                       rfl
                      refine za 10 62 ?_ #[tt,tt,tt,ff,tt,tt,tt,tt,ff,tt,tt,ff,ff,ff,ff,ff,ff,ff,ff,ff,ff,ff,ff,ff,ff,ff,ff,ff] rfl rfl (zb HT_.out (by kernel_rfl)) (fun _ _ _ h => h) (Or.inl ⟨by rfl, ?_⟩) ?_ ?_ ?_
                      rotate_left
                      ·intro w'
                       go_simp
                       with_reducible rfl
                      rotate_left
                      ·simp only [Act.put, s2_, s0_, s1_, iw, jw]
                       rfl
                      refine za 11 63 ?_ #[tt,tt,tt,ff,tt,tt,tt,tt,ff,tt,tt,tt,ff,ff,ff,ff,ff,ff,ff,ff,ff,ff,ff,ff,ff,ff,ff,ff] rfl rfl (zb HT_.out (by kernel_rfl)) (fun _ _ _ h => h) (Or.inl ⟨by rfl, ?_⟩) ?_ ?_ ?_
                      rotate_left
                      ·intro w'
                       go_simp
                       with_reducible rfl
                      rotate_left
                      ·simp only [Act.put, s2_, s0_, s1_, iw, jw]
                       rfl
                      refine za 12 64 ?_ #[tt,tt,tt,ff,tt,tt,tt,tt,ff,tt,tt,tt,tt,ff,ff,ff,ff,ff,ff,ff,ff,ff,ff,ff,ff,ff,ff,ff] rfl rfl (zb HT_.out (by kernel_rfl)) (fun _ _ _ h => h) (Or.inl ⟨by rfl, ?_⟩) ?_ ?_ ?_
                      rotate_left
                      ·intro w'
                       go_simp
                       with_reducible rfl
                      rotate_left
                      ·simp only [Act.put, s2_, s0_, s1_, iw, jw]
                       rfl
                      refine za 14 66 ?_ #[tt,tt,tt,ff,tt,tt,tt,tt,ff,tt,tt,tt,tt,ff,tt,ff,ff,ff,ff,ff,ff,ff,ff,ff,ff,ff,ff,ff] rfl rfl (zb HT_.out (by kernel_rfl)) (fun _ _ _ h => h) (Or.inl ⟨by rfl, ?_⟩) ?_ ?_ ?_
                      rotate_left
                      ·intro w'
                       go_simp
                       with_reducible rfl
                      rotate_left
                      ·simp only [Act.put, s2_, s0_, s1_, iw, jw]
                       rfl
                      refine za 15 67 ?_ #[tt,tt,tt,ff,tt,tt,tt,tt,ff,tt,tt,tt,tt,ff,tt,tt,ff,ff,ff,ff,ff,ff,ff,ff,ff,ff,ff,ff] rfl rfl (zb HT_.out (by kernel_rfl)) (fun _ _ _ h => h) (Or.inl ⟨by rfl, ?_⟩) ?_ ?_ ?_
                      rotate_left
                      ·intro w'
                       go_simp
                       with_reducible rfl
                      rotate_left
                      ·simp only [Act.put, s2_, s0_, s1_, iw, jw]
                       rfl
                      refine za 16 68 ?_ #[tt,tt,tt,ff,tt,tt,tt,tt,ff,tt,tt,tt,tt,ff,tt,tt,tt,ff,ff,ff,ff,ff,ff,ff,ff,ff,ff,ff] rfl rfl (zb HT_.out (by kernel_rfl)) (fun _ _ _ h => h) (Or.inl ⟨by rfl, ?_⟩) ?_ ?_ ?_
                      rotate_left
                      ·intro w'
                       go_simp
                       with_reducible rfl
                      rotate_left
                      ·simp only [Act.put, s2_, s0_, s1_, iw, jw]
                       rfl
                      refine za 17 69 ?_ #[tt,tt,tt,ff,tt,tt,tt,tt,ff,tt,tt,tt,tt,ff,tt,tt,tt,tt,ff,ff,ff,ff,ff,ff,ff,ff,ff,ff] rfl rfl (zb HT_.out (by kernel_rfl)) (fun _ _ _ h => h) (Or.inl ⟨by rfl, ?_⟩) ?_ ?_ ?_
                      rotate_left
                      ·intro w'
                       go_simp
                       with_reducible rfl
                      rotate_left
                      ·simp only [Act.put, s2_, s0_, s1_, iw, jw]
                       rfl
                      refine za 18 70 ?_ #[tt,tt,tt,ff,tt,tt,tt,tt,ff,tt,tt,tt,tt,ff,tt,tt,tt,tt,tt,ff,ff,ff,ff,ff,ff,ff,ff,ff] rfl rfl (zb HT_.out (by kernel_rfl)) (fun _ _ _ h => h) (Or.inl ⟨by rfl, ?_⟩) ?_ ?_ ?_
                      rotate_left
                      ·intro w'
                       go_simp
                       with_reducible rfl
                      rotate_left
                      ·simp only [Act.put, s2_, s0_, s1_, iw, jw]
                       rfl
                      refine za 20 72 ?_ #[tt,tt,tt,ff,tt,tt,tt,tt,ff,tt,tt,tt,tt,ff,tt,tt,tt,tt,tt,ff,tt,ff,ff,ff,ff,ff,ff,ff] rfl rfl (zb HT_.out (by kernel_rfl)) (fun _ _ _ h => h) (Or.inl ⟨by rfl, ?_⟩) ?_ ?_ ?_
                      rotate_left
                      ·intro w'
                       go_simp
                       with_reducible rfl
                      rotate_left
                      ·simp only [Act.put, s2_, s0_, s1_, iw, jw]
                       rfl
                      refine za 21 73 ?_ #[tt,tt,tt,ff,tt,tt,tt,tt,ff,tt,tt,tt,tt,ff,tt,tt,tt,tt,tt,ff,tt,tt,ff,ff,ff,ff,ff,ff] rfl rfl (zb HT_.out (by kernel_rfl)) (fun _ _ _ h => h) (Or.inl ⟨by rfl, ?_⟩) ?_ ?_ ?_
                      rotate_left
                      ·intro w'
                       go_simp
                       with_reducible rfl
                      rotate_left
                      ·simp only [Act.put, s2_, s0_, s1_, iw, jw]
                       rfl
                      refine za 22 74 ?_ #[tt,tt,tt,ff,tt,tt,tt,tt,ff,tt,tt,tt,tt,ff,tt,tt,tt,tt,tt,ff,tt,tt,tt,ff,ff,ff,ff,ff] rfl rfl (zb HT_.out (by kernel_rfl)) (fun _ _ _ h => h) (Or.inl ⟨by rfl, ?_⟩) ?_ ?_ ?_
                      rotate_left
                      ·intro w'
                       go_simp
                       with_reducible rfl
                      rotate_left
                      ·simp only [Act.put, s2_, s0_, s1_, iw, jw]
                       rfl
                      refine za 23 75 ?_ #[tt,tt,tt,ff,tt,tt,tt,tt,ff,tt,tt,tt,tt,ff,tt,tt,tt,tt,tt,ff,tt,tt,tt,tt,ff,ff,ff,ff] rfl rfl (zb HT_.out (by kernel_rfl)) (fun _ _ _ h => h) (Or.inl ⟨by rfl, ?_⟩) ?_ ?_ ?_
                      rotate_left
                      ·intro w'
                       go_simp
                       with_reducible rfl
                      rotate_left
                      ·simp only [Act.put, s2_, s0_, s1_, iw, jw]
                       rfl
                      refine za 24 76 ?_ #[tt,tt,tt,ff,tt,tt,tt,tt,ff,tt,tt,tt,tt,ff,tt,tt,tt,tt,tt,ff,tt,tt,tt,tt,tt,ff,ff,ff] rfl rfl (zb HT_.out (by kernel_rfl)) (fun _ _ _ h => h) (Or.inl ⟨by rfl, ?_⟩) ?_ ?_ ?_
                      rotate_left
                      ·intro w'
                       go_simp
                       with_reducible rfl
                      rotate_left
                      ·simp only [Act.put, s2_, s0_, s1_, iw, jw]
                       rfl
                      refine z10 3 55 ?_ #[tt,tt,tt,tt,tt,tt,tt,tt,ff,tt,tt,tt,tt,ff,tt,tt,tt,tt,tt,ff,tt,tt,tt,tt,tt,ff,ff,ff] rfl rfl (zp0 HT_.out HW_.out (by kernel_rfl)) (fun _ _ _ h => h) (Or.inl ⟨by rfl, ?_⟩) hHeld ?_ ?_ ?_
                      rotate_left
                      ·rintro w' ⟨s0, s1, s2, s3, s4⟩
                       go_simp
                       with_reducible rfl
                      rotate_left
                      ·simp only [Act.put, s2_, s0_, s1_, iw, jw]
                       rfl
                      refine z10 8 60 ?_ #[tt,tt,tt,tt,tt,tt,tt,tt,tt,tt,tt,tt,tt,ff,tt,tt,tt,tt,tt,ff,tt,tt,tt,tt,tt,ff,ff,ff] rfl rfl (zp0 HT_.out HW_.out (by kernel_rfl)) (fun _ _ _ h => h) (Or.inl ⟨by rfl, ?_⟩) hHeld ?_ ?_ ?_
                      rotate_left
                      ·rintro w' ⟨s0, s1, s2, s3, s4⟩
                       go_simp
                       with_reducible rfl
                      rotate_left
                      ·simp only [Act.put, s2_, s0_, s1_, iw, jw]
                       rfl
                      refine z10 13 65 ?_ #[tt,tt,tt,tt,tt,tt,tt,tt,tt,tt,tt,tt,tt,tt,tt,tt,tt,tt,tt,ff,tt,tt,tt,tt,tt,ff,ff,ff] rfl rfl (zp0 HT_.out HW_.out (by kernel_rfl)) (fun _ _ _ h => h) (Or.inl ⟨by rfl, ?_⟩) hHeld ?_ ?_ ?_
                      rotate_left
                      ·rintro w' ⟨s0, s1, s2, s3, s4⟩
                       go_simp
                       with_reducible rfl
                      rotate_left
                      ·simp only [Act.put, s2_, s0_, s1_, iw, jw]
                       rfl
                      refine z10 19 71 ?_ #[tt,tt,tt,tt,tt,tt,tt,tt,tt,tt,tt,tt,tt,tt,tt,tt,tt,tt,tt,tt,tt,tt,tt,tt,tt,ff,ff,ff] rfl rfl (zp0 HT_.out HW_.out (by kernel_rfl)) (fun _ _ _ h => h) (Or.inl ⟨by rfl, ?_⟩) hHeld ?_ ?_ ?_
                      rotate_left
                      ·rintro w' ⟨s0, s1, s2, s3, s4⟩
                       go_simp
                       with_reducible rfl
                      rotate_left
                      ·simp only [Act.put, s2_, s0_, s1_, iw, jw]
                       rfl
                      refine z10 25 77 ?_ #[tt,tt,tt,tt,tt,tt,tt,tt,tt,tt,tt,tt,tt,tt,tt,tt,tt,tt,tt,tt,tt,tt,tt,tt,tt,tt,ff,ff] rfl rfl (zp0 HT_.out HW_.out (by kernel_rfl)) (fun _ _ _ h => h) (Or.inl ⟨by rfl, ?_⟩) hHeld ?_ ?_ ?_
                      rotate_left
                      ·rintro w' ⟨s0, s1, s2, s3, s4⟩
                       go_simp
                       with_reducible rfl
                      rotate_left
                      ·simp only [Act.put, s2_, s0_, s1_, iw, jw]
                       rfl
                      refine zh0 (i := 26) (N := some 78) #[tt,tt,tt,tt,tt,tt,tt,tt,tt,tt,tt,tt,tt,tt,tt,tt,tt,tt,tt,tt,tt,tt,tt,tt,tt,tt,tt,ff] rfl rfl (zb2 HT_.out (by kernel_rfl)) (by decide) (fun K hK => ?_)
                      refine z00 Tryd.func107 (by kernel_rfl) rfl #[.int .u64 (rd x7_1 (ji24)), .int .u64 (rd x7_1 (ji27)), .int .u64 (rd x7_1 (ji30)), .int .u64 (rd y284 (ji33)), .int .u64 (rd y284 (ji36))] (by rfl) rfl rfl (by (try simp only [List.map_toArray, List.map_cons, List.map_nil]); first | done | (simp only [hji24, hji27, hji30, hji33, hji36]; rfl) | rfl | (simp only [List.length_drop, List.length_take]; rfl)) ?_
                      with_reducible refine (nat_guess.calls k1 (rd x7_1 (ji24)) (rd x7_1 (ji27)) (rd x7_1 (ji30)) (rd y284 (ji33)) (rd y284 (ji36)) t296 _ A39.out).mono ?_
                      rintro e w' ⟨rfl, ⟨nd, rfl⟩⟩
                      refine ⟨_, rfl, ?_⟩
                      refine hK.out _ _ ⟨hHeld.1, hHeld.2.1, hHeld.2.2.1, hHeld.2.2.2.1, hHeld.2.2.2.2⟩ (fun hHeld => ?_)
                      clear hK K
                      refine zg (a' := ?_) ?_ ?_
                      rotate_left
                      ·show Act.put _ (some 78) _ = _
                       simp only [Act.put, s2_, s0_, s1_, iw, jw]
                       rfl
                      refine za 27 12 ?_ #[tt,tt,tt,tt,tt,tt,tt,tt,tt,tt,tt,tt,tt,tt,tt,tt,tt,tt,tt,tt,tt,tt,tt,tt,tt,tt,tt,tt] rfl rfl (zb HT_.out (by kernel_rfl)) (fun _ _ _ h => h) (Or.inl ⟨by rfl, ?_⟩) ?_ ?_ ?_
                      rotate_left
                      ·intro w'
                       go_simp
                       with_reducible rfl
                      rotate_left
                      ·simp only [Act.put, s2_, s0_, s1_, iw, jw]
                       rfl
                      refine zh1 (z03 HT_.out (by kernel_rfl)) ?_
                      have hCD := takeW_cond A40.out
                      have hKY : y284.length = l1.length := by have := KY19.out; rw [Int.toNat_natCast] at this; exact this
                      have hWN := wnd_facts hCD (Kd.zw HO_7.out).2.2.2.1 (Kd.zw HO_7.out).2.1 hKY hji24 ad291
                      have hcutM := hWN.1
                      have hw24 := hWN.2
                      clear hCD hKY hWN
                      go_wp2_with fail
                      (with_reducible refine (nat_takeW.calls k1 (fun k_ => some k_ = (.slice (some ad291) x7_1.length co45 : Value).ownBlock) ad291 co45 x7_1 _ _ y284 t296 x10_1 t297 t298 w _ ?side1 ?side2 ?side3 ?side4 A40.out).mono ?_)
                      (case side1 => repeat (first | (with_reducible first | exact HB.out | apply bA | apply bN | apply b1_ | refine bS ?_ GE274.out | refine bS ?_ GE275.out) | exact HB.out))
                      (case side2 => exact Kd.z11 rfl HO_7.out)
                      (case side3 => exact fun W_ hk_ => C_kept_int (by repeat (first | (with_reducible exact HR287.out) | (with_reducible refine Kd.ze ?_ _) | (with_reducible refine Kd.zf ?_ _) | (with_reducible refine Kd.zi ?_) | exact HR287.out)) hk_ (fun ad_ e_ h_ => NE1.out ad_.block h_.symm (by cases e_; rfl)))
                      (case side4 => exact HC287.out)
                      rintro e w46 ⟨rfl, hy0, hb, hkp⟩
                      have HR287' := Q0.mk (C_kept_int (by repeat (first | (with_reducible exact HR287.out) | (with_reducible refine Kd.ze ?_ _) | (with_reducible refine Kd.zf ?_ _) | (with_reducible refine Kd.zi ?_) | exact HR287.out)) hkp (fun ad_ e_ h_ => NE1.out ad_.block h_.symm (by cases e_; rfl)))
                      clear HR287
                      have HR287 := HR287'
                      clear HR287'
                      have n0_ := Q0.mk (Kd.R_reok rfl hy0 (fun k_ e_ => HO_7.out.1 k_ e_))
                      have n1_ := Q0.mk (Kd.zb1 (ok' := fun k_ => (w.heap.size ≤ k_) ∧ some k_ ≠ (.slice (some ad291) x7_1.length co45 : Value).ownBlock) (Kd.R_keptB (HO_9.out) hkp (fun k_ hk_ hs_ => (hk_.2) hs_)) (fun k_ hk_ => ⟨hk_.1.1, hk_.1.2⟩))
                      have n2_ := Q0.mk (blk_kept (by (with_reducible repeat (first | refine kN ?_ _ | refine kD ?_ | refine kA ?_ _)); exact BK274.out) hkp (fun hs_ => (fun e_ => (Kd.zp2 HO_7.out BK274.out (by decide)) e_) hs_))
                      have n3_ := Q0.mk (blk_kept (by (with_reducible repeat (first | refine kN ?_ _ | refine kD ?_ | refine kA ?_ _)); exact BK275.out) hkp (fun hs_ => (fun e_ => (Kd.zp2 HO_7.out BK275.out (by decide)) e_) hs_))
                      have n4_ := Q0.mk (hb)
                      clear HO_7
                      clear HO_9
                      clear BK274
                      clear BK275
                      clear HB
                      have HO_7 := n0_
                      have HO_9 := n1_
                      have BK274 := n2_
                      have BK275 := n3_
                      have HB := n4_
                      clear n0_ n1_ n2_ n3_ n4_
                      (try clear hb)
                      (try clear hkp)
                      (try clear hy0)
                      have p43 : 0 ≤ (x10_1 : Int) := of_decide_eq_true (by first | (with_reducible assumption) | assumption)
                      have q43 : (x10_1 : Int) < ((x9_1.length : Int) : Int) := of_decide_eq_true (by first | (with_reducible assumption) | assumption)
                      obtain ⟨go43, co43, eo43, gb43, gl43, cl43, HG43⟩ := Kd.zi2 HO_9.out (pos_of p43 q43)
                      (first | cases eo43 | (injection eo43 with ea_ en_ ec_; (first | subst ea_ | (injection ea_ with ea_; subst ea_)); subst ec_; clear en_))
                      have GB43 := Q0.mk gb43
                      have GG43 := Q0.mk HG43
                      clear gb43 gl43 HG43
                      obtain ⟨hx43_0, hf43_0⟩ := Kd.z81 0 HO_9.out (x10_1 : Int) p43 q43
                      replace p43 := eq_true p43
                      replace q43 := eq_true q43
                      obtain ⟨hy47_, hz47_⟩ := Kd.z81 0 HO_9.out (x10_1 : Int) (of_decide_eq_true (by first | (with_reducible assumption) | assumption)) (of_decide_eq_true (by first | (with_reducible assumption) | assumption))
                      have HP47 := Kd.zo1 HO_9.out (x10_1 : Int) t297
                      try go_wp2_with (first | ((with_reducible refine zq0 (t := 40) (p := 89) rfl ?_); refine zi0 (t := 40) (p := 89) (v := ?vo_w48) (w1 := (w46.setCell ⟨go43, (x10_1 : Int).toNat, none⟩ (.int .u64 t297))) ?hg ?ho ?hn ?hr ?_; (case ho => rfl); (case hg => rfl); (case hn => rfl); (case hr => first | (go_simp; done) | (go_simp; rfl)); intro w48 hw; have HR287' := Q0.mk (show Kd.C (Kd.int .u64) w48 _ y284.length y284 from by rw [hw]; exact C_kept_int HR287.out ((Kept.refl w46 (fun k => k = go43)).setCell (.inl rfl) _) (fun ad_ e_ h_ => NE2.out ad_.block (by rw [h_]; rfl) (by cases e_; rfl))); clear HR287; have HR287 := HR287'; clear HR287'; have hg : w46.grownBy w48 (some go43) := (by rw [hw]; exact HP47.2); have hp_ : Kd.R (Kd.int .u64) 40 w48 w.heap.size (fun k_ => (w.heap.size ≤ k_) ∧ some k_ ≠ (.slice (some ad291) x7_1.length co45 : Value).ownBlock) (.slice (some ⟨go43, 0, none⟩) x9_1.length co43) y299 := (by rw [hw, Ny299.out]; exact HP47.1); clear HP47; replace HO_7 := Q0.mk (Kd.R_after (v := (.slice (some ⟨go43, 0, none⟩) x9_1.length co43)) (v1 := (.slice (some ⟨go43, 0, none⟩) x9_1.length co43)) (ok := (fun k_ => (w.heap.size ≤ k_))) (by (with_reducible repeat (first | apply Kd.RA_ | apply Kd.RN_ | apply Kd.RD_)); exact HO_7.out) hg (.inl rfl)); replace BK274 := Q0.mk (zv0 (g := gb274) (o := .cells #[.slice none 0 0] 29 (0, 0)) (by (with_reducible repeat (first | refine kN ?_ _ | refine kD ?_ | refine kA ?_ _)); exact BK274.out) hg (Kd.zp2 HO_9.out BK274.out (by decide))); replace BK275 := Q0.mk (zv0 (g := gb275) (o := .cells #[.slice none 0 0] 29 (0, 0)) (by (with_reducible repeat (first | refine kN ?_ _ | refine kD ?_ | refine kA ?_ _)); exact BK275.out) hg (Kd.zp2 HO_9.out BK275.out (by decide))); replace HO_9 := Q0.mk (hp_); replace HB := Q0.mk ((by rw [hw]; exact bS (HB.out) GB43.out : Below w.heap.size w w48)); clear hg hw hp_))
                      go_roundg k1
                      case measure => have := HK1.out; omega
                      case rel => exact ⟨(t298), (y299), (wrap64 (x10_1 - 1)), (by first | rfl | (simp; done) | (simp [*]; done)), H', ⟨by have := HK1.out; omega⟩, ⟨by (with_reducible repeat (first | apply Kd.RA_ | apply Kd.RN_ | apply Kd.RD_)); exact HO_7.out⟩, ⟨by (with_reducible repeat (first | apply Kd.RA_ | apply Kd.RN_ | apply Kd.RD_)); exact HO_9.out⟩, ⟨by (with_reducible repeat (first | refine kN ?_ _ | refine kD ?_ | refine kA ?_ _)); exact BK274.out⟩, ⟨by (with_reducible repeat (first | refine kN ?_ _ | refine kD ?_ | refine kA ?_ _)); exact BK275.out⟩, ⟨by repeat (first | (with_reducible first | exact HB.out | apply bA | apply bN | apply b1_ | refine bS ?_ GE274.out | refine bS ?_ GE275.out) | exact HB.out)⟩, ⟨by repeat (first | (with_reducible exact HR287.out) | (with_reducible refine Kd.ze ?_ _) | (with_reducible refine Kd.zf ?_ _) | (with_reducible refine Kd.zi ?_) | exact HR287.out)⟩⟩
                     ·rw [if_neg c42] at H
                      exact absurd H (by simp)
                    ·rw [if_neg c41] at H
                     exact absurd H (by simp)
                   ·rw [if_neg c38] at H
                    exact absurd H (by simp)
                  ·rw [if_neg c37] at H
                   exact absurd H (by simp)
                 ·rw [if_neg c35] at H
                  exact absurd H (by simp)
                ·rw [if_neg c34] at H
                 exact absurd H (by simp)
               ·rw [if_neg c32] at H
                exact absurd H (by simp)
              ·rw [if_neg c31] at H
               exact absurd H (by simp)
             ·rw [if_neg c29] at H
              exact absurd H (by simp)
            ·rw [if_neg c28] at H
             exact absurd H (by simp)
           ·rw [if_neg c26] at H
            exact absurd H (by simp)
          ·rw [if_neg c25] at H
           exact absurd H (by simp)
         ·rw [if_neg c23] at H
          have c23b0 : decide (0 ≤ x10_1) = false := decide_eq_false c23
          clear c23
          replace H := Option.bind_eq_some_iff.mp H
          obtain ⟨t300, A490, H⟩ := H
          replace H : ((nat_Nat_Shr.f k1 t300 (wrap64 ((IntKind.u64.wrap (t277))))).bind fun bt303 => ((nat_norm.f k1 x9_1).bind fun t308 => (some (t308, bt303.1)))) = some (r1, r2) := H
          have A49 := Q0.mk A490
          clear A490
          replace H := Option.bind_eq_some_iff.mp H
          obtain ⟨⟨t303, t306⟩, A500, H⟩ := H
          replace H : ((nat_norm.f k1 x9_1).bind fun t308 => (some (t308, t303))) = some (r1, r2) := H
          have A50 := Q0.mk A500
          clear A500
          replace H := Option.bind_eq_some_iff.mp H
          obtain ⟨t308, A510, H⟩ := H
          replace H : (some (t308, t303)) = some (r1, r2) := H
          have A51 := Q0.mk A510
          clear A510
          simp only [Option.some.injEq, Prod.mk.injEq] at H
          obtain ⟨rfl, rfl⟩ := H
          obtain ⟨Ao52, co52, eo52⟩ := Kd.zl0 HO_7.out
          subst eo52
          try go_wp2_with (first | ((with_reducible refine gC (f := 68) rfl ?_); refine zx (some 92) rfl rfl Tryd.func68 (by kernel_rfl) rfl #[.slice Ao52 x7_1.length co52] rfl (by (try simp only [List.map_toArray, List.map_cons, List.map_nil]); first | done | rfl | (simp only [List.length_drop, List.length_take]; rfl)) ?_; (with_reducible refine (nat_norm.calls k1 (fun k_ => some k_ = (.slice Ao52 x7_1.length co52 : Value).ownBlock) _ _ x7_1 t300 _ ?side1 A49.out).mono ?_); (case side1 => exact Kd.R_V (Kd.z11 rfl (Kd.RT_ (Kd.RT_ (HO_7.out) BK274.out (by decide)) BK275.out (by decide)))); rintro e w53 ⟨v301, rfl, ho0, hb⟩; refine ⟨_, rfl, ?_⟩; have q_ := zm (w := w) hb (by repeat (first | (with_reducible first | exact HB.out | apply bA | apply bN | apply b1_ | refine bS ?_ GE274.out | refine bS ?_ GE275.out) | exact HB.out)); have HO302 := Q0.mk (Kd.za0 (Kd.VM_ (ok' := fun k_ => (w.heap.size ≤ k_) ∧ some k_ ≠ (v289 : Value).ownBlock ∧ k_ ≠ gb274 ∧ k_ ≠ gb275) ho0 (fun k_ hk_ => ⟨Or.elim hk_ (fun hs_ => ((Kd.RT_ (Kd.RT_ (HO_7.out) BK274.out (by decide)) BK275.out (by decide)).1 k_ hs_.symm).1.1.1) (fun hn_ => (Nat.le_trans (bZ q_) hn_)), Or.elim hk_ (fun hs_ => ((Kd.RT_ (Kd.RT_ (HO_7.out) BK274.out (by decide)) BK275.out (by decide)).1 k_ hs_.symm).1.1.2) (fun hn_ => (Kd.fresh' (Kd.R_lt (by (with_reducible repeat (first | apply Kd.RA_ | apply Kd.RN_ | apply Kd.RD_)); exact HO_9.out)) k_ hn_)), Or.elim hk_ (fun hs_ => ((Kd.RT_ (Kd.RT_ (HO_7.out) BK274.out (by decide)) BK275.out (by decide)).1 k_ hs_.symm).1.2) (fun hn_ => (Kd.zm0 (g := gb274) (o := .cells #[.slice none 0 0] 29 (0, 0)) (by (with_reducible repeat (first | refine kN ?_ _ | refine kD ?_ | refine kA ?_ _)); exact BK274.out) k_ hn_)), Or.elim hk_ (fun hs_ => ((Kd.RT_ (Kd.RT_ (HO_7.out) BK274.out (by decide)) BK275.out (by decide)).1 k_ hs_.symm).2) (fun hn_ => (Kd.zm0 (g := gb275) (o := .cells #[.slice none 0 0] 29 (0, 0)) (by (with_reducible repeat (first | refine kN ?_ _ | refine kD ?_ | refine kA ?_ _)); exact BK275.out) k_ hn_))⟩)) (bZ q_)); replace HO_7 := Q0.mk (Kd.zy (by (with_reducible repeat (first | apply Kd.RA_ | apply Kd.RN_ | apply Kd.RD_)); exact HO_7.out) hb); replace HO_9 := Q0.mk (Kd.zy (by (with_reducible repeat (first | apply Kd.RA_ | apply Kd.RN_ | apply Kd.RD_)); exact HO_9.out) hb); replace BK274 := Q0.mk (kB (g := gb274) (o := .cells #[.slice none 0 0] 29 (0, 0)) (by (with_reducible repeat (first | refine kN ?_ _ | refine kD ?_ | refine kA ?_ _)); exact BK274.out) hb); replace BK275 := Q0.mk (kB (g := gb275) (o := .cells #[.slice none 0 0] 29 (0, 0)) (by (with_reducible repeat (first | refine kN ?_ _ | refine kD ?_ | refine kA ?_ _)); exact BK275.out) hb); replace HB := Q0.mk (bP q_ hb); clear q_; (try clear hb); (try clear hb2); (try clear hk); (try clear hi); (try clear ho0); obtain ⟨Ao54, co54, eo54⟩ := Kd.zo HO302.out; subst eo54) | ((with_reducible refine gC (f := 29) rfl ?_); refine zx (some 95) rfl rfl Tryd.func29 (by kernel_rfl) rfl #[.agg #[.slice Ao54 t300.length co54], .int .i64 (wrap64 ((IntKind.u64.wrap (t277))))] rfl (by (try simp only [List.map_toArray, List.map_cons, List.map_nil]); first | done | rfl | (simp only [List.length_drop, List.length_take]; rfl)) ?_; (with_reducible refine (nat_Nat_Shr.calls k1 _ _ t300 (wrap64 ((IntKind.u64.wrap (t277)))) t303 t306 _ ?side1 ?side2 A50.out).mono ?_); (case side1 => repeat (first | exact (Kd.z90 HO302.out).2.2 | (with_reducible refine Kd.ze ?_ _) | (with_reducible refine Kd.zf ?_ _) | (with_reducible refine Kd.zi ?_))); (case side2 => exact (Kd.z90 HO302.out).2.1); rintro e w55 ⟨v304, rfl, ho0, hb⟩; refine ⟨_, rfl, ?_⟩; have q_ := zm (w := w) hb (by repeat (first | (with_reducible first | exact HB.out | apply bA | apply bN | apply b1_ | refine bS ?_ GE274.out | refine bS ?_ GE275.out) | exact HB.out)); replace HO302 := Q0.mk (Kd.zl (by (with_reducible repeat (first | apply Kd.VA_ | apply Kd.VN_ | apply Kd.VD_)); exact HO302.out) hb); have HO305 := Q0.mk (Kd.za0 (Kd.VM_ (ok' := fun k_ => (w.heap.size ≤ k_) ∧ some k_ ≠ (.slice Ao52 x7_1.length co52 : Value).ownBlock ∧ some k_ ≠ (v289 : Value).ownBlock ∧ k_ ≠ gb274 ∧ k_ ≠ gb275) ho0 (fun k_ hk_ => ⟨(Nat.le_trans (bZ q_) hk_), (Kd.fresh' (Kd.R_lt (by (with_reducible repeat (first | apply Kd.RA_ | apply Kd.RN_ | apply Kd.RD_)); exact HO_7.out)) k_ hk_), (Kd.fresh' (Kd.R_lt (by (with_reducible repeat (first | apply Kd.RA_ | apply Kd.RN_ | apply Kd.RD_)); exact HO_9.out)) k_ hk_), (Kd.zm0 (g := gb274) (o := .cells #[.slice none 0 0] 29 (0, 0)) (by (with_reducible repeat (first | refine kN ?_ _ | refine kD ?_ | refine kA ?_ _)); exact BK274.out) k_ hk_), (Kd.zm0 (g := gb275) (o := .cells #[.slice none 0 0] 29 (0, 0)) (by (with_reducible repeat (first | refine kN ?_ _ | refine kD ?_ | refine kA ?_ _)); exact BK275.out) k_ hk_)⟩)) (bZ q_)); replace HO_7 := Q0.mk (Kd.zy (by (with_reducible repeat (first | apply Kd.RA_ | apply Kd.RN_ | apply Kd.RD_)); exact HO_7.out) hb); replace HO_9 := Q0.mk (Kd.zy (by (with_reducible repeat (first | apply Kd.RA_ | apply Kd.RN_ | apply Kd.RD_)); exact HO_9.out) hb); replace BK274 := Q0.mk (kB (g := gb274) (o := .cells #[.slice none 0 0] 29 (0, 0)) (by (with_reducible repeat (first | refine kN ?_ _ | refine kD ?_ | refine kA ?_ _)); exact BK274.out) hb); replace BK275 := Q0.mk (kB (g := gb275) (o := .cells #[.slice none 0 0] 29 (0, 0)) (by (with_reducible repeat (first | refine kN ?_ _ | refine kD ?_ | refine kA ?_ _)); exact BK275.out) hb); replace HB := Q0.mk (bP q_ hb); clear q_; (try clear hb); (try clear hb2); (try clear hk); (try clear hi); (try clear ho0)) | ((with_reducible refine gD (N := 13) rfl ?_); refine xE ?hg (N := 13) ?hd (cs := #[.slice none 0 0]) (t := 29) ?hr ?_; (case hd => rfl); (case hg => rfl); (case hr => first | (go_simp; done) | (go_simp; rfl)); intro gb307 hg w56 hbox hb; have q_ := zm (w := w) hb (by repeat (first | (with_reducible first | exact HB.out | apply bA | apply bN | apply b1_ | refine bS ?_ GE274.out | refine bS ?_ GE275.out) | exact HB.out)); replace HO_7 := Q0.mk (Kd.zy (by (with_reducible repeat (first | apply Kd.RA_ | apply Kd.RN_ | apply Kd.RD_)); exact HO_7.out) hb); replace HO_9 := Q0.mk (Kd.zy (by (with_reducible repeat (first | apply Kd.RA_ | apply Kd.RN_ | apply Kd.RD_)); exact HO_9.out) hb); replace HO302 := Q0.mk (Kd.zl (Kd.zz1 (by (with_reducible repeat (first | apply Kd.VA_ | apply Kd.VN_ | apply Kd.VD_)); exact HO302.out) gb307 (Nat.le_of_eq hg.symm)) hb); replace HO305 := Q0.mk (Kd.zl (Kd.zz1 (by (with_reducible repeat (first | apply Kd.VA_ | apply Kd.VN_ | apply Kd.VD_)); exact HO305.out) gb307 (Nat.le_of_eq hg.symm)) hb); replace HB := Q0.mk (bP q_ hb); have BK307 := Q0.mk (hbox); have GW307 := Q0.mk ((by rw [hg]; exact (bZ q_) : w.heap.size ≤ gb307)); have GE307 := GW307; have NB274_307 := Q0.mk ((by rw [hg]; exact Nat.ne_of_lt (zj0 (g := gb274) (o := .cells #[.slice none 0 0] 29 (0, 0)) (by (with_reducible repeat (first | refine kN ?_ _ | refine kD ?_ | refine kA ?_ _)); exact BK274.out)) : gb274 ≠ gb307)); replace BK274 := Q0.mk (kB (g := gb274) (o := .cells #[.slice none 0 0] 29 (0, 0)) (by (with_reducible repeat (first | refine kN ?_ _ | refine kD ?_ | refine kA ?_ _)); exact BK274.out) hb); have NB307_274 := Q0.mk NB274_307.out.symm; have NB275_307 := Q0.mk ((by rw [hg]; exact Nat.ne_of_lt (zj0 (g := gb275) (o := .cells #[.slice none 0 0] 29 (0, 0)) (by (with_reducible repeat (first | refine kN ?_ _ | refine kD ?_ | refine kA ?_ _)); exact BK275.out)) : gb275 ≠ gb307)); replace BK275 := Q0.mk (kB (g := gb275) (o := .cells #[.slice none 0 0] 29 (0, 0)) (by (with_reducible repeat (first | refine kN ?_ _ | refine kD ?_ | refine kA ?_ _)); exact BK275.out) hb); have NB307_275 := Q0.mk NB275_307.out.symm; clear q_; clear hb hbox hg; obtain ⟨Ao57, co57, eo57⟩ := Kd.zo HO305.out; subst eo57; have hnb58 := NB307_274.out; have hnc58 := NB274_307.out; have hnb59 := NB307_275.out; have hnc59 := NB275_307.out; have hcz60_0 : w56.cell? ⟨gb307, 0, none⟩ = some (.slice none 0 0) := (kC BK307.out 0).trans rfl; have hfz60_0 := kF BK307.out 0))
          have n0_ : Q0 (Kd.R (Kd.int .u64) 40 (w56.setCell ⟨gb307, 0, none⟩ (.slice Ao57 t303.length co57)) w.heap.size (fun k_ => (w.heap.size ≤ k_) ∧ some k_ ≠ (v289 : Value).ownBlock) (.slice Ao52 x7_1.length co52) x7_1) := ⟨by (with_reducible repeat (first | apply Kd.RA_ | apply Kd.RN_ | apply Kd.RD_)); exact Kd.zb1 (Kd.R_far (p := ⟨gb307, 0, none⟩) (Kd.RT_ HO_7.out BK307.out (by decide)) (fun _ hk => hk.2) (.slice Ao57 t303.length co57)) (fun _ hk => ⟨hk.1.1, hk.1.2⟩)⟩
          have n1_ : Q0 (Kd.R (Kd.int .u64) 40 (w56.setCell ⟨gb307, 0, none⟩ (.slice Ao57 t303.length co57)) w.heap.size (fun k_ => (w.heap.size ≤ k_) ∧ some k_ ≠ (.slice Ao52 x7_1.length co52 : Value).ownBlock) v289 x9_1) := ⟨by (with_reducible repeat (first | apply Kd.RA_ | apply Kd.RN_ | apply Kd.RD_)); exact Kd.zb1 (Kd.R_far (p := ⟨gb307, 0, none⟩) (Kd.RT_ HO_9.out BK307.out (by decide)) (fun _ hk => hk.2) (.slice Ao57 t303.length co57)) (fun _ hk => ⟨hk.1.1, hk.1.2⟩)⟩
          have n2_ : Q0 (Kd.V (Kd.int .u64) 40 (w56.setCell ⟨gb307, 0, none⟩ (.slice Ao57 t303.length co57)) w.heap.size (fun k_ => (w.heap.size ≤ k_) ∧ some k_ ≠ (v289 : Value).ownBlock ∧ k_ ≠ gb274 ∧ k_ ≠ gb275 ∧ k_ ≠ gb307) (.slice Ao54 t300.length co54) t300) := ⟨by (with_reducible repeat (first | apply Kd.VA_ | apply Kd.VN_ | apply Kd.VD_)); exact Kd.VM_ (Kd.zn1 (p := ⟨gb307, 0, none⟩) (Kd.VM_ HO302.out (fun k_ hk => (⟨hk, hk.2⟩ : _ ∧ k_ ≠ gb307))) (fun _ hk => hk.2) (.slice Ao57 t303.length co57)) (fun _ hk => ⟨hk.1.1.1, ⟨hk.1.1.2.1, ⟨hk.1.1.2.2.1, ⟨hk.1.1.2.2.2, hk.1.2⟩⟩⟩⟩)⟩
          have n3_ : Q0 (Kd.V (Kd.int .u64) 40 (w56.setCell ⟨gb307, 0, none⟩ (.slice Ao57 t303.length co57)) w.heap.size (fun k_ => (w.heap.size ≤ k_) ∧ some k_ ≠ (.slice Ao52 x7_1.length co52 : Value).ownBlock ∧ some k_ ≠ (v289 : Value).ownBlock ∧ k_ ≠ gb274 ∧ k_ ≠ gb275 ∧ k_ ≠ gb307) (.slice Ao57 t303.length co57) t303) := ⟨by (with_reducible repeat (first | apply Kd.VA_ | apply Kd.VN_ | apply Kd.VD_)); exact Kd.VM_ (Kd.zn1 (p := ⟨gb307, 0, none⟩) (Kd.VM_ HO305.out (fun k_ hk => (⟨hk, hk.2⟩ : _ ∧ k_ ≠ gb307))) (fun _ hk => hk.2) (.slice Ao57 t303.length co57)) (fun _ hk => ⟨hk.1.1.1, ⟨hk.1.1.2.1, ⟨hk.1.1.2.2.1, ⟨hk.1.1.2.2.2.1, ⟨hk.1.1.2.2.2.2, hk.1.2⟩⟩⟩⟩⟩)⟩
          have n4_ : Q0 ((w56.setCell ⟨gb307, 0, none⟩ (.slice Ao57 t303.length co57)).heap[gb274]? = some (.cells #[.slice none 0 0] 29 (0, 0))) := ⟨by (with_reducible repeat (first | refine kN ?_ _ | refine kD ?_ | refine kA ?_ _)); refine zr0 ?_ NB274_307.out _; (with_reducible repeat (first | refine kN ?_ _ | refine kD ?_ | refine kA ?_ _)); exact BK274.out⟩
          have n5_ : Q0 ((w56.setCell ⟨gb307, 0, none⟩ (.slice Ao57 t303.length co57)).heap[gb275]? = some (.cells #[.slice none 0 0] 29 (0, 0))) := ⟨by (with_reducible repeat (first | refine kN ?_ _ | refine kD ?_ | refine kA ?_ _)); refine zr0 ?_ NB275_307.out _; (with_reducible repeat (first | refine kN ?_ _ | refine kD ?_ | refine kA ?_ _)); exact BK275.out⟩
          have n6_ : Q0 ((w56.setCell ⟨gb307, 0, none⟩ (.slice Ao57 t303.length co57)).heap[gb307]? = some (.cells #[.slice Ao57 t303.length co57] 29 (0, 0))) := ⟨by (with_reducible repeat (first | refine kN ?_ _ | refine kD ?_ | refine kA ?_ _)); refine zc0 (cs := #[.slice none 0 0]) ?_ 0 _ rfl; (with_reducible repeat (first | refine kN ?_ _ | refine kD ?_ | refine kA ?_ _)); exact BK307.out⟩
          have n7_ : Q0 (Below w.heap.size w (w56.setCell ⟨gb307, 0, none⟩ (.slice Ao57 t303.length co57))) := ⟨by repeat (first | (with_reducible first | exact HB.out | apply bA | apply bN | apply b1_ | refine bS ?_ GE274.out | refine bS ?_ GE275.out | refine bS ?_ GE307.out) | exact HB.out)⟩
          (try clear HO_7)
          (try clear HO_9)
          (try clear HO302)
          (try clear HO305)
          (try clear BK274)
          (try clear BK275)
          (try clear BK307)
          (try clear HB)
          generalize (w56.setCell ⟨gb307, 0, none⟩ (.slice Ao57 t303.length co57)) = w61 at n0_ n1_ n2_ n3_ n4_ n5_ n6_ n7_ ⊢
          have HO_7 := n0_
          have HO_9 := n1_
          have HO302 := n2_
          have HO305 := n3_
          have BK274 := n4_
          have BK275 := n5_
          have BK307 := n6_
          have HB := n7_
          clear n0_ n1_ n2_ n3_ n4_ n5_ n6_ n7_
          have n0_ := Q0.mk (Kd.RD_ HO_7.out)
          have n1_ := Q0.mk (Kd.RD_ HO_9.out)
          have n2_ := Q0.mk (Kd.VD_ HO302.out)
          have n3_ := Q0.mk (Kd.VD_ HO305.out)
          have n4_ := Q0.mk (kD BK274.out)
          have n5_ := Q0.mk (kD BK275.out)
          have n6_ := Q0.mk (kD BK307.out)
          have n7_ := Q0.mk (b1_ HB.out)
          clear HO_7
          clear HO_9
          clear HO302
          clear HO305
          clear BK274
          clear BK275
          clear BK307
          clear HB
          have HO_7 := n0_
          have HO_9 := n1_
          have HO302 := n2_
          have HO305 := n3_
          have BK274 := n4_
          have BK275 := n5_
          have BK307 := n6_
          have HB := n7_
          clear n0_ n1_ n2_ n3_ n4_ n5_ n6_ n7_
          obtain ⟨Ao63, co63, eo63⟩ := Kd.zl0 HO_9.out
          (first | subst eo63 | (injection eo63 with f1_ f2_ f3_; have f4_ := f1_.symm; have f5_ := f3_.symm; clear f1_ f2_ f3_; subst f4_; subst f5_))
          refine zt0 (n := 5) (S := fun w' => w'.cell? ⟨gb307, 0, none⟩ = some (.slice Ao57 t303.length co57)) (ds := []) #[ff,ff,ff,ff,ff] (by kernel_rfl) rfl rfl ((kC BK307.out 0).trans rfl) (fun hHeld => ?_)
          generalize w61.drew = w62 at HO_7 HO_9 HO302 HO305 BK274 BK275 BK307 HB hHeld ⊢
          refine za 0 98 ?_ #[tt,ff,ff,ff,ff] rfl rfl (by kernel_rfl) (fun _ _ _ h => h) (Or.inl ⟨by rfl, ?_⟩) ?_ ?_ ?_
          rotate_left
          ·intro w'
           go_simp
           with_reducible rfl
          rotate_left
          ·simp only [Act.put, s2_, s0_, s1_, iw, jw]
           rfl
          refine z10 2 100 ?_ #[tt,ff,tt,ff,ff] rfl rfl (by kernel_rfl) (fun _ _ _ h => h) (Or.inl ⟨by rfl, ?_⟩) hHeld ?_ ?_ ?_
          rotate_left
          ·intro w' s0
           go_simp
           with_reducible rfl
          rotate_left
          ·simp only [Act.put, s2_, s0_, s1_, iw, jw]
           rfl
          refine zh0 (i := 1) (N := some 99) #[tt,tt,tt,ff,ff] rfl rfl (by kernel_rfl) (by decide) (fun K hK => ?_)
          refine z00 Tryd.func68 (by kernel_rfl) rfl #[.slice Ao63 x9_1.length co63] (by rfl) rfl rfl (by (try simp only [List.map_toArray, List.map_cons, List.map_nil]); first | done | rfl | (simp only [List.length_drop, List.length_take]; rfl)) ?_
          with_reducible refine (nat_norm.calls k1 (fun k_ => some k_ = (.slice Ao63 x9_1.length co63 : Value).ownBlock) _ _ x9_1 t308 _ ?side1 A51.out).mono ?_
          (case side1 => exact Kd.R_V (Kd.z11 rfl (Kd.RT_ (Kd.RT_ (Kd.RT_ (HO_9.out) BK274.out (by decide)) BK275.out (by decide)) BK307.out (by decide))))
          rintro e w64 ⟨v309, rfl, ho0, hb⟩
          refine ⟨_, rfl, ?_⟩
          have n0_ := Q0.mk (Kd.zy (by (with_reducible repeat (first | apply Kd.RA_ | apply Kd.RN_ | apply Kd.RD_)); exact HO_7.out) hb)
          have n1_ := Q0.mk (Kd.zy (by (with_reducible repeat (first | apply Kd.RA_ | apply Kd.RN_ | apply Kd.RD_)); exact HO_9.out) hb)
          have n2_ := Q0.mk (Kd.zl (by (with_reducible repeat (first | apply Kd.VA_ | apply Kd.VN_ | apply Kd.VD_)); exact HO302.out) hb)
          have n3_ := Q0.mk (Kd.zl (by (with_reducible repeat (first | apply Kd.VA_ | apply Kd.VN_ | apply Kd.VD_)); exact HO305.out) hb)
          have n4_ := Q0.mk (Kd.za0 (Kd.VM_ (ok' := fun k_ => (w.heap.size ≤ k_) ∧ some k_ ≠ (.slice Ao52 x7_1.length co52 : Value).ownBlock ∧ k_ ≠ gb274 ∧ k_ ≠ gb275 ∧ k_ ≠ gb307) ho0 (fun k_ hk_ => ⟨Or.elim hk_ (fun hs_ => ((Kd.RT_ (Kd.RT_ (Kd.RT_ (HO_9.out) BK274.out (by decide)) BK275.out (by decide)) BK307.out (by decide)).1 k_ hs_.symm).1.1.1.1) (fun hn_ => (Nat.le_trans (bZ (by repeat (first | (with_reducible first | exact HB.out | apply bA | apply bN | apply b1_ | refine bS ?_ GE274.out | refine bS ?_ GE275.out | refine bS ?_ GE307.out) | exact HB.out))) hn_)), Or.elim hk_ (fun hs_ => ((Kd.RT_ (Kd.RT_ (Kd.RT_ (HO_9.out) BK274.out (by decide)) BK275.out (by decide)) BK307.out (by decide)).1 k_ hs_.symm).1.1.1.2) (fun hn_ => (Kd.fresh' (Kd.R_lt (by (with_reducible repeat (first | apply Kd.RA_ | apply Kd.RN_ | apply Kd.RD_)); exact HO_7.out)) k_ hn_)), Or.elim hk_ (fun hs_ => ((Kd.RT_ (Kd.RT_ (Kd.RT_ (HO_9.out) BK274.out (by decide)) BK275.out (by decide)) BK307.out (by decide)).1 k_ hs_.symm).1.1.2) (fun hn_ => (Kd.zm0 (g := gb274) (o := .cells #[.slice none 0 0] 29 (0, 0)) (by (with_reducible repeat (first | refine kN ?_ _ | refine kD ?_ | refine kA ?_ _)); exact BK274.out) k_ hn_)), Or.elim hk_ (fun hs_ => ((Kd.RT_ (Kd.RT_ (Kd.RT_ (HO_9.out) BK274.out (by decide)) BK275.out (by decide)) BK307.out (by decide)).1 k_ hs_.symm).1.2) (fun hn_ => (Kd.zm0 (g := gb275) (o := .cells #[.slice none 0 0] 29 (0, 0)) (by (with_reducible repeat (first | refine kN ?_ _ | refine kD ?_ | refine kA ?_ _)); exact BK275.out) k_ hn_)), Or.elim hk_ (fun hs_ => ((Kd.RT_ (Kd.RT_ (Kd.RT_ (HO_9.out) BK274.out (by decide)) BK275.out (by decide)) BK307.out (by decide)).1 k_ hs_.symm).2) (fun hn_ => (Kd.zm0 (g := gb307) (o := .cells #[.slice Ao57 t303.length co57] 29 (0, 0)) (by (with_reducible repeat (first | refine kN ?_ _ | refine kD ?_ | refine kA ?_ _)); exact BK307.out) k_ hn_))⟩)) (bZ (by repeat (first | (with_reducible first | exact HB.out | apply bA | apply bN | apply b1_ | refine bS ?_ GE274.out | refine bS ?_ GE275.out | refine bS ?_ GE307.out) | exact HB.out))))
          have n5_ := Q0.mk (kB (g := gb274) (o := .cells #[.slice none 0 0] 29 (0, 0)) (by (with_reducible repeat (first | refine kN ?_ _ | refine kD ?_ | refine kA ?_ _)); exact BK274.out) hb)
          have n6_ := Q0.mk (kB (g := gb275) (o := .cells #[.slice none 0 0] 29 (0, 0)) (by (with_reducible repeat (first | refine kN ?_ _ | refine kD ?_ | refine kA ?_ _)); exact BK275.out) hb)
          have n7_ := Q0.mk (kB (g := gb307) (o := .cells #[.slice Ao57 t303.length co57] 29 (0, 0)) (by (with_reducible repeat (first | refine kN ?_ _ | refine kD ?_ | refine kA ?_ _)); exact BK307.out) hb)
          have n8_ := Q0.mk (bP (by repeat (first | (with_reducible first | exact HB.out | apply bA | apply bN | apply b1_ | refine bS ?_ GE274.out | refine bS ?_ GE275.out | refine bS ?_ GE307.out) | exact HB.out)) hb)
          clear HO_7
          clear HO_9
          clear HO302
          clear HO305
          clear BK274
          clear BK275
          clear BK307
          clear HB
          have HO_7 := n0_
          have HO_9 := n1_
          have HO302 := n2_
          have HO305 := n3_
          have HO310 := n4_
          have BK274 := n5_
          have BK275 := n6_
          have BK307 := n7_
          have HB := n8_
          clear n0_ n1_ n2_ n3_ n4_ n5_ n6_ n7_ n8_
          (try clear hb)
          (try clear hb2)
          (try clear hk)
          (try clear hi)
          (try clear ho0)
          obtain ⟨Ao65, co65, eo65⟩ := Kd.zo HO310.out
          (first | subst eo65 | (injection eo65 with f1_ f2_ f3_; have f4_ := f1_.symm; have f5_ := f3_.symm; clear f1_ f2_ f3_; subst f4_; subst f5_))
          refine hK.out _ _ ((kC BK307.out 0).trans rfl) (fun hHeld => ?_)
          clear hK K
          refine zg (a' := ?_) ?_ ?_
          rotate_left
          ·show Act.put _ (some 99) _ = _
           simp only [Act.put, s2_, s0_, s1_, iw, jw]
           rfl
          refine zh0 (i := 3) (N := none) #[tt,tt,tt,tt,ff] rfl rfl (by kernel_rfl) (by decide) (fun K hK => ?_)
          have hs66 : w64.cell? ⟨gb274, 0, none⟩ = some (.slice none 0 0) := (kC BK274.out 0).trans rfl
          have hfs66 := kF BK274.out 0
          have hns66_1 := NB275_274.out
          have hns66_2 := NB307_274.out
          have hms66_1 := NB274_275.out
          have hms66_2 := NB274_307.out
          refine zw1 (w1 := ?_) (by rfl) rfl ?_ ?_
          rotate_left
          ·go_simp
           rfl
          refine hK.out _ _ (((cell_far (p := ⟨gb274, _, none⟩) NB307_274.out _).trans (hHeld))) (fun hHeld => ?_)
          clear hK K
          refine zh0 (i := 4) (N := none) #[tt,tt,tt,tt,tt] rfl rfl (by kernel_rfl) (by decide) (fun K hK => ?_)
          have hs67 : w64.cell? ⟨gb275, 0, none⟩ = some (.slice none 0 0) := (kC BK275.out 0).trans rfl
          have hfs67 := kF BK275.out 0
          have hns67_0 := NB274_275.out
          have hns67_2 := NB307_275.out
          have hms67_0 := NB275_274.out
          have hms67_2 := NB275_307.out
          refine zw1 (w1 := ?_) (by rfl) rfl ?_ ?_
          rotate_left
          ·go_simp
           rfl
          refine hK.out _ _ (((cell_far (p := ⟨gb275, _, none⟩) NB307_275.out _).trans (hHeld))) (fun hHeld => ?_)
          clear hK K
          refine zh1 (by kernel_rfl) ?_
          try go_wp2
          refine bodyPost_ret (results_cc rfl _ _ gb274 gb275 29 29 #[.slice Ao65 t308.length co65] #[.slice Ao57 t303.length co57] (0, 0) (0, 0) _ _ rfl (by (with_reducible repeat (first | refine kN ?_ _ | refine kD ?_ | refine kA ?_ _)); refine zr0 ?_ NB274_275.out _; (with_reducible repeat (first | refine kN ?_ _ | refine kD ?_ | refine kA ?_ _)); refine zc0 (cs := #[.slice none 0 0]) ?_ 0 _ rfl; (with_reducible repeat (first | refine kN ?_ _ | refine kD ?_ | refine kA ?_ _)); exact BK274.out) Tryd.underlying29 rfl (by kernel_rfl) rfl (by (with_reducible repeat (first | refine kN ?_ _ | refine kD ?_ | refine kA ?_ _)); refine zc0 (cs := #[.slice none 0 0]) ?_ 0 _ rfl; (with_reducible repeat (first | refine kN ?_ _ | refine kD ?_ | refine kA ?_ _)); refine zr0 ?_ NB275_274.out _; (with_reducible repeat (first | refine kN ?_ _ | refine kD ?_ | refine kA ?_ _)); exact BK275.out) Tryd.underlying29 rfl (by kernel_rfl)) rfl ?_
          exact ⟨_, _, by first | rfl | (simp [eN, eS] <;> rfl) | (simp only [← hji3, ← hji11]; first | rfl | (simp [eN, eS] <;> rfl)) | (simp [*, eN, eS] <;> rfl), by (with_reducible repeat (first | apply Kd.VA_ | apply Kd.VN_ | apply Kd.VD_)); exact Kd.VM_ (Kd.zn1 (p := ⟨gb275, 0, none⟩) (Kd.zn1 (p := ⟨gb274, 0, none⟩) (Kd.VM_ (Kd.VM_ HO310.out (fun k_ hk => (⟨hk, hk.2.2.1⟩ : _ ∧ k_ ≠ gb274))) (fun k_ hk => (⟨hk, hk.1.2.2.2.1⟩ : _ ∧ k_ ≠ gb275))) (fun _ hk => hk.1.2) (.slice Ao65 t308.length co65)) (fun _ hk => hk.2) (.slice Ao57 t303.length co57)) (fun _ hk => hk.1.1.1), by (with_reducible repeat (first | apply Kd.VA_ | apply Kd.VN_ | apply Kd.VD_)); exact Kd.VM_ (Kd.zn1 (p := ⟨gb275, 0, none⟩) (Kd.zn1 (p := ⟨gb274, 0, none⟩) (Kd.VM_ (Kd.VM_ HO305.out (fun k_ hk => (⟨hk, hk.2.2.2.1⟩ : _ ∧ k_ ≠ gb274))) (fun k_ hk => (⟨hk, hk.1.2.2.2.2.1⟩ : _ ∧ k_ ≠ gb275))) (fun _ hk => hk.1.2) (.slice Ao65 t308.length co65)) (fun _ hk => hk.2) (.slice Ao57 t303.length co57)) (fun _ hk => hk.1.1.1), by repeat (first | (with_reducible first | exact HB.out | apply bA | apply bN | apply b1_ | refine bS ?_ GE274.out | refine bS ?_ GE275.out | refine bS ?_ GE307.out) | exact HB.out)⟩
      ·rw [if_neg c13] at H
       exact absurd H (by simp)
     ·rw [if_neg c12] at H
      exact absurd H (by simp)
    ·rw [if_neg c10] at H
     exact absurd H (by simp)
   ·rw [if_neg c9] at H
    exact absurd H (by simp)
  ·rw [if_neg c5] at H
   exact absurd H (by simp)
 ·rw [if_neg c4] at H
  exact absurd H (by simp)
end Go.Proofs.YtgkdealidnidiaaDoor.Na
