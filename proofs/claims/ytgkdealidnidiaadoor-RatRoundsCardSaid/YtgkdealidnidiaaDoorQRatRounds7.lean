/- Texts of the seat, as far as the row needs them. -/
import Derived.Laws.CopyOwn
import Derived.Test.YtgkdealidnidiaaDoorQRatRounds6
set_option linter.unusedVariables false
set_option linter.unusedSimpArgs false
set_option maxHeartbeats 8000000
set_option maxRecDepth 100000
namespace Go.Proofs.YtgkdealidnidiaaDoor.Na
open Go.RowKit Go.Proofs.YtgkdealidnidiaaDoorW.PrintWords Go.Proofs.YtgkdealidnidiaaDoorW.PrintLast Go.Proofs.YtgkdealidnidiaaDoorW.PrintMore
attribute [local go_sem] zx0 zd1
mutual
def bits_DivK.j2 : Nat → Int → Int → Int → Int → Int → Int → Int → Int → Option (Int × Int)
 | 0, _, _, _, _, _, _, _, _ => none
 | k + 1, x2, x8, x9, x10, x11, x13, x14, x15 => if x9 = 0 then (none) else (bits_DivK.l1 k x2 x8 x9 x10 x14 x15 (IntKind.u64.wrap ((IntKind.u64.wrap ((IntKind.u64.wrap ((IntKind.u64.wrap (x11 * 4294967296)) + x13)) - (IntKind.u64.wrap (x15 * x2)))) - (IntKind.u64.wrap ((IntKind.u64.wrap (Int.tdiv (IntKind.u64.wrap ((IntKind.u64.wrap ((IntKind.u64.wrap (x11 * 4294967296)) + x13)) - (IntKind.u64.wrap (x15 * x2)))) x9)) * x9)))) (IntKind.u64.wrap ((IntKind.u64.wrap ((IntKind.u64.wrap (x11 * 4294967296)) + x13)) - (IntKind.u64.wrap (x15 * x2)))) (IntKind.u64.wrap (Int.tdiv (IntKind.u64.wrap ((IntKind.u64.wrap ((IntKind.u64.wrap (x11 * 4294967296)) + x13)) - (IntKind.u64.wrap (x15 * x2)))) x9)))
def bits_DivK.l1 : Nat → Int → Int → Int → Int → Int → Int → Int → Int → Int → Option (Int × Int)
 | 0, _, _, _, _, _, _, _, _, _ => none
 | k + 1, x2, x8, x9, x10, x14, x15, x16, x17, x18 => if x18 ≥ 4294967296 then (bits_DivK.j4 k x2 x8 x9 x10 x14 x15 x16 x17 x18 true) else (bits_DivK.j4 k x2 x8 x9 x10 x14 x15 x16 x17 x18 (decide ((IntKind.u64.wrap (x18 * x10)) > (IntKind.u64.wrap ((IntKind.u64.wrap (4294967296 * x16)) + x14)))))
def bits_DivK.j4 : Nat → Int → Int → Int → Int → Int → Int → Int → Int → Int → Bool → Option (Int × Int)
 | 0, _, _, _, _, _, _, _, _, _, _ => none
 | k + 1, x2, x8, x9, x10, x14, x15, x16, x17, x18, x113 => if x113 = true then (if (IntKind.u64.wrap (x16 + x9)) ≥ 4294967296 then (if 0 ≤ x8 then (some (IntKind.u64.wrap ((IntKind.u64.wrap (x15 * 4294967296)) + (IntKind.u64.wrap (x18 - 1))), shr .u64 (IntKind.u64.wrap ((IntKind.u64.wrap ((IntKind.u64.wrap (x17 * 4294967296)) + x14)) - (IntKind.u64.wrap ((IntKind.u64.wrap (x18 - 1)) * x2)))) x8)) else (none)) else (bits_DivK.l1 k x2 x8 x9 x10 x14 x15 (IntKind.u64.wrap (x16 + x9)) x17 (IntKind.u64.wrap (x18 - 1)))) else (if 0 ≤ x8 then (some (IntKind.u64.wrap ((IntKind.u64.wrap (x15 * 4294967296)) + x18), shr .u64 (IntKind.u64.wrap ((IntKind.u64.wrap ((IntKind.u64.wrap (x17 * 4294967296)) + x14)) - (IntKind.u64.wrap (x18 * x2)))) x8)) else (none))
def bits_DivK.l0 : Nat → Int → Int → Int → Int → Int → Int → Int → Int → Int → Option (Int × Int)
 | 0, _, _, _, _, _, _, _, _, _ => none
 | k + 1, x2, x8, x9, x10, x11, x13, x14, x15, x16 => if x15 ≥ 4294967296 then (bits_DivK.j1 k x2 x8 x9 x10 x11 x13 x14 x15 x16 true) else (bits_DivK.j1 k x2 x8 x9 x10 x11 x13 x14 x15 x16 (decide ((IntKind.u64.wrap (x15 * x10)) > (IntKind.u64.wrap ((IntKind.u64.wrap (4294967296 * x16)) + x13)))))
def bits_DivK.j1 : Nat → Int → Int → Int → Int → Int → Int → Int → Int → Int → Bool → Option (Int × Int)
 | 0, _, _, _, _, _, _, _, _, _, _ => none
 | k + 1, x2, x8, x9, x10, x11, x13, x14, x15, x16, x78 => if x78 = true then (if (IntKind.u64.wrap (x16 + x9)) ≥ 4294967296 then (bits_DivK.j2 k x2 x8 x9 x10 x11 x13 x14 (IntKind.u64.wrap (x15 - 1))) else (bits_DivK.l0 k x2 x8 x9 x10 x11 x13 x14 (IntKind.u64.wrap (x15 - 1)) (IntKind.u64.wrap (x16 + x9)))) else (bits_DivK.j2 k x2 x8 x9 x10 x11 x13 x14 x15)
end
def bits_DivK.f (k : Nat) (a0 : Int) (a1 : Int) (a2 : Int) : Option (Int × Int) := if a2 = 0 then (none) else (if a2 ≤ a0 then (none) else (if a0 = 0 then (some (IntKind.u64.wrap (Int.tdiv a1 a2), Int.tmod a1 a2)) else ((bits_LeadingZeros64.f k a2).bind fun t118 => (if 0 ≤ (IntKind.u64.wrap (t118)) then (if 0 ≤ (IntKind.u64.wrap (64 - (IntKind.u64.wrap (t118)))) then (if ((shl .u64 a2 (IntKind.u64.wrap (t118))) / 4294967296) = 0 then (none) else (bits_DivK.l0 k (shl .u64 a2 (IntKind.u64.wrap (t118))) (IntKind.u64.wrap (t118)) ((shl .u64 a2 (IntKind.u64.wrap (t118))) / 4294967296) (Go.bits .and .u64 (shl .u64 a2 (IntKind.u64.wrap (t118))) 4294967295) (Go.bits .or .u64 (shl .u64 a0 (IntKind.u64.wrap (t118))) (shr .u64 a1 (IntKind.u64.wrap (64 - (IntKind.u64.wrap (t118)))))) ((shl .u64 a1 (IntKind.u64.wrap (t118))) / 4294967296) (Go.bits .and .u64 (shl .u64 a1 (IntKind.u64.wrap (t118))) 4294967295) (IntKind.u64.wrap (Int.tdiv (Go.bits .or .u64 (shl .u64 a0 (IntKind.u64.wrap (t118))) (shr .u64 a1 (IntKind.u64.wrap (64 - (IntKind.u64.wrap (t118)))))) ((shl .u64 a2 (IntKind.u64.wrap (t118))) / 4294967296))) (IntKind.u64.wrap ((Go.bits .or .u64 (shl .u64 a0 (IntKind.u64.wrap (t118))) (shr .u64 a1 (IntKind.u64.wrap (64 - (IntKind.u64.wrap (t118)))))) - (IntKind.u64.wrap ((IntKind.u64.wrap (Int.tdiv (Go.bits .or .u64 (shl .u64 a0 (IntKind.u64.wrap (t118))) (shr .u64 a1 (IntKind.u64.wrap (64 - (IntKind.u64.wrap (t118)))))) ((shl .u64 a2 (IntKind.u64.wrap (t118))) / 4294967296))) * ((shl .u64 a2 (IntKind.u64.wrap (t118))) / 4294967296))))))) else (none)) else (none)))))
theorem bits_DivK.calls (k : Nat) (a0 : Int) (a1 : Int) (a2 : Int) (r1 : Int) (r2 : Int) (w : World) (h : bits_DivK.f k a0 a1 a2 = some (r1, r2)) :
  Calls Tryd.prog 98 #[.int .u64 a0, .int .u64 a1, .int .u64 a2] w fun e w' => e = .returned (.tuple #[.int .u64 r1, .int .u64 r2]) ∧ D0 w w' := by
 have H : (if a2 = 0 then (none) else (if a2 ≤ a0 then (none) else (if a0 = 0 then (some (IntKind.u64.wrap (Int.tdiv a1 a2), Int.tmod a1 a2)) else ((bits_LeadingZeros64.f k a2).bind fun t118 => (if 0 ≤ (IntKind.u64.wrap (t118)) then (if 0 ≤ (IntKind.u64.wrap (64 - (IntKind.u64.wrap (t118)))) then (if ((shl .u64 a2 (IntKind.u64.wrap (t118))) / 4294967296) = 0 then (none) else (bits_DivK.l0 k (shl .u64 a2 (IntKind.u64.wrap (t118))) (IntKind.u64.wrap (t118)) ((shl .u64 a2 (IntKind.u64.wrap (t118))) / 4294967296) (Go.bits .and .u64 (shl .u64 a2 (IntKind.u64.wrap (t118))) 4294967295) (Go.bits .or .u64 (shl .u64 a0 (IntKind.u64.wrap (t118))) (shr .u64 a1 (IntKind.u64.wrap (64 - (IntKind.u64.wrap (t118)))))) ((shl .u64 a1 (IntKind.u64.wrap (t118))) / 4294967296) (Go.bits .and .u64 (shl .u64 a1 (IntKind.u64.wrap (t118))) 4294967295) (IntKind.u64.wrap (Int.tdiv (Go.bits .or .u64 (shl .u64 a0 (IntKind.u64.wrap (t118))) (shr .u64 a1 (IntKind.u64.wrap (64 - (IntKind.u64.wrap (t118)))))) ((shl .u64 a2 (IntKind.u64.wrap (t118))) / 4294967296))) (IntKind.u64.wrap ((Go.bits .or .u64 (shl .u64 a0 (IntKind.u64.wrap (t118))) (shr .u64 a1 (IntKind.u64.wrap (64 - (IntKind.u64.wrap (t118)))))) - (IntKind.u64.wrap ((IntKind.u64.wrap (Int.tdiv (Go.bits .or .u64 (shl .u64 a0 (IntKind.u64.wrap (t118))) (shr .u64 a1 (IntKind.u64.wrap (64 - (IntKind.u64.wrap (t118)))))) ((shl .u64 a2 (IntKind.u64.wrap (t118))) / 4294967296))) * ((shl .u64 a2 (IntKind.u64.wrap (t118))) / 4294967296))))))) else (none)) else (none)))))) = some (r1, r2) := h
 clear h
 by_cases c4 : a2 = 0
 ·rw [if_pos c4] at H
  have c4b0 : (a2 == 0) = true := beq_iff_eq.mpr c4
  have c4b1 : (a2 != 0) = false := bne_eq_false_iff_eq.mpr c4
  clear c4
  exact absurd H (by simp)
 ·rw [if_neg c4] at H
  have c4b0 : (a2 == 0) = false := beq_eq_false_iff_ne.mpr c4
  have c4b1 : (a2 != 0) = true := bne_iff_ne.mpr c4
  by_cases c5 : a2 ≤ a0
  ·rw [if_pos c5] at H
   have c5b0 : decide (a2 ≤ a0) = true := decide_eq_true c5
   clear c5
   exact absurd H (by simp)
  ·rw [if_neg c5] at H
   have c5b0 : decide (a2 ≤ a0) = false := decide_eq_false c5
   clear c5
   by_cases c6 : a0 = 0
   ·rw [if_pos c6] at H
    have c6b0 : (a0 == 0) = true := beq_iff_eq.mpr c6
    have c6b1 : (a0 != 0) = false := bne_eq_false_iff_eq.mpr c6
    clear c6
    simp only [Option.some.injEq, Prod.mk.injEq] at H
    obtain ⟨rfl, rfl⟩ := H
    go_enter Tryd.func98, Tryd.ntmps98
    go_wp2
    repeat (go_quiet (fail); try go_wp2)
    go_ret2
    exact ⟨by first | rfl | (simp; done) | (simp [*]; done), by repeat (first | exact D0.refl _ | apply D0.step)⟩
   ·rw [if_neg c6] at H
    have c6b0 : (a0 == 0) = false := beq_eq_false_iff_ne.mpr c6
    have c6b1 : (a0 != 0) = true := bne_iff_ne.mpr c6
    replace H := Option.bind_eq_some_iff.mp H
    obtain ⟨t118, A70, H⟩ := H
    replace H : (if 0 ≤ (IntKind.u64.wrap (t118)) then (if 0 ≤ (IntKind.u64.wrap (64 - (IntKind.u64.wrap (t118)))) then (if ((shl .u64 a2 (IntKind.u64.wrap (t118))) / 4294967296) = 0 then (none) else (bits_DivK.l0 k (shl .u64 a2 (IntKind.u64.wrap (t118))) (IntKind.u64.wrap (t118)) ((shl .u64 a2 (IntKind.u64.wrap (t118))) / 4294967296) (Go.bits .and .u64 (shl .u64 a2 (IntKind.u64.wrap (t118))) 4294967295) (Go.bits .or .u64 (shl .u64 a0 (IntKind.u64.wrap (t118))) (shr .u64 a1 (IntKind.u64.wrap (64 - (IntKind.u64.wrap (t118)))))) ((shl .u64 a1 (IntKind.u64.wrap (t118))) / 4294967296) (Go.bits .and .u64 (shl .u64 a1 (IntKind.u64.wrap (t118))) 4294967295) (IntKind.u64.wrap (Int.tdiv (Go.bits .or .u64 (shl .u64 a0 (IntKind.u64.wrap (t118))) (shr .u64 a1 (IntKind.u64.wrap (64 - (IntKind.u64.wrap (t118)))))) ((shl .u64 a2 (IntKind.u64.wrap (t118))) / 4294967296))) (IntKind.u64.wrap ((Go.bits .or .u64 (shl .u64 a0 (IntKind.u64.wrap (t118))) (shr .u64 a1 (IntKind.u64.wrap (64 - (IntKind.u64.wrap (t118)))))) - (IntKind.u64.wrap ((IntKind.u64.wrap (Int.tdiv (Go.bits .or .u64 (shl .u64 a0 (IntKind.u64.wrap (t118))) (shr .u64 a1 (IntKind.u64.wrap (64 - (IntKind.u64.wrap (t118)))))) ((shl .u64 a2 (IntKind.u64.wrap (t118))) / 4294967296))) * ((shl .u64 a2 (IntKind.u64.wrap (t118))) / 4294967296))))))) else (none)) else (none)) = some (r1, r2) := H
    have A7 := Q0.mk A70
    clear A70
    obtain ⟨ji8, hji8⟩ : ∃ j_ : Int, (IntKind.u64.wrap (t118)) = j_ := ⟨_, rfl⟩
    replace H : (if 0 ≤ (ji8) then (if 0 ≤ (IntKind.u64.wrap (64 - (ji8))) then (if ((shl .u64 a2 (ji8)) / 4294967296) = 0 then (none) else (bits_DivK.l0 k (shl .u64 a2 (ji8)) ji8 ((shl .u64 a2 (ji8)) / 4294967296) (Go.bits .and .u64 (shl .u64 a2 (ji8)) 4294967295) (Go.bits .or .u64 (shl .u64 a0 (ji8)) (shr .u64 a1 (IntKind.u64.wrap (64 - (ji8))))) ((shl .u64 a1 (ji8)) / 4294967296) (Go.bits .and .u64 (shl .u64 a1 (ji8)) 4294967295) (IntKind.u64.wrap (Int.tdiv (Go.bits .or .u64 (shl .u64 a0 (ji8)) (shr .u64 a1 (IntKind.u64.wrap (64 - (ji8))))) ((shl .u64 a2 (ji8)) / 4294967296))) (IntKind.u64.wrap ((Go.bits .or .u64 (shl .u64 a0 (ji8)) (shr .u64 a1 (IntKind.u64.wrap (64 - (ji8))))) - (IntKind.u64.wrap ((IntKind.u64.wrap (Int.tdiv (Go.bits .or .u64 (shl .u64 a0 (ji8)) (shr .u64 a1 (IntKind.u64.wrap (64 - (ji8))))) ((shl .u64 a2 (ji8)) / 4294967296))) * ((shl .u64 a2 (ji8)) / 4294967296))))))) else (none)) else (none)) = some (r1, r2) := by first | (rw [hji8] at H; exact H) | (simp only [hji8] at H ⊢; exact H)
    (try rw [hji8] at A7)
    by_cases c9 : 0 ≤ (ji8)
    ·rw [if_pos c9] at H
     have c9b0 := eq_true c9
     have c9b1 : decide (0 ≤ (ji8)) = true := decide_eq_true c9
     clear c9
     obtain ⟨ji10, hji10⟩ : ∃ j_ : Int, (shl .u64 a2 (ji8)) = j_ := ⟨_, rfl⟩
     replace H : (if 0 ≤ (IntKind.u64.wrap (64 - (ji8))) then (if ((ji10) / 4294967296) = 0 then (none) else (bits_DivK.l0 k ji10 ji8 ((ji10) / 4294967296) (Go.bits .and .u64 (ji10) 4294967295) (Go.bits .or .u64 (shl .u64 a0 (ji8)) (shr .u64 a1 (IntKind.u64.wrap (64 - (ji8))))) ((shl .u64 a1 (ji8)) / 4294967296) (Go.bits .and .u64 (shl .u64 a1 (ji8)) 4294967295) (IntKind.u64.wrap (Int.tdiv (Go.bits .or .u64 (shl .u64 a0 (ji8)) (shr .u64 a1 (IntKind.u64.wrap (64 - (ji8))))) ((ji10) / 4294967296))) (IntKind.u64.wrap ((Go.bits .or .u64 (shl .u64 a0 (ji8)) (shr .u64 a1 (IntKind.u64.wrap (64 - (ji8))))) - (IntKind.u64.wrap ((IntKind.u64.wrap (Int.tdiv (Go.bits .or .u64 (shl .u64 a0 (ji8)) (shr .u64 a1 (IntKind.u64.wrap (64 - (ji8))))) ((ji10) / 4294967296))) * ((ji10) / 4294967296))))))) else (none)) = some (r1, r2) := by first | (rw [hji10] at H; exact H) | (simp only [hji10] at H ⊢; exact H)
     (try rw [hji10] at A7)
     have hji10_ : (IntKind.u64.wrap (a2 * 2 ^ min (ji8).toNat 64)) = ji10 := hji10
     have hji10z : (ji8) ≤ 64 → (IntKind.u64.wrap (a2 * 2 ^ (ji8).toNat)) = ji10 := zv3 hji10
     have c11b0 := eq_true (of_decide_eq_true (by first | (with_reducible assumption) | assumption) : 0 ≤ (ji8))
     obtain ⟨ji12, hji12⟩ : ∃ j_ : Int, (shl .u64 a0 (ji8)) = j_ := ⟨_, rfl⟩
     replace H : (if 0 ≤ (IntKind.u64.wrap (64 - (ji8))) then (if ((ji10) / 4294967296) = 0 then (none) else (bits_DivK.l0 k ji10 ji8 ((ji10) / 4294967296) (Go.bits .and .u64 (ji10) 4294967295) (Go.bits .or .u64 (ji12) (shr .u64 a1 (IntKind.u64.wrap (64 - (ji8))))) ((shl .u64 a1 (ji8)) / 4294967296) (Go.bits .and .u64 (shl .u64 a1 (ji8)) 4294967295) (IntKind.u64.wrap (Int.tdiv (Go.bits .or .u64 (ji12) (shr .u64 a1 (IntKind.u64.wrap (64 - (ji8))))) ((ji10) / 4294967296))) (IntKind.u64.wrap ((Go.bits .or .u64 (ji12) (shr .u64 a1 (IntKind.u64.wrap (64 - (ji8))))) - (IntKind.u64.wrap ((IntKind.u64.wrap (Int.tdiv (Go.bits .or .u64 (ji12) (shr .u64 a1 (IntKind.u64.wrap (64 - (ji8))))) ((ji10) / 4294967296))) * ((ji10) / 4294967296))))))) else (none)) = some (r1, r2) := by first | (rw [hji12] at H; exact H) | (simp only [hji12] at H ⊢; exact H)
     (try rw [hji12] at A7)
     have hji12_ : (IntKind.u64.wrap (a0 * 2 ^ min (ji8).toNat 64)) = ji12 := hji12
     have hji12z : (ji8) ≤ 64 → (IntKind.u64.wrap (a0 * 2 ^ (ji8).toNat)) = ji12 := zv3 hji12
     obtain ⟨ji13, hji13⟩ : ∃ j_ : Int, (IntKind.u64.wrap (64 - (ji8))) = j_ := ⟨_, rfl⟩
     replace H : (if 0 ≤ (ji13) then (if ((ji10) / 4294967296) = 0 then (none) else (bits_DivK.l0 k ji10 ji8 ((ji10) / 4294967296) (Go.bits .and .u64 (ji10) 4294967295) (Go.bits .or .u64 (ji12) (shr .u64 a1 (ji13))) ((shl .u64 a1 (ji8)) / 4294967296) (Go.bits .and .u64 (shl .u64 a1 (ji8)) 4294967295) (IntKind.u64.wrap (Int.tdiv (Go.bits .or .u64 (ji12) (shr .u64 a1 (ji13))) ((ji10) / 4294967296))) (IntKind.u64.wrap ((Go.bits .or .u64 (ji12) (shr .u64 a1 (ji13))) - (IntKind.u64.wrap ((IntKind.u64.wrap (Int.tdiv (Go.bits .or .u64 (ji12) (shr .u64 a1 (ji13))) ((ji10) / 4294967296))) * ((ji10) / 4294967296))))))) else (none)) = some (r1, r2) := by first | (rw [hji13] at H; exact H) | (simp only [hji13] at H ⊢; exact H)
     (try rw [hji13] at A7)
     by_cases c14 : 0 ≤ (ji13)
     ·rw [if_pos c14] at H
      have c14b0 := eq_true c14
      have c14b1 : decide (0 ≤ (ji13)) = true := decide_eq_true c14
      clear c14
      obtain ⟨ji15, hji15⟩ : ∃ j_ : Int, (shr .u64 a1 (ji13)) = j_ := ⟨_, rfl⟩
      replace H : (if ((ji10) / 4294967296) = 0 then (none) else (bits_DivK.l0 k ji10 ji8 ((ji10) / 4294967296) (Go.bits .and .u64 (ji10) 4294967295) (Go.bits .or .u64 (ji12) (ji15)) ((shl .u64 a1 (ji8)) / 4294967296) (Go.bits .and .u64 (shl .u64 a1 (ji8)) 4294967295) (IntKind.u64.wrap (Int.tdiv (Go.bits .or .u64 (ji12) (ji15)) ((ji10) / 4294967296))) (IntKind.u64.wrap ((Go.bits .or .u64 (ji12) (ji15)) - (IntKind.u64.wrap ((IntKind.u64.wrap (Int.tdiv (Go.bits .or .u64 (ji12) (ji15)) ((ji10) / 4294967296))) * ((ji10) / 4294967296))))))) = some (r1, r2) := by first | (rw [hji15] at H; exact H) | (simp only [hji15] at H ⊢; exact H)
      (try rw [hji15] at A7)
      have hji15_ : (a1 / 2 ^ min (ji13).toNat 64) = ji15 := hji15
      have hji15z : (ji13) ≤ 64 → (a1 / 2 ^ (ji13).toNat) = ji15 := zt3 hji15
      have c16b0 := eq_true (of_decide_eq_true (by first | (with_reducible assumption) | assumption) : 0 ≤ (ji8))
      obtain ⟨ji17, hji17⟩ : ∃ j_ : Int, (shl .u64 a1 (ji8)) = j_ := ⟨_, rfl⟩
      replace H : (if ((ji10) / 4294967296) = 0 then (none) else (bits_DivK.l0 k ji10 ji8 ((ji10) / 4294967296) (Go.bits .and .u64 (ji10) 4294967295) (Go.bits .or .u64 (ji12) (ji15)) ((ji17) / 4294967296) (Go.bits .and .u64 (ji17) 4294967295) (IntKind.u64.wrap (Int.tdiv (Go.bits .or .u64 (ji12) (ji15)) ((ji10) / 4294967296))) (IntKind.u64.wrap ((Go.bits .or .u64 (ji12) (ji15)) - (IntKind.u64.wrap ((IntKind.u64.wrap (Int.tdiv (Go.bits .or .u64 (ji12) (ji15)) ((ji10) / 4294967296))) * ((ji10) / 4294967296))))))) = some (r1, r2) := by first | (rw [hji17] at H; exact H) | (simp only [hji17] at H ⊢; exact H)
      (try rw [hji17] at A7)
      have hji17_ : (IntKind.u64.wrap (a1 * 2 ^ min (ji8).toNat 64)) = ji17 := hji17
      have hji17z : (ji8) ≤ 64 → (IntKind.u64.wrap (a1 * 2 ^ (ji8).toNat)) = ji17 := zv3 hji17
      by_cases c18 : ((ji10) / 4294967296) = 0
      ·rw [if_pos c18] at H
       exact absurd H (by simp)
      ·rw [if_neg c18] at H
       have c18b0 : (((ji10) / 4294967296) == 0) = false := beq_eq_false_iff_ne.mpr c18
       have c18b1 : (((ji10) / 4294967296) != 0) = true := bne_iff_ne.mpr c18
       have HC19 := Q0.mk H
       clear H
       go_enter Tryd.func98, Tryd.ntmps98
       go_upto_block 0 with (first | (go_at_call 106; (with_reducible refine (bits_LeadingZeros64.calls k a2 t118 _ A7.out).mono ?_); rintro e w' ⟨rfl, ⟨nd, rfl⟩⟩; (try first | exact ⟨rfl, _, World.drewN_drewN _ _ _⟩ | exact ⟨rfl, _, Eq.trans (World.drewN_drewN _ _ _) (congrArg (World.drewN _) (Nat.add_assoc _ _ _))⟩)))
       repeat (go_quiet (first | (go_at_call 106; (with_reducible refine (bits_LeadingZeros64.calls k a2 t118 _ A7.out).mono ?_); rintro e w' ⟨rfl, ⟨nd, rfl⟩⟩; (try first | exact ⟨rfl, _, World.drewN_drewN _ _ _⟩ | exact ⟨rfl, _, Eq.trans (World.drewN_drewN _ _ _) (congrArg (World.drewN _) (Nat.add_assoc _ _ _))⟩))); go_upto_block 0 with (first | (go_at_call 106; (with_reducible refine (bits_LeadingZeros64.calls k a2 t118 _ A7.out).mono ?_); rintro e w' ⟨rfl, ⟨nd, rfl⟩⟩; (try first | exact ⟨rfl, _, World.drewN_drewN _ _ _⟩ | exact ⟨rfl, _, Eq.trans (World.drewN_drewN _ _ _) (congrArg (World.drewN _) (Nat.add_assoc _ _ _))⟩))))
       (try simp only [Act.put, s2_, s0_, s1_])
       go_cut [15] (fun v15 wc => ∃ (kq : Nat) (x15_18 : Int), v15 = .int .u64 x15_18 ∧ Q0 (bits_DivK.j2 kq ji10 ji8 ((ji10) / 4294967296) (Go.bits .and .u64 (ji10) 4294967295) (Go.bits .or .u64 (ji12) (ji15)) ((ji17) / 4294967296) (Go.bits .and .u64 (ji17) 4294967295) x15_18 = some (r1, r2)) ∧ Q0 (kq ≤ k) ∧ D0 w wc)
       case first =>
        have H := HC19.out
        clear HC19
        have H' := Q0.mk H
        clear H
        go_wp2
        repeat (go_quiet (fail); try go_wp2)
        go_loopg [15, 16] k (fun kq v15 v16 w' => ∃ (x15_1 : Int) (x16_1 : Int), v15 = .int .u64 x15_1 ∧ v16 = .int .u64 x16_1 ∧ Q0 (bits_DivK.l0 kq ji10 ji8 ((ji10) / 4294967296) (Go.bits .and .u64 (ji10) 4294967295) (Go.bits .or .u64 (ji12) (ji15)) ((ji17) / 4294967296) (Go.bits .and .u64 (ji17) 4294967295) x15_1 x16_1 = some (r1, r2)) ∧ Q0 (kq ≤ k) ∧ D0 w w')
        case atStart => exact ⟨(IntKind.u64.wrap (Int.tdiv (Go.bits .or .u64 (ji12) (ji15)) ((ji10) / 4294967296))), (IntKind.u64.wrap ((Go.bits .or .u64 (ji12) (ji15)) - (IntKind.u64.wrap ((IntKind.u64.wrap (Int.tdiv (Go.bits .or .u64 (ji12) (ji15)) ((ji10) / 4294967296))) * ((ji10) / 4294967296))))), (by first | rfl | (simp; done) | (simp only [← hji10, ← hji12, ← hji15] <;> (first | rfl | simp)) | (simp [*]; done)), (by first | rfl | (simp; done) | (simp only [← hji10, ← hji12, ← hji15] <;> (first | rfl | simp)) | (simp [*]; done)), H', ⟨Nat.le_refl _⟩, by repeat (first | exact D0.refl _ | apply D0.step)⟩
        case round =>
         clear H'
         obtain ⟨x15_1, x16_1, rfl, rfl, HA, HK1, ⟨m1, rfl⟩⟩ := hrel
         cases gk with
         | zero => exact absurd HA.out (by simp [bits_DivK.l0])
         | succ k1 =>
          have H := HA.out
          clear HA
          simp only [bits_DivK.l0] at H
          have HC20 := Q0.mk H
          clear H
          go_upto_region 17 with (fail)
          repeat (go_quiet (fail); go_upto_region 17 with (fail))
          go_cut [78] (fun v78 wc => ∃ (kq : Nat) (x78_19 : Bool), v78 = .bool x78_19 ∧ Q0 (bits_DivK.j1 kq ji10 ji8 ((ji10) / 4294967296) (Go.bits .and .u64 (ji10) 4294967295) (Go.bits .or .u64 (ji12) (ji15)) ((ji17) / 4294967296) (Go.bits .and .u64 (ji17) 4294967295) x15_1 x16_1 x78_19 = some (r1, r2)) ∧ Q0 (kq ≤ k1) ∧ D0 w wc)
          case first =>
           have H := HC20.out
           clear HC20
           by_cases c21 : x15_1 ≥ 4294967296
           ·rw [if_pos c21] at H
            have c21b0 : decide (4294967296 ≤ x15_1) = true := decide_eq_true c21
            clear c21
            (first | rw [c21b0] | (simp only [iw, jw]; rw [c21b0]) | skip)
            have H' := Q0.mk H
            clear H
            go_wp2
            repeat (go_quiet (fail); try go_wp2)
            go_meet
            case rel => exact ⟨_, (true), (by first | rfl | (simp; done) | (simp [*]; done)), H', ⟨by have := HK1.out; first | omega | exact Nat.le_refl _⟩, by repeat (first | exact D0.refl _ | apply D0.step)⟩
           ·rw [if_neg c21] at H
            have c21b0 : decide (4294967296 ≤ x15_1) = false := decide_eq_false c21
            clear c21
            (first | rw [c21b0] | (simp only [iw, jw]; rw [c21b0]) | skip)
            have H' := Q0.mk H
            clear H
            go_wp2
            repeat (go_quiet (fail); try go_wp2)
            go_meet
            case rel => exact ⟨_, (decide ((IntKind.u64.wrap (x15_1 * (Go.bits .and .u64 (ji10) 4294967295))) > (IntKind.u64.wrap ((IntKind.u64.wrap (4294967296 * x16_1)) + ((ji17) / 4294967296))))), (by first | rfl | (simp; done) | (simp only [← hji10, ← hji17] <;> (first | rfl | simp)) | (simp [*]; done)), H', ⟨by have := HK1.out; first | omega | exact Nat.le_refl _⟩, by repeat (first | exact D0.refl _ | apply D0.step)⟩
          case rest =>
           clear HC20
           obtain ⟨kq, x78_19, rfl, HA, HJ19, ⟨mc19, rfl⟩⟩ := hcut
           cases kq with
           | zero => exact absurd HA.out (by simp [bits_DivK.j1])
           | succ kj19 =>
            have H := HA.out
            clear HA
            simp only [bits_DivK.j1] at H
            by_cases c22 : x78_19 = true
            ·subst c22
             have H1 : (if (IntKind.u64.wrap (x16_1 + ((ji10) / 4294967296))) ≥ 4294967296 then (bits_DivK.j2 kj19 ji10 ji8 ((ji10) / 4294967296) (Go.bits .and .u64 (ji10) 4294967295) (Go.bits .or .u64 (ji12) (ji15)) ((ji17) / 4294967296) (Go.bits .and .u64 (ji17) 4294967295) (IntKind.u64.wrap (x15_1 - 1))) else (bits_DivK.l0 kj19 ji10 ji8 ((ji10) / 4294967296) (Go.bits .and .u64 (ji10) 4294967295) (Go.bits .or .u64 (ji12) (ji15)) ((ji17) / 4294967296) (Go.bits .and .u64 (ji17) 4294967295) (IntKind.u64.wrap (x15_1 - 1)) (IntKind.u64.wrap (x16_1 + ((ji10) / 4294967296))))) = some (r1, r2) := by rw [if_pos rfl] at H; exact H
             clear H
             have H := H1
             clear H1
             by_cases c23 : (IntKind.u64.wrap (x16_1 + ((ji10) / 4294967296))) ≥ 4294967296
             ·rw [if_pos c23] at H
              have c23b0 : decide (4294967296 ≤ (IntKind.u64.wrap (x16_1 + ((ji10) / 4294967296)))) = true := decide_eq_true c23
              clear c23
              have H' := Q0.mk H
              clear H
              go_wp2
              repeat (go_quiet (fail); try go_wp2)
              go_meet
              case rel => exact ⟨_, (IntKind.u64.wrap (x15_1 - 1)), (by first | rfl | (simp; done) | (simp [*]; done)), H', ⟨by have := HK1.out; have := HJ19.out; first | omega | exact Nat.le_refl _⟩, by repeat (first | exact D0.refl _ | apply D0.step)⟩
             ·rw [if_neg c23] at H
              have c23b0 : decide (4294967296 ≤ (IntKind.u64.wrap (x16_1 + ((ji10) / 4294967296)))) = false := decide_eq_false c23
              clear c23
              have H' := Q0.mk H
              clear H
              go_wp2
              repeat (go_quiet (fail); try go_wp2)
              go_roundg kj19
              case measure => have := HK1.out; have := HJ19.out; omega
              case rel => exact ⟨(IntKind.u64.wrap (x15_1 - 1)), (IntKind.u64.wrap (x16_1 + ((ji10) / 4294967296))), (by first | rfl | (simp; done) | (simp [*]; done)), (by first | rfl | (simp; done) | (simp only [← hji10] <;> (first | rfl | simp)) | (simp [*]; done)), H', ⟨by have := HK1.out; have := HJ19.out; omega⟩, by repeat (first | exact D0.refl _ | apply D0.step)⟩
            ·replace c22 := Bool.eq_false_iff.mpr c22
             subst c22
             have H1 : (bits_DivK.j2 kj19 ji10 ji8 ((ji10) / 4294967296) (Go.bits .and .u64 (ji10) 4294967295) (Go.bits .or .u64 (ji12) (ji15)) ((ji17) / 4294967296) (Go.bits .and .u64 (ji17) 4294967295) x15_1) = some (r1, r2) := by rw [if_neg (show ¬ (false = true) by decide)] at H; exact H
             clear H
             have H := H1
             clear H1
             have H' := Q0.mk H
             clear H
             go_wp2
             repeat (go_quiet (fail); try go_wp2)
             go_meet
             case rel => exact ⟨_, (x15_1), (by first | rfl | (simp; done) | (simp [*]; done)), H', ⟨by have := HK1.out; have := HJ19.out; first | omega | exact Nat.le_refl _⟩, by repeat (first | exact D0.refl _ | apply D0.step)⟩
       case rest =>
        clear HC19
        obtain ⟨kq, x15_18, rfl, HA, HJ18, ⟨mc18, rfl⟩⟩ := hcut
        cases kq with
        | zero => exact absurd HA.out (by simp [bits_DivK.j2])
        | succ kj18 =>
         have H := HA.out
         clear HA
         simp only [bits_DivK.j2] at H
         by_cases c24 : ((ji10) / 4294967296) = 0
         ·rw [if_pos c24] at H
          exact absurd H (by simp)
         ·rw [if_neg c24] at H
          have c24b0 : (((ji10) / 4294967296) == 0) = false := beq_eq_false_iff_ne.mpr c24
          have c24b1 : (((ji10) / 4294967296) != 0) = true := bne_iff_ne.mpr c24
          have H' := Q0.mk H
          clear H
          go_wp2
          repeat (go_quiet (fail); try go_wp2)
          go_loopg [16, 18] kj18 (fun kq v16 v18 w' => ∃ (x16_2 : Int) (x18_2 : Int), v16 = .int .u64 x16_2 ∧ v18 = .int .u64 x18_2 ∧ Q0 (bits_DivK.l1 kq ji10 ji8 ((ji10) / 4294967296) (Go.bits .and .u64 (ji10) 4294967295) (Go.bits .and .u64 (ji17) 4294967295) x15_18 x16_2 (IntKind.u64.wrap ((IntKind.u64.wrap ((IntKind.u64.wrap ((Go.bits .or .u64 (ji12) (ji15)) * 4294967296)) + ((ji17) / 4294967296))) - (IntKind.u64.wrap (x15_18 * ji10)))) x18_2 = some (r1, r2)) ∧ Q0 (kq ≤ kj18) ∧ D0 w w')
          case atStart => exact ⟨(IntKind.u64.wrap ((IntKind.u64.wrap ((IntKind.u64.wrap ((IntKind.u64.wrap ((Go.bits .or .u64 (ji12) (ji15)) * 4294967296)) + ((ji17) / 4294967296))) - (IntKind.u64.wrap (x15_18 * ji10)))) - (IntKind.u64.wrap ((IntKind.u64.wrap (Int.tdiv (IntKind.u64.wrap ((IntKind.u64.wrap ((IntKind.u64.wrap ((Go.bits .or .u64 (ji12) (ji15)) * 4294967296)) + ((ji17) / 4294967296))) - (IntKind.u64.wrap (x15_18 * ji10)))) ((ji10) / 4294967296))) * ((ji10) / 4294967296))))), (IntKind.u64.wrap (Int.tdiv (IntKind.u64.wrap ((IntKind.u64.wrap ((IntKind.u64.wrap ((Go.bits .or .u64 (ji12) (ji15)) * 4294967296)) + ((ji17) / 4294967296))) - (IntKind.u64.wrap (x15_18 * ji10)))) ((ji10) / 4294967296))), (by first | rfl | (simp; done) | (simp only [← hji10, ← hji12, ← hji15, ← hji17] <;> (first | rfl | simp)) | (simp [*]; done)), (by first | rfl | (simp; done) | (simp only [← hji10, ← hji12, ← hji15, ← hji17] <;> (first | rfl | simp)) | (simp [*]; done)), H', ⟨Nat.le_refl _⟩, by repeat (first | exact D0.refl _ | apply D0.step)⟩
          case round =>
           clear H'
           obtain ⟨x16_2, x18_2, rfl, rfl, HA, HK2, ⟨m2, rfl⟩⟩ := hrel
           cases gk with
           | zero => exact absurd HA.out (by simp [bits_DivK.l1])
           | succ k2 =>
            have H := HA.out
            clear HA
            simp only [bits_DivK.l1] at H
            have HC25 := Q0.mk H
            clear H
            go_upto_region 24 with (fail)
            repeat (go_quiet (fail); go_upto_region 24 with (fail))
            go_cut [113] (fun v113 wc => ∃ (kq : Nat) (x113_24 : Bool), v113 = .bool x113_24 ∧ Q0 (bits_DivK.j4 kq ji10 ji8 ((ji10) / 4294967296) (Go.bits .and .u64 (ji10) 4294967295) (Go.bits .and .u64 (ji17) 4294967295) x15_18 x16_2 (IntKind.u64.wrap ((IntKind.u64.wrap ((IntKind.u64.wrap ((Go.bits .or .u64 (ji12) (ji15)) * 4294967296)) + ((ji17) / 4294967296))) - (IntKind.u64.wrap (x15_18 * ji10)))) x18_2 x113_24 = some (r1, r2)) ∧ Q0 (kq ≤ k2) ∧ D0 w wc)
            case first =>
             have H := HC25.out
             clear HC25
             by_cases c26 : x18_2 ≥ 4294967296
             ·rw [if_pos c26] at H
              have c26b0 : decide (4294967296 ≤ x18_2) = true := decide_eq_true c26
              clear c26
              (first | rw [c26b0] | (simp only [iw, jw]; rw [c26b0]) | skip)
              have H' := Q0.mk H
              clear H
              go_wp2
              repeat (go_quiet (fail); try go_wp2)
              go_meet
              case rel => exact ⟨_, (true), (by first | rfl | (simp; done) | (simp [*]; done)), H', ⟨by have := HJ18.out; have := HK2.out; first | omega | exact Nat.le_refl _⟩, by repeat (first | exact D0.refl _ | apply D0.step)⟩
             ·rw [if_neg c26] at H
              have c26b0 : decide (4294967296 ≤ x18_2) = false := decide_eq_false c26
              clear c26
              (first | rw [c26b0] | (simp only [iw, jw]; rw [c26b0]) | skip)
              have H' := Q0.mk H
              clear H
              go_wp2
              repeat (go_quiet (fail); try go_wp2)
              go_meet
              case rel => exact ⟨_, (decide ((IntKind.u64.wrap (x18_2 * (Go.bits .and .u64 (ji10) 4294967295))) > (IntKind.u64.wrap ((IntKind.u64.wrap (4294967296 * x16_2)) + (Go.bits .and .u64 (ji17) 4294967295))))), (by first | rfl | (simp; done) | (simp only [← hji10, ← hji17] <;> (first | rfl | simp)) | (simp [*]; done)), H', ⟨by have := HJ18.out; have := HK2.out; first | omega | exact Nat.le_refl _⟩, by repeat (first | exact D0.refl _ | apply D0.step)⟩
            case rest =>
             clear HC25
             obtain ⟨kq, x113_24, rfl, HA, HJ24, ⟨mc24, rfl⟩⟩ := hcut
             cases kq with
             | zero => exact absurd HA.out (by simp [bits_DivK.j4])
             | succ kj24 =>
              have H := HA.out
              clear HA
              simp only [bits_DivK.j4] at H
              by_cases c27 : x113_24 = true
              ·subst c27
               have H1 : (if (IntKind.u64.wrap (x16_2 + ((ji10) / 4294967296))) ≥ 4294967296 then (if 0 ≤ ji8 then (some (IntKind.u64.wrap ((IntKind.u64.wrap (x15_18 * 4294967296)) + (IntKind.u64.wrap (x18_2 - 1))), shr .u64 (IntKind.u64.wrap ((IntKind.u64.wrap ((IntKind.u64.wrap ((IntKind.u64.wrap ((IntKind.u64.wrap ((IntKind.u64.wrap ((Go.bits .or .u64 (ji12) (ji15)) * 4294967296)) + ((ji17) / 4294967296))) - (IntKind.u64.wrap (x15_18 * ji10)))) * 4294967296)) + (Go.bits .and .u64 (ji17) 4294967295))) - (IntKind.u64.wrap ((IntKind.u64.wrap (x18_2 - 1)) * ji10)))) ji8)) else (none)) else (bits_DivK.l1 kj24 ji10 ji8 ((ji10) / 4294967296) (Go.bits .and .u64 (ji10) 4294967295) (Go.bits .and .u64 (ji17) 4294967295) x15_18 (IntKind.u64.wrap (x16_2 + ((ji10) / 4294967296))) (IntKind.u64.wrap ((IntKind.u64.wrap ((IntKind.u64.wrap ((Go.bits .or .u64 (ji12) (ji15)) * 4294967296)) + ((ji17) / 4294967296))) - (IntKind.u64.wrap (x15_18 * ji10)))) (IntKind.u64.wrap (x18_2 - 1)))) = some (r1, r2) := by rw [if_pos rfl] at H; exact H
               clear H
               have H := H1
               clear H1
               by_cases c28 : (IntKind.u64.wrap (x16_2 + ((ji10) / 4294967296))) ≥ 4294967296
               ·rw [if_pos c28] at H
                have c28b0 : decide (4294967296 ≤ (IntKind.u64.wrap (x16_2 + ((ji10) / 4294967296)))) = true := decide_eq_true c28
                clear c28
                by_cases c29 : 0 ≤ ji8
                ·rw [if_pos c29] at H
                 have c29b0 := eq_true c29
                 have c29b1 : decide (0 ≤ ji8) = true := decide_eq_true c29
                 clear c29
                 obtain ⟨ji30, hji30⟩ : ∃ j_ : Int, (shr .u64 (IntKind.u64.wrap ((IntKind.u64.wrap ((IntKind.u64.wrap ((IntKind.u64.wrap ((IntKind.u64.wrap ((IntKind.u64.wrap ((Go.bits .or .u64 (ji12) (ji15)) * 4294967296)) + ((ji17) / 4294967296))) - (IntKind.u64.wrap (x15_18 * ji10)))) * 4294967296)) + (Go.bits .and .u64 (ji17) 4294967295))) - (IntKind.u64.wrap ((IntKind.u64.wrap (x18_2 - 1)) * ji10)))) ji8) = j_ := ⟨_, rfl⟩
                 replace H : (some (IntKind.u64.wrap ((IntKind.u64.wrap (x15_18 * 4294967296)) + (IntKind.u64.wrap (x18_2 - 1))), ji30)) = some (r1, r2) := by first | (rw [hji30] at H; exact H) | (simp only [hji30] at H ⊢; exact H)
                 have hji30_ : ((IntKind.u64.wrap ((IntKind.u64.wrap ((IntKind.u64.wrap ((IntKind.u64.wrap ((IntKind.u64.wrap ((IntKind.u64.wrap ((Go.bits .or .u64 (ji12) (ji15)) * 4294967296)) + ((ji17) / 4294967296))) - (IntKind.u64.wrap (x15_18 * ji10)))) * 4294967296)) + (Go.bits .and .u64 (ji17) 4294967295))) - (IntKind.u64.wrap ((IntKind.u64.wrap (x18_2 - 1)) * ji10)))) / 2 ^ min ji8.toNat 64) = ji30 := hji30
                 have hji30z : ji8 ≤ 64 → ((IntKind.u64.wrap ((IntKind.u64.wrap ((IntKind.u64.wrap ((IntKind.u64.wrap ((IntKind.u64.wrap ((IntKind.u64.wrap ((Go.bits .or .u64 (ji12) (ji15)) * 4294967296)) + ((ji17) / 4294967296))) - (IntKind.u64.wrap (x15_18 * ji10)))) * 4294967296)) + (Go.bits .and .u64 (ji17) 4294967295))) - (IntKind.u64.wrap ((IntKind.u64.wrap (x18_2 - 1)) * ji10)))) / 2 ^ ji8.toNat) = ji30 := zt3 hji30
                 simp only [Option.some.injEq, Prod.mk.injEq] at H
                 obtain ⟨rfl, rfl⟩ := H
                 go_wp2
                 repeat (go_quiet (fail); try go_wp2)
                 go_ret2
                 exact ⟨by first | rfl | (simp; done) | (simp only [← hji8, ← hji10, ← hji12, ← hji13, ← hji15, ← hji17, ← hji30] <;> (first | rfl | simp)) | (simp [*]; done), by repeat (first | exact D0.refl _ | apply D0.step)⟩
                ·rw [if_neg c29] at H
                 exact absurd H (by simp)
               ·rw [if_neg c28] at H
                have c28b0 : decide (4294967296 ≤ (IntKind.u64.wrap (x16_2 + ((ji10) / 4294967296)))) = false := decide_eq_false c28
                clear c28
                have H' := Q0.mk H
                clear H
                go_wp2
                repeat (go_quiet (fail); try go_wp2)
                go_roundg kj24
                case measure => have := HJ18.out; have := HK2.out; have := HJ24.out; omega
                case rel => exact ⟨(IntKind.u64.wrap (x16_2 + ((ji10) / 4294967296))), (IntKind.u64.wrap (x18_2 - 1)), (by first | rfl | (simp; done) | (simp only [← hji10] <;> (first | rfl | simp)) | (simp [*]; done)), (by first | rfl | (simp; done) | (simp [*]; done)), H', ⟨by have := HJ18.out; have := HK2.out; have := HJ24.out; omega⟩, by repeat (first | exact D0.refl _ | apply D0.step)⟩
              ·replace c27 := Bool.eq_false_iff.mpr c27
               subst c27
               have H1 : (if 0 ≤ ji8 then (some (IntKind.u64.wrap ((IntKind.u64.wrap (x15_18 * 4294967296)) + x18_2), shr .u64 (IntKind.u64.wrap ((IntKind.u64.wrap ((IntKind.u64.wrap ((IntKind.u64.wrap ((IntKind.u64.wrap ((IntKind.u64.wrap ((Go.bits .or .u64 (ji12) (ji15)) * 4294967296)) + ((ji17) / 4294967296))) - (IntKind.u64.wrap (x15_18 * ji10)))) * 4294967296)) + (Go.bits .and .u64 (ji17) 4294967295))) - (IntKind.u64.wrap (x18_2 * ji10)))) ji8)) else (none)) = some (r1, r2) := by rw [if_neg (show ¬ (false = true) by decide)] at H; exact H
               clear H
               have H := H1
               clear H1
               by_cases c31 : 0 ≤ ji8
               ·rw [if_pos c31] at H
                have c31b0 := eq_true c31
                have c31b1 : decide (0 ≤ ji8) = true := decide_eq_true c31
                clear c31
                obtain ⟨ji32, hji32⟩ : ∃ j_ : Int, (shr .u64 (IntKind.u64.wrap ((IntKind.u64.wrap ((IntKind.u64.wrap ((IntKind.u64.wrap ((IntKind.u64.wrap ((IntKind.u64.wrap ((Go.bits .or .u64 (ji12) (ji15)) * 4294967296)) + ((ji17) / 4294967296))) - (IntKind.u64.wrap (x15_18 * ji10)))) * 4294967296)) + (Go.bits .and .u64 (ji17) 4294967295))) - (IntKind.u64.wrap (x18_2 * ji10)))) ji8) = j_ := ⟨_, rfl⟩
                replace H : (some (IntKind.u64.wrap ((IntKind.u64.wrap (x15_18 * 4294967296)) + x18_2), ji32)) = some (r1, r2) := by first | (rw [hji32] at H; exact H) | (simp only [hji32] at H ⊢; exact H)
                have hji32_ : ((IntKind.u64.wrap ((IntKind.u64.wrap ((IntKind.u64.wrap ((IntKind.u64.wrap ((IntKind.u64.wrap ((IntKind.u64.wrap ((Go.bits .or .u64 (ji12) (ji15)) * 4294967296)) + ((ji17) / 4294967296))) - (IntKind.u64.wrap (x15_18 * ji10)))) * 4294967296)) + (Go.bits .and .u64 (ji17) 4294967295))) - (IntKind.u64.wrap (x18_2 * ji10)))) / 2 ^ min ji8.toNat 64) = ji32 := hji32
                have hji32z : ji8 ≤ 64 → ((IntKind.u64.wrap ((IntKind.u64.wrap ((IntKind.u64.wrap ((IntKind.u64.wrap ((IntKind.u64.wrap ((IntKind.u64.wrap ((Go.bits .or .u64 (ji12) (ji15)) * 4294967296)) + ((ji17) / 4294967296))) - (IntKind.u64.wrap (x15_18 * ji10)))) * 4294967296)) + (Go.bits .and .u64 (ji17) 4294967295))) - (IntKind.u64.wrap (x18_2 * ji10)))) / 2 ^ ji8.toNat) = ji32 := zt3 hji32
                simp only [Option.some.injEq, Prod.mk.injEq] at H
                obtain ⟨rfl, rfl⟩ := H
                go_wp2
                repeat (go_quiet (fail); try go_wp2)
                go_ret2
                exact ⟨by first | rfl | (simp; done) | (simp only [← hji8, ← hji10, ← hji12, ← hji13, ← hji15, ← hji17, ← hji32] <;> (first | rfl | simp)) | (simp [*]; done), by repeat (first | exact D0.refl _ | apply D0.step)⟩
               ·rw [if_neg c31] at H
                exact absurd H (by simp)
     ·rw [if_neg c14] at H
      exact absurd H (by simp)
    ·rw [if_neg c9] at H
     exact absurd H (by simp)
end Go.Proofs.YtgkdealidnidiaaDoor.Na
namespace Go.Proofs.YtgkdealidnidiaaDoor.Na
open Go.RowKit Go.Proofs.YtgkdealidnidiaaDoorW.PrintWords Go.Proofs.YtgkdealidnidiaaDoorW.PrintLast Go.Proofs.YtgkdealidnidiaaDoorW.PrintMore Go.Proofs.YtgkdealidnidiaaDoor.Dg
structure Gs (u n1 y1 y0 D q r : Nat) : Prop where
 h1 : 2147483648 ≤ y1
 h2 : y1 < 4294967296
 h3 : y0 < 4294967296
 hu : u < y1 * 4294967296 + y0
 hn : n1 < 4294967296
 hD : D = (u * 4294967296 + n1) / (y1 * 4294967296 + y0)
 hq : q * y1 + r = u
 hr : r < 4294967296
 hDq : D ≤ q
 hq1 : q ≤ 4294967297
theorem Gs.low {u n1 y1 y0 D q r : Nat} (h : Gs u n1 y1 y0 D q r) (hle : q * (y1 * 4294967296 + y0) ≤ u * 4294967296 + n1) : q = D := by
 have h1 := h.h1
 have := (Nat.le_div_iff_mul_le (show 0 < y1 * 4294967296 + y0 by omega)).2 hle
 rw [← h.hD] at this
 have := h.hDq
 omega
theorem Gs.mulq {u n1 y1 y0 D q r : Nat} (h : Gs u n1 y1 y0 D q r) : q * (y1 * 4294967296 + y0) + r * 4294967296 = u * 4294967296 + q * y0 := by
 rw [← h.hq]; grind
theorem Gs.stop {u n1 y1 y0 D q r : Nat} (h : Gs u n1 y1 y0 D q r) (hs : q * y0 ≤ 4294967296 * r + n1) : q = D := by
 refine h.low ?_
 have := h.mulq
 omega
theorem Gs.big {u n1 y1 y0 D q r : Nat} (h : Gs u n1 y1 y0 D q r) (hs : 4294967296 ≤ q ∨ 4294967296 * r + n1 < q * y0) : D + 1 ≤ q := by
 have h1 := h.h1
 have hp : 0 < y1 * 4294967296 + y0 := by omega
 rcases hs with hs | hs
 ·-- the digit is below the base
  have hlt : D < 4294967296 := by
   rw [h.hD, Nat.div_lt_iff_lt_mul hp]
   have := h.hu
   have h2 : (u + 1) * 4294967296 ≤ (y1 * 4294967296 + y0) * 4294967296 := Nat.mul_le_mul_right _ this
   have := h.hn
   omega
  omega
 ·rcases Nat.lt_or_ge D q with hd | hd
  ·exact hd
  ·exfalso
   have hDq := h.hDq
   have e : D = q := by omega
   have hm := Nat.div_mul_le_self (u * 4294967296 + n1) (y1 * 4294967296 + y0)
   rw [← h.hD, e] at hm
   have := h.mulq
   omega
theorem Gs.down {u n1 y1 y0 D q r : Nat} (h : Gs u n1 y1 y0 D q r) (hb : D + 1 ≤ q) (hr : r + y1 < 4294967296) : Gs u n1 y1 y0 D (q - 1) (r + y1) := by
 refine ⟨h.h1, h.h2, h.h3, h.hu, h.hn, h.hD, ?_, hr, by omega, by have := h.hq1; omega⟩
 have := h.hq
 have e : q * y1 = (q - 1) * y1 + y1 := by rw [← Nat.succ_mul]; congr 1; omega
 omega
theorem Gs.last {u n1 y1 y0 D q r : Nat} (h : Gs u n1 y1 y0 D q r) (hb : D + 1 ≤ q) (hr : ¬ r + y1 < 4294967296) : q - 1 = D := by
 have h1 := h.h1
 have hle : (q - 1) * (y1 * 4294967296 + y0) ≤ u * 4294967296 + n1 := by
  have hq := h.hq
  have e : q * y1 = (q - 1) * y1 + y1 := by rw [← Nat.succ_mul]; congr 1; omega
  have e2 : (q - 1) * (y1 * 4294967296 + y0) = (q - 1) * y1 * 4294967296 + (q - 1) * y0 := by grind
  have e3 : (q - 1) * y0 ≤ 4294967296 * 4294967295 := Nat.mul_le_mul (by have := h.hq1; omega) (by have := h.h3; omega)
  generalize (q - 1) * y1 = A at e e2
  generalize (q - 1) * y0 = C at e2 e3
  omega
 have := (Nat.le_div_iff_mul_le (show 0 < y1 * 4294967296 + y0 by omega)).2 hle
 rw [← h.hD] at this
 omega
theorem Gs.first {u n1 y1 y0 : Nat} (h1 : 2147483648 ≤ y1) (h2 : y1 < 4294967296) (h3 : y0 < 4294967296) (hu : u < y1 * 4294967296 + y0) (hn : n1 < 4294967296) : Gs u n1 y1 y0 ((u * 4294967296 + n1) / (y1 * 4294967296 + y0)) (u / y1) (u % y1) := by
 have hp : 0 < y1 := by omega
 have hq1 : u / y1 ≤ 4294967297 := by
  have : u / y1 < 4294967298 := by
   rw [Nat.div_lt_iff_lt_mul hp]; omega
  omega
 refine ⟨h1, h2, h3, hu, hn, rfl, by rw [Nat.mul_comm]; exact Nat.div_add_mod u y1, Nat.lt_trans (Nat.mod_lt _ hp) h2, ?_, hq1⟩
 have := guess_hi (B := 4294967296) (P := 1) (U := ((u * 4294967296 + n1 : Nat) : Int)) (V := ((y1 * 4294967296 + y0 : Nat) : Int)) (u2 := 0) (u1 := u) (u0 := n1) (v1 := y1) (v0 := y0) (U' := 0) (V' := 0) (d := (((u * 4294967296 + n1) / (y1 * 4294967296 + y0) : Nat) : Int)) (by decide) (by decide) (by simp) (by simp) (by decide) (by decide) (by omega) (by omega) (by omega) (Int.natCast_nonneg _) (by rw [← Int.natCast_mul]; exact Int.ofNat_le.2 (Nat.div_mul_le_self _ _))
 rw [Int.zero_mul, Int.zero_add, ← Int.natCast_ediv] at this
 exact Int.ofNat_le.1 this
theorem zm3 {x : Nat} (h : x < 18446744073709551616) : IntKind.u64.wrap (x : Int) = (x : Int) := u64w (Int.natCast_nonneg _) (by omega)
theorem Gs.prod {u n1 y1 y0 D q r : Nat} (h : Gs u n1 y1 y0 D q r) (hq : ¬ 4294967296 ≤ q) : q * y0 < 18446744073709551616 := by
 have h3 := h.h3
 have := Nat.mul_le_mul (show q ≤ 4294967295 by omega) (show y0 ≤ 4294967295 by omega)
 omega
theorem Gs.cond {u n1 y1 y0 D q r : Nat} (h : Gs u n1 y1 y0 D q r) (hq : ¬ 4294967296 ≤ q) : decide (IntKind.u64.wrap ((q : Int) * (y0 : Int)) > IntKind.u64.wrap (IntKind.u64.wrap (4294967296 * (r : Int)) + (n1 : Int))) = decide (4294967296 * r + n1 < q * y0) := by
 have hp := h.prod hq
 have hr := h.hr
 have hn := h.hn
 rw [show (q : Int) * (y0 : Int) = ((q * y0 : Nat) : Int) by rw [Int.natCast_mul], zm3 hp, show (4294967296 : Int) * (r : Int) = ((4294967296 * r : Nat) : Int) by omega, zm3 (by omega), ← Int.natCast_add, zm3 (by omega)]
 by_cases hc : 4294967296 * r + n1 < q * y0
 ·rw [decide_eq_true hc]; exact decide_eq_true (Int.ofNat_lt.2 hc)
 ·rw [decide_eq_false hc]; exact decide_eq_false (fun hh => hc (Int.ofNat_lt.1 hh))
theorem Gs.sum {u n1 y1 y0 D q r : Nat} (h : Gs u n1 y1 y0 D q r) : IntKind.u64.wrap ((r : Int) + (y1 : Int)) = ((r + y1 : Nat) : Int) := by
 have h2 := h.h2; have hr := h.hr
 rw [← Int.natCast_add, zm3 (by omega)]
theorem pred_wrap {q : Nat} (h0 : 1 ≤ q) (h1 : q ≤ 4294967297) : IntKind.u64.wrap ((q : Int) - 1) = ((q - 1 : Nat) : Int) := by
 rw [u64w (by omega) (by omega)]; omega
theorem divk_l0 (y s u n1 n0 y1 y0 D : Nat) (z : Int × Int) (hz : Ev (fun k => bits_DivK.j2 k y s y1 y0 u n1 n0 D) z) : ∀ (d q r : Nat), q ≤ d → Gs u n1 y1 y0 D q r → Ev (fun k => bits_DivK.l0 k y s y1 y0 u n1 n0 q r) z
 | 0, q, r, hd, h => by
  have hq0 : q = 0 := by omega
  have hD : D = 0 := by have := h.hDq; omega
  subst hq0 hD
  refine Ev.step (f := fun k => bits_DivK.j1 k y s y1 y0 u n1 n0 ((0 : Nat) : Int) r false) (fun k => ?_) ?_
  ·have hc := (h.cond (by omega)).trans (decide_eq_false (show ¬ 4294967296 * r + n1 < 0 * y0 by omega))
   rw [bits_DivK.l0, if_neg (by omega), hc]
  ·exact Ev.step (fun k => by rw [bits_DivK.j1, if_neg (by decide)]) hz
 | d + 1, q, r, hd, h => by
  have E := Q0.mk h.sum
  have E2 := Q0.mk (fun (h0 : 1 ≤ q) => pred_wrap h0 h.hq1)
  by_cases hb : 4294967296 ≤ q ∨ 4294967296 * r + n1 < q * y0
  ·have hbig := h.big hb
   have hstep : ∀ k, bits_DivK.l0 (k + 1) y s y1 y0 u n1 n0 q r = bits_DivK.j1 k y s y1 y0 u n1 n0 q r true := by
    intro k
    rw [bits_DivK.l0]
    by_cases hq : 4294967296 ≤ q
    ·rw [if_pos (by omega)]
    ·rw [if_neg (by omega), h.cond hq, decide_eq_true (by omega)]
   refine Ev.step hstep ?_
   by_cases hr : r + y1 < 4294967296
   ·have ih := divk_l0 y s u n1 n0 y1 y0 D z hz d (q - 1) (r + y1) (by omega) (h.down hbig hr)
    refine Ev.step (fun k => ?_) ih
    have g : ¬ ((r + y1 : Nat) : Int) ≥ 4294967296 := by omega
    rw [bits_DivK.j1, if_pos rfl, E.out, if_neg g, E2.out (by omega)]
   ·have hl := h.last hbig hr
    refine Ev.step (fun k => ?_) hz
    have g : ((r + y1 : Nat) : Int) ≥ 4294967296 := by omega
    rw [bits_DivK.j1, if_pos rfl, E.out, if_pos g, E2.out (by omega), hl]
  ·have hstop := h.stop (by omega)
   refine Ev.step (f := fun k => bits_DivK.j1 k y s y1 y0 u n1 n0 q r false) (fun k => ?_) ?_
   ·rw [bits_DivK.l0, if_neg (by omega), h.cond (by omega), decide_eq_false (by omega)]
   ·refine Ev.step (fun k => ?_) hz
    rw [bits_DivK.j1, if_neg (by decide), hstop]
theorem rest_wrap {u n1 y1 y0 D q r Y : Nat} (h : Gs u n1 y1 y0 D q r) (hY : Y = y1 * 4294967296 + y0) : IntKind.u64.wrap (IntKind.u64.wrap (IntKind.u64.wrap ((u : Int) * 4294967296) + (n1 : Int)) - IntKind.u64.wrap ((D : Int) * (Y : Int))) = (((u * 4294967296 + n1) % Y : Nat) : Int) := by
 have h1 := h.h1; have h2 := h.h2; have h3 := h.h3
 have hm := Nat.div_add_mod (u * 4294967296 + n1) Y
 have hlt := Nat.mod_lt (u * 4294967296 + n1) (show 0 < Y by omega)
 have hD := h.hD
 rw [← hY] at hD
 rw [← hD] at hm
 have e : (D : Int) * (Y : Int) = ((Y * D : Nat) : Int) := by rw [Int.natCast_mul, Int.mul_comm]
 rw [e]
 generalize Y * D = A at hm
 generalize (u * 4294967296 + n1) % Y = R at hm hlt ⊢
 rw [IntKind.wrap_u64, IntKind.wrap_u64, IntKind.wrap_u64, IntKind.wrap_u64]
 omega
theorem divk_l1 (Y s u n0 y1 y0 D q1 : Nat) (hY : Y = y1 * 4294967296 + y0) (hs : s ≤ 64) (hq1 : q1 < 4294967296) : ∀ (d q r : Nat), q ≤ d → Gs u n0 y1 y0 D q r → D < 4294967296 →
  Ev (fun k => bits_DivK.l1 k Y s y1 y0 n0 q1 r u q) (((q1 * 4294967296 + D : Nat) : Int), (((u * 4294967296 + n0) % Y / 2 ^ s : Nat) : Int)) := by
 intro d
 have fin : ∀ (q r : Nat), Gs u n0 y1 y0 D q r → D < 4294967296 → (IntKind.u64.wrap (IntKind.u64.wrap ((q1 : Int) * 4294967296) + (D : Int)), shr .u64 (IntKind.u64.wrap (IntKind.u64.wrap (IntKind.u64.wrap ((u : Int) * 4294967296) + (n0 : Int)) - IntKind.u64.wrap ((D : Int) * (Y : Int)))) (s : Int)) = ((((q1 * 4294967296 + D : Nat) : Int), (((u * 4294967296 + n0) % Y / 2 ^ s : Nat) : Int))) := by
  intro q r h hD
  rw [rest_wrap h hY, zs3 _ s hs]
  congr 1
  rw [show (q1 : Int) * 4294967296 = ((q1 * 4294967296 : Nat) : Int) by omega, zm3 (by omega), ← Int.natCast_add, zm3 (by omega)]
 have gs : (0 : Int) ≤ (s : Int) := by omega
 induction d with
 | zero =>
  intro q r hd h hDl
  have hq0 : q = 0 := by omega
  have hD : D = 0 := by have := h.hDq; omega
  have hfin := fin q r h hDl
  subst hq0 hD
  have hc := (h.cond (by omega)).trans (decide_eq_false (show ¬ 4294967296 * r + n0 < 0 * y0 by omega))
  refine Ev.step (f := fun k => bits_DivK.j4 k Y s y1 y0 n0 q1 r u ((0 : Nat) : Int) false) (fun k => by rw [bits_DivK.l1, if_neg (by omega), hc]) ?_
  refine Ev.step (f := fun _ => some _) (fun k => ?_) (Ev.now _)
  rw [bits_DivK.j4, if_neg (by decide), if_pos gs]
  exact congrArg some hfin
 | succ d ih =>
  intro q r hd h hDl
  have E := Q0.mk h.sum
  have E2 := Q0.mk (fun (h0 : 1 ≤ q) => pred_wrap h0 h.hq1)
  have hfin := Q0.mk (fin q r h hDl)
  by_cases hb : 4294967296 ≤ q ∨ 4294967296 * r + n0 < q * y0
  ·have hbig := h.big hb
   have hstep : ∀ k, bits_DivK.l1 (k + 1) Y s y1 y0 n0 q1 r u q = bits_DivK.j4 k Y s y1 y0 n0 q1 r u q true := by
    intro k
    rw [bits_DivK.l1]
    by_cases hq : 4294967296 ≤ q
    ·rw [if_pos (by omega)]
    ·rw [if_neg (by omega), h.cond hq, decide_eq_true (by omega)]
   refine Ev.step hstep ?_
   by_cases hr : r + y1 < 4294967296
   ·refine Ev.step (fun k => ?_) (ih (q - 1) (r + y1) (by omega) (h.down hbig hr) hDl)
    have g : ¬ ((r + y1 : Nat) : Int) ≥ 4294967296 := by omega
    rw [bits_DivK.j4, if_pos rfl, E.out, if_neg g, E2.out (by omega)]
   ·have hl := h.last hbig hr
    refine Ev.step (f := fun _ => some _) (fun k => ?_) (Ev.now _)
    have g : ((r + y1 : Nat) : Int) ≥ 4294967296 := by omega
    rw [bits_DivK.j4, if_pos rfl, E.out, if_pos g, E2.out (by omega), hl, if_pos gs]
    exact congrArg some hfin.out
  ·have hstop := h.stop (by omega)
   refine Ev.step (f := fun k => bits_DivK.j4 k Y s y1 y0 n0 q1 r u q false) (fun k => ?_) ?_
   ·rw [bits_DivK.l1, if_neg (by omega), h.cond (by omega), decide_eq_false (by omega)]
   ·refine Ev.step (f := fun _ => some _) (fun k => ?_) (Ev.now _)
    rw [bits_DivK.j4, if_neg (by decide), hstop, if_pos gs]
    exact congrArg some hfin.out
theorem tdiv_word (u y : Nat) (hu : u < 18446744073709551616) : IntKind.u64.wrap (Int.tdiv (u : Int) (y : Int)) = ((u / y : Nat) : Int) := by
 have := Nat.div_le_self u y
 rw [zz2 (Int.natCast_nonneg _), ← Int.natCast_ediv, zm3 (by omega)]
theorem mod_word (u y1 : Nat) (hu : u < 18446744073709551616) : IntKind.u64.wrap ((u : Int) - IntKind.u64.wrap (((u / y1 : Nat) : Int) * (y1 : Int))) = ((u % y1 : Nat) : Int) := by
 have h := Nat.div_add_mod u y1
 rw [← Int.natCast_mul, Nat.mul_comm (u / y1)]
 generalize y1 * (u / y1) = A at h
 generalize u % y1 = R at h
 rw [zm3 (by omega), u64w (by omega) (by omega)]; omega
theorem divk_norm (hi lo y : Nat) (hy : y < 18446744073709551616) (hlo : lo < 18446744073709551616) (hh : hi < y) :
  ∃ s Y u v, s ≤ 63 ∧ (64 - nb y = s ∧ nb y ≤ 64 ∧ 0 < nb y) ∧ y * 2 ^ s = Y ∧ Y < 18446744073709551616 ∧ 9223372036854775808 ≤ Y ∧ shl .u64 (y : Int) (s : Int) = ((Y : Nat) : Int) ∧ u < Y ∧
   Go.bits .or .u64 (shl .u64 (hi : Int) (s : Int)) (shr .u64 (lo : Int) ((64 - s : Nat) : Int)) = ((u : Nat) : Int) ∧ shl .u64 (lo : Int) (s : Int) = ((v : Nat) : Int) ∧
   (hi * 18446744073709551616 + lo) * 2 ^ s = u * 18446744073709551616 + v ∧ v < 18446744073709551616 := by
 have hy0 : 0 < y := by omega
 obtain ⟨s, hs⟩ : ∃ s, 64 - nb y = s := ⟨_, rfl⟩
 have hny : nb y ≤ 64 := (nb_le y 64).2 hy
 have hp1 := nb_pos hy0
 have hs64 : s ≤ 63 := by omega
 have hYlt : y * 2 ^ s < 18446744073709551616 := by
  have h1 : y * 2 ^ s < 2 ^ nb y * 2 ^ s := Nat.mul_lt_mul_of_lt_of_le (nb_lt y) (Nat.le_refl _) (Nat.pow_pos (by decide))
  rw [← Nat.pow_add, show nb y + s = 64 by omega] at h1
  exact h1
 have hYge : 9223372036854775808 ≤ y * 2 ^ s := by
  have h1 : 2 ^ (nb y - 1) * 2 ^ s ≤ y * 2 ^ s := Nat.mul_le_mul_right _ (nb_ge hy0)
  rw [← Nat.pow_add, show nb y - 1 + s = 63 by omega] at h1
  exact h1
 have hshly : shl .u64 (y : Int) (s : Int) = ((y * 2 ^ s : Nat) : Int) := by rw [zu3 y s (by omega), Nat.mod_eq_of_lt hYlt]
 -- the dividend's words, shifted
 have hu : hi * 2 ^ s + lo / 2 ^ (64 - s) < y * 2 ^ s := by
  have h1 : lo / 2 ^ (64 - s) < 2 ^ s := by rw [Nat.div_lt_iff_lt_mul (Nat.pow_pos (by decide)), ← two64 s (by omega)]; exact hlo
  have h2 : (hi + 1) * 2 ^ s ≤ y * 2 ^ s := Nat.mul_le_mul_right _ hh
  rw [Nat.add_mul, Nat.one_mul] at h2; omega
 have hshlh : Go.bits .or .u64 (shl .u64 (hi : Int) (s : Int)) (shr .u64 (lo : Int) ((64 - s : Nat) : Int)) = ((hi * 2 ^ s + lo / 2 ^ (64 - s) : Nat) : Int) := by
  have h1 : lo / 2 ^ (64 - s) < 2 ^ s := by rw [Nat.div_lt_iff_lt_mul (Nat.pow_pos (by decide)), ← two64 s (by omega)]; exact hlo
  have h3 : hi * 2 ^ s < 18446744073709551616 := Nat.lt_trans (Nat.lt_of_le_of_lt (Nat.le_add_right _ _) hu) hYlt
  have h4 := nat_join s (hi * 2 ^ s) (lo / 2 ^ (64 - s)) (Nat.mul_mod_left _ _) h1
  rw [zu3 hi s (by omega), zs3 lo (64 - s) (by omega), Nat.mod_eq_of_lt h3, u64_or_nat _ _ h3 (Nat.lt_of_le_of_lt (Nat.div_le_self _ _) hlo), h4]
 have hshll : shl .u64 (lo : Int) (s : Int) = ((lo * 2 ^ s % 18446744073709551616 : Nat) : Int) := zu3 lo s (by omega)
 have hU : (hi * 18446744073709551616 + lo) * 2 ^ s = (hi * 2 ^ s + lo / 2 ^ (64 - s)) * 18446744073709551616 + lo * 2 ^ s % 18446744073709551616 := by
  have h1 := Nat.div_add_mod (lo * 2 ^ s) 18446744073709551616
  rw [mul_pow_div lo s (by omega)] at h1
  grind
 have hU2 : lo * 2 ^ s % 18446744073709551616 < 18446744073709551616 := Nat.mod_lt _ (by decide)
 exact ⟨s, _, _, _, hs64, ⟨hs, hny, hp1⟩, rfl, hYlt, hYge, hshly, hu, hshlh, hshll, hU, hU2⟩
theorem divk_ev (hi lo y : Nat) (hy : y < 18446744073709551616) (hlo : lo < 18446744073709551616) (hh : hi < y) :
  Ev (fun k => bits_DivK.f k hi lo y) ((((hi * 18446744073709551616 + lo) / y : Nat) : Int), (((hi * 18446744073709551616 + lo) % y : Nat) : Int)) := by
 have a1 : ¬ (y : Int) = 0 := by omega
 have a2 : ¬ (y : Int) ≤ (hi : Int) := by omega
 by_cases h0 : hi = 0
 ·subst h0
  refine Ev.congr (f := fun _ => some ((((0 * 18446744073709551616 + lo) / y : Nat) : Int), (((0 * 18446744073709551616 + lo) % y : Nat) : Int))) (fun k => ?_) (Ev.now _)
  unfold bits_DivK.f
  rw [if_neg a1, if_neg a2, if_pos (by simp), tdiv_word lo y hlo, z92 (Int.natCast_nonneg _), ← Int.natCast_emod, Nat.zero_mul, Nat.zero_add]
 ·obtain ⟨s, Y, u, v, hs64, ⟨hs, hny, hp1⟩, hYY, hYlt, hYge, hshly, hu, hshlh, hshll, hU, hU2⟩ := divk_norm hi lo y hy hlo hh
  have hand : ∀ x : Nat, x < 18446744073709551616 → Go.bits .and .u64 (x : Int) 4294967295 = ((x % 4294967296 : Nat) : Int) := fun x hx => by
   have := u64_and_nat x 4294967295 hx (by decide)
   rw [show ((4294967295 : Nat) : Int) = 4294967295 from rfl] at this
   rw [this, show (4294967295 : Nat) = 2 ^ 32 - 1 by decide, Nat.and_two_pow_sub_one_eq_mod]
  have hYe : Y = Y / 4294967296 * 4294967296 + Y % 4294967296 := by omega
  have hve : v = v / 4294967296 * 4294967296 + v % 4294967296 := by omega
  have hdY : ((Y : Nat) : Int) / 4294967296 = ((Y / 4294967296 : Nat) : Int) := by omega
  have hdv : ((v : Nat) : Int) / 4294967296 = ((v / 4294967296 : Nat) : Int) := by omega
  have hG1 := Gs.first (u := u) (n1 := v / 4294967296) (y1 := Y / 4294967296) (y0 := Y % 4294967296) (by omega) (by omega) (by omega) (by omega) (by omega)
  rw [← hYe] at hG1
  obtain ⟨D1, hD1⟩ : ∃ D, (u * 4294967296 + v / 4294967296) / Y = D := ⟨_, rfl⟩
  have hm1 := Nat.div_add_mod (u * 4294967296 + v / 4294967296) Y
  have hlt1 := Nat.mod_lt (u * 4294967296 + v / 4294967296) (show 0 < Y by omega)
  have hrest1 := rest_wrap hG1 hYe
  rw [hD1] at hG1 hm1 hrest1
  have hD1lt : D1 < 4294967296 := by
   rw [← hD1, Nat.div_lt_iff_lt_mul (by omega)]; omega
  obtain ⟨u2, hm1, hlt1, hrest1⟩ : ∃ u2 : Nat, Y * D1 + u2 = u * 4294967296 + v / 4294967296 ∧ u2 < Y ∧ IntKind.u64.wrap (IntKind.u64.wrap (IntKind.u64.wrap ((u : Int) * 4294967296) + ((v / 4294967296 : Nat) : Int)) - IntKind.u64.wrap ((D1 : Int) * (Y : Int))) = (u2 : Int) := ⟨_, hm1, hlt1, hrest1⟩
  have hrest1 := Q0.mk hrest1
  have hG2 := Gs.first (u := u2) (n1 := v % 4294967296) (y1 := Y / 4294967296) (y0 := Y % 4294967296) (by omega) (by omega) (by omega) (by omega) (by omega)
  rw [← hYe] at hG2
  obtain ⟨D2, hD2⟩ : ∃ D, (u2 * 4294967296 + v % 4294967296) / Y = D := ⟨_, rfl⟩
  have hm2 := Nat.div_add_mod (u2 * 4294967296 + v % 4294967296) Y
  have hlt2 := Nat.mod_lt (u2 * 4294967296 + v % 4294967296) (show 0 < Y by omega)
  rw [hD2] at hG2 hm2
  have hD2lt : D2 < 4294967296 := by
   rw [← hD2, Nat.div_lt_iff_lt_mul (by omega)]; omega
  have hl1 := divk_l1 Y s u2 (v % 4294967296) (Y / 4294967296) (Y % 4294967296) D2 D1 hYe (by omega) hD1lt _ (u2 / (Y / 4294967296)) (u2 % (Y / 4294967296)) (Nat.le_refl _) hG2 hD2lt
  -- the whole
  have htot : (hi * 18446744073709551616 + lo) * 2 ^ s = Y * (D1 * 4294967296 + D2) + (u2 * 4294967296 + v % 4294967296) % Y := by
   rw [hU]
   generalize (u2 * 4294967296 + v % 4294967296) % Y = R at hm2
   have e1 : Y * (D1 * 4294967296 + D2) = Y * D1 * 4294967296 + Y * D2 := by grind
   rw [e1]
   generalize Y * D1 = A1 at hm1
   generalize Y * D2 = A2 at hm2
   omega
  have hps : 0 < 2 ^ s := Nat.pow_pos (by decide)
  have hq : (hi * 18446744073709551616 + lo) / y = D1 * 4294967296 + D2 := by
   have : (hi * 18446744073709551616 + lo) * 2 ^ s / Y = D1 * 4294967296 + D2 := by rw [htot, Nat.mul_add_div (by omega), Nat.div_eq_of_lt hlt2, Nat.add_zero]
   rw [← hYY, Nat.mul_div_mul_right _ _ hps] at this; exact this
  have hr : (hi * 18446744073709551616 + lo) % y = (u2 * 4294967296 + v % 4294967296) % Y / 2 ^ s := by
   have : (hi * 18446744073709551616 + lo) * 2 ^ s % Y = (u2 * 4294967296 + v % 4294967296) % Y := by rw [htot, Nat.mul_add_mod, Nat.mod_mod]
   rw [← this, ← hYY, Nat.mul_mod_mul_right, Nat.mul_div_cancel _ hps]
  rw [hq, hr]
  have hyn : ¬ ((Y / 4294967296 : Nat) : Int) = 0 := by omega
  have w1 := Q0.mk (And.intro (tdiv_word u2 (Y / 4294967296) (by omega)) (mod_word u2 (Y / 4294967296) (by omega)))
  have w2 := Q0.mk (And.intro (tdiv_word u (Y / 4294967296) (by omega)) (mod_word u (Y / 4294967296) (by omega)))
  have hj2 : Ev (fun k => bits_DivK.j2 k Y s ((Y / 4294967296 : Nat) : Int) ((Y % 4294967296 : Nat) : Int) u ((v / 4294967296 : Nat) : Int) ((v % 4294967296 : Nat) : Int) D1) (((D1 * 4294967296 + D2 : Nat) : Int), (((u2 * 4294967296 + v % 4294967296) % Y / 2 ^ s : Nat) : Int)) := by
   refine Ev.step (fun k => ?_) hl1
   rw [bits_DivK.j2, if_neg hyn, hrest1.out, w1.out.1, w1.out.2]
  have hl0 := divk_l0 Y s u (v / 4294967296) (v % 4294967296) (Y / 4294967296) (Y % 4294967296) D1 _ hj2 _ (u / (Y / 4294967296)) (u % (Y / 4294967296)) (Nat.le_refl _) hG1
  have hlz : Ev (fun k => bits_LeadingZeros64.f k (y : Int)) (s : Int) := by
   refine Ev.step (f := fun _ => some (s : Int)) (fun k => ?_) (Ev.now _)
   have E := Q0.mk (show wrap64 (64 - (nb y : Int)) = (s : Int) by rw [w64 (by omega) (by omega)]; omega)
   unfold bits_LeadingZeros64.f
   simp only [bits_Len64.f]
   rw [if_pos (by omega), Option.bind_some, Int.toNat_natCast, bitLen_nb hy, E.out]
  refine Ev.congr (f := fun k => (bits_LeadingZeros64.f k (y : Int)).bind fun t118 => if 0 ≤ (IntKind.u64.wrap (t118)) then (if 0 ≤ (IntKind.u64.wrap (64 - (IntKind.u64.wrap (t118)))) then (if ((shl .u64 (y : Int) (IntKind.u64.wrap (t118))) / 4294967296) = 0 then (none) else (bits_DivK.l0 k (shl .u64 (y : Int) (IntKind.u64.wrap (t118))) (IntKind.u64.wrap (t118)) ((shl .u64 (y : Int) (IntKind.u64.wrap (t118))) / 4294967296) (Go.bits .and .u64 (shl .u64 (y : Int) (IntKind.u64.wrap (t118))) 4294967295) (Go.bits .or .u64 (shl .u64 (hi : Int) (IntKind.u64.wrap (t118))) (shr .u64 (lo : Int) (IntKind.u64.wrap (64 - (IntKind.u64.wrap (t118)))))) ((shl .u64 (lo : Int) (IntKind.u64.wrap (t118))) / 4294967296) (Go.bits .and .u64 (shl .u64 (lo : Int) (IntKind.u64.wrap (t118))) 4294967295) (IntKind.u64.wrap (Int.tdiv (Go.bits .or .u64 (shl .u64 (hi : Int) (IntKind.u64.wrap (t118))) (shr .u64 (lo : Int) (IntKind.u64.wrap (64 - (IntKind.u64.wrap (t118)))))) ((shl .u64 (y : Int) (IntKind.u64.wrap (t118))) / 4294967296))) (IntKind.u64.wrap ((Go.bits .or .u64 (shl .u64 (hi : Int) (IntKind.u64.wrap (t118))) (shr .u64 (lo : Int) (IntKind.u64.wrap (64 - (IntKind.u64.wrap (t118)))))) - (IntKind.u64.wrap ((IntKind.u64.wrap (Int.tdiv (Go.bits .or .u64 (shl .u64 (hi : Int) (IntKind.u64.wrap (t118))) (shr .u64 (lo : Int) (IntKind.u64.wrap (64 - (IntKind.u64.wrap (t118)))))) ((shl .u64 (y : Int) (IntKind.u64.wrap (t118))) / 4294967296))) * ((shl .u64 (y : Int) (IntKind.u64.wrap (t118))) / 4294967296))))))) else (none)) else (none)) (fun k => by unfold bits_DivK.f; rw [if_neg a1, if_neg a2, if_neg (by omega)]) ?_
  refine Ev.bind hlz ?_
  have E := Q0.mk (And.intro (zm3 (x := s) (by omega)) (show IntKind.u64.wrap (64 - (s : Int)) = ((64 - s : Nat) : Int) by rw [u64w (by omega) (by omega)]; omega))
  have gs : (0 : Int) ≤ (s : Int) := by omega
  have gs2 : (0 : Int) ≤ ((64 - s : Nat) : Int) := by omega
  refine Ev.congr (fun k => ?_) hl0
  rw [E.out.1, if_pos gs, E.out.2, if_pos gs2, hshly, hdY, if_neg hyn, hshlh, hshll, hdv, hand Y hYlt, hand v hU2, w2.out.1, w2.out.2]
end Go.Proofs.YtgkdealidnidiaaDoor.Na
namespace Go.Proofs.YtgkdealidnidiaaDoor.Na
open Go.RowKit Go.Proofs.YtgkdealidnidiaaDoorW.PrintWords Go.Proofs.YtgkdealidnidiaaDoorW.PrintLast Go.Proofs.YtgkdealidnidiaaDoorW.PrintMore
attribute [local go_sem] zx0 zd1
def bits_Div64.f (a0 : Int) (a1 : Int) (a2 : Int) : Option (Int × Int) := if (0 ≤ a0 ∧ a0 < a2) ∧ (0 ≤ a1 ∧ a1 < 18446744073709551616) ∧ a2 < 18446744073709551616 then some ((a0 * 18446744073709551616 + a1) / a2, (a0 * 18446744073709551616 + a1) % a2) else none
theorem bits_Div64.calls (a0 : Int) (a1 : Int) (a2 : Int) (r1 : Int) (r2 : Int) (w : World) (h : bits_Div64.f a0 a1 a2 = some (r1, r2)) :
  Calls Tryd.prog 98 #[.int .u64 a0, .int .u64 a1, .int .u64 a2] w fun e w' => e = .returned (.tuple #[.int .u64 r1, .int .u64 r2]) ∧ D0 w w' := by
 unfold bits_Div64.f at h
 split at h
 ·rename_i hc
  obtain ⟨⟨h0, h1⟩, ⟨h2, h3⟩, h4⟩ := hc
  obtain ⟨x, rfl⟩ := Int.eq_ofNat_of_zero_le h0
  obtain ⟨y, rfl⟩ := Int.eq_ofNat_of_zero_le h2
  obtain ⟨z, rfl⟩ := Int.eq_ofNat_of_zero_le (show 0 ≤ a2 by omega)
  obtain ⟨k, hk⟩ := (divk_ev x y z (by omega) (by omega) (by omega)).rounds
  simp only [Option.some.injEq, Prod.mk.injEq] at h
  obtain ⟨rfl, rfl⟩ := h
  exact bits_DivK.calls k x y z _ _ w (by rw [hk]; simp)
 ·exact absurd h (by simp)
def nat_divSmall.l0 : Nat → List Int → Int → List Int → Int → Int → Option (List Int × Int)
 | 0, _, _, _, _, _ => none
 | k + 1, x0, x1, x6, x7, x8 => if x8 ≥ 0 then (if 0 ≤ x8 then (if x8 < (x0.length : Int) then ((bits_Div64.f x7 (rd x0 x8) x1).bind fun bt133 => (if x8 < (x6.length : Int) then (nat_divSmall.l0 k x0 x1 (x6.set (x8 : Int).toNat bt133.1) bt133.2 (wrap64 (x8 - 1))) else (none))) else (none)) else (none)) else (some (x6, x7))
def nat_divSmall.f (k : Nat) (l0 : List Int) (a1 : Int) : Option (List Int × Int) := if 0 ≤ (l0.length : Int) then (if ((l0.length : Int) : Int).toNat ≤ 35184372088832 then (nat_divSmall.l0 k l0 a1 (List.replicate ((l0.length : Int) : Int).toNat 0) 0 (wrap64 ((l0.length : Int) - 1))) else (none)) else (none)
theorem nat_divSmall.calls (k : Nat) (A0 : Option Addr) (c0 : Nat) (l0 : List Int) (a1 : Int) (r1 : List Int) (r2 : Int) (w : World) (hr0 : Kd.C (Kd.int .u64) w A0 l0.length l0) (hc0 : l0.length ≤ c0) (h : nat_divSmall.f k l0 a1 = some (r1, r2)) :
  Calls Tryd.prog 67 #[.slice A0 l0.length c0, .int .u64 a1] w fun e w' => ∃ v0_ : Value, e = .returned (.tuple #[v0_, .int .u64 r2]) ∧ Kd.R (Kd.int .u64) 40 w' w.heap.size (fun _ => True) v0_ r1 ∧ Below w.heap.size w w' := by
 have HR0 := Q0.mk hr0
 have HC0 := Q0.mk hc0
 clear hr0 hc0
 have HB := Q0.mk (Below.refl w.heap.size w)
 have H : (if 0 ≤ (l0.length : Int) then (if ((l0.length : Int) : Int).toNat ≤ 35184372088832 then (nat_divSmall.l0 k l0 a1 (List.replicate ((l0.length : Int) : Int).toNat 0) 0 (wrap64 ((l0.length : Int) - 1))) else (none)) else (none)) = some (r1, r2) := h
 clear h
 by_cases c3 : 0 ≤ (l0.length : Int)
 ·rw [if_pos c3] at H
  have c3b0 := eq_true c3
  have c3b1 : decide (0 ≤ (l0.length : Int)) = true := decide_eq_true c3
  clear c3
  by_cases c4 : ((l0.length : Int) : Int).toNat ≤ 35184372088832
  ·rw [if_pos c4] at H
   have c4b0 := eq_true c4
   have c4b1 : decide (((l0.length : Int) : Int).toNat ≤ 35184372088832) = true := decide_eq_true c4
   clear c4
   obtain ⟨y129, hy129⟩ : ∃ y_ : List Int, y_ = (List.replicate ((l0.length : Int) : Int).toNat 0) := ⟨_, rfl⟩
   replace H : (nat_divSmall.l0 k l0 a1 y129 0 (wrap64 ((l0.length : Int) - 1))) = some (r1, r2) := by first | (rw [hy129]; with_reducible exact H) | (have H2_ := (Option.bind_some _ _).symm.trans H; rw [hy129]; with_reducible exact H2_) | (have H2_ := (Option.bind_some _ _).symm.trans H; with_reducible exact H2_) | with_reducible exact H | (rw [hy129]; exact H) | exact H
   have Ny129 := Q0.mk hy129
   clear hy129
   have H' := Q0.mk H
   clear H
   go_enter Tryd.func67, Tryd.ntmps67
   go_wp2_with (first | ((with_reducible refine gD (N := 11) rfl ?_); refine Kd.zx2 (Kd.int .u64) _ 40 rfl (N := 11) rfl 22 _ _ rfl (l0.length : Int) rfl rfl Tryd.underlying22 (.int .u64 0) 8 zg2 rfl (by decide) (by omega) 0 (ok := fun _ => True) (okp := fun _ => True) rfl (fun _ hk => hk) trivial (of_decide_eq_true (by first | (with_reducible assumption) | assumption)) (Nat.le_trans (Nat.mul_le_mul_right _ (of_decide_eq_true (by first | (with_reducible assumption) | assumption) : (l0.length : Int).toNat ≤ 35184372088832)) (by omega)) (Below.refl _ _) (Nat.le_refl _) ?_; intro v130 w5 ho6 hb hg_ hnew_; clear hg_ hnew_; (first | rw [← Ny129.out] at ho6 | (simp only [Int.reduceToNat] at ho6; rw [← Ny129.out] at ho6)); have q_ := zm (w := w) hb (by repeat (first | (with_reducible first | exact HB.out | apply bA | apply bN | apply b1_) | exact HB.out)); have HO131 := Q0.mk (Kd.zw0 ho6 (bZ q_)); replace HB := Q0.mk (bP q_ hb); clear q_; clear hb ho6))
   go_loopg [7, 8] k (fun kq v7 v8 w' => ∃ (x6_1 : List Int) (x7_1 : Int) (x8_1 : Int), v7 = .int .u64 x7_1 ∧ v8 = .int .i64 x8_1 ∧ Q0 (nat_divSmall.l0 kq l0 a1 x6_1 x7_1 x8_1 = some (r1, r2)) ∧ Q0 (kq ≤ k) ∧ Q0 (Kd.R (Kd.int .u64) 40 w' w.heap.size (fun _ => True) v130 x6_1) ∧ Q0 (Below w.heap.size w w'))
   case atStart => exact ⟨(y129), (0), (wrap64 ((l0.length : Int) - 1)), (by first | rfl | (simp; done) | (simp [*]; done)), (by first | rfl | (simp; done) | (simp [*]; done)), H', ⟨Nat.le_refl _⟩, ⟨by (with_reducible repeat (first | apply Kd.RA_ | apply Kd.RN_ | apply Kd.RD_)); exact HO131.out⟩, ⟨by repeat (first | (with_reducible first | exact HB.out | apply bA | apply bN | apply b1_) | exact HB.out)⟩⟩
   case round =>
    clear H'
    obtain ⟨x6_1, x7_1, x8_1, rfl, rfl, HA, HK1, HO_6, HB⟩ := hrel
    cases gk with
    | zero => exact absurd HA.out (by simp [nat_divSmall.l0])
    | succ k1 =>
     have H := HA.out
     clear HA
     simp only [nat_divSmall.l0] at H
     by_cases c7 : x8_1 ≥ 0
     ·rw [if_pos c7] at H
      have c7b0 : decide (0 ≤ x8_1) = true := decide_eq_true c7
      clear c7
      by_cases c8 : 0 ≤ x8_1
      ·rw [if_pos c8] at H
       have c8b0 : decide (0 ≤ x8_1) = true := decide_eq_true c8
       clear c8
       by_cases c9 : x8_1 < (l0.length : Int)
       ·rw [if_pos c9] at H
        have c9b0 : decide (x8_1 < (l0.length : Int)) = true := decide_eq_true c9
        clear c9
        replace H := Option.bind_eq_some_iff.mp H
        obtain ⟨⟨t133, t134⟩, A100, H⟩ := H
        replace H : (if x8_1 < (x6_1.length : Int) then (nat_divSmall.l0 k1 l0 a1 (x6_1.set (x8_1 : Int).toNat t133) t134 (wrap64 (x8_1 - 1))) else (none)) = some (r1, r2) := H
        have A10 := Q0.mk A100
        clear A100
        by_cases c11 : x8_1 < (x6_1.length : Int)
        ·rw [if_pos c11] at H
         have c11b0 : decide (x8_1 < (x6_1.length : Int)) = true := decide_eq_true c11
         clear c11
         obtain ⟨y135, hy135⟩ : ∃ y_ : List Int, y_ = (x6_1.set (x8_1 : Int).toNat t133) := ⟨_, rfl⟩
         replace H : (nat_divSmall.l0 k1 l0 a1 y135 t134 (wrap64 (x8_1 - 1))) = some (r1, r2) := by first | (rw [hy135]; with_reducible exact H) | (have H2_ := (Option.bind_some _ _).symm.trans H; rw [hy135]; with_reducible exact H2_) | (have H2_ := (Option.bind_some _ _).symm.trans H; with_reducible exact H2_) | with_reducible exact H | (rw [hy135]; exact H) | exact H
         have Ny135 := Q0.mk hy135
         clear hy135
         have H' := Q0.mk H
         clear H
         have p132 : 0 ≤ (x8_1 : Int) := of_decide_eq_true (by first | (with_reducible assumption) | assumption)
         have q132 : x8_1 < (l0.length : Int) := of_decide_eq_true (by first | (with_reducible assumption) | assumption)
         obtain ⟨ad132, e132, hx132_0⟩ := Kd.zk HR0.out x8_1 p132 q132
         cases e132
         replace hx132_0 := (HB.out.cell (World.block_lt_of_cell? w _ hx132_0)).trans hx132_0
         replace p132 := eq_true p132
         replace q132 := eq_true q132
         go_wp2_with (first | ((with_reducible refine gC (f := 98) rfl ?_); refine zx (some 28) rfl rfl Tryd.func98 (by kernel_rfl) rfl #[.int .u64 x7_1, .int .u64 (rd l0 x8_1), .int .u64 a1] rfl (by (try simp only [List.map_toArray, List.map_cons, List.map_nil]); first | done | rfl | (simp only [List.length_drop, List.length_take]; rfl)) ?_; (with_reducible refine (bits_Div64.calls x7_1 (rd l0 x8_1) a1 t133 t134 _ A10.out).mono ?_); rintro e w' ⟨rfl, ⟨nd, rfl⟩⟩; refine ⟨_, rfl, ?_⟩; (try (rw [zl1 wr]; generalize hq_ : World.drewN wr _ = wr; have n0_ : Q0 (Kd.R (Kd.int .u64) 40 wr w.heap.size (fun _ => True) v130 x6_1) := ⟨by rw [← hq_]; exact (by (with_reducible repeat (first | apply Kd.RA_ | apply Kd.RN_ | apply Kd.RD_)); exact HO_6.out)⟩; have n1_ : Q0 (Below w.heap.size w wr) := ⟨by rw [← hq_]; exact (by repeat (first | (with_reducible first | exact HB.out | apply bA | apply bN | apply b1_) | exact HB.out))⟩; clear HO_6 HB hq_; have HO_6 := n0_; have HB := n1_; clear n0_ n1_)); have p12 : 0 ≤ (x8_1 : Int) := of_decide_eq_true (by first | (with_reducible assumption) | assumption); have q12 : (x8_1 : Int) < ((x6_1.length : Int) : Int) := of_decide_eq_true (by first | (with_reducible assumption) | assumption); obtain ⟨go12, co12, eo12, gb12, gl12, cl12, HG12⟩ := Kd.zi2 HO_6.out (by omega); (first | cases eo12 | (injection eo12 with ea_ en_ ec_; (first | subst ea_ | (injection ea_ with ea_; subst ea_)); subst ec_; clear en_)); have GB12 := Q0.mk gb12; have GG12 := Q0.mk HG12; clear gb12 gl12 HG12; obtain ⟨hx12_0, hf12_0⟩ := Kd.z81 0 HO_6.out (x8_1 : Int) p12 q12; replace p12 := eq_true p12; replace q12 := eq_true q12; obtain ⟨hy13_, hz13_⟩ := Kd.z81 0 HO_6.out (x8_1 : Int) (of_decide_eq_true (by first | (with_reducible assumption) | assumption)) (of_decide_eq_true (by first | (with_reducible assumption) | assumption)); have HP13 := Kd.zo1 HO_6.out (x8_1 : Int) t133) | ((with_reducible refine zq0 (t := 40) (p := 31) rfl ?_); refine zi0 (t := 40) (p := 31) (v := ?vo_w14) (w1 := (wr.setCell ⟨go12, (x8_1 : Int).toNat, none⟩ (.int .u64 t133))) ?hg ?ho ?hn ?hr ?_; (case ho => rfl); (case hg => rfl); (case hn => rfl); (case hr => first | (go_simp; done) | (go_simp; rfl)); intro w14 hw; have hg : wr.grownBy w14 (some go12) := (by rw [hw]; exact HP13.2); have hp_ : Kd.R (Kd.int .u64) 40 w14 w.heap.size (fun _ => True) (.slice (some ⟨go12, 0, none⟩) x6_1.length co12) y135 := (by rw [hw, Ny135.out]; exact HP13.1); clear HP13; replace HO_6 := Q0.mk (hp_); replace HB := Q0.mk ((by rw [hw]; exact bS (HB.out) GB12.out : Below w.heap.size w w14)); clear hg hw hp_))
         go_roundg k1
         case measure => have := HK1.out; omega
         case rel => exact ⟨(y135), (t134), (wrap64 (x8_1 - 1)), (by first | rfl | (simp; done) | (simp [*]; done)), (by first | rfl | (simp; done) | (simp [*]; done)), H', ⟨by have := HK1.out; omega⟩, ⟨by (with_reducible repeat (first | apply Kd.RA_ | apply Kd.RN_ | apply Kd.RD_)); exact HO_6.out⟩, ⟨by repeat (first | (with_reducible first | exact HB.out | apply bA | apply bN | apply b1_) | exact HB.out)⟩⟩
        ·rw [if_neg c11] at H
         exact absurd H (by simp)
       ·rw [if_neg c9] at H
        exact absurd H (by simp)
      ·rw [if_neg c8] at H
       exact absurd H (by simp)
     ·rw [if_neg c7] at H
      have c7b0 : decide (0 ≤ x8_1) = false := decide_eq_false c7
      clear c7
      simp only [Option.some.injEq, Prod.mk.injEq] at H
      obtain ⟨rfl, rfl⟩ := H
      go_wp2
      go_ret2
      exact ⟨_, by first | rfl | (simp [eN, eS] <;> rfl) | (simp [*, eN, eS] <;> rfl), by (with_reducible repeat (first | apply Kd.RA_ | apply Kd.RN_ | apply Kd.RD_)); exact HO_6.out, by repeat (first | (with_reducible first | exact HB.out | apply bA | apply bN | apply b1_) | exact HB.out)⟩
  ·rw [if_neg c4] at H
   exact absurd H (by simp)
 ·rw [if_neg c3] at H
  exact absurd H (by simp)
mutual
def nat_guess.l0 : Nat → Int → Int → Int → Int → Int → Option (Int)
 | 0, _, _, _, _, _ => none
 | k + 1, x2, x3, x4, x11, x12 => (bits_Mul64.f x11 x4).bind fun bt432 => (if bt432.1 < x12 then (nat_guess.j1 k x2 x3 x4 x11 x12 true) else (if bt432.1 = x12 then (nat_guess.j1 k x2 x3 x4 x11 x12 (decide (bt432.2 ≤ x2))) else (nat_guess.j1 k x2 x3 x4 x11 x12 false)))
def nat_guess.j1 : Nat → Int → Int → Int → Int → Int → Bool → Option (Int)
 | 0, _, _, _, _, _, _ => none
 | k + 1, x2, x3, x4, x11, x12, x43 => if x43 = true then (some x11) else (if (IntKind.u64.wrap (x12 + x3)) < x3 then (some (IntKind.u64.wrap (x11 - 1))) else (nat_guess.l0 k x2 x3 x4 (IntKind.u64.wrap (x11 - 1)) (IntKind.u64.wrap (x12 + x3))))
end
def nat_guess.f (k : Nat) (a0 : Int) (a1 : Int) (a2 : Int) (a3 : Int) (a4 : Int) : Option (Int) := if a0 ≥ a3 then (some 18446744073709551615) else ((bits_Div64.f a0 a1 a3).bind fun bt430 => (nat_guess.l0 k a2 a3 a4 bt430.1 bt430.2))
theorem nat_guess.calls (k : Nat) (a0 : Int) (a1 : Int) (a2 : Int) (a3 : Int) (a4 : Int) (r : Int) (w : World) (h : nat_guess.f k a0 a1 a2 a3 a4 = some r) :
  Calls Tryd.prog 107 #[.int .u64 a0, .int .u64 a1, .int .u64 a2, .int .u64 a3, .int .u64 a4] w fun e w' => e = .returned (.int .u64 r) ∧ D0 w w' := by
 have H : (if a0 ≥ a3 then (some 18446744073709551615) else ((bits_Div64.f a0 a1 a3).bind fun bt430 => (nat_guess.l0 k a2 a3 a4 bt430.1 bt430.2))) = some r := h
 clear h
 by_cases c6 : a0 ≥ a3
 ·rw [if_pos c6] at H
  have c6b0 : decide (a3 ≤ a0) = true := decide_eq_true c6
  clear c6
  obtain rfl := Option.some.inj H
  go_enter Tryd.func107, Tryd.ntmps107
  go_wp2
  go_ret
  exact ⟨by first | rfl | (simp; done) | (simp [*]; done), by repeat (first | exact D0.refl _ | apply D0.step)⟩
 ·rw [if_neg c6] at H
  have c6b0 : decide (a3 ≤ a0) = false := decide_eq_false c6
  clear c6
  replace H := Option.bind_eq_some_iff.mp H
  obtain ⟨⟨t430, t431⟩, A70, H⟩ := H
  replace H : (nat_guess.l0 k a2 a3 a4 t430 t431) = some r := H
  have A7 := Q0.mk A70
  clear A70
  have H' := Q0.mk H
  clear H
  go_enter Tryd.func107, Tryd.ntmps107
  go_wp2_with (first | ((with_reducible refine gC (f := 98) rfl ?_); refine zx (some 22) rfl rfl Tryd.func98 (by kernel_rfl) rfl #[.int .u64 a0, .int .u64 a1, .int .u64 a3] rfl (by (try simp only [List.map_toArray, List.map_cons, List.map_nil]); first | done | rfl | (simp only [List.length_drop, List.length_take]; rfl)) ?_; (with_reducible refine (bits_Div64.calls a0 a1 a3 t430 t431 _ A7.out).mono ?_); rintro e w' ⟨rfl, ⟨nd, rfl⟩⟩; refine ⟨_, rfl, ?_⟩))
  go_loopg [11, 12] k (fun kq v11 v12 w' => ∃ (x11_1 : Int) (x12_1 : Int), v11 = .int .u64 x11_1 ∧ v12 = .int .u64 x12_1 ∧ Q0 (nat_guess.l0 kq a2 a3 a4 x11_1 x12_1 = some r) ∧ Q0 (kq ≤ k) ∧ D0 w w')
  case atStart => exact ⟨(t430), (t431), (by first | rfl | (simp; done) | (simp [*]; done)), (by first | rfl | (simp; done) | (simp [*]; done)), H', ⟨Nat.le_refl _⟩, by repeat (first | exact D0.refl _ | apply D0.step)⟩
  case round =>
   clear H'
   obtain ⟨x11_1, x12_1, rfl, rfl, HA, HK1, ⟨m1, rfl⟩⟩ := hrel
   cases gk with
   | zero => exact absurd HA.out (by simp [nat_guess.l0])
   | succ k1 =>
    have H := HA.out
    clear HA
    simp only [nat_guess.l0] at H
    replace H := Option.bind_eq_some_iff.mp H
    obtain ⟨⟨t432, t433⟩, A80, H⟩ := H
    replace H : (if t432 < x12_1 then (nat_guess.j1 k1 a2 a3 a4 x11_1 x12_1 true) else (if t432 = x12_1 then (nat_guess.j1 k1 a2 a3 a4 x11_1 x12_1 (decide (t433 ≤ a2))) else (nat_guess.j1 k1 a2 a3 a4 x11_1 x12_1 false))) = some r := H
    have A8 := Q0.mk A80
    clear A80
    have HC9 := Q0.mk H
    clear H
    go_upto_region 5 with (first | ((with_reducible refine gC (f := 81) rfl ?_); refine zx (some 28) rfl rfl Tryd.func81 (by kernel_rfl) rfl #[.int .u64 x11_1, .int .u64 a4] rfl (by (try simp only [List.map_toArray, List.map_cons, List.map_nil]); first | done | rfl | (simp only [List.length_drop, List.length_take]; rfl)) ?_; (with_reducible refine (bits_Mul64.calls x11_1 a4 t432 t433 _ A8.out).mono ?_); rintro e w' ⟨rfl, ⟨nd, rfl⟩⟩; refine ⟨_, rfl, ?_⟩))
    (try simp only [Act.put, s2_, s0_, s1_])
    go_cut [43] (fun v43 wc => ∃ (kq : Nat) (x43_8 : Bool), v43 = .bool x43_8 ∧ Q0 (nat_guess.j1 kq a2 a3 a4 x11_1 x12_1 x43_8 = some r) ∧ Q0 (kq ≤ k1) ∧ D0 w wc)
    case first =>
     have H := HC9.out
     clear HC9
     by_cases c10 : t432 < x12_1
     ·rw [if_pos c10] at H
      have c10b0 : decide (t432 < x12_1) = true := decide_eq_true c10
      clear c10
      (first | rw [c10b0] | (simp only [iw, jw]; rw [c10b0]) | skip)
      have H' := Q0.mk H
      clear H
      go_wp2
      go_meet
      case rel => exact ⟨_, (true), (by first | rfl | (simp; done) | (simp [*]; done)), H', ⟨by have := HK1.out; first | omega | exact Nat.le_refl _⟩, by repeat (first | exact D0.refl _ | apply D0.step)⟩
     ·rw [if_neg c10] at H
      have c10b0 : decide (t432 < x12_1) = false := decide_eq_false c10
      clear c10
      (first | rw [c10b0] | (simp only [iw, jw]; rw [c10b0]) | skip)
      by_cases c11 : t432 = x12_1
      ·rw [if_pos c11] at H
       have c11b0 : (t432 == x12_1) = true := beq_iff_eq.mpr c11
       have c11b1 : (t432 != x12_1) = false := bne_eq_false_iff_eq.mpr c11
       clear c11
       have H' := Q0.mk H
       clear H
       go_wp2
       go_meet
       case rel => exact ⟨_, (decide (t433 ≤ a2)), (by first | rfl | (simp; done) | (simp [*]; done)), H', ⟨by have := HK1.out; first | omega | exact Nat.le_refl _⟩, by repeat (first | exact D0.refl _ | apply D0.step)⟩
      ·rw [if_neg c11] at H
       have c11b0 : (t432 == x12_1) = false := beq_eq_false_iff_ne.mpr c11
       have c11b1 : (t432 != x12_1) = true := bne_iff_ne.mpr c11
       have H' := Q0.mk H
       clear H
       go_wp2
       go_meet
       case rel => exact ⟨_, (false), (by first | rfl | (simp; done) | (simp [*]; done)), H', ⟨by have := HK1.out; first | omega | exact Nat.le_refl _⟩, by repeat (first | exact D0.refl _ | apply D0.step)⟩
    case rest =>
     clear HC9
     obtain ⟨kq, x43_8, rfl, HA, HJ8, ⟨mc8, rfl⟩⟩ := hcut
     cases kq with
     | zero => exact absurd HA.out (by simp [nat_guess.j1])
     | succ kj8 =>
      have H := HA.out
      clear HA
      simp only [nat_guess.j1] at H
      by_cases c12 : x43_8 = true
      ·subst c12
       have H1 : (some x11_1) = some r := by rw [if_pos rfl] at H; exact H
       clear H
       have H := H1
       clear H1
       obtain rfl := Option.some.inj H
       go_wp2
       go_ret
       exact ⟨by first | rfl | (simp; done) | (simp [*]; done), by repeat (first | exact D0.refl _ | apply D0.step)⟩
      ·replace c12 := Bool.eq_false_iff.mpr c12
       subst c12
       have H1 : (if (IntKind.u64.wrap (x12_1 + a3)) < a3 then (some (IntKind.u64.wrap (x11_1 - 1))) else (nat_guess.l0 kj8 a2 a3 a4 (IntKind.u64.wrap (x11_1 - 1)) (IntKind.u64.wrap (x12_1 + a3)))) = some r := by rw [if_neg (show ¬ (false = true) by decide)] at H; exact H
       clear H
       have H := H1
       clear H1
       by_cases c13 : (IntKind.u64.wrap (x12_1 + a3)) < a3
       ·rw [if_pos c13] at H
        have c13b0 : decide ((IntKind.u64.wrap (x12_1 + a3)) < a3) = true := decide_eq_true c13
        clear c13
        obtain rfl := Option.some.inj H
        go_wp2
        go_ret
        exact ⟨by first | rfl | (simp; done) | (simp [*]; done), by repeat (first | exact D0.refl _ | apply D0.step)⟩
       ·rw [if_neg c13] at H
        have c13b0 : decide ((IntKind.u64.wrap (x12_1 + a3)) < a3) = false := decide_eq_false c13
        clear c13
        have H' := Q0.mk H
        clear H
        go_wp2
        go_roundg kj8
        case measure => have := HK1.out; have := HJ8.out; omega
        case rel => exact ⟨(IntKind.u64.wrap (x11_1 - 1)), (IntKind.u64.wrap (x12_1 + a3)), (by first | rfl | (simp; done) | (simp [*]; done)), (by first | rfl | (simp; done) | (simp [*]; done)), H', ⟨by have := HK1.out; have := HJ8.out; omega⟩, by repeat (first | exact D0.refl _ | apply D0.step)⟩
mutual
def nat_takeAway.l0 : Nat → List Int → List Int → Int → Int → Int → Int → Int → Option (Int × List Int)
 | 0, _, _, _, _, _, _, _ => none
 | k + 1, x0, x1, x2, x7, x8, x16, x17 => if x17 < x16 then (if 0 ≤ x17 then (if x17 < (x1.length : Int) then ((bits_Mul64.f x2 (rd x1 x17)).bind fun bt435 => ((bits_Add64.f bt435.2 x8 0).bind fun bt437 => (if x17 < (x0.length : Int) then ((bits_Sub64.f (rd x0 x17) bt437.1 x7).bind fun bt440 => (nat_takeAway.l0 k (x0.set (x17 : Int).toNat bt440.1) x1 x2 bt440.2 (IntKind.u64.wrap (bt435.1 + bt437.2)) x16 (wrap64 (x17 + 1)))) else (none)))) else (none)) else (none)) else (if 0 ≤ (x1.length : Int) then (if (x1.length : Int) < (x0.length : Int) then ((bits_Sub64.f (rd x0 (x1.length : Int)) x8 x7).bind fun bt444 => (nat_takeAway.l1 k (x0.set ((x1.length : Int) : Int).toNat bt444.1) x1 x2 bt444.2)) else (none)) else (none))
def nat_takeAway.l1 : Nat → List Int → List Int → Int → Int → Option (Int × List Int)
 | 0, _, _, _, _ => none
 | k + 1, x0, x1, x2, x7 => if x7 > 0 then (nat_takeAway.l2 k x0 x1 (IntKind.u64.wrap (x2 - 1)) x7 0 (x1.length : Int) 0) else (some (x2, x0))
def nat_takeAway.l2 : Nat → List Int → List Int → Int → Int → Int → Int → Int → Option (Int × List Int)
 | 0, _, _, _, _, _, _, _ => none
 | k + 1, x0, x1, x2, x7, x13, x72, x73 => if x73 < x72 then (if 0 ≤ x73 then (if x73 < (x0.length : Int) then (if x73 < (x1.length : Int) then ((bits_Add64.f (rd x0 x73) (rd x1 x73) x13).bind fun bt449 => (nat_takeAway.l2 k (x0.set (x73 : Int).toNat bt449.1) x1 x2 x7 bt449.2 x72 (wrap64 (x73 + 1)))) else (none)) else (none)) else (none)) else (if 0 ≤ (x1.length : Int) then (if (x1.length : Int) < (x0.length : Int) then ((bits_Add64.f (rd x0 (x1.length : Int)) 0 x13).bind fun bt453 => (nat_takeAway.l1 k (x0.set ((x1.length : Int) : Int).toNat bt453.1) x1 x2 (IntKind.u64.wrap (x7 - bt453.2)))) else (none)) else (none))
end
def nat_takeAway.f (k : Nat) (l0 : List Int) (l1 : List Int) (a2 : Int) : Option (Int × List Int) := nat_takeAway.l0 k l0 l1 a2 0 0 (l1.length : Int) 0
def nat_takeAway.T17 : Bool × List (List Nat × List Nat) := (true, [([], []), ([], []), ([], []), ([], []), ([2, 3], [2, 3]), ([4], [4]), ([], []), ([], []), ([6, 7], [6, 7]), ([8], [8]), ([], []), ([5, 9, 10], [5, 9, 10]), ([11], [11]), ([12], [12]), ([12], [12]), ([0, 1, 0, 1, 2, 3, 4, 5, 6, 7, 8, 9, 10, 11, 12, 13], [0, 1]), ([15, 13, 11, 0, 1, 2, 3, 4, 5, 6, 7, 8, 9, 10, 11, 12, 13], [13, 15]), ([14, 16, 0, 1, 2, 3, 4, 5, 6, 7, 8, 9, 10, 11, 12, 13, 14, 15, 16], [10, 14])])
def nat_takeAway.B17 : List Nat := [0, 0, 0, 0, 12, 28, 0, 0, 192, 448, 0, 2044, 4092, 8188, 8188, 16383, 49151, 131071]
theorem nat_takeAway.tab17 : zo2 .any (opsOf Tryd.f108 17) = nat_takeAway.T17 := by kernel_rfl
theorem nat_takeAway.bits17 : zf2 nat_takeAway.T17.2 nat_takeAway.B17 = true := by kernel_rfl
end Go.Proofs.YtgkdealidnidiaaDoor.Na
namespace Go.Proofs.YtgkdealidnidiaaDoor.Na
open Go.RowKit Go.Proofs.YtgkdealidnidiaaDoorW.PrintWords Go.Proofs.YtgkdealidnidiaaDoorW.PrintLast Go.Proofs.YtgkdealidnidiaaDoorW.PrintMore Go.Proofs.YtgkdealidnidiaaDoor.Dg
theorem div_ex {a0 a1 y : Int} (h0 : 0 ≤ a0) (h1 : a0 < y) (h2 : 0 ≤ a1) (h3 : a1 < 18446744073709551616) (h4 : y < 18446744073709551616) :
  ∃ q r, bits_Div64.f a0 a1 y = some (q, r) ∧ q * y + r = a0 * 18446744073709551616 + a1 ∧ 0 ≤ q ∧ q < 18446744073709551616 ∧ 0 ≤ r ∧ r < y := by
 have e := Int.emod_add_mul_ediv (a0 * 18446744073709551616 + a1) y
 have hr := zk1 (s := a0 * 18446744073709551616 + a1) (b := y) (by omega)
 have hq0 : 0 ≤ (a0 * 18446744073709551616 + a1) / y := Int.ediv_nonneg (by omega) (by omega)
 refine ⟨_, _, by unfold bits_Div64.f; rw [if_pos ⟨⟨h0, h1⟩, ⟨h2, h3⟩, h4⟩], by rw [Int.mul_comm]; omega, hq0, ?_, hr.1, hr.2⟩
 refine Int.ediv_lt_of_lt_mul (by omega) ?_
 have : (a0 + 1) * 18446744073709551616 ≤ y * 18446744073709551616 := Int.mul_le_mul_of_nonneg_right (by omega) (by decide)
 rw [Int.mul_comm 18446744073709551616 y]; omega
theorem drop_set_lt (o : List Int) (i n : Nat) (y : Int) (h : i < n) : (o.set i y).drop n = o.drop n := by
 rw [List.drop_set]; rw [if_pos h]
theorem divSmall_loop (l : List Int) (y : Int) (hR : R BW l) (hy0 : 0 < y) (hy : y < 18446744073709551616) (hl : l.length ≤ 1000000000) : ∀ (n : Nat) (o : List Int) (r : Int), n ≤ l.length → o.length = l.length → R BW o → 0 ≤ r → r < y → V BW (l.drop n) = V BW (o.drop n) * y + r →
  ∃ q r', Ev (fun k => nat_divSmall.l0 k l y o r ((n : Int) - 1)) (q, r') ∧ R BW q ∧ q.length = l.length ∧ V BW l = V BW q * y + r' ∧ 0 ≤ r' ∧ r' < y
 | 0, o, r, hn, ho, hRo, hr0, hr1, hV => by
  refine ⟨o, r, Ev.step (f := fun _ => some (o, r)) (fun k => by rw [nat_divSmall.l0, if_neg (by omega)]) (Ev.now _), hRo, ho, by simpa using hV, hr0, hr1⟩
 | n + 1, o, r, hn, ho, hRo, hr0, hr1, hV => by
  have ra := zu0 hR (by decide) n
  rw [BWi] at ra
  have hrd := ze0 l n
  have hVl := zh3 BW l n (by omega)
  generalize l.getD n 0 = x at ra hrd hVl
  obtain ⟨q, r', eq, hqr, hq0, hq1, hr0', hr1'⟩ := div_ex hr0 hr1 ra.1 ra.2 hy
  obtain ⟨Q, R', hE, h⟩ := divSmall_loop l y hR hy0 hy hl n (o.set n q) r' (by omega) (by rw [List.length_set]; exact ho) (R_set hRo n hq0 (by rw [BWi]; exact hq1)) hr0' hr1' (by
   rw [hVl, zh3 BW (o.set n q) n (by rw [List.length_set]; omega), drop_set_lt _ _ _ _ (by omega), hV, List.getD_eq_getElem?_getD, List.getElem?_set_self (by omega), BWi]
   simp only [Option.getD_some]
   rw [BWi] at hV
   generalize V 18446744073709551616 (o.drop (n + 1)) = A
   grind)
  refine ⟨Q, R', Ev.step (fun k => ?_) hE, h⟩
  have g1 : ((n + 1 : Nat) : Int) - 1 = (n : Int) := by omega
  have g2 : (n : Int) ≥ 0 := by omega
  have g3 : (n : Int) < (l.length : Int) := by omega
  have g4 : (n : Int) < (o.length : Int) := by omega
  have E := Q0.mk (show wrap64 ((n : Int) - 1) = (n : Int) - 1 from w64 (by omega) (by omega))
  rw [g1, nat_divSmall.l0, if_pos g2, if_pos g2, if_pos g3, hrd, eq, Option.bind_some, if_pos g4, Int.toNat_natCast, E.out]
theorem divSmall_ev (x y : Nat) (hy0 : 0 < y) (hy : y < BW) (hl : (wd BW x).length ≤ 1000000) : ∃ q, Ev (fun k => nat_divSmall.f k (wd BW x) y) (q, ((x % y : Nat) : Int)) ∧ R BW q ∧ q.length = (wd BW x).length ∧ V BW q = ((x / y : Nat) : Int) := by
 have hBW := BWi
 obtain ⟨q, r', hE, h1, h2, h3, h4, h5⟩ := divSmall_loop (wd BW x) y (zd2 (by decide) x) (by omega) (by omega) (by omega) (wd BW x).length (List.replicate (wd BW x).length 0) 0 (Nat.le_refl _) (by simp) (zd4 (by decide) _) (by omega) (by omega) (by simp [V])
 rw [zn2 (by decide)] at h3
 have hd := digit_of (U := (x : Int)) (V := (y : Int)) (q := V BW q) (by omega) (by omega) (by omega)
 have hr : r' = ((x % y : Nat) : Int) := by rw [Int.natCast_emod, ← hd.2]; omega
 refine ⟨q, ?_, h1, h2, by rw [Int.natCast_ediv]; exact hd.1⟩
 rw [← hr]
 refine Ev.congr (fun k => ?_) hE
 have E := Q0.mk (show wrap64 (((wd BW x).length : Int) - 1) = ((wd BW x).length : Int) - 1 from w64 (by omega) (by omega))
 unfold nat_divSmall.f
 rw [if_pos (by omega), Int.toNat_natCast, if_pos (by omega), E.out]
def NotBelow (u2 u1 u0 v1 v0 q : Int) : Prop := ∀ (P U Vv U' V' d : Int), 0 < P → U = ((u2 * 18446744073709551616 + u1) * 18446744073709551616 + u0) * P + U' → Vv = (v1 * 18446744073709551616 + v0) * P + V' → U' < P → 0 ≤ V' → 0 ≤ d → d * Vv ≤ U → d < 18446744073709551616 → d ≤ q
theorem guess_loop (u2 u1 u0 v1 v0 : Int) (hu0 : 0 ≤ u0) (hu0b : u0 < 18446744073709551616) (hv1 : 0 < v1) (hv1b : v1 < 18446744073709551616) (hv0 : 0 ≤ v0) (hv0b : v0 < 18446744073709551616) :
  ∀ (n : Nat) (q r : Int), q ≤ n → 0 ≤ q → q < 18446744073709551616 → 0 ≤ r → r < 18446744073709551616 → q * v1 + r = u2 * 18446744073709551616 + u1 → NotBelow u2 u1 u0 v1 v0 q →
   ∃ g, Ev (fun k => nat_guess.l0 k u0 v1 v0 q r) g ∧ 0 ≤ g ∧ g < 18446744073709551616 ∧ NotBelow u2 u1 u0 v1 v0 g := by
 intro n
 induction n with
 | zero =>
  intro q r hn hq0 hq1 hr0 hr1 hqr hN
  obtain rfl : q = 0 := by omega
  obtain ⟨hi, lo, em, em2, lo0, lo1, hi0⟩ := mul_ex (x := 0) (y := v0) (by decide) (by decide) hv0 hv0b
  have : hi = 0 ∧ lo = 0 := by rw [Int.zero_mul] at em2; omega
  obtain ⟨rfl, rfl⟩ := this
  refine ⟨0, ?_, by decide, by decide, hN⟩
  have hj : ∀ k, nat_guess.j1 (k + 1) u0 v1 v0 0 r true = some 0 := fun k => by rw [nat_guess.j1, if_pos rfl]
  refine Ev.step (f := fun k => nat_guess.j1 k u0 v1 v0 0 r true) (fun k => ?_) (Ev.step (f := fun _ => some 0) hj (Ev.now _))
  rw [nat_guess.l0, em, Option.bind_some]
  by_cases h : 0 < r
  ·rw [if_pos h]
  ·rw [if_neg h, if_pos (by omega), decide_eq_true (by omega)]
 | succ n ih =>
  intro q r hn hq0 hq1 hr0 hr1 hqr hN
  obtain ⟨hi, lo, em, em2, lo0, lo1, hi0⟩ := mul_ex hq0 hq1 hv0 hv0b
  by_cases hok : q * v0 ≤ r * 18446744073709551616 + u0
  ·refine ⟨q, ?_, hq0, hq1, hN⟩
   have hj : ∀ k, nat_guess.j1 (k + 1) u0 v1 v0 q r true = some q := fun k => by rw [nat_guess.j1, if_pos rfl]
   refine Ev.step (f := fun k => nat_guess.j1 k u0 v1 v0 q r true) (fun k => ?_) (Ev.step (f := fun _ => some q) hj (Ev.now _))
   rw [nat_guess.l0, em, Option.bind_some]
   by_cases h : hi < r
   ·rw [if_pos h]
   ·rw [if_neg h, if_pos (by omega), decide_eq_true (by omega)]
  ·have hN2 : NotBelow u2 u1 u0 v1 v0 (q - 1) := by
    intro P U Vv U' V' d hP hU hV hU' hV' hd0 hd hdb
    have hVn : 0 ≤ Vv := by
     rw [hV]
     exact Int.add_nonneg (Int.mul_nonneg (by omega) (by omega)) hV'
    exact guess_lo (B := 18446744073709551616) hP hU hV hU' hV' hq0 hqr (by omega) hVn hd (hN P U Vv U' V' d hP hU hV hU' hV' hd0 hd hdb)
   have hq : 1 ≤ q := by
    rcases Int.lt_or_le q 1 with h | h
    ·have : q = 0 := by omega
     subst this
     rw [Int.zero_mul] at hok
     have := Int.mul_nonneg hr0 (show (0 : Int) ≤ 18446744073709551616 by decide)
     omega
    ·exact h
   have hstep : ∀ k, nat_guess.l0 (k + 1) u0 v1 v0 q r = nat_guess.j1 k u0 v1 v0 q r false := by
    intro k
    rw [nat_guess.l0, em, Option.bind_some]
    rw [if_neg (by omega)]
    by_cases h : hi = r
    ·rw [if_pos h, decide_eq_false (by omega)]
    ·rw [if_neg h]
   have E1 := Q0.mk (show IntKind.u64.wrap (q - 1) = q - 1 from u64w (by omega) (by omega))
   by_cases hov : r + v1 < 18446744073709551616
   ·have E := Q0.mk (show IntKind.u64.wrap (r + v1) = r + v1 from u64w (by omega) (by omega))
    obtain ⟨g, hE, hg⟩ := ih (q - 1) (r + v1) (by omega) (by omega) (by omega) (by omega) hov (by rw [Int.sub_mul, Int.one_mul]; omega) hN2
    refine ⟨g, Ev.step hstep (Ev.step (fun k => ?_) hE), hg⟩
    have gg : ¬ r + v1 < v1 := by omega
    rw [nat_guess.j1, if_neg (by decide), E.out, if_neg gg, E1.out]
   ·have E := Q0.mk (show IntKind.u64.wrap (r + v1) = r + v1 - 18446744073709551616 by rw [IntKind.wrap_u64]; omega)
    refine ⟨q - 1, Ev.step hstep (Ev.step (f := fun _ => some (q - 1)) (fun k => ?_) (Ev.now _)), by omega, by omega, hN2⟩
    have gg : r + v1 - 18446744073709551616 < v1 := by omega
    rw [nat_guess.j1, if_neg (by decide), E.out, if_pos gg, E1.out]
theorem guess_ev (u2 u1 u0 v1 v0 : Int) (hu2 : 0 ≤ u2) (hu1 : 0 ≤ u1) (hu1b : u1 < 18446744073709551616) (hu0 : 0 ≤ u0) (hu0b : u0 < 18446744073709551616) (hv1 : 0 < v1) (hv1b : v1 < 18446744073709551616) (hv0 : 0 ≤ v0) (hv0b : v0 < 18446744073709551616) :
  ∃ g, Ev (fun k => nat_guess.f k u2 u1 u0 v1 v0) g ∧ 0 ≤ g ∧ g < 18446744073709551616 ∧ NotBelow u2 u1 u0 v1 v0 g := by
 by_cases h : u2 ≥ v1
 ·refine ⟨18446744073709551615, Ev.congr (f := fun _ => some 18446744073709551615) (fun k => by unfold nat_guess.f; rw [if_pos h]) (Ev.now _), by decide, by decide, ?_⟩
  intro P U Vv U' V' d _ _ _ _ _ _ _ hdb
  omega
 ·obtain ⟨q, r, ed, hqr, hq0, hq1, hr0, hr1⟩ := div_ex hu2 (by omega) hu1 hu1b hv1b
  have hN : NotBelow u2 u1 u0 v1 v0 q := by
   intro P U Vv U' V' d hP hU hV hU' hV' hd0 hd hdb
   have := guess_hi (B := 18446744073709551616) hP (by decide) hU hV hU' hV' hv0 hv1 hu0b hd0 hd
   rw [← hqr, Int.mul_comm q v1, Int.add_comm, Int.add_mul_ediv_left _ _ (by omega), Int.ediv_eq_zero_of_lt hr0 hr1] at this
   omega
  obtain ⟨g, hE, hg⟩ := guess_loop u2 u1 u0 v1 v0 hu0 hu0b hv1 hv1b hv0 hv0b q.toNat q r (by omega) hq0 hq1 hr0 (by omega) hqr hN
  exact ⟨g, Ev.congr (fun k => by unfold nat_guess.f; rw [if_neg h, ed, Option.bind_some]) hE, hg⟩
theorem sub_ex {x y c : Int} (h0 : 0 ≤ x) (h1 : x < 18446744073709551616) (h2 : 0 ≤ y) (h3 : y < 18446744073709551616) (h4 : 0 ≤ c) (h5 : c ≤ 1) :
  ∃ s b, bits_Sub64.f x y c = some (s, b) ∧ s = x - y - c + 18446744073709551616 * b ∧ 0 ≤ s ∧ s < 18446744073709551616 ∧ 0 ≤ b ∧ b ≤ 1 := by
 refine ⟨_, _, by unfold bits_Sub64.f; rw [if_pos ⟨⟨h0, h2, h3⟩, h4, h5⟩], ?_, by omega, by omega, by split <;> omega, by split <;> omega⟩
 split <;> omega
theorem app_set (o m : List Int) (i : Nat) (x y : Int) (h : o.length = i) : (o ++ x :: m).set i y = (o ++ [y]) ++ m := by
 subst h
 rw [List.set_append_right _ _ (Nat.le_refl _), Nat.sub_self, List.set_cons_zero, List.append_assoc]; rfl
theorem app_rd (o m : List Int) (i : Nat) (x : Int) (h : o.length = i) : rd (o ++ x :: m) (i : Int) = x := by
 subst h
 rw [ze0, List.getD_eq_getElem?_getD, List.getElem?_append_right (Nat.le_refl _), Nat.sub_self]; rfl
theorem away_step {Q vo q a A x v c b y c' b' lo : Int} (h : vo + q * a = A + Q * (c + b)) (hl : lo + (BW : Int) * c' = q * v + c) (hy : y = x - lo - b + (BW : Int) * b') : (vo + Q * y) + q * (a + Q * v) = (A + Q * x) + Q * (BW : Int) * (c' + b') := by
 subst hy; grind
theorem take_l0 (x v : List Int) (q : Int) (hx : R BW x) (hv : R BW v) (hq0 : 0 ≤ q) (hq : q < 18446744073709551616) (hlen : x.length = v.length + 1) (hl : v.length ≤ 1000000000) : ∀ (d i : Nat) (o : List Int) (b c : Int), i + d = v.length → o.length = i → R BW o → 0 ≤ c → c < 18446744073709551616 → 0 ≤ b → b ≤ 1 → V BW o + q * V BW (v.take i) = V BW (x.take i) + (BW : Int) ^ i * (c + b) →
  ∃ x' b', R BW x' ∧ x'.length = x.length ∧ 0 ≤ b' ∧ b' ≤ 1 ∧ V BW x' + q * V BW v = V BW x + (BW : Int) ^ (v.length + 1) * b' ∧ ∀ z, Ev (fun k => nat_takeAway.l1 k x' v q b') z → Ev (fun k => nat_takeAway.l0 k (o ++ x.drop i) v q b c v.length i) z
 | 0, i, o, b, c, hi, ho, hRo, hc0, hc1, hb0, hb1, hV => by
  obtain rfl : i = v.length := by omega
  have rx := zu0 hx (by decide) v.length
  rw [BWi] at rx
  have hdr : x.drop v.length = x.getD v.length 0 :: [] := by
   rw [List.drop_eq_getElem_cons (by omega), getD_lt (by omega), List.drop_of_length_le (by omega)]
  have hVx : V BW x = V BW (x.take v.length) + (BW : Int) ^ v.length * x.getD v.length 0 := by
   have := zd0 BW x v.length (by omega)
   rwa [zb0 _ _ (by omega)] at this
  generalize x.getD v.length 0 = t at rx hdr hVx
  obtain ⟨s, b', es, hs, hs0, hs1, hb0', hb1'⟩ := sub_ex rx.1 rx.2 hc0 hc1 hb0 hb1
  refine ⟨o ++ [s], b', zz.2 ⟨hRo, zy2 hs0 (by rw [BWi]; exact hs1)⟩, by simp [ho, hlen], hb0', hb1', ?_, fun z hz => Ev.step (fun k => ?_) hz⟩
  ·rw [zb0 _ _ (Nat.le_refl _)] at hV
   rw [zh2, ho, hVx, hs, Int.pow_succ, BWi]
   rw [BWi] at hV
   grind
  ·have g1 : ¬ (v.length : Int) < (v.length : Int) := by omega
   have g2 : (0 : Int) ≤ (v.length : Int) := by omega
   have g3 : (v.length : Int) < ((o ++ t :: []).length : Int) := by simp [ho]; omega
   rw [hdr, nat_takeAway.l0, if_neg g1, if_pos g2, if_pos g3, app_rd o [] v.length t ho, es, Option.bind_some, Int.toNat_natCast, app_set o [] v.length t s ho, List.append_nil]
 | d + 1, i, o, b, c, hi, ho, hRo, hc0, hc1, hb0, hb1, hV => by
  have rx := zu0 hx (by decide) i
  have rv := zu0 hv (by decide) i
  rw [BWi] at rx rv
  have hdr : x.drop i = x.getD i 0 :: x.drop (i + 1) := by rw [List.drop_eq_getElem_cons (by omega), getD_lt (by omega)]
  have hVx := zd0 BW x i (by omega)
  have hVv := zd0 BW v i (by omega)
  have hrv := ze0 v i
  generalize x.getD i 0 = t at rx hdr hVx
  generalize v.getD i 0 = y at rv hVv hrv
  obtain ⟨hi1, lo, em, em2, lo0, lo1, hi0⟩ := mul_ex hq0 hq rv.1 rv.2
  obtain ⟨lo', cc, ea, ea2, s0, s1, cc0⟩ := add_ex (c := 0) lo0 hc0 (by decide) (by decide)
  obtain ⟨s, b', es, hs, hs0, hs1, hb0', hb1'⟩ := sub_ex rx.1 rx.2 s0 s1 hb0 hb1
  have hpr := prod_lt hq0 hq rv.1 rv.2
  have hcr : 0 ≤ hi1 + cc ∧ hi1 + cc < 18446744073709551616 := by
   generalize q * y = P at hpr em2; clear em ea es hV hVx hVv; omega
  have hls : lo' + (BW : Int) * (hi1 + cc) = q * y + c := by rw [BWi]; clear em ea es hV hVx hVv; omega
  have hst := away_step (x := t) (y := s) (b' := b') hV hls (by rw [BWi]; exact hs)
  obtain ⟨x', b2, h1, h2, h3, h4, h5, h6⟩ := take_l0 x v q hx hv hq0 hq hlen hl d (i + 1) (o ++ [s]) b' (hi1 + cc) (by omega) (by simp [ho]) (zz.2 ⟨hRo, zy2 hs0 (by rw [BWi]; exact hs1)⟩) hcr.1 hcr.2 hb0' hb1' (by
   rw [zh2, ho, hVx, hVv, Int.pow_succ]; exact hst)
  refine ⟨x', b2, h1, h2, h3, h4, h5, fun z hz => Ev.step (fun k => ?_) (h6 z hz)⟩
  have g1 : (i : Int) < (v.length : Int) := by omega
  have g2 : (0 : Int) ≤ (i : Int) := by omega
  have g3 : (i : Int) < ((o ++ t :: x.drop (i + 1)).length : Int) := by simp [ho]; omega
  have E := Q0.mk (And.intro (show wrap64 ((i : Int) + 1) = ((i + 1 : Nat) : Int) by rw [w64 (by omega) (by omega)]; rfl) (u64w hcr.1 hcr.2))
  rw [hdr, nat_takeAway.l0, if_pos g1, if_pos g2, if_pos g1, hrv, em, Option.bind_some, ea, Option.bind_some, if_pos g3, app_rd o _ i t ho, es, Option.bind_some, Int.toNat_natCast, app_set o _ i t s ho, E.out.1, E.out.2]
theorem back_step {Q vo a A x v c y c' : Int} (h : vo + Q * c = A + a) (hy : y + (BW : Int) * c' = x + v + c) : (vo + Q * y) + Q * (BW : Int) * c' = (A + Q * x) + (a + Q * v) := by grind
theorem take_l2 (x v : List Int) (q b : Int) (hx : R BW x) (hv : R BW v) (hlen : x.length = v.length + 1) (hl : v.length ≤ 1000000000) : ∀ (d i : Nat) (o : List Int) (c : Int), i + d = v.length → o.length = i → R BW o → 0 ≤ c → c ≤ 1 → V BW o + (BW : Int) ^ i * c = V BW (x.take i) + V BW (v.take i) →
  ∃ x' c', R BW x' ∧ x'.length = x.length ∧ 0 ≤ c' ∧ c' ≤ 1 ∧ V BW x' + (BW : Int) ^ (v.length + 1) * c' = V BW x + V BW v ∧ ∀ z, Ev (fun k => nat_takeAway.l1 k x' v q (IntKind.u64.wrap (b - c'))) z → Ev (fun k => nat_takeAway.l2 k (o ++ x.drop i) v q b c v.length i) z
 | 0, i, o, c, hi, ho, hRo, hc0, hc1, hV => by
  obtain rfl : i = v.length := by omega
  have rx := zu0 hx (by decide) v.length
  rw [BWi] at rx
  have hdr : x.drop v.length = x.getD v.length 0 :: [] := by
   rw [List.drop_eq_getElem_cons (by omega), getD_lt (by omega), List.drop_of_length_le (by omega)]
  have hVx : V BW x = V BW (x.take v.length) + (BW : Int) ^ v.length * x.getD v.length 0 := by
   have := zd0 BW x v.length (by omega)
   rwa [zb0 _ _ (by omega)] at this
  generalize x.getD v.length 0 = t at rx hdr hVx
  obtain ⟨s, c', es, hs, hs0, hs1, hc0'⟩ := add_ex (y := 0) rx.1 (by decide) hc0 hc1
  refine ⟨o ++ [s], c', zz.2 ⟨hRo, zy2 hs0 (by rw [BWi]; exact hs1)⟩, by simp [ho, hlen], hc0', by omega, ?_, fun z hz => Ev.step (fun k => ?_) hz⟩
  ·rw [zb0 _ _ (Nat.le_refl _)] at hV
   have := back_step (v := 0) hV (by rw [BWi]; exact hs)
   rw [zh2, ho, hVx, Int.pow_succ, this]; simp
  ·have g1 : ¬ (v.length : Int) < (v.length : Int) := by omega
   have g2 : (0 : Int) ≤ (v.length : Int) := by omega
   have g3 : (v.length : Int) < ((o ++ t :: []).length : Int) := by simp [ho]; omega
   rw [hdr, nat_takeAway.l2, if_neg g1, if_pos g2, if_pos g3, app_rd o [] v.length t ho, es, Option.bind_some, Int.toNat_natCast, app_set o [] v.length t s ho, List.append_nil]
 | d + 1, i, o, c, hi, ho, hRo, hc0, hc1, hV => by
  have rx := zu0 hx (by decide) i
  have rv := zu0 hv (by decide) i
  rw [BWi] at rx rv
  have hdr : x.drop i = x.getD i 0 :: x.drop (i + 1) := by rw [List.drop_eq_getElem_cons (by omega), getD_lt (by omega)]
  have hVx := zd0 BW x i (by omega)
  have hVv := zd0 BW v i (by omega)
  have hrv := ze0 v i
  generalize x.getD i 0 = t at rx hdr hVx
  generalize v.getD i 0 = y at rv hVv hrv
  obtain ⟨s, c', es, hs, hs0, hs1, hc0'⟩ := add_ex rx.1 rv.1 hc0 hc1
  have hst := back_step hV (by rw [BWi]; exact hs)
  obtain ⟨x', c2, h1, h2, h3, h4, h5, h6⟩ := take_l2 x v q b hx hv hlen hl d (i + 1) (o ++ [s]) c' (by omega) (by simp [ho]) (zz.2 ⟨hRo, zy2 hs0 (by rw [BWi]; exact hs1)⟩) hc0' (by omega) (by
   rw [zh2, ho, hVx, hVv, Int.pow_succ]; exact hst)
  refine ⟨x', c2, h1, h2, h3, h4, h5, fun z hz => Ev.step (fun k => ?_) (h6 z hz)⟩
  have g1 : (i : Int) < (v.length : Int) := by omega
  have g2 : (0 : Int) ≤ (i : Int) := by omega
  have g3 : (i : Int) < ((o ++ t :: x.drop (i + 1)).length : Int) := by simp [ho]; omega
  have E := Q0.mk (show wrap64 ((i : Int) + 1) = ((i + 1 : Nat) : Int) by rw [w64 (by omega) (by omega)]; rfl)
  rw [hdr, nat_takeAway.l2, if_pos g1, if_pos g2, if_pos g3, if_pos g1, app_rd o _ i t ho, hrv, es, Option.bind_some, Int.toNat_natCast, app_set o _ i t s ho, E.out]
theorem take_l1 (v : List Int) (U : Int) (hv : R BW v) (hVp : 0 < V BW v) (hU : 0 ≤ U) (hl : v.length ≤ 1000000000) : ∀ (n : Nat) (x : List Int) (q b : Int), q ≤ n → R BW x → x.length = v.length + 1 → q < 18446744073709551616 → 0 ≤ b → b ≤ 1 → V BW x + q * V BW v = U + (BW : Int) ^ (v.length + 1) * b → U / V BW v ≤ q →
  ∃ x', Ev (fun k => nat_takeAway.l1 k x v q b) (U / V BW v, x') ∧ R BW x' ∧ x'.length = v.length + 1 ∧ V BW x' = U % V BW v := by
 intro n
 have fin : ∀ (x : List Int) (q : Int), R BW x → x.length = v.length + 1 → V BW x + q * V BW v = U + (BW : Int) ^ (v.length + 1) * 0 → U / V BW v ≤ q → ∃ x', Ev (fun k => nat_takeAway.l1 k x v q 0) (U / V BW v, x') ∧ R BW x' ∧ x'.length = v.length + 1 ∧ V BW x' = U % V BW v := by
  intro x q hx hlen hV hd
  have hx0 := zn0 (b := (BW : Int)) (by decide) hx
  have e1 := Int.emod_add_mul_ediv U (V BW v)
  have e2 := zk1 (s := U) hVp
  have hq : q = U / V BW v := by
   rcases Int.lt_or_eq_of_le hd with h | h
   ·exfalso
    have := Int.mul_le_mul_of_nonneg_right (show U / V BW v + 1 ≤ q by omega) (Int.le_of_lt hVp)
    rw [Int.add_mul, Int.one_mul, Int.mul_comm (U / V BW v)] at this
    omega
   ·exact h.symm
  refine ⟨x, Ev.step (f := fun _ => some (U / V BW v, x)) (fun k => by rw [nat_takeAway.l1, if_neg (by decide), hq]) (Ev.now _), hx, hlen, ?_⟩
  rw [hq, Int.mul_comm] at hV
  omega
 have hd0 : 0 ≤ U / V BW v := Int.ediv_nonneg hU (Int.le_of_lt hVp)
 induction n with
 | zero =>
  intro x q b hn hx hlen hq hb0 hb1 hV hd
  rcases Int.lt_or_eq_of_le hb0 with hb | hb
  ·exfalso
   have : b = 1 := by omega
   subst this
   have hq0 : q = 0 := by omega
   subst hq0
   have := V_lt (b := (BW : Int)) (by decide) hx
   rw [hlen] at this
   rw [Int.zero_mul, Int.mul_one] at hV
   omega
  ·subst hb; exact fin x q hx hlen hV hd
 | succ n ih =>
  intro x q b hn hx hlen hq hb0 hb1 hV hd
  rcases Int.lt_or_eq_of_le hb0 with hb | hb
  ·have : b = 1 := by omega
   subst this
   have hxlt := V_lt (b := (BW : Int)) (by decide) hx
   rw [hlen] at hxlt
   rw [Int.mul_one] at hV
   have e1 := Int.emod_add_mul_ediv U (V BW v)
   have e2 := zk1 (s := U) hVp
   -- too much was taken away
   have hgt : U / V BW v + 1 ≤ q := by
    rcases Int.lt_or_eq_of_le hd with h | h
    ·omega
    ·exfalso
     rw [← h, Int.mul_comm] at hV
     omega
   obtain ⟨x', c', h1, h2, h3, h4, h5, h6⟩ := take_l2 x v (q - 1) 1 hx hv hlen hl v.length 0 [] 0 (by omega) rfl (zj1 _) (by decide) (by decide) (by simp [V])
   have E := Q0.mk (And.intro (show IntKind.u64.wrap (q - 1) = q - 1 from u64w (by omega) (by omega)) (show IntKind.u64.wrap (1 - c') = 1 - c' from u64w (by omega) (by omega)))
   obtain ⟨x2, hE, h⟩ := ih x' (q - 1) (1 - c') (by omega) h1 (by omega) (by omega) (by omega) (by omega) (by rw [Int.sub_mul, Int.mul_sub, Int.one_mul, Int.mul_one]; omega) (by omega)
   refine ⟨x2, ?_, h⟩
   have h7 := h6 _ (by rw [E.out.2]; exact hE)
   refine Ev.step (fun k => ?_) h7
   rw [nat_takeAway.l1, if_pos (by decide), E.out.1]; rfl
  ·subst hb; exact fin x q hx hlen hV hd
theorem take_ev (x v : List Int) (q : Int) (hx : R BW x) (hv : R BW v) (hlen : x.length = v.length + 1) (hl : v.length ≤ 1000000000) (hVp : 0 < V BW v) (hq0 : 0 ≤ q) (hq : q < 18446744073709551616) (hd : V BW x / V BW v ≤ q) :
  ∃ x', Ev (fun k => nat_takeAway.f k x v q) (V BW x / V BW v, x') ∧ R BW x' ∧ x'.length = v.length + 1 ∧ V BW x' = V BW x % V BW v := by
 obtain ⟨x1, b, h1, h2, h3, h4, h5, h6⟩ := take_l0 x v q hx hv hq0 hq hlen hl v.length 0 [] 0 0 (by omega) rfl (zj1 _) (by decide) (by decide) (by decide) (by decide) (by simp [V])
 obtain ⟨x', hE, h⟩ := take_l1 v (V BW x) hv hVp (zn0 (by decide) hx) hl q.toNat x1 q b (by omega) h1 (by omega) hq h3 h4 h5 hd
 exact ⟨x', h6 _ hE, h⟩
end Go.Proofs.YtgkdealidnidiaaDoor.Na
namespace Go.Proofs.YtgkdealidnidiaaDoor.Na
open Go.RowKit Go.Proofs.YtgkdealidnidiaaDoorW.PrintWords Go.Proofs.YtgkdealidnidiaaDoorW.PrintLast Go.Proofs.YtgkdealidnidiaaDoorW.PrintMore
theorem wnd_w64 {j n : Nat} (h : j < n) (hn : n ≤ 1000000000) : wrap64 ((j : Int) + 1) = (j : Int) + 1 := by unfold wrap64; omega
structure WS (B : Nat) (w0 : World) (g off : Nat) (pre post : List Value) (m : Nat) (w : World) (x : List Int) (W : World) : Prop where
 row : W.heap[g]? = some (.cells (pre ++ (x.map (Value.int .u64) ++ post)).toArray 40 (0, 0))
 hoff : pre.length = off
 len : x.length = m
 kept : Kept w W (fun k => k = g)
 below : Below B w0 W
 hg : B ≤ g
section
variable {B g off m : Nat} {pre post : List Value} {x : List Int} {w0 w W : World}
theorem WS.cell (h : WS B w0 g off pre post m w x W) {i : Nat} (hi : i < m) : W.cell? ⟨g, off + i, none⟩ = some (.int .u64 (x.getD i 0)) := by
 have hl := h.len
 have ho := h.hoff
 simp only [World.cell?, h.row]
 rw [List.getElem?_toArray, List.getElem?_append_right (by omega), List.getElem?_append_left (by rw [List.length_map]; omega), List.getElem?_map, show off + i - pre.length = i by omega, List.getElem?_eq_getElem (by omega)]
 simp [List.getD, List.getElem?_eq_getElem (show i < x.length by omega)]
theorem WS.frozen (h : WS B w0 g off pre post m w x W) (j : Nat) : W.frozen? ⟨g, j, none⟩ = false := by simp [World.frozen?, h.row]
theorem WS.drewN (h : WS B w0 g off pre post m w x W) (n : Nat) : WS B w0 g off pre post m w x (W.drewN n) := ⟨h.row, h.hoff, h.len, h.kept, bN h.below n, h.hg⟩
theorem WS.drew (h : WS B w0 g off pre post m w x W) : WS B w0 g off pre post m w x W.drew := ⟨h.row, h.hoff, h.len, h.kept, zf0 h.below, h.hg⟩
theorem WS.put (h : WS B w0 g off pre post m w x W) {i : Nat} (hi : i < m) (y : Int) : WS B w0 g off pre post m w (x.set i y) (W.setCell ⟨g, off + i, none⟩ (.int .u64 y)) := by
 have hl := h.len
 have ho := h.hoff
 have hset := heap_setCell_same W g (off + i) _ _ (.int .u64 y) h.row
 refine ⟨?_, ho, by rw [List.length_set]; exact hl, h.kept.setCell (.inl rfl) _, h.below.setCell h.hg _, h.hg⟩
 rw [hset, List.setIfInBounds_toArray]
 congr 3
 rw [List.set_append_right _ _ (by omega), show off + i - pre.length = i by omega, List.set_append_left _ _ (by rw [List.length_map]; omega), List.map_set]
end
theorem takeAway_wnd (k : Nat) (B : Nat) (w0 : World) (g off : Nat) (pre post : List Value) (adv : Addr) (l0 l1 : List Int) (q r1 : Int) (r2 : List Int) (c cv : Nat) (w : World) (hw : WS B w0 g off pre post (l1.length + 1) w l0 w) (hv : ∀ W, Kept w W (fun k => k = g) → ∀ i, i < l1.length → W.cell? (adv.add i) = some (.int .u64 (l1.getD i 0))) (hl : l1.length ≤ 1000000000) (hcc : l1.length + 1 ≤ c) (hcv : l1.length ≤ cv)
  (h : nat_takeAway.f k l0 l1 q = some (r1, r2)) :
  Calls Tryd.prog 108 #[.slice (some ⟨g, off, none⟩) (l1.length + 1) c, .slice (some adv) l1.length cv, .int .u64 q] w fun e w' => e = .returned (.int .u64 r1) ∧ WS B w0 g off pre post (l1.length + 1) w r2 w' := by
 have HV := Q0.mk hv
 have HW := Q0.mk hw
 have H' := Q0.mk (show nat_takeAway.l0 k l0 l1 q 0 0 (l1.length : Int) 0 = some (r1, r2) from h)
 clear h hv hw
 go_enter Tryd.func108, Tryd.ntmps108
 go_wp2
 go_loopg [7, 8, 17] k (fun kq v7 v8 v17 w' => ∃ (x : List Int) (b c : Int) (i : Int), v7 = .int .u64 b ∧ v8 = .int .u64 c ∧ v17 = .int .i64 i ∧ Q0 (nat_takeAway.l0 kq x l1 q b c (l1.length : Int) i = some (r1, r2)) ∧ Q0 (kq ≤ k) ∧ Q0 (WS B w0 g off pre post (l1.length + 1) w x w'))
 case atStart => exact ⟨l0, 0, 0, 0, rfl, rfl, rfl, H', ⟨Nat.le_refl _⟩, HW⟩
 case round =>
  clear H'
  obtain ⟨x, b, c, i, rfl, rfl, rfl, HA, HK1, HS⟩ := hrel
  cases gk with
  | zero => exact absurd HA.out (by simp [nat_takeAway.l0])
  | succ k1 =>
   have H := HA.out
   clear HA
   simp only [nat_takeAway.l0] at H
   by_cases c4 : i < (l1.length : Int)
   ·rw [if_pos c4] at H
    by_cases c5 : 0 ≤ i
    ·rw [if_pos c5] at H
     obtain ⟨j, rfl⟩ := Int.eq_ofNat_of_zero_le c5
     have hj : j < l1.length := by omega
     rw [if_pos c4] at H
     obtain ⟨⟨t1, t2⟩, A8, H2⟩ := Option.bind_eq_some_iff.mp H
     clear H
     obtain ⟨⟨t3, t4⟩, A9, H⟩ := Option.bind_eq_some_iff.mp H2
     clear H2
     have hxl := HS.out.len
     rw [if_pos (show ((j : Nat) : Int) < (x.length : Int) by omega)] at H
     obtain ⟨⟨t5, t6⟩, A10, H2⟩ := Option.bind_eq_some_iff.mp H
     clear H
     dsimp only at A9 A10 H2
     rw [Int.toNat_natCast, wnd_w64 hj hl] at H2
     have H := H2
     clear H2
     have HH := Q0.mk H
     have cv1 := HV.out wr HS.out.kept j hj
     have cx := HS.out.cell (show j < l1.length + 1 by omega)
     have fx := HS.out.frozen (off + j)
     have hrd : rd l1 (j : Int) = l1.getD j 0 := by simp [rd]
     have hrx : rd x (j : Int) = x.getD j 0 := by simp [rd]
     rw [hrd] at A8
     rw [hrx] at A10
     clear hrd hrx
     generalize l1.getD j 0 = vj at A8 cv1
     generalize x.getD j 0 = xj at A10 cx
     have B8 := Q0.mk A8
     have e9 := fun W => bits_Add64.run _ _ _ _ _ A9 W
     have e10 := fun W => bits_Sub64.run _ _ _ _ _ A10 W
     have hlt : (j : Int) < ((l1.length + 1 : Nat) : Int) := by omega
     have hP := Q0.mk (fun nd => (HS.out.drewN nd).put (show j < l1.length + 1 by omega) t5)
     clear A8 A9 A10 H hxl
     go_wp2_with fail
     refine (bits_Mul64.calls q vj t1 t2 _ B8.out).mono ?_
     rintro r w2 ⟨rfl, hd⟩
     obtain ⟨nd, rfl⟩ := hd
     have HS2 := Q0.mk (hP.out nd)
     clear hP
     go_wp2
     go_roundg k1
     case measure => have := HK1.out; omega
     case rel => exact ⟨x.set j t5, t6, IntKind.u64.wrap (t1 + t4), (j : Int) + 1, (by first | rfl | (simp; done) | (simp [*]; done)), (by first | rfl | (simp; done) | (simp [*]; done)), (by first | rfl | (simp; done) | (simp [*]; done)), HH, ⟨by have := HK1.out; omega⟩, HS2⟩
    ·rw [if_neg c5] at H
     exact absurd H (by simp)
   ·rw [if_neg c4] at H
    have g1 : (0 : Int) ≤ (l1.length : Int) := by omega
    rw [if_pos g1] at H
    have hxl := HS.out.len
    rw [if_pos (show (l1.length : Int) < (x.length : Int) by omega)] at H
    obtain ⟨⟨t5, t6⟩, A10, H2⟩ := Option.bind_eq_some_iff.mp H
    clear H
    dsimp only at H2
    rw [Int.toNat_natCast] at H2
    have H' := Q0.mk H2
    have cx := HS.out.cell (show l1.length < l1.length + 1 by omega)
    have fx := HS.out.frozen (off + l1.length)
    have hrx : rd x (l1.length : Int) = x.getD l1.length 0 := by simp [rd]
    rw [hrx] at A10
    clear hrx
    generalize x.getD l1.length 0 = xj at A10 cx
    have e10 := fun W => bits_Sub64.run _ _ _ _ _ A10 W
    have hP := Q0.mk (HS.out.put (show l1.length < l1.length + 1 by omega) t5)
    have hlt : (l1.length : Int) < ((l1.length + 1 : Nat) : Int) := by omega
    clear A10 H2 hxl
    go_wp2
    clear HS cx fx e10
    go_loopg [2, 7] k1 (fun kq v2 v7 w' => ∃ (x : List Int) (q b : Int), v2 = .int .u64 q ∧ v7 = .int .u64 b ∧ Q0 (nat_takeAway.l1 kq x l1 q b = some (r1, r2)) ∧ Q0 (kq ≤ k1) ∧ Q0 (WS B w0 g off pre post (l1.length + 1) w x w'))
    case atStart => exact ⟨_, q, t6, rfl, rfl, H', ⟨Nat.le_refl _⟩, hP⟩
    case round =>
     clear H' hP
     obtain ⟨x, q, b, rfl, rfl, HA, HK2, HS⟩ := hrel
     cases gk with
     | zero => exact absurd HA.out (by simp [nat_takeAway.l1])
     | succ k2 =>
      have H := HA.out
      clear HA
      simp only [nat_takeAway.l1] at H
      by_cases c6 : b > 0
      ·rw [if_pos c6] at H
       have H' := Q0.mk H
       clear H
       have c6b : decide (0 < b) = true := decide_eq_true c6
       clear c6
       go_wp2
       go_loopg [13, 73] k2 (fun kq v13 v73 w' => ∃ (x : List Int) (c i : Int), v13 = .int .u64 c ∧ v73 = .int .i64 i ∧ Q0 (nat_takeAway.l2 kq x l1 (IntKind.u64.wrap (q - 1)) b c (l1.length : Int) i = some (r1, r2)) ∧ Q0 (kq ≤ k2) ∧ Q0 (WS B w0 g off pre post (l1.length + 1) w x w'))
       case atStart => exact ⟨x, 0, 0, rfl, rfl, H', ⟨Nat.le_refl _⟩, HS⟩
       case round =>
        clear H' HS
        obtain ⟨x, c, i, rfl, rfl, HA, HK3, HS⟩ := hrel
        cases gk with
        | zero => exact absurd HA.out (by simp [nat_takeAway.l2])
        | succ k3 =>
         have H := HA.out
         clear HA
         simp only [nat_takeAway.l2] at H
         by_cases c4 : i < (l1.length : Int)
         ·rw [if_pos c4] at H
          by_cases c5 : 0 ≤ i
          ·rw [if_pos c5] at H
           obtain ⟨j, rfl⟩ := Int.eq_ofNat_of_zero_le c5
           have hj : j < l1.length := by omega
           have hxl := HS.out.len
           rw [if_pos (show ((j : Nat) : Int) < (x.length : Int) by omega), if_pos c4] at H
           obtain ⟨⟨t5, t6⟩, A10, H2⟩ := Option.bind_eq_some_iff.mp H
           clear H
           dsimp only at H2
           rw [Int.toNat_natCast, wnd_w64 hj hl] at H2
           have HH := Q0.mk H2
           have cv1 := HV.out wr HS.out.kept j hj
           have cx := HS.out.cell (show j < l1.length + 1 by omega)
           have fx := HS.out.frozen (off + j)
           have hrd : rd l1 (j : Int) = l1.getD j 0 := by simp [rd]
           have hrx : rd x (j : Int) = x.getD j 0 := by simp [rd]
           rw [hrd, hrx] at A10
           clear hrd hrx
           generalize l1.getD j 0 = vj at A10 cv1
           generalize x.getD j 0 = xj at A10 cx
           have e10 := fun W => bits_Add64.run _ _ _ _ _ A10 W
           have hlt : (j : Int) < ((l1.length + 1 : Nat) : Int) := by omega
           have HS2 := Q0.mk (HS.out.drew.put (show j < l1.length + 1 by omega) t5)
           have hlt2 : ((j : Int) < (l1.length : Int) + 1) = True := eq_true (by omega)
           have hlt3 : ((j : Int) < (l1.length : Int)) = True := eq_true (by omega)
           have hlt4 : ((0 : Int) ≤ (j : Int)) = True := eq_true (by omega)
           clear A10 H2 hxl hlt c4 c5
           go_wp2_with fail
           -- REGION 17
           refine zt0 (n := 18) (S := fun w' => w'.cell? ⟨g, off + j, none⟩ = some (.int .u64 xj) ∧ w'.cell? (adv.add j) = some (.int .u64 vj)) (ds := [16]) #[ff,ff,ff,ff,ff,ff,ff,ff,ff,ff,ff,ff,ff,ff,ff,ff,ff,ff] (by kernel_rfl) rfl rfl ⟨cx, cv1⟩ (fun hHeld => ?_)
           refine z02 nat_takeAway.tab17 nat_takeAway.bits17 (fun HT_ HW_ => ?_)
           refine za 0 77 ?_ #[tt,ff,ff,ff,ff,ff,ff,ff,ff,ff,ff,ff,ff,ff,ff,ff,ff,ff] rfl rfl (zb HT_.out (by kernel_rfl)) (fun _ _ _ h => h) (Or.inl ⟨by rfl, ?_⟩) ?_ ?_ ?_
           rotate_left
           ·intro w'
            go_simp
            with_reducible rfl
           rotate_left
           ·simp only [Act.put, s2_, s0_, s1_, iw, jw]
            rfl
           refine za 1 78 ?_ #[tt,tt,ff,ff,ff,ff,ff,ff,ff,ff,ff,ff,ff,ff,ff,ff,ff,ff] rfl rfl (zb HT_.out (by kernel_rfl)) (fun _ _ _ h => h) (Or.inl ⟨by rfl, ?_⟩) ?_ ?_ ?_
           rotate_left
           ·intro w'
            go_simp
            with_reducible rfl
           rotate_left
           ·simp only [Act.put, s2_, s0_, s1_, iw, jw]
            rfl
           refine za 2 79 ?_ #[tt,tt,tt,ff,ff,ff,ff,ff,ff,ff,ff,ff,ff,ff,ff,ff,ff,ff] rfl rfl (zb HT_.out (by kernel_rfl)) (fun _ _ _ h => h) (Or.inl ⟨by rfl, ?_⟩) ?_ ?_ ?_
           rotate_left
           ·intro w'
            go_simp
            with_reducible rfl
           rotate_left
           ·simp only [Act.put, s2_, s0_, s1_, iw, jw]
            rfl
           refine za 3 80 ?_ #[tt,tt,tt,tt,ff,ff,ff,ff,ff,ff,ff,ff,ff,ff,ff,ff,ff,ff] rfl rfl (zb HT_.out (by kernel_rfl)) (fun _ _ _ h => h) (Or.inl ⟨by rfl, ?_⟩) ?_ ?_ ?_
           rotate_left
           ·intro w'
            go_simp
            with_reducible rfl
           rotate_left
           ·simp only [Act.put, s2_, s0_, s1_, iw, jw]
            rfl
           refine za 4 81 ?_ #[tt,tt,tt,tt,tt,ff,ff,ff,ff,ff,ff,ff,ff,ff,ff,ff,ff,ff] rfl rfl (zb HT_.out (by kernel_rfl)) (fun _ _ _ h => h) (Or.inl ⟨by rfl, ?_⟩) ?_ ?_ ?_
           rotate_left
           ·intro w'
            go_simp
            with_reducible rfl
           rotate_left
           ·simp only [Act.put, s2_, s0_, s1_, iw, jw]
            rfl
           refine za 6 83 ?_ #[tt,tt,tt,tt,tt,ff,tt,ff,ff,ff,ff,ff,ff,ff,ff,ff,ff,ff] rfl rfl (zb HT_.out (by kernel_rfl)) (fun _ _ _ h => h) (Or.inl ⟨by rfl, ?_⟩) ?_ ?_ ?_
           rotate_left
           ·intro w'
            go_simp
            with_reducible rfl
           rotate_left
           ·simp only [Act.put, s2_, s0_, s1_, iw, jw]
            rfl
           refine za 7 84 ?_ #[tt,tt,tt,tt,tt,ff,tt,tt,ff,ff,ff,ff,ff,ff,ff,ff,ff,ff] rfl rfl (zb HT_.out (by kernel_rfl)) (fun _ _ _ h => h) (Or.inl ⟨by rfl, ?_⟩) ?_ ?_ ?_
           rotate_left
           ·intro w'
            go_simp
            with_reducible rfl
           rotate_left
           ·simp only [Act.put, s2_, s0_, s1_, iw, jw]
            rfl
           refine za 8 85 ?_ #[tt,tt,tt,tt,tt,ff,tt,tt,tt,ff,ff,ff,ff,ff,ff,ff,ff,ff] rfl rfl (zb HT_.out (by kernel_rfl)) (fun _ _ _ h => h) (Or.inl ⟨by rfl, ?_⟩) ?_ ?_ ?_
           rotate_left
           ·intro w'
            go_simp
            with_reducible rfl
           rotate_left
           ·simp only [Act.put, s2_, s0_, s1_, iw, jw]
            rfl
           refine za 10 87 ?_ #[tt,tt,tt,tt,tt,ff,tt,tt,tt,ff,tt,ff,ff,ff,ff,ff,ff,ff] rfl rfl (zb HT_.out (by kernel_rfl)) (fun _ _ _ h => h) (Or.inl ⟨by rfl, ?_⟩) ?_ ?_ ?_
           rotate_left
           ·intro w'
            go_simp
            with_reducible rfl
           rotate_left
           ·simp only [Act.put, s2_, s0_, s1_, iw, jw]
            rfl
           refine z10 5 82 ?_ #[tt,tt,tt,tt,tt,tt,tt,tt,tt,ff,tt,ff,ff,ff,ff,ff,ff,ff] rfl rfl (zp0 HT_.out HW_.out (by kernel_rfl)) (fun _ _ _ h => h) (Or.inl ⟨by rfl, ?_⟩) hHeld ?_ ?_ ?_
           rotate_left
           ·rintro w' ⟨s0, s1⟩
            go_simp
            with_reducible rfl
           rotate_left
           ·simp only [Act.put, s2_, s0_, s1_, iw, jw]
            rfl
           refine z10 9 86 ?_ #[tt,tt,tt,tt,tt,tt,tt,tt,tt,tt,tt,ff,ff,ff,ff,ff,ff,ff] rfl rfl (zp0 HT_.out HW_.out (by kernel_rfl)) (fun _ _ _ h => h) (Or.inl ⟨by rfl, ?_⟩) hHeld ?_ ?_ ?_
           rotate_left
           ·rintro w' ⟨s0, s1⟩
            go_simp
            with_reducible rfl
           rotate_left
           ·simp only [Act.put, s2_, s0_, s1_, iw, jw]
            rfl
           refine zh0 (i := 11) (N := some 88) #[tt,tt,tt,tt,tt,tt,tt,tt,tt,tt,tt,tt,ff,ff,ff,ff,ff,ff] rfl rfl (zb2 HT_.out (by kernel_rfl)) (by decide) (fun K hK => ?_)
           refine runs_ #[.int .u64 xj, .int .u64 vj, .int .u64 c] (by rfl) rfl rfl (by (try simp only [List.map_toArray, List.map_cons, List.map_nil]); first | done | rfl) (e10 _) ?_
           refine hK.out _ _ hHeld (fun hHeld => ?_)
           clear hK K
           refine zg (a' := ?_) ?_ ?_
           rotate_left
           ·show Act.put _ (some 88) _ = _
            simp only [Act.put, s2_, s0_, s1_, iw, jw]
            rfl
           refine za 12 76 ?_ #[tt,tt,tt,tt,tt,tt,tt,tt,tt,tt,tt,tt,tt,ff,ff,ff,ff,ff] rfl rfl (zb HT_.out (by kernel_rfl)) (fun _ _ _ h => h) (Or.inl ⟨by rfl, ?_⟩) ?_ ?_ ?_
           rotate_left
           ·intro w'
            go_simp
            with_reducible rfl
           rotate_left
           ·simp only [Act.put, s2_, s0_, s1_, iw, jw]
            rfl
           refine za 13 89 ?_ #[tt,tt,tt,tt,tt,tt,tt,tt,tt,tt,tt,tt,tt,tt,ff,ff,ff,ff] rfl rfl (zb HT_.out (by kernel_rfl)) (fun _ _ _ h => h) (Or.inl ⟨by rfl, ?_⟩) ?_ ?_ ?_
           rotate_left
           ·intro w'
            go_simp
            with_reducible rfl
           rotate_left
           ·simp only [Act.put, s2_, s0_, s1_, iw, jw]
            rfl
           refine za 14 90 ?_ #[tt,tt,tt,tt,tt,tt,tt,tt,tt,tt,tt,tt,tt,tt,tt,ff,ff,ff] rfl rfl (zb HT_.out (by kernel_rfl)) (fun _ _ _ h => h) (Or.inl ⟨by rfl, ?_⟩) ?_ ?_ ?_
           rotate_left
           ·intro w'
            go_simp
            with_reducible rfl
           rotate_left
           ·simp only [Act.put, s2_, s0_, s1_, iw, jw]
            rfl
           refine za 15 91 ?_ #[tt,tt,tt,tt,tt,tt,tt,tt,tt,tt,tt,tt,tt,tt,tt,tt,ff,ff] rfl rfl (zb HT_.out (by kernel_rfl)) (fun _ _ _ h => h) (Or.inl ⟨by rfl, ?_⟩) ?_ ?_ ?_
           rotate_left
           ·intro w'
            go_simp
            with_reducible rfl
           rotate_left
           ·simp only [Act.put, s2_, s0_, s1_, iw, jw]
            rfl
           refine zk3 (i := 16) (N := none) #[tt,tt,tt,tt,tt,tt,tt,tt,tt,tt,tt,tt,tt,tt,tt,tt,tt,ff] rfl rfl (zb2 HT_.out (by kernel_rfl)) (by decide) (fun K hK => ?_)
           refine zw1 (w1 := ?_) (by rfl) rfl ?_ ?_
           rotate_left
           ·go_simp
            rfl
           refine hK.out _ _ ?_
           clear hK K
           refine za 17 13 ?_ #[tt,tt,tt,tt,tt,tt,tt,tt,tt,tt,tt,tt,tt,tt,tt,tt,tt,tt] rfl rfl (zb HT_.out (by kernel_rfl)) (fun _ _ _ h => h) (Or.inl ⟨by rfl, ?_⟩) ?_ ?_ ?_
           rotate_left
           ·intro w'
            go_simp
            with_reducible rfl
           rotate_left
           ·simp only [Act.put, s2_, s0_, s1_, iw, jw]
            rfl
           refine zh1 (z03 HT_.out (by kernel_rfl)) ?_
           -- END 17
           try go_wp2
           go_roundg k3
           case measure => have := HK3.out; omega
           case rel => exact ⟨x.set j t5, t6, (j : Int) + 1, (by first | rfl | (simp; done) | (simp [*]; done)), (by first | rfl | (simp; done) | (simp [*]; done)), HH, ⟨by have := HK3.out; omega⟩, HS2⟩
          ·rw [if_neg c5] at H
           exact absurd H (by simp)
         ·rw [if_neg c4] at H
          have g1 : (0 : Int) ≤ (l1.length : Int) := by omega
          rw [if_pos g1] at H
          have hxl := HS.out.len
          rw [if_pos (show (l1.length : Int) < (x.length : Int) by omega)] at H
          obtain ⟨⟨t5, t6⟩, A10, H2⟩ := Option.bind_eq_some_iff.mp H
          clear H
          dsimp only at H2
          rw [Int.toNat_natCast] at H2
          have HH := Q0.mk H2
          have cx := HS.out.cell (show l1.length < l1.length + 1 by omega)
          have fx := HS.out.frozen (off + l1.length)
          have hrx : rd x (l1.length : Int) = x.getD l1.length 0 := by simp [rd]
          rw [hrx] at A10
          clear hrx
          generalize x.getD l1.length 0 = xj at A10 cx
          have e10 := fun W => bits_Add64.run _ _ _ _ _ A10 W
          have HS2 := Q0.mk (HS.out.put (show l1.length < l1.length + 1 by omega) t5)
          have hlt : (l1.length : Int) < ((l1.length + 1 : Nat) : Int) := by omega
          clear A10 H2 hxl
          go_wp2
          go_roundg k3
          case measure => have := HK3.out; have := HK2.out; omega
          case rel => exact ⟨x.set l1.length t5, IntKind.u64.wrap (q - 1), IntKind.u64.wrap (b - t6), (by first | rfl | (simp; done) | (simp [*]; done)), (by first | rfl | (simp; done) | (simp [*]; done)), HH, ⟨by have := HK3.out; have := HK2.out; omega⟩, HS2⟩
      ·rw [if_neg c6] at H
       simp only [Option.some.injEq, Prod.mk.injEq] at H
       obtain ⟨rfl, rfl⟩ := H
       have c6b : decide (0 < b) = false := decide_eq_false c6
       clear c6
       go_wp2
       go_ret
       exact ⟨by first | rfl | (simp; done), HS.out⟩
end Go.Proofs.YtgkdealidnidiaaDoor.Na
