/- table: the sum of a row, the program's and the document's. -/
import Derived.Test.YtdmmklfphkgmlaaTbAwake
namespace Go.Proofs.Ytdmmklfphkgmlaa.Tb
open Go.Proofs.Ytdmmklfphkgmlaa.Seg Go.RowKit Go.Proofs.YtdmmklfphkgmlaaW.PrintWords Go.Proofs.YtdmmklfphkgmlaaW.PrintLast Go.Proofs.YtdmmklfphkgmlaaW.PrintMore Go.Proofs.Ytdmmklfphkgmlaa.Om

/-- A row's cells. -/
def rowV (r : List Int) : Array Value := (r.map (fun x => Value.int .u32 x)).toArray
theorem rowV_get (r : List Int) (i : Nat) (h : i < r.length) : (rowV r)[i]? = some (.int .u32 (gx r i)) := by
  simp [rowV, gx, List.getD, List.getElem?_eq_getElem h]
def rowI (xs : List Int) (k : Nat) : List Int := (xs.drop k).take 8
theorem rowI_V (xs : List Int) (k : Nat) : (rowL xs k).toArray = rowV (rowI xs k) := rfl
theorem rowI_len (xs : List Int) (k : Nat) (hx : xs.length = 136) (hk : k ≤ 128) : (rowI xs k).length = 8 := by simp [rowI]; omega
theorem gx_rowI (xs : List Int) (k j : Nat) (hj : j < 8) : gx (rowI xs k) j = gx xs (k + j) := by
  unfold gx rowI
  rw [List.getD_eq_getElem?_getD, List.getD_eq_getElem?_getD, List.getElem?_take, if_pos hj, List.getElem?_drop]
theorem rowI_range {xs : List Int} (h : ∀ x ∈ xs, 0 ≤ x ∧ x < 4294967296) (k : Nat) : ∀ x ∈ rowI xs k, 0 ≤ x ∧ x < 4294967296 :=
  fun x hx => h x (List.mem_of_mem_drop (List.mem_of_mem_take hx))

/-- The sum of the first counts. -/
def sumTo (r : List Int) : Nat → Int
  | 0 => 0
  | j + 1 => sumTo r j + gx r j
theorem sumTo_range {r : List Int} (h : ∀ x ∈ r, 0 ≤ x ∧ x < 4294967296) : ∀ j, 0 ≤ sumTo r j ∧ sumTo r j ≤ j * 4294967295
  | 0 => by simp [sumTo]
  | j + 1 => by
    obtain ⟨a, b⟩ := sumTo_range h j
    obtain ⟨c, d⟩ := gx_range h j
    simp only [sumTo]; omega

set_option maxRecDepth 100000 in
theorem sum_calls (r : List Int) (w : World) (hl : r.length = 8) (hr : ∀ x ∈ r, 0 ≤ x ∧ x < 4294967296) :
    Calls Try.prog 31 #[.agg (rowV r)] w fun e w' => e = .returned (.int .u64 (sumTo r 8)) ∧ Below w.heap.size w w' := by
  have hR := heap_alloc_new w (.cells (rowV r) 36)
  have HB := Aside0.mk (show Below w.heap.size w (w.alloc (.cells (rowV r) 36)) from below_alloc (Below.refl _ _) _)
  have HS := Aside0.mk (sumTo_range hr)
  have HG := Aside0.mk (gx_range hr)
  go_enter Try.func31, Try.ntmps31
  go_wp2_with fail
  generalize w.alloc (.cells (rowV r) 36) = W at hR HB ⊢
  go_loopw [3, 5] (fun n i wr => ∃ (j : Nat), n = .int .u64 (sumTo r j) ∧ i = .int .i64 j ∧ j ≤ 8 ∧ wr = W) (fun _ i _ => 8 - (intOf i).toNat)
  case atStart => exact ⟨0, rfl, rfl, by omega, rfl⟩
  case round =>
    obtain ⟨j, rfl, rfl, hj, rfl⟩ := hrel
    by_cases hlt : j < 8
    · have hx1 : 0 ≤ (j : Int) := by omega
      have hx2 : (j : Int) < 8 := by omega
      have g1 := (cell_of_row wr w.heap.size j _ _ _ hR).trans (rowV_get r j (by omega))
      obtain ⟨a0, a1⟩ := HG.out j
      obtain ⟨s0, s1⟩ := HS.out j
      have e1 : gx r j % 18446744073709551616 = gx r j := by omega
      have e2 : (sumTo r j + gx r j) % 18446744073709551616 = sumTo r (j + 1) := by simp only [sumTo]; omega
      go_wp2
      go_roundw
      case rel => exact ⟨j + 1, by first | rfl | (congr 1; simp only [sumTo]; omega), by go_num, by omega, by trivial⟩
      case measure => simp [intOf]; omega
    · have hge : j = 8 := by omega
      subst hge
      go_wp2
      go_ret
      exact ⟨rfl, HB.out⟩

set_option maxRecDepth 100000 in
theorem rsum_calls (r : List Int) (w : World) (hl : r.length = 8) (hr : ∀ x ∈ r, 0 ≤ x ∧ x < 4294967296) :
    Calls Try.prog 32 #[.agg (rowV r)] w fun e w' => e = .returned (.int .u64 (sumTo r 8)) ∧ Below w.heap.size w w' := by
  have hR := heap_alloc_new w (.cells (rowV r) 41)
  have HB := Aside0.mk (show Below w.heap.size w (w.alloc (.cells (rowV r) 41)) from below_alloc (Below.refl _ _) _)
  have HS := Aside0.mk (sumTo_range hr)
  have HG := Aside0.mk (gx_range hr)
  go_enter Try.func32, Try.ntmps32
  go_wp2_with fail
  generalize w.alloc (.cells (rowV r) 41) = W at hR HB ⊢
  go_loopw [3, 4] (fun n i wr => ∃ (j : Nat), n = .int .u64 (sumTo r j) ∧ i = .int .i64 j ∧ j ≤ 8 ∧ wr = W) (fun _ i _ => 8 - (intOf i).toNat)
  case atStart => exact ⟨0, rfl, rfl, by omega, rfl⟩
  case round =>
    obtain ⟨j, rfl, rfl, hj, rfl⟩ := hrel
    by_cases hlt : j < 8
    · have hx1 : 0 ≤ (j : Int) := by omega
      have hx2 : (j : Int) < 8 := by omega
      have g1 := (cell_of_row wr w.heap.size j _ _ _ hR).trans (rowV_get r j (by omega))
      obtain ⟨a0, a1⟩ := HG.out j
      obtain ⟨s0, s1⟩ := HS.out j
      have e1 : gx r j % 18446744073709551616 = gx r j := by omega
      have e2 : (sumTo r j + gx r j) % 18446744073709551616 = sumTo r (j + 1) := by simp only [sumTo]; omega
      go_wp2
      go_roundw
      case rel => exact ⟨j + 1, by first | rfl | (congr 1; simp only [sumTo]; omega), by go_num, by omega, by trivial⟩
      case measure => simp [intOf]; omega
    · have hge : j = 8 := by omega
      subst hge
      go_wp2
      go_ret
      exact ⟨rfl, HB.out⟩
end Go.Proofs.Ytdmmklfphkgmlaa.Tb
