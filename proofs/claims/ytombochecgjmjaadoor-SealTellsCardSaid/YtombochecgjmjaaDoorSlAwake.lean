/- Layer 13's examples. -/
import Derived.Test.YtombochecgjmjaaDoorSlClose
namespace Go.Proofs.YtombochecgjmjaaDoor.Sl
set_option linter.unusedSimpArgs false
open Go.RowKit

theorem sector_len (k g i : Nat) (d : List UInt8) (h : d.length ≤ 110) : (sector k g i d).length = 128 := by
  simp [sector, body, head14, be_len, lb_len]; omega
theorem sum_nine : sumN [49, 50, 51, 52, 53, 54, 55, 56, 57] = 3421780262 := by decide +kernel

set_option maxRecDepth 100000 in
theorem awake_calls (w : World) : Calls Tryd.prog 6 #[] w fun e w' => e = .returned (.bool true) ∧ Below w.heap.size w w' := by
  have K : ∀ V : World, Calls Tryd.prog 10 #[.agg #[.int .u8 1, .int .u64 0, .int .u32 0, .string ⟨#[]⟩]] V fun e w' => e = .returned (.tuple #[.string ⟨(sector 1 0 0 []).toArray⟩, .int .i64 0]) ∧ Below V.heap.size V w' :=
    fun V => close_good 1 0 0 ⟨#[]⟩ V (by omega) (by omega) (by omega) (by decide)
  have KS : ∀ V : World, Calls Tryd.prog 12 #[.string ⟨#[49, 50, 51, 52, 53, 54, 55, 56, 57]⟩] V fun e w' => e = .returned (.int .u32 3421780262) ∧ V = w' := fun V => by
    have := sum_calls ⟨#[49, 50, 51, 52, 53, 54, 55, 56, 57]⟩ V (by decide)
    rw [show (sumN (⟨#[49, 50, 51, 52, 53, 54, 55, 56, 57]⟩ : ByteArray).data.toList) = 3421780262 from sum_nine] at this
    exact this
  have hl : (⟨(sector 1 0 0 []).toArray⟩ : ByteArray).size = 128 := by show (sector 1 0 0 []).toArray.size = 128; rw [List.size_toArray]; exact sector_len 1 0 0 [] (by simp)
  have KK := Aside0.mk K
  have KKS := Aside0.mk KS
  clear K KS
  generalize (⟨(sector 1 0 0 []).toArray⟩ : ByteArray) = z at hl KK
  have h128 : ((z.size : Int) == 128) = true := by rw [hl]; rfl
  have h128' : (z.size == 128) = true := by rw [hl]; rfl
  clear hl
  go_enter Tryd.func6, Tryd.ntmps6
  go_wp2_with fail
  refine (KK.out _).mono ?_
  rintro x w1 ⟨rfl, h1⟩
  have H1 := Aside0.mk h1
  clear h1
  go_wp2_with fail
  refine (KKS.out _).mono ?_
  rintro x w2 ⟨rfl, rfl⟩
  go_wp2
  go_ret
  exact ⟨rfl, H1.out⟩
end Go.Proofs.YtombochecgjmjaaDoor.Sl
