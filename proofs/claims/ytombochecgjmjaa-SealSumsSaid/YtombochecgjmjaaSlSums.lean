/- SealSums: the law's walk. -/
import Derived.Test.YtombochecgjmjaaSlAwake
namespace Go.Proofs.Ytombochecgjmjaa.Sl
set_option linter.unusedSimpArgs false
open Go.RowKit

set_option maxRecDepth 100000 in
theorem sums_walk (s : ByteArray) (w : World) : Calls Try.prog 3 #[.string s] w fun e w' => e = .returned (.bool true) ∧ Below w.heap.size w w' := by
  by_cases h : 2000 < s.size
  · have c1 : decide (2000 < (s.size : Int)) = true := decide_eq_true (by omega)
    have c2 : decide (2000 < s.size) = true := decide_eq_true (by omega)
    go_enter Try.func3, Try.ntmps3
    go_wp2_with fail
    refine (awake_calls _).mono ?_
    rintro r w1 ⟨rfl, h1⟩
    have H1 := Aside0.mk h1
    clear h1
    go_wp2
    go_ret
    exact ⟨rfl, H1.out⟩
  · have c1 : decide (2000 < (s.size : Int)) = false := decide_eq_false (by omega)
    have c2 : decide (2000 < s.size) = false := decide_eq_false (by omega)
    have KS := Aside0.mk (fun V => sum_calls s V (by omega))
    have KR := Aside0.mk (fun V => rsum_calls s V (by omega))
    have hl := sumN_lt s.data.toList
    generalize sumN s.data.toList = S at KS KR hl
    have e1 : (S : Int) % 18446744073709551616 = (S : Int) := by omega
    clear hl
    go_enter Try.func3, Try.ntmps3
    go_wp2_with fail
    refine (awake_calls _).mono ?_
    rintro r w1 ⟨rfl, h1⟩
    have H1 := Aside0.mk h1
    clear h1
    go_wp2_with fail
    refine (KS.out _).mono ?_
    rintro r w2 ⟨rfl, rfl⟩
    go_wp2_with fail
    refine (KR.out _).mono ?_
    rintro r w3 ⟨rfl, rfl⟩
    go_wp2
    go_ret
    exact ⟨rfl, H1.out⟩
end Go.Proofs.Ytombochecgjmjaa.Sl
