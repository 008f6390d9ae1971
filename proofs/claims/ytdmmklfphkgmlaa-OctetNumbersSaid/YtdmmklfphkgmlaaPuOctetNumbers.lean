/- OctetNumbers, the plain law: whatever the number, the text and the length, octet.Put and octet.Take answer as the document's Put and Take. No condition. -/
import Derived.Test.YtdmmklfphkgmlaaBaOctNumbers
import Derived.Test.YtdmmklfphkgmlaaBcOctR
namespace Go.Proofs.Ytdmmklfphkgmlaa.Pure
open Go.RowKit Go.Proofs.Ytdmmklfphkgmlaa.Ba Go.Proofs.YtdmmklfphkgmlaaW.PrintWords Go.Proofs.YtdmmklfphkgmlaaW.PrintLast Go.Proofs.YtdmmklfphkgmlaaW.PrintMore Go.Proofs.Ytdmmklfphkgmlaa.Om

theorem OctetNumbers : chafflaw17_OctetNumbers.Pure := by
  intro v s n hv hs hn
  obtain ⟨v0, v1⟩ : 0 ≤ v ∧ v < 18446744073709551616 := by
    simp [Lit.wf, IntKind.min, IntKind.max, IntKind.signed, IntKind.bits] at hv; omega
  refine ⟨20, ?_⟩
  unfold chafflaw17_OctetNumbers.f
  rw [awake_any 20 (by omega), put_any v n v0 v1 20 (by omega), rput_any v n v0 v1 20 (by omega), take_any s n 20 (by omega), rtake_any s n 20 (by omega)]
  simp
end Go.Proofs.Ytdmmklfphkgmlaa.Pure
