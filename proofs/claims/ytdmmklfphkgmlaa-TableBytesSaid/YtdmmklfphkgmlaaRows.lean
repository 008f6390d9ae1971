/-
  No cell of these rows narrows 'for every input' (looked for: loops, veiled, ifaces, maps, wideKeys, modest, calm, conditions, laid).
  DERIVED. THE GIVEN ROWS OF THIS SEAT. 10 by the template 'for every input the law returns true; each argument reads behind the call as it read before'; 0 by the template 'total and deterministic' (their statements: YtdmmklfphkgmlaaTotals.lean).
  GIVEN WITH THE SEED: the statements are not yours to turn. If you find one false, say at which input.
  Laid BY PROGRAM, IN A SANDBOX (cutbox-rows.mjs): the forced cells as the released guide's own fill.sh prints them over the translation 6925c2e1dddb3d2d… (all of the seat's roots in one cut). By AI agents, Wed Nov 11 2026. No macro, syntax, notation, axiom, sorry.
-/
import Derived.Test.YtdmmklfphkgmlaaChecked
import GoSem.Claim
import GoSem.ClaimJoined
import GoSem.ClaimMapViews
import Derived.JoinedTies
import Derived.KernelRfl
namespace Go.Proofs.Ytdmmklfphkgmlaa
/- THE CELL 'sum', in the pinned program and in every row, IS THE sha256 OF THE DUMP (.gsa) THAT YtdmmklfphkgmlaaProg.lean LOADS. Nothing in Lean hashes anything: it is a label: what it is worth is what the hold of that sum in a sandbox is worth. -/
noncomputable def Try.pinned : Pinned := { name := "ytdmmklfphkgmlaa", sum := "6925c2e1dddb3d2d7ee350439a3b4e828a492a1c53b5487da81e4cd18c056175", checked := Try.checked }
namespace Rows
def none {H : Type} : Left H := { results := [], args := [] }

/-- 'chafflaw17.OctetNumbers': WHATEVER THE INPUT: true; the input reads as it did. -/
def octetNumbersSpec : ChangeSpec := { name := "octetNumbers", fn := fun _ => fun
  | [d1, d2, d3] => { results := [.lit (.bool true)], args := [d1, d2, d3] }
  | _ => none }
def octetNumbersRow : OpenClaim := { program := "ytdmmklfphkgmlaa", sum := "6925c2e1dddb3d2d7ee350439a3b4e828a492a1c53b5487da81e4cd18c056175", func := "chaff/chafflaw17.OctetNumbers", spec := "octetNumbers", apart := false }
def OctetNumbersSaid : Prop := octetNumbersRow.holds Try.pinned (OpenSpec.ofChange octetNumbersSpec)

/-- ITS FALSE NEIGHBOUR: 'it returns false'. Refute it at one input. -/
def octetNumbersWrong : ChangeSpec := { name := "octetNumbers", fn := fun _ => fun
  | [d1, d2, d3] => { results := [.lit (.bool false)], args := [d1, d2, d3] }
  | _ => none }
def OctetNumbersWrongFalsely : Prop := octetNumbersRow.holds Try.pinned (OpenSpec.ofChange octetNumbersWrong)

/-- 'chafflaw20.TableSteps': WHATEVER THE INPUT: true; the input reads as it did. -/
def tableStepsSpec : ChangeSpec := { name := "tableSteps", fn := fun _ => fun
  | [d1, d2] => { results := [.lit (.bool true)], args := [d1, d2] }
  | _ => none }
def tableStepsRow : OpenClaim := { program := "ytdmmklfphkgmlaa", sum := "6925c2e1dddb3d2d7ee350439a3b4e828a492a1c53b5487da81e4cd18c056175", func := "chaff/chafflaw20.TableSteps", spec := "tableSteps", apart := false }
def TableStepsSaid : Prop := tableStepsRow.holds Try.pinned (OpenSpec.ofChange tableStepsSpec)

/-- ITS FALSE NEIGHBOUR: 'it returns false'. Refute it at one input. -/
def tableStepsWrong : ChangeSpec := { name := "tableSteps", fn := fun _ => fun
  | [d1, d2] => { results := [.lit (.bool false)], args := [d1, d2] }
  | _ => none }
def TableStepsWrongFalsely : Prop := tableStepsRow.holds Try.pinned (OpenSpec.ofChange tableStepsWrong)

/-- 'chafflaw17.OctetBack': WHATEVER THE INPUT: true; the input reads as it did. -/
def octetBackSpec : ChangeSpec := { name := "octetBack", fn := fun _ => fun
  | [d1, d2, d3, d4] => { results := [.lit (.bool true)], args := [d1, d2, d3, d4] }
  | _ => none }
def octetBackRow : OpenClaim := { program := "ytdmmklfphkgmlaa", sum := "6925c2e1dddb3d2d7ee350439a3b4e828a492a1c53b5487da81e4cd18c056175", func := "chaff/chafflaw17.OctetBack", spec := "octetBack", apart := false }
def OctetBackSaid : Prop := octetBackRow.holds Try.pinned (OpenSpec.ofChange octetBackSpec)

/-- ITS FALSE NEIGHBOUR: 'it returns false'. Refute it at one input. -/
def octetBackWrong : ChangeSpec := { name := "octetBack", fn := fun _ => fun
  | [d1, d2, d3, d4] => { results := [.lit (.bool false)], args := [d1, d2, d3, d4] }
  | _ => none }
def OctetBackWrongFalsely : Prop := octetBackRow.holds Try.pinned (OpenSpec.ofChange octetBackWrong)

/-- 'chafflaw17.OctetTexts': WHATEVER THE INPUT: true; the input reads as it did. -/
def octetTextsSpec : ChangeSpec := { name := "octetTexts", fn := fun _ => fun
  | [d1, d2] => { results := [.lit (.bool true)], args := [d1, d2] }
  | _ => none }
def octetTextsRow : OpenClaim := { program := "ytdmmklfphkgmlaa", sum := "6925c2e1dddb3d2d7ee350439a3b4e828a492a1c53b5487da81e4cd18c056175", func := "chaff/chafflaw17.OctetTexts", spec := "octetTexts", apart := false }
def OctetTextsSaid : Prop := octetTextsRow.holds Try.pinned (OpenSpec.ofChange octetTextsSpec)

/-- ITS FALSE NEIGHBOUR: 'it returns false'. Refute it at one input. -/
def octetTextsWrong : ChangeSpec := { name := "octetTexts", fn := fun _ => fun
  | [d1, d2] => { results := [.lit (.bool false)], args := [d1, d2] }
  | _ => none }
def OctetTextsWrongFalsely : Prop := octetTextsRow.holds Try.pinned (OpenSpec.ofChange octetTextsWrong)

/-- 'chafflaw20.TableAsks': WHATEVER THE INPUT: true; the input reads as it did. -/
def tableAsksSpec : ChangeSpec := { name := "tableAsks", fn := fun _ => fun
  | [d1, d2] => { results := [.lit (.bool true)], args := [d1, d2] }
  | _ => none }
def tableAsksRow : OpenClaim := { program := "ytdmmklfphkgmlaa", sum := "6925c2e1dddb3d2d7ee350439a3b4e828a492a1c53b5487da81e4cd18c056175", func := "chaff/chafflaw20.TableAsks", spec := "tableAsks", apart := false }
def TableAsksSaid : Prop := tableAsksRow.holds Try.pinned (OpenSpec.ofChange tableAsksSpec)

/-- ITS FALSE NEIGHBOUR: 'it returns false'. Refute it at one input. -/
def tableAsksWrong : ChangeSpec := { name := "tableAsks", fn := fun _ => fun
  | [d1, d2] => { results := [.lit (.bool false)], args := [d1, d2] }
  | _ => none }
def TableAsksWrongFalsely : Prop := tableAsksRow.holds Try.pinned (OpenSpec.ofChange tableAsksWrong)

/-- 'chafflaw20.TableTotals': WHATEVER THE INPUT: true; the input reads as it did. -/
def tableTotalsSpec : ChangeSpec := { name := "tableTotals", fn := fun _ => fun
  | [d] => { results := [.lit (.bool true)], args := [d] }
  | _ => none }
def tableTotalsRow : OpenClaim := { program := "ytdmmklfphkgmlaa", sum := "6925c2e1dddb3d2d7ee350439a3b4e828a492a1c53b5487da81e4cd18c056175", func := "chaff/chafflaw20.TableTotals", spec := "tableTotals", apart := false }
def TableTotalsSaid : Prop := tableTotalsRow.holds Try.pinned (OpenSpec.ofChange tableTotalsSpec)

/-- ITS FALSE NEIGHBOUR: 'it returns false'. Refute it at one input. -/
def tableTotalsWrong : ChangeSpec := { name := "tableTotals", fn := fun _ => fun
  | [d] => { results := [.lit (.bool false)], args := [d] }
  | _ => none }
def TableTotalsWrongFalsely : Prop := tableTotalsRow.holds Try.pinned (OpenSpec.ofChange tableTotalsWrong)

/-- 'chafflaw19.NewsRounds': WHATEVER THE INPUT: true; the input reads as it did. -/
def newsRoundsSpec : ChangeSpec := { name := "newsRounds", fn := fun _ => fun
  | [d1, d2] => { results := [.lit (.bool true)], args := [d1, d2] }
  | _ => none }
def newsRoundsRow : OpenClaim := { program := "ytdmmklfphkgmlaa", sum := "6925c2e1dddb3d2d7ee350439a3b4e828a492a1c53b5487da81e4cd18c056175", func := "chaff/chafflaw19.NewsRounds", spec := "newsRounds", unfollowed := true, recurses := true, apart := false }
def NewsRoundsSaid : Prop := newsRoundsRow.holds Try.pinned (OpenSpec.ofChange newsRoundsSpec)

/-- ITS FALSE NEIGHBOUR: 'it returns false'. Refute it at one input. -/
def newsRoundsWrong : ChangeSpec := { name := "newsRounds", fn := fun _ => fun
  | [d1, d2] => { results := [.lit (.bool false)], args := [d1, d2] }
  | _ => none }
def NewsRoundsWrongFalsely : Prop := newsRoundsRow.holds Try.pinned (OpenSpec.ofChange newsRoundsWrong)

/-- 'chafflaw19.NewsReports': WHATEVER THE INPUT: true; the input reads as it did. -/
def newsReportsSpec : ChangeSpec := { name := "newsReports", fn := fun _ => fun
  | [d1, d2] => { results := [.lit (.bool true)], args := [d1, d2] }
  | _ => none }
def newsReportsRow : OpenClaim := { program := "ytdmmklfphkgmlaa", sum := "6925c2e1dddb3d2d7ee350439a3b4e828a492a1c53b5487da81e4cd18c056175", func := "chaff/chafflaw19.NewsReports", spec := "newsReports", unfollowed := true, recurses := true, apart := false }
def NewsReportsSaid : Prop := newsReportsRow.holds Try.pinned (OpenSpec.ofChange newsReportsSpec)

/-- ITS FALSE NEIGHBOUR: 'it returns false'. Refute it at one input. -/
def newsReportsWrong : ChangeSpec := { name := "newsReports", fn := fun _ => fun
  | [d1, d2] => { results := [.lit (.bool false)], args := [d1, d2] }
  | _ => none }
def NewsReportsWrongFalsely : Prop := newsReportsRow.holds Try.pinned (OpenSpec.ofChange newsReportsWrong)

/-- 'chafflaw19.NewsBack': WHATEVER THE INPUT: true; the input reads as it did. -/
def newsBackSpec : ChangeSpec := { name := "newsBack", fn := fun _ => fun
  | [d1, d2, d3, d4] => { results := [.lit (.bool true)], args := [d1, d2, d3, d4] }
  | _ => none }
def newsBackRow : OpenClaim := { program := "ytdmmklfphkgmlaa", sum := "6925c2e1dddb3d2d7ee350439a3b4e828a492a1c53b5487da81e4cd18c056175", func := "chaff/chafflaw19.NewsBack", spec := "newsBack", unfollowed := true, recurses := true, apart := false }
def NewsBackSaid : Prop := newsBackRow.holds Try.pinned (OpenSpec.ofChange newsBackSpec)

/-- ITS FALSE NEIGHBOUR: 'it returns false'. Refute it at one input. -/
def newsBackWrong : ChangeSpec := { name := "newsBack", fn := fun _ => fun
  | [d1, d2, d3, d4] => { results := [.lit (.bool false)], args := [d1, d2, d3, d4] }
  | _ => none }
def NewsBackWrongFalsely : Prop := newsBackRow.holds Try.pinned (OpenSpec.ofChange newsBackWrong)

/-- 'chafflaw20.TableBytes': WHATEVER THE INPUT: true; the input reads as it did. -/
def tableBytesSpec : ChangeSpec := { name := "tableBytes", fn := fun _ => fun
  | [d1, d2, d3, d4] => { results := [.lit (.bool true)], args := [d1, d2, d3, d4] }
  | _ => none }
def tableBytesRow : OpenClaim := { program := "ytdmmklfphkgmlaa", sum := "6925c2e1dddb3d2d7ee350439a3b4e828a492a1c53b5487da81e4cd18c056175", func := "chaff/chafflaw20.TableBytes", spec := "tableBytes", inPlace := ["internal/abi.NoEscape"], unfollowed := true, recurses := true, apart := false }
def TableBytesSaid : Prop := tableBytesRow.holds Try.pinned (OpenSpec.ofChange tableBytesSpec)

/-- ITS FALSE NEIGHBOUR: 'it returns false'. Refute it at one input. -/
def tableBytesWrong : ChangeSpec := { name := "tableBytes", fn := fun _ => fun
  | [d1, d2, d3, d4] => { results := [.lit (.bool false)], args := [d1, d2, d3, d4] }
  | _ => none }
def TableBytesWrongFalsely : Prop := tableBytesRow.holds Try.pinned (OpenSpec.ofChange tableBytesWrong)

/- THE SECOND FORM. 'bulk': how many values and letters a reading holds, each counted each time it is reached (what is shared counts as often as it is met; a slice's spare places count too). A statement '..UptoSaid' is the law's where the arguments, and the package variables that the reading takes, are together of bulk at most 1048576: NARROWER than '..Said'. Prove '..Said' where nothing that the law and all that it calls make is longer than what came in: it says more and counts as full. Else prove '..UptoSaid'. A law counts once. -/
mutual
def uptoBulk {H : Type} : DataW H → Nat
  | .lit (.string bytes) => bytes.length + 1
  | .lit _ => 1
  | .nil => 1
  | .ptr d => uptoBulk d + 1
  | .slice elems spare => uptoBulkAll elems + uptoBulkAll spare + 1
  | .agg parts => uptoBulkAll parts + 1
  | .iface _ d => uptoBulk d + 1
  | .map entries => uptoBulkEntries entries + 1
  | .held _ => 1
def uptoBulkAll {H : Type} : List (DataW H) → Nat
  | [] => 0
  | d :: r => uptoBulk d + uptoBulkAll r
def uptoBulkEntries {H : Type} : List (Lit × DataW H) → Nat
  | [] => 0
  | x :: r => uptoBulkEntry x + uptoBulkEntries r
def uptoBulkEntry {H : Type} : Lit × DataW H → Nat
  | (.string bytes, d) => bytes.length + uptoBulk d + 1
  | (_, d) => uptoBulk d + 1
 end
def uptoSmall : (H : Type) → List (DataW H) → Bool := fun _ ds => decide (uptoBulkAll ds ≤ 1048576)
def OpenSpec.upto (s : _root_.Go.ChangeSpec) : _root_.Go.OpenSpec := { _root_.Go.OpenSpec.ofChange s with cond := some uptoSmall }

/-- 'chafflaw17.OctetNumbers', WHERE WHAT IT READS IS OF BULK AT MOST 1048576: true; the input reads as it did. -/
def octetNumbersUptoRow : OpenClaim := { program := "ytdmmklfphkgmlaa", sum := "6925c2e1dddb3d2d7ee350439a3b4e828a492a1c53b5487da81e4cd18c056175", func := "chaff/chafflaw17.OctetNumbers", spec := "octetNumbers", apart := false, narrowed := true }
def OctetNumbersUptoSaid : Prop := octetNumbersUptoRow.holds Try.pinned (OpenSpec.upto octetNumbersSpec)

/-- 'chafflaw20.TableSteps', WHERE WHAT IT READS IS OF BULK AT MOST 1048576: true; the input reads as it did. -/
def tableStepsUptoRow : OpenClaim := { program := "ytdmmklfphkgmlaa", sum := "6925c2e1dddb3d2d7ee350439a3b4e828a492a1c53b5487da81e4cd18c056175", func := "chaff/chafflaw20.TableSteps", spec := "tableSteps", apart := false, narrowed := true }
def TableStepsUptoSaid : Prop := tableStepsUptoRow.holds Try.pinned (OpenSpec.upto tableStepsSpec)

/-- 'chafflaw17.OctetBack', WHERE WHAT IT READS IS OF BULK AT MOST 1048576: true; the input reads as it did. -/
def octetBackUptoRow : OpenClaim := { program := "ytdmmklfphkgmlaa", sum := "6925c2e1dddb3d2d7ee350439a3b4e828a492a1c53b5487da81e4cd18c056175", func := "chaff/chafflaw17.OctetBack", spec := "octetBack", apart := false, narrowed := true }
def OctetBackUptoSaid : Prop := octetBackUptoRow.holds Try.pinned (OpenSpec.upto octetBackSpec)

/-- 'chafflaw17.OctetTexts', WHERE WHAT IT READS IS OF BULK AT MOST 1048576: true; the input reads as it did. -/
def octetTextsUptoRow : OpenClaim := { program := "ytdmmklfphkgmlaa", sum := "6925c2e1dddb3d2d7ee350439a3b4e828a492a1c53b5487da81e4cd18c056175", func := "chaff/chafflaw17.OctetTexts", spec := "octetTexts", apart := false, narrowed := true }
def OctetTextsUptoSaid : Prop := octetTextsUptoRow.holds Try.pinned (OpenSpec.upto octetTextsSpec)

/-- 'chafflaw20.TableAsks', WHERE WHAT IT READS IS OF BULK AT MOST 1048576: true; the input reads as it did. -/
def tableAsksUptoRow : OpenClaim := { program := "ytdmmklfphkgmlaa", sum := "6925c2e1dddb3d2d7ee350439a3b4e828a492a1c53b5487da81e4cd18c056175", func := "chaff/chafflaw20.TableAsks", spec := "tableAsks", apart := false, narrowed := true }
def TableAsksUptoSaid : Prop := tableAsksUptoRow.holds Try.pinned (OpenSpec.upto tableAsksSpec)

/-- 'chafflaw20.TableTotals', WHERE WHAT IT READS IS OF BULK AT MOST 1048576: true; the input reads as it did. -/
def tableTotalsUptoRow : OpenClaim := { program := "ytdmmklfphkgmlaa", sum := "6925c2e1dddb3d2d7ee350439a3b4e828a492a1c53b5487da81e4cd18c056175", func := "chaff/chafflaw20.TableTotals", spec := "tableTotals", apart := false, narrowed := true }
def TableTotalsUptoSaid : Prop := tableTotalsUptoRow.holds Try.pinned (OpenSpec.upto tableTotalsSpec)

/-- 'chafflaw19.NewsRounds', WHERE WHAT IT READS IS OF BULK AT MOST 1048576: true; the input reads as it did. -/
def newsRoundsUptoRow : OpenClaim := { program := "ytdmmklfphkgmlaa", sum := "6925c2e1dddb3d2d7ee350439a3b4e828a492a1c53b5487da81e4cd18c056175", func := "chaff/chafflaw19.NewsRounds", spec := "newsRounds", unfollowed := true, recurses := true, apart := false, narrowed := true }
def NewsRoundsUptoSaid : Prop := newsRoundsUptoRow.holds Try.pinned (OpenSpec.upto newsRoundsSpec)

/-- 'chafflaw19.NewsReports', WHERE WHAT IT READS IS OF BULK AT MOST 1048576: true; the input reads as it did. -/
def newsReportsUptoRow : OpenClaim := { program := "ytdmmklfphkgmlaa", sum := "6925c2e1dddb3d2d7ee350439a3b4e828a492a1c53b5487da81e4cd18c056175", func := "chaff/chafflaw19.NewsReports", spec := "newsReports", unfollowed := true, recurses := true, apart := false, narrowed := true }
def NewsReportsUptoSaid : Prop := newsReportsUptoRow.holds Try.pinned (OpenSpec.upto newsReportsSpec)

/-- 'chafflaw19.NewsBack', WHERE WHAT IT READS IS OF BULK AT MOST 1048576: true; the input reads as it did. -/
def newsBackUptoRow : OpenClaim := { program := "ytdmmklfphkgmlaa", sum := "6925c2e1dddb3d2d7ee350439a3b4e828a492a1c53b5487da81e4cd18c056175", func := "chaff/chafflaw19.NewsBack", spec := "newsBack", unfollowed := true, recurses := true, apart := false, narrowed := true }
def NewsBackUptoSaid : Prop := newsBackUptoRow.holds Try.pinned (OpenSpec.upto newsBackSpec)

/-- 'chafflaw20.TableBytes', WHERE WHAT IT READS IS OF BULK AT MOST 1048576: true; the input reads as it did. -/
def tableBytesUptoRow : OpenClaim := { program := "ytdmmklfphkgmlaa", sum := "6925c2e1dddb3d2d7ee350439a3b4e828a492a1c53b5487da81e4cd18c056175", func := "chaff/chafflaw20.TableBytes", spec := "tableBytes", inPlace := ["internal/abi.NoEscape"], unfollowed := true, recurses := true, apart := false, narrowed := true }
def TableBytesUptoSaid : Prop := tableBytesUptoRow.holds Try.pinned (OpenSpec.upto tableBytesSpec)

end Rows
end Go.Proofs.Ytdmmklfphkgmlaa
