/-
  NARROWER THAN 'FOR EVERY INPUT', by the rows' own cells (each row's printed sentence says how): NatReads: laid · NatParses: laid · NatShifts: laid · NatSums: laid · NatDivides: laid · NatLaws: laid · RatReads: laid · RatRounds: laid · TallyPoints: laid · TallyRises: laid.
  DERIVED. THE GIVEN ROWS OF THIS SEAT. 10 by the template 'for every input the law returns true; each argument reads behind the call as it read before'; 0 by the template 'total and deterministic' (their statements: YtgkdealidnidiaaDoorTotals.lean).
  GIVEN WITH THE SEED: the statements are not yours to turn. If you find one false, say at which input.
  Laid BY PROGRAM, IN A SANDBOX (cutbox-rows.mjs): the forced cells as the released guide's own fill.sh prints them over the translation cd54a1a922aa1fc4… (all of the seat's roots in one cut). By AI agents, Wed Nov 11 2026. No macro, syntax, notation, axiom, sorry.
-/
import Derived.Test.YtgkdealidnidiaaDoorChecked
import GoSem.Claim
import GoSem.ClaimJoined
import GoSem.ClaimMapViews
import Derived.JoinedTies
import Derived.KernelRfl
namespace Go.Proofs.YtgkdealidnidiaaDoor
/- THE CELL 'sum', in the pinned program and in every row, IS THE sha256 OF THE DUMP (.gsa) THAT YtgkdealidnidiaaDoorProg.lean LOADS. Nothing in Lean hashes anything: it is a label: what it is worth is what the hold of that sum in a sandbox is worth. -/
noncomputable def Tryd.pinned : Pinned := { name := "ytgkdealidnidiaadoor", sum := "cd54a1a922aa1fc40a51307c6ca5e0badd3e2d1e358b1e43ea58d8bdeef967c7", checked := Tryd.checked }
namespace Rows
def none {H : Type} : Left H := { results := [], args := [] }

/- WHAT THE LISTED PACKAGE-LEVEL VARIABLES READ AS WHEN THE CALL BEGINS. Each datum BY PROGRAM (the guide's laid-datum.mjs) off the statement by which the dump's own 'gosem.cut.vars' lays the variable. In a bare row this is a premise. The card (YtgkdealidnidiaaDoorCards.lean) ties it to the program's text. -/
def laid_math_bits_deBruijn32tab {H : Type} : DataW H := .agg [.lit (.int .u8 0), .lit (.int .u8 1), .lit (.int .u8 28), .lit (.int .u8 2), .lit (.int .u8 29), .lit (.int .u8 14), .lit (.int .u8 24), .lit (.int .u8 3), .lit (.int .u8 30), .lit (.int .u8 22), .lit (.int .u8 20), .lit (.int .u8 15), .lit (.int .u8 25), .lit (.int .u8 17), .lit (.int .u8 4), .lit (.int .u8 8), .lit (.int .u8 31), .lit (.int .u8 27), .lit (.int .u8 13), .lit (.int .u8 23), .lit (.int .u8 21), .lit (.int .u8 19), .lit (.int .u8 16), .lit (.int .u8 7), .lit (.int .u8 26), .lit (.int .u8 12), .lit (.int .u8 18), .lit (.int .u8 6), .lit (.int .u8 11), .lit (.int .u8 5), .lit (.int .u8 10), .lit (.int .u8 9)]
def laid_math_bits_deBruijn64tab {H : Type} : DataW H := .agg [.lit (.int .u8 0), .lit (.int .u8 1), .lit (.int .u8 56), .lit (.int .u8 2), .lit (.int .u8 57), .lit (.int .u8 49), .lit (.int .u8 28), .lit (.int .u8 3), .lit (.int .u8 61), .lit (.int .u8 58), .lit (.int .u8 42), .lit (.int .u8 50), .lit (.int .u8 38), .lit (.int .u8 29), .lit (.int .u8 17), .lit (.int .u8 4), .lit (.int .u8 62), .lit (.int .u8 47), .lit (.int .u8 59), .lit (.int .u8 36), .lit (.int .u8 45), .lit (.int .u8 43), .lit (.int .u8 51), .lit (.int .u8 22), .lit (.int .u8 53), .lit (.int .u8 39), .lit (.int .u8 33), .lit (.int .u8 30), .lit (.int .u8 24), .lit (.int .u8 18), .lit (.int .u8 12), .lit (.int .u8 5), .lit (.int .u8 63), .lit (.int .u8 55), .lit (.int .u8 48), .lit (.int .u8 27), .lit (.int .u8 60), .lit (.int .u8 41), .lit (.int .u8 37), .lit (.int .u8 16), .lit (.int .u8 46), .lit (.int .u8 35), .lit (.int .u8 44), .lit (.int .u8 21), .lit (.int .u8 52), .lit (.int .u8 32), .lit (.int .u8 23), .lit (.int .u8 11), .lit (.int .u8 54), .lit (.int .u8 26), .lit (.int .u8 40), .lit (.int .u8 15), .lit (.int .u8 34), .lit (.int .u8 20), .lit (.int .u8 31), .lit (.int .u8 10), .lit (.int .u8 25), .lit (.int .u8 14), .lit (.int .u8 19), .lit (.int .u8 9), .lit (.int .u8 13), .lit (.int .u8 8), .lit (.int .u8 7), .lit (.int .u8 6)]
def laid_internal_strconv_uint64pow10 {H : Type} : DataW H := .agg [.lit (.int .u64 1), .lit (.int .u64 10), .lit (.int .u64 100), .lit (.int .u64 1000), .lit (.int .u64 10000), .lit (.int .u64 100000), .lit (.int .u64 1000000), .lit (.int .u64 10000000), .lit (.int .u64 100000000), .lit (.int .u64 1000000000), .lit (.int .u64 10000000000), .lit (.int .u64 100000000000), .lit (.int .u64 1000000000000), .lit (.int .u64 10000000000000), .lit (.int .u64 100000000000000), .lit (.int .u64 1000000000000000), .lit (.int .u64 10000000000000000), .lit (.int .u64 100000000000000000), .lit (.int .u64 1000000000000000000), .lit (.int .u64 10000000000000000000)]

/-- 'chafflaw01.NatReads': WHATEVER THE INPUT: true; the input reads as it did. -/
def natReadsSpec : ChangeSpec := { name := "natReads", fn := fun _ => fun
  | [d] => { results := [.lit (.bool true)], args := [d] }
  | _ => none }
def natReadsRow : OpenClaim := { program := "ytgkdealidnidiaadoor", sum := "cd54a1a922aa1fc40a51307c6ca5e0badd3e2d1e358b1e43ea58d8bdeef967c7", func := "chaff/chafflaw01.NatReads", spec := "natReads", inPlace := ["internal/abi.NoEscape", "internal/bytealg.MakeNoZero"], named := ["math/bits.divideError", "math/bits.overflowError", "internal/strconv.uint64pow10", "math/bits.deBruijn32tab", "math/bits.deBruijn64tab"], apart := false, laid := [("math/bits.deBruijn32tab", laid_math_bits_deBruijn32tab), ("math/bits.deBruijn64tab", laid_math_bits_deBruijn64tab), ("internal/strconv.uint64pow10", laid_internal_strconv_uint64pow10)] }
def NatReadsSaid : Prop := natReadsRow.holds Tryd.pinned (OpenSpec.ofChange natReadsSpec)

/-- ITS FALSE NEIGHBOUR: 'it returns false'. Refute it at one input. -/
def natReadsWrong : ChangeSpec := { name := "natReads", fn := fun _ => fun
  | [d] => { results := [.lit (.bool false)], args := [d] }
  | _ => none }
def NatReadsWrongFalsely : Prop := natReadsRow.holds Tryd.pinned (OpenSpec.ofChange natReadsWrong)

/-- 'chafflaw01.NatParses': WHATEVER THE INPUT: true; the input reads as it did. -/
def natParsesSpec : ChangeSpec := { name := "natParses", fn := fun _ => fun
  | [d] => { results := [.lit (.bool true)], args := [d] }
  | _ => none }
def natParsesRow : OpenClaim := { program := "ytgkdealidnidiaadoor", sum := "cd54a1a922aa1fc40a51307c6ca5e0badd3e2d1e358b1e43ea58d8bdeef967c7", func := "chaff/chafflaw01.NatParses", spec := "natParses", inPlace := ["internal/abi.NoEscape", "internal/bytealg.MakeNoZero", "math/bits.Add64"], named := ["math/bits.divideError", "math/bits.overflowError", "internal/strconv.uint64pow10", "math/bits.deBruijn32tab", "math/bits.deBruijn64tab"], apart := false, laid := [("math/bits.deBruijn32tab", laid_math_bits_deBruijn32tab), ("math/bits.deBruijn64tab", laid_math_bits_deBruijn64tab), ("internal/strconv.uint64pow10", laid_internal_strconv_uint64pow10)] }
def NatParsesSaid : Prop := natParsesRow.holds Tryd.pinned (OpenSpec.ofChange natParsesSpec)

/-- ITS FALSE NEIGHBOUR: 'it returns false'. Refute it at one input. -/
def natParsesWrong : ChangeSpec := { name := "natParses", fn := fun _ => fun
  | [d] => { results := [.lit (.bool false)], args := [d] }
  | _ => none }
def NatParsesWrongFalsely : Prop := natParsesRow.holds Tryd.pinned (OpenSpec.ofChange natParsesWrong)

/-- 'chafflaw01.NatShifts': WHATEVER THE INPUT: true; the input reads as it did. -/
def natShiftsSpec : ChangeSpec := { name := "natShifts", fn := fun _ => fun
  | [d1, d2] => { results := [.lit (.bool true)], args := [d1, d2] }
  | _ => none }
def natShiftsRow : OpenClaim := { program := "ytgkdealidnidiaadoor", sum := "cd54a1a922aa1fc40a51307c6ca5e0badd3e2d1e358b1e43ea58d8bdeef967c7", func := "chaff/chafflaw01.NatShifts", spec := "natShifts", inPlace := ["internal/abi.NoEscape", "internal/bytealg.MakeNoZero"], named := ["math/bits.divideError", "math/bits.overflowError", "internal/strconv.uint64pow10", "math/bits.deBruijn32tab", "math/bits.deBruijn64tab"], apart := false, laid := [("math/bits.deBruijn32tab", laid_math_bits_deBruijn32tab), ("math/bits.deBruijn64tab", laid_math_bits_deBruijn64tab), ("internal/strconv.uint64pow10", laid_internal_strconv_uint64pow10)] }
def NatShiftsSaid : Prop := natShiftsRow.holds Tryd.pinned (OpenSpec.ofChange natShiftsSpec)

/-- ITS FALSE NEIGHBOUR: 'it returns false'. Refute it at one input. -/
def natShiftsWrong : ChangeSpec := { name := "natShifts", fn := fun _ => fun
  | [d1, d2] => { results := [.lit (.bool false)], args := [d1, d2] }
  | _ => none }
def NatShiftsWrongFalsely : Prop := natShiftsRow.holds Tryd.pinned (OpenSpec.ofChange natShiftsWrong)

/-- 'chafflaw01.NatSums': WHATEVER THE INPUT: true; the input reads as it did. -/
def natSumsSpec : ChangeSpec := { name := "natSums", fn := fun _ => fun
  | [d1, d2] => { results := [.lit (.bool true)], args := [d1, d2] }
  | _ => none }
def natSumsRow : OpenClaim := { program := "ytgkdealidnidiaadoor", sum := "cd54a1a922aa1fc40a51307c6ca5e0badd3e2d1e358b1e43ea58d8bdeef967c7", func := "chaff/chafflaw01.NatSums", spec := "natSums", inPlace := ["internal/abi.NoEscape", "internal/bytealg.MakeNoZero", "math/bits.Add64", "math/bits.Sub64"], named := ["math/bits.divideError", "math/bits.overflowError", "internal/strconv.uint64pow10", "math/bits.deBruijn32tab", "math/bits.deBruijn64tab"], apart := false, laid := [("math/bits.deBruijn32tab", laid_math_bits_deBruijn32tab), ("math/bits.deBruijn64tab", laid_math_bits_deBruijn64tab), ("internal/strconv.uint64pow10", laid_internal_strconv_uint64pow10)] }
def NatSumsSaid : Prop := natSumsRow.holds Tryd.pinned (OpenSpec.ofChange natSumsSpec)

/-- ITS FALSE NEIGHBOUR: 'it returns false'. Refute it at one input. -/
def natSumsWrong : ChangeSpec := { name := "natSums", fn := fun _ => fun
  | [d1, d2] => { results := [.lit (.bool false)], args := [d1, d2] }
  | _ => none }
def NatSumsWrongFalsely : Prop := natSumsRow.holds Tryd.pinned (OpenSpec.ofChange natSumsWrong)

/-- 'chafflaw01.NatDivides': WHATEVER THE INPUT: true; the input reads as it did. -/
def natDividesSpec : ChangeSpec := { name := "natDivides", fn := fun _ => fun
  | [d1, d2] => { results := [.lit (.bool true)], args := [d1, d2] }
  | _ => none }
def natDividesRow : OpenClaim := { program := "ytgkdealidnidiaadoor", sum := "cd54a1a922aa1fc40a51307c6ca5e0badd3e2d1e358b1e43ea58d8bdeef967c7", func := "chaff/chafflaw01.NatDivides", spec := "natDivides", inPlace := ["internal/abi.NoEscape", "internal/bytealg.MakeNoZero", "math/bits.Add64", "math/bits.Sub64"], named := ["math/bits.divideError", "math/bits.overflowError", "internal/strconv.uint64pow10", "math/bits.deBruijn32tab", "math/bits.deBruijn64tab"], apart := false, laid := [("math/bits.deBruijn32tab", laid_math_bits_deBruijn32tab), ("math/bits.deBruijn64tab", laid_math_bits_deBruijn64tab), ("internal/strconv.uint64pow10", laid_internal_strconv_uint64pow10)] }
def NatDividesSaid : Prop := natDividesRow.holds Tryd.pinned (OpenSpec.ofChange natDividesSpec)

/-- ITS FALSE NEIGHBOUR: 'it returns false'. Refute it at one input. -/
def natDividesWrong : ChangeSpec := { name := "natDivides", fn := fun _ => fun
  | [d1, d2] => { results := [.lit (.bool false)], args := [d1, d2] }
  | _ => none }
def NatDividesWrongFalsely : Prop := natDividesRow.holds Tryd.pinned (OpenSpec.ofChange natDividesWrong)

/-- 'chafflaw01.NatLaws': WHATEVER THE INPUT: true; the input reads as it did. -/
def natLawsSpec : ChangeSpec := { name := "natLaws", fn := fun _ => fun
  | [d1, d2, d3] => { results := [.lit (.bool true)], args := [d1, d2, d3] }
  | _ => none }
def natLawsRow : OpenClaim := { program := "ytgkdealidnidiaadoor", sum := "cd54a1a922aa1fc40a51307c6ca5e0badd3e2d1e358b1e43ea58d8bdeef967c7", func := "chaff/chafflaw01.NatLaws", spec := "natLaws", inPlace := ["internal/abi.NoEscape", "internal/bytealg.MakeNoZero", "math/bits.Add64", "math/bits.Sub64"], named := ["math/bits.divideError", "math/bits.overflowError", "internal/strconv.uint64pow10", "math/bits.deBruijn32tab", "math/bits.deBruijn64tab"], apart := false, laid := [("math/bits.deBruijn32tab", laid_math_bits_deBruijn32tab), ("math/bits.deBruijn64tab", laid_math_bits_deBruijn64tab), ("internal/strconv.uint64pow10", laid_internal_strconv_uint64pow10)] }
def NatLawsSaid : Prop := natLawsRow.holds Tryd.pinned (OpenSpec.ofChange natLawsSpec)

/-- ITS FALSE NEIGHBOUR: 'it returns false'. Refute it at one input. -/
def natLawsWrong : ChangeSpec := { name := "natLaws", fn := fun _ => fun
  | [d1, d2, d3] => { results := [.lit (.bool false)], args := [d1, d2, d3] }
  | _ => none }
def NatLawsWrongFalsely : Prop := natLawsRow.holds Tryd.pinned (OpenSpec.ofChange natLawsWrong)

/-- 'chafflaw02.RatReads': WHATEVER THE INPUT: true; the input reads as it did. -/
def ratReadsSpec : ChangeSpec := { name := "ratReads", fn := fun _ => fun
  | [d1, d2] => { results := [.lit (.bool true)], args := [d1, d2] }
  | _ => none }
def ratReadsRow : OpenClaim := { program := "ytgkdealidnidiaadoor", sum := "cd54a1a922aa1fc40a51307c6ca5e0badd3e2d1e358b1e43ea58d8bdeef967c7", func := "chaff/chafflaw02.RatReads", spec := "ratReads", inPlace := ["math/bits.Add64", "math/bits.Sub64", "internal/abi.NoEscape", "internal/bytealg.MakeNoZero"], named := ["math/bits.divideError", "math/bits.overflowError", "internal/strconv.uint64pow10", "math/bits.deBruijn32tab", "math/bits.deBruijn64tab"], apart := false, laid := [("math/bits.deBruijn32tab", laid_math_bits_deBruijn32tab), ("math/bits.deBruijn64tab", laid_math_bits_deBruijn64tab), ("internal/strconv.uint64pow10", laid_internal_strconv_uint64pow10)] }
def RatReadsSaid : Prop := ratReadsRow.holds Tryd.pinned (OpenSpec.ofChange ratReadsSpec)

/-- ITS FALSE NEIGHBOUR: 'it returns false'. Refute it at one input. -/
def ratReadsWrong : ChangeSpec := { name := "ratReads", fn := fun _ => fun
  | [d1, d2] => { results := [.lit (.bool false)], args := [d1, d2] }
  | _ => none }
def RatReadsWrongFalsely : Prop := ratReadsRow.holds Tryd.pinned (OpenSpec.ofChange ratReadsWrong)

/-- 'chafflaw02.RatRounds': WHATEVER THE INPUT: true; the input reads as it did. -/
def ratRoundsSpec : ChangeSpec := { name := "ratRounds", fn := fun _ => fun
  | [d1, d2, d3] => { results := [.lit (.bool true)], args := [d1, d2, d3] }
  | _ => none }
def ratRoundsRow : OpenClaim := { program := "ytgkdealidnidiaadoor", sum := "cd54a1a922aa1fc40a51307c6ca5e0badd3e2d1e358b1e43ea58d8bdeef967c7", func := "chaff/chafflaw02.RatRounds", spec := "ratRounds", inPlace := ["math/bits.Add64", "math/bits.Sub64", "internal/abi.NoEscape", "internal/bytealg.MakeNoZero"], named := ["math/bits.divideError", "math/bits.overflowError", "internal/strconv.uint64pow10", "math/bits.deBruijn32tab", "math/bits.deBruijn64tab"], apart := false, laid := [("math/bits.deBruijn32tab", laid_math_bits_deBruijn32tab), ("math/bits.deBruijn64tab", laid_math_bits_deBruijn64tab), ("internal/strconv.uint64pow10", laid_internal_strconv_uint64pow10)] }
def RatRoundsSaid : Prop := ratRoundsRow.holds Tryd.pinned (OpenSpec.ofChange ratRoundsSpec)

/-- ITS FALSE NEIGHBOUR: 'it returns false'. Refute it at one input. -/
def ratRoundsWrong : ChangeSpec := { name := "ratRounds", fn := fun _ => fun
  | [d1, d2, d3] => { results := [.lit (.bool false)], args := [d1, d2, d3] }
  | _ => none }
def RatRoundsWrongFalsely : Prop := ratRoundsRow.holds Tryd.pinned (OpenSpec.ofChange ratRoundsWrong)

/-- 'chafflaw25.TallyPoints': WHATEVER THE INPUT: true; the input reads as it did. -/
def tallyPointsSpec : ChangeSpec := { name := "tallyPoints", fn := fun _ => fun
  | [d] => { results := [.lit (.bool true)], args := [d] }
  | _ => none }
def tallyPointsRow : OpenClaim := { program := "ytgkdealidnidiaadoor", sum := "cd54a1a922aa1fc40a51307c6ca5e0badd3e2d1e358b1e43ea58d8bdeef967c7", func := "chaff/chafflaw25.TallyPoints", spec := "tallyPoints", inPlace := ["math/bits.Add64", "math/bits.Sub64", "internal/abi.NoEscape", "internal/bytealg.MakeNoZero"], unfollowed := true, recurses := true, named := ["math/bits.divideError", "math/bits.overflowError", "internal/strconv.uint64pow10", "math/bits.deBruijn32tab", "math/bits.deBruijn64tab"], apart := false, laid := [("math/bits.deBruijn32tab", laid_math_bits_deBruijn32tab), ("math/bits.deBruijn64tab", laid_math_bits_deBruijn64tab), ("internal/strconv.uint64pow10", laid_internal_strconv_uint64pow10)] }
def TallyPointsSaid : Prop := tallyPointsRow.holds Tryd.pinned (OpenSpec.ofChange tallyPointsSpec)

/-- ITS FALSE NEIGHBOUR: 'it returns false'. Refute it at one input. -/
def tallyPointsWrong : ChangeSpec := { name := "tallyPoints", fn := fun _ => fun
  | [d] => { results := [.lit (.bool false)], args := [d] }
  | _ => none }
def TallyPointsWrongFalsely : Prop := tallyPointsRow.holds Tryd.pinned (OpenSpec.ofChange tallyPointsWrong)

/-- 'chafflaw25.TallyRises': WHATEVER THE INPUT: true; the input reads as it did. -/
def tallyRisesSpec : ChangeSpec := { name := "tallyRises", fn := fun _ => fun
  | [d1, d2, d3] => { results := [.lit (.bool true)], args := [d1, d2, d3] }
  | _ => none }
def tallyRisesRow : OpenClaim := { program := "ytgkdealidnidiaadoor", sum := "cd54a1a922aa1fc40a51307c6ca5e0badd3e2d1e358b1e43ea58d8bdeef967c7", func := "chaff/chafflaw25.TallyRises", spec := "tallyRises", inPlace := ["math/bits.Add64", "math/bits.Sub64", "internal/abi.NoEscape", "internal/bytealg.MakeNoZero"], unfollowed := true, recurses := true, named := ["math/bits.divideError", "math/bits.overflowError", "internal/strconv.uint64pow10", "math/bits.deBruijn32tab", "math/bits.deBruijn64tab"], apart := false, laid := [("math/bits.deBruijn32tab", laid_math_bits_deBruijn32tab), ("math/bits.deBruijn64tab", laid_math_bits_deBruijn64tab), ("internal/strconv.uint64pow10", laid_internal_strconv_uint64pow10)] }
def TallyRisesSaid : Prop := tallyRisesRow.holds Tryd.pinned (OpenSpec.ofChange tallyRisesSpec)

/-- ITS FALSE NEIGHBOUR: 'it returns false'. Refute it at one input. -/
def tallyRisesWrong : ChangeSpec := { name := "tallyRises", fn := fun _ => fun
  | [d1, d2, d3] => { results := [.lit (.bool false)], args := [d1, d2, d3] }
  | _ => none }
def TallyRisesWrongFalsely : Prop := tallyRisesRow.holds Tryd.pinned (OpenSpec.ofChange tallyRisesWrong)

/- THE SECOND FORM. 'bulk': how many values and letters a reading holds, each counted each time it is reached (what is shared counts as often as it is met; a slice's spare places count too). A statement '..UptoSaid' is the law's where the arguments, and the package variables that the reading takes, are together of bulk at most 1048576: NARROWER than '..Said'. Prove '..Said' where nothing that the law and all that it calls make is longer than what came in: it says more and counts as full. Else prove '..UptoSaid'. A law counts once. -/
mutual
def uptoBulk {H : Type} : DataW H → Nat
  | .lit (.string bytes) => bytes.length + 1
  | .lit _ => 1
  | .nil => 1
  | .ptr d => uptoBulk d + 1
  | .slice elems spare => uptoBulkAll elems + uptoBulkAll spare + 1
  | .agg parts => uptoBulkAll parts + 1
  | .iface _ d => uptoBulk d + 1
  | .map entries => uptoBulkEntries entries + 1
  | .held _ => 1
def uptoBulkAll {H : Type} : List (DataW H) → Nat
  | [] => 0
  | d :: r => uptoBulk d + uptoBulkAll r
def uptoBulkEntries {H : Type} : List (Lit × DataW H) → Nat
  | [] => 0
  | x :: r => uptoBulkEntry x + uptoBulkEntries r
def uptoBulkEntry {H : Type} : Lit × DataW H → Nat
  | (.string bytes, d) => bytes.length + uptoBulk d + 1
  | (_, d) => uptoBulk d + 1
 end
def uptoSmall : (H : Type) → List (DataW H) → Bool := fun _ ds => decide (uptoBulkAll ds ≤ 1048576)
def OpenSpec.upto (s : _root_.Go.ChangeSpec) : _root_.Go.OpenSpec := { _root_.Go.OpenSpec.ofChange s with cond := some uptoSmall }

/-- 'chafflaw01.NatReads', WHERE WHAT IT READS IS OF BULK AT MOST 1048576: true; the input reads as it did. -/
def natReadsUptoRow : OpenClaim := { program := "ytgkdealidnidiaadoor", sum := "cd54a1a922aa1fc40a51307c6ca5e0badd3e2d1e358b1e43ea58d8bdeef967c7", func := "chaff/chafflaw01.NatReads", spec := "natReads", inPlace := ["internal/abi.NoEscape", "internal/bytealg.MakeNoZero"], named := ["math/bits.divideError", "math/bits.overflowError", "internal/strconv.uint64pow10", "math/bits.deBruijn32tab", "math/bits.deBruijn64tab"], apart := false, laid := [("math/bits.deBruijn32tab", laid_math_bits_deBruijn32tab), ("math/bits.deBruijn64tab", laid_math_bits_deBruijn64tab), ("internal/strconv.uint64pow10", laid_internal_strconv_uint64pow10)], narrowed := true }
def NatReadsUptoSaid : Prop := natReadsUptoRow.holds Tryd.pinned (OpenSpec.upto natReadsSpec)

/-- 'chafflaw01.NatParses', WHERE WHAT IT READS IS OF BULK AT MOST 1048576: true; the input reads as it did. -/
def natParsesUptoRow : OpenClaim := { program := "ytgkdealidnidiaadoor", sum := "cd54a1a922aa1fc40a51307c6ca5e0badd3e2d1e358b1e43ea58d8bdeef967c7", func := "chaff/chafflaw01.NatParses", spec := "natParses", inPlace := ["internal/abi.NoEscape", "internal/bytealg.MakeNoZero", "math/bits.Add64"], named := ["math/bits.divideError", "math/bits.overflowError", "internal/strconv.uint64pow10", "math/bits.deBruijn32tab", "math/bits.deBruijn64tab"], apart := false, laid := [("math/bits.deBruijn32tab", laid_math_bits_deBruijn32tab), ("math/bits.deBruijn64tab", laid_math_bits_deBruijn64tab), ("internal/strconv.uint64pow10", laid_internal_strconv_uint64pow10)], narrowed := true }
def NatParsesUptoSaid : Prop := natParsesUptoRow.holds Tryd.pinned (OpenSpec.upto natParsesSpec)

/-- 'chafflaw01.NatShifts', WHERE WHAT IT READS IS OF BULK AT MOST 1048576: true; the input reads as it did. -/
def natShiftsUptoRow : OpenClaim := { program := "ytgkdealidnidiaadoor", sum := "cd54a1a922aa1fc40a51307c6ca5e0badd3e2d1e358b1e43ea58d8bdeef967c7", func := "chaff/chafflaw01.NatShifts", spec := "natShifts", inPlace := ["internal/abi.NoEscape", "internal/bytealg.MakeNoZero"], named := ["math/bits.divideError", "math/bits.overflowError", "internal/strconv.uint64pow10", "math/bits.deBruijn32tab", "math/bits.deBruijn64tab"], apart := false, laid := [("math/bits.deBruijn32tab", laid_math_bits_deBruijn32tab), ("math/bits.deBruijn64tab", laid_math_bits_deBruijn64tab), ("internal/strconv.uint64pow10", laid_internal_strconv_uint64pow10)], narrowed := true }
def NatShiftsUptoSaid : Prop := natShiftsUptoRow.holds Tryd.pinned (OpenSpec.upto natShiftsSpec)

/-- 'chafflaw01.NatSums', WHERE WHAT IT READS IS OF BULK AT MOST 1048576: true; the input reads as it did. -/
def natSumsUptoRow : OpenClaim := { program := "ytgkdealidnidiaadoor", sum := "cd54a1a922aa1fc40a51307c6ca5e0badd3e2d1e358b1e43ea58d8bdeef967c7", func := "chaff/chafflaw01.NatSums", spec := "natSums", inPlace := ["internal/abi.NoEscape", "internal/bytealg.MakeNoZero", "math/bits.Add64", "math/bits.Sub64"], named := ["math/bits.divideError", "math/bits.overflowError", "internal/strconv.uint64pow10", "math/bits.deBruijn32tab", "math/bits.deBruijn64tab"], apart := false, laid := [("math/bits.deBruijn32tab", laid_math_bits_deBruijn32tab), ("math/bits.deBruijn64tab", laid_math_bits_deBruijn64tab), ("internal/strconv.uint64pow10", laid_internal_strconv_uint64pow10)], narrowed := true }
def NatSumsUptoSaid : Prop := natSumsUptoRow.holds Tryd.pinned (OpenSpec.upto natSumsSpec)

/-- 'chafflaw01.NatDivides', WHERE WHAT IT READS IS OF BULK AT MOST 1048576: true; the input reads as it did. -/
def natDividesUptoRow : OpenClaim := { program := "ytgkdealidnidiaadoor", sum := "cd54a1a922aa1fc40a51307c6ca5e0badd3e2d1e358b1e43ea58d8bdeef967c7", func := "chaff/chafflaw01.NatDivides", spec := "natDivides", inPlace := ["internal/abi.NoEscape", "internal/bytealg.MakeNoZero", "math/bits.Add64", "math/bits.Sub64"], named := ["math/bits.divideError", "math/bits.overflowError", "internal/strconv.uint64pow10", "math/bits.deBruijn32tab", "math/bits.deBruijn64tab"], apart := false, laid := [("math/bits.deBruijn32tab", laid_math_bits_deBruijn32tab), ("math/bits.deBruijn64tab", laid_math_bits_deBruijn64tab), ("internal/strconv.uint64pow10", laid_internal_strconv_uint64pow10)], narrowed := true }
def NatDividesUptoSaid : Prop := natDividesUptoRow.holds Tryd.pinned (OpenSpec.upto natDividesSpec)

/-- 'chafflaw01.NatLaws', WHERE WHAT IT READS IS OF BULK AT MOST 1048576: true; the input reads as it did. -/
def natLawsUptoRow : OpenClaim := { program := "ytgkdealidnidiaadoor", sum := "cd54a1a922aa1fc40a51307c6ca5e0badd3e2d1e358b1e43ea58d8bdeef967c7", func := "chaff/chafflaw01.NatLaws", spec := "natLaws", inPlace := ["internal/abi.NoEscape", "internal/bytealg.MakeNoZero", "math/bits.Add64", "math/bits.Sub64"], named := ["math/bits.divideError", "math/bits.overflowError", "internal/strconv.uint64pow10", "math/bits.deBruijn32tab", "math/bits.deBruijn64tab"], apart := false, laid := [("math/bits.deBruijn32tab", laid_math_bits_deBruijn32tab), ("math/bits.deBruijn64tab", laid_math_bits_deBruijn64tab), ("internal/strconv.uint64pow10", laid_internal_strconv_uint64pow10)], narrowed := true }
def NatLawsUptoSaid : Prop := natLawsUptoRow.holds Tryd.pinned (OpenSpec.upto natLawsSpec)

/-- 'chafflaw02.RatReads', WHERE WHAT IT READS IS OF BULK AT MOST 1048576: true; the input reads as it did. -/
def ratReadsUptoRow : OpenClaim := { program := "ytgkdealidnidiaadoor", sum := "cd54a1a922aa1fc40a51307c6ca5e0badd3e2d1e358b1e43ea58d8bdeef967c7", func := "chaff/chafflaw02.RatReads", spec := "ratReads", inPlace := ["math/bits.Add64", "math/bits.Sub64", "internal/abi.NoEscape", "internal/bytealg.MakeNoZero"], named := ["math/bits.divideError", "math/bits.overflowError", "internal/strconv.uint64pow10", "math/bits.deBruijn32tab", "math/bits.deBruijn64tab"], apart := false, laid := [("math/bits.deBruijn32tab", laid_math_bits_deBruijn32tab), ("math/bits.deBruijn64tab", laid_math_bits_deBruijn64tab), ("internal/strconv.uint64pow10", laid_internal_strconv_uint64pow10)], narrowed := true }
def RatReadsUptoSaid : Prop := ratReadsUptoRow.holds Tryd.pinned (OpenSpec.upto ratReadsSpec)

/-- 'chafflaw02.RatRounds', WHERE WHAT IT READS IS OF BULK AT MOST 1048576: true; the input reads as it did. -/
def ratRoundsUptoRow : OpenClaim := { program := "ytgkdealidnidiaadoor", sum := "cd54a1a922aa1fc40a51307c6ca5e0badd3e2d1e358b1e43ea58d8bdeef967c7", func := "chaff/chafflaw02.RatRounds", spec := "ratRounds", inPlace := ["math/bits.Add64", "math/bits.Sub64", "internal/abi.NoEscape", "internal/bytealg.MakeNoZero"], named := ["math/bits.divideError", "math/bits.overflowError", "internal/strconv.uint64pow10", "math/bits.deBruijn32tab", "math/bits.deBruijn64tab"], apart := false, laid := [("math/bits.deBruijn32tab", laid_math_bits_deBruijn32tab), ("math/bits.deBruijn64tab", laid_math_bits_deBruijn64tab), ("internal/strconv.uint64pow10", laid_internal_strconv_uint64pow10)], narrowed := true }
def RatRoundsUptoSaid : Prop := ratRoundsUptoRow.holds Tryd.pinned (OpenSpec.upto ratRoundsSpec)

/-- 'chafflaw25.TallyPoints', WHERE WHAT IT READS IS OF BULK AT MOST 1048576: true; the input reads as it did. -/
def tallyPointsUptoRow : OpenClaim := { program := "ytgkdealidnidiaadoor", sum := "cd54a1a922aa1fc40a51307c6ca5e0badd3e2d1e358b1e43ea58d8bdeef967c7", func := "chaff/chafflaw25.TallyPoints", spec := "tallyPoints", inPlace := ["math/bits.Add64", "math/bits.Sub64", "internal/abi.NoEscape", "internal/bytealg.MakeNoZero"], unfollowed := true, recurses := true, named := ["math/bits.divideError", "math/bits.overflowError", "internal/strconv.uint64pow10", "math/bits.deBruijn32tab", "math/bits.deBruijn64tab"], apart := false, laid := [("math/bits.deBruijn32tab", laid_math_bits_deBruijn32tab), ("math/bits.deBruijn64tab", laid_math_bits_deBruijn64tab), ("internal/strconv.uint64pow10", laid_internal_strconv_uint64pow10)], narrowed := true }
def TallyPointsUptoSaid : Prop := tallyPointsUptoRow.holds Tryd.pinned (OpenSpec.upto tallyPointsSpec)

/-- 'chafflaw25.TallyRises', WHERE WHAT IT READS IS OF BULK AT MOST 1048576: true; the input reads as it did. -/
def tallyRisesUptoRow : OpenClaim := { program := "ytgkdealidnidiaadoor", sum := "cd54a1a922aa1fc40a51307c6ca5e0badd3e2d1e358b1e43ea58d8bdeef967c7", func := "chaff/chafflaw25.TallyRises", spec := "tallyRises", inPlace := ["math/bits.Add64", "math/bits.Sub64", "internal/abi.NoEscape", "internal/bytealg.MakeNoZero"], unfollowed := true, recurses := true, named := ["math/bits.divideError", "math/bits.overflowError", "internal/strconv.uint64pow10", "math/bits.deBruijn32tab", "math/bits.deBruijn64tab"], apart := false, laid := [("math/bits.deBruijn32tab", laid_math_bits_deBruijn32tab), ("math/bits.deBruijn64tab", laid_math_bits_deBruijn64tab), ("internal/strconv.uint64pow10", laid_internal_strconv_uint64pow10)], narrowed := true }
def TallyRisesUptoSaid : Prop := tallyRisesUptoRow.holds Tryd.pinned (OpenSpec.upto tallyRisesSpec)

end Rows
end Go.Proofs.YtgkdealidnidiaaDoor
