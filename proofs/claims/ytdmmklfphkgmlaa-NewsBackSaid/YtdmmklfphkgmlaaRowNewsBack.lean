/- NewsBack: what is closed is opened as it was, what is opened is closed as it was; the law returns true. No condition. -/
import Derived.Test.YtdmmklfphkgmlaaRows
import Derived.Test.YtdmmklfphkgmlaaNwBack
import Derived.Test.YtdmmklfphkgmlaaNwArg
import Derived.WalkKit
import Derived.ProofKit
import Derived.OpenShut
import Derived.ShutString
import Derived.ChangeOld
import Derived.Below
import Derived.SizedLaws
import Derived.Lib.SmallJoins
namespace Go.Proofs.Ytdmmklfphkgmlaa.newsBack
open Go.ChangeShapes Go.WideShapes Go.ChangeAt Go.RowKit Go.Joins
open Go.ChangeMaps (open_string shut_string)
set_option linter.unusedVariables false
theorem own : ownKnob Try.prog.godebug = none := by kernel_rfl
theorem laidOut : laidOutB Try.prog = true := by kernel_rfl
set_option maxRecDepth 100000 in
theorem lifted (os : Os) (started : os.Started) (H : Type) (enc : TypeId × Value → H) :
    ReturnsInHanded {} Try.checked os 11 .any (Rows.newsBackSpec.pre6 enc Try.prog Try.f11 Rows.newsBackRow.domain false) (Rows.newsBackSpec.post enc Try.prog Try.f11 false true false false) := by
  refine returnsInHanded_of_change_sized (C := Try.checked) own started (by kernel_rfl) Try.func11
    (ChangeSpec.witness6 (enc := enc) (C := Try.checked) false ⟨#[], #[.agg #[.int .u64 0, .int .u32 0, .int .u8 0], .agg #[.int .u32 0, .slice none 0 0], .string ByteArray.empty, .string ByteArray.empty], []⟩ 8 (by kernel_rfl) (by kernel_rfl) (by kernel_rfl) (by kernel_rfl)) ?_
  intro W base args ds gs before hval0 hW hcnd hsz0 _
  have hsz : (DataW.weightsEach Try.prog (Try.f11.params.toList ++ Rows.newsBackSpec.plain.varTypes Try.prog) (ds ++ gs)).all (· ≤ reachBytes) = true := hsz0
  have hval : ∀ (j : Nat) t v, Try.f11.params[j]? = some t → args[j]? = some v → Value.okWide Try.prog W .any base t v := hval0
  have hW' := hW
  obtain ⟨p, q, hA0, hV, rfl, hfz, hnd⟩ := hW
  have hA : DataW.TrodAll enc Try.prog W 0 (fun _ => true) true Try.f11.params.toList args.toList ds p := hA0
  rw [Try.params11] at hA hval hsz
  obtain ⟨v0, vs0, d0, ds0, p0, q0, hargs, rfl, rfl, h0, r0⟩ := trodAll_cons hA
  obtain ⟨v1, vs1, d1, ds1, p1, q1, rfl, rfl, rfl, h1, r1⟩ := trodAll_cons r0
  obtain ⟨v2, vs2, d2, ds2, p2, q2, rfl, rfl, rfl, h2, r2⟩ := trodAll_cons r1
  obtain ⟨v3, vs3, d3, ds3, p3, q3, rfl, rfl, rfl, h3, r3⟩ := trodAll_cons r2
  obtain ⟨rfl, rfl, rfl⟩ := trodAll_nil r3
  obtain rfl : args = #[v0, v1, v2, v3] := by cases args; simp_all
  obtain ⟨rfl, rfl⟩ := trodVars_none hV
  have k0 := h0
  have lt0 : ∀ x ∈ p0, x.block < W.heap.size := by obtain ⟨m, hm⟩ := k0; exact DataW.trod_lt m _ _ _ hm
  obtain ⟨c0, c1, c2, y0, y1, y2, m, rfl, _, _, hy0, hy1, hy2⟩ := open_agg3 Try.underlying71 (by kernel_rfl) (by kernel_rfl) (hval 0 71 v0 rfl rfl) h0
  obtain ⟨x0, e0, _, u0⟩ := DataW.trod_int Try.underlying22 hy0
  obtain ⟨x1, e1, _, u1⟩ := DataW.trod_int Try.underlying34 hy1
  obtain ⟨x2, e2, _, u2⟩ := DataW.trod_int Try.underlying5 hy2
  simp at e0 e1 e2
  subst e0 e1 e2
  simp [Lit.wf, IntKind.min, IntKind.max, IntKind.signed, IntKind.bits] at u0 u1 u2
  have k1 := h1
  have lt1 : ∀ x ∈ p1, x.block < W.heap.size := by obtain ⟨m, hm⟩ := k1; exact DataW.trod_lt m _ _ _ hm
  obtain ⟨c3, c4, y3, y4, m4, rfl, _, _, hy3, hy4⟩ := open_agg2 Try.underlying82 (by kernel_rfl) (by kernel_rfl) (hval 1 82 v1 rfl rfl) h1
  obtain ⟨x3, e3, _, u3⟩ := DataW.trod_int Try.underlying34 hy3
  simp at e3
  subst e3
  simp [Lit.wf, IntKind.min, IntKind.max, IntKind.signed, IntKind.bits] at u3
  obtain ⟨A, c, l, rfl, hcap, hC, hw⟩ := Ba.open_rows112 (by kernel_rfl) hy4
  have k2 := h2
  have lt2 : ∀ x ∈ p2, x.block < W.heap.size := by obtain ⟨m, hm⟩ := k2; exact DataW.trod_lt m _ _ _ hm
  have w2 := h2
  obtain ⟨a2, rfl, rfl, _, y2⟩ := open_string Try.underlying9 (hval 2 9 v2 rfl rfl) h2
  replace w2 : a2.size ≤ 140737488351232 := by
    have z := sized_string hsz (j := 2) (t := 9) rfl rfl
    rw [Array.length_toList] at z
    exact z
  have k3 := h3
  have lt3 : ∀ x ∈ p3, x.block < W.heap.size := by obtain ⟨m, hm⟩ := k3; exact DataW.trod_lt m _ _ _ hm
  have w3 := h3
  obtain ⟨a3, rfl, rfl, _, y3⟩ := open_string Try.underlying9 (hval 3 9 v3 rfl rfl) h3
  replace w3 : a3.size ≤ 140737488351232 := by
    have z := sized_string hsz (j := 3) (t := 9) rfl rfl
    rw [Array.length_toList] at z
    exact z
  clear hA0 hval0 hsz0 hsz
  refine (Ba.newsBack_walk x0 x1 x2 x3 A c l a2 a3 W hC hcap (by omega) (by omega) (by omega) (by omega) (by omega) (by omega) (by omega) (by omega) hw).mono fun e W' ⟨he, bel⟩ => ?_
  subst he
  exact ⟨_, rfl, _, _, _, [], _, [], hW', trodAll_mk1 (shut_bool Try.underlying4 _), (trodAll_cons_mk (Below.trod laidOut (by kernel_rfl) (of_decide_eq_true (by kernel_rfl)) k0 bel lt0) (trodAll_cons_mk (Below.trod laidOut (by kernel_rfl) (of_decide_eq_true (by kernel_rfl)) k1 bel lt1) (trodAll_cons_mk (Below.trod laidOut (by kernel_rfl) (of_decide_eq_true (by kernel_rfl)) k2 bel lt2) (trodAll_cons_mk (Below.trod laidOut (by kernel_rfl) (of_decide_eq_true (by kernel_rfl)) k3 bel lt3) trodAll_mk0)))), rfl, bel.frame _, fun h => by cases h⟩
theorem over : Rows.newsBackRow.holds Try.pinned (OpenSpec.ofChange Rows.newsBackSpec) :=
  OpenClaim.holds_of_wide 11 Try.f11 rfl rfl rfl rfl rfl rfl rfl ⟨rfl, rfl, rfl, rfl, rfl⟩ rfl rfl rfl rfl rfl (by kernel_rfl) Try.func11 (by kernel_rfl)
    (of_decide_eq_true (by kernel_rfl)) (by unfold Func.isWrapper; first | (rw [if_pos (by decide +kernel)]; kernel_rfl) | (rw [if_neg (by decide +kernel)]; exact ⟨rfl, rfl⟩))
    (fun os started H enc _ => lifted os started H enc)
theorem proved : Rows.NewsBackSaid := over
end Go.Proofs.Ytdmmklfphkgmlaa.newsBack
namespace Go.Proofs.Ytdmmklfphkgmlaa
/-- The row, under a short name, for the claim. -/
theorem newsBack_holds : Rows.NewsBackSaid := newsBack.proved
#print axioms newsBack_holds
end Go.Proofs.Ytdmmklfphkgmlaa
