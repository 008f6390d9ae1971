/- '==' of arrays, and of a table. -/
import Derived.Laws.StructEq
import Derived.Laws.Cells
import Derived.Test.YtdmmklfphkgmlaaWEqStruct
namespace Go.Proofs.Ytdmmklfphkgmlaa.Seg
section
variable {P : Program}

theorem run_equalIn_array {d : Nat} {t e : TypeId} {len n : Nat} {xs ys : Array Value} {w : World} (hu : P.underlying t = some (.array len e)) (hi : (P.info? e).map (·.size) = some n) (r : Nat → Bool)
    (h : ∀ i, i < len → (do let a ← part e xs (i * n); let b ← part e ys (i * n); Op.equalIn d e a b : Sem Bool).run P w = .ok (r i) w) :
    (Op.equalIn (d + 1) t (.agg xs) (.agg ys)).run P w = .ok ((List.range len).all r) w := by
  cases hq : P.info? e with
  | none => simp [hq] at hi
  | some i =>
    have hs : i.size = n := by simpa [hq] using hi
    simp only [Op.equalIn, Sem.run_bind, run_underlying hu, Result.andThen_ok, sizeOf, typeInfo, hq, run_program, Sem.run_pure, hs]
    simp only [Std.Legacy.Range.forIn_eq_forIn_range', Std.Legacy.Range.size, Nat.sub_zero, Nat.add_one_sub_one, Nat.div_one, ← List.range_eq_range']
    have h' : ∀ i ∈ List.range len, (do let a ← part e xs (i * n); let b ← part e ys (i * n); Op.equalIn d e a b : Sem Bool).run P w = .ok (r i) w := fun i hi => h i (List.mem_range.1 hi)
    clear h
    generalize List.range len = is at h'
    induction is with
    | nil => simp
    | cons j is ih =>
      have h0 := h' j (by simp)
      have ih' := ih (fun y hy => h' y (by simp [hy]))
      simp only [List.forIn_cons, Sem.run_bind] at h0 ih' ⊢
      revert h0
      generalize (part e xs (j * n)).run P w = r1
      cases r1 with
      | halt x w1 => intro h0; simp [Result.andThen] at h0
      | ok a w1 =>
        simp only [Result.andThen_ok]
        generalize (part e ys (j * n)).run P w1 = r2
        cases r2 with
        | halt x w2 => intro h0; simp [Result.andThen] at h0
        | ok b w2 =>
          simp only [Result.andThen_ok]
          intro h0
          rw [h0]
          cases hr : r j
          · simp [hr]
          · simp only [Result.andThen_ok, Bool.not_true, Bool.false_eq_true, if_false, Sem.run_pure, List.all_cons, hr, Bool.true_and]
            exact ih'
end
end Go.Proofs.Ytdmmklfphkgmlaa.Seg
