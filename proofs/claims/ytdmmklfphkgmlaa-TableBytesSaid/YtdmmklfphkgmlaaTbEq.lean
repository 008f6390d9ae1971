/- table: '==' of tables and of rows, as one Bool. -/
import Derived.Test.YtdmmklfphkgmlaaTbOf
import Derived.Test.YtdmmklfphkgmlaaSegEq
namespace Go.Proofs.Ytdmmklfphkgmlaa.Tb
open Go.Proofs.Ytdmmklfphkgmlaa.Seg Go.RowKit Go.Proofs.YtdmmklfphkgmlaaW.PrintWords Go.Proofs.YtdmmklfphkgmlaaW.PrintLast Go.Proofs.YtdmmklfphkgmlaaW.PrintMore Go.Proofs.Ytdmmklfphkgmlaa.Om

theorem run_isAgg {P : Program} {t : TypeId} {d : TypeDesc} (hu : P.underlying t = some d) (w : World) : (isAgg t).run P w = .ok (match d with | .struct _ | .array _ _ => true | _ => false) w := by
  unfold isAgg
  rw [Sem.run_bind, run_underlying hu w]
  cases d <;> simp
theorem run_part_agg {P : Program} {t e : TypeId} {len n : Nat} (hu : P.underlying t = some (.array len e)) (hi : (P.info? t).map (·.size) = some n) (cs : Array Value) (o : Nat) (w : World) : (part t cs o).run P w = .ok (.agg (cs.extract o (o + n))) w := by
  cases hq : P.info? t with
  | none => simp [hq] at hi
  | some i =>
    have hs : i.size = n := by simpa [hq] using hi
    simp [part, Sem.run_bind, run_isAgg hu, sizeOf, typeInfo, hq, hs]
theorem run_part_int {P : Program} {t : TypeId} {k : IntKind} (hu : P.underlying t = some (.int k)) (cs : Array Value) (o : Nat) (v : Value) (h : cs[o]? = some v) (w : World) : (part t cs o).run P w = .ok v w := by
  simp [part, Sem.run_bind, run_isAgg hu, h]

theorem tab_extract (xs : List Int) (l : Int) (k : Nat) (hx : xs.length = 136) (hk : k ≤ 128) : (tabV xs l).extract k (k + 8) = (rowL xs k).toArray := by
  apply Array.ext_getElem?
  intro i
  have e : (rowL xs k).toArray[i]? = (rowL xs k)[i]? := by simp
  rw [Array.getElem?_extract, e, rowL_get xs k hx hk, tabV_size, hx]
  by_cases h : i < 8
  · rw [if_pos (by omega), if_pos h, tabV_at xs l hx, if_pos (by omega)]
  · rw [if_neg (by omega), if_neg h]
theorem tab_extract2 (xs : List Int) (l : Int) (i : Nat) (hx : xs.length = 136) (hi : i < 16) : ((tabV xs l).extract 8 (8 + 128)).extract (i * 8) (i * 8 + 8) = (rowL xs (8 + i * 8)).toArray := by
  rw [Array.extract_extract, ← tab_extract xs l (8 + i * 8) hx (by omega)]
  congr 1
  omega

def rowEq (xs ys : List Int) (k m : Nat) : Bool := (List.range 8).all fun j => gx xs (k + j) == gx ys (m + j)
theorem rowEq_run {t e : TypeId} (d : Nat) (xs ys : List Int) (k m : Nat) (hx : xs.length = 136) (hy : ys.length = 136) (hk : k ≤ 128) (hm : m ≤ 128) (ht : Try.prog.underlying t = some (.array 8 e)) (he : Try.prog.underlying e = some (.int .u32)) (hi : (Try.prog.info? e).map (·.size) = some 1) (w : World) :
    (Op.equalIn (d + 2) t (.agg (rowL xs k).toArray) (.agg (rowL ys m).toArray)).run Try.prog w = .ok (rowEq xs ys k m) w := by
  refine Go.Proofs.Ytdmmklfphkgmlaa.Seg.run_equalIn_array ht hi _ (fun i h => ?_)
  have a : (rowL xs k).toArray[i * 1]? = some (.int .u32 (gx xs (k + i))) := by rw [List.getElem?_toArray, Nat.mul_one, rowL_get xs k hx hk, if_pos h]
  have b : (rowL ys m).toArray[i * 1]? = some (.int .u32 (gx ys (m + i))) := by rw [List.getElem?_toArray, Nat.mul_one, rowL_get ys m hy hm, if_pos h]
  simp only [Sem.run_bind, run_part_int he _ _ _ a, run_part_int he _ _ _ b, Result.andThen_ok]
  exact run_equalIn_int w d e .u32 .u32 _ _ he

def tabEq (xs ys : List Int) (l l' : Int) : Bool := rowEq xs ys 0 0 && ((List.range 16).all (fun i => rowEq xs ys (8 + i * 8) (8 + i * 8)) && (l == l'))

theorem info34 : (Try.prog.info? 34).map (·.size) = some 1 := by kernel_rfl
theorem info37 : (Try.prog.info? 37).map (·.size) = some 128 := by kernel_rfl
theorem info42 : (Try.prog.info? 42).map (·.size) = some 128 := by kernel_rfl

theorem tabEq39 (xs ys : List Int) (l l' : Int) (hx : xs.length = 136) (hy : ys.length = 136) (w : World) : (Op.equalIn 10000 39 (.agg (tabV xs l)) (.agg (tabV ys l'))).run Try.prog w = .ok (tabEq xs ys l l') w := by
  refine eqA_of (d := 9999) Try.underlying39 (by kernel_rfl) ?_
  refine eqf_cons (by decide) (run_part_agg Try.underlying36 info36 _ _ _) (run_part_agg Try.underlying36 info36 _ _ _) ?_ (eqf_cons (by decide) (run_part_agg Try.underlying37 info37 _ _ _) (run_part_agg Try.underlying37 info37 _ _ _) ?_ (eqf_last (by decide) (run_part_int Try.underlying22 _ _ (.int .u64 l) ?_ _) (run_part_int Try.underlying22 _ _ (.int .u64 l') ?_ _) (run_equalIn_int w 9998 22 .u64 .u64 l l' Try.underlying22)))
  · show (Op.equalIn 9999 36 (.agg ((tabV xs l).extract 0 (0 + 8))) (.agg ((tabV ys l').extract 0 (0 + 8)))).run Try.prog w = _
    rw [tab_extract xs l 0 hx (by omega), tab_extract ys l' 0 hy (by omega)]
    exact rowEq_run 9997 xs ys 0 0 hx hy (by omega) (by omega) Try.underlying36 Try.underlying34 info34 w
  · show (Op.equalIn 9999 37 (.agg ((tabV xs l).extract 8 (8 + 128))) (.agg ((tabV ys l').extract 8 (8 + 128)))).run Try.prog w = _
    refine Go.Proofs.Ytdmmklfphkgmlaa.Seg.run_equalIn_array Try.underlying37 info36 _ (fun i h => ?_)
    simp only [Sem.run_bind, run_part_agg Try.underlying36 info36, Result.andThen_ok, tab_extract2 xs l i hx h, tab_extract2 ys l' i hy h]
    exact rowEq_run 9996 xs ys _ _ hx hy (by omega) (by omega) Try.underlying36 Try.underlying34 info34 w
  · show (tabV xs l)[136]? = _
    rw [tabV_at xs l hx]; rfl
  · show (tabV ys l')[136]? = _
    rw [tabV_at ys l' hy]; rfl

theorem tabEq44 (xs ys : List Int) (l l' : Int) (hx : xs.length = 136) (hy : ys.length = 136) (w : World) : (Op.equalIn 10000 44 (.agg (tabV xs l)) (.agg (tabV ys l'))).run Try.prog w = .ok (tabEq xs ys l l') w := by
  refine eqA_of (d := 9999) Try.underlying44 (by kernel_rfl) ?_
  refine eqf_cons (by decide) (run_part_agg Try.underlying41 info41 _ _ _) (run_part_agg Try.underlying41 info41 _ _ _) ?_ (eqf_cons (by decide) (run_part_agg Try.underlying42 info42 _ _ _) (run_part_agg Try.underlying42 info42 _ _ _) ?_ (eqf_last (by decide) (run_part_int Try.underlying22 _ _ (.int .u64 l) ?_ _) (run_part_int Try.underlying22 _ _ (.int .u64 l') ?_ _) (run_equalIn_int w 9998 22 .u64 .u64 l l' Try.underlying22)))
  · show (Op.equalIn 9999 41 (.agg ((tabV xs l).extract 0 (0 + 8))) (.agg ((tabV ys l').extract 0 (0 + 8)))).run Try.prog w = _
    rw [tab_extract xs l 0 hx (by omega), tab_extract ys l' 0 hy (by omega)]
    exact rowEq_run 9997 xs ys 0 0 hx hy (by omega) (by omega) Try.underlying41 Try.underlying34 info34 w
  · show (Op.equalIn 9999 42 (.agg ((tabV xs l).extract 8 (8 + 128))) (.agg ((tabV ys l').extract 8 (8 + 128)))).run Try.prog w = _
    refine Go.Proofs.Ytdmmklfphkgmlaa.Seg.run_equalIn_array Try.underlying42 info41 _ (fun i h => ?_)
    simp only [Sem.run_bind, run_part_agg Try.underlying41 info41, Result.andThen_ok, tab_extract2 xs l i hx h, tab_extract2 ys l' i hy h]
    exact rowEq_run 9996 xs ys _ _ hx hy (by omega) (by omega) Try.underlying41 Try.underlying34 info34 w
  · show (tabV xs l)[136]? = _
    rw [tabV_at xs l hx]; rfl
  · show (tabV ys l')[136]? = _
    rw [tabV_at ys l' hy]; rfl

theorem rowEq_refl (xs : List Int) (k : Nat) : rowEq xs xs k k = true := by simp [rowEq]
theorem tabEq_refl (xs : List Int) (l : Int) : tabEq xs xs l l = true := by simp [tabEq, rowEq_refl]
end Go.Proofs.Ytdmmklfphkgmlaa.Tb
