/- A law's arguments: a table, and steps. -/
import Derived.Test.YtdmmklfphkgmlaaTbSteps
import Derived.ChangeArms
import Derived.ChangeSame
import Derived.DataReads
import Derived.OpenShut
import Derived.WideShapes
namespace Go.Proofs.Ytdmmklfphkgmlaa.Tb
open Go.ChangeShapes Go.WideShapes Go.RowKit Go.Proofs.YtdmmklfphkgmlaaW.PrintWords Go.Proofs.YtdmmklfphkgmlaaW.PrintLast Go.Proofs.YtdmmklfphkgmlaaW.PrintMore Go.Proofs.Ytdmmklfphkgmlaa.Om

theorem list_of {α : Type} {P : Nat → α → Prop} : ∀ (n : Nat), (∀ i, i < n → ∃ x, P i x) → ∃ l : List α, l.length = n ∧ ∀ i x, l[i]? = some x → P i x
  | 0, _ => ⟨[], rfl, fun i x h => by simp at h⟩
  | n + 1, h => by
    obtain ⟨l, hl, hp⟩ := list_of n (fun i hi => h i (by omega))
    obtain ⟨x, hx⟩ := h n (by omega)
    refine ⟨l ++ [x], by simp [hl], fun i y hy => ?_⟩
    by_cases hi : i < n
    · rw [List.getElem?_append_left (by omega)] at hy; exact hp i y hy
    · rw [List.getElem?_append_right (by omega)] at hy
      by_cases hj : i - l.length = 0
      · rw [hj] at hy; simp at hy; have : i = n := by omega
        subst this; subst hy; exact hx
      · obtain ⟨k, hk⟩ : ∃ k, i - l.length = k + 1 := ⟨i - l.length - 1, by omega⟩
        rw [hk] at hy; simp at hy

section
variable {H : Type} {enc : TypeId × Value → H} {W : World} {base : Nat} {spare : Nat → Bool} {held : Bool}

theorem cell_of_one (L : List Value) (a n i : Nat) (v : Value) (h : ((List.take n (List.drop a L)).drop i).take 1 = [v]) (hi : i < n) : L[a + i]? = some v := by
  have := congrArg (fun z => z[0]?) h
  simp only [List.getElem?_take, List.getElem?_drop, List.getElem?_cons_zero, Nat.add_zero, Nat.lt_one_iff, if_true] at this
  rw [if_pos hi] at this
  exact this

theorem open_row {t e : TypeId} {fuel a : Nat} {L : List Value} {x : DataW H × List MemPlace} (ht : Try.prog.underlying t = some (.array 8 e)) (he : Try.prog.underlying e = some (.int .u32)) (hc : Try.prog.cellsOf e = 1)
    (h : DataW.trod enc Try.prog W base spare held fuel t (List.take 8 (List.drop a L)) = some x) (i : Nat) (hi : i < 8) : ∃ n : Int, (0 ≤ n ∧ n < 4294967296) ∧ L[a + i]? = some (.int .u32 n) := by
  obtain ⟨ys, m, _, _, _, hl, hy⟩ := DataW.trod_array ht h
  have h1 := hy i hi
  rw [hc, Nat.mul_one, List.getElem?_eq_getElem (show i < ys.length by omega)] at h1
  obtain ⟨n, e1, _, u⟩ := DataW.trod_int he h1
  simp [Lit.wf, IntKind.min, IntKind.max, IntKind.signed, IntKind.bits] at u
  exact ⟨n, by omega, cell_of_one L a 8 i _ e1 hi⟩

set_option maxRecDepth 100000 in
theorem open_tab {r : Reach} {b0 : Nat} {v : Value} {d : DataW H} {ps : List MemPlace} (hv : Value.okWide Try.prog W r b0 39 v) (h : DataW.Trod enc Try.prog W base spare held 39 v d ps) :
    ∃ (xs : List Int) (l : Int), v = .agg (tabV xs l) ∧ xs.length = 136 ∧ (∀ x ∈ xs, 0 ≤ x ∧ x < 4294967296) ∧ 0 ≤ l ∧ l < 18446744073709551616 := by
  obtain ⟨cs, rfl, hs⟩ := okWide_struct Try.underlying39 hv
  have hs' : cs.size = 137 := hs.trans (by kernel_rfl)
  obtain ⟨fuel, hf⟩ := h
  obtain ⟨ys, n, _, _, _, hl, hy⟩ := DataW.trod_struct Try.underlying39 hf
  have hl3 : ys.length = 3 := hl
  have f0 : DataW.trod enc Try.prog W base spare held n 36 (List.take (Try.prog.cellsOf 36) (List.drop 0 cs.toList)) = ys[0]? := hy 0 _ rfl
  have f1 : DataW.trod enc Try.prog W base spare held n 37 (List.take (Try.prog.cellsOf 37) (List.drop 8 cs.toList)) = ys[1]? := hy 1 _ rfl
  have f2 : DataW.trod enc Try.prog W base spare held n 22 (List.take (Try.prog.cellsOf 22) (List.drop 136 cs.toList)) = ys[2]? := hy 2 _ rfl
  rw [List.getElem?_eq_getElem (show 0 < ys.length by omega)] at f0
  rw [List.getElem?_eq_getElem (show 1 < ys.length by omega)] at f1
  rw [List.getElem?_eq_getElem (show 2 < ys.length by omega)] at f2
  have c36 : Try.prog.cellsOf 36 = 8 := by kernel_rfl
  have c37 : Try.prog.cellsOf 37 = 128 := by kernel_rfl
  have c34 : Try.prog.cellsOf 34 = 1 := by kernel_rfl
  have c22 : Try.prog.cellsOf 22 = 1 := by kernel_rfl
  rw [c36] at f0
  rw [c37] at f1
  rw [c22] at f2
  have key : ∀ i, i < 136 → ∃ x : Int, (0 ≤ x ∧ x < 4294967296) ∧ cs.toList[i]? = some (.int .u32 x) := by
    intro i hi
    by_cases h8 : i < 8
    · obtain ⟨x, hx, hc⟩ := open_row Try.underlying36 Try.underlying34 c34 f0 i h8
      rw [Nat.zero_add] at hc
      exact ⟨x, hx, hc⟩
    · obtain ⟨zs, m, _, _, _, hzl, hz⟩ := DataW.trod_array Try.underlying37 f1
      have hq : (i - 8) / 8 < 16 := by omega
      have h1 := hz ((i - 8) / 8) hq
      rw [c36, List.getElem?_eq_getElem (show (i - 8) / 8 < zs.length by omega)] at h1
      obtain ⟨x, hx, hc⟩ := open_row Try.underlying36 Try.underlying34 c34 h1 ((i - 8) % 8) (by omega)
      rw [List.getElem?_take, List.getElem?_drop, if_pos (by omega), show 8 + ((i - 8) / 8 * 8 + (i - 8) % 8) = i by omega] at hc
      exact ⟨x, hx, hc⟩
  obtain ⟨l, el, _, ul⟩ := DataW.trod_int Try.underlying22 f2
  have hl136 : cs.toList[136]? = some (.int .u64 l) := by
    have := congrArg (fun z => z[0]?) el
    simp only [List.getElem?_take, List.getElem?_drop, List.getElem?_cons_zero, Nat.add_zero, Nat.lt_one_iff, if_true] at this
    exact this
  simp [Lit.wf, IntKind.min, IntKind.max, IntKind.signed, IntKind.bits] at ul
  obtain ⟨xs, hxl, hxp⟩ := list_of 136 key
  refine ⟨xs, l, ?_, hxl, ?_, by omega, by omega⟩
  · congr 1
    apply Array.ext_getElem?
    intro k
    rw [tabV_at xs l hxl]
    by_cases hk : k < 136
    · rw [if_pos hk]
      have := (hxp k _ (List.getElem?_eq_getElem (show k < xs.length by omega))).2
      rw [show cs[k]? = cs.toList[k]? by simp, this]
      simp [gx, List.getD, List.getElem?_eq_getElem (show k < xs.length by omega)]
    · rw [if_neg hk]
      by_cases hk2 : k = 136
      · rw [if_pos hk2, hk2, ← hl136]; simp
      · rw [if_neg hk2]; exact Array.getElem?_eq_none (by omega)
  · intro x hx
    obtain ⟨i, hi⟩ := List.getElem?_of_mem hx
    exact (hxp i x hi).1

theorem list4 : ∀ (cs : List Value), cs.length = 4 → ∃ a b c d, cs = [a, b, c, d]
  | [a, b, c, d], _ => ⟨a, b, c, d, rfl⟩

set_option maxRecDepth 100000 in
theorem open_steps {r : Reach} {b0 : Nat} {v : Value} {d : DataW H} {ps : List MemPlace} {t : TypeId} (ht : Try.prog.underlying t = some (.slice 47)) (hv : Value.okWide Try.prog W r b0 t v) (h : DataW.Trod enc Try.prog W base spare held t v d ps) :
    ∃ A c l, v = .slice A l.length c ∧ l.length ≤ c ∧ StepsAt W A l := by
  obtain ⟨A, len, cap, rfl⟩ := okWide_slice ht hv
  obtain ⟨fuel, hf⟩ := h
  have hz : Try.prog.cellsOf 47 = 4 := by kernel_rfl
  rcases DataW.trod_slice ht hf with ⟨hc, _⟩ | ⟨a, len', cap', es, rs, m, rfl, hc, _, hb, hl, hm, he, hr, _, _⟩
  · simp [Value.cells] at hc
    obtain ⟨rfl, rfl, rfl⟩ := hc
    exact ⟨none, 0, [], rfl, by simp, fun h => by simp at h⟩
  · simp [Value.cells] at hc
    obtain ⟨rfl, rfl, rfl⟩ := hc
    have key : ∀ i, i < len → ∃ s : Stp, W.cell? (a.add (i * 4)) = some (.int .i64 s.c) ∧ W.cell? ⟨(a.add (i * 4)).block, (a.add (i * 4)).off + 1, none⟩ = some (.int .i64 s.k) ∧
        W.cell? ⟨(a.add (i * 4)).block, (a.add (i * 4)).off + 2, none⟩ = some (.int .u64 s.r) ∧ W.cell? ⟨(a.add (i * 4)).block, (a.add (i * 4)).off + 3, none⟩ = some (.bool s.s) := by
      intro i hi
      have h1 := hr i hi
      rw [hz] at h1
      have h2 : es[i]? = some (es[i]'(by omega)) := List.getElem?_eq_getElem _
      rw [h2, Option.bind_eq_some_iff] at h1
      obtain ⟨cs, hcs, ht2⟩ := h1
      obtain ⟨_, hlen, hat⟩ := World.cells?_some hcs
      obtain ⟨zs, n, _, _, _, hzl, hy⟩ := DataW.trod_struct Try.underlying47 ht2
      have hl4 : zs.length = 4 := hzl
      obtain ⟨b0, b1, b2, b3, rfl⟩ := list4 cs hlen
      have f0 : DataW.trod enc Try.prog W base spare held n 3 (List.take (Try.prog.cellsOf 3) (List.drop 0 [b0, b1, b2, b3])) = zs[0]? := hy 0 _ rfl
      have f1 : DataW.trod enc Try.prog W base spare held n 3 (List.take (Try.prog.cellsOf 3) (List.drop 1 [b0, b1, b2, b3])) = zs[1]? := hy 1 _ rfl
      have f2 : DataW.trod enc Try.prog W base spare held n 22 (List.take (Try.prog.cellsOf 22) (List.drop 2 [b0, b1, b2, b3])) = zs[2]? := hy 2 _ rfl
      have f3 : DataW.trod enc Try.prog W base spare held n 4 (List.take (Try.prog.cellsOf 4) (List.drop 3 [b0, b1, b2, b3])) = zs[3]? := hy 3 _ rfl
      rw [show Try.prog.cellsOf 3 = 1 by kernel_rfl, List.getElem?_eq_getElem (show 0 < zs.length by omega)] at f0
      rw [show Try.prog.cellsOf 3 = 1 by kernel_rfl, List.getElem?_eq_getElem (show 1 < zs.length by omega)] at f1
      rw [show Try.prog.cellsOf 22 = 1 by kernel_rfl, List.getElem?_eq_getElem (show 2 < zs.length by omega)] at f2
      rw [show Try.prog.cellsOf 4 = 1 by kernel_rfl, List.getElem?_eq_getElem (show 3 < zs.length by omega)] at f3
      obtain ⟨x0, e0, _, _⟩ := DataW.trod_int Try.underlying3 f0
      obtain ⟨x1, e1, _, _⟩ := DataW.trod_int Try.underlying3 f1
      obtain ⟨x2, e2, _, _⟩ := DataW.trod_int Try.underlying22 f2
      obtain ⟨x3, e3, _⟩ := DataW.trod_bool Try.underlying4 f3
      simp at e0 e1 e2 e3
      subst e0 e1 e2 e3
      have q0 := hat 0 (by omega)
      have q1 := hat 1 (by omega)
      have q2 := hat 2 (by omega)
      have q3 := hat 3 (by omega)
      exact ⟨⟨x0, x1, x2, x3⟩, by simpa [Addr.add] using q0, by simpa [Addr.add] using q1, by simpa [Addr.add] using q2, by simpa [Addr.add] using q3⟩
    obtain ⟨l, rfl, hp⟩ := list_of len key
    exact ⟨some a, cap, l, rfl, hl, fun _ => ⟨a, rfl, hp⟩⟩
end
end Go.Proofs.Ytdmmklfphkgmlaa.Tb
