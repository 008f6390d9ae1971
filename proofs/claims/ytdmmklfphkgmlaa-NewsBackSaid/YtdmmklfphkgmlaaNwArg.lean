/- A law's argument that is a slice of structs of two words: opened to the row that is read. -/
import Derived.Test.YtdmmklfphkgmlaaNwReports
import Derived.ChangeArms
import Derived.ChangeSame
import Derived.DataReads
namespace Go.Proofs.Ytdmmklfphkgmlaa.Ba
open Go.ChangeShapes Go.RowKit Go.Proofs.YtdmmklfphkgmlaaW.PrintWords Go.Proofs.YtdmmklfphkgmlaaW.PrintLast Go.Proofs.YtdmmklfphkgmlaaW.PrintMore Go.Proofs.Ytdmmklfphkgmlaa.Om

theorem list_of {α : Type} {P : Nat → α → Prop} : ∀ (n : Nat), (∀ i, i < n → ∃ x, P i x) → ∃ l : List α, l.length = n ∧ ∀ i x, l[i]? = some x → P i x
  | 0, _ => ⟨[], rfl, fun i x h => by simp at h⟩
  | n + 1, h => by
    obtain ⟨l, hl, hp⟩ := list_of n (fun i hi => h i (by omega))
    obtain ⟨x, hx⟩ := h n (by omega)
    refine ⟨l ++ [x], by simp [hl], fun i y hy => ?_⟩
    by_cases hi : i < n
    · rw [List.getElem?_append_left (by omega)] at hy; exact hp i y hy
    · rw [List.getElem?_append_right (by omega)] at hy
      by_cases hj : i - l.length = 0
      · rw [hj] at hy; simp at hy; have : i = n := by omega
        subst this; subst hy; exact hx
      · obtain ⟨k, hk⟩ : ∃ k, i - l.length = k + 1 := ⟨i - l.length - 1, by omega⟩
        rw [hk] at hy; simp at hy

theorem list2 : ∀ (cs : List Value), cs.length = 2 → ∃ a b, cs = [a, b]
  | [a, b], _ => ⟨a, b, rfl⟩

theorem open_rows112 {H : Type} {enc : TypeId × Value → H} {W : World} {base : Nat} {spare : Nat → Bool} {held : Bool} {n t : Nat} {v : Value} {y : DataW H × List MemPlace} (ht : Try.prog.underlying t = some (.slice 112))
    (h : DataW.trod enc Try.prog W base spare held n t [v] = some y) :
    ∃ A c l, v = .slice A l.length c ∧ l.length ≤ c ∧ Kd.C k112 W A l.length l ∧ Wide (l.map p112) := by
  have hz : Try.prog.cellsOf 112 = 2 := by kernel_rfl
  rcases DataW.trod_slice ht h with ⟨hc, _⟩ | ⟨a, len, cap, es, rs, m, rfl, hc, _, hb, hl, hm, he, hr, _, _⟩
  · simp at hc; subst hc
    exact ⟨none, 0, [], rfl, by simp, ⟨rfl, by simp, by simp⟩, by simp [Wide]⟩
  · simp at hc; subst hc
    have key : ∀ i, i < len → ∃ x : S112, (0 ≤ x.f0 ∧ x.f0 < 4294967296 ∧ 0 ≤ x.f1 ∧ x.f1 < 4294967296) ∧ W.cell? (a.add (i * 2)) = some (.int .u32 x.f0) ∧ W.cell? (a.add (i * 2 + 1)) = some (.int .u32 x.f1) := by
      intro i hi
      have h1 := hr i hi
      rw [hz] at h1
      have h2 : es[i]? = some (es[i]'(by omega)) := List.getElem?_eq_getElem _
      rw [h2, Option.bind_eq_some_iff] at h1
      obtain ⟨cs, hcs, ht2⟩ := h1
      obtain ⟨_, hlen, hat⟩ := World.cells?_some hcs
      obtain ⟨y0, y1, m', _, _, g0, g1⟩ := trod_struct2 Try.underlying112 ht2
      obtain ⟨x0, e0, _, u0⟩ := DataW.trod_int Try.underlying34 g0
      obtain ⟨x1, e1, _, u1⟩ := DataW.trod_int Try.underlying34 g1
      obtain ⟨b0, b1, rfl⟩ := list2 cs hlen
      simp [show Try.prog.cellsOf 34 = 1 by kernel_rfl] at e0 e1
      subst e0 e1
      simp [Lit.wf, IntKind.min, IntKind.max, IntKind.signed, IntKind.bits] at u0 u1
      have c0 := hat 0 (by omega)
      have c1 := hat 1 (by omega)
      simp only [Addr.add, Nat.add_zero] at c0 c1
      refine ⟨⟨x0, x1⟩, ⟨u0.1, show x0 < _ by omega, u1.1, show x1 < _ by omega⟩, by simpa [Addr.add] using c0, ?_⟩
      rcases Nat.eq_zero_or_pos i with h | h
      · subst h; simpa [Addr.add] using c1
      · have hn : ¬ i * 2 = 0 := by omega
        have hi0 : ¬ i = 0 := by omega
        simpa [Addr.add, hn, hi0, Nat.add_assoc] using c1
    obtain ⟨l, rfl, hp⟩ := list_of len key
    refine ⟨some a, cap, l, rfl, hl, ⟨rfl, Nat.le_trans (Nat.le_trans hl hm) (by decide), fun _ => ⟨a, rfl, fun j p hj => ?_⟩⟩, ?_⟩
    · obtain ⟨_, q0, q1⟩ := hp j p hj
      refine ⟨[.int .u32 p.f0, .int .u32 p.f1], rfl, k112_mk W p, fun i u hu => ?_⟩
      match i with
      | 0 => simp at hu; subst hu; exact q0
      | 1 => simp at hu; subst hu; exact q1
      | i + 2 => simp at hu
    · intro x hx
      rw [List.mem_map] at hx
      obtain ⟨p, hp', rfl⟩ := hx
      obtain ⟨i, hi⟩ := List.getElem?_of_mem hp'
      exact (hp i p hi).1
end Go.Proofs.Ytdmmklfphkgmlaa.Ba
