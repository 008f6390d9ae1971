/- News, reports: when a report may be, told as one Bool of its rows; the program's may and the document's May come to it. -/
import Derived.Test.YtdmmklfphkgmlaaBaNwMR
import Derived.Test.YtdmmklfphkgmlaaNwRounds
namespace Go.Proofs.Ytdmmklfphkgmlaa.Ba
open Go.RowKit Go.Proofs.YtdmmklfphkgmlaaW.PrintWords Go.Proofs.YtdmmklfphkgmlaaW.PrintLast Go.Proofs.YtdmmklfphkgmlaaW.PrintMore Go.Proofs.Ytdmmklfphkgmlaa.Om

def p112 (x : S112) : Int × Int := (x.f0, x.f1)
def p114 (x : S114) : Int × Int := (x.f0, x.f1)
def gp (ps : List (Int × Int)) (j : Nat) : Int × Int := ps.getD j (0, 0)
theorem rd112_f0 (l : List S112) (j : Nat) : (rd_T112 l (j : Int)).f0 = (gp (l.map p112) j).1 := by
  unfold rd_T112 gp; rw [Int.toNat_natCast, List.getD_eq_getElem?_getD, List.getD_eq_getElem?_getD, List.getElem?_map]; cases l[j]? <;> rfl
theorem rd112_f1 (l : List S112) (j : Nat) : (rd_T112 l (j : Int)).f1 = (gp (l.map p112) j).2 := by
  unfold rd_T112 gp; rw [Int.toNat_natCast, List.getD_eq_getElem?_getD, List.getD_eq_getElem?_getD, List.getElem?_map]; cases l[j]? <;> rfl
theorem rd114_f0 (l : List S114) (j : Nat) : (rd_T114 l (j : Int)).f0 = (gp (l.map p114) j).1 := by
  unfold rd_T114 gp; rw [Int.toNat_natCast, List.getD_eq_getElem?_getD, List.getD_eq_getElem?_getD, List.getElem?_map]; cases l[j]? <;> rfl
theorem rd114_f1 (l : List S114) (j : Nat) : (rd_T114 l (j : Int)).f1 = (gp (l.map p114) j).2 := by
  unfold rd_T114 gp; rw [Int.toNat_natCast, List.getD_eq_getElem?_getD, List.getD_eq_getElem?_getD, List.getElem?_map]; cases l[j]? <;> rfl

/-- Row j is met at least once, and is above the one ahead of it. -/
def okAt (ps : List (Int × Int)) (j : Nat) : Bool := !decide ((gp ps j).2 = 0) && (decide (j = 0) || decide ((gp ps (j - 1)).1 < (gp ps j).1))
/-- The d rows from i on. -/
def okFrom (ps : List (Int × Int)) : Nat → Nat → Bool
  | _, 0 => true
  | i, d + 1 => okAt ps i && okFrom ps (i + 1) d
def mayB (ps : List (Int × Int)) : Bool := decide (1 ≤ ps.length) && decide (ps.length ≤ 256) && okFrom ps 0 ps.length

theorem may_l (a : Int) (l : List S112) (hl : l.length ≤ 256) : ∀ (d k i : Nat), i + d = l.length → d < k →
    news_Report_may.l0 k l (l.length : Int) i a l = some (okFrom (l.map p112) i d) := by
  intro d
  induction d with
  | zero =>
    intro k i hi hk
    obtain ⟨k, rfl⟩ : ∃ m, k = m + 1 := ⟨k - 1, by omega⟩
    simp only [news_Report_may.l0, okFrom]
    rw [if_neg (by omega)]
  | succ d ih =>
    intro k i hi hk
    obtain ⟨k, rfl⟩ : ∃ m, k = m + 1 := ⟨k - 1, by omega⟩
    have hn := ih k (i + 1) (by omega) (by omega)
    rw [show ((i + 1 : Nat) : Int) = (i : Int) + 1 by omega] at hn
    simp only [news_Report_may.l0, okFrom, okAt]
    rw [if_pos (by omega), if_pos (by omega), if_pos (by omega), rd112_f1, rd112_f0, w64 (x := (i : Int) + 1) (by omega) (by omega), hn]
    by_cases a1 : (gp (l.map p112) i).2 = 0
    · rw [if_pos a1]; simp [a1]
    · rw [if_neg a1]
      by_cases a2 : i = 0
      · subst a2
        rw [if_neg (by omega)]; simp [a1]
      · rw [if_pos (by omega), w64 (x := (i : Int) - 1) (by omega) (by omega), if_pos (by omega), if_pos (by omega), show (i : Int) - 1 = ((i - 1 : Nat) : Int) by omega, rd112_f0]
        by_cases a3 : (gp (l.map p112) (i - 1)).1 < (gp (l.map p112) i).1
        · rw [if_neg (by omega)]; simp [a1, a3]
        · rw [if_pos (by omega)]; simp [a2, a3]

theorem may_any (a : Int) (l : List S112) (hl : l.length ≤ 9223372036854775807) (k : Nat) (hk : l.length + 2 ≤ k ∨ 260 ≤ k) : news_Report_may.f k a l = some (mayB (l.map p112)) := by
  obtain ⟨k, rfl⟩ : ∃ m, k = m + 1 := ⟨k - 1, by omega⟩
  unfold news_Report_may.f mayB
  rw [List.length_map]
  by_cases c1 : l.length = 0
  · rw [if_pos (by omega)]; simp [news_Report_may.j0, c1]
  · rw [if_neg (by omega)]
    by_cases c2 : l.length > 256
    · rw [decide_eq_true (show (l.length : Int) > 256 by omega)]
      simp [news_Report_may.j0, show ¬ l.length ≤ 256 by omega]
    · rw [decide_eq_false (show ¬ (l.length : Int) > 256 by omega)]
      simp only [news_Report_may.j0]
      rw [if_neg (by decide)]
      have := may_l a l (by omega) l.length k 0 (by omega) (by omega)
      rw [show ((0 : Nat) : Int) = 0 from rfl] at this
      rw [this]; simp [show 1 ≤ l.length by omega, show l.length ≤ 256 by omega]

theorem rmay_l (a : Int) (l : List S114) (hl : l.length ≤ 256) : ∀ (d k i : Nat), i + d = l.length → d < k →
    chaffref19_May.l0 k i a l = some (okFrom (l.map p114) i d) := by
  intro d
  induction d with
  | zero =>
    intro k i hi hk
    obtain ⟨k, rfl⟩ : ∃ m, k = m + 1 := ⟨k - 1, by omega⟩
    simp only [chaffref19_May.l0, okFrom]
    rw [if_neg (by omega)]
  | succ d ih =>
    intro k i hi hk
    obtain ⟨k, rfl⟩ : ∃ m, k = m + 1 := ⟨k - 1, by omega⟩
    have hn := ih k (i + 1) (by omega) (by omega)
    rw [show ((i + 1 : Nat) : Int) = (i : Int) + 1 by omega] at hn
    simp only [chaffref19_May.l0, okFrom, okAt]
    rw [if_pos (by omega), if_pos (by omega), rd114_f1, rd114_f0, w64 (x := (i : Int) + 1) (by omega) (by omega), hn]
    by_cases a1 : (gp (l.map p114) i).2 = 0
    · rw [if_pos a1]; simp [a1]
    · rw [if_neg a1]
      by_cases a2 : i = 0
      · subst a2
        rw [if_neg (by omega)]; simp [a1]
      · rw [if_pos (by omega), w64 (x := (i : Int) - 1) (by omega) (by omega), if_pos (by omega), if_pos (by omega), show (i : Int) - 1 = ((i - 1 : Nat) : Int) by omega, rd114_f0]
        by_cases a3 : (gp (l.map p114) (i - 1)).1 < (gp (l.map p114) i).1
        · rw [if_neg (by omega)]; simp [a1, a3]
        · rw [if_pos (by omega)]; simp [a2, a3]

theorem rmay_any (a : Int) (l : List S114) (hl : l.length ≤ 9223372036854775807) (k : Nat) (hk : l.length + 2 ≤ k ∨ 260 ≤ k) : chaffref19_May.f k a l = some (mayB (l.map p114)) := by
  obtain ⟨k, rfl⟩ : ∃ m, k = m + 1 := ⟨k - 1, by omega⟩
  unfold chaffref19_May.f mayB
  rw [List.length_map]
  by_cases c1 : l.length = 0
  · rw [if_pos (by omega)]; simp [chaffref19_May.j0, c1]
  · rw [if_neg (by omega)]
    by_cases c2 : l.length > 256
    · rw [decide_eq_true (show (l.length : Int) > 256 by omega)]
      simp [chaffref19_May.j0, show ¬ l.length ≤ 256 by omega]
    · rw [decide_eq_false (show ¬ (l.length : Int) > 256 by omega)]
      simp only [chaffref19_May.j0]
      rw [if_neg (by decide)]
      have := rmay_l a l (by omega) l.length k 0 (by omega) (by omega)
      rw [show ((0 : Nat) : Int) = 0 from rfl] at this
      rw [this]; simp [show 1 ≤ l.length by omega, show l.length ≤ 256 by omega]

end Go.Proofs.Ytdmmklfphkgmlaa.Ba
