/- News, reports: the plain facts: what both OpenReports answer of any bytes. -/
import Derived.Test.YtdmmklfphkgmlaaNwOpenR
import Derived.Test.YtdmmklfphkgmlaaBaNwHO
namespace Go.Proofs.Ytdmmklfphkgmlaa.Ba
open Go.RowKit Go.Proofs.YtdmmklfphkgmlaaW.PrintWords Go.Proofs.YtdmmklfphkgmlaaW.PrintLast Go.Proofs.YtdmmklfphkgmlaaW.PrintMore Go.Proofs.Ytdmmklfphkgmlaa.Om

def rowAt (s : ByteArray) (i : Nat) : Int × Int := (tv (s.extract (7 + 8 * i) s.size) 4, tv (s.extract (11 + 8 * i) s.size) 4)
def rowsFrom (s : ByteArray) : Nat → Nat → List (Int × Int)
  | _, 0 => []
  | i, d + 1 => rowAt s i :: rowsFrom s (i + 1) d
/-- How many rows the head tells. -/
def rowsN (s : ByteArray) : Nat := (tv (s.extract 5 s.size) 2).toNat
/-- What both OpenReports answer. -/
def openS (s : ByteArray) : Int × List (Int × Int) × Int :=
  if s.size = 0 then (0, [], 10) else if bt s 0 ≠ 72 then (0, [], 4) else if s.size < 7 then (0, [], 10)
  else if s.size < 7 + 8 * rowsN s then (0, [], 10) else if 7 + 8 * rowsN s < s.size then (0, [], 11)
  else if mayB (rowsFrom s 0 (rowsN s)) = true then (tv (s.extract 1 s.size) 4, rowsFrom s 0 (rowsN s), 0) else (0, [], 4)

theorem rowsN_lt (s : ByteArray) : rowsN s < 65536 := by
  obtain ⟨h0, h1⟩ := tv_range (s.extract 5 s.size) 2
  unfold rowsN
  simp at h1; omega

theorem head_eq72 (s : ByteArray) (h : s.size ≠ 0) : (s.extract 0 1).toList = (⟨#[72]⟩ : ByteArray).toList ↔ bt s 0 = 72 := by
  rw [ByteArray.toList_eq, ByteArray.toList_eq, data_extract]
  have hb := bt_eq s 0
  have hl : 0 < s.data.toList.length := by simp; omega
  obtain ⟨x, l, hx⟩ : ∃ x l, s.data.toList = x :: l := by
    cases hs : s.data.toList with
    | nil => rw [hs] at hl; simp at hl
    | cons x l => exact ⟨x, l, rfl⟩
  rw [hx] at hb ⊢
  simp only [List.getD_cons_zero] at hb
  rw [show ((0 : Nat) : Int) = 0 from rfl] at hb
  rw [hb]
  simp only [List.drop_zero, Nat.sub_zero, List.take_succ_cons, List.take_zero, List.cons.injEq, and_true]
  constructor
  · intro e; rw [e]; rfl
  · intro e
    have : x.toNat = (72 : UInt8).toNat := by
      have : ((72 : UInt8).toNat : Int) = 72 := rfl
      omega
    exact UInt8.toNat_inj.1 this

/-- Two numbers of four bytes taken off a tail. -/
theorem take44 (s : ByteArray) (a : Nat) (ha : a ≤ s.size) :
    (s.size < a + 8 → (takeN (s.extract a s.size) [4, 4] []).1 = ⟨#[]⟩ ∧ (takeN (s.extract a s.size) [4, 4] []).2.1 = 10) ∧
    (a + 8 ≤ s.size → takeN (s.extract a s.size) [4, 4] [] = (s.extract (a + 8) s.size, 0, [tv (s.extract a s.size) 4, tv (s.extract (a + 4) s.size) 4])) := by
  have hz := size_tail s a
  have hz4 := size_tail s (a + 4)
  constructor
  · intro h
    simp only [takeN]
    by_cases q : s.size < a + 4
    · have : takeS (s.extract a s.size) 4 = (0, ⟨#[]⟩, 10) := by unfold takeS; rw [if_neg (by decide), if_pos (by omega)]
      rw [this]; simp
    · have e1 : takeS (s.extract a s.size) 4 = (tv (s.extract a s.size) 4, s.extract (a + 4) s.size, 0) := by
        unfold takeS; rw [if_neg (by decide), if_neg (by omega), show ((4 : Int)).toNat = 4 from rfl, extract_extract s a 4 (by omega)]
      have e2 : takeS (s.extract (a + 4) s.size) 4 = (0, ⟨#[]⟩, 10) := by unfold takeS; rw [if_neg (by decide), if_pos (by omega)]
      rw [e1]; simp [e2]
  · intro h
    have e1 : takeS (s.extract a s.size) 4 = (tv (s.extract a s.size) 4, s.extract (a + 4) s.size, 0) := by
      unfold takeS; rw [if_neg (by decide), if_neg (by omega), show ((4 : Int)).toNat = 4 from rfl, extract_extract s a 4 (by omega)]
    have e2 : takeS (s.extract (a + 4) s.size) 4 = (tv (s.extract (a + 4) s.size) 4, s.extract (a + 8) s.size, 0) := by
      unfold takeS; rw [if_neg (by decide), if_neg (by omega), show ((4 : Int)).toNat = 4 from rfl, extract_extract s (a + 4) 4 (by omega)]
    simp only [takeN, e1, e2, if_true]
    rfl

theorem u32_tv (s : ByteArray) : IntKind.u32.wrap (tv s 4) = tv s 4 := by
  obtain ⟨h0, h1⟩ := tv_range s 4
  rw [IntKind.wrap_u32]
  simp at h1; omega

theorem rowsT_any (s : ByteArray) (n : Nat) : ∀ (d i : Nat) (acc : List (Int × Int)), i + d = n → 7 + 8 * i ≤ s.size →
    rowsT d (s.extract (7 + 8 * i) s.size) acc = if s.size < 7 + 8 * n then (⟨#[]⟩, 10, []) else (s.extract (7 + 8 * n) s.size, 0, acc ++ rowsFrom s i d) := by
  intro d
  induction d with
  | zero =>
    intro i acc hi hs
    obtain rfl : i = n := by omega
    rw [if_neg (by omega)]; simp [rowsT, rowsFrom]
  | succ d ih =>
    intro i acc hi hs
    obtain ⟨t1, t2⟩ := take44 s (7 + 8 * i) hs
    simp only [rowsT]
    by_cases c : s.size < 7 + 8 * i + 8
    · obtain ⟨e1, e2⟩ := t1 c
      rw [e2, if_neg (by decide), if_pos (by omega)]
    · have e := t2 (by omega)
      rw [e]
      simp only [if_true, List.getD_cons_zero, List.getD_cons_succ, u32_tv]
      have := ih (i + 1) (acc ++ [(tv (s.extract (7 + 8 * i) s.size) 4, tv (s.extract (7 + 8 * i + 4) s.size) 4)]) (by omega) (by omega)
      rw [show 7 + 8 * (i + 1) = 7 + 8 * i + 8 by omega] at this
      rw [this]
      by_cases c2 : s.size < 7 + 8 * n
      · rw [if_pos c2, if_pos c2]
      · rw [if_neg c2, if_neg c2]
        simp only [rowsFrom, rowAt, List.append_assoc, List.singleton_append]
        rw [show 11 + 8 * i = 7 + 8 * i + 4 by omega]

/-- Rows as the document has them. -/
def to114 (ps : List (Int × Int)) : List S114 := ps.map fun p => ⟨p.1, p.2⟩
theorem p114_to (ps : List (Int × Int)) : (to114 ps).map p114 = ps := by unfold to114; rw [List.map_map]; exact List.map_id'' (fun _ => rfl) ps

theorem rowsFrom_len (s : ByteArray) : ∀ d i, (rowsFrom s i d).length = d
  | 0, _ => rfl
  | d + 1, i => by simp [rowsFrom, rowsFrom_len s d (i + 1)]

theorem ropen_l (s : ByteArray) (n : Nat) (ep : Int) (hn : n < 65536) (hs : s.size = 7 + 8 * n) : ∀ (d k i : Nat) (acc : List (Int × Int)), i + d = n → acc.length = i → d + n + 270 ≤ k →
    chaffref19_OpenReport.l0 k s n i ep (to114 acc) = if mayB (acc ++ rowsFrom s i d) = true then some (ep, to114 (acc ++ rowsFrom s i d), 0) else some (0, [], 4) := by
  intro d
  induction d with
  | zero =>
    intro k i acc hi ha hk
    obtain ⟨k, rfl⟩ : ∃ m, k = m + 1 := ⟨k - 1, by omega⟩
    simp only [chaffref19_OpenReport.l0, rowsFrom, List.append_nil]
    have hl : (to114 acc).length = acc.length := by simp [to114]
    rw [if_neg (by omega), rmay_any ep (to114 acc) (by omega) k (by omega), p114_to]
    simp only [Option.bind_some]
  | succ d ih =>
    intro k i acc hi ha hk
    obtain ⟨k, rfl⟩ : ∃ m, k = m + 1 := ⟨k - 1, by omega⟩
    have g1 := get_any s (7 + 8 * i) 4 (by omega) (by omega) (by omega) k (by omega)
    have g2 := get_any s (11 + 8 * i) 4 (by omega) (by omega) (by omega) k (by omega)
    have hl : (to114 acc).length = acc.length := by simp [to114]
    simp only [chaffref19_OpenReport.l0]
    rw [if_pos (by omega), w64 (x := 8 * (i : Int)) (by omega) (by omega), w64 (x := 7 + 8 * (i : Int)) (by omega) (by omega), w64 (x := 11 + 8 * (i : Int)) (by omega) (by omega), w64 (x := (i : Int) + 1) (by omega) (by omega)]
    rw [show ((7 + 8 * i : Nat) : Int) = 7 + 8 * (i : Int) by omega, show ((4 : Nat) : Int) = 4 from rfl] at g1
    rw [show ((11 + 8 * i : Nat) : Int) = 11 + 8 * (i : Int) by omega, show ((4 : Nat) : Int) = 4 from rfl] at g2
    rw [g1, g2]
    simp only [Option.bind_some]
    rw [if_pos (by omega)]
    obtain ⟨a0, a1⟩ := tv_range (s.extract (7 + 8 * i) s.size) 4
    obtain ⟨b0, b1⟩ := tv_range (s.extract (11 + 8 * i) s.size) 4
    rw [Int.emod_eq_of_lt a0 (by simpa using a1), Int.emod_eq_of_lt b0 (by simpa using b1)]
    have := ih k (i + 1) (acc ++ [rowAt s i]) (by omega) (by simp; omega) (by omega)
    rw [show ((i + 1 : Nat) : Int) = (i : Int) + 1 by omega] at this
    have e : to114 (acc ++ [rowAt s i]) = to114 acc ++ [(⟨tv (s.extract (7 + 8 * i) s.size) 4, tv (s.extract (11 + 8 * i) s.size) 4⟩ : S114)] := by simp [to114, rowAt]
    rw [e, List.append_assoc, List.singleton_append] at this
    simp only [rowsFrom]
    exact this

theorem ropen_any (s : ByteArray) (k : Nat) (hk : 140000 ≤ k) : chaffref19_OpenReport.f k s = some ((openS s).1, to114 (openS s).2.1, (openS s).2.2) := by
  have hn := rowsN_lt s
  obtain ⟨t0, t1⟩ := tv_range (s.extract 5 s.size) 2
  have hN : ((rowsN s : Nat) : Int) = tv (s.extract 5 s.size) 2 := by unfold rowsN; omega
  unfold chaffref19_OpenReport.f openS
  by_cases h0 : s.size = 0
  · rw [if_pos (by omega), if_pos h0]; rfl
  · rw [if_neg (by omega), if_neg h0, if_pos (by omega)]
    by_cases h1 : bt s 0 = 72
    · rw [if_pos h1, if_neg (show ¬ (bt s 0 ≠ 72) by simpa using h1)]
      by_cases h2 : s.size < 7
      · rw [if_pos (by omega), if_pos h2]; rfl
      · have g1 := get_any s 5 2 (by omega) (by omega) (by omega) k (by omega)
        have g2 := get_any s 1 4 (by omega) (by omega) (by omega) k (by omega)
        rw [show ((5 : Nat) : Int) = 5 from rfl, show ((2 : Nat) : Int) = 2 from rfl] at g1
        rw [show ((1 : Nat) : Int) = 1 from rfl, show ((4 : Nat) : Int) = 4 from rfl] at g2
        rw [if_neg (by omega), if_neg h2, g1, g2]
        simp only [Option.bind_some]
        rw [← hN, w64 (x := (rowsN s : Int)) (by omega) (by omega), w64 (x := 8 * (rowsN s : Int)) (by omega) (by omega), w64 (x := 7 + 8 * (rowsN s : Int)) (by omega) (by omega)]
        by_cases h3 : s.size < 7 + 8 * rowsN s
        · rw [if_pos (by omega), if_pos h3]; rfl
        · rw [if_neg (by omega), if_neg h3]
          by_cases h4 : 7 + 8 * rowsN s < s.size
          · rw [if_pos (by omega), if_pos h4]; rfl
          · rw [if_neg (by omega), if_neg h4]
            obtain ⟨a0, a1⟩ := tv_range (s.extract 1 s.size) 4
            rw [Int.emod_eq_of_lt a0 (by simpa using a1)]
            have := ropen_l s (rowsN s) (tv (s.extract 1 s.size) 4) hn (by omega) (rowsN s) k 0 [] (by omega) rfl (by omega)
            rw [show ((0 : Nat) : Int) = 0 from rfl, show to114 [] = [] from rfl, List.nil_append] at this
            rw [this]
            by_cases h5 : mayB (rowsFrom s 0 (rowsN s)) = true
            · rw [if_pos h5, if_pos h5]
            · rw [if_neg h5, if_neg h5]; rfl
    · rw [if_neg h1, if_pos h1]; rfl

end Go.Proofs.Ytdmmklfphkgmlaa.Ba
