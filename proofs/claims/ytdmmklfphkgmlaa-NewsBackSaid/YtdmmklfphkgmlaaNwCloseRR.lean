/- News, reports: the document's CloseReport, by an own walk: the bytes of rows that may be. -/
import Derived.Test.YtdmmklfphkgmlaaNwCloseR
namespace Go.Proofs.Ytdmmklfphkgmlaa.Ba
open Go.RowKit Go.Proofs.YtdmmklfphkgmlaaW.PrintWords Go.Proofs.YtdmmklfphkgmlaaW.PrintLast Go.Proofs.YtdmmklfphkgmlaaW.PrintMore Go.Proofs.Ytdmmklfphkgmlaa.Om

set_option maxRecDepth 100000 in
theorem rcloseReport_bad (ep : Int) (A : Option Addr) (c : Nat) (l : List S114) (w : World) (hC : Kd.C k114 w A l.length l) (hc : l.length ≤ c) (hl : l.length ≤ 9223372036854775807) (hm : mayB (l.map p114) = false) :
    Calls Try.prog 39 #[.agg #[.int .u32 ep, .slice A l.length c]] w fun e w' => e = .returned (.tuple #[.string ⟨#[]⟩, .int .i64 4]) ∧ Below w.heap.size w w' := by
  have M := Aside0.mk ((rmay_any ep l hl _ (.inl (Nat.le_refl _))).trans (congrArg some hm))
  have HC := Aside0.mk hC
  have Hc := Aside0.mk hc
  clear hm hC hc hl
  go_enter Try.func39, Try.ntmps39
  go_wp2_with fail
  refine (chaffref19_May.calls _ ep A c l false _ (Kd.C_below HC.out (below_alloc (Below.refl _ _) _)) Hc.out M.out).mono ?_
  rintro e w1 ⟨rfl, h1⟩
  have H1 := Aside0.mk h1
  clear h1
  go_wp2
  go_ret2
  exact ⟨rfl, (below_alloc (Below.refl _ _) _).trans (H1.out.mono (by simp))⟩

set_option maxRecDepth 100000 in
set_option maxHeartbeats 2000000 in
theorem rcloseReport_ok (ep : Int) (ad : Addr) (c : Nat) (l : List S114) (w : World) (hC : Kd.C k114 w (some ad) l.length l) (hc : l.length ≤ c) (hl : l.length ≤ 256) (hm : mayB (l.map p114) = true)
    (e0 : 0 ≤ ep) (e1 : ep < 4294967296) (hw : Wide (l.map p114)) :
    Calls Try.prog 39 #[.agg #[.int .u32 ep, .slice (some ad) l.length c]] w fun e w' => e = .returned (.tuple #[.string ((⟨#[72]⟩ : ByteArray) ++ num 4 ep ++ num 2 (l.map p114).length ++ rowsB (l.map p114)), .int .i64 0]) ∧ Below w.heap.size w w' := by
  have M := Aside0.mk ((rmay_any ep l (by omega) _ (.inl (Nat.le_refl _))).trans (congrArg some hm))
  have HC := Aside0.mk hC
  have Hc := Aside0.mk hc
  have HW := Aside0.mk hw
  have KE := Aside0.mk (rnum4_calls ep e0 e1)
  have KN := Aside0.mk (rnum2_calls (l.length : Int) (by omega) (by omega))
  obtain ⟨E, hE⟩ : ∃ E, num 4 ep = E := ⟨_, rfl⟩
  obtain ⟨L, hL⟩ : ∃ L, num 2 (l.length : Int) = L := ⟨_, rfl⟩
  have sE : E.size = 4 := by rw [← hE, num_size]
  have sL : L.size = 2 := by rw [← hL, num_size]
  have we : IntKind.u64.wrap ep = ep := u64w e0 (by omega)
  have wl : IntKind.u64.wrap (l.length : Int) = (l.length : Int) := u64w (by omega) (by omega)
  rw [hE] at KE
  rw [hL] at KN
  rw [hE, List.length_map, hL]
  have hn : l.length ≤ 256 := hl
  clear hm hC hc hl hw hE hL e0 e1
  go_enter Try.func39, Try.ntmps39
  go_wp2_with fail
  refine (chaffref19_May.calls _ ep (some ad) c l true _ (Kd.C_below HC.out (below_alloc (Below.refl _ _) _)) Hc.out M.out).mono ?_
  rintro e w1 ⟨rfl, h1⟩
  have hS : CR w w.heap.size (.cells #[.int .u32 ep, .slice (some ad) l.length c] 87 (0, 0)) w1 := CR.step ⟨below_alloc (Below.refl _ _) _, heap_alloc_new _ _⟩ h1
  have HS := Aside0.mk hS
  clear h1 hS
  go_wp2_with fail
  have c0 : w1.drew.cell? ⟨w.heap.size, 0, none⟩ = some (.int .u32 ep) := cell_of_row w1 _ 0 _ _ _ HS.out.2
  have c1 : w1.drew.cell? ⟨w.heap.size, 1, none⟩ = some (.slice (some ad) l.length c) := cell_of_row w1 _ 1 _ _ _ HS.out.2
  have cb : Below w.heap.size w w1.drew := HS.out.1.drew
  have cc : w1.drew.heap[w.heap.size]? = some (.cells #[.int .u32 ep, .slice (some ad) l.length c] 87 (0, 0)) := HS.out.2
  go_region_held3 (fun W => Below w.heap.size w W ∧ W.heap[w.heap.size]? = some (.cells #[.int .u32 ep, .slice (some ad) l.length c] 87 (0, 0)) ∧ W.cell? ⟨w.heap.size, 0, none⟩ = some (.int .u32 ep) ∧ W.cell? ⟨w.heap.size, 1, none⟩ = some (.slice (some ad) l.length c))
    (first | go_keep | (go_split_ands; exact ⟨(CR.step (W := _) ⟨by assumption, by assumption⟩ hb).1, (CR.step (w := w) (W := _) ⟨by assumption, by assumption⟩ hb).2, pw_cell_below hb (by assumption), pw_cell_below hb (by assumption)⟩))
    ((first | (go_at_call 55; with_reducible refine (KE.out _).mono ?_; rintro x w3 ⟨rfl, hb⟩) | (go_at_call 55; with_reducible refine (KN.out _).mono ?_; rintro x w3 ⟨rfl, hb⟩)))
  obtain ⟨q1, q2, q3, q4⟩ := ‹Below w.heap.size w w3 ∧ _›
  have HS3 := Aside0.mk (show CR w w.heap.size (.cells #[.int .u32 ep, .slice (some ad) l.length c] 87 (0, 0)) w3 from ⟨q1, q2⟩)
  obtain ⟨B0, hB0⟩ : ∃ B0, (⟨#[72]⟩ : ByteArray) ++ E ++ L = B0 := ⟨_, rfl⟩
  have sB0 : B0.size = 7 := by rw [← hB0, ByteArray.size_append, ByteArray.size_append, sE, sL]; rfl
  rw [hB0]
  have HB0 := Aside0.mk hB0
  clear q1 q2 q3 HS KE KN we wl M hB0 c0 c1 cb cc sE sL
  go_wp2
  go_loopw [4, 5] (fun sv i wr => ∃ (j : Nat) (B : ByteArray), sv = .string B ∧ i = .int .i64 j ∧ j ≤ l.length ∧ B.size = 7 + 8 * j ∧ Aside0 (B ++ rowsB ((l.map p114).drop j) = B0 ++ rowsB (l.map p114)) ∧ Aside0 (CR w w.heap.size (.cells #[.int .u32 ep, .slice (some ad) l.length c] 87 (0, 0)) wr)) (fun _ i _ => l.length - (intOf i).toNat)
  case atStart => exact ⟨0, B0, rfl, rfl, Nat.zero_le _, by omega, ⟨by rw [List.drop_zero]⟩, HS3⟩
  case round =>
    obtain ⟨j, B, rfl, rfl, hj, sB, HT, HR⟩ := hrel
    by_cases hlt : j < l.length
    · have hx : 0 ≤ (j : Int) := by omega
      have hx2 : (j : Int) < (l.length : Int) := by omega
      obtain ⟨ad', ea, g0, g1⟩ := at_T114 HC.out (j : Int) hx hx2
      cases ea
      rw [rd114_f0, Int.toNat_natCast] at g0
      rw [rd114_f1, Int.toNat_natCast] at g1
      obtain ⟨f0, hf0⟩ : ∃ f, (gp (l.map p114) j).1 = f := ⟨_, rfl⟩
      obtain ⟨f1, hf1⟩ : ∃ f, (gp (l.map p114) j).2 = f := ⟨_, rfl⟩
      rw [hf0] at g0
      rw [hf1] at g1
      have hd : (l.map p114).drop j = (f0, f1) :: (l.map p114).drop (j + 1) := by
        have hj' : j < (l.map p114).length := by rw [List.length_map]; exact hlt
        rw [List.drop_eq_getElem_cons hj']
        have : (l.map p114)[j] = gp (l.map p114) j := by unfold gp; simp [List.getD, List.getElem?_eq_getElem hlt]
        rw [this, ← hf0, ← hf1]
      have hwd : 0 ≤ f0 ∧ f0 < 4294967296 ∧ 0 ≤ f1 ∧ f1 < 4294967296 := by
        have := HW.out (f0, f1) (List.mem_of_mem_drop (i := j) (by rw [hd]; exact List.mem_cons_self))
        exact this
      obtain ⟨a0, a1, b0, b1⟩ := hwd
      obtain ⟨P, hP⟩ : ∃ P, num 4 f0 = P := ⟨_, rfl⟩
      obtain ⟨Q, hQ⟩ : ∃ Q, num 4 f1 = Q := ⟨_, rfl⟩
      have KP := Aside0.mk (rnum4_calls f0 a0 a1)
      have KQ := Aside0.mk (rnum4_calls f1 b0 b1)
      rw [hP] at KP
      rw [hQ] at KQ
      have sP : P.size = 4 := by rw [← hP, num_size]
      have sQ : Q.size = 4 := by rw [← hQ, num_size]
      have w0 : IntKind.u64.wrap f0 = f0 := u64w a0 (by omega)
      have w1' : IntKind.u64.wrap f1 = f1 := u64w b0 (by omega)
      have hT := HT.out
      rw [hd] at hT
      simp only [rowsB, hP, hQ] at hT
      have HT' := Aside0.mk hT
      have k0 := (HR.out.1.cell (World.block_lt_of_cell? w _ g0)).trans g0
      have k1 := (HR.out.1.cell (World.block_lt_of_cell? w _ g1)).trans g1
      have kb : wr.cell? ⟨w.heap.size, 1, none⟩ = some (.slice (some ad) l.length c) := cell_of_row wr _ 1 _ _ _ HR.out.2
      clear g0 g1 hf0 hf1 hd a0 a1 b0 b1 hP hQ hT HT
      go_wp2_with fail
      have cb : Below w.heap.size w wr.drew := HR.out.1.drew
      have cc : wr.drew.heap[w.heap.size]? = some (.cells #[.int .u32 ep, .slice (some ad) l.length c] 87 (0, 0)) := HR.out.2
      have kc : wr.drew.cell? ⟨w.heap.size, 1, none⟩ = some (.slice (some ad) l.length c) := cell_of_row wr _ 1 _ _ _ HR.out.2
      have k0' : wr.drew.cell? (ad.add (j * 2)) = some (.int .u32 f0) := k0
      have k1' : wr.drew.cell? ⟨(ad.add (j * 2)).block, (ad.add (j * 2)).off + 1, none⟩ = some (.int .u32 f1) := k1
      have z1 : (9223372036854775807 < B.size + P.size) = False := eq_false (by omega)
      have z2 : (9223372036854775807 < B.size + P.size + Q.size) = False := eq_false (by omega)
      have SB := Aside0.mk sB
      have SP := Aside0.mk sP
      have SQ := Aside0.mk sQ
      clear k0 k1 sB sP sQ kb
      go_region_held3 (fun W => Below w.heap.size w W ∧ W.heap[w.heap.size]? = some (.cells #[.int .u32 ep, .slice (some ad) l.length c] 87 (0, 0)) ∧ W.cell? ⟨w.heap.size, 1, none⟩ = some (.slice (some ad) l.length c) ∧ W.cell? (ad.add (j * 2)) = some (.int .u32 f0) ∧ W.cell? ⟨(ad.add (j * 2)).block, (ad.add (j * 2)).off + 1, none⟩ = some (.int .u32 f1))
        (first | go_keep | (go_split_ands; exact ⟨(CR.step (W := _) ⟨by assumption, by assumption⟩ hb).1, (CR.step (w := w) (W := _) ⟨by assumption, by assumption⟩ hb).2, pw_cell_below hb (by assumption), pw_cell_below hb (by assumption), pw_cell_below hb (by assumption)⟩))
        ((first | (go_at_call 55; with_reducible refine (KP.out _).mono ?_; rintro x w3 ⟨rfl, hb⟩) | (go_at_call 55; with_reducible refine (KQ.out _).mono ?_; rintro x w3 ⟨rfl, hb⟩)))
      obtain ⟨q1, q2, q3, q4, q5⟩ := ‹Below w.heap.size w w3 ∧ _›
      have HS4 := Aside0.mk (show CR w w.heap.size (.cells #[.int .u32 ep, .slice (some ad) l.length c] 87 (0, 0)) w3 from ⟨q1, q2⟩)
      clear q1 q2 q3 q4 q5 cb cc kc k0' k1'
      go_wp2
      go_roundw
      case rel => exact ⟨j + 1, B ++ P ++ Q, rfl, by go_num, by omega, by rw [ByteArray.size_append, ByteArray.size_append, SB.out, SP.out, SQ.out]; omega, ⟨by have h := HT'.out; simp only [ByteArray.append_assoc] at h ⊢; exact h⟩, HS4⟩
      case measure => simp [intOf]; omega
    · have kb : wr.cell? ⟨w.heap.size, 1, none⟩ = some (.slice (some ad) l.length c) := cell_of_row wr _ 1 _ _ _ HR.out.2
      have hge : j = l.length := by omega
      have hres := HT.out
      rw [hge, ← List.length_map (f := p114), List.drop_length] at hres
      have hres2 : B = B0 ++ rowsB (l.map p114) := by rw [← hres]; simp [rowsB]
      subst hres2
      clear hge HT hres
      go_wp2
      go_ret2
      exact ⟨by (rw [HB0.out]; try rfl), HR.out.1⟩

end Go.Proofs.Ytdmmklfphkgmlaa.Ba
