/- OctetTexts, the plain facts and the walk: whatever the text and the limit, octet.PutText, octet.TakeText and octet.End answer as the document's. No condition. -/
import Derived.Test.YtdmmklfphkgmlaaBaOctTR
import Derived.Test.YtdmmklfphkgmlaaBcOctT
namespace Go.Proofs.Ytdmmklfphkgmlaa.Ba
open Go.RowKit Go.Proofs.YtdmmklfphkgmlaaW.PrintWords Go.Proofs.YtdmmklfphkgmlaaW.PrintLast Go.Proofs.YtdmmklfphkgmlaaW.PrintMore Go.Proofs.Ytdmmklfphkgmlaa.Om

theorem rputText_any (t : ByteArray) (m : Int) (k : Nat) : chaffref17_PutText.f k t m = some (putTextS t m) := by
  unfold chaffref17_PutText.f putTextS
  by_cases a : m < 0
  · rw [if_pos a, if_pos (Or.inl a)]
  · rw [if_neg a]
    by_cases b : 65535 < m
    · rw [if_pos b, if_pos (Or.inr b)]
    · rw [if_neg b, if_neg (show ¬ (m < 0 ∨ 65535 < m) by omega)]
      by_cases c : m < (t.size : Int)
      · rw [if_pos c, if_pos c]
      · rw [if_neg c, if_neg c]
        have e : dg 2 (t.size : Int) = [(t.size : Int) / 256, (t.size : Int) % 256] := by
          simp only [dg, Int.pow_zero, Int.ediv_one, List.cons.injEq, and_true]
          rw [show (256 : Int) ^ 1 = 256 from rfl]; omega
        unfold num
        rw [e]

theorem rtakeText_any (s : ByteArray) (m : Int) (hs : s.size ≤ 2000) (k : Nat) (hk : 2 ≤ k) : chaffref17_TakeText.f k s m = some (takeTextS s m) := by
  obtain ⟨k, rfl⟩ : ∃ m, k = m + 1 := ⟨k - 1, by omega⟩
  unfold chaffref17_TakeText.f takeTextS
  by_cases a : m < 0
  · rw [if_pos a, if_pos (Or.inl a)]; rfl
  · rw [if_neg a]
    by_cases b : m > 65535
    · rw [decide_eq_true b, if_pos (Or.inr b)]; rfl
    · rw [decide_eq_false b, if_neg (show ¬ (m < 0 ∨ 65535 < m) by omega)]
      simp only [chaffref17_TakeText.j0]
      rw [if_neg (by decide)]
      by_cases c : (s.size : Int) < 2
      · rw [if_pos c, if_pos c]
      · obtain ⟨b0, b1⟩ := bt_range s 0
        obtain ⟨c0, c1⟩ := bt_range s 1
        have e : wrap64 (wrap64 (wrap64 (bt s 0) * 256) + wrap64 (bt s 1)) = tv s 2 := by
          rw [w64 (x := bt s 0) (by omega) (by omega), w64 (x := bt s 1) (by omega) (by omega), w64 (x := bt s 0 * 256) (by omega) (by omega), w64 (by omega) (by omega)]
          simp only [tv]
          show _ = (0 * 256 + bt s 0) * 256 + bt s 1
          omega
        obtain ⟨t0, t1⟩ := tv_range s 2
        have hz : (s.extract 2 s.size).size = s.size - 2 := by rw [ByteArray.size_extract]; omega
        rw [e, if_neg c, if_neg c, if_pos (by omega), if_pos (by omega), w64 (x := 2 + tv s 2) (by omega) (by omega)]
        by_cases d : tv s 2 > m
        · rw [if_pos d, if_pos d]
        · rw [if_neg d, if_neg d]
          by_cases f : (s.size : Int) - 2 < tv s 2
          · rw [if_pos f, if_pos (by omega)]
          · rw [if_neg f, if_neg (by omega), if_pos (by omega), if_pos (by omega), if_pos (by omega), hz, ByteArray.extract_extract, ByteArray.extract_extract]
            rw [show min (2 + (tv s 2).toNat) s.size = (2 + tv s 2).toNat by omega, show min (2 + (s.size - 2)) s.size = s.size by omega,
              show 2 + (tv s 2).toNat = (2 + tv s 2).toNat by omega]

set_option maxRecDepth 100000 in
theorem octetTexts_great (s : ByteArray) (m : Int) (w : World) (hs : 2000 < s.size) :
    Calls Try.prog 6 #[.string s, .int .i64 m] w fun e w' => e = .returned (.bool true) ∧ Below w.heap.size w w' := by
  have c : decide (2000 < (s.size : Int)) = true := decide_eq_true (by omega)
  clear hs
  go_enter Try.func6, Try.ntmps6
  go_wp2_with fail
  refine (chafflaw17_Awake.calls 20 true _ (awake_any 20 (by omega))).mono ?_
  rintro e w1 ⟨rfl, h1⟩
  go_wp2
  go_ret
  exact ⟨rfl, h1⟩

set_option maxRecDepth 100000 in
theorem octetTexts_small (s : ByteArray) (m : Int) (w : World) (hs : s.size ≤ 2000) :
    Calls Try.prog 6 #[.string s, .int .i64 m] w fun e w' => e = .returned (.bool true) ∧ Below w.heap.size w w' := by
  obtain ⟨⟨p1, p2⟩, hp⟩ : ∃ p, putTextS s m = p := ⟨_, rfl⟩
  obtain ⟨⟨t1, t2, t3⟩, ht⟩ : ∃ p, takeTextS s m = p := ⟨_, rfl⟩
  have A1 := Aside0.mk ((putText_any s m 20 (by omega)).trans (congrArg some hp))
  have A2 := Aside0.mk ((rputText_any s m 20).trans (congrArg some hp))
  have A3 := Aside0.mk ((takeText_any s m (by omega) 20 (by omega)).trans (congrArg some ht))
  have A4 := Aside0.mk ((rtakeText_any s m hs 20 (by omega)).trans (congrArg some ht))
  have c : decide (2000 < (s.size : Int)) = false := decide_eq_false (by omega)
  clear hs hp ht
  by_cases he : s.toList = []
  · have E := Aside0.mk (show octet_End.f s = some 0 by unfold octet_End.f; rw [if_pos he])
    have e1 : (s.toList == []) = true := beq_iff_eq.mpr he
    clear he
    go_enter Try.func6, Try.ntmps6
    go_wp2_with fail
    refine (octet_PutText.calls 20 s m p1 p2 _ A1.out).mono ?_
    rintro e w1 ⟨rfl, h1⟩
    have H1 := Aside0.mk h1; clear h1
    go_wp2_with fail
    refine (chaffref17_PutText.calls 20 s m p1 p2 _ A2.out).mono ?_
    rintro e w2 ⟨rfl, h2⟩
    have H2 := Aside0.mk (below_step H1.out h2); clear h2 H1
    go_wp2_with fail
    refine (octet_TakeText.calls 20 s m t1 t2 t3 _ A3.out).mono ?_
    rintro e w3 ⟨rfl, h3⟩
    have H3 := Aside0.mk (below_step H2.out h3.below); clear h3 H2
    go_wp2_with fail
    refine (chaffref17_TakeText.calls 20 s m t1 t2 t3 _ A4.out).mono ?_
    rintro e w4 ⟨rfl, h4⟩
    have H4 := Aside0.mk (below_step H3.out h4.below); clear h4 H3
    go_wp2_with fail
    refine (chafflaw17_Awake.calls 20 true _ (awake_any 20 (by omega))).mono ?_
    rintro e w5 ⟨rfl, h5⟩
    have H5 := Aside0.mk (below_step H4.out h5); clear h5 H4
    go_wp2_with fail
    refine (octet_End.calls s 0 _ E.out).mono ?_
    rintro e w6 ⟨rfl, h6⟩
    have H6 := Aside0.mk (below_step H5.out h6.below); clear h6 H5
    go_wp2
    go_ret
    exact ⟨by simp, H6.out⟩
  · have E := Aside0.mk (show octet_End.f s = some 11 by unfold octet_End.f; rw [if_neg he])
    have e1 : (s.toList == []) = false := beq_eq_false_iff_ne.mpr he
    clear he
    go_enter Try.func6, Try.ntmps6
    go_wp2_with fail
    refine (octet_PutText.calls 20 s m p1 p2 _ A1.out).mono ?_
    rintro e w1 ⟨rfl, h1⟩
    have H1 := Aside0.mk h1; clear h1
    go_wp2_with fail
    refine (chaffref17_PutText.calls 20 s m p1 p2 _ A2.out).mono ?_
    rintro e w2 ⟨rfl, h2⟩
    have H2 := Aside0.mk (below_step H1.out h2); clear h2 H1
    go_wp2_with fail
    refine (octet_TakeText.calls 20 s m t1 t2 t3 _ A3.out).mono ?_
    rintro e w3 ⟨rfl, h3⟩
    have H3 := Aside0.mk (below_step H2.out h3.below); clear h3 H2
    go_wp2_with fail
    refine (chaffref17_TakeText.calls 20 s m t1 t2 t3 _ A4.out).mono ?_
    rintro e w4 ⟨rfl, h4⟩
    have H4 := Aside0.mk (below_step H3.out h4.below); clear h4 H3
    go_wp2_with fail
    refine (chafflaw17_Awake.calls 20 true _ (awake_any 20 (by omega))).mono ?_
    rintro e w5 ⟨rfl, h5⟩
    have H5 := Aside0.mk (below_step H4.out h5); clear h5 H4
    go_wp2_with fail
    refine (octet_End.calls s 11 _ E.out).mono ?_
    rintro e w6 ⟨rfl, h6⟩
    have H6 := Aside0.mk (below_step H5.out h6.below); clear h6 H5
    go_wp2_with fail
    refine (octet_End.calls s 11 _ E.out).mono ?_
    rintro e w7 ⟨rfl, h7⟩
    have H7 := Aside0.mk (below_step H6.out h7.below); clear h7 H6
    go_wp2
    go_ret
    exact ⟨by simp, H7.out⟩

theorem octetTexts_walk (s : ByteArray) (m : Int) (w : World) :
    Calls Try.prog 6 #[.string s, .int .i64 m] w fun e w' => e = .returned (.bool true) ∧ Below w.heap.size w w' := by
  by_cases h : 2000 < s.size
  · exact octetTexts_great s m w h
  · exact octetTexts_small s m w (by omega)

end Go.Proofs.Ytdmmklfphkgmlaa.Ba
