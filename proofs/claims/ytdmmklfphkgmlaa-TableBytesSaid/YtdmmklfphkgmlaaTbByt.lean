/- TableBytes: the law's walk. -/
import Derived.Test.YtdmmklfphkgmlaaTbEnc
import Derived.Test.YtdmmklfphkgmlaaTbEncR
import Derived.Test.YtdmmklfphkgmlaaTbDecR
import Derived.Test.YtdmmklfphkgmlaaTbTot
namespace Go.Proofs.Ytdmmklfphkgmlaa.Tb
set_option linter.unusedSimpArgs false
open Go.Proofs.Ytdmmklfphkgmlaa.Seg Go.RowKit Go.Proofs.YtdmmklfphkgmlaaW.PrintWords Go.Proofs.YtdmmklfphkgmlaaW.PrintLast Go.Proofs.YtdmmklfphkgmlaaW.PrintMore Go.Proofs.Ytdmmklfphkgmlaa.Om

theorem decX_len (s : ByteArray) (m n : Int) : (decX s m n).1.1.length = 136 := by
  unfold decX
  repeat' split
  all_goals first | exact List.length_replicate | exact decT_len _ _ _
theorem dec_enc (xs : List Int) (l m n : Int) (hx : xs.length = 136) (hr : ∀ x ∈ xs, 0 ≤ x ∧ x < 4294967296) (hl0 : 0 ≤ l) (hl : l < 18446744073709551616) (h : (encX xs l m n).2 = 0) : decX (encX xs l m n).1 m n = ((xs, l), 0) := by
  unfold encX at h ⊢
  by_cases hs : szB m n = true
  · rw [if_pos hs] at h ⊢
    obtain ⟨a1, a2, a3, a4⟩ := of_decide_eq_true hs
    obtain ⟨M, rfl⟩ := Int.eq_ofNat_of_zero_le (show 0 ≤ m by omega)
    obtain ⟨N, rfl⟩ := Int.eq_ofNat_of_zero_le (show 0 ≤ n by omega)
    rw [Int.toNat_natCast, Int.toNat_natCast] at h ⊢
    by_cases hf : fitsB xs M N = true
    · rw [if_pos hf]
      exact dec_encB xs l M N (by omega) (by omega) (by omega) (by omega) hr hx (of_decide_eq_true hf) hl0 hl
    · rw [if_neg hf] at h; simp at h
  · rw [if_neg hs] at h; simp at h

/-- The tables' boxes. -/
def LB (w : World) (x : Array Value) (p13 p15 : Nat) (y : Array Value) (W : World) : Prop :=
  Below w.heap.size w W ∧ W.heap[w.heap.size]? = some (.cells x 39 (0, 0)) ∧ W.heap[p13]? = some (.cells y 39 (0, 0)) ∧ W.heap[p15]? = some (.cells y 44 (0, 0))
theorem LB.step {w W W' : World} {x y : Array Value} {p13 p15 : Nat} (h : LB w x p13 p15 y W) (hb : Below W.heap.size W W') : LB w x p13 p15 y W' :=
  ⟨h.1.trans (hb.mono h.1.size), (hb.block _ (Array.getElem?_eq_some_iff.1 h.2.1).1).trans h.2.1, (hb.block _ (Array.getElem?_eq_some_iff.1 h.2.2.1).1).trans h.2.2.1, (hb.block _ (Array.getElem?_eq_some_iff.1 h.2.2.2).1).trans h.2.2.2⟩

set_option maxRecDepth 100000 in
theorem bytes_great (xs : List Int) (l m n : Int) (s : ByteArray) (w : World) (h : 2000 < s.size) :
    Calls Try.prog 12 #[.agg (tabV xs l), .string s, .int .i64 m, .int .i64 n] w fun e w' => e = .returned (.bool true) ∧ Below w.heap.size w w' := by
  have c1 : decide (2000 < (s.size : Int)) = true := decide_eq_true (by omega)
  go_enter Try.func12, Try.ntmps12
  go_wp2_with fail
  refine (awake_calls _).mono ?_
  rintro r w1 ⟨rfl, h1⟩
  have HB := Aside0.mk ((below_alloc (Below.refl _ _) _).trans (h1.mono (by simp)) : Below w.heap.size w w1)
  clear h1
  go_wp2
  go_ret
  exact ⟨rfl, HB.out⟩

set_option maxRecDepth 100000 in
set_option maxHeartbeats 4000000 in
theorem bytes_small (xs : List Int) (l m n : Int) (s : ByteArray) (w : World) (h : s.size ≤ 2000) (hx : xs.length = 136) (hr : ∀ x ∈ xs, 0 ≤ x ∧ x < 4294967296) (hl0 : 0 ≤ l) (hl : l < 18446744073709551616) :
    Calls Try.prog 12 #[.agg (tabV xs l), .string s, .int .i64 m, .int .i64 n] w fun e w' => e = .returned (.bool true) ∧ Below w.heap.size w w' := by
  have c1 : decide (2000 < (s.size : Int)) = false := decide_eq_false (by omega)
  have hback := dec_enc xs l m n hx hr hl0 hl
  have hyl := decX_len s m n
  have KE := fun V => encode_calls xs l m n V hx hr hl0 hl
  have KER := fun V => rencode_calls xs l m n V hx hr hl0 hl
  have KD := fun V => decode_calls s m n V
  have KDR := fun V => rdecode_calls s m n V
  obtain ⟨⟨a, code⟩, hen⟩ : ∃ z, encX xs l m n = z := ⟨_, rfl⟩
  obtain ⟨⟨⟨ys, q⟩, dc⟩, hde⟩ : ∃ z, decX s m n = z := ⟨_, rfl⟩
  rw [hen] at KE KER hback
  rw [hde] at KD KDR hyl
  simp only at KE KER KD KDR hyl hback
  have K1 := Aside0.mk KE
  have K2 := Aside0.mk KER
  have K3 := Aside0.mk KD
  have K4 := Aside0.mk KDR
  have K5 := Aside0.mk (fun V => of_calls xs l V hx)
  have HBK := Aside0.mk hback
  have hA := heap_alloc_new w (.cells (tabV xs l) 39)
  have hB : Below w.heap.size w (w.alloc (.cells (tabV xs l) 39)) := below_alloc (Below.refl _ _) _
  have hix := tab_info39 xs l hx
  clear KE KER KD KDR hen hde hback hr
  go_enter Try.func12, Try.ntmps12
  go_wp2_with (refine wpList_load_row rfl 39 _ rfl w.heap.size rfl 39 _ (0, 0) _ hA Try.underlying39 rfl hix ?_)
  generalize w.alloc (.cells (tabV xs l) 39) = W0 at hA hB ⊢
  refine (K1.out _).mono ?_
  rintro x v1 ⟨rfl, h1⟩
  have hA1 := (h1.block _ (Array.getElem?_eq_some_iff.1 hA).1).trans hA
  have hB1 := hB.trans (h1.mono hB.size)
  clear h1 hA hB
  go_wp2_with (refine wpList_load_row rfl 39 _ rfl w.heap.size rfl 39 _ (0, 0) _ hA1 Try.underlying39 rfl hix ?_)
  refine (K5.out _).mono ?_
  rintro x v2 ⟨rfl, h2⟩
  have hA2 := (h2.block _ (Array.getElem?_eq_some_iff.1 hA1).1).trans hA1
  have hB2 := hB1.trans (h2.mono hB1.size)
  clear h2 hA1 hB1
  go_wp2_with fail
  refine (K2.out _).mono ?_
  rintro x v3 ⟨rfl, h3⟩
  have hA3 := (h3.block _ (Array.getElem?_eq_some_iff.1 hA2).1).trans hA2
  have hB3 := hB2.trans (h3.mono hB2.size)
  clear h3 hA2 hB2
  go_wp2_with fail
  refine (K3.out _).mono ?_
  rintro x v4 ⟨rfl, h4⟩
  have hA4 := (h4.block _ (Array.getElem?_eq_some_iff.1 hA3).1).trans hA3
  have hB4 := hB3.trans (h4.mono hB3.size)
  have hZ := heap_alloc_new v4 (.cells Try.zeroCells39 39)
  have hiy := tab_info39 ys q hyl
  have hoy := tab_one ys q
  have hzy := tab_zero39 ys q hyl
  have hlt4 : w.heap.size < v4.heap.size := (Array.getElem?_eq_some_iff.1 hA4).1
  have H5 : BX w v4.heap.size (.cells (tabV xs l) 39 (0, 0)) (.cells (tabV ys q) 39 (0, 0)) ((v4.alloc (.cells Try.zeroCells39 39)).setRow v4.heap.size (tabV ys q)) :=
    ⟨below_setRow (hB4.alloc hB4.size _) hB4.size _, (setRow_other _ _ _ _ (by omega)).trans ((heap_alloc_old _ _ hlt4).trans hA4), setRow_heap _ _ _ _ _ _ hZ⟩
  generalize hV : (v4.alloc (.cells Try.zeroCells39 39)).setRow v4.heap.size (tabV ys q) = V5 at H5
  have HH5 := Aside0.mk H5
  clear h4 hA3 hB3 hA4 hB4 H5
  go_wp2_with (refine wpList_store_row rfl 39 _ _ rfl v4.heap.size _ rfl rfl 39 _ hZ hiy hzy hoy ?_; rw [hV]; clear hV hZ)
  refine (K4.out _).mono ?_
  rintro x v6 ⟨rfl, h6⟩
  have H6 := HH5.out.step h6
  have hZ := heap_alloc_new v6 (.cells Try.zeroCells44 44)
  have hiy4 := tab_info44 ys q hyl
  have hzy4 := tab_zero44 ys q hyl
  have hlt6 : v4.heap.size < v6.heap.size := (Array.getElem?_eq_some_iff.1 H6.2.2).1
  have H7 : LB w (tabV xs l) v4.heap.size v6.heap.size (tabV ys q) ((v6.alloc (.cells Try.zeroCells44 44)).setRow v6.heap.size (tabV ys q)) :=
    ⟨below_setRow (H6.1.alloc H6.1.size _) H6.1.size _, (setRow_other _ _ _ _ (by omega)).trans ((heap_alloc_old _ _ (by omega)).trans H6.2.1), (setRow_other _ _ _ _ (by omega)).trans ((heap_alloc_old _ _ hlt6).trans H6.2.2), setRow_heap _ _ _ _ _ _ hZ⟩
  generalize hV : (v6.alloc (.cells Try.zeroCells44 44)).setRow v6.heap.size (tabV ys q) = V4 at H7
  have HH7 := Aside0.mk H7
  clear h6 H6 H7 HH5
  go_wp2_with (refine wpList_store_row rfl 44 _ _ rfl v6.heap.size _ rfl rfl 44 _ hZ hiy4 hzy4 hoy ?_; rw [hV]; clear hV hZ)
  obtain ⟨p13, hp13⟩ : ∃ p, v4.heap.size = p := ⟨_, rfl⟩
  obtain ⟨p15, hp15⟩ : ∃ p, v6.heap.size = p := ⟨_, rfl⟩
  rw [hp13, hp15] at HH7
  rw [hp13, hp15]
  clear hp13 hp15 hlt4 hlt6 K1 K2 K3 K4 K5
  have k13 : ∀ V : World, Below V4.heap.size V4 V → (Instr.loadAt 39 (.pointer (some ⟨p13, 0, none⟩))).run Try.prog V = .ok (.agg (tabV ys q)) V := fun V h => load39 (HH7.out.step h).2.2.1 hiy
  have k15 : ∀ V : World, Below V4.heap.size V4 V → (Instr.loadAt 44 (.pointer (some ⟨p15, 0, none⟩))).run Try.prog V = .ok (.agg (tabV ys q)) V := fun V h => load44 (HH7.out.step h).2.2.2 hiy4
  have keq : ∀ W : World, (Op.equalIn 10000 44 (.agg (tabV ys q)) (.agg (tabV ys q))).run Try.prog W = .ok true W := fun W => by rw [tabEq44 ys ys q q hyl hyl, tabEq_refl]
  have KO := Aside0.mk (fun V => of_calls ys q V hyl)
  refine wp_region_held_drew (S := fun V => Below V4.heap.size V4 V) (by kernel_rfl) (below_drew (Below.refl _ _)) (fun hHeld => ?_)
  refine take_at (i := 0) (some 52) (.string a) rfl rfl (by kernel_rfl) (by kernel_rfl) (by kernel_rfl) (fun _ _ _ h => h) (Or.inl ⟨by rfl, fun w hSw => by go_simp⟩) hHeld ?_
  refine take_at (i := 1) (some 53) (.string a) rfl rfl (by kernel_rfl) (by kernel_rfl) (by kernel_rfl) (fun _ _ _ h => h) (Or.inl ⟨by rfl, fun w hSw => by go_simp⟩) hHeld ?_
  try simp only [Act.put, List.setIfInBounds_toArray, List.set_cons_zero, List.set_cons_succ]
  refine take_at (i := 2) (some 54) (.bool false) rfl rfl (by kernel_rfl) (by kernel_rfl) (by kernel_rfl) (fun _ _ _ h => h) (Or.inl ⟨by rfl, fun w hSw => by go_simp⟩) hHeld ?_
  refine take_at (i := 3) (some 55) (.bool false) rfl rfl (by kernel_rfl) (by kernel_rfl) (by kernel_rfl) (fun _ _ _ h => h) (Or.inl ⟨by rfl, fun w hSw => by go_simp⟩) hHeld ?_
  try simp only [Act.put, List.setIfInBounds_toArray, List.set_cons_zero, List.set_cons_succ]
  refine take_at (i := 4) (some 56) (.int .i64 code) rfl rfl (by kernel_rfl) (by kernel_rfl) (by kernel_rfl) (fun _ _ _ h => h) (Or.inl ⟨by rfl, fun w hSw => by go_simp⟩) hHeld ?_
  refine take_at (i := 5) (some 57) (.int .i64 code) rfl rfl (by kernel_rfl) (by kernel_rfl) (by kernel_rfl) (fun _ _ _ h => h) (Or.inl ⟨by rfl, fun w hSw => by go_simp⟩) hHeld ?_
  try simp only [Act.put, List.setIfInBounds_toArray, List.set_cons_zero, List.set_cons_succ]
  refine take_at (i := 6) (some 58) (.bool false) rfl rfl (by kernel_rfl) (by kernel_rfl) (by kernel_rfl) (fun _ _ _ h => h) (Or.inl ⟨by rfl, fun w hSw => by go_simp⟩) hHeld ?_
  refine take_at (i := 7) (some 59) (.bool false) rfl rfl (by kernel_rfl) (by kernel_rfl) (by kernel_rfl) (fun _ _ _ h => h) (Or.inl ⟨by rfl, fun w hSw => by go_simp⟩) hHeld ?_
  try simp only [Act.put, List.setIfInBounds_toArray, List.set_cons_zero, List.set_cons_succ]
  refine take_at (i := 8) (some 60) (.bool false) rfl rfl (by kernel_rfl) (by kernel_rfl) (by kernel_rfl) (fun _ _ _ h => h) (Or.inl ⟨by rfl, fun w hSw => by go_simp⟩) hHeld ?_
  refine take_at (i := 9) (some 61) (.agg (tabV ys q)) rfl rfl (by kernel_rfl) (by kernel_rfl) (by kernel_rfl) (fun _ _ _ h => h) (yieldsIf_load (by rfl) 39 (.tmp 13) rfl (.pointer (some ⟨p13, 0, none⟩)) rfl _ k13) hHeld ?_
  try simp only [Act.put, List.setIfInBounds_toArray, List.set_cons_zero, List.set_cons_succ]
  refine take_at (i := 11) (some 63) (.agg (tabV ys q)) rfl rfl (by kernel_rfl) (by kernel_rfl) (by kernel_rfl) (fun _ _ _ h => h) (yieldsIf_load (by rfl) 44 (.tmp 15) rfl (.pointer (some ⟨p15, 0, none⟩)) rfl _ k15) hHeld ?_
  try simp only [Act.put, List.setIfInBounds_toArray, List.set_cons_zero, List.set_cons_succ]
  refine wpAnyH_ready (rs := [10]) (by kernel_rfl) (by simp) (AllReadyH.cons rfl (fun K hK => ?_) AllReadyH.nil)
  go_simp
  refine (KO.out _).mono ?_
  rintro x wc1 ⟨rfl, hb⟩
  refine hK.out _ _ (Below.trans hHeld (hb.mono (Below.size hHeld))) (fun hH1 => ?_)
  clear hK K hb hHeld
  refine take_at (i := 12) (some 64) (.bool false) rfl rfl (by kernel_rfl) (by kernel_rfl) (by kernel_rfl) (fun _ _ _ h => h) (Or.inl ⟨by rfl, fun w hSw => by go_simp⟩) hH1 ?_
  try simp only [Act.put, List.setIfInBounds_toArray, List.set_cons_zero, List.set_cons_succ]
  refine take_at (i := 13) (some 65) (.bool false) rfl rfl (by kernel_rfl) (by kernel_rfl) (by kernel_rfl) (fun _ _ _ h => h) (Or.inl ⟨by rfl, fun w hSw => by go_simp⟩) hH1 ?_
  refine take_at (i := 14) (some 66) (.bool false) rfl rfl (by kernel_rfl) (by kernel_rfl) (by kernel_rfl) (fun _ _ _ h => h) (Or.inl ⟨by rfl, fun w hSw => by go_simp⟩) hH1 ?_
  try simp only [Act.put, List.setIfInBounds_toArray, List.set_cons_zero, List.set_cons_succ]
  refine take_at (i := 15) (some 67) (.int .i64 dc) rfl rfl (by kernel_rfl) (by kernel_rfl) (by kernel_rfl) (fun _ _ _ h => h) (Or.inl ⟨by rfl, fun w hSw => by go_simp⟩) hH1 ?_
  refine take_at (i := 16) (some 68) (.int .i64 dc) rfl rfl (by kernel_rfl) (by kernel_rfl) (by kernel_rfl) (fun _ _ _ h => h) (Or.inl ⟨by rfl, fun w hSw => by go_simp⟩) hH1 ?_
  try simp only [Act.put, List.setIfInBounds_toArray, List.set_cons_zero, List.set_cons_succ]
  refine take_at (i := 17) (some 69) (.bool false) rfl rfl (by kernel_rfl) (by kernel_rfl) (by kernel_rfl) (fun _ _ _ h => h) (Or.inl ⟨by rfl, fun w hSw => by go_simp⟩) hH1 ?_
  refine take_at (i := 18) (some 70) (.bool false) rfl rfl (by kernel_rfl) (by kernel_rfl) (by kernel_rfl) (fun _ _ _ h => h) (Or.inl ⟨by rfl, fun w hSw => by go_simp⟩) hH1 ?_
  try simp only [Act.put, List.setIfInBounds_toArray, List.set_cons_zero, List.set_cons_succ]
  refine wpAnyH_done (by kernel_rfl) ?_ _
  try simp only [Act.put, List.setIfInBounds_toArray, List.set_cons_zero, List.set_cons_succ]
  have H8 := Aside0.mk (HH7.out.step hH1)
  clear hH1 k13 k15 keq HH7 KO
  by_cases hc : code = 0
  · have e1 := HBK.out hc
    subst hc
    have K9 := Aside0.mk (fun V => e1 ▸ decode_calls a m n V)
    clear e1 HBK
    go_wp2_with fail
    refine (K9.out _).mono ?_
    rintro x v9 ⟨rfl, h9⟩
    have H9 := H8.out.step h9
    have hZ := heap_alloc_new v9 (.cells Try.zeroCells39 39)
    have hox := tab_one xs l
    have hzx := tab_zero39 xs l hx
    have hlt9 : w.heap.size < v9.heap.size := (Array.getElem?_eq_some_iff.1 H9.2.1).1
    have H10 : BX w v9.heap.size (.cells (tabV xs l) 39 (0, 0)) (.cells (tabV xs l) 39 (0, 0)) ((v9.alloc (.cells Try.zeroCells39 39)).setRow v9.heap.size (tabV xs l)) :=
      ⟨below_setRow (H9.1.alloc H9.1.size _) H9.1.size _, (setRow_other _ _ _ _ (by omega)).trans ((heap_alloc_old _ _ hlt9).trans H9.2.1), setRow_heap _ _ _ _ _ _ hZ⟩
    generalize hV : (v9.alloc (.cells Try.zeroCells39 39)).setRow v9.heap.size (tabV xs l) = V10 at H10
    have HH10 := Aside0.mk H10
    clear h9 H9 H10 H8
    go_wp2_with (refine wpList_store_row rfl 39 _ _ rfl v9.heap.size _ rfl rfl 39 _ hZ hix hzx hox ?_; rw [hV]; clear hV hZ)
    refine (awake_calls _).mono ?_
    rintro x v11 ⟨rfl, h11⟩
    have H11 := HH10.out.step h11
    have hA := H11.2.1
    have hB := H11.2.2
    have keq : ∀ W : World, (Op.equalIn 10000 39 (.agg (tabV xs l)) (.agg (tabV xs l))).run Try.prog W = .ok true W := fun W => by rw [tabEq39 xs xs l l hx hx, tabEq_refl]
    have HZ := Aside0.mk H11.1
    clear h11 H11 HH10
    go_wp2_with (first | refine wpList_load_row_w rfl 39 _ rfl v9.heap.size rfl 39 _ (0, 0) _ hB Try.underlying39 rfl hix ?_ | refine wpList_load_row_w rfl 39 _ rfl w.heap.size rfl 39 _ (0, 0) _ hA Try.underlying39 rfl hix ?_)
    go_ret
    exact ⟨rfl, HZ.out⟩
  · have k0 : (code == 0) = false := by simpa using hc
    have k1 : (code != 0) = true := by simpa using hc
    clear hc
    go_wp2_with fail
    refine (awake_calls _).mono ?_
    rintro r w1 ⟨rfl, h1⟩
    have HB := Aside0.mk (H8.out.step h1).1
    clear h1
    go_wp2
    go_ret
    exact ⟨rfl, HB.out⟩

theorem bytes_walk (xs : List Int) (l m n : Int) (s : ByteArray) (w : World) (hx : xs.length = 136) (hr : ∀ x ∈ xs, 0 ≤ x ∧ x < 4294967296) (hl0 : 0 ≤ l) (hl : l < 18446744073709551616) :
    Calls Try.prog 12 #[.agg (tabV xs l), .string s, .int .i64 m, .int .i64 n] w fun e w' => e = .returned (.bool true) ∧ Below w.heap.size w w' := by
  by_cases h : 2000 < s.size
  · exact bytes_great xs l m n s w h
  · exact bytes_small xs l m n s w (by omega) hx hr hl0 hl
end Go.Proofs.Ytdmmklfphkgmlaa.Tb
