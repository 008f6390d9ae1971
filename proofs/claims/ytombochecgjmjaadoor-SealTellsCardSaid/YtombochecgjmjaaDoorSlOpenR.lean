/- The document's Open. -/
import Derived.Test.YtombochecgjmjaaDoorSlOpen
namespace Go.Proofs.YtombochecgjmjaaDoor.Sl
set_option linter.unusedSimpArgs false
set_option linter.unusedVariables false
open Go.RowKit

theorem infoQ : (Tryd.prog.info? 33).map (·.size) = some 4 := by kernel_rfl
theorem val_low (s : ByteArray) (h : 127 < s.size) : val [s[127]'h, s[126]'(by omega), s[125]'(by omega), s[124]'(by omega)] = low s.data.toList 124 4 := by
  have e0 := at_getD s 124 (by omega)
  have e1 := at_getD s 125 (by omega)
  have e2 := at_getD s 126 (by omega)
  have e3 := at_getD s 127 (by omega)
  simp only [val, low, List.foldl_cons, List.foldl_nil, e0, show 124 + 0 = 124 by rfl, show 124 + 1 = 125 by rfl, show 124 + 2 = 126 by rfl, show 124 + 3 = 127 by rfl, e1, e2, e3]
  omega

theorem rblank2_calls (s : ByteArray) (V : World) (hs : s.size ≤ 9223372036854775807) :
    Calls Tryd.prog 15 #[.string s] V fun e w' => e = .returned (.bool (blankB s.data.toList)) ∧ (w' = V ∨ w' = V.drew) := by
  refine (rblank_calls s V hs).mono ?_
  rintro e w' ⟨h1, h2⟩
  exact ⟨h1, .inl h2.symm⟩

/-- The record's box, whatever it holds. -/
def QB4 (w : World) (W : World) : Prop := Below w.heap.size w W ∧ ∃ cs : Array Value, W.heap[w.heap.size]? = some (.cells cs 33 (0, 0)) ∧ cs.size = 4
/-- The record's box. -/
def QB (w : World) (W : World) : Prop := Below w.heap.size w W ∧ W.heap[w.heap.size]? = some (.cells #[.int .u8 0, .int .u64 0, .int .u32 0, .string ⟨#[]⟩] 33 (0, 0))
theorem QB.step {w W W' : World} (h : QB w W) (hb : W' = W ∨ W' = W.drew) : QB w W' := by
  rcases hb with rfl | rfl
  · exact h
  · exact ⟨h.1.drew, h.2⟩

set_option maxRecDepth 100000 in
set_option maxHeartbeats 1000000 in
theorem ropen_calls (s : ByteArray) (w : World) (hs : s.size ≤ 1000) :
    Calls Tryd.prog 9 #[.string s] w fun e w' => e = .returned (.tuple #[.agg (recV (openS s).1), .int .i64 (openS s).2]) ∧ Below w.heap.size w w' := by
  have hz := heap_alloc_new w (.cells #[.int .u8 0, .int .u64 0, .int .u32 0, .string ⟨#[]⟩] 33)
  have hi : (Tryd.prog.info? 33).map (·.size) = some (#[.int .u8 0, .int .u64 0, .int .u32 0, .string ⟨#[]⟩] : Array Value).size := infoQ
  have ho : (#[.int .u8 0, .int .u64 0, .int .u32 0, .string ⟨#[]⟩] : Array Value).all (·.oneCell') = true := recV_one .zero
  by_cases h1 : s.size = 128
  · have c1 : ((s.size : Int) != 128) = false := by simp [h1]
    have c1' : (s.size != 128) = false := by simp [h1]
    have KB := Aside0.mk (fun V => rblank2_calls s V (by omega))
    obtain ⟨bl, hbl⟩ : ∃ b, blankB s.data.toList = b := ⟨_, rfl⟩
    rw [hbl] at KB
    have H1 := Aside0.mk h1
    have HBL := Aside0.mk hbl
    have HZ := Aside0.mk (show QB w (w.alloc (.cells #[.int .u8 0, .int .u64 0, .int .u32 0, .string ⟨#[]⟩] 33)) from ⟨(Below.refl _ _).alloc (Nat.le_refl _) _, hz⟩)
    clear h1 hs hbl hz
    go_enter Tryd.func9, Tryd.ntmps9
    go_wp2_with fail
    refine (KB.out _).mono ?_
    rintro x w1 ⟨rfl, hw1⟩
    have B1 := Aside0.mk (HZ.out.step hw1)
    have hZ1 := B1.out.2
    clear hw1 KB HZ
    cases bl with
    | true =>
      have E := Aside0.mk (openS_blank H1.out HBL.out)
      go_wp2_with (refine wpList_store_row rfl 33 _ _ rfl w.heap.size #[.int .u8 0, .int .u64 0, .int .u32 0, .string ⟨#[]⟩] rfl rfl 33 _ hZ1 hi rfl ho ?_)
      exact bodyPost_ret (Cel.end_cell rfl _ _ _ _ _ hZ1 rfl Tryd.underlying33 rfl hi) rfl ⟨by rw [E.out]; rfl, below_setRow B1.out.1 (Nat.le_refl _) _⟩
    | false =>
      have KS := Aside0.mk (fun V => rsum_calls (s.extract 0 124) V (by rw [ByteArray.size_extract]; have := H1.out; omega))
      obtain ⟨S, hS⟩ : ∃ S, sumN (s.extract 0 124).data.toList = S := ⟨_, rfl⟩
      obtain ⟨T, hT⟩ : ∃ T, low s.data.toList 124 4 = T := ⟨_, rfl⟩
      rw [hS] at KS
      have HS := Aside0.mk hS
      have HT := Aside0.mk hT
      have hl : 127 < s.size := by have := H1.out; omega
      have hvl := val_low s hl
      rw [hT] at hvl
      have KV := Aside0.mk (fun V => rvalue_calls ⟨#[s[127]'hl, s[126]'(by omega), s[125]'(by omega), s[124]'(by omega)]⟩ V (by show 4 ≤ 8; omega))
      rw [show val (⟨#[s[127]'hl, s[126]'(by omega), s[125]'(by omega), s[124]'(by omega)]⟩ : ByteArray).data.toList = T from hvl] at KV
      have HVL := Aside0.mk hvl
      have hsz : (s.size : Int) = 128 := by have := H1.out; omega
      have hle : 124 ≤ s.size := by have := H1.out; omega
      clear hS hT hZ1 hvl
      go_wp2_with fail
      obtain ⟨d, hd⟩ : ∃ d, ((T : Int) != (S : Int)) = d := ⟨_, rfl⟩
      refine wp_region_held_drew (S := fun V => QB w V) (by kernel_rfl) ⟨B1.out.1.drew, B1.out.2⟩ (fun hH => ?_)
      refine Cel.take_at (i := 0) (some 12) (.string s) rfl rfl (by kernel_rfl) (by kernel_rfl) (by kernel_rfl) (fun _ _ _ h => h) (Or.inl ⟨by rfl, fun w hSw => by go_simp⟩) hH ?_
      refine Cel.take_at (i := 1) (some 13) (.int .u8 ((s[127]'hl).toNat : Nat)) rfl rfl (by kernel_rfl) (by kernel_rfl) (by kernel_rfl) (fun _ _ _ h => h) (Or.inl ⟨by rfl, fun w hSw => by go_simp⟩) hH ?_
      try simp only [Act.put, List.setIfInBounds_toArray, List.set_cons_zero, List.set_cons_succ]
      refine Cel.take_at (i := 2) (some 14) (.string s) rfl rfl (by kernel_rfl) (by kernel_rfl) (by kernel_rfl) (fun _ _ _ h => h) (Or.inl ⟨by rfl, fun w hSw => by go_simp⟩) hH ?_
      refine Cel.take_at (i := 3) (some 15) (.int .u8 ((s[126]'(by omega)).toNat : Nat)) rfl rfl (by kernel_rfl) (by kernel_rfl) (by kernel_rfl) (fun _ _ _ h => h) (Or.inl ⟨by rfl, fun w hSw => by go_simp⟩) hH ?_
      try simp only [Act.put, List.setIfInBounds_toArray, List.set_cons_zero, List.set_cons_succ]
      refine Cel.take_at (i := 4) (some 16) (.string s) rfl rfl (by kernel_rfl) (by kernel_rfl) (by kernel_rfl) (fun _ _ _ h => h) (Or.inl ⟨by rfl, fun w hSw => by go_simp⟩) hH ?_
      refine Cel.take_at (i := 5) (some 17) (.int .u8 ((s[125]'(by omega)).toNat : Nat)) rfl rfl (by kernel_rfl) (by kernel_rfl) (by kernel_rfl) (fun _ _ _ h => h) (Or.inl ⟨by rfl, fun w hSw => by go_simp⟩) hH ?_
      try simp only [Act.put, List.setIfInBounds_toArray, List.set_cons_zero, List.set_cons_succ]
      refine Cel.take_at (i := 6) (some 18) (.string s) rfl rfl (by kernel_rfl) (by kernel_rfl) (by kernel_rfl) (fun _ _ _ h => h) (Or.inl ⟨by rfl, fun w hSw => by go_simp⟩) hH ?_
      refine Cel.take_at (i := 7) (some 19) (.int .u8 ((s[124]'(by omega)).toNat : Nat)) rfl rfl (by kernel_rfl) (by kernel_rfl) (by kernel_rfl) (fun _ _ _ h => h) (Or.inl ⟨by rfl, fun w hSw => by go_simp⟩) hH ?_
      try simp only [Act.put, List.setIfInBounds_toArray, List.set_cons_zero, List.set_cons_succ]
      refine Cel.take_at (i := 11) (some 23) (.string s) rfl rfl (by kernel_rfl) (by kernel_rfl) (by kernel_rfl) (fun _ _ _ h => h) (Or.inl ⟨by rfl, fun w hSw => by go_simp⟩) hH ?_
      refine Cel.take_at (i := 12) (some 24) (.string (s.extract 0 124)) rfl rfl (by kernel_rfl) (by kernel_rfl) (by kernel_rfl) (fun _ _ _ h => h) (Or.inl ⟨by rfl, fun w hSw => by go_simp⟩) hH ?_
      try simp only [Act.put, List.setIfInBounds_toArray, List.set_cons_zero, List.set_cons_succ]
      generalize w1.drew = V0 at hH ⊢
      try simp only [Act.put, List.setIfInBounds_toArray, List.set_cons_zero, List.set_cons_succ]
      refine wpAnyH_ready (rs := [8]) (by kernel_rfl) (by simp) (AllReadyH.cons rfl (fun K hK => ?_) AllReadyH.nil)
      go_simp
      have hnew := heap_alloc_new V0 (.cells #[.int .u8 ((s[127]'hl).toNat : Nat), .int .u8 ((s[126]'(by omega)).toNat : Nat), .int .u8 ((s[125]'(by omega)).toNat : Nat), .int .u8 ((s[124]'(by omega)).toNat : Nat)] 5)
      have hQ : QB w (V0.alloc (.cells #[.int .u8 ((s[127]'hl).toNat : Nat), .int .u8 ((s[126]'(by omega)).toNat : Nat), .int .u8 ((s[125]'(by omega)).toNat : Nat), .int .u8 ((s[124]'(by omega)).toNat : Nat)] 5)) := ⟨hH.1.alloc hH.1.size _, (heap_alloc_old _ _ (Array.getElem?_eq_some_iff.1 hH.2).1).trans hH.2⟩
      obtain ⟨q, hq⟩ : ∃ q, V0.heap.size = q := ⟨_, rfl⟩
      rw [hq] at hnew ⊢
      generalize V0.alloc (.cells #[.int .u8 ((s[127]'hl).toNat : Nat), .int .u8 ((s[126]'(by omega)).toNat : Nat), .int .u8 ((s[125]'(by omega)).toNat : Nat), .int .u8 ((s[124]'(by omega)).toNat : Nat)] 5) = V1 at hnew hQ ⊢
      refine hK.out _ _ hQ (fun hH => ?_)
      clear hK K hQ hq
      try simp only [Act.put, List.setIfInBounds_toArray, List.set_cons_zero, List.set_cons_succ]
      have hcv : ∀ j (hj : j < 4), V1.cell? ((⟨q, 0, none⟩ : Addr).add j) = some (.int .u8 (([s[127]'hl, s[126]'(by omega), s[125]'(by omega), s[124]'(by omega)][j]'hj).toNat : Nat)) := by
        intro j hj
        have hj' : j = 0 ∨ j = 1 ∨ j = 2 ∨ j = 3 := by omega
        rcases hj' with rfl | rfl | rfl | rfl <;> exact (cell_of_row V1 q _ _ _ _ hnew).trans rfl
      have hconv : (convert 26 9 (.slice (some (⟨q, 0, none⟩ : Addr)) 4 4)).run Tryd.prog V1 = .ok (.string ⟨#[s[127]'hl, s[126]'(by omega), s[125]'(by omega), s[124]'(by omega)]⟩) V1 := run_convert_bytes_back (P := Tryd.prog) V1 26 9 5 (⟨q, 0, none⟩ : Addr) 4 [s[127]'hl, s[126]'(by omega), s[125]'(by omega), s[124]'(by omega)] rfl rfl rfl hcv
      clear hcv hnew
      refine wpAnyH_ready (rs := [9]) (by kernel_rfl) (by simp) (AllReadyH.cons rfl (fun K hK => ?_) AllReadyH.nil)
      go_simp
      refine hK.out _ _ hH (fun hH => ?_)
      clear hK K hconv
      try simp only [Act.put, List.setIfInBounds_toArray, List.set_cons_zero, List.set_cons_succ]
      refine wpAnyH_ready (rs := [10]) (by kernel_rfl) (by simp) (AllReadyH.cons rfl (fun K hK => ?_) AllReadyH.nil)
      go_simp
      refine (KV.out _).mono ?_
      rintro x v4 ⟨rfl, rfl⟩
      refine hK.out _ _ hH (fun hH => ?_)
      clear hK K
      try simp only [Act.put, List.setIfInBounds_toArray, List.set_cons_zero, List.set_cons_succ]
      refine wpAnyH_ready (rs := [13]) (by kernel_rfl) (by simp) (AllReadyH.cons rfl (fun K hK => ?_) AllReadyH.nil)
      go_simp
      refine (KS.out _).mono ?_
      rintro x v4 ⟨rfl, rfl⟩
      refine hK.out _ _ hH (fun hH => ?_)
      clear hK K
      try simp only [Act.put, List.setIfInBounds_toArray, List.set_cons_zero, List.set_cons_succ]
      refine Cel.take_at (i := 14) (some 26) (.bool d) rfl rfl (by kernel_rfl) (by kernel_rfl) (by kernel_rfl) (fun _ _ _ h => h) (Or.inl ⟨by rfl, fun w hSw => by go_simp⟩) hH ?_
      have B1 := Aside0.mk hH
      clear hH
      refine wpAnyH_done (by kernel_rfl) ?_ _
      try simp only [Act.put, List.setIfInBounds_toArray, List.set_cons_zero, List.set_cons_succ]
      by_cases hST : S = T
      · subst hST
        have hd0 : d = false := by rw [← hd]; simp
        subst hd0
        clear hd
        have hST : sumN (s.extract 0 124).data.toList = low s.data.toList 124 4 := by rw [HS.out, HT.out]
        have hl0 : 0 < s.size := by omega
        have hl13 : 13 < s.size := by omega
        have hn8 := (s[13]'hl13).toNat_lt
        have hat := at_getD s 13 hl13
        obtain ⟨n, hn⟩ : ∃ n, (s[13]'hl13).toNat = n := ⟨_, rfl⟩
        rw [hn] at hn8
        have HST := Aside0.mk hST
        have HAT := Aside0.mk (show (s.data.toList.getD 13 0).toNat = n by rw [hat, hn])
        have HN := Aside0.mk hn
        clear hST hat hn
        by_cases hn1 : 110 < n
        · have t2 : decide (110 < (n : Int)) = true := decide_eq_true (by omega)
          have t3 : decide (110 < n) = true := decide_eq_true hn1
          have E := Aside0.mk (openS_form H1.out HBL.out HST.out (.inl (by rw [HAT.out]; exact hn1)))
          have hZ1 := B1.out.2
          have hn := HN.out
          go_wp2_with (refine wpList_store_row rfl 33 _ _ rfl w.heap.size #[.int .u8 0, .int .u64 0, .int .u32 0, .string ⟨#[]⟩] rfl rfl 33 _ hZ1 hi rfl ho ?_)
          exact bodyPost_ret (Cel.end_cell rfl _ _ _ _ _ hZ1 rfl Tryd.underlying33 rfl hi) rfl ⟨by rw [E.out]; rfl, below_setRow B1.out.1 (Nat.le_refl _) _⟩
        · have t2 : decide (110 < (n : Int)) = false := decide_eq_false (by omega)
          have t3 : decide (110 < n) = false := decide_eq_false hn1
          have hn2 : 14 + n ≤ 124 := by omega
          have hn3 : (14 : Int) + (n : Int) ≤ 124 := by omega
          have K2 := Aside0.mk (fun V => rblank2_calls (s.extract (14 + n) 124) V (by rw [ByteArray.size_extract]; omega))
          obtain ⟨b2, hb2⟩ : ∃ b, blankB (s.extract (14 + n) 124).data.toList = b := ⟨_, rfl⟩
          rw [hb2] at K2
          have HB2 := Aside0.mk hb2
          clear hb2
          have hn := HN.out
          have hslice : ∀ W : World, (Instr.slice 9 (.string s) (some (.int .i64 (14 + (n : Int)))) (some (.int .i64 124)) none).run Tryd.prog W = .ok (.string (s.extract (14 + n) 124)) W := fun W => by
            have := run_slice_string (P := Tryd.prog) 9 s .i64 .i64 (14 + (n : Int)) 124 Tryd.underlying9 (by omega) (by omega) (by omega) (w := W)
            rw [show (14 + (n : Int)).toNat = 14 + n by omega] at this
            exact this
          go_wp2_with fail
          refine (K2.out _).mono ?_
          rintro x w2 ⟨rfl, hw2⟩
          have B2 := Aside0.mk (B1.out.step hw2)
          have hZ1 := B2.out.2
          clear hw2 B1 K2
          cases b2 with
          | false =>
            have E := Aside0.mk (openS_form H1.out HBL.out HST.out (.inr (by rw [HAT.out]; exact HB2.out)))
            go_wp2_with (refine wpList_store_row rfl 33 _ _ rfl w.heap.size #[.int .u8 0, .int .u64 0, .int .u32 0, .string ⟨#[]⟩] rfl rfl 33 _ hZ1 hi rfl ho ?_)
            exact bodyPost_ret (Cel.end_cell rfl _ _ _ _ _ hZ1 rfl Tryd.underlying33 rfl hi) rfl ⟨by rw [E.out]; rfl, below_setRow B2.out.1 (Nat.le_refl _) _⟩
          | true =>
            have E := Aside0.mk (openS_ok H1.out HBL.out HST.out (by rw [HAT.out]; omega) (by rw [HAT.out]; exact HB2.out))
            rw [HAT.out, at_getD s 0 hl0] at E
            have KG := Aside0.mk (fun V => rvalue_calls (s.extract 1 9) V (by rw [ByteArray.size_extract]; omega))
            have KI := Aside0.mk (fun V => rvalue_calls (s.extract 9 13) V (by rw [ByteArray.size_extract]; omega))
            have hi0 := val_lt (s.extract 9 13).data.toList
            obtain ⟨g0, hg0⟩ : ∃ g, val (s.extract 1 9).data.toList = g := ⟨_, rfl⟩
            obtain ⟨i0, hi0'⟩ : ∃ g, val (s.extract 9 13).data.toList = g := ⟨_, rfl⟩
            rw [hg0] at KG E
            rw [hi0'] at KI E hi0
            have hi1 : i0 < 4294967296 := Nat.lt_of_lt_of_le hi0 (by
              have : (s.extract 9 13).data.toList.length ≤ 4 := by rw [Array.length_toList]; show (s.extract 9 13).size ≤ 4; rw [ByteArray.size_extract]; omega
              exact Nat.pow_le_pow_right (by omega) this)
            have e5 : (i0 : Int) % 4294967296 = (i0 : Int) := by omega
            have hn4 : 14 + n ≤ s.size := by omega
            clear hg0 hi0 hi0' hi1 hn
            go_wp2_with fail
            clear hslice
            have hwrap : IntKind.i64.wrap (14 + (n : Int)) = 14 + (n : Int) := by rw [IntKind.wrap_i64]; omega
            have hwrap2 : IntKind.u32.wrap (i0 : Int) = (i0 : Int) := by rw [IntKind.wrap_u32]; omega
            have hslice2 : ∀ W : World, (Instr.slice 9 (.string s) (some (.int .i64 14)) (some (.int .i64 (14 + (n : Int)))) none).run Tryd.prog W = .ok (.string (s.extract 14 (14 + n))) W := fun W => by
              have := run_slice_string (P := Tryd.prog) 9 s .i64 .i64 14 (14 + (n : Int)) Tryd.underlying9 (by omega) (by omega) (by omega) (w := W)
              rw [show (14 + (n : Int)).toNat = 14 + n by omega] at this
              exact this
            refine wp_region_held_drew (S := fun V => QB4 w V) (by kernel_rfl) ⟨B2.out.1.drew, _, hZ1, rfl⟩ (fun hH => ?_)
            refine Cel.take_at (i := 0) (some 42) (.string s) rfl rfl (by kernel_rfl) (by kernel_rfl) (by kernel_rfl) (fun _ _ _ h => h) (Or.inl ⟨by rfl, fun w hSw => by go_simp⟩) hH ?_
            refine Cel.take_at (i := 1) (some 43) (.int .u8 ((s[0]'hl0).toNat : Nat)) rfl rfl (by kernel_rfl) (by kernel_rfl) (by kernel_rfl) (fun _ _ _ h => h) (Or.inl ⟨by rfl, fun w hSw => by go_simp⟩) hH ?_
            try simp only [Act.put, List.setIfInBounds_toArray, List.set_cons_zero, List.set_cons_succ]
            refine Cel.take_at (i := 2) (some 44) (.string s) rfl rfl (by kernel_rfl) (by kernel_rfl) (by kernel_rfl) (fun _ _ _ h => h) (Or.inl ⟨by rfl, fun w hSw => by go_simp⟩) hH ?_
            refine Cel.take_at (i := 3) (some 45) (.string (s.extract 1 9)) rfl rfl (by kernel_rfl) (by kernel_rfl) (by kernel_rfl) (fun _ _ _ h => h) (Or.inl ⟨by rfl, fun w hSw => by go_simp⟩) hH ?_
            try simp only [Act.put, List.setIfInBounds_toArray, List.set_cons_zero, List.set_cons_succ]
            refine Cel.take_at (i := 5) (some 47) (.string s) rfl rfl (by kernel_rfl) (by kernel_rfl) (by kernel_rfl) (fun _ _ _ h => h) (Or.inl ⟨by rfl, fun w hSw => by go_simp⟩) hH ?_
            refine Cel.take_at (i := 6) (some 48) (.string (s.extract 9 13)) rfl rfl (by kernel_rfl) (by kernel_rfl) (by kernel_rfl) (fun _ _ _ h => h) (Or.inl ⟨by rfl, fun w hSw => by go_simp⟩) hH ?_
            try simp only [Act.put, List.setIfInBounds_toArray, List.set_cons_zero, List.set_cons_succ]
            refine Cel.take_at (i := 9) (some 51) (.string s) rfl rfl (by kernel_rfl) (by kernel_rfl) (by kernel_rfl) (fun _ _ _ h => h) (Or.inl ⟨by rfl, fun w hSw => by go_simp⟩) hH ?_
            refine Cel.take_at (i := 10) (some 52) (.int .i64 (n : Int)) rfl rfl (by kernel_rfl) (by kernel_rfl) (by kernel_rfl) (fun _ _ _ h => h) (Or.inl ⟨by rfl, fun w hSw => by go_simp⟩) hH ?_
            try simp only [Act.put, List.setIfInBounds_toArray, List.set_cons_zero, List.set_cons_succ]
            refine Cel.take_at (i := 11) (some 53) (.int .i64 (14 + (n : Int))) rfl rfl (by kernel_rfl) (by kernel_rfl) (by kernel_rfl) (fun _ _ _ h => h) (Or.inl ⟨by rfl, fun w hSw => by go_simp⟩) hH ?_
            refine Cel.take_at (i := 12) (some 54) (.string (s.extract 14 (14 + n))) rfl rfl (by kernel_rfl) (by kernel_rfl) (by kernel_rfl) (fun _ _ _ h => h) (Or.inl ⟨by rfl, fun w hSw => by go_simp⟩) hH ?_
            try simp only [Act.put, List.setIfInBounds_toArray, List.set_cons_zero, List.set_cons_succ]
            generalize w2.drew = V0 at hH ⊢
            try simp only [Act.put, List.setIfInBounds_toArray, List.set_cons_zero, List.set_cons_succ]
            refine wpAnyH_ready (rs := [4]) (by kernel_rfl) (by simp) (AllReadyH.cons rfl (fun K hK => ?_) AllReadyH.nil)
            go_simp
            refine (KG.out _).mono ?_
            rintro x v4 ⟨rfl, rfl⟩
            refine hK.out _ _ hH (fun hH => ?_)
            clear hK K
            try simp only [Act.put, List.setIfInBounds_toArray, List.set_cons_zero, List.set_cons_succ]
            refine wpAnyH_ready (rs := [7]) (by kernel_rfl) (by simp) (AllReadyH.cons rfl (fun K hK => ?_) AllReadyH.nil)
            go_simp
            refine (KI.out _).mono ?_
            rintro x v7 ⟨rfl, rfl⟩
            refine hK.out _ _ hH (fun hH => ?_)
            clear hK K
            try simp only [Act.put, List.setIfInBounds_toArray, List.set_cons_zero, List.set_cons_succ]
            refine Cel.take_at (i := 8) (some 50) (.int .u32 (i0 : Nat)) rfl rfl (by kernel_rfl) (by kernel_rfl) (by kernel_rfl) (fun _ _ _ h => h) (Or.inl ⟨by rfl, fun w hSw => by go_simp⟩) hH ?_
            try simp only [Act.put, List.setIfInBounds_toArray, List.set_cons_zero, List.set_cons_succ]
            refine Cel.take_at (i := 13) (some 55) (.agg #[.int .u8 ((s[0]'hl0).toNat : Nat), .int .u64 (g0 : Nat), .int .u32 (i0 : Nat), .string (s.extract 14 (14 + n))]) rfl rfl (by kernel_rfl) (by kernel_rfl) (by kernel_rfl) (fun _ _ _ h => h) (Or.inl ⟨by rfl, fun w hSw => by go_simp⟩) hH ?_
            try simp only [Act.put, List.setIfInBounds_toArray, List.set_cons_zero, List.set_cons_succ]
            obtain ⟨hb0, cs0, hc0, hl0'⟩ := hH
            have hif : (Tryd.prog.info? 33).map (·.size) = some (#[.int .u8 ((s[0]'hl0).toNat : Nat), .int .u64 (g0 : Nat), .int .u32 (i0 : Nat), .string (s.extract 14 (14 + n))] : Array Value).size := infoQ
            have hof : (#[.int .u8 ((s[0]'hl0).toNat : Nat), .int .u64 (g0 : Nat), .int .u32 (i0 : Nat), .string (s.extract 14 (14 + n))] : Array Value).all (·.oneCell') = true := recV_one ⟨(s[0]'hl0).toNat, g0, i0, s.extract 14 (14 + n)⟩
            refine wpAnyH_ready (rs := [14]) (by kernel_rfl) (by simp) (AllReadyH.cons rfl (fun K hK => ?_) AllReadyH.nil)
            rw [if_pos (by rfl)]
            refine Cel.wp_store_none rfl 33 (.tmp 2) (.tmp 55) rfl w.heap.size _ rfl rfl 33 _ hc0 hif hl0' hof ?_
            have hR := setRow_heap V0 w.heap.size _ #[.int .u8 ((s[0]'hl0).toNat : Nat), .int .u64 (g0 : Nat), .int .u32 (i0 : Nat), .string (s.extract 14 (14 + n))] 33 (0, 0) hc0
            have hbz := below_setRow hb0 (Nat.le_refl _) #[.int .u8 ((s[0]'hl0).toNat : Nat), .int .u64 (g0 : Nat), .int .u32 (i0 : Nat), .string (s.extract 14 (14 + n))]
            refine hK.out _ _ ⟨hbz, _, hR, rfl⟩ (fun hH => ?_)
            clear hK K
            try simp only [Act.put, List.setIfInBounds_toArray, List.set_cons_zero, List.set_cons_succ]
            refine Cel.take_at (i := 15) (some 3) (.int .i64 0) rfl rfl (by kernel_rfl) (by kernel_rfl) (by kernel_rfl) (fun _ _ _ h => h) (Or.inl ⟨by rfl, fun w hSw => by go_simp⟩) hH ?_
            refine wpAnyH_done (by kernel_rfl) ?_ _
            try simp only [Act.put, List.setIfInBounds_toArray, List.set_cons_zero, List.set_cons_succ]
            have HR := Aside0.mk hc0
            have HBZ := Aside0.mk hbz
            clear hH hR hbz hb0
            go_wp2
            exact bodyPost_ret (Cel.end_cell rfl _ _ _ _ _ HR.out rfl Tryd.underlying33 rfl hif) rfl ⟨by rw [E.out]; rfl, HBZ.out⟩
      · have hd0 : d = true := by rw [← hd]; simp; omega
        subst hd0
        clear hd
        have E := Aside0.mk (openS_sum H1.out HBL.out (by rw [HS.out, HT.out]; exact hST))
        clear hST
        have hZ1 := B1.out.2
        go_wp2_with (refine wpList_store_row rfl 33 _ _ rfl w.heap.size #[.int .u8 0, .int .u64 0, .int .u32 0, .string ⟨#[]⟩] rfl rfl 33 _ hZ1 hi rfl ho ?_)
        exact bodyPost_ret (Cel.end_cell rfl _ _ _ _ _ hZ1 rfl Tryd.underlying33 rfl hi) rfl ⟨by rw [E.out]; rfl, below_setRow B1.out.1 (Nat.le_refl _) _⟩
  · have c1 : ((s.size : Int) != 128) = true := by simp; omega
    have c1' : (s.size != 128) = true := by simp [h1]
    have E := Aside0.mk (openS_len h1)
    go_enter Tryd.func9, Tryd.ntmps9
    go_wp2_with (refine wpList_store_row rfl 33 _ _ rfl w.heap.size #[.int .u8 0, .int .u64 0, .int .u32 0, .string ⟨#[]⟩] rfl rfl 33 _ hz hi rfl ho ?_)
    exact bodyPost_ret (Cel.end_cell rfl _ _ _ _ _ hz rfl Tryd.underlying33 rfl hi) rfl ⟨by rw [E.out]; rfl, below_setRow ((Below.refl _ _).alloc (Nat.le_refl _) _) (Nat.le_refl _) _⟩
end Go.Proofs.YtombochecgjmjaaDoor.Sl
