/- SealOpens: the law's walk. Printed by gen_opens.py. -/
import Derived.Test.YtombochecgjmjaaDoorSlRec
namespace Go.Proofs.YtombochecgjmjaaDoor.Sl
set_option linter.unusedSimpArgs false
set_option linter.unusedVariables false
open Go.RowKit

set_option maxRecDepth 100000 in
set_option maxHeartbeats 1000000 in
theorem opens_walk (s : ByteArray) (b : Bool) (w : World) : Calls Tryd.prog 3 #[.string s, .bool b] w fun e w' => e = .returned (.bool true) ∧ Below w.heap.size w w' := by
  by_cases h : 300 < s.size
  · have c1 : decide (300 < (s.size : Int)) = true := decide_eq_true (by omega)
    have c2 : decide (300 < s.size) = true := decide_eq_true (by omega)
    go_enter Tryd.func3, Tryd.ntmps3
    go_wp2_with fail
    refine (awake_calls _).mono ?_
    rintro r w1 ⟨rfl, h1⟩
    have H1 := Aside0.mk h1
    clear h1
    go_wp2
    go_ret
    exact ⟨rfl, H1.out⟩
  have c1 : decide (300 < (s.size : Int)) = false := decide_eq_false (by omega)
  have c2 : decide (300 < s.size) = false := decide_eq_false (by omega)
  by_cases hr : b = true ∧ s.size = 128
  · obtain ⟨rfl, hs⟩ := hr
    have t1 : ((s.size : Int) == 128) = true := by rw [hs]; rfl
    have t1' : (s.size == 128) = true := by rw [hs]; rfl
    obtain ⟨z, hz⟩ : ∃ z : ByteArray, (⟨((s.extract 0 124).data.toList ++ lb (sumN (s.extract 0 124).data.toList) 4).toArray⟩ : ByteArray) = z := ⟨_, rfl⟩
    have hzs : z.size = 128 := by
      rw [← hz]; show (((s.extract 0 124).data.toList ++ lb (sumN (s.extract 0 124).data.toList) 4).toArray).size = 128
      rw [List.size_toArray, List.length_append, lb_len, Array.length_toList]; show (s.extract 0 124).size + 4 = 128; rw [ByteArray.size_extract]; omega
    have KO := Aside0.mk (fun V => open_calls z V (by omega))
    have KR := Aside0.mk (fun V => ropen_calls z V (by omega))
    have KS := Aside0.mk (fun V => rsum_calls (s.extract 0 124) V (by rw [ByteArray.size_extract]; omega))
    have hl := sumN_lt (s.extract 0 124).data.toList
    obtain ⟨S, hS⟩ : ∃ S, sumN (s.extract 0 124).data.toList = S := ⟨_, rfl⟩
    rw [hS] at KS hl hz
    obtain ⟨RR, hRR⟩ : ∃ r, openS z = r := ⟨_, rfl⟩
    rw [hRR] at KO KR
    obtain ⟨R, C⟩ := RR
    dsimp only at KO KR
    have hi1 : (Tryd.prog.info? 29).map (·.size) = some (recV R).size := infoR
    have hi2 : (Tryd.prog.info? 33).map (·.size) = some (recV R).size := infoQ
    have hone := recV_one R
    have keq := recEq R
    have HZ := Aside0.mk hz
    have hle : 124 ≤ s.size := by omega
    obtain ⟨x0, hx0⟩ : ∃ x : UInt8, UInt8.ofNat S = x := ⟨_, rfl⟩
    obtain ⟨x1, hx1⟩ : ∃ x : UInt8, UInt8.ofNat (S / 256) = x := ⟨_, rfl⟩
    obtain ⟨x2, hx2⟩ : ∃ x : UInt8, UInt8.ofNat (S / 65536) = x := ⟨_, rfl⟩
    obtain ⟨x3, hx3⟩ : ∃ x : UInt8, UInt8.ofNat (S / 16777216) = x := ⟨_, rfl⟩
    have e0 : IntKind.u8.wrap (S : Int) = ((x0.toNat : Nat) : Int) := by rw [IntKind.wrap_u8, ← hx0]; simp [UInt8.toNat_ofNat]
    have e1 : IntKind.u8.wrap ((S : Int) / 256) = ((x1.toNat : Nat) : Int) := by rw [IntKind.wrap_u8, ← hx1]; simp [UInt8.toNat_ofNat]
    have e2 : IntKind.u8.wrap ((S : Int) / 65536) = ((x2.toNat : Nat) : Int) := by rw [IntKind.wrap_u8, ← hx2]; simp [UInt8.toNat_ofNat]
    have e3 : IntKind.u8.wrap ((S : Int) / 16777216) = ((x3.toNat : Nat) : Int) := by rw [IntKind.wrap_u8, ← hx3]; simp [UInt8.toNat_ofNat]
    have hsz : (s.size : Int) = 128 := by omega
    have hzz : s.extract 0 124 ++ ⟨#[x0, x1, x2, x3]⟩ = z := by
      rw [← hz, ← hx0, ← hx1, ← hx2, ← hx3]
      apply ByteArray.ext
      rw [ByteArray.data_append]
      apply Array.toList_inj.1
      rw [Array.toList_append]
      simp [lb, Nat.div_div_eq_div_mul]
    have hcc : ¬ 9223372036854775807 < (s.extract 0 124).size + (⟨#[x0, x1, x2, x3]⟩ : ByteArray).size := by
      rw [ByteArray.size_extract]; show ¬ 9223372036854775807 < (min 124 s.size - 0) + 4; omega
    have HZZ := Aside0.mk hzz
    clear hRR h hz hS hl hs hzs hx0 hx1 hx2 hx3 hzz
    go_enter Tryd.func3, Tryd.ntmps3
    go_wp2_with fail
    refine (KS.out _).mono ?_
    rintro x w0 ⟨rfl, rfl⟩
    go_wp2_with fail
    refine wp_region_held_drew (S := fun V => Below w.heap.size w V) (by kernel_rfl) ((Below.refl _ _).drew) (fun hH => ?_)
    refine Cel.take_at (i := 0) (some 23) (.string s) rfl rfl (by kernel_rfl) (by kernel_rfl) (by kernel_rfl) (fun _ _ _ h => h) (Or.inl ⟨by rfl, fun w hSw => by go_simp⟩) hH ?_
    refine Cel.take_at (i := 1) (some 24) (.string (s.extract 0 124)) rfl rfl (by kernel_rfl) (by kernel_rfl) (by kernel_rfl) (fun _ _ _ h => h) (Or.inl ⟨by rfl, fun w hSw => by go_simp⟩) hH ?_
    try simp only [Act.put, List.setIfInBounds_toArray, List.set_cons_zero, List.set_cons_succ]
    refine Cel.take_at (i := 2) (some 25) (.int .u64 (S : Nat)) rfl rfl (by kernel_rfl) (by kernel_rfl) (by kernel_rfl) (fun _ _ _ h => h) (Or.inl ⟨by rfl, fun w hSw => by go_simp⟩) hH ?_
    refine Cel.take_at (i := 3) (some 26) (.int .u8 (x0.toNat : Nat)) rfl rfl (by kernel_rfl) (by kernel_rfl) (by kernel_rfl) (fun _ _ _ h => h) (Or.inl ⟨by rfl, fun w hSw => by go_simp⟩) hH ?_
    try simp only [Act.put, List.setIfInBounds_toArray, List.set_cons_zero, List.set_cons_succ]
    refine Cel.take_at (i := 4) (some 27) (.int .u64 (S : Nat)) rfl rfl (by kernel_rfl) (by kernel_rfl) (by kernel_rfl) (fun _ _ _ h => h) (Or.inl ⟨by rfl, fun w hSw => by go_simp⟩) hH ?_
    refine Cel.take_at (i := 5) (some 28) (.int .u64 ((S / 256 : Nat) : Int)) rfl rfl (by kernel_rfl) (by kernel_rfl) (by kernel_rfl) (fun _ _ _ h => h) (Or.inl ⟨by rfl, fun w hSw => by go_simp⟩) hH ?_
    try simp only [Act.put, List.setIfInBounds_toArray, List.set_cons_zero, List.set_cons_succ]
    refine Cel.take_at (i := 6) (some 29) (.int .u8 (x1.toNat : Nat)) rfl rfl (by kernel_rfl) (by kernel_rfl) (by kernel_rfl) (fun _ _ _ h => h) (Or.inl ⟨by rfl, fun w hSw => by go_simp⟩) hH ?_
    refine Cel.take_at (i := 7) (some 30) (.int .u64 (S : Nat)) rfl rfl (by kernel_rfl) (by kernel_rfl) (by kernel_rfl) (fun _ _ _ h => h) (Or.inl ⟨by rfl, fun w hSw => by go_simp⟩) hH ?_
    try simp only [Act.put, List.setIfInBounds_toArray, List.set_cons_zero, List.set_cons_succ]
    refine Cel.take_at (i := 8) (some 31) (.int .u64 ((S / 65536 : Nat) : Int)) rfl rfl (by kernel_rfl) (by kernel_rfl) (by kernel_rfl) (fun _ _ _ h => h) (Or.inl ⟨by rfl, fun w hSw => by go_simp⟩) hH ?_
    refine Cel.take_at (i := 9) (some 32) (.int .u8 (x2.toNat : Nat)) rfl rfl (by kernel_rfl) (by kernel_rfl) (by kernel_rfl) (fun _ _ _ h => h) (Or.inl ⟨by rfl, fun w hSw => by go_simp⟩) hH ?_
    try simp only [Act.put, List.setIfInBounds_toArray, List.set_cons_zero, List.set_cons_succ]
    refine Cel.take_at (i := 10) (some 33) (.int .u64 (S : Nat)) rfl rfl (by kernel_rfl) (by kernel_rfl) (by kernel_rfl) (fun _ _ _ h => h) (Or.inl ⟨by rfl, fun w hSw => by go_simp⟩) hH ?_
    refine Cel.take_at (i := 11) (some 34) (.int .u64 ((S / 16777216 : Nat) : Int)) rfl rfl (by kernel_rfl) (by kernel_rfl) (by kernel_rfl) (fun _ _ _ h => h) (Or.inl ⟨by rfl, fun w hSw => by go_simp⟩) hH ?_
    try simp only [Act.put, List.setIfInBounds_toArray, List.set_cons_zero, List.set_cons_succ]
    refine Cel.take_at (i := 12) (some 35) (.int .u8 (x3.toNat : Nat)) rfl rfl (by kernel_rfl) (by kernel_rfl) (by kernel_rfl) (fun _ _ _ h => h) (Or.inl ⟨by rfl, fun w hSw => by go_simp⟩) hH ?_
    generalize w.drew = V0 at hH ⊢
    refine wpAnyH_ready (rs := [13]) (by kernel_rfl) (by simp) (AllReadyH.cons rfl (fun K hK => ?_) AllReadyH.nil)
    go_simp
    have hnew := heap_alloc_new V0 (.cells #[.int .u8 (x0.toNat : Nat), .int .u8 (x1.toNat : Nat), .int .u8 (x2.toNat : Nat), .int .u8 (x3.toNat : Nat)] 5)
    have hQ : Below w.heap.size w (V0.alloc (.cells #[.int .u8 (x0.toNat : Nat), .int .u8 (x1.toNat : Nat), .int .u8 (x2.toNat : Nat), .int .u8 (x3.toNat : Nat)] 5)) := hH.alloc hH.size _
    obtain ⟨q, hq⟩ : ∃ q, V0.heap.size = q := ⟨_, rfl⟩
    rw [hq] at hnew ⊢
    generalize V0.alloc (.cells #[.int .u8 (x0.toNat : Nat), .int .u8 (x1.toNat : Nat), .int .u8 (x2.toNat : Nat), .int .u8 (x3.toNat : Nat)] 5) = V1 at hnew hQ ⊢
    refine hK.out _ _ hQ (fun hH => ?_)
    clear hK K hQ hq
    try simp only [Act.put, List.setIfInBounds_toArray, List.set_cons_zero, List.set_cons_succ]
    have hcv : ∀ j (hj : j < 4), V1.cell? ((⟨q, 0, none⟩ : Addr).add j) = some (.int .u8 (([x0, x1, x2, x3][j]'hj).toNat : Nat)) := by
      intro j hj
      have hj' : j = 0 ∨ j = 1 ∨ j = 2 ∨ j = 3 := by omega
      rcases hj' with rfl | rfl | rfl | rfl <;> exact (cell_of_row V1 q _ _ _ _ hnew).trans rfl
    have hconv : (convert 26 9 (.slice (some (⟨q, 0, none⟩ : Addr)) 4 4)).run Tryd.prog V1 = .ok (.string ⟨#[x0, x1, x2, x3]⟩) V1 := run_convert_bytes_back (P := Tryd.prog) V1 26 9 5 (⟨q, 0, none⟩ : Addr) 4 [x0, x1, x2, x3] rfl rfl rfl hcv
    clear hcv hnew
    refine wpAnyH_ready (rs := [14]) (by kernel_rfl) (by simp) (AllReadyH.cons rfl (fun K hK => ?_) AllReadyH.nil)
    go_simp
    refine hK.out _ _ hH (fun hH => ?_)
    clear hK K hconv
    try simp only [Act.put, List.setIfInBounds_toArray, List.set_cons_zero, List.set_cons_succ]
    refine Cel.take_at (i := 15) (some 38) (.string z) rfl rfl (by kernel_rfl) (by kernel_rfl) (by kernel_rfl) (fun _ _ _ h => h) (Or.inl ⟨by rfl, fun w hSw => by go_simp; rw [HZZ.out]⟩) hH ?_
    try simp only [Act.put, List.setIfInBounds_toArray, List.set_cons_zero, List.set_cons_succ]
    refine Cel.take_at (i := 16) (some 0) (.string z) rfl rfl (by kernel_rfl) (by kernel_rfl) (by kernel_rfl) (fun _ _ _ h => h) (Or.inl ⟨by rfl, fun w hSw => by go_simp⟩) hH ?_
    have H0 := Aside0.mk hH
    clear hH
    refine wpAnyH_done (by kernel_rfl) ?_ _
    try simp only [Act.put, List.setIfInBounds_toArray, List.set_cons_zero, List.set_cons_succ]
    go_wp2_with fail
    refine (KO.out _).mono ?_
    rintro x w1 ⟨rfl, h1⟩
    have H1 := Aside0.mk (H0.out.trans (h1.mono H0.out.size))
    clear h1 KO
    have z1 := heap_alloc_new w1 (.cells #[.int .u8 0, .int .u64 0, .int .u32 0, .string ⟨#[]⟩] 29)
    go_wp2_with (first | refine wpList_store_row rfl 29 _ _ rfl w1.heap.size (recV R) rfl rfl 29 _ z1 hi1 rfl hone ?_ | fail)
    have y1 := boxed_new w1 #[.int .u8 0, .int .u64 0, .int .u32 0, .string ⟨#[]⟩] (recV R) 29
    have B1 := H1.out.trans ((boxed_below w1 #[.int .u8 0, .int .u64 0, .int .u32 0, .string ⟨#[]⟩] (recV R) 29).mono H1.out.size)
    obtain ⟨p, hp⟩ : ∃ p, w1.heap.size = p := ⟨_, rfl⟩
    rw [hp] at y1 B1 ⊢
    generalize World.setRow (w1.alloc (.cells #[.int .u8 0, .int .u64 0, .int .u32 0, .string ⟨#[]⟩] 29)) p (recV R) = V1 at y1 B1 ⊢
    clear hp H1 z1
    refine (KR.out _).mono ?_
    rintro x w2 ⟨rfl, h2⟩
    replace y1 := keep y1 h2
    replace B1 := Aside0.mk (B1.trans (h2.mono B1.size))
    clear h2 KR V1
    have z2 := heap_alloc_new w2 (.cells #[.int .u8 0, .int .u64 0, .int .u32 0, .string ⟨#[]⟩] 33)
    go_wp2_with (first | refine wpList_store_row rfl 33 _ _ rfl w2.heap.size (recV R) rfl rfl 33 _ z2 hi2 rfl hone ?_ | fail)
    have y2 := boxed_new w2 #[.int .u8 0, .int .u64 0, .int .u32 0, .string ⟨#[]⟩] (recV R) 33
    have b2 := boxed_below w2 #[.int .u8 0, .int .u64 0, .int .u32 0, .string ⟨#[]⟩] (recV R) 33
    replace y1 := keep y1 b2
    replace B1 := B1.out.trans (b2.mono B1.out.size)
    clear b2 z2
    obtain ⟨q, hq⟩ : ∃ q, w2.heap.size = q := ⟨_, rfl⟩
    rw [hq] at y1 y2 B1 ⊢
    generalize World.setRow (w2.alloc (.cells #[.int .u8 0, .int .u64 0, .int .u32 0, .string ⟨#[]⟩] 33)) q (recV R) = V2 at y1 y2 B1 ⊢
    clear hq
    refine (awake_calls _).mono ?_
    rintro x w3 ⟨rfl, h3⟩
    replace y1 := keep y1 h3
    replace y2 := keep y2 h3
    replace B1 := Aside0.mk (B1.trans (h3.mono B1.size))
    clear h3 V2
    go_wp2_with (first | refine Cel.wpList_load_row_w rfl 29 _ rfl p rfl 29 _ (0, 0) _ y1 Tryd.underlying29 rfl hi1 ?_ | refine Cel.wpList_load_row_w rfl 33 _ rfl q rfl 33 _ (0, 0) _ y2 Tryd.underlying33 rfl hi2 ?_ | fail)
    go_ret
    exact ⟨rfl, B1.out⟩
  · have t1 : (b && ((s.size : Int) == 128)) = false := by
      cases b
      · rfl
      · have : s.size ≠ 128 := fun e => hr ⟨rfl, e⟩
        simp; omega
    have KO := Aside0.mk (fun V => open_calls s V (by omega))
    have KR := Aside0.mk (fun V => ropen_calls s V (by omega))
    obtain ⟨RR, hRR⟩ : ∃ r, openS s = r := ⟨_, rfl⟩
    rw [hRR] at KO KR
    obtain ⟨R, C⟩ := RR
    dsimp only at KO KR
    have hi1 : (Tryd.prog.info? 29).map (·.size) = some (recV R).size := infoR
    have hi2 : (Tryd.prog.info? 33).map (·.size) = some (recV R).size := infoQ
    have hone := recV_one R
    have keq := recEq R
    clear hRR h hr
    cases b with
    | false =>
      clear t1
      go_enter Tryd.func3, Tryd.ntmps3
      go_wp2_with fail
      refine (KO.out _).mono ?_
      rintro x w1 ⟨rfl, h1⟩
      have H1 := Aside0.mk h1
      clear h1 KO
      have z1 := heap_alloc_new w1 (.cells #[.int .u8 0, .int .u64 0, .int .u32 0, .string ⟨#[]⟩] 29)
      go_wp2_with (first | refine wpList_store_row rfl 29 _ _ rfl w1.heap.size (recV R) rfl rfl 29 _ z1 hi1 rfl hone ?_ | fail)
      have y1 := boxed_new w1 #[.int .u8 0, .int .u64 0, .int .u32 0, .string ⟨#[]⟩] (recV R) 29
      have B1 := H1.out.trans ((boxed_below w1 #[.int .u8 0, .int .u64 0, .int .u32 0, .string ⟨#[]⟩] (recV R) 29).mono H1.out.size)
      obtain ⟨p, hp⟩ : ∃ p, w1.heap.size = p := ⟨_, rfl⟩
      rw [hp] at y1 B1 ⊢
      generalize World.setRow (w1.alloc (.cells #[.int .u8 0, .int .u64 0, .int .u32 0, .string ⟨#[]⟩] 29)) p (recV R) = V1 at y1 B1 ⊢
      clear hp H1 z1
      refine (KR.out _).mono ?_
      rintro x w2 ⟨rfl, h2⟩
      replace y1 := keep y1 h2
      replace B1 := Aside0.mk (B1.trans (h2.mono B1.size))
      clear h2 KR V1
      have z2 := heap_alloc_new w2 (.cells #[.int .u8 0, .int .u64 0, .int .u32 0, .string ⟨#[]⟩] 33)
      go_wp2_with (first | refine wpList_store_row rfl 33 _ _ rfl w2.heap.size (recV R) rfl rfl 33 _ z2 hi2 rfl hone ?_ | fail)
      have y2 := boxed_new w2 #[.int .u8 0, .int .u64 0, .int .u32 0, .string ⟨#[]⟩] (recV R) 33
      have b2 := boxed_below w2 #[.int .u8 0, .int .u64 0, .int .u32 0, .string ⟨#[]⟩] (recV R) 33
      replace y1 := keep y1 b2
      replace B1 := B1.out.trans (b2.mono B1.out.size)
      clear b2 z2
      obtain ⟨q, hq⟩ : ∃ q, w2.heap.size = q := ⟨_, rfl⟩
      rw [hq] at y1 y2 B1 ⊢
      generalize World.setRow (w2.alloc (.cells #[.int .u8 0, .int .u64 0, .int .u32 0, .string ⟨#[]⟩] 33)) q (recV R) = V2 at y1 y2 B1 ⊢
      clear hq
      refine (awake_calls _).mono ?_
      rintro x w3 ⟨rfl, h3⟩
      replace y1 := keep y1 h3
      replace y2 := keep y2 h3
      replace B1 := Aside0.mk (B1.trans (h3.mono B1.size))
      clear h3 V2
      go_wp2_with (first | refine Cel.wpList_load_row_w rfl 29 _ rfl p rfl 29 _ (0, 0) _ y1 Tryd.underlying29 rfl hi1 ?_ | refine Cel.wpList_load_row_w rfl 33 _ rfl q rfl 33 _ (0, 0) _ y2 Tryd.underlying33 rfl hi2 ?_ | fail)
      go_ret
      exact ⟨rfl, B1.out⟩
    | true =>
      have t2 : ((s.size : Int) == 128) = false := by simp at t1 ⊢; omega
      have t3 : (s.size == 128) = false := by simp at t1 ⊢; omega
      go_enter Tryd.func3, Tryd.ntmps3
      go_wp2_with fail
      refine (KO.out _).mono ?_
      rintro x w1 ⟨rfl, h1⟩
      have H1 := Aside0.mk h1
      clear h1 KO
      have z1 := heap_alloc_new w1 (.cells #[.int .u8 0, .int .u64 0, .int .u32 0, .string ⟨#[]⟩] 29)
      go_wp2_with (first | refine wpList_store_row rfl 29 _ _ rfl w1.heap.size (recV R) rfl rfl 29 _ z1 hi1 rfl hone ?_ | fail)
      have y1 := boxed_new w1 #[.int .u8 0, .int .u64 0, .int .u32 0, .string ⟨#[]⟩] (recV R) 29
      have B1 := H1.out.trans ((boxed_below w1 #[.int .u8 0, .int .u64 0, .int .u32 0, .string ⟨#[]⟩] (recV R) 29).mono H1.out.size)
      obtain ⟨p, hp⟩ : ∃ p, w1.heap.size = p := ⟨_, rfl⟩
      rw [hp] at y1 B1 ⊢
      generalize World.setRow (w1.alloc (.cells #[.int .u8 0, .int .u64 0, .int .u32 0, .string ⟨#[]⟩] 29)) p (recV R) = V1 at y1 B1 ⊢
      clear hp H1 z1
      refine (KR.out _).mono ?_
      rintro x w2 ⟨rfl, h2⟩
      replace y1 := keep y1 h2
      replace B1 := Aside0.mk (B1.trans (h2.mono B1.size))
      clear h2 KR V1
      have z2 := heap_alloc_new w2 (.cells #[.int .u8 0, .int .u64 0, .int .u32 0, .string ⟨#[]⟩] 33)
      go_wp2_with (first | refine wpList_store_row rfl 33 _ _ rfl w2.heap.size (recV R) rfl rfl 33 _ z2 hi2 rfl hone ?_ | fail)
      have y2 := boxed_new w2 #[.int .u8 0, .int .u64 0, .int .u32 0, .string ⟨#[]⟩] (recV R) 33
      have b2 := boxed_below w2 #[.int .u8 0, .int .u64 0, .int .u32 0, .string ⟨#[]⟩] (recV R) 33
      replace y1 := keep y1 b2
      replace B1 := B1.out.trans (b2.mono B1.out.size)
      clear b2 z2
      obtain ⟨q, hq⟩ : ∃ q, w2.heap.size = q := ⟨_, rfl⟩
      rw [hq] at y1 y2 B1 ⊢
      generalize World.setRow (w2.alloc (.cells #[.int .u8 0, .int .u64 0, .int .u32 0, .string ⟨#[]⟩] 33)) q (recV R) = V2 at y1 y2 B1 ⊢
      clear hq
      refine (awake_calls _).mono ?_
      rintro x w3 ⟨rfl, h3⟩
      replace y1 := keep y1 h3
      replace y2 := keep y2 h3
      replace B1 := Aside0.mk (B1.trans (h3.mono B1.size))
      clear h3 V2
      go_wp2_with (first | refine Cel.wpList_load_row_w rfl 29 _ rfl p rfl 29 _ (0, 0) _ y1 Tryd.underlying29 rfl hi1 ?_ | refine Cel.wpList_load_row_w rfl 33 _ rfl q rfl 33 _ (0, 0) _ y2 Tryd.underlying33 rfl hi2 ?_ | fail)
      go_ret
      exact ⟨rfl, B1.out⟩
end Go.Proofs.YtombochecgjmjaaDoor.Sl
