/- SealTells: the law's walk. -/
import Derived.Test.YtombochecgjmjaaDoorSlTurn
import Derived.Test.YtombochecgjmjaaDoorSlCloses
namespace Go.Proofs.YtombochecgjmjaaDoor.Sl
set_option linter.unusedSimpArgs false
set_option linter.unusedVariables false
open Go.RowKit

/-- The row that '[]byte(s)' laid. -/
def SR (W : World) (b : Nat) (l : List UInt8) : Prop :=
  ∃ (cur : Array Value) (lo hi : Nat), W.heap[b]? = some (.cells cur 5 (lo, hi)) ∧ l.length ≤ lo ∧ cur.toList.take l.length = Lib.byteCells l
theorem SR.cell {W : World} {b : Nat} {l : List UInt8} (h : SR W b l) (j : Nat) (hj : j < l.length) : W.cell? ⟨b, j, none⟩ = some (.int .u8 ((l.getD j 0).toNat : Nat)) := by
  obtain ⟨cur, lo, hi, h1, h2, h3⟩ := h
  have e : W.cell? ⟨b, j, none⟩ = cur[j]? := by simp [World.cell?, h1]
  rw [e]
  have := congrArg (·[j]?) h3
  simp only [List.getElem?_take, hj, if_true] at this
  rw [Array.getElem?_toList] at this
  rw [this, Lib.byteCells, List.getElem?_map, List.getElem?_eq_getElem hj, Option.map_some, List.getD_eq_getElem?_getD, List.getElem?_eq_getElem hj]; rfl
theorem SR.frozen {W : World} {b : Nat} {l : List UInt8} (h : SR W b l) (j : Nat) (hj : j < l.length) : W.frozen? ⟨b, j, none⟩ = false := by
  obtain ⟨cur, lo, hi, h1, h2, h3⟩ := h
  simp [World.frozen?, h1]
  omega
theorem SR.put {W : World} {b : Nat} {l : List UInt8} (h : SR W b l) (j : Nat) (v : UInt8) : SR (W.setCell ⟨b, j, none⟩ (.int .u8 (v.toNat : Nat))) b (l.set j v) := by
  obtain ⟨cur, lo, hi, h1, h2, h3⟩ := h
  refine ⟨cur.setIfInBounds j (.int .u8 (v.toNat : Nat)), lo, hi, ?_, by rw [List.length_set]; exact h2, ?_⟩
  · simp [World.setCell, Array.getElem?_modify, h1]
  · rw [List.length_set, Array.toList_setIfInBounds, List.take_set, h3]
    simp [Lib.byteCells, List.map_set]
theorem SR.string {W : World} {b c : Nat} {l : List UInt8} (h : SR W b l) : (convert 26 9 (.slice (some ⟨b, 0, none⟩) l.length c)).run Tryd.prog W = .ok (.string ⟨l.toArray⟩) W :=
  run_convert_bytes_back (P := Tryd.prog) W 26 9 5 ⟨b, 0, none⟩ c l rfl rfl rfl (fun j hj => by
    have := h.cell j hj
    rw [List.getD_eq_getElem?_getD, List.getElem?_eq_getElem hj] at this
    cases j with
    | zero => exact this
    | succ j => simpa [Addr.add] using this)
theorem str_row (s : ByteArray) (w : World) : ∃ W c, (convert 9 26 (.string s)).run Tryd.prog w = .ok (.slice (some ⟨w.heap.size, 0, none⟩) s.size c) W ∧ Below w.heap.size w W ∧ SR W w.heap.size s.data.toList := by
  refine ⟨_, _, run_bytes_of_string (P := Tryd.prog) w 9 26 5 s rfl rfl rfl, ((Below.refl _ _).drew).alloc (Nat.le_refl _) _, _, _, _, heap_alloc_new w.drew _, ?_, ?_⟩
  · simp [bytesRow]
  · simp [bytesRow, Lib.byteCells]

set_option maxRecDepth 100000 in
set_option maxHeartbeats 2000000 in
theorem tells_walk (k g i : Nat) (d : ByteArray) (ax bx : Nat) (raw : ByteArray) (w : World) (hk : k < 256) (hg : g < 18446744073709551616) (hi : i < 4294967296) (hax : ax < 256) (hbx : bx < 256) :
    Calls Tryd.prog 5 #[.agg (rc k g i d), .int .u8 (ax : Nat), .int .u8 (bx : Nat), .string raw] w fun e w' => e = .returned (.bool true) ∧ Below w.heap.size w w' := by
  have hz := heap_alloc_new w (.cells (rc k g i d) 29)
  have x3 : (w.alloc (.cells (rc k g i d) 29)).cell? ⟨w.heap.size, 3, none⟩ = some (.string d) := cell_of_row _ _ 3 _ _ _ hz
  have HB := Aside0.mk (show Below w.heap.size w (w.alloc (.cells (rc k g i d) 29)) from (Below.refl _ _).alloc (Nat.le_refl _) _)
  by_cases h : 110 < d.size
  · have c1 : decide (110 < (d.size : Int)) = true := decide_eq_true (by omega)
    have c2 : decide (110 < d.size) = true := decide_eq_true (by omega)
    clear hz
    go_enter Tryd.func5, Tryd.ntmps5
    go_wp2_with fail
    refine (awake_calls _).mono ?_
    rintro r w1 ⟨rfl, h1⟩
    have H1 := Aside0.mk (HB.out.trans (h1.mono (HB.out.size)))
    clear h1
    go_wp2
    go_ret
    exact ⟨rfl, H1.out⟩
  have c1 : decide (110 < (d.size : Int)) = false := decide_eq_false (by omega)
  have c2 : decide (110 < d.size) = false := decide_eq_false (by omega)
  by_cases hr : raw.size = 128
  rotate_left
  · have c3 : ((raw.size : Int) != 128) = true := by simp; omega
    have c3' : (raw.size != 128) = true := by simp; omega
    clear hz
    go_enter Tryd.func5, Tryd.ntmps5
    go_wp2_with fail
    refine (awake_calls _).mono ?_
    rintro r w1 ⟨rfl, h1⟩
    have H1 := Aside0.mk (HB.out.trans (h1.mono (HB.out.size)))
    clear h1
    go_wp2
    go_ret
    exact ⟨rfl, H1.out⟩
  have c3 : ((raw.size : Int) != 128) = false := by rw [hr]; rfl
  have c3' : (raw.size != 128) = false := by rw [hr]; rfl
  have hi1 : (Tryd.prog.info? 29).map (·.size) = some (rc k g i d).size := infoR
  have KC := Aside0.mk (fun V => close_calls k g i d V hk hg hi)
  rw [close_ok k g i d (by omega)] at KC
  obtain ⟨b, hb⟩ : ∃ b, body k g i d.data.toList = b := ⟨_, rfl⟩
  have hbl : b.length = 124 := by rw [← hb]; exact body_len _ _ _ _ (by rw [Array.length_toList]; show d.size ≤ 110; omega)
  obtain ⟨L, hL⟩ : ∃ L, sector k g i d.data.toList = L := ⟨_, rfl⟩
  have hLb : L = b ++ lb (sumN b) 4 := by rw [← hL, sector, hb]
  have hll : L.length = 128 := by rw [hLb, List.length_append, lb_len, hbl]
  obtain ⟨z, hzz⟩ : ∃ z, (⟨L.toArray⟩ : ByteArray) = z := ⟨_, rfl⟩
  have hzs : z.size = 128 := by rw [← hzz]; show L.toArray.size = 128; rw [List.size_toArray, hll]
  have hzl : z.data.toList = L := by rw [← hzz]
  rw [hL, hzz] at KC
  have t1 : ((z.size : Int) != 128) = false := by rw [hzs]; rfl
  have t1' : (z.size != 128) = false := by rw [hzs]; rfl
  obtain ⟨j, hj⟩ : ∃ j, ax % 128 = j := ⟨_, rfl⟩
  have hj1 : (ax : Int) % 128 = (j : Int) := by omega
  have hj8 : j < 128 := by omega
  obtain ⟨x, hx⟩ : ∃ x, (L.getD j 0).toNat = x := ⟨_, rfl⟩
  have hx8 : x < 256 := by rw [← hx]; exact (L.getD j 0).toNat_lt
  have hxor := u8_xor_nat x bx hx8 hbx
  have hxl : x ^^^ bx < 256 := Nat.xor_lt_two_pow (n := 8) hx8 hbx
  obtain ⟨v, hv⟩ : ∃ v : UInt8, v.toNat = x ^^^ bx := ⟨UInt8.ofNat (x ^^^ bx), by rw [UInt8.toNat_ofNat']; exact Nat.mod_eq_of_lt hxl⟩
  rw [← hv] at hxor
  have hC : ∃ R C, openS ⟨(L.set j v).toArray⟩ = (R, C) ∧ ((bx = 0 ∧ C = 0) ∨ (bx ≠ 0 ∧ C = 8)) := by
    by_cases h0 : bx = 0
    · have e : L.set j v = L := by
        rw [show v = L[j]'(by omega) by
          apply UInt8.toNat_inj.1
          rw [hv, h0, Nat.xor_zero, ← hx, List.getD_eq_getElem?_getD, List.getElem?_eq_getElem (by omega)]; rfl]
        exact List.set_getElem_self _
      rw [e, ← hL]
      exact ⟨_, _, open_sector k g i d hk hg hi (by omega), .inl ⟨h0, rfl⟩⟩
    · refine ⟨.zero, 8, ?_, .inr ⟨h0, rfl⟩⟩
      rw [hLb]
      refine turn_tells b hbl j v hj8 ?_
      rw [← hLb]
      intro e
      rw [e] at hx
      rw [hv] at hx
      have : bx = 0 := by
        have h5 : x ^^^ bx = x ^^^ 0 := by rw [hx, Nat.xor_zero]
        exact xor_cancel' h5
      exact h0 this
  obtain ⟨R, C, hO, hC⟩ := hC
  obtain ⟨zt, hzt⟩ : ∃ z, (⟨(L.set j v).toArray⟩ : ByteArray) = z := ⟨_, rfl⟩
  have hzts : zt.size = 128 := by rw [← hzt]; show (L.set j v).toArray.size = 128; rw [List.size_toArray, List.length_set, hll]
  rw [hzt] at hO
  have KO := Aside0.mk (fun V => open_calls zt V (by omega))
  rw [hO] at KO
  change Aside0 (∀ V, Calls Tryd.prog 8 #[.string zt] V fun e w' => e = .returned (.tuple #[.agg (recV R), .int .i64 C]) ∧ Below V.heap.size V w') at KO
  have KRaw := Aside0.mk (fun V => open_calls raw V (by omega))
  obtain ⟨rk, rg, ri, rback⟩ := open_back raw
  obtain ⟨⟨R2, C2⟩, hR2⟩ : ∃ r, openS raw = r := ⟨_, rfl⟩
  rw [hR2] at KRaw rk rg ri rback
  dsimp only at KRaw rk rg ri rback
  have KC2 := Aside0.mk (fun V => close_calls R2.k R2.g R2.i R2.d V rk rg ri)
  change Aside0 (∀ V, Calls Tryd.prog 10 #[.agg (recV R2)] V fun e w' => e = .returned (.tuple #[.string (closeS R2.k R2.g R2.i R2.d).1, .int .i64 (closeS R2.k R2.g R2.i R2.d).2]) ∧ Below V.heap.size V w') at KC2
  have RB := Aside0.mk rback
  obtain ⟨⟨Z2, E2⟩, hZ2⟩ : ∃ r, closeS R2.k R2.g R2.i R2.d = r := ⟨_, rfl⟩
  rw [hZ2] at KC2 RB
  dsimp only at KC2 RB
  have hone := recV_one R
  have hone2 := recV_one R2
  have hi2 : (Tryd.prog.info? 29).map (·.size) = some (recV R).size := infoR
  have hi3 : (Tryd.prog.info? 29).map (·.size) = some (recV R2).size := infoR
  have HC := Aside0.mk hC
  have HV := Aside0.mk (show (v.toNat : Int) = ((x ^^^ bx : Nat) : Int) by rw [hv])
  have HX := Aside0.mk hx
  have HLL := Aside0.mk hll
  have HZL := Aside0.mk hzl
  have HZT := Aside0.mk hzt
  clear h hr hO hR2 hZ2 rback rk rg ri hzt hzts hC hv hx hxl hx8 hj hzl hzs hll hLb hL hzz hbl hb
  go_enter Tryd.func5, Tryd.ntmps5
  go_wp2_with (first | refine wpList_load_row rfl 29 _ rfl w.heap.size rfl 29 _ (0, 0) _ hz Tryd.underlying29 rfl hi1 ?_ | fail)
  refine (KC.out _).mono ?_
  rintro x w1 ⟨rfl, h1⟩
  replace HB := Aside0.mk (HB.out.trans (h1.mono HB.out.size))
  clear h1 x3 hz KC
  obtain ⟨W2, cp, hcv, hb2, hsr⟩ := str_row z w1
  rw [HZL.out] at hsr
  obtain ⟨q1, hq1⟩ : ∃ q, w1.heap.size = q := ⟨_, rfl⟩
  rw [hq1] at hcv hsr
  have hcl := hsr.cell j (by rw [HLL.out]; exact hj8)
  have hfz := hsr.frozen j (by rw [HLL.out]; exact hj8)
  rw [HX.out] at hcl
  have hzsz : z.size = 128 := by simpa using t1'
  rw [hzsz] at hcv
  have HP := Aside0.mk (hsr.put j v)
  have HB2 := Aside0.mk ((HB.out.trans (hb2.mono HB.out.size)).setCell (p := ⟨q1, j, none⟩) (by rw [← hq1]; exact HB.out.size) (.int .u8 (v.toNat : Nat)))
  have hj8' : (j : Int) < 128 := by omega
  clear hsr hb2 HB hzsz hq1
  go_wp2_with fail
  generalize W2.setCell ⟨q1, j, none⟩ (.int .u8 (v.toNat : Nat)) = W3 at HP HB2 ⊢
  have hstr := HP.out.string (c := cp)
  rw [List.length_set, HLL.out, HZT.out] at hstr
  clear hcl hfz hcv hxor
  go_wp2_with fail
  rw [hstr]
  go_wp2_with fail
  refine (KO.out _).mono ?_
  rintro x w4 ⟨rfl, h1⟩
  have HB := Aside0.mk (HB2.out.trans (h1.mono HB2.out.size))
  clear h1 HB2 hstr HP W3
  have z4 := heap_alloc_new w4 (.cells #[.int .u8 0, .int .u64 0, .int .u32 0, .string ⟨#[]⟩] 29)
  rcases HC.out with ⟨rfl, rfl⟩ | ⟨h0, rfl⟩
  · clear HC
    go_wp2_with (first | refine wpList_store_row rfl 29 _ _ rfl w4.heap.size (recV R) rfl rfl 29 _ z4 hi2 rfl hone ?_ | fail)
    have B4 := HB.out.trans ((boxed_below w4 #[.int .u8 0, .int .u64 0, .int .u32 0, .string ⟨#[]⟩] (recV R) 29).mono HB.out.size)
    obtain ⟨p4, hp4⟩ : ∃ p, w4.heap.size = p := ⟨_, rfl⟩
    rw [hp4] at B4 ⊢
    generalize World.setRow (w4.alloc (.cells #[.int .u8 0, .int .u64 0, .int .u32 0, .string ⟨#[]⟩] 29)) p4 (recV R) = V4 at B4 ⊢
    clear hp4 z4 HB
    refine (KRaw.out _).mono ?_
    rintro x w5 ⟨rfl, h1⟩
    have HB := Aside0.mk (B4.trans (h1.mono B4.size))
    clear h1 B4 V4
    have z5 := heap_alloc_new w5 (.cells #[.int .u8 0, .int .u64 0, .int .u32 0, .string ⟨#[]⟩] 29)
    have y5 := boxed_new w5 #[.int .u8 0, .int .u64 0, .int .u32 0, .string ⟨#[]⟩] (recV R2) 29
    have b5 := HB.out.trans ((boxed_below w5 #[.int .u8 0, .int .u64 0, .int .u32 0, .string ⟨#[]⟩] (recV R2) 29).mono HB.out.size)
    have HB5 := Aside0.mk b5
    clear HB b5
    go_wp2_with (first | refine wpList_store_row rfl 29 _ _ rfl w5.heap.size (recV R2) rfl rfl 29 _ z5 hi3 rfl hone2 ?_ | refine wpList_load_row rfl 29 _ rfl w5.heap.size rfl 29 _ (0, 0) _ y5 Tryd.underlying29 rfl hi3 ?_ | fail)
    clear z5 y5
    generalize World.setRow (w5.alloc (.cells #[.int .u8 0, .int .u64 0, .int .u32 0, .string ⟨#[]⟩] 29)) w5.heap.size (recV R2) = V5 at HB5 ⊢
    refine (KC2.out _).mono ?_
    rintro x w6 ⟨rfl, h1⟩
    have HB6 := Aside0.mk (HB5.out.trans (h1.mono HB5.out.size))
    clear h1 HB5 V5
    go_wp2_with fail
    refine (awake_calls _).mono ?_
    rintro x w7 ⟨rfl, h1⟩
    have HB7 := Aside0.mk (HB6.out.trans (h1.mono HB6.out.size))
    clear h1 HB6
    by_cases hC2 : C2 = 0
    · have e := RB.out hC2
      simp only [Prod.mk.injEq] at e
      obtain ⟨rfl, rfl⟩ := e
      subst hC2
      go_wp2
      go_ret
      exact ⟨rfl, HB7.out⟩
    · have f0 : (C2 != 0) = true := by simpa using hC2
      clear hC2
      go_wp2
      go_ret
      exact ⟨rfl, HB7.out⟩
  · have e0 : ((bx : Int) != 0) = true := by simp; omega
    have e1 : ((bx : Int) == 0) = false := by simp; omega
    have e0' : (bx != 0) = true := by simp; omega
    have e1' : (bx == 0) = false := by simp; omega
    clear HC
    go_wp2_with (first | refine wpList_store_row rfl 29 _ _ rfl w4.heap.size (recV R) rfl rfl 29 _ z4 hi2 rfl hone ?_ | fail)
    have B4 := HB.out.trans ((boxed_below w4 #[.int .u8 0, .int .u64 0, .int .u32 0, .string ⟨#[]⟩] (recV R) 29).mono HB.out.size)
    obtain ⟨p4, hp4⟩ : ∃ p, w4.heap.size = p := ⟨_, rfl⟩
    rw [hp4] at B4 ⊢
    generalize World.setRow (w4.alloc (.cells #[.int .u8 0, .int .u64 0, .int .u32 0, .string ⟨#[]⟩] 29)) p4 (recV R) = V4 at B4 ⊢
    clear hp4 z4 HB
    refine (KRaw.out _).mono ?_
    rintro x w5 ⟨rfl, h1⟩
    have HB := Aside0.mk (B4.trans (h1.mono B4.size))
    clear h1 B4 V4
    have z5 := heap_alloc_new w5 (.cells #[.int .u8 0, .int .u64 0, .int .u32 0, .string ⟨#[]⟩] 29)
    have y5 := boxed_new w5 #[.int .u8 0, .int .u64 0, .int .u32 0, .string ⟨#[]⟩] (recV R2) 29
    have b5 := HB.out.trans ((boxed_below w5 #[.int .u8 0, .int .u64 0, .int .u32 0, .string ⟨#[]⟩] (recV R2) 29).mono HB.out.size)
    have HB5 := Aside0.mk b5
    clear HB b5
    go_wp2_with (first | refine wpList_store_row rfl 29 _ _ rfl w5.heap.size (recV R2) rfl rfl 29 _ z5 hi3 rfl hone2 ?_ | refine wpList_load_row rfl 29 _ rfl w5.heap.size rfl 29 _ (0, 0) _ y5 Tryd.underlying29 rfl hi3 ?_ | fail)
    clear z5 y5
    generalize World.setRow (w5.alloc (.cells #[.int .u8 0, .int .u64 0, .int .u32 0, .string ⟨#[]⟩] 29)) w5.heap.size (recV R2) = V5 at HB5 ⊢
    refine (KC2.out _).mono ?_
    rintro x w6 ⟨rfl, h1⟩
    have HB6 := Aside0.mk (HB5.out.trans (h1.mono HB5.out.size))
    clear h1 HB5 V5
    go_wp2_with fail
    refine (awake_calls _).mono ?_
    rintro x w7 ⟨rfl, h1⟩
    have HB7 := Aside0.mk (HB6.out.trans (h1.mono HB6.out.size))
    clear h1 HB6
    by_cases hC2 : C2 = 0
    · have e := RB.out hC2
      simp only [Prod.mk.injEq] at e
      obtain ⟨rfl, rfl⟩ := e
      subst hC2
      go_wp2
      go_ret
      exact ⟨rfl, HB7.out⟩
    · have f0 : (C2 != 0) = true := by simpa using hC2
      clear hC2
      go_wp2
      go_ret
      exact ⟨rfl, HB7.out⟩
end Go.Proofs.YtombochecgjmjaaDoor.Sl
