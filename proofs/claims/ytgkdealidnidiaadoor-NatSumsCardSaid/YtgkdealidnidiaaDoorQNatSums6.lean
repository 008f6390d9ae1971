/- Texts of the seat, as far as the row needs them. -/
import Derived.ArgAppend
import Derived.Below
import Derived.BigQuiet
import Derived.ChangeArms
import Derived.ChangeSlices
import Derived.DataReads
import Derived.Deep.AppendLies
import Derived.Deep.CutBlock
import Derived.Deep.DeepCutAuto
import Derived.Deep.Draws
import Derived.Deep.Light
import Derived.Deep.LoopGhost
import Derived.Deep.OwnRows
import Derived.Deep.QuietTactic
import Derived.Deep.RegionHeld3
import Derived.Ground.Names2Prog
import Derived.KernelRfl
import Derived.LaidMore
import Derived.LaidSub
import Derived.Laws.AppendOwn
import Derived.Laws.BitsAllLaws
import Derived.Laws.BitsLemmas
import Derived.Laws.BytesArg
import Derived.Laws.CopyOwn
import Derived.Laws.Externs
import Derived.Laws.IdiomCopy
import Derived.Laws.MakeOwn
import Derived.Laws.OwnMore
import Derived.Laws.ResultCell
import Derived.Laws.Rows
import Derived.Laws.Slices
import Derived.Laws.StructEq
import Derived.Laws.Tables
import Derived.Lib.AppendIntMem
import Derived.Lib.AppendStr
import Derived.Lib.BitFns
import Derived.Lib.ConvBytes
import Derived.Lib.ItoaMem
import Derived.Lib.Join
import Derived.Lib.LazyBuf
import Derived.Lib.OwnBridge
import Derived.Lib.Repeat
import Derived.Lib.SliceRun
import Derived.Lib.SmallJoins
import Derived.Lib.Strings
import Derived.Lib.Walk
import Derived.MakeChecks
import Derived.Maps.AppendAt
import Derived.OrdersHeld
import Derived.Outline
import Derived.OwnWalk
import Derived.ProofKit
import Derived.RowKit
import Derived.RowKit3
import Derived.Shelf.Bits.Mul64
import Derived.Shelf.LaysM
import Derived.Shelf.Slices.Cells
import Derived.Shelf.Slices.CompactI
import Derived.Shelf.Slices.ReverseS
import Derived.Shelf.Small.Bits
import Derived.Shelf.Spec.BitsCarry
import Derived.Shelf.Strconv.Itoa0
import Derived.Shelf.Strconv.Itoa1
import Derived.Shelf.Strconv.Itoa2
import Derived.Shelf.Strings.Builder1
import Derived.Shelf.Strings.Builder2
import Derived.Shelf.Strings.Builder2Cap
import Derived.Shelf.Strings.BuilderCap
import Derived.Shelf.Strings.BuilderF
import Derived.Shelf.Strings.BuilderK
import Derived.Shelf.Strings.OnBuilder
import Derived.Shelf.Strings.Prefix
import Derived.Shelf.Strings.Repeat
import Derived.StillTailTactics
import Derived.Tactics
import Derived.Test.YtgkdealidnidiaaDoorProg
import Derived.Test.YtgkdealidnidiaaDoorRows
import Derived.WalkKit
import Derived.WideLaws
import Derived.WideShapes
import Derived.Test.YtgkdealidnidiaaDoorQNatSums0
import Derived.Test.YtgkdealidnidiaaDoorQNatSums1
import Derived.Test.YtgkdealidnidiaaDoorQNatSums2
import Derived.Test.YtgkdealidnidiaaDoorQNatSums3
import Derived.Test.YtgkdealidnidiaaDoorQNatSums4
import Derived.Test.YtgkdealidnidiaaDoorQNatSums5
set_option linter.unusedVariables false
set_option linter.unusedSimpArgs false
namespace Go.Proofs.YtgkdealidnidiaaDoor.Na
open Go.RowKit Go.Proofs.YtgkdealidnidiaaDoorW.PrintWords Go.Proofs.YtgkdealidnidiaaDoorW.PrintLast Go.Proofs.YtgkdealidnidiaaDoorW.PrintMore Go.Proofs.YtgkdealidnidiaaDoor.Dg
set_option linter.unusedSimpArgs false
set_option linter.unusedVariables false
theorem got_true (y : Nat) : (if 4096 < nb y then (decide (fitE y = 1) && decide (fitN y = 0)) else (decide (fitE y = 0) && decide (fitN y = y))) = true := by
  unfold fitE fitN
  by_cases h : (wd BW y).length ≤ 64
  · have := (fits_nb y).1 h
    rw [if_neg (by omega), if_pos h, if_pos h]; simp
  · have := mt (fits_nb y).2 h
    rw [if_pos (by omega), if_neg h, if_neg h]; simp
set_option maxRecDepth 100000 in
set_option maxHeartbeats 8000000 in
theorem sums_walk {w : World} (A1 A2 : Option Addr) (c1 c2 : Nat) (l1 l2 : List Int) (h1 : Kw .u64 w (.slice A1 l1.length c1) l1) (h2 : Kw .u64 w (.slice A2 l2.length c2) l2) (r1 : R BW l1) (r2 : R BW l2) (htab : Tab w) :
    Calls Tryd.prog 6 #[.slice A1 l1.length c1, .slice A2 l2.length c2] w fun e w' => e = .returned (.bool true) ∧ Below w.heap.size w w'  := by
  have hu29 := Tryd.underlying29
  have hB : Below w.heap.size w w := Below.refl _ _
  obtain ⟨m, em, lm⟩ := V_nat r1
  obtain ⟨n1, en1⟩ : ∃ n, l1.length = n := ⟨_, rfl⟩
  rw [en1] at h1 lm ⊢
  obtain ⟨n, en, ln⟩ := V_nat r2
  obtain ⟨n2, en2⟩ : ∃ n, l2.length = n := ⟨_, rfl⟩
  rw [en2] at h2 ln ⊢
  go_enter Tryd.func6, Tryd.ntmps6
  go_wp2_with fail
  by_cases hf : 70 < n1 ∨ 70 < n2
  · have F := few2_c (e := 22) h1 h2
    rw [show (decide (n1 ≤ 70) && decide (n2 ≤ 70)) = false by rw [Bool.and_eq_false_iff]; rcases hf with h | h; exact .inl (decide_eq_false (by omega)); exact .inr (decide_eq_false (by omega))] at F
    refine (F).mono ?_
    rintro e w_1 ⟨rfl, hb⟩
    replace h1 := h1.below hb
    replace h2 := h2.below hb
    replace htab := htab.below hb
    replace hB := hB.trans (hb.mono hB.size)
    clear hb
    clear F
    go_wp2_with fail
    refine (awake_c htab).mono ?_
    rintro e w_2 ⟨rfl, hb⟩
    replace h1 := h1.below hb
    replace h2 := h2.below hb
    replace htab := htab.below hb
    replace hB := hB.trans (hb.mono hB.size)
    clear hb
    go_wp2
    go_ret
    exact ⟨rfl, hB⟩
  · have F := few2_c (e := 22) h1 h2
    rw [decide_eq_true (show n1 ≤ 70 by omega), decide_eq_true (show n2 ≤ 70 by omega)] at F
    refine (F).mono ?_
    rintro e w_1 ⟨rfl, hb⟩
    replace h1 := h1.below hb
    replace h2 := h2.below hb
    replace htab := htab.below hb
    replace hB := hB.trans (hb.mono hB.size)
    clear hb
    clear F
    have lBm := len_BD lm
    have lBn := len_BD ln
    go_wp2_with fail
    refine (rfrom_c h1 r1 em (by omega)).mono ?_
    rintro e w_2 ⟨zm, rfl, hzm, hb⟩
    replace h1 := h1.below hb
    replace h2 := h2.below hb
    replace htab := htab.below hb
    replace hB := hB.trans (hb.mono hB.size)
    clear hb
    go_wp2_with fail
    refine (rfrom_c h2 r2 en (by omega)).mono ?_
    rintro e w_3 ⟨zn, rfl, hzn, hb⟩
    replace h1 := h1.below hb
    replace h2 := h2.below hb
    replace htab := htab.below hb
    replace hzm := hzm.below hb
    replace hB := hB.trans (hb.mono hB.size)
    clear hb
    go_wp2_with fail
    by_cases g_m : (wd BW m).length ≤ 64
    · have F := from_c h1 r1 em (by omega)
      rw [show fitE m = 0 by unfold fitE; rw [if_pos g_m]] at F
      refine (F).mono ?_
      rintro e w_4 ⟨z_a, rfl, ha0, hb⟩
      replace h1 := h1.below hb
      replace h2 := h2.below hb
      replace htab := htab.below hb
      replace hzm := hzm.below hb
      replace hzn := hzn.below hb
      replace hB := hB.trans (hb.mono hB.size)
      clear hb
      have ha := Kf.kw ha0
      clear ha0 F
      obtain ⟨A_5, n_5, c_5, rfl⟩ := ha.shape
      go_wp2_with fail
      have f_a := bx.new w_4 (.slice A_5 n_5 c_5)
      have hA_ := below_alloc (Below.refl w_4.heap.size w_4) (.cells #[(.slice A_5 n_5 c_5)] 29)
      replace h1 := h1.below hA_
      replace h2 := h2.below hA_
      replace htab := htab.below hA_
      replace hzm := hzm.below hA_
      replace hzn := hzn.below hA_
      replace ha := ha.below hA_
      replace hB := hB.trans (hA_.mono hB.size)
      clear hA_
      generalize w_4.alloc (.cells #[(.slice A_5 n_5 c_5)] 29) = w_6 at f_a h1 h2 htab hzm hzn ha hB ⊢
      generalize w_4.heap.size = b_a at f_a ⊢
      by_cases g_n : (wd BW n).length ≤ 64
      · have F := from_c h2 r2 en (by omega)
        rw [show fitE n = 0 by unfold fitE; rw [if_pos g_n]] at F
        refine (F).mono ?_
        rintro e w_7 ⟨z_b, rfl, hbb0, hb⟩
        replace h1 := h1.below hb
        replace h2 := h2.below hb
        replace htab := htab.below hb
        replace hzm := hzm.below hb
        replace hzn := hzn.below hb
        replace ha := ha.below hb
        replace f_a := f_a.below hb
        replace hB := hB.trans (hb.mono hB.size)
        clear hb
        have hbb := Kf.kw hbb0
        clear hbb0 F
        obtain ⟨A_8, n_8, c_8, rfl⟩ := hbb.shape
        go_wp2_with (first | refine Cel.wpList_load_row_w rfl 29 _ rfl b_a rfl 29 #[(.slice A_5 n_5 c_5)] (0, 0) _ (f_a.alloc _) hu29 rfl infoN ?_ | refine Cel.wpList_load_row_w rfl 29 _ rfl w_7.heap.size rfl 29 #[(.slice A_8 n_8 c_8)] (0, 0) _ (bx.new w_7 _) hu29 rfl infoN ?_)
        have f_b := bx.new w_7 (.slice A_8 n_8 c_8)
        have hA_ := below_alloc (Below.refl w_7.heap.size w_7) (.cells #[(.slice A_8 n_8 c_8)] 29)
        replace h1 := h1.below hA_
        replace h2 := h2.below hA_
        replace htab := htab.below hA_
        replace hzm := hzm.below hA_
        replace hzn := hzn.below hA_
        replace ha := ha.below hA_
        replace hbb := hbb.below hA_
        replace f_a := f_a.below hA_
        replace hB := hB.trans (hA_.mono hB.size)
        clear hA_
        generalize w_7.alloc (.cells #[(.slice A_8 n_8 c_8)] 29) = w_9 at f_b h1 h2 htab hzm hzn ha hbb f_a hB ⊢
        generalize w_7.heap.size = b_b at f_b ⊢
        rw [fitN_ok g_m] at ha
        rw [fitN_ok g_n] at hbb
        clear h1 h2 r1 r2 em en
        have F := add_c ha hbb g_m g_n
        refine (F).mono ?_
        rintro e w_10 ⟨z_s, rfl, hs0, hb⟩
        replace htab := htab.below hb
        replace hzm := hzm.below hb
        replace hzn := hzn.below hb
        replace ha := ha.below hb
        replace hbb := hbb.below hb
        replace f_a := f_a.below hb
        replace f_b := f_b.below hb
        replace hB := hB.trans (hb.mono hB.size)
        clear hb
        have hs := Kf.kw hs0
        clear hs0 F
        obtain ⟨A_11, n_11, c_11, rfl⟩ := hs.shape
        go_wp2_with (first | refine Cel.wpList_load_row_w rfl 29 _ rfl b_a rfl 29 #[(.slice A_5 n_5 c_5)] (0, 0) _ (f_a.alloc _) hu29 rfl infoN ?_ | refine Cel.wpList_load_row_w rfl 29 _ rfl b_b rfl 29 #[(.slice A_8 n_8 c_8)] (0, 0) _ (f_b.alloc _) hu29 rfl infoN ?_)
        have f_s := bx.new w_10 (.slice A_11 n_11 c_11)
        have hA_ := below_alloc (Below.refl w_10.heap.size w_10) (.cells #[(.slice A_11 n_11 c_11)] 29)
        replace htab := htab.below hA_
        replace hzm := hzm.below hA_
        replace hzn := hzn.below hA_
        replace ha := ha.below hA_
        replace hbb := hbb.below hA_
        replace hs := hs.below hA_
        replace f_a := f_a.below hA_
        replace f_b := f_b.below hA_
        replace hB := hB.trans (hA_.mono hB.size)
        clear hA_
        generalize w_10.alloc (.cells #[(.slice A_11 n_11 c_11)] 29) = w_12 at f_s htab hzm hzn ha hbb hs f_a f_b hB ⊢
        generalize w_10.heap.size = b_s at f_s ⊢
        have F := mul_c ha hbb g_m g_n
        refine (F).mono ?_
        rintro e w_13 ⟨z_p, rfl, hp0, hb⟩
        replace htab := htab.below hb
        replace hzm := hzm.below hb
        replace hzn := hzn.below hb
        replace ha := ha.below hb
        replace hbb := hbb.below hb
        replace hs := hs.below hb
        replace f_a := f_a.below hb
        replace f_b := f_b.below hb
        replace f_s := f_s.below hb
        replace hB := hB.trans (hb.mono hB.size)
        clear hb
        have hp := Kf.kw hp0
        clear hp0 F
        obtain ⟨A_14, n_14, c_14, rfl⟩ := hp.shape
        go_wp2_with fail
        have f_p := bx.new w_13 (.slice A_14 n_14 c_14)
        have hA_ := below_alloc (Below.refl w_13.heap.size w_13) (.cells #[(.slice A_14 n_14 c_14)] 29)
        replace htab := htab.below hA_
        replace hzm := hzm.below hA_
        replace hzn := hzn.below hA_
        replace ha := ha.below hA_
        replace hbb := hbb.below hA_
        replace hs := hs.below hA_
        replace hp := hp.below hA_
        replace f_a := f_a.below hA_
        replace f_b := f_b.below hA_
        replace f_s := f_s.below hA_
        replace hB := hB.trans (hA_.mono hB.size)
        clear hA_
        generalize w_13.alloc (.cells #[(.slice A_14 n_14 c_14)] 29) = w_15 at f_p htab hzm hzn ha hbb hs hp f_a f_b f_s hB ⊢
        generalize w_13.heap.size = b_p at f_p ⊢
        have ls := len_BD (len_add (k := 64) g_m g_n)
        have lp := len_BD (len_mul (i := 64) (j := 64) g_m g_n)
        have gs := got_true (m + n)
        have gp := got_true (m * n)
        have lfs := fitN_len (m + n)
        have lfp := fitN_len (m * n)
        generalize fitE (m + n) = es at gs ⊢
        generalize fitE (m * n) = ep at gp ⊢
        have GS := Aside0.mk gs
        have GP := Aside0.mk gp
        clear gs gp
        have hb : Below w_15.heap.size w_15 w_15.drew := below_drew (Below.refl _ _)
        refine start_ (n := 25) (S := fun w' => Below w_15.drew.heap.size w_15.drew w') (ds := []) #[false, false, false, false, false, false, false, false, false, false, false, false, false, false, false, false, false, false, false, false, false, false, false, false, false] (by kernel_rfl) rfl rfl (Below.refl _ _) (fun hS => ?_)
        replace htab := htab.below hb
        replace hzm := hzm.below hb
        replace hzn := hzn.below hb
        replace ha := ha.below hb
        replace hbb := hbb.below hb
        replace hs := hs.below hb
        replace hp := hp.below hb
        replace f_a := f_a.below hb
        replace f_b := f_b.below hb
        replace f_s := f_s.below hb
        replace f_p := f_p.below hb
        replace hB := hB.trans (hb.mono hB.size)
        clear hb
        generalize w_15.drew = w_16 at htab hzm hzn ha hbb hs hp f_a f_b f_s f_p hB hS ⊢
        have sf_a := f_a
        have sf_b := f_b
        have sf_s := f_s
        have sf_p := f_p
        refine take_ (i := 0) (N := some 63) (v := ?_) (a' := ?_) #[true, false, false, false, false, false, false, false, false, false, false, false, false, false, false, false, false, false, false, false, false, false, false, false, false] rfl rfl (by kernel_rfl) (fun _ _ _ h => h) (Or.inl ⟨by rfl, ?_⟩) hS ?_ ?_
        rotate_left
        · intro w' hS_
          have k_ := (blk_cell (bx.below sf_s hS_) 0).trans rfl
          go_simp
          with_reducible rfl
        rotate_left
        · simp only [Act.put, List.setIfInBounds_toArray, List.set_cons_zero, List.set_cons_succ, i64_w, i32_w]
          rfl
        refine pure_ (i := 1) (N := some 64) (v := ?_) (a' := ?_) #[true, true, false, false, false, false, false, false, false, false, false, false, false, false, false, false, false, false, false, false, false, false, false, false, false] rfl rfl (by kernel_rfl) (fun _ _ _ h => h) (Or.inl ⟨by rfl, ?_⟩) ?_ ?_
        rotate_left
        · intro w'
          go_simp
          with_reducible rfl
        rotate_left
        · simp only [Act.put, List.setIfInBounds_toArray, List.set_cons_zero, List.set_cons_succ, i64_w, i32_w]
          rfl
        refine pure_ (i := 2) (N := some 65) (v := ?_) (a' := ?_) #[true, true, true, false, false, false, false, false, false, false, false, false, false, false, false, false, false, false, false, false, false, false, false, false, false] rfl rfl (by kernel_rfl) (fun _ _ _ h => h) (Or.inl ⟨by rfl, ?_⟩) ?_ ?_
        rotate_left
        · intro w'
          go_simp
          with_reducible rfl
        rotate_left
        · simp only [Act.put, List.setIfInBounds_toArray, List.set_cons_zero, List.set_cons_succ, i64_w, i32_w]
          rfl
        refine pure_ (i := 3) (N := some 66) (v := ?_) (a' := ?_) #[true, true, true, true, false, false, false, false, false, false, false, false, false, false, false, false, false, false, false, false, false, false, false, false, false] rfl rfl (by kernel_rfl) (fun _ _ _ h => h) (Or.inl ⟨by rfl, ?_⟩) ?_ ?_
        rotate_left
        · intro w'
          go_simp
          with_reducible rfl
        rotate_left
        · simp only [Act.put, List.setIfInBounds_toArray, List.set_cons_zero, List.set_cons_succ, i64_w, i32_w]
          rfl
        refine one_ (i := 4) (N := some 67) #[true, true, true, true, true, false, false, false, false, false, false, false, false, false, false, false, false, false, false, false, false, false, false, false, false] rfl rfl (by kernel_rfl) (by decide) (fun K hK => ?_)
        refine goes_ Tryd.func34 (by kernel_rfl) rfl #[zm, zn] (by rfl) rfl rfl (by (try simp only [List.map_toArray, List.map_cons, List.map_nil]); first | done | rfl | (simp only [List.length_drop, List.length_take]; rfl)) ?_
        refine (radd_c hzm hzn (by omega) (by omega)).mono ?_
        rintro e w_17 ⟨z_t, rfl, ht, hb⟩
        refine ⟨_, rfl, ?_⟩
        replace hS := hS.trans (hb.mono hS.size)
        replace htab := htab.below hb
        replace hzm := hzm.below hb
        replace hzn := hzn.below hb
        replace ha := ha.below hb
        replace hbb := hbb.below hb
        replace hs := hs.below hb
        replace hp := hp.below hb
        replace f_a := f_a.below hb
        replace f_b := f_b.below hb
        replace f_s := f_s.below hb
        replace f_p := f_p.below hb
        replace hB := hB.trans (hb.mono hB.size)
        clear hb
        refine hK.out _ _ hS (fun hS => ?_)
        clear hK K
        refine norm_ (a' := ?_) ?_ ?_
        rotate_left
        · show Act.put _ (some 67) _ = _
          simp only [Act.put, List.setIfInBounds_toArray, List.set_cons_zero, List.set_cons_succ, i64_w, i32_w]
          rfl
        refine one_ (i := 5) (N := some 68) #[true, true, true, true, true, true, false, false, false, false, false, false, false, false, false, false, false, false, false, false, false, false, false, false, false] rfl rfl (by kernel_rfl) (by decide) (fun K hK => ?_)
        refine goes_ Tryd.func17 (by kernel_rfl) rfl #[.agg #[(.slice A_11 n_11 c_11)], .int .i64 es, z_t] (by rfl) rfl rfl (by (try simp only [List.map_toArray, List.map_cons, List.map_nil]); first | done | rfl | (simp only [List.length_drop, List.length_take]; rfl)) ?_
        have F := got_c hs es ht (by omega) (by omega)
        rw [GS.out] at F
        refine (F).mono ?_
        rintro e w_18 ⟨rfl, hb⟩
        refine ⟨_, rfl, ?_⟩
        replace hS := hS.trans (hb.mono hS.size)
        replace htab := htab.below hb
        replace hzm := hzm.below hb
        replace hzn := hzn.below hb
        replace ha := ha.below hb
        replace hbb := hbb.below hb
        replace hp := hp.below hb
        replace f_a := f_a.below hb
        replace f_b := f_b.below hb
        replace f_s := f_s.below hb
        replace f_p := f_p.below hb
        replace hB := hB.trans (hb.mono hB.size)
        clear hb
        refine hK.out _ _ hS (fun hS => ?_)
        clear hK K
        refine norm_ (a' := ?_) ?_ ?_
        rotate_left
        · show Act.put _ (some 68) _ = _
          simp only [Act.put, List.setIfInBounds_toArray, List.set_cons_zero, List.set_cons_succ, i64_w, i32_w]
          rfl
        clear F
        refine pure_ (i := 6) (N := some 69) (v := ?_) (a' := ?_) #[true, true, true, true, true, true, true, false, false, false, false, false, false, false, false, false, false, false, false, false, false, false, false, false, false] rfl rfl (by kernel_rfl) (fun _ _ _ h => h) (Or.inl ⟨by rfl, ?_⟩) ?_ ?_
        rotate_left
        · intro w'
          go_simp
          with_reducible rfl
        rotate_left
        · simp only [Act.put, List.setIfInBounds_toArray, List.set_cons_zero, List.set_cons_succ, i64_w, i32_w]
          rfl
        refine pure_ (i := 7) (N := some 70) (v := ?_) (a' := ?_) #[true, true, true, true, true, true, true, true, false, false, false, false, false, false, false, false, false, false, false, false, false, false, false, false, false] rfl rfl (by kernel_rfl) (fun _ _ _ h => h) (Or.inl ⟨by rfl, ?_⟩) ?_ ?_
        rotate_left
        · intro w'
          go_simp
          with_reducible rfl
        rotate_left
        · simp only [Act.put, List.setIfInBounds_toArray, List.set_cons_zero, List.set_cons_succ, i64_w, i32_w]
          rfl
        refine take_ (i := 8) (N := some 71) (v := ?_) (a' := ?_) #[true, true, true, true, true, true, true, true, true, false, false, false, false, false, false, false, false, false, false, false, false, false, false, false, false] rfl rfl (by kernel_rfl) (fun _ _ _ h => h) (Or.inl ⟨by rfl, ?_⟩) hS ?_ ?_
        rotate_left
        · intro w' hS_
          have k_ := (blk_cell (bx.below sf_p hS_) 0).trans rfl
          go_simp
          with_reducible rfl
        rotate_left
        · simp only [Act.put, List.setIfInBounds_toArray, List.set_cons_zero, List.set_cons_succ, i64_w, i32_w]
          rfl
        refine pure_ (i := 9) (N := some 72) (v := ?_) (a' := ?_) #[true, true, true, true, true, true, true, true, true, true, false, false, false, false, false, false, false, false, false, false, false, false, false, false, false] rfl rfl (by kernel_rfl) (fun _ _ _ h => h) (Or.inl ⟨by rfl, ?_⟩) ?_ ?_
        rotate_left
        · intro w'
          go_simp
          with_reducible rfl
        rotate_left
        · simp only [Act.put, List.setIfInBounds_toArray, List.set_cons_zero, List.set_cons_succ, i64_w, i32_w]
          rfl
        refine pure_ (i := 10) (N := some 73) (v := ?_) (a' := ?_) #[true, true, true, true, true, true, true, true, true, true, true, false, false, false, false, false, false, false, false, false, false, false, false, false, false] rfl rfl (by kernel_rfl) (fun _ _ _ h => h) (Or.inl ⟨by rfl, ?_⟩) ?_ ?_
        rotate_left
        · intro w'
          go_simp
          with_reducible rfl
        rotate_left
        · simp only [Act.put, List.setIfInBounds_toArray, List.set_cons_zero, List.set_cons_succ, i64_w, i32_w]
          rfl
        refine pure_ (i := 11) (N := some 74) (v := ?_) (a' := ?_) #[true, true, true, true, true, true, true, true, true, true, true, true, false, false, false, false, false, false, false, false, false, false, false, false, false] rfl rfl (by kernel_rfl) (fun _ _ _ h => h) (Or.inl ⟨by rfl, ?_⟩) ?_ ?_
        rotate_left
        · intro w'
          go_simp
          with_reducible rfl
        rotate_left
        · simp only [Act.put, List.setIfInBounds_toArray, List.set_cons_zero, List.set_cons_succ, i64_w, i32_w]
          rfl
        refine one_ (i := 12) (N := some 75) #[true, true, true, true, true, true, true, true, true, true, true, true, true, false, false, false, false, false, false, false, false, false, false, false, false] rfl rfl (by kernel_rfl) (by decide) (fun K hK => ?_)
        refine goes_ Tryd.func35 (by kernel_rfl) rfl #[zm, zn] (by rfl) rfl rfl (by (try simp only [List.map_toArray, List.map_cons, List.map_nil]); first | done | rfl | (simp only [List.length_drop, List.length_take]; rfl)) ?_
        refine (rmul_c hzm hzn (by omega) (by omega)).mono ?_
        rintro e w_19 ⟨z_t, rfl, ht, hb⟩
        refine ⟨_, rfl, ?_⟩
        replace hS := hS.trans (hb.mono hS.size)
        replace htab := htab.below hb
        replace hzm := hzm.below hb
        replace hzn := hzn.below hb
        replace ha := ha.below hb
        replace hbb := hbb.below hb
        replace hp := hp.below hb
        replace f_a := f_a.below hb
        replace f_b := f_b.below hb
        replace f_s := f_s.below hb
        replace f_p := f_p.below hb
        replace hB := hB.trans (hb.mono hB.size)
        clear hb
        refine hK.out _ _ hS (fun hS => ?_)
        clear hK K
        refine norm_ (a' := ?_) ?_ ?_
        rotate_left
        · show Act.put _ (some 75) _ = _
          simp only [Act.put, List.setIfInBounds_toArray, List.set_cons_zero, List.set_cons_succ, i64_w, i32_w]
          rfl
        refine one_ (i := 13) (N := some 76) #[true, true, true, true, true, true, true, true, true, true, true, true, true, true, false, false, false, false, false, false, false, false, false, false, false] rfl rfl (by kernel_rfl) (by decide) (fun K hK => ?_)
        refine goes_ Tryd.func17 (by kernel_rfl) rfl #[.agg #[(.slice A_14 n_14 c_14)], .int .i64 ep, z_t] (by rfl) rfl rfl (by (try simp only [List.map_toArray, List.map_cons, List.map_nil]); first | done | rfl | (simp only [List.length_drop, List.length_take]; rfl)) ?_
        have F := got_c hp ep ht (by omega) (by omega)
        rw [GP.out] at F
        refine (F).mono ?_
        rintro e w_20 ⟨rfl, hb⟩
        refine ⟨_, rfl, ?_⟩
        replace hS := hS.trans (hb.mono hS.size)
        replace htab := htab.below hb
        replace hzm := hzm.below hb
        replace hzn := hzn.below hb
        replace ha := ha.below hb
        replace hbb := hbb.below hb
        replace f_a := f_a.below hb
        replace f_b := f_b.below hb
        replace f_s := f_s.below hb
        replace f_p := f_p.below hb
        replace hB := hB.trans (hb.mono hB.size)
        clear hb
        refine hK.out _ _ hS (fun hS => ?_)
        clear hK K
        refine norm_ (a' := ?_) ?_ ?_
        rotate_left
        · show Act.put _ (some 76) _ = _
          simp only [Act.put, List.setIfInBounds_toArray, List.set_cons_zero, List.set_cons_succ, i64_w, i32_w]
          rfl
        clear F
        refine pure_ (i := 14) (N := some 77) (v := ?_) (a' := ?_) #[true, true, true, true, true, true, true, true, true, true, true, true, true, true, true, false, false, false, false, false, false, false, false, false, false] rfl rfl (by kernel_rfl) (fun _ _ _ h => h) (Or.inl ⟨by rfl, ?_⟩) ?_ ?_
        rotate_left
        · intro w'
          go_simp
          with_reducible rfl
        rotate_left
        · simp only [Act.put, List.setIfInBounds_toArray, List.set_cons_zero, List.set_cons_succ, i64_w, i32_w]
          rfl
        refine pure_ (i := 15) (N := some 78) (v := ?_) (a' := ?_) #[true, true, true, true, true, true, true, true, true, true, true, true, true, true, true, true, false, false, false, false, false, false, false, false, false] rfl rfl (by kernel_rfl) (fun _ _ _ h => h) (Or.inl ⟨by rfl, ?_⟩) ?_ ?_
        rotate_left
        · intro w'
          go_simp
          with_reducible rfl
        rotate_left
        · simp only [Act.put, List.setIfInBounds_toArray, List.set_cons_zero, List.set_cons_succ, i64_w, i32_w]
          rfl
        refine pure_ (i := 16) (N := some 79) (v := ?_) (a' := ?_) #[true, true, true, true, true, true, true, true, true, true, true, true, true, true, true, true, true, false, false, false, false, false, false, false, false] rfl rfl (by kernel_rfl) (fun _ _ _ h => h) (Or.inl ⟨by rfl, ?_⟩) ?_ ?_
        rotate_left
        · intro w'
          go_simp
          with_reducible rfl
        rotate_left
        · simp only [Act.put, List.setIfInBounds_toArray, List.set_cons_zero, List.set_cons_succ, i64_w, i32_w]
          rfl
        refine take_ (i := 17) (N := some 80) (v := ?_) (a' := ?_) #[true, true, true, true, true, true, true, true, true, true, true, true, true, true, true, true, true, true, false, false, false, false, false, false, false] rfl rfl (by kernel_rfl) (fun _ _ _ h => h) (Or.inl ⟨by rfl, ?_⟩) hS ?_ ?_
        rotate_left
        · intro w' hS_
          have k_ := (blk_cell (bx.below sf_a hS_) 0).trans rfl
          go_simp
          with_reducible rfl
        rotate_left
        · simp only [Act.put, List.setIfInBounds_toArray, List.set_cons_zero, List.set_cons_succ, i64_w, i32_w]
          rfl
        refine take_ (i := 18) (N := some 81) (v := ?_) (a' := ?_) #[true, true, true, true, true, true, true, true, true, true, true, true, true, true, true, true, true, true, true, false, false, false, false, false, false] rfl rfl (by kernel_rfl) (fun _ _ _ h => h) (Or.inl ⟨by rfl, ?_⟩) hS ?_ ?_
        rotate_left
        · intro w' hS_
          have k_ := (blk_cell (bx.below sf_b hS_) 0).trans rfl
          go_simp
          with_reducible rfl
        rotate_left
        · simp only [Act.put, List.setIfInBounds_toArray, List.set_cons_zero, List.set_cons_succ, i64_w, i32_w]
          rfl
        obtain ⟨cm, hcm⟩ : ∃ c, cmpN m n = c := ⟨_, rfl⟩
        refine pure_ (i := 20) (N := some 83) (v := ?_) (a' := ?_) #[true, true, true, true, true, true, true, true, true, true, true, true, true, true, true, true, true, true, true, false, true, false, false, false, false] rfl rfl (by kernel_rfl) (fun _ _ _ h => h) (Or.inl ⟨by rfl, ?_⟩) ?_ ?_
        rotate_left
        · intro w'
          go_simp
          with_reducible rfl
        rotate_left
        · simp only [Act.put, List.setIfInBounds_toArray, List.set_cons_zero, List.set_cons_succ, i64_w, i32_w]
          rfl
        refine pure_ (i := 21) (N := some 84) (v := ?_) (a' := ?_) #[true, true, true, true, true, true, true, true, true, true, true, true, true, true, true, true, true, true, true, false, true, true, false, false, false] rfl rfl (by kernel_rfl) (fun _ _ _ h => h) (Or.inl ⟨by rfl, ?_⟩) ?_ ?_
        rotate_left
        · intro w'
          go_simp
          with_reducible rfl
        rotate_left
        · simp only [Act.put, List.setIfInBounds_toArray, List.set_cons_zero, List.set_cons_succ, i64_w, i32_w]
          rfl
        refine one_ (i := 19) (N := some 82) #[true, true, true, true, true, true, true, true, true, true, true, true, true, true, true, true, true, true, true, true, true, true, false, false, false] rfl rfl (by kernel_rfl) (by decide) (fun K hK => ?_)
        refine goes_ Tryd.func36 (by kernel_rfl) rfl #[.agg #[(.slice A_5 n_5 c_5)], .agg #[(.slice A_8 n_8 c_8)]] (by rfl) rfl rfl (by (try simp only [List.map_toArray, List.map_cons, List.map_nil]); first | done | rfl | (simp only [List.length_drop, List.length_take]; rfl)) ?_
        have F := cmp_c ha hbb (by omega)
        rw [hcm] at F
        refine (F).mono ?_
        rintro e w_21 ⟨rfl, hb⟩
        refine ⟨_, rfl, ?_⟩
        replace hS := hS.trans (hb.mono hS.size)
        replace htab := htab.below hb
        replace hzm := hzm.below hb
        replace hzn := hzn.below hb
        replace ha := ha.below hb
        replace hbb := hbb.below hb
        replace f_a := f_a.below hb
        replace f_b := f_b.below hb
        replace f_s := f_s.below hb
        replace f_p := f_p.below hb
        replace hB := hB.trans (hb.mono hB.size)
        clear hb
        refine hK.out _ _ hS (fun hS => ?_)
        clear hK K
        refine norm_ (a' := ?_) ?_ ?_
        rotate_left
        · show Act.put _ (some 82) _ = _
          simp only [Act.put, List.setIfInBounds_toArray, List.set_cons_zero, List.set_cons_succ, i64_w, i32_w]
          rfl
        clear F
        refine one_ (i := 22) (N := some 85) #[true, true, true, true, true, true, true, true, true, true, true, true, true, true, true, true, true, true, true, true, true, true, true, false, false] rfl rfl (by kernel_rfl) (by decide) (fun K hK => ?_)
        refine goes_ Tryd.func37 (by kernel_rfl) rfl #[zm, zn] (by rfl) rfl rfl (by (try simp only [List.map_toArray, List.map_cons, List.map_nil]); first | done | rfl | (simp only [List.length_drop, List.length_take]; rfl)) ?_
        have F := rcmp_c hzm hzn (by omega)
        rw [hcm] at F
        refine (F).mono ?_
        rintro e w_22 ⟨rfl, hb⟩
        refine ⟨_, rfl, ?_⟩
        replace hS := hS.trans (hb.mono hS.size)
        replace htab := htab.below hb
        replace hzm := hzm.below hb
        replace hzn := hzn.below hb
        replace ha := ha.below hb
        replace hbb := hbb.below hb
        replace f_a := f_a.below hb
        replace f_b := f_b.below hb
        replace f_s := f_s.below hb
        replace f_p := f_p.below hb
        replace hB := hB.trans (hb.mono hB.size)
        clear hb
        refine hK.out _ _ hS (fun hS => ?_)
        clear hK K
        refine norm_ (a' := ?_) ?_ ?_
        rotate_left
        · show Act.put _ (some 85) _ = _
          simp only [Act.put, List.setIfInBounds_toArray, List.set_cons_zero, List.set_cons_succ, i64_w, i32_w]
          rfl
        clear F
        have hcc : (cm == cm) = true := beq_self_eq_true cm
        refine pure_ (i := 23) (N := some 86) (v := ?_) (a' := ?_) #[true, true, true, true, true, true, true, true, true, true, true, true, true, true, true, true, true, true, true, true, true, true, true, true, false] rfl rfl (by kernel_rfl) (fun _ _ _ h => h) (Or.inl ⟨by rfl, ?_⟩) ?_ ?_
        rotate_left
        · intro w'
          go_simp
          with_reducible rfl
        rotate_left
        · simp only [Act.put, List.setIfInBounds_toArray, List.set_cons_zero, List.set_cons_succ, i64_w, i32_w]
          rfl
        refine pure_ (i := 24) (N := some 87) (v := ?_) (a' := ?_) #[true, true, true, true, true, true, true, true, true, true, true, true, true, true, true, true, true, true, true, true, true, true, true, true, true] rfl rfl (by kernel_rfl) (fun _ _ _ h => h) (Or.inl ⟨by rfl, ?_⟩) ?_ ?_
        rotate_left
        · intro w'
          go_simp
          with_reducible rfl
        rotate_left
        · simp only [Act.put, List.setIfInBounds_toArray, List.set_cons_zero, List.set_cons_succ, i64_w, i32_w]
          rfl
        refine done_ (by kernel_rfl) ?_
        go_wp2_with (first | refine Cel.wpList_load_row_w rfl 29 _ rfl b_a rfl 29 #[(.slice A_5 n_5 c_5)] (0, 0) _ f_a hu29 rfl infoN ?_ | refine Cel.wpList_load_row_w rfl 29 _ rfl b_b rfl 29 #[(.slice A_8 n_8 c_8)] (0, 0) _ f_b hu29 rfl infoN ?_)
        obtain ⟨es2, hes⟩ : ∃ e : Int, (if m < n then 2 else 0) = e := ⟨_, rfl⟩
        have F := sub_c ha hbb (by omega)
        rw [hes] at F
        refine (F).mono ?_
        rintro e w_23 ⟨z_d, rfl, hd0, hb⟩
        replace htab := htab.below hb
        replace hzm := hzm.below hb
        replace hzn := hzn.below hb
        replace ha := ha.below hb
        replace hbb := hbb.below hb
        replace f_a := f_a.below hb
        replace f_b := f_b.below hb
        replace hB := hB.trans (hb.mono hB.size)
        clear hb
        have hd := Kf.kw hd0
        clear hd0 F
        obtain ⟨A_24, n_24, c_24, rfl⟩ := hd.shape
        go_wp2_with fail
        have f_d := bx.new w_23 (.slice A_24 n_24 c_24)
        have hA_ := below_alloc (Below.refl w_23.heap.size w_23) (.cells #[(.slice A_24 n_24 c_24)] 29)
        replace htab := htab.below hA_
        replace hzm := hzm.below hA_
        replace hzn := hzn.below hA_
        replace ha := ha.below hA_
        replace hbb := hbb.below hA_
        replace hd := hd.below hA_
        replace f_a := f_a.below hA_
        replace f_b := f_b.below hA_
        replace hB := hB.trans (hA_.mono hB.size)
        clear hA_
        generalize w_23.alloc (.cells #[(.slice A_24 n_24 c_24)] 29) = w_25 at f_d htab hzm hzn ha hbb hd f_a f_b hB ⊢
        generalize w_23.heap.size = b_d at f_d ⊢
        have F := rcmp_c hzm hzn (by omega)
        rw [hcm] at F
        refine (F).mono ?_
        rintro e w_26 ⟨rfl, hb⟩
        replace htab := htab.below hb
        replace hzm := hzm.below hb
        replace hzn := hzn.below hb
        replace ha := ha.below hb
        replace hbb := hbb.below hb
        replace hd := hd.below hb
        replace f_a := f_a.below hb
        replace f_b := f_b.below hb
        replace f_d := f_d.below hb
        replace hB := hB.trans (hb.mono hB.size)
        clear hb
        clear F
        by_cases hlt : m < n
        · rw [if_pos hlt] at hes
          subst hes
          rw [cmpN_lt hlt] at hcm
          subst hcm
          go_wp2_with fail
          refine (awake_c htab).mono ?_
          rintro e w_27 ⟨rfl, hb⟩
          replace htab := htab.below hb
          replace hzm := hzm.below hb
          replace hzn := hzn.below hb
          replace ha := ha.below hb
          replace hbb := hbb.below hb
          replace hd := hd.below hb
          replace f_a := f_a.below hb
          replace f_b := f_b.below hb
          replace f_d := f_d.below hb
          replace hB := hB.trans (hb.mono hB.size)
          clear hb
          go_wp2_with (first | refine Cel.wpList_load_row_w rfl 29 _ rfl b_d rfl 29 #[(.slice A_24 n_24 c_24)] (0, 0) _ f_d hu29 rfl infoN ?_)
          have F := zero_c hd
          rw [decide_eq_true (show m - n = 0 by omega)] at F
          refine (F).mono ?_
          rintro e w_28 ⟨rfl, hb⟩
          replace htab := htab.below hb
          replace hzm := hzm.below hb
          replace hzn := hzn.below hb
          replace ha := ha.below hb
          replace hbb := hbb.below hb
          replace hd := hd.below hb
          replace f_a := f_a.below hb
          replace f_b := f_b.below hb
          replace f_d := f_d.below hb
          replace hB := hB.trans (hb.mono hB.size)
          clear hb
          clear F
          go_wp2
          go_ret
          exact ⟨rfl, hB⟩
        · rw [if_neg hlt] at hes
          subst hes
          have dc : decide (cm < 0) = false := decide_eq_false (by rw [← hcm]; unfold cmpN; rw [if_neg hlt]; split <;> omega)
          clear hcm
          go_wp2_with fail
          have hb : Below w_26.heap.size w_26 w_26.drew := below_drew (Below.refl _ _)
          refine start_ (n := 13) (S := fun w' => Below w_26.drew.heap.size w_26.drew w') (ds := []) #[false, false, false, false, false, false, false, false, false, false, false, false, false] (by kernel_rfl) rfl rfl (Below.refl _ _) (fun hS => ?_)
          replace htab := htab.below hb
          replace hzm := hzm.below hb
          replace hzn := hzn.below hb
          replace ha := ha.below hb
          replace hbb := hbb.below hb
          replace hd := hd.below hb
          replace f_a := f_a.below hb
          replace f_b := f_b.below hb
          replace f_d := f_d.below hb
          replace hB := hB.trans (hb.mono hB.size)
          clear hb
          generalize w_26.drew = w_27 at htab hzm hzn ha hbb hd f_a f_b f_d hB hS ⊢
          have sf_a := f_a
          have sf_b := f_b
          have sf_d := f_d
          refine one_ (i := 0) (N := some 107) #[true, false, false, false, false, false, false, false, false, false, false, false, false] rfl rfl (by kernel_rfl) (by decide) (fun K hK => ?_)
          refine goes_ Tryd.func14 (by kernel_rfl) rfl #[] (by rfl) rfl rfl (by (try simp only [List.map_toArray, List.map_cons, List.map_nil]); first | done | rfl | (simp only [List.length_drop, List.length_take]; rfl)) ?_
          refine (awake_c htab).mono ?_
          rintro e w_28 ⟨rfl, hb⟩
          refine ⟨_, rfl, ?_⟩
          replace hS := hS.trans (hb.mono hS.size)
          replace htab := htab.below hb
          replace hzm := hzm.below hb
          replace hzn := hzn.below hb
          replace ha := ha.below hb
          replace hbb := hbb.below hb
          replace hd := hd.below hb
          replace f_a := f_a.below hb
          replace f_b := f_b.below hb
          replace f_d := f_d.below hb
          replace hB := hB.trans (hb.mono hB.size)
          clear hb
          refine hK.out _ _ hS (fun hS => ?_)
          clear hK K
          refine norm_ (a' := ?_) ?_ ?_
          rotate_left
          · show Act.put _ (some 107) _ = _
            simp only [Act.put, List.setIfInBounds_toArray, List.set_cons_zero, List.set_cons_succ, i64_w, i32_w]
            rfl
          refine pure_ (i := 1) (N := some 108) (v := ?_) (a' := ?_) #[true, true, false, false, false, false, false, false, false, false, false, false, false] rfl rfl (by kernel_rfl) (fun _ _ _ h => h) (Or.inl ⟨by rfl, ?_⟩) ?_ ?_
          rotate_left
          · intro w'
            go_simp
            with_reducible rfl
          rotate_left
          · simp only [Act.put, List.setIfInBounds_toArray, List.set_cons_zero, List.set_cons_succ, i64_w, i32_w]
            rfl
          refine pure_ (i := 2) (N := some 109) (v := ?_) (a' := ?_) #[true, true, true, false, false, false, false, false, false, false, false, false, false] rfl rfl (by kernel_rfl) (fun _ _ _ h => h) (Or.inl ⟨by rfl, ?_⟩) ?_ ?_
          rotate_left
          · intro w'
            go_simp
            with_reducible rfl
          rotate_left
          · simp only [Act.put, List.setIfInBounds_toArray, List.set_cons_zero, List.set_cons_succ, i64_w, i32_w]
            rfl
          refine pure_ (i := 3) (N := some 110) (v := ?_) (a' := ?_) #[true, true, true, true, false, false, false, false, false, false, false, false, false] rfl rfl (by kernel_rfl) (fun _ _ _ h => h) (Or.inl ⟨by rfl, ?_⟩) ?_ ?_
          rotate_left
          · intro w'
            go_simp
            with_reducible rfl
          rotate_left
          · simp only [Act.put, List.setIfInBounds_toArray, List.set_cons_zero, List.set_cons_succ, i64_w, i32_w]
            rfl
          refine pure_ (i := 4) (N := some 111) (v := ?_) (a' := ?_) #[true, true, true, true, true, false, false, false, false, false, false, false, false] rfl rfl (by kernel_rfl) (fun _ _ _ h => h) (Or.inl ⟨by rfl, ?_⟩) ?_ ?_
          rotate_left
          · intro w'
            go_simp
            with_reducible rfl
          rotate_left
          · simp only [Act.put, List.setIfInBounds_toArray, List.set_cons_zero, List.set_cons_succ, i64_w, i32_w]
            rfl
          refine pure_ (i := 5) (N := some 112) (v := ?_) (a' := ?_) #[true, true, true, true, true, true, false, false, false, false, false, false, false] rfl rfl (by kernel_rfl) (fun _ _ _ h => h) (Or.inl ⟨by rfl, ?_⟩) ?_ ?_
          rotate_left
          · intro w'
            go_simp
            with_reducible rfl
          rotate_left
          · simp only [Act.put, List.setIfInBounds_toArray, List.set_cons_zero, List.set_cons_succ, i64_w, i32_w]
            rfl
          refine take_ (i := 6) (N := some 113) (v := ?_) (a' := ?_) #[true, true, true, true, true, true, true, false, false, false, false, false, false] rfl rfl (by kernel_rfl) (fun _ _ _ h => h) (Or.inl ⟨by rfl, ?_⟩) hS ?_ ?_
          rotate_left
          · intro w' hS_
            have k_ := (blk_cell (bx.below sf_d hS_) 0).trans rfl
            go_simp
            with_reducible rfl
          rotate_left
          · simp only [Act.put, List.setIfInBounds_toArray, List.set_cons_zero, List.set_cons_succ, i64_w, i32_w]
            rfl
          refine pure_ (i := 7) (N := some 114) (v := ?_) (a' := ?_) #[true, true, true, true, true, true, true, true, false, false, false, false, false] rfl rfl (by kernel_rfl) (fun _ _ _ h => h) (Or.inl ⟨by rfl, ?_⟩) ?_ ?_
          rotate_left
          · intro w'
            go_simp
            with_reducible rfl
          rotate_left
          · simp only [Act.put, List.setIfInBounds_toArray, List.set_cons_zero, List.set_cons_succ, i64_w, i32_w]
            rfl
          refine pure_ (i := 8) (N := some 115) (v := ?_) (a' := ?_) #[true, true, true, true, true, true, true, true, true, false, false, false, false] rfl rfl (by kernel_rfl) (fun _ _ _ h => h) (Or.inl ⟨by rfl, ?_⟩) ?_ ?_
          rotate_left
          · intro w'
            go_simp
            with_reducible rfl
          rotate_left
          · simp only [Act.put, List.setIfInBounds_toArray, List.set_cons_zero, List.set_cons_succ, i64_w, i32_w]
            rfl
          refine one_ (i := 9) (N := some 116) #[true, true, true, true, true, true, true, true, true, true, false, false, false] rfl rfl (by kernel_rfl) (by decide) (fun K hK => ?_)
          refine goes_ Tryd.func39 (by kernel_rfl) rfl #[zm, zn] (by rfl) rfl rfl (by (try simp only [List.map_toArray, List.map_cons, List.map_nil]); first | done | rfl | (simp only [List.length_drop, List.length_take]; rfl)) ?_
          refine (rsub_c hzm hzn (by omega) (by omega)).mono ?_
          rintro e w_29 ⟨z_t, rfl, ht, hb⟩
          refine ⟨_, rfl, ?_⟩
          replace hS := hS.trans (hb.mono hS.size)
          replace htab := htab.below hb
          replace hzm := hzm.below hb
          replace hzn := hzn.below hb
          replace ha := ha.below hb
          replace hbb := hbb.below hb
          replace hd := hd.below hb
          replace f_a := f_a.below hb
          replace f_b := f_b.below hb
          replace f_d := f_d.below hb
          replace hB := hB.trans (hb.mono hB.size)
          clear hb
          refine hK.out _ _ hS (fun hS => ?_)
          clear hK K
          refine norm_ (a' := ?_) ?_ ?_
          rotate_left
          · show Act.put _ (some 116) _ = _
            simp only [Act.put, List.setIfInBounds_toArray, List.set_cons_zero, List.set_cons_succ, i64_w, i32_w]
            rfl
          have lmn := len_mono (b := BW) (x := m - n) (y := m) (by decide) (Nat.sub_le _ _)
          refine one_ (i := 10) (N := some 117) #[true, true, true, true, true, true, true, true, true, true, true, false, false] rfl rfl (by kernel_rfl) (by decide) (fun K hK => ?_)
          refine goes_ Tryd.func27 (by kernel_rfl) rfl #[.agg #[(.slice A_24 n_24 c_24)], z_t] (by rfl) rfl rfl (by (try simp only [List.map_toArray, List.map_cons, List.map_nil]); first | done | rfl | (simp only [List.length_drop, List.length_take]; rfl)) ?_
          have F := is_c hd ht (by omega)
          rw [decide_eq_true rfl] at F
          refine (F).mono ?_
          rintro e w_30 ⟨rfl, hb⟩
          refine ⟨_, rfl, ?_⟩
          replace hS := hS.trans (hb.mono hS.size)
          replace htab := htab.below hb
          replace hzm := hzm.below hb
          replace hzn := hzn.below hb
          replace ha := ha.below hb
          replace hbb := hbb.below hb
          replace hd := hd.below hb
          replace ht := ht.below hb
          replace f_a := f_a.below hb
          replace f_b := f_b.below hb
          replace f_d := f_d.below hb
          replace hB := hB.trans (hb.mono hB.size)
          clear hb
          refine hK.out _ _ hS (fun hS => ?_)
          clear hK K
          refine norm_ (a' := ?_) ?_ ?_
          rotate_left
          · show Act.put _ (some 117) _ = _
            simp only [Act.put, List.setIfInBounds_toArray, List.set_cons_zero, List.set_cons_succ, i64_w, i32_w]
            rfl
          clear F
          refine pure_ (i := 11) (N := some 118) (v := ?_) (a' := ?_) #[true, true, true, true, true, true, true, true, true, true, true, true, false] rfl rfl (by kernel_rfl) (fun _ _ _ h => h) (Or.inl ⟨by rfl, ?_⟩) ?_ ?_
          rotate_left
          · intro w'
            go_simp
            with_reducible rfl
          rotate_left
          · simp only [Act.put, List.setIfInBounds_toArray, List.set_cons_zero, List.set_cons_succ, i64_w, i32_w]
            rfl
          refine pure_ (i := 12) (N := some 4) (v := ?_) (a' := ?_) #[true, true, true, true, true, true, true, true, true, true, true, true, true] rfl rfl (by kernel_rfl) (fun _ _ _ h => h) (Or.inl ⟨by rfl, ?_⟩) ?_ ?_
          rotate_left
          · intro w'
            go_simp
            with_reducible rfl
          rotate_left
          · simp only [Act.put, List.setIfInBounds_toArray, List.set_cons_zero, List.set_cons_succ, i64_w, i32_w]
            rfl
          refine done_ (by kernel_rfl) ?_
          go_wp2
          go_ret
          exact ⟨rfl, hB⟩
      · have F := from_c h2 r2 en (by omega)
        rw [show fitE n = 1 by unfold fitE; rw [if_neg g_n]] at F
        refine (F).mono ?_
        rintro e w_7 ⟨z_b, rfl, hbb0, hb⟩
        replace h1 := h1.below hb
        replace h2 := h2.below hb
        replace htab := htab.below hb
        replace hzm := hzm.below hb
        replace hzn := hzn.below hb
        replace ha := ha.below hb
        replace f_a := f_a.below hb
        replace hB := hB.trans (hb.mono hB.size)
        clear hb
        have hbb := Kf.kw hbb0
        clear hbb0 F
        obtain ⟨A_8, n_8, c_8, rfl⟩ := hbb.shape
        go_wp2_with fail
        have f_b := bx.new w_7 (.slice A_8 n_8 c_8)
        have hA_ := below_alloc (Below.refl w_7.heap.size w_7) (.cells #[(.slice A_8 n_8 c_8)] 29)
        replace h1 := h1.below hA_
        replace h2 := h2.below hA_
        replace htab := htab.below hA_
        replace hzm := hzm.below hA_
        replace hzn := hzn.below hA_
        replace ha := ha.below hA_
        replace hbb := hbb.below hA_
        replace f_a := f_a.below hA_
        replace hB := hB.trans (hA_.mono hB.size)
        clear hA_
        generalize w_7.alloc (.cells #[(.slice A_8 n_8 c_8)] 29) = w_9 at f_b h1 h2 htab hzm hzn ha hbb f_a hB ⊢
        generalize w_7.heap.size = b_b at f_b ⊢
        have gm := (fits_nb m).1 g_m
        have gn := mt (fits_nb n).2 g_n
        refine (awake_c htab).mono ?_
        rintro e w_10 ⟨rfl, hb⟩
        replace h1 := h1.below hb
        replace h2 := h2.below hb
        replace htab := htab.below hb
        replace hzm := hzm.below hb
        replace hzn := hzn.below hb
        replace ha := ha.below hb
        replace hbb := hbb.below hb
        replace f_a := f_a.below hb
        replace f_b := f_b.below hb
        replace hB := hB.trans (hb.mono hB.size)
        clear hb
        go_wp2_with fail
        have d1 : decide ((nb m : Int) > 4096) = false := decide_eq_false (by omega)
        have d2 : decide (4096 < (nb m : Int)) = false := decide_eq_false (by omega)
        have d3 : decide (4096 < nb m) = false := decide_eq_false (by omega)
        refine (rbits_c hzm (by omega)).mono ?_
        rintro e w_11 ⟨rfl, hb⟩
        replace h1 := h1.below hb
        replace h2 := h2.below hb
        replace htab := htab.below hb
        replace hzm := hzm.below hb
        replace hzn := hzn.below hb
        replace ha := ha.below hb
        replace hbb := hbb.below hb
        replace f_a := f_a.below hb
        replace f_b := f_b.below hb
        replace hB := hB.trans (hb.mono hB.size)
        clear hb
        go_wp2_with fail
        have d4 : decide ((nb n : Int) > 4096) = true := decide_eq_true (by omega)
        have d5 : decide (4096 < (nb n : Int)) = true := decide_eq_true (by omega)
        have d6 : decide (4096 < nb n) = true := decide_eq_true (by omega)
        refine (rbits_c hzn (by omega)).mono ?_
        rintro e w_12 ⟨rfl, hb⟩
        replace h1 := h1.below hb
        replace h2 := h2.below hb
        replace htab := htab.below hb
        replace hzm := hzm.below hb
        replace hzn := hzn.below hb
        replace ha := ha.below hb
        replace hbb := hbb.below hb
        replace f_a := f_a.below hb
        replace f_b := f_b.below hb
        replace hB := hB.trans (hb.mono hB.size)
        clear hb
        go_wp2
        go_ret
        exact ⟨rfl, hB⟩
    · have F := from_c h1 r1 em (by omega)
      rw [show fitE m = 1 by unfold fitE; rw [if_neg g_m]] at F
      refine (F).mono ?_
      rintro e w_4 ⟨z_a, rfl, ha0, hb⟩
      replace h1 := h1.below hb
      replace h2 := h2.below hb
      replace htab := htab.below hb
      replace hzm := hzm.below hb
      replace hzn := hzn.below hb
      replace hB := hB.trans (hb.mono hB.size)
      clear hb
      have ha := Kf.kw ha0
      clear ha0 F
      obtain ⟨A_5, n_5, c_5, rfl⟩ := ha.shape
      go_wp2_with fail
      have f_a := bx.new w_4 (.slice A_5 n_5 c_5)
      have hA_ := below_alloc (Below.refl w_4.heap.size w_4) (.cells #[(.slice A_5 n_5 c_5)] 29)
      replace h1 := h1.below hA_
      replace h2 := h2.below hA_
      replace htab := htab.below hA_
      replace hzm := hzm.below hA_
      replace hzn := hzn.below hA_
      replace ha := ha.below hA_
      replace hB := hB.trans (hA_.mono hB.size)
      clear hA_
      generalize w_4.alloc (.cells #[(.slice A_5 n_5 c_5)] 29) = w_6 at f_a h1 h2 htab hzm hzn ha hB ⊢
      generalize w_4.heap.size = b_a at f_a ⊢
      have F := from_c h2 r2 en (by omega)
      refine (F).mono ?_
      rintro e w_7 ⟨z_b, rfl, hbb0, hb⟩
      replace h1 := h1.below hb
      replace h2 := h2.below hb
      replace htab := htab.below hb
      replace hzm := hzm.below hb
      replace hzn := hzn.below hb
      replace ha := ha.below hb
      replace f_a := f_a.below hb
      replace hB := hB.trans (hb.mono hB.size)
      clear hb
      have hbb := Kf.kw hbb0
      clear hbb0 F
      obtain ⟨A_8, n_8, c_8, rfl⟩ := hbb.shape
      go_wp2_with fail
      have f_b := bx.new w_7 (.slice A_8 n_8 c_8)
      have hA_ := below_alloc (Below.refl w_7.heap.size w_7) (.cells #[(.slice A_8 n_8 c_8)] 29)
      replace h1 := h1.below hA_
      replace h2 := h2.below hA_
      replace htab := htab.below hA_
      replace hzm := hzm.below hA_
      replace hzn := hzn.below hA_
      replace ha := ha.below hA_
      replace hbb := hbb.below hA_
      replace f_a := f_a.below hA_
      replace hB := hB.trans (hA_.mono hB.size)
      clear hA_
      generalize w_7.alloc (.cells #[(.slice A_8 n_8 c_8)] 29) = w_9 at f_b h1 h2 htab hzm hzn ha hbb f_a hB ⊢
      generalize w_7.heap.size = b_b at f_b ⊢
      have gn := mt (fits_nb m).2 g_m
      refine (awake_c htab).mono ?_
      rintro e w_10 ⟨rfl, hb⟩
      replace h1 := h1.below hb
      replace h2 := h2.below hb
      replace htab := htab.below hb
      replace hzm := hzm.below hb
      replace hzn := hzn.below hb
      replace ha := ha.below hb
      replace hbb := hbb.below hb
      replace f_a := f_a.below hb
      replace f_b := f_b.below hb
      replace hB := hB.trans (hb.mono hB.size)
      clear hb
      go_wp2_with fail
      have d1 : decide ((nb m : Int) > 4096) = true := decide_eq_true (by omega)
      have d2 : decide (4096 < (nb m : Int)) = true := decide_eq_true (by omega)
      have d3 : decide (4096 < nb m) = true := decide_eq_true (by omega)
      refine (rbits_c hzm (by omega)).mono ?_
      rintro e w_11 ⟨rfl, hb⟩
      replace h1 := h1.below hb
      replace h2 := h2.below hb
      replace htab := htab.below hb
      replace hzm := hzm.below hb
      replace hzn := hzn.below hb
      replace ha := ha.below hb
      replace hbb := hbb.below hb
      replace f_a := f_a.below hb
      replace f_b := f_b.below hb
      replace hB := hB.trans (hb.mono hB.size)
      clear hb
      go_wp2
      go_ret
      exact ⟨rfl, hB⟩
end Go.Proofs.YtgkdealidnidiaaDoor.Na
namespace Go.Proofs.YtgkdealidnidiaaDoor.Na
set_option linter.unusedVariables false
open Go.RowKit Go.Proofs.YtgkdealidnidiaaDoorW.PrintWords Go.Proofs.YtgkdealidnidiaaDoorW.PrintLast Go.Proofs.YtgkdealidnidiaaDoorW.PrintMore Go.Proofs.YtgkdealidnidiaaDoor.Dg
set_option maxRecDepth 100000 in
theorem open_ws {H : Type} {enc : TypeId × Value → H} {W : World} {base : Nat} {spare : Nat → Bool} {held : Bool} {r : Reach} {b0 : Nat} {v : Value} {d : DataW H} {ps : List MemPlace}
    (hv : Value.okWide Tryd.prog W r b0 22 v) (h : DataW.Trod enc Tryd.prog W base spare held 22 v d ps) :
    ∃ A c l, v = .slice A l.length c ∧ l.length ≤ c ∧ Kd.C (Kd.int .u64) W A l.length l ∧ R BW l ∧ l.length ≤ 9223372036854775807 := by
  obtain ⟨a, len, cap, rfl⟩ := Go.WideShapes.okWide_slice Tryd.underlying22 hv
  obtain ⟨fuel, hf⟩ := h
  have hcz : Tryd.prog.cellsOf 40 = 1 := by kernel_rfl
  rcases Go.ChangeShapes.open_ints Tryd.underlying22 Tryd.underlying40 hcz hf with ⟨hc, _⟩ | ⟨a', len', cap', zs, hc, _, hlc, hcm, hzl, _, hcell, hwf⟩
  · simp [Value.cells] at hc
    obtain ⟨rfl, rfl, rfl⟩ := hc
    exact ⟨none, 0, [], rfl, Nat.le_refl _, Kd.C_nil _ _, R_nil _, by simp⟩
  · simp [Value.cells] at hc
    obtain ⟨rfl, rfl, rfl⟩ := hc
    have hle : len ≤ zs.length := by rw [hzl]; split <;> omega
    have hcap : cap ≤ 9223372036854775807 := by
      have : cap ≤ maxLen := hcm
      unfold maxLen at this
      omega
    have hl : (zs.take len).length = len := by rw [List.length_take, Nat.min_eq_left hle]
    refine ⟨some a', cap, zs.take len, by rw [hl], by omega, ⟨rfl, by omega, fun _ => ⟨a', rfl, ?_⟩⟩, ?_, by omega⟩
    · intro j p hj
      refine ⟨[.int .u64 p], rfl, rfl, ?_⟩
      intro i u hi
      match i, hi with
      | 0, hi =>
        have hu : Value.int .u64 p = u := by simpa using hi
        subst hu
        have hj1 : j < (zs.take len).length := (List.getElem?_eq_some_iff.1 hj).1
        have hj2 : j < zs.length := by omega
        have hc := hcell j hj2
        have hz : zs.getD j 0 = p := by
          rw [List.getElem?_take, if_pos (by omega)] at hj
          rw [List.getD_eq_getElem?_getD, hj]; rfl
        rw [hz] at hc
        show W.cell? (a'.add (j * 1 + 0)) = _
        rw [Nat.mul_one, Nat.add_zero]; exact hc
      | i + 1, hi => simp at hi
    · intro x hx
      have hw := hwf x (List.mem_of_mem_take hx)
      simp [Lit.wf, IntKind.min, IntKind.max, IntKind.signed, IntKind.bits] at hw
      have : ((BW : Nat) : Int) = 18446744073709551616 := rfl
      rw [this]
      omega
end Go.Proofs.YtgkdealidnidiaaDoor.Na
namespace Go.Proofs.YtgkdealidnidiaaDoor
open Go.RowKit
mutual
def flat : DataW Unit → List Value
  | .lit (.int k n) => [.int k n]
  | .agg parts => flats parts
  | _ => []
def flats : List (DataW Unit) → List Value
  | [] => []
  | d :: r => flat d ++ flats r
end
def layObj (d : DataW Unit) : Obj → Obj
  | .cells _ t fr => .cells (flat d).toArray t fr
  | o => o
noncomputable def laidWorld (os : Os) : World :=
  let w0 := World.holding Tryd.prog os ⟨#[], #[], []⟩
  { w0 with heap := ((w0.heap.modify 4 (layObj Rows.laid_math_bits_deBruijn32tab)).modify 5 (layObj Rows.laid_math_bits_deBruijn64tab)).modify 2 (layObj Rows.laid_internal_strconv_uint64pow10) }
theorem tab_of {W : World} (h : laidMetH Tryd.prog [("math/bits.deBruijn32tab", Rows.laid_math_bits_deBruijn32tab), ("math/bits.deBruijn64tab", Rows.laid_math_bits_deBruijn64tab), ("internal/strconv.uint64pow10", Rows.laid_internal_strconv_uint64pow10)] W) : Na.Tab W := by
  rw [MakeChecks.laidMetH_plain _ _ _ (by kernel_rfl)] at h
  have h2 := h.filter (fun x => x.1 == "internal/strconv.uint64pow10")
  have e : ([("math/bits.deBruijn32tab", Rows.laid_math_bits_deBruijn32tab), ("math/bits.deBruijn64tab", Rows.laid_math_bits_deBruijn64tab), ("internal/strconv.uint64pow10", Rows.laid_internal_strconv_uint64pow10)] : List (String × DataW Unit)).filter (fun x => x.1 == "internal/strconv.uint64pow10") = [("internal/strconv.uint64pow10", Lib.tabData .u64 Lib.pow10Tab)] := by kernel_rfl
  rw [e] at h2
  exact Lib.tabIs_of_head (g := 2) (t := 161) (e := 40) (n := 20) (by kernel_rfl) (by kernel_rfl) Tryd.underlying161 Tryd.underlying40 (by kernel_rfl) (by kernel_rfl) h2
end Go.Proofs.YtgkdealidnidiaaDoor
