/- Texts of the seat, as far as the row needs them. -/
import Derived.ArgAppend
import Derived.Below
import Derived.BigQuiet
import Derived.Deep.AppendLies
import Derived.Deep.CutBlock
import Derived.Deep.DeepCutAuto
import Derived.Deep.Draws
import Derived.Deep.Light
import Derived.Deep.LoopGhost
import Derived.Deep.OwnRows
import Derived.Deep.QuietTactic
import Derived.Deep.RegionHeld3
import Derived.Ground.Names2Prog
import Derived.KernelRfl
import Derived.Laws.AppendOwn
import Derived.Laws.BitsAllLaws
import Derived.Laws.BitsLemmas
import Derived.Laws.BytesArg
import Derived.Laws.CopyOwn
import Derived.Laws.Externs
import Derived.Laws.IdiomCopy
import Derived.Laws.MakeOwn
import Derived.Laws.OwnMore
import Derived.Laws.ResultCell
import Derived.Laws.Rows
import Derived.Laws.Slices
import Derived.Laws.StructEq
import Derived.Laws.Tables
import Derived.Lib.AppendIntMem
import Derived.Lib.AppendStr
import Derived.Lib.BitFns
import Derived.Lib.ConvBytes
import Derived.Lib.ItoaMem
import Derived.Lib.Join
import Derived.Lib.LazyBuf
import Derived.Lib.OwnBridge
import Derived.Lib.Repeat
import Derived.Lib.SliceRun
import Derived.Lib.SmallJoins
import Derived.Lib.Strings
import Derived.Lib.Walk
import Derived.Maps.AppendAt
import Derived.OrdersHeld
import Derived.Outline
import Derived.OwnWalk
import Derived.RowKit
import Derived.RowKit3
import Derived.Shelf.Bits.Mul64
import Derived.Shelf.LaysM
import Derived.Shelf.Slices.Cells
import Derived.Shelf.Slices.CompactI
import Derived.Shelf.Slices.ReverseS
import Derived.Shelf.Small.Bits
import Derived.Shelf.Spec.BitsCarry
import Derived.Shelf.Strconv.Itoa0
import Derived.Shelf.Strconv.Itoa1
import Derived.Shelf.Strconv.Itoa2
import Derived.Shelf.Strings.Builder1
import Derived.Shelf.Strings.Builder2
import Derived.Shelf.Strings.Builder2Cap
import Derived.Shelf.Strings.BuilderCap
import Derived.Shelf.Strings.BuilderF
import Derived.Shelf.Strings.BuilderK
import Derived.Shelf.Strings.OnBuilder
import Derived.Shelf.Strings.Prefix
import Derived.Shelf.Strings.Repeat
import Derived.StillTailTactics
import Derived.Tactics
import Derived.Test.YtgkdealidnidiaaDoorProg
import Derived.WalkKit
import Derived.WideLaws
import Derived.Test.YtgkdealidnidiaaDoorQRatReads0
import Derived.Test.YtgkdealidnidiaaDoorQRatReads1
import Derived.Test.YtgkdealidnidiaaDoorQRatReads2
import Derived.Test.YtgkdealidnidiaaDoorQRatReads3
import Derived.Test.YtgkdealidnidiaaDoorQRatReads4
import Derived.Test.YtgkdealidnidiaaDoorQRatReads5
import Derived.Test.YtgkdealidnidiaaDoorQRatReads6
import Derived.Test.YtgkdealidnidiaaDoorQRatReads7
import Derived.Test.YtgkdealidnidiaaDoorQRatReads8
import Derived.Test.YtgkdealidnidiaaDoorQRatReads9
set_option linter.unusedVariables false
set_option linter.unusedSimpArgs false
namespace Go.Proofs.YtgkdealidnidiaaDoor.Na
open Go.RowKit Go.Proofs.YtgkdealidnidiaaDoorW.PrintWords Go.Proofs.YtgkdealidnidiaaDoorW.PrintLast Go.Proofs.YtgkdealidnidiaaDoorW.PrintMore Go.Proofs.YtgkdealidnidiaaDoor.Dg
set_option linter.unusedSimpArgs false
set_option linter.unusedVariables false
theorem Pw.newbox {P : Nat → Prop} {w w' : World} {u : Value} {x g : Nat} (h : Pw P w u x) (hg : g = w.heap.size) (hb : Below w.heap.size w w') : Pw (fun i => P i ∧ i ≠ g) w' u x := Kd.V_below (Kd.V_mono (Kd.V_bound h) (fun i hi => ⟨hi.1, by have := hi.2; omega⟩)) hb
theorem Pw.mono {P Q : Nat → Prop} {w : World} {u : Value} {x : Nat} (h : Pw P w u x) (hPQ : ∀ i, P i → Q i) : Pw Q w u x := Kd.V_mono h hPQ
theorem divf_c {w : World} {P : Nat → Prop} {u : Value} {x : Nat} (h1 : Pw P w u x) {v : Value} {y : Nat} (h2 : Nw w v y) (hxl : (wd BW x).length ≤ 100000) (hy : 0 < y) :
  Calls Tryd.prog 40 #[.agg #[u], .agg #[v]] w fun e w' => ∃ z z', e = .returned (.tuple #[.agg #[z], .agg #[z'], .int .i64 0]) ∧ Pw (fun i => w.heap.size ≤ i) w' z (x / y) ∧ Pw (fun i => P i ∨ w.heap.size ≤ i) w' z' (x % y) ∧ Below w.heap.size w w' := div_c h1 h2 hxl hy
set_option maxRecDepth 100000 in
set_option maxHeartbeats 16000000 in
theorem scaled_c {w : World} {A1 A2 : Option Addr} {n1 n2 c1 c2 x y : Nat} (h1 : Nw w (.slice A1 n1 c1) x) (h2 : Nw w (.slice A2 n2 c2) y) (lx : (wd BW x).length ≤ 64) (hy : 0 < y) (p : Nat) (hp : p ≤ 4096) (hfit : (wd BW (x * 2 ^ p)).length ≤ 64) :
  Calls Tryd.prog 90 #[.agg #[.slice A1 n1 c1, .slice A2 n2 c2, .bool true], .int .i64 (p : Int)] w fun e w' => ∃ z, e = .returned (.tuple #[.agg #[z], .bool (!decide (x * 2 ^ p % y = 0)), .int .i64 0]) ∧ Nf w.heap.size w' z (x * 2 ^ p / y) ∧ Below w.heap.size w w' := by
 have hu29 := Tryd.underlying29
 have hu62 := Tryd.underlying62
 have d1 : decide ((p : Int) < 0) = false := decide_eq_false (by omega)
 have d2 : decide ((p : Int) > 4096) = false := decide_eq_false (by omega)
 have d3 : decide (4096 < (p : Int)) = false := decide_eq_false (by omega)
 have F := fun (W : World) (h : Nw W (.slice A1 n1 c1) x) => shl_c h lx p (by omega)
 rw [fitE_ok hfit, fitN_ok hfit] at F
 obtain ⟨n, hn⟩ : ∃ n, x * 2 ^ p = n := ⟨_, rfl⟩
 rw [hn] at F hfit ⊢
 have HP := Aside0.mk hp
 clear hn lx hp
 have f_2 : rb ((w.alloc (.cells #[.slice A1 n1 c1, .slice A2 n2 c2, .bool true] 62)).alloc (.cells #[.slice none 0 0] 29)) w.heap.size (.slice A1 n1 c1) (.slice A2 n2 c2) true := (rb.new w _ _ _).alloc _
 have f_4 : bx ((w.alloc (.cells #[.slice A1 n1 c1, .slice A2 n2 c2, .bool true] 62)).alloc (.cells #[.slice none 0 0] 29)) (w.heap.size + 1) (.slice none 0 0) := by have h := bx.new (w.alloc (.cells #[.slice A1 n1 c1, .slice A2 n2 c2, .bool true] 62)) (.slice none 0 0); simpa using h
 have hB : Below w.heap.size w ((w.alloc (.cells #[.slice A1 n1 c1, .slice A2 n2 c2, .bool true] 62)).alloc (.cells #[.slice none 0 0] 29)) := below_alloc (below_alloc (Below.refl _ _) _) _
 have k0 := (blk_cell f_2 0).trans rfl
 go_enter Tryd.func90, Tryd.ntmps90
 go_wp2_with fail
 replace h1 := h1.below hB
 replace h2 := h2.below hB
 clear k0
 generalize ((w.alloc (.cells #[.slice A1 n1 c1, .slice A2 n2 c2, .bool true] 62)).alloc (.cells #[.slice none 0 0] 29)) = w_1 at f_2 f_4 h1 h2 hB ⊢
 have l_4 : w.heap.size ≤ w.heap.size + 1 := by omega
 have n_24 : w.heap.size ≠ w.heap.size + 1 := by omega
 generalize w.heap.size + 1 = b_4 at f_4 l_4 n_24 ⊢
 refine (F _ h1).mono ?_
 rintro e w_2 ⟨z_n, rfl, hnn, hb⟩
 replace h2 := h2.below hb
 replace f_2 := f_2.below hb
 replace f_4 := f_4.below hb
 replace hB := hB.trans (hb.mono hB.size)
 clear hb
 clear F
 obtain ⟨A_3, n_3, c_3, rfl⟩ := hnn.shape
 go_wp2_with fail
 have f_7 := bx.new w_2 (.slice A_3 n_3 c_3)
 have hA_ := below_alloc (Below.refl w_2.heap.size w_2) (.cells #[(.slice A_3 n_3 c_3)] 29)
 replace h2 := h2.below hA_
 replace f_2 := f_2.below hA_
 replace f_4 := f_4.below hA_
 replace hnn := hnn.below hA_
 replace hB := hB.trans (hA_.mono hB.size)
 clear hA_
 generalize w_2.alloc (.cells #[(.slice A_3 n_3 c_3)] 29) = w_4 at f_7 h2 f_2 f_4 hnn hB ⊢
 generalize w_2.heap.size = b_7 at f_7 ⊢
 have g4 := f_4.lt
 have g2 := f_2.lt
 have g7 := f_7.lt
 have hb : Below w_4.heap.size w_4 w_4.drew := below_drew (Below.refl _ _)
 refine start_ (n := 13) (S := fun w' => Below w_4.drew.heap.size w_4.drew w') (ds := []) #[false, false, false, false, false, false, false, false, false, false, false, false, false] (by kernel_rfl) rfl rfl (Below.refl _ _) (fun hS => ?_)
 replace h2 := h2.below hb
 replace f_2 := f_2.below hb
 replace f_4 := f_4.below hb
 replace hnn := hnn.below hb
 replace f_7 := f_7.below hb
 replace hB := hB.trans (hb.mono hB.size)
 clear hb
 generalize w_4.drew = w_5 at h2 f_2 f_4 hnn f_7 hB hS ⊢
 have sf_7 := f_7
 have sf_2 := f_2
 have g45 := f_4.lt
 have gw5 := hB.size
 refine take_ (i := 0) (N := some 31) (v := ?_) (a' := ?_) #[true, false, false, false, false, false, false, false, false, false, false, false, false] rfl rfl (by kernel_rfl) (fun _ _ _ h => h) (Or.inl ⟨by rfl, ?_⟩) hS ?_ ?_
 rotate_left
 ·intro w' hS_
  have k_ := (blk_cell (bx.below sf_7 hS_) 0).trans rfl
  go_simp
  with_reducible rfl
 rotate_left
 ·simp only [Act.put, List.setIfInBounds_toArray, List.set_cons_zero, List.set_cons_succ, i64_w, i32_w]
  rfl
 refine take_ (i := 1) (N := some 32) (v := ?_) (a' := ?_) #[true, true, false, false, false, false, false, false, false, false, false, false, false] rfl rfl (by kernel_rfl) (fun _ _ _ h => h) (Or.inl ⟨by rfl, ?_⟩) hS ?_ ?_
 rotate_left
 ·intro w' hS_
  have k0_ := (blk_cell (rb.below sf_2 hS_) 0).trans rfl
  have k1_ := (blk_cell (rb.below sf_2 hS_) 1).trans rfl
  have k2_ := (blk_cell (rb.below sf_2 hS_) 2).trans rfl
  go_simp
  with_reducible rfl
 rotate_left
 ·simp only [Act.put, List.setIfInBounds_toArray, List.set_cons_zero, List.set_cons_succ, i64_w, i32_w]
  rfl
 clear h1 d1 d2 d3 sf_7 sf_2 f_2 f_7
 replace hnn := Nw.pw (P := fun i => i < w_5.heap.size) hnn (fun i hi => hi)
 refine join_ (σ := (Value × Value) × (Nat × Nat)) 3 #[true, true, true, true, true, true, true, true, true, true, false, false, false] (fun s_ => [(33, .agg #[.slice A2 n2 c2]), (34, .tuple #[.agg #[s_.1.1], .agg #[s_.1.2], .int .i64 0]), (30, .tuple #[.agg #[s_.1.1], .agg #[s_.1.2], .int .i64 0]), (35, .agg #[s_.1.1]), (36, .agg #[s_.1.2]), (37, .int .i64 0), (9, .pointer (some ⟨s_.2.1, 0, none⟩)), (10, .pointer (some ⟨s_.2.2, 0, none⟩))]) (fun s_ w' => Below w_5.heap.size w_5 w' ∧ bx w' s_.2.1 (.slice none 0 0) ∧ bx w' s_.2.2 (.slice none 0 0) ∧ s_.2.1 ≠ s_.2.2 ∧ w_5.heap.size ≤ s_.2.1 ∧ w_5.heap.size ≤ s_.2.2 ∧ Pw (fun i => w_5.heap.size ≤ i ∧ i ≠ s_.2.1 ∧ i ≠ s_.2.2) w' s_.1.1 (n / y) ∧ Pw (fun i => i ≠ s_.2.1 ∧ i ≠ s_.2.2) w' s_.1.2 (n % y)) ?_ ?_
 rotate_left
 ·intro hCont
  refine three_ (i := 2) (j := 8) (k := 9) (Ni := some 33) (Nj := some 9) (Nk := some 10) #[true, true, true, false, false, false, false, false, false, false, false, false, false] #[true, true, false, false, false, false, false, false, true, false, false, false, false] #[true, true, false, false, false, false, false, false, false, true, false, false, false] rfl rfl rfl rfl rfl rfl (by kernel_rfl) (by decide) (by decide) (by decide) (fun K hK => ?_) (fun K hK => ?_) (fun K hK => ?_)
  ·refine goes_ Tryd.func89 (by kernel_rfl) rfl #[.agg #[.slice A1 n1 c1, .slice A2 n2 c2, .bool true]] (by rfl) rfl rfl (by (try simp only [List.map_toArray, List.map_cons, List.map_nil]); first | done | rfl) ?_
   refine (qden_c).mono ?_
   rintro e v_101 ⟨rfl, hb⟩
   refine ⟨_, rfl, ?_⟩
   replace h2 := h2.below hb
   replace hnn := hnn.below hb
   replace f_4 := f_4.below hb
   replace hB := hB.trans (hb.mono hB.size)
   replace hS := hS.trans (hb.mono hS.size)
   clear hb
   refine hK.out _ _ hS (fun hS => ?_)
   clear hK K
   refine norm_ (a' := ?_) ?_ ?_
   rotate_left
   ·show Act.put _ (some 33) _ = _
    simp only [Act.put, List.setIfInBounds_toArray, List.set_cons_zero, List.set_cons_succ, i64_w, i32_w]
    rfl
   refine three_ (i := 3) (j := 8) (k := 9) (Ni := some 34) (Nj := some 9) (Nk := some 10) #[true, true, true, true, false, false, false, false, false, false, false, false, false] #[true, true, true, false, false, false, false, false, true, false, false, false, false] #[true, true, true, false, false, false, false, false, false, true, false, false, false] rfl rfl rfl rfl rfl rfl (by kernel_rfl) (by decide) (by decide) (by decide) (fun K hK => ?_) (fun K hK => ?_) (fun K hK => ?_)
   ·refine goes_ Tryd.func40 (by kernel_rfl) rfl #[.agg #[(.slice A_3 n_3 c_3)], .agg #[.slice A2 n2 c2]] (by rfl) rfl rfl (by (try simp only [List.map_toArray, List.map_cons, List.map_nil]); first | done | rfl) ?_
    have gs := hS.size
    refine (divf_c hnn h2 (by omega) hy).mono ?_
    rintro e v_102 ⟨zq, zr, rfl, hq, hr, hb⟩
    refine ⟨_, rfl, ?_⟩
    replace f_4 := f_4.below hb
    replace hB := hB.trans (hb.mono hB.size)
    replace hS := hS.trans (hb.mono hS.size)
    clear hb h2 hnn
    refine hK.out _ _ hS (fun hS => ?_)
    clear hK K
    refine norm_ (a' := ?_) ?_ ?_
    rotate_left
    ·show Act.put _ (some 34) _ = _
     simp only [Act.put, List.setIfInBounds_toArray, List.set_cons_zero, List.set_cons_succ, i64_w, i32_w]
     rfl
    refine pure_ (i := 4) (N := some 30) (v := ?_) (a' := ?_) #[true, true, true, true, true, false, false, false, false, false, false, false, false] rfl rfl (by kernel_rfl) (fun _ _ _ h => h) (Or.inl ⟨by rfl, ?_⟩) ?_ ?_
    rotate_left
    ·intro w'
     go_simp
     with_reducible rfl
    rotate_left
    ·simp only [Act.put, List.setIfInBounds_toArray, List.set_cons_zero, List.set_cons_succ, i64_w, i32_w]
     rfl
    refine pure_ (i := 5) (N := some 35) (v := ?_) (a' := ?_) #[true, true, true, true, true, true, false, false, false, false, false, false, false] rfl rfl (by kernel_rfl) (fun _ _ _ h => h) (Or.inl ⟨by rfl, ?_⟩) ?_ ?_
    rotate_left
    ·intro w'
     go_simp
     with_reducible rfl
    rotate_left
    ·simp only [Act.put, List.setIfInBounds_toArray, List.set_cons_zero, List.set_cons_succ, i64_w, i32_w]
     rfl
    refine pure_ (i := 6) (N := some 36) (v := ?_) (a' := ?_) #[true, true, true, true, true, true, true, false, false, false, false, false, false] rfl rfl (by kernel_rfl) (fun _ _ _ h => h) (Or.inl ⟨by rfl, ?_⟩) ?_ ?_
    rotate_left
    ·intro w'
     go_simp
     with_reducible rfl
    rotate_left
    ·simp only [Act.put, List.setIfInBounds_toArray, List.set_cons_zero, List.set_cons_succ, i64_w, i32_w]
     rfl
    refine pure_ (i := 7) (N := some 37) (v := ?_) (a' := ?_) #[true, true, true, true, true, true, true, true, false, false, false, false, false] rfl rfl (by kernel_rfl) (fun _ _ _ h => h) (Or.inl ⟨by rfl, ?_⟩) ?_ ?_
    rotate_left
    ·intro w'
     go_simp
     with_reducible rfl
    rotate_left
    ·simp only [Act.put, List.setIfInBounds_toArray, List.set_cons_zero, List.set_cons_succ, i64_w, i32_w]
     rfl
    refine two_ (i := 8) (j := 9) (Ni := some 9) (Nj := some 10) #[true, true, true, true, true, true, true, true, true, false, false, false, false] #[true, true, true, true, true, true, true, true, false, true, false, false, false] rfl rfl rfl rfl (by kernel_rfl) (by decide) (by decide) (fun K hK => ?_) (fun K hK => ?_)
    ·refine box_step (by rfl) (N := 9) rfl (cs := #[.slice none 0 0]) (t := 29) ?_ ?_
     ·first | (go_simp; done) | (go_simp; rfl)
     intro g_104 hg v_103 hbox hb
     have h9 : bx v_103 g_104 (.slice none 0 0) := hbox
     have l9 : w_5.heap.size ≤ g_104 := by rw [hg]; exact hS.size
     replace hq := Pw.newbox hq hg hb
     replace hr := Pw.newbox hr hg hb
     replace f_4 := f_4.below hb
     replace hB := hB.trans (hb.mono hB.size)
     replace hS := hS.trans (hb.mono hS.size)
     clear hb hbox hg
     refine hK.out _ _ hS (fun hS => ?_)
     clear hK K
     refine norm_ (a' := ?_) ?_ ?_
     rotate_left
     ·show Act.put _ (some 9) _ = _
      simp only [Act.put, List.setIfInBounds_toArray, List.set_cons_zero, List.set_cons_succ, i64_w, i32_w]
      rfl
     refine one_ (i := 9) (N := some 10) #[true, true, true, true, true, true, true, true, true, true, false, false, false] rfl rfl (by kernel_rfl) (by decide) (fun K hK => ?_)
     refine box_step (by rfl) (N := 10) rfl (cs := #[.slice none 0 0]) (t := 29) ?_ ?_
     ·first | (go_simp; done) | (go_simp; rfl)
     intro g_106 hg v_105 hbox hb
     have h10 : bx v_105 g_106 (.slice none 0 0) := hbox
     have l10 : w_5.heap.size ≤ g_106 := by rw [hg]; exact hS.size
     have u9' := h9.lt
     have nn : g_106 ≠ g_104 := by omega
     replace hq := Pw.newbox hq hg hb
     replace hr := Pw.newbox hr hg hb
     replace f_4 := f_4.below hb
     replace h9 := h9.below hb
     replace hB := hB.trans (hb.mono hB.size)
     replace hS := hS.trans (hb.mono hS.size)
     clear hb hbox hg
     refine hK.out _ _ hS (fun hS => ?_)
     clear hK K
     refine norm_ (a' := ?_) ?_ ?_
     rotate_left
     ·show Act.put _ (some 10) _ = _
      simp only [Act.put, List.setIfInBounds_toArray, List.set_cons_zero, List.set_cons_succ, i64_w, i32_w]
      rfl
     exact norm_ (by simp only [putAll, Act.put, List.setIfInBounds_toArray, List.set_cons_zero, List.set_cons_succ]) (hCont ((_, _), (g_104, g_106)) _ ⟨hS, h9, h10, (show g_104 ≠ g_106 by omega), l9, l10, Pw.mono hq (fun i hi => by (try dsimp only at hi); refine ⟨?_, ?_, ?_⟩ <;> (try dsimp only) <;> omega), Pw.mono hr (fun i hi => by (try dsimp only at hi); refine ⟨?_, ?_⟩ <;> (try dsimp only) <;> omega)⟩)
    ·refine box_step (by rfl) (N := 10) rfl (cs := #[.slice none 0 0]) (t := 29) ?_ ?_
     ·first | (go_simp; done) | (go_simp; rfl)
     intro g_108 hg v_107 hbox hb
     have h10 : bx v_107 g_108 (.slice none 0 0) := hbox
     have l10 : w_5.heap.size ≤ g_108 := by rw [hg]; exact hS.size
     replace hq := Pw.newbox hq hg hb
     replace hr := Pw.newbox hr hg hb
     replace f_4 := f_4.below hb
     replace hB := hB.trans (hb.mono hB.size)
     replace hS := hS.trans (hb.mono hS.size)
     clear hb hbox hg
     refine hK.out _ _ hS (fun hS => ?_)
     clear hK K
     refine norm_ (a' := ?_) ?_ ?_
     rotate_left
     ·show Act.put _ (some 10) _ = _
      simp only [Act.put, List.setIfInBounds_toArray, List.set_cons_zero, List.set_cons_succ, i64_w, i32_w]
      rfl
     refine one_ (i := 8) (N := some 9) #[true, true, true, true, true, true, true, true, true, true, false, false, false] rfl rfl (by kernel_rfl) (by decide) (fun K hK => ?_)
     refine box_step (by rfl) (N := 9) rfl (cs := #[.slice none 0 0]) (t := 29) ?_ ?_
     ·first | (go_simp; done) | (go_simp; rfl)
     intro g_110 hg v_109 hbox hb
     have h9 : bx v_109 g_110 (.slice none 0 0) := hbox
     have l9 : w_5.heap.size ≤ g_110 := by rw [hg]; exact hS.size
     have u10' := h10.lt
     have nn : g_110 ≠ g_108 := by omega
     replace hq := Pw.newbox hq hg hb
     replace hr := Pw.newbox hr hg hb
     replace f_4 := f_4.below hb
     replace h10 := h10.below hb
     replace hB := hB.trans (hb.mono hB.size)
     replace hS := hS.trans (hb.mono hS.size)
     clear hb hbox hg
     refine hK.out _ _ hS (fun hS => ?_)
     clear hK K
     refine norm_ (a' := ?_) ?_ ?_
     rotate_left
     ·show Act.put _ (some 9) _ = _
      simp only [Act.put, List.setIfInBounds_toArray, List.set_cons_zero, List.set_cons_succ, i64_w, i32_w]
      rfl
     exact norm_ (by simp only [putAll, Act.put, List.setIfInBounds_toArray, List.set_cons_zero, List.set_cons_succ]) (hCont ((_, _), (g_110, g_108)) _ ⟨hS, h9, h10, (show g_110 ≠ g_108 by omega), l9, l10, Pw.mono hq (fun i hi => by (try dsimp only at hi); refine ⟨?_, ?_, ?_⟩ <;> (try dsimp only) <;> omega), Pw.mono hr (fun i hi => by (try dsimp only at hi); refine ⟨?_, ?_⟩ <;> (try dsimp only) <;> omega)⟩)
   ·refine box_step (by rfl) (N := 9) rfl (cs := #[.slice none 0 0]) (t := 29) ?_ ?_
    ·first | (go_simp; done) | (go_simp; rfl)
    intro g_112 hg v_111 hbox hb
    have h9 : bx v_111 g_112 (.slice none 0 0) := hbox
    have l9 : w_5.heap.size ≤ g_112 := by rw [hg]; exact hS.size
    replace h2 := h2.below hb
    replace hnn := hnn.below hb
    replace f_4 := f_4.below hb
    replace hB := hB.trans (hb.mono hB.size)
    replace hS := hS.trans (hb.mono hS.size)
    clear hb hbox hg
    refine hK.out _ _ hS (fun hS => ?_)
    clear hK K
    refine norm_ (a' := ?_) ?_ ?_
    rotate_left
    ·show Act.put _ (some 9) _ = _
     simp only [Act.put, List.setIfInBounds_toArray, List.set_cons_zero, List.set_cons_succ, i64_w, i32_w]
     rfl
    refine two_ (i := 3) (j := 9) (Ni := some 34) (Nj := some 10) #[true, true, true, true, false, false, false, false, true, false, false, false, false] #[true, true, true, false, false, false, false, false, true, true, false, false, false] rfl rfl rfl rfl (by kernel_rfl) (by decide) (by decide) (fun K hK => ?_) (fun K hK => ?_)
    ·refine goes_ Tryd.func40 (by kernel_rfl) rfl #[.agg #[(.slice A_3 n_3 c_3)], .agg #[.slice A2 n2 c2]] (by rfl) rfl rfl (by (try simp only [List.map_toArray, List.map_cons, List.map_nil]); first | done | rfl) ?_
     have gs := hS.size
     have u9 := h9.lt
     refine (divf_c hnn h2 (by omega) hy).mono ?_
     rintro e v_113 ⟨zq, zr, rfl, hq, hr, hb⟩
     refine ⟨_, rfl, ?_⟩
     replace f_4 := f_4.below hb
     replace h9 := h9.below hb
     replace hB := hB.trans (hb.mono hB.size)
     replace hS := hS.trans (hb.mono hS.size)
     clear hb h2 hnn
     refine hK.out _ _ hS (fun hS => ?_)
     clear hK K
     refine norm_ (a' := ?_) ?_ ?_
     rotate_left
     ·show Act.put _ (some 34) _ = _
      simp only [Act.put, List.setIfInBounds_toArray, List.set_cons_zero, List.set_cons_succ, i64_w, i32_w]
      rfl
     refine pure_ (i := 4) (N := some 30) (v := ?_) (a' := ?_) #[true, true, true, true, true, false, false, false, true, false, false, false, false] rfl rfl (by kernel_rfl) (fun _ _ _ h => h) (Or.inl ⟨by rfl, ?_⟩) ?_ ?_
     rotate_left
     ·intro w'
      go_simp
      with_reducible rfl
     rotate_left
     ·simp only [Act.put, List.setIfInBounds_toArray, List.set_cons_zero, List.set_cons_succ, i64_w, i32_w]
      rfl
     refine pure_ (i := 5) (N := some 35) (v := ?_) (a' := ?_) #[true, true, true, true, true, true, false, false, true, false, false, false, false] rfl rfl (by kernel_rfl) (fun _ _ _ h => h) (Or.inl ⟨by rfl, ?_⟩) ?_ ?_
     rotate_left
     ·intro w'
      go_simp
      with_reducible rfl
     rotate_left
     ·simp only [Act.put, List.setIfInBounds_toArray, List.set_cons_zero, List.set_cons_succ, i64_w, i32_w]
      rfl
     refine pure_ (i := 6) (N := some 36) (v := ?_) (a' := ?_) #[true, true, true, true, true, true, true, false, true, false, false, false, false] rfl rfl (by kernel_rfl) (fun _ _ _ h => h) (Or.inl ⟨by rfl, ?_⟩) ?_ ?_
     rotate_left
     ·intro w'
      go_simp
      with_reducible rfl
     rotate_left
     ·simp only [Act.put, List.setIfInBounds_toArray, List.set_cons_zero, List.set_cons_succ, i64_w, i32_w]
      rfl
     refine pure_ (i := 7) (N := some 37) (v := ?_) (a' := ?_) #[true, true, true, true, true, true, true, true, true, false, false, false, false] rfl rfl (by kernel_rfl) (fun _ _ _ h => h) (Or.inl ⟨by rfl, ?_⟩) ?_ ?_
     rotate_left
     ·intro w'
      go_simp
      with_reducible rfl
     rotate_left
     ·simp only [Act.put, List.setIfInBounds_toArray, List.set_cons_zero, List.set_cons_succ, i64_w, i32_w]
      rfl
     refine one_ (i := 9) (N := some 10) #[true, true, true, true, true, true, true, true, true, true, false, false, false] rfl rfl (by kernel_rfl) (by decide) (fun K hK => ?_)
     refine box_step (by rfl) (N := 10) rfl (cs := #[.slice none 0 0]) (t := 29) ?_ ?_
     ·first | (go_simp; done) | (go_simp; rfl)
     intro g_115 hg v_114 hbox hb
     have h10 : bx v_114 g_115 (.slice none 0 0) := hbox
     have l10 : w_5.heap.size ≤ g_115 := by rw [hg]; exact hS.size
     have u9' := h9.lt
     have nn : g_115 ≠ g_112 := by omega
     replace hq := Pw.newbox hq hg hb
     replace hr := Pw.newbox hr hg hb
     replace f_4 := f_4.below hb
     replace h9 := h9.below hb
     replace hB := hB.trans (hb.mono hB.size)
     replace hS := hS.trans (hb.mono hS.size)
     clear hb hbox hg
     refine hK.out _ _ hS (fun hS => ?_)
     clear hK K
     refine norm_ (a' := ?_) ?_ ?_
     rotate_left
     ·show Act.put _ (some 10) _ = _
      simp only [Act.put, List.setIfInBounds_toArray, List.set_cons_zero, List.set_cons_succ, i64_w, i32_w]
      rfl
     exact norm_ (by simp only [putAll, Act.put, List.setIfInBounds_toArray, List.set_cons_zero, List.set_cons_succ]) (hCont ((_, _), (g_112, g_115)) _ ⟨hS, h9, h10, (show g_112 ≠ g_115 by omega), l9, l10, Pw.mono hq (fun i hi => by (try dsimp only at hi); refine ⟨?_, ?_, ?_⟩ <;> (try dsimp only) <;> omega), Pw.mono hr (fun i hi => by (try dsimp only at hi); refine ⟨?_, ?_⟩ <;> (try dsimp only) <;> omega)⟩)
    ·refine box_step (by rfl) (N := 10) rfl (cs := #[.slice none 0 0]) (t := 29) ?_ ?_
     ·first | (go_simp; done) | (go_simp; rfl)
     intro g_117 hg v_116 hbox hb
     have h10 : bx v_116 g_117 (.slice none 0 0) := hbox
     have l10 : w_5.heap.size ≤ g_117 := by rw [hg]; exact hS.size
     have u9' := h9.lt
     have nn : g_117 ≠ g_112 := by omega
     replace h2 := h2.below hb
     replace hnn := hnn.below hb
     replace f_4 := f_4.below hb
     replace h9 := h9.below hb
     replace hB := hB.trans (hb.mono hB.size)
     replace hS := hS.trans (hb.mono hS.size)
     clear hb hbox hg
     refine hK.out _ _ hS (fun hS => ?_)
     clear hK K
     refine norm_ (a' := ?_) ?_ ?_
     rotate_left
     ·show Act.put _ (some 10) _ = _
      simp only [Act.put, List.setIfInBounds_toArray, List.set_cons_zero, List.set_cons_succ, i64_w, i32_w]
      rfl
     refine one_ (i := 3) (N := some 34) #[true, true, true, true, false, false, false, false, true, true, false, false, false] rfl rfl (by kernel_rfl) (by decide) (fun K hK => ?_)
     refine goes_ Tryd.func40 (by kernel_rfl) rfl #[.agg #[(.slice A_3 n_3 c_3)], .agg #[.slice A2 n2 c2]] (by rfl) rfl rfl (by (try simp only [List.map_toArray, List.map_cons, List.map_nil]); first | done | rfl) ?_
     have gs := hS.size
     have u9 := h9.lt
     have u10 := h10.lt
     refine (divf_c hnn h2 (by omega) hy).mono ?_
     rintro e v_118 ⟨zq, zr, rfl, hq, hr, hb⟩
     refine ⟨_, rfl, ?_⟩
     replace f_4 := f_4.below hb
     replace h9 := h9.below hb
     replace h10 := h10.below hb
     replace hB := hB.trans (hb.mono hB.size)
     replace hS := hS.trans (hb.mono hS.size)
     clear hb h2 hnn
     refine hK.out _ _ hS (fun hS => ?_)
     clear hK K
     refine norm_ (a' := ?_) ?_ ?_
     rotate_left
     ·show Act.put _ (some 34) _ = _
      simp only [Act.put, List.setIfInBounds_toArray, List.set_cons_zero, List.set_cons_succ, i64_w, i32_w]
      rfl
     refine pure_ (i := 4) (N := some 30) (v := ?_) (a' := ?_) #[true, true, true, true, true, false, false, false, true, true, false, false, false] rfl rfl (by kernel_rfl) (fun _ _ _ h => h) (Or.inl ⟨by rfl, ?_⟩) ?_ ?_
     rotate_left
     ·intro w'
      go_simp
      with_reducible rfl
     rotate_left
     ·simp only [Act.put, List.setIfInBounds_toArray, List.set_cons_zero, List.set_cons_succ, i64_w, i32_w]
      rfl
     refine pure_ (i := 5) (N := some 35) (v := ?_) (a' := ?_) #[true, true, true, true, true, true, false, false, true, true, false, false, false] rfl rfl (by kernel_rfl) (fun _ _ _ h => h) (Or.inl ⟨by rfl, ?_⟩) ?_ ?_
     rotate_left
     ·intro w'
      go_simp
      with_reducible rfl
     rotate_left
     ·simp only [Act.put, List.setIfInBounds_toArray, List.set_cons_zero, List.set_cons_succ, i64_w, i32_w]
      rfl
     refine pure_ (i := 6) (N := some 36) (v := ?_) (a' := ?_) #[true, true, true, true, true, true, true, false, true, true, false, false, false] rfl rfl (by kernel_rfl) (fun _ _ _ h => h) (Or.inl ⟨by rfl, ?_⟩) ?_ ?_
     rotate_left
     ·intro w'
      go_simp
      with_reducible rfl
     rotate_left
     ·simp only [Act.put, List.setIfInBounds_toArray, List.set_cons_zero, List.set_cons_succ, i64_w, i32_w]
      rfl
     refine pure_ (i := 7) (N := some 37) (v := ?_) (a' := ?_) #[true, true, true, true, true, true, true, true, true, true, false, false, false] rfl rfl (by kernel_rfl) (fun _ _ _ h => h) (Or.inl ⟨by rfl, ?_⟩) ?_ ?_
     rotate_left
     ·intro w'
      go_simp
      with_reducible rfl
     rotate_left
     ·simp only [Act.put, List.setIfInBounds_toArray, List.set_cons_zero, List.set_cons_succ, i64_w, i32_w]
      rfl
     exact norm_ (by simp only [putAll, Act.put, List.setIfInBounds_toArray, List.set_cons_zero, List.set_cons_succ]) (hCont ((_, _), (g_112, g_117)) _ ⟨hS, h9, h10, (show g_112 ≠ g_117 by omega), l9, l10, Pw.mono hq (fun i hi => by (try dsimp only at hi); refine ⟨?_, ?_, ?_⟩ <;> (try dsimp only) <;> omega), Pw.mono hr (fun i hi => by (try dsimp only at hi); refine ⟨?_, ?_⟩ <;> (try dsimp only) <;> omega)⟩)
   ·refine box_step (by rfl) (N := 10) rfl (cs := #[.slice none 0 0]) (t := 29) ?_ ?_
    ·first | (go_simp; done) | (go_simp; rfl)
    intro g_120 hg v_119 hbox hb
    have h10 : bx v_119 g_120 (.slice none 0 0) := hbox
    have l10 : w_5.heap.size ≤ g_120 := by rw [hg]; exact hS.size
    replace h2 := h2.below hb
    replace hnn := hnn.below hb
    replace f_4 := f_4.below hb
    replace hB := hB.trans (hb.mono hB.size)
    replace hS := hS.trans (hb.mono hS.size)
    clear hb hbox hg
    refine hK.out _ _ hS (fun hS => ?_)
    clear hK K
    refine norm_ (a' := ?_) ?_ ?_
    rotate_left
    ·show Act.put _ (some 10) _ = _
     simp only [Act.put, List.setIfInBounds_toArray, List.set_cons_zero, List.set_cons_succ, i64_w, i32_w]
     rfl
    refine two_ (i := 3) (j := 8) (Ni := some 34) (Nj := some 9) #[true, true, true, true, false, false, false, false, false, true, false, false, false] #[true, true, true, false, false, false, false, false, true, true, false, false, false] rfl rfl rfl rfl (by kernel_rfl) (by decide) (by decide) (fun K hK => ?_) (fun K hK => ?_)
    ·refine goes_ Tryd.func40 (by kernel_rfl) rfl #[.agg #[(.slice A_3 n_3 c_3)], .agg #[.slice A2 n2 c2]] (by rfl) rfl rfl (by (try simp only [List.map_toArray, List.map_cons, List.map_nil]); first | done | rfl) ?_
     have gs := hS.size
     have u10 := h10.lt
     refine (divf_c hnn h2 (by omega) hy).mono ?_
     rintro e v_121 ⟨zq, zr, rfl, hq, hr, hb⟩
     refine ⟨_, rfl, ?_⟩
     replace f_4 := f_4.below hb
     replace h10 := h10.below hb
     replace hB := hB.trans (hb.mono hB.size)
     replace hS := hS.trans (hb.mono hS.size)
     clear hb h2 hnn
     refine hK.out _ _ hS (fun hS => ?_)
     clear hK K
     refine norm_ (a' := ?_) ?_ ?_
     rotate_left
     ·show Act.put _ (some 34) _ = _
      simp only [Act.put, List.setIfInBounds_toArray, List.set_cons_zero, List.set_cons_succ, i64_w, i32_w]
      rfl
     refine pure_ (i := 4) (N := some 30) (v := ?_) (a' := ?_) #[true, true, true, true, true, false, false, false, false, true, false, false, false] rfl rfl (by kernel_rfl) (fun _ _ _ h => h) (Or.inl ⟨by rfl, ?_⟩) ?_ ?_
     rotate_left
     ·intro w'
      go_simp
      with_reducible rfl
     rotate_left
     ·simp only [Act.put, List.setIfInBounds_toArray, List.set_cons_zero, List.set_cons_succ, i64_w, i32_w]
      rfl
     refine pure_ (i := 5) (N := some 35) (v := ?_) (a' := ?_) #[true, true, true, true, true, true, false, false, false, true, false, false, false] rfl rfl (by kernel_rfl) (fun _ _ _ h => h) (Or.inl ⟨by rfl, ?_⟩) ?_ ?_
     rotate_left
     ·intro w'
      go_simp
      with_reducible rfl
     rotate_left
     ·simp only [Act.put, List.setIfInBounds_toArray, List.set_cons_zero, List.set_cons_succ, i64_w, i32_w]
      rfl
     refine pure_ (i := 6) (N := some 36) (v := ?_) (a' := ?_) #[true, true, true, true, true, true, true, false, false, true, false, false, false] rfl rfl (by kernel_rfl) (fun _ _ _ h => h) (Or.inl ⟨by rfl, ?_⟩) ?_ ?_
     rotate_left
     ·intro w'
      go_simp
      with_reducible rfl
     rotate_left
     ·simp only [Act.put, List.setIfInBounds_toArray, List.set_cons_zero, List.set_cons_succ, i64_w, i32_w]
      rfl
     refine pure_ (i := 7) (N := some 37) (v := ?_) (a' := ?_) #[true, true, true, true, true, true, true, true, false, true, false, false, false] rfl rfl (by kernel_rfl) (fun _ _ _ h => h) (Or.inl ⟨by rfl, ?_⟩) ?_ ?_
     rotate_left
     ·intro w'
      go_simp
      with_reducible rfl
     rotate_left
     ·simp only [Act.put, List.setIfInBounds_toArray, List.set_cons_zero, List.set_cons_succ, i64_w, i32_w]
      rfl
     refine one_ (i := 8) (N := some 9) #[true, true, true, true, true, true, true, true, true, true, false, false, false] rfl rfl (by kernel_rfl) (by decide) (fun K hK => ?_)
     refine box_step (by rfl) (N := 9) rfl (cs := #[.slice none 0 0]) (t := 29) ?_ ?_
     ·first | (go_simp; done) | (go_simp; rfl)
     intro g_123 hg v_122 hbox hb
     have h9 : bx v_122 g_123 (.slice none 0 0) := hbox
     have l9 : w_5.heap.size ≤ g_123 := by rw [hg]; exact hS.size
     have u10' := h10.lt
     have nn : g_123 ≠ g_120 := by omega
     replace hq := Pw.newbox hq hg hb
     replace hr := Pw.newbox hr hg hb
     replace f_4 := f_4.below hb
     replace h10 := h10.below hb
     replace hB := hB.trans (hb.mono hB.size)
     replace hS := hS.trans (hb.mono hS.size)
     clear hb hbox hg
     refine hK.out _ _ hS (fun hS => ?_)
     clear hK K
     refine norm_ (a' := ?_) ?_ ?_
     rotate_left
     ·show Act.put _ (some 9) _ = _
      simp only [Act.put, List.setIfInBounds_toArray, List.set_cons_zero, List.set_cons_succ, i64_w, i32_w]
      rfl
     exact norm_ (by simp only [putAll, Act.put, List.setIfInBounds_toArray, List.set_cons_zero, List.set_cons_succ]) (hCont ((_, _), (g_123, g_120)) _ ⟨hS, h9, h10, (show g_123 ≠ g_120 by omega), l9, l10, Pw.mono hq (fun i hi => by (try dsimp only at hi); refine ⟨?_, ?_, ?_⟩ <;> (try dsimp only) <;> omega), Pw.mono hr (fun i hi => by (try dsimp only at hi); refine ⟨?_, ?_⟩ <;> (try dsimp only) <;> omega)⟩)
    ·refine box_step (by rfl) (N := 9) rfl (cs := #[.slice none 0 0]) (t := 29) ?_ ?_
     ·first | (go_simp; done) | (go_simp; rfl)
     intro g_125 hg v_124 hbox hb
     have h9 : bx v_124 g_125 (.slice none 0 0) := hbox
     have l9 : w_5.heap.size ≤ g_125 := by rw [hg]; exact hS.size
     have u10' := h10.lt
     have nn : g_125 ≠ g_120 := by omega
     replace h2 := h2.below hb
     replace hnn := hnn.below hb
     replace f_4 := f_4.below hb
     replace h10 := h10.below hb
     replace hB := hB.trans (hb.mono hB.size)
     replace hS := hS.trans (hb.mono hS.size)
     clear hb hbox hg
     refine hK.out _ _ hS (fun hS => ?_)
     clear hK K
     refine norm_ (a' := ?_) ?_ ?_
     rotate_left
     ·show Act.put _ (some 9) _ = _
      simp only [Act.put, List.setIfInBounds_toArray, List.set_cons_zero, List.set_cons_succ, i64_w, i32_w]
      rfl
     refine one_ (i := 3) (N := some 34) #[true, true, true, true, false, false, false, false, true, true, false, false, false] rfl rfl (by kernel_rfl) (by decide) (fun K hK => ?_)
     refine goes_ Tryd.func40 (by kernel_rfl) rfl #[.agg #[(.slice A_3 n_3 c_3)], .agg #[.slice A2 n2 c2]] (by rfl) rfl rfl (by (try simp only [List.map_toArray, List.map_cons, List.map_nil]); first | done | rfl) ?_
     have gs := hS.size
     have u9 := h9.lt
     have u10 := h10.lt
     refine (divf_c hnn h2 (by omega) hy).mono ?_
     rintro e v_126 ⟨zq, zr, rfl, hq, hr, hb⟩
     refine ⟨_, rfl, ?_⟩
     replace f_4 := f_4.below hb
     replace h9 := h9.below hb
     replace h10 := h10.below hb
     replace hB := hB.trans (hb.mono hB.size)
     replace hS := hS.trans (hb.mono hS.size)
     clear hb h2 hnn
     refine hK.out _ _ hS (fun hS => ?_)
     clear hK K
     refine norm_ (a' := ?_) ?_ ?_
     rotate_left
     ·show Act.put _ (some 34) _ = _
      simp only [Act.put, List.setIfInBounds_toArray, List.set_cons_zero, List.set_cons_succ, i64_w, i32_w]
      rfl
     refine pure_ (i := 4) (N := some 30) (v := ?_) (a' := ?_) #[true, true, true, true, true, false, false, false, true, true, false, false, false] rfl rfl (by kernel_rfl) (fun _ _ _ h => h) (Or.inl ⟨by rfl, ?_⟩) ?_ ?_
     rotate_left
     ·intro w'
      go_simp
      with_reducible rfl
     rotate_left
     ·simp only [Act.put, List.setIfInBounds_toArray, List.set_cons_zero, List.set_cons_succ, i64_w, i32_w]
      rfl
     refine pure_ (i := 5) (N := some 35) (v := ?_) (a' := ?_) #[true, true, true, true, true, true, false, false, true, true, false, false, false] rfl rfl (by kernel_rfl) (fun _ _ _ h => h) (Or.inl ⟨by rfl, ?_⟩) ?_ ?_
     rotate_left
     ·intro w'
      go_simp
      with_reducible rfl
     rotate_left
     ·simp only [Act.put, List.setIfInBounds_toArray, List.set_cons_zero, List.set_cons_succ, i64_w, i32_w]
      rfl
     refine pure_ (i := 6) (N := some 36) (v := ?_) (a' := ?_) #[true, true, true, true, true, true, true, false, true, true, false, false, false] rfl rfl (by kernel_rfl) (fun _ _ _ h => h) (Or.inl ⟨by rfl, ?_⟩) ?_ ?_
     rotate_left
     ·intro w'
      go_simp
      with_reducible rfl
     rotate_left
     ·simp only [Act.put, List.setIfInBounds_toArray, List.set_cons_zero, List.set_cons_succ, i64_w, i32_w]
      rfl
     refine pure_ (i := 7) (N := some 37) (v := ?_) (a' := ?_) #[true, true, true, true, true, true, true, true, true, true, false, false, false] rfl rfl (by kernel_rfl) (fun _ _ _ h => h) (Or.inl ⟨by rfl, ?_⟩) ?_ ?_
     rotate_left
     ·intro w'
      go_simp
      with_reducible rfl
     rotate_left
     ·simp only [Act.put, List.setIfInBounds_toArray, List.set_cons_zero, List.set_cons_succ, i64_w, i32_w]
      rfl
     exact norm_ (by simp only [putAll, Act.put, List.setIfInBounds_toArray, List.set_cons_zero, List.set_cons_succ]) (hCont ((_, _), (g_125, g_120)) _ ⟨hS, h9, h10, (show g_125 ≠ g_120 by omega), l9, l10, Pw.mono hq (fun i hi => by (try dsimp only at hi); refine ⟨?_, ?_, ?_⟩ <;> (try dsimp only) <;> omega), Pw.mono hr (fun i hi => by (try dsimp only at hi); refine ⟨?_, ?_⟩ <;> (try dsimp only) <;> omega)⟩)
  ·refine box_step (by rfl) (N := 9) rfl (cs := #[.slice none 0 0]) (t := 29) ?_ ?_
   ·first | (go_simp; done) | (go_simp; rfl)
   intro g_128 hg v_127 hbox hb
   have h9 : bx v_127 g_128 (.slice none 0 0) := hbox
   have l9 : w_5.heap.size ≤ g_128 := by rw [hg]; exact hS.size
   replace h2 := h2.below hb
   replace hnn := hnn.below hb
   replace f_4 := f_4.below hb
   replace hB := hB.trans (hb.mono hB.size)
   replace hS := hS.trans (hb.mono hS.size)
   clear hb hbox hg
   refine hK.out _ _ hS (fun hS => ?_)
   clear hK K
   refine norm_ (a' := ?_) ?_ ?_
   rotate_left
   ·show Act.put _ (some 9) _ = _
    simp only [Act.put, List.setIfInBounds_toArray, List.set_cons_zero, List.set_cons_succ, i64_w, i32_w]
    rfl
   refine two_ (i := 2) (j := 9) (Ni := some 33) (Nj := some 10) #[true, true, true, false, false, false, false, false, true, false, false, false, false] #[true, true, false, false, false, false, false, false, true, true, false, false, false] rfl rfl rfl rfl (by kernel_rfl) (by decide) (by decide) (fun K hK => ?_) (fun K hK => ?_)
   ·refine goes_ Tryd.func89 (by kernel_rfl) rfl #[.agg #[.slice A1 n1 c1, .slice A2 n2 c2, .bool true]] (by rfl) rfl rfl (by (try simp only [List.map_toArray, List.map_cons, List.map_nil]); first | done | rfl) ?_
    refine (qden_c).mono ?_
    rintro e v_129 ⟨rfl, hb⟩
    refine ⟨_, rfl, ?_⟩
    replace h2 := h2.below hb
    replace hnn := hnn.below hb
    replace f_4 := f_4.below hb
    replace h9 := h9.below hb
    replace hB := hB.trans (hb.mono hB.size)
    replace hS := hS.trans (hb.mono hS.size)
    clear hb
    refine hK.out _ _ hS (fun hS => ?_)
    clear hK K
    refine norm_ (a' := ?_) ?_ ?_
    rotate_left
    ·show Act.put _ (some 33) _ = _
     simp only [Act.put, List.setIfInBounds_toArray, List.set_cons_zero, List.set_cons_succ, i64_w, i32_w]
     rfl
    refine two_ (i := 3) (j := 9) (Ni := some 34) (Nj := some 10) #[true, true, true, true, false, false, false, false, true, false, false, false, false] #[true, true, true, false, false, false, false, false, true, true, false, false, false] rfl rfl rfl rfl (by kernel_rfl) (by decide) (by decide) (fun K hK => ?_) (fun K hK => ?_)
    ·refine goes_ Tryd.func40 (by kernel_rfl) rfl #[.agg #[(.slice A_3 n_3 c_3)], .agg #[.slice A2 n2 c2]] (by rfl) rfl rfl (by (try simp only [List.map_toArray, List.map_cons, List.map_nil]); first | done | rfl) ?_
     have gs := hS.size
     have u9 := h9.lt
     refine (divf_c hnn h2 (by omega) hy).mono ?_
     rintro e v_130 ⟨zq, zr, rfl, hq, hr, hb⟩
     refine ⟨_, rfl, ?_⟩
     replace f_4 := f_4.below hb
     replace h9 := h9.below hb
     replace hB := hB.trans (hb.mono hB.size)
     replace hS := hS.trans (hb.mono hS.size)
     clear hb h2 hnn
     refine hK.out _ _ hS (fun hS => ?_)
     clear hK K
     refine norm_ (a' := ?_) ?_ ?_
     rotate_left
     ·show Act.put _ (some 34) _ = _
      simp only [Act.put, List.setIfInBounds_toArray, List.set_cons_zero, List.set_cons_succ, i64_w, i32_w]
      rfl
     refine pure_ (i := 4) (N := some 30) (v := ?_) (a' := ?_) #[true, true, true, true, true, false, false, false, true, false, false, false, false] rfl rfl (by kernel_rfl) (fun _ _ _ h => h) (Or.inl ⟨by rfl, ?_⟩) ?_ ?_
     rotate_left
     ·intro w'
      go_simp
      with_reducible rfl
     rotate_left
     ·simp only [Act.put, List.setIfInBounds_toArray, List.set_cons_zero, List.set_cons_succ, i64_w, i32_w]
      rfl
     refine pure_ (i := 5) (N := some 35) (v := ?_) (a' := ?_) #[true, true, true, true, true, true, false, false, true, false, false, false, false] rfl rfl (by kernel_rfl) (fun _ _ _ h => h) (Or.inl ⟨by rfl, ?_⟩) ?_ ?_
     rotate_left
     ·intro w'
      go_simp
      with_reducible rfl
     rotate_left
     ·simp only [Act.put, List.setIfInBounds_toArray, List.set_cons_zero, List.set_cons_succ, i64_w, i32_w]
      rfl
     refine pure_ (i := 6) (N := some 36) (v := ?_) (a' := ?_) #[true, true, true, true, true, true, true, false, true, false, false, false, false] rfl rfl (by kernel_rfl) (fun _ _ _ h => h) (Or.inl ⟨by rfl, ?_⟩) ?_ ?_
     rotate_left
     ·intro w'
      go_simp
      with_reducible rfl
     rotate_left
     ·simp only [Act.put, List.setIfInBounds_toArray, List.set_cons_zero, List.set_cons_succ, i64_w, i32_w]
      rfl
     refine pure_ (i := 7) (N := some 37) (v := ?_) (a' := ?_) #[true, true, true, true, true, true, true, true, true, false, false, false, false] rfl rfl (by kernel_rfl) (fun _ _ _ h => h) (Or.inl ⟨by rfl, ?_⟩) ?_ ?_
     rotate_left
     ·intro w'
      go_simp
      with_reducible rfl
     rotate_left
     ·simp only [Act.put, List.setIfInBounds_toArray, List.set_cons_zero, List.set_cons_succ, i64_w, i32_w]
      rfl
     refine one_ (i := 9) (N := some 10) #[true, true, true, true, true, true, true, true, true, true, false, false, false] rfl rfl (by kernel_rfl) (by decide) (fun K hK => ?_)
     refine box_step (by rfl) (N := 10) rfl (cs := #[.slice none 0 0]) (t := 29) ?_ ?_
     ·first | (go_simp; done) | (go_simp; rfl)
     intro g_132 hg v_131 hbox hb
     have h10 : bx v_131 g_132 (.slice none 0 0) := hbox
     have l10 : w_5.heap.size ≤ g_132 := by rw [hg]; exact hS.size
     have u9' := h9.lt
     have nn : g_132 ≠ g_128 := by omega
     replace hq := Pw.newbox hq hg hb
     replace hr := Pw.newbox hr hg hb
     replace f_4 := f_4.below hb
     replace h9 := h9.below hb
     replace hB := hB.trans (hb.mono hB.size)
     replace hS := hS.trans (hb.mono hS.size)
     clear hb hbox hg
     refine hK.out _ _ hS (fun hS => ?_)
     clear hK K
     refine norm_ (a' := ?_) ?_ ?_
     rotate_left
     ·show Act.put _ (some 10) _ = _
      simp only [Act.put, List.setIfInBounds_toArray, List.set_cons_zero, List.set_cons_succ, i64_w, i32_w]
      rfl
     exact norm_ (by simp only [putAll, Act.put, List.setIfInBounds_toArray, List.set_cons_zero, List.set_cons_succ]) (hCont ((_, _), (g_128, g_132)) _ ⟨hS, h9, h10, (show g_128 ≠ g_132 by omega), l9, l10, Pw.mono hq (fun i hi => by (try dsimp only at hi); refine ⟨?_, ?_, ?_⟩ <;> (try dsimp only) <;> omega), Pw.mono hr (fun i hi => by (try dsimp only at hi); refine ⟨?_, ?_⟩ <;> (try dsimp only) <;> omega)⟩)
    ·refine box_step (by rfl) (N := 10) rfl (cs := #[.slice none 0 0]) (t := 29) ?_ ?_
     ·first | (go_simp; done) | (go_simp; rfl)
     intro g_134 hg v_133 hbox hb
     have h10 : bx v_133 g_134 (.slice none 0 0) := hbox
     have l10 : w_5.heap.size ≤ g_134 := by rw [hg]; exact hS.size
     have u9' := h9.lt
     have nn : g_134 ≠ g_128 := by omega
     replace h2 := h2.below hb
     replace hnn := hnn.below hb
     replace f_4 := f_4.below hb
     replace h9 := h9.below hb
     replace hB := hB.trans (hb.mono hB.size)
     replace hS := hS.trans (hb.mono hS.size)
     clear hb hbox hg
     refine hK.out _ _ hS (fun hS => ?_)
     clear hK K
     refine norm_ (a' := ?_) ?_ ?_
     rotate_left
     ·show Act.put _ (some 10) _ = _
      simp only [Act.put, List.setIfInBounds_toArray, List.set_cons_zero, List.set_cons_succ, i64_w, i32_w]
      rfl
     refine one_ (i := 3) (N := some 34) #[true, true, true, true, false, false, false, false, true, true, false, false, false] rfl rfl (by kernel_rfl) (by decide) (fun K hK => ?_)
     refine goes_ Tryd.func40 (by kernel_rfl) rfl #[.agg #[(.slice A_3 n_3 c_3)], .agg #[.slice A2 n2 c2]] (by rfl) rfl rfl (by (try simp only [List.map_toArray, List.map_cons, List.map_nil]); first | done | rfl) ?_
     have gs := hS.size
     have u9 := h9.lt
     have u10 := h10.lt
     refine (divf_c hnn h2 (by omega) hy).mono ?_
     rintro e v_135 ⟨zq, zr, rfl, hq, hr, hb⟩
     refine ⟨_, rfl, ?_⟩
     replace f_4 := f_4.below hb
     replace h9 := h9.below hb
     replace h10 := h10.below hb
     replace hB := hB.trans (hb.mono hB.size)
     replace hS := hS.trans (hb.mono hS.size)
     clear hb h2 hnn
     refine hK.out _ _ hS (fun hS => ?_)
     clear hK K
     refine norm_ (a' := ?_) ?_ ?_
     rotate_left
     ·show Act.put _ (some 34) _ = _
      simp only [Act.put, List.setIfInBounds_toArray, List.set_cons_zero, List.set_cons_succ, i64_w, i32_w]
      rfl
     refine pure_ (i := 4) (N := some 30) (v := ?_) (a' := ?_) #[true, true, true, true, true, false, false, false, true, true, false, false, false] rfl rfl (by kernel_rfl) (fun _ _ _ h => h) (Or.inl ⟨by rfl, ?_⟩) ?_ ?_
     rotate_left
     ·intro w'
      go_simp
      with_reducible rfl
     rotate_left
     ·simp only [Act.put, List.setIfInBounds_toArray, List.set_cons_zero, List.set_cons_succ, i64_w, i32_w]
      rfl
     refine pure_ (i := 5) (N := some 35) (v := ?_) (a' := ?_) #[true, true, true, true, true, true, false, false, true, true, false, false, false] rfl rfl (by kernel_rfl) (fun _ _ _ h => h) (Or.inl ⟨by rfl, ?_⟩) ?_ ?_
     rotate_left
     ·intro w'
      go_simp
      with_reducible rfl
     rotate_left
     ·simp only [Act.put, List.setIfInBounds_toArray, List.set_cons_zero, List.set_cons_succ, i64_w, i32_w]
      rfl
     refine pure_ (i := 6) (N := some 36) (v := ?_) (a' := ?_) #[true, true, true, true, true, true, true, false, true, true, false, false, false] rfl rfl (by kernel_rfl) (fun _ _ _ h => h) (Or.inl ⟨by rfl, ?_⟩) ?_ ?_
     rotate_left
     ·intro w'
      go_simp
      with_reducible rfl
     rotate_left
     ·simp only [Act.put, List.setIfInBounds_toArray, List.set_cons_zero, List.set_cons_succ, i64_w, i32_w]
      rfl
     refine pure_ (i := 7) (N := some 37) (v := ?_) (a' := ?_) #[true, true, true, true, true, true, true, true, true, true, false, false, false] rfl rfl (by kernel_rfl) (fun _ _ _ h => h) (Or.inl ⟨by rfl, ?_⟩) ?_ ?_
     rotate_left
     ·intro w'
      go_simp
      with_reducible rfl
     rotate_left
     ·simp only [Act.put, List.setIfInBounds_toArray, List.set_cons_zero, List.set_cons_succ, i64_w, i32_w]
      rfl
     exact norm_ (by simp only [putAll, Act.put, List.setIfInBounds_toArray, List.set_cons_zero, List.set_cons_succ]) (hCont ((_, _), (g_128, g_134)) _ ⟨hS, h9, h10, (show g_128 ≠ g_134 by omega), l9, l10, Pw.mono hq (fun i hi => by (try dsimp only at hi); refine ⟨?_, ?_, ?_⟩ <;> (try dsimp only) <;> omega), Pw.mono hr (fun i hi => by (try dsimp only at hi); refine ⟨?_, ?_⟩ <;> (try dsimp only) <;> omega)⟩)
   ·refine box_step (by rfl) (N := 10) rfl (cs := #[.slice none 0 0]) (t := 29) ?_ ?_
    ·first | (go_simp; done) | (go_simp; rfl)
    intro g_137 hg v_136 hbox hb
    have h10 : bx v_136 g_137 (.slice none 0 0) := hbox
    have l10 : w_5.heap.size ≤ g_137 := by rw [hg]; exact hS.size
    have u9' := h9.lt
    have nn : g_137 ≠ g_128 := by omega
    replace h2 := h2.below hb
    replace hnn := hnn.below hb
    replace f_4 := f_4.below hb
    replace h9 := h9.below hb
    replace hB := hB.trans (hb.mono hB.size)
    replace hS := hS.trans (hb.mono hS.size)
    clear hb hbox hg
    refine hK.out _ _ hS (fun hS => ?_)
    clear hK K
    refine norm_ (a' := ?_) ?_ ?_
    rotate_left
    ·show Act.put _ (some 10) _ = _
     simp only [Act.put, List.setIfInBounds_toArray, List.set_cons_zero, List.set_cons_succ, i64_w, i32_w]
     rfl
    refine one_ (i := 2) (N := some 33) #[true, true, true, false, false, false, false, false, true, true, false, false, false] rfl rfl (by kernel_rfl) (by decide) (fun K hK => ?_)
    refine goes_ Tryd.func89 (by kernel_rfl) rfl #[.agg #[.slice A1 n1 c1, .slice A2 n2 c2, .bool true]] (by rfl) rfl rfl (by (try simp only [List.map_toArray, List.map_cons, List.map_nil]); first | done | rfl) ?_
    refine (qden_c).mono ?_
    rintro e v_138 ⟨rfl, hb⟩
    refine ⟨_, rfl, ?_⟩
    replace h2 := h2.below hb
    replace hnn := hnn.below hb
    replace f_4 := f_4.below hb
    replace h9 := h9.below hb
    replace h10 := h10.below hb
    replace hB := hB.trans (hb.mono hB.size)
    replace hS := hS.trans (hb.mono hS.size)
    clear hb
    refine hK.out _ _ hS (fun hS => ?_)
    clear hK K
    refine norm_ (a' := ?_) ?_ ?_
    rotate_left
    ·show Act.put _ (some 33) _ = _
     simp only [Act.put, List.setIfInBounds_toArray, List.set_cons_zero, List.set_cons_succ, i64_w, i32_w]
     rfl
    refine one_ (i := 3) (N := some 34) #[true, true, true, true, false, false, false, false, true, true, false, false, false] rfl rfl (by kernel_rfl) (by decide) (fun K hK => ?_)
    refine goes_ Tryd.func40 (by kernel_rfl) rfl #[.agg #[(.slice A_3 n_3 c_3)], .agg #[.slice A2 n2 c2]] (by rfl) rfl rfl (by (try simp only [List.map_toArray, List.map_cons, List.map_nil]); first | done | rfl) ?_
    have gs := hS.size
    have u9 := h9.lt
    have u10 := h10.lt
    refine (divf_c hnn h2 (by omega) hy).mono ?_
    rintro e v_139 ⟨zq, zr, rfl, hq, hr, hb⟩
    refine ⟨_, rfl, ?_⟩
    replace f_4 := f_4.below hb
    replace h9 := h9.below hb
    replace h10 := h10.below hb
    replace hB := hB.trans (hb.mono hB.size)
    replace hS := hS.trans (hb.mono hS.size)
    clear hb h2 hnn
    refine hK.out _ _ hS (fun hS => ?_)
    clear hK K
    refine norm_ (a' := ?_) ?_ ?_
    rotate_left
    ·show Act.put _ (some 34) _ = _
     simp only [Act.put, List.setIfInBounds_toArray, List.set_cons_zero, List.set_cons_succ, i64_w, i32_w]
     rfl
    refine pure_ (i := 4) (N := some 30) (v := ?_) (a' := ?_) #[true, true, true, true, true, false, false, false, true, true, false, false, false] rfl rfl (by kernel_rfl) (fun _ _ _ h => h) (Or.inl ⟨by rfl, ?_⟩) ?_ ?_
    rotate_left
    ·intro w'
     go_simp
     with_reducible rfl
    rotate_left
    ·simp only [Act.put, List.setIfInBounds_toArray, List.set_cons_zero, List.set_cons_succ, i64_w, i32_w]
     rfl
    refine pure_ (i := 5) (N := some 35) (v := ?_) (a' := ?_) #[true, true, true, true, true, true, false, false, true, true, false, false, false] rfl rfl (by kernel_rfl) (fun _ _ _ h => h) (Or.inl ⟨by rfl, ?_⟩) ?_ ?_
    rotate_left
    ·intro w'
     go_simp
     with_reducible rfl
    rotate_left
    ·simp only [Act.put, List.setIfInBounds_toArray, List.set_cons_zero, List.set_cons_succ, i64_w, i32_w]
     rfl
    refine pure_ (i := 6) (N := some 36) (v := ?_) (a' := ?_) #[true, true, true, true, true, true, true, false, true, true, false, false, false] rfl rfl (by kernel_rfl) (fun _ _ _ h => h) (Or.inl ⟨by rfl, ?_⟩) ?_ ?_
    rotate_left
    ·intro w'
     go_simp
     with_reducible rfl
    rotate_left
    ·simp only [Act.put, List.setIfInBounds_toArray, List.set_cons_zero, List.set_cons_succ, i64_w, i32_w]
     rfl
    refine pure_ (i := 7) (N := some 37) (v := ?_) (a' := ?_) #[true, true, true, true, true, true, true, true, true, true, false, false, false] rfl rfl (by kernel_rfl) (fun _ _ _ h => h) (Or.inl ⟨by rfl, ?_⟩) ?_ ?_
    rotate_left
    ·intro w'
     go_simp
     with_reducible rfl
    rotate_left
    ·simp only [Act.put, List.setIfInBounds_toArray, List.set_cons_zero, List.set_cons_succ, i64_w, i32_w]
     rfl
    exact norm_ (by simp only [putAll, Act.put, List.setIfInBounds_toArray, List.set_cons_zero, List.set_cons_succ]) (hCont ((_, _), (g_128, g_137)) _ ⟨hS, h9, h10, (show g_128 ≠ g_137 by omega), l9, l10, Pw.mono hq (fun i hi => by (try dsimp only at hi); refine ⟨?_, ?_, ?_⟩ <;> (try dsimp only) <;> omega), Pw.mono hr (fun i hi => by (try dsimp only at hi); refine ⟨?_, ?_⟩ <;> (try dsimp only) <;> omega)⟩)
  ·refine box_step (by rfl) (N := 10) rfl (cs := #[.slice none 0 0]) (t := 29) ?_ ?_
   ·first | (go_simp; done) | (go_simp; rfl)
   intro g_141 hg v_140 hbox hb
   have h10 : bx v_140 g_141 (.slice none 0 0) := hbox
   have l10 : w_5.heap.size ≤ g_141 := by rw [hg]; exact hS.size
   replace h2 := h2.below hb
   replace hnn := hnn.below hb
   replace f_4 := f_4.below hb
   replace hB := hB.trans (hb.mono hB.size)
   replace hS := hS.trans (hb.mono hS.size)
   clear hb hbox hg
   refine hK.out _ _ hS (fun hS => ?_)
   clear hK K
   refine norm_ (a' := ?_) ?_ ?_
   rotate_left
   ·show Act.put _ (some 10) _ = _
    simp only [Act.put, List.setIfInBounds_toArray, List.set_cons_zero, List.set_cons_succ, i64_w, i32_w]
    rfl
   refine two_ (i := 2) (j := 8) (Ni := some 33) (Nj := some 9) #[true, true, true, false, false, false, false, false, false, true, false, false, false] #[true, true, false, false, false, false, false, false, true, true, false, false, false] rfl rfl rfl rfl (by kernel_rfl) (by decide) (by decide) (fun K hK => ?_) (fun K hK => ?_)
   ·refine goes_ Tryd.func89 (by kernel_rfl) rfl #[.agg #[.slice A1 n1 c1, .slice A2 n2 c2, .bool true]] (by rfl) rfl rfl (by (try simp only [List.map_toArray, List.map_cons, List.map_nil]); first | done | rfl) ?_
    refine (qden_c).mono ?_
    rintro e v_142 ⟨rfl, hb⟩
    refine ⟨_, rfl, ?_⟩
    replace h2 := h2.below hb
    replace hnn := hnn.below hb
    replace f_4 := f_4.below hb
    replace h10 := h10.below hb
    replace hB := hB.trans (hb.mono hB.size)
    replace hS := hS.trans (hb.mono hS.size)
    clear hb
    refine hK.out _ _ hS (fun hS => ?_)
    clear hK K
    refine norm_ (a' := ?_) ?_ ?_
    rotate_left
    ·show Act.put _ (some 33) _ = _
     simp only [Act.put, List.setIfInBounds_toArray, List.set_cons_zero, List.set_cons_succ, i64_w, i32_w]
     rfl
    refine two_ (i := 3) (j := 8) (Ni := some 34) (Nj := some 9) #[true, true, true, true, false, false, false, false, false, true, false, false, false] #[true, true, true, false, false, false, false, false, true, true, false, false, false] rfl rfl rfl rfl (by kernel_rfl) (by decide) (by decide) (fun K hK => ?_) (fun K hK => ?_)
    ·refine goes_ Tryd.func40 (by kernel_rfl) rfl #[.agg #[(.slice A_3 n_3 c_3)], .agg #[.slice A2 n2 c2]] (by rfl) rfl rfl (by (try simp only [List.map_toArray, List.map_cons, List.map_nil]); first | done | rfl) ?_
     have gs := hS.size
     have u10 := h10.lt
     refine (divf_c hnn h2 (by omega) hy).mono ?_
     rintro e v_143 ⟨zq, zr, rfl, hq, hr, hb⟩
     refine ⟨_, rfl, ?_⟩
     replace f_4 := f_4.below hb
     replace h10 := h10.below hb
     replace hB := hB.trans (hb.mono hB.size)
     replace hS := hS.trans (hb.mono hS.size)
     clear hb h2 hnn
     refine hK.out _ _ hS (fun hS => ?_)
     clear hK K
     refine norm_ (a' := ?_) ?_ ?_
     rotate_left
     ·show Act.put _ (some 34) _ = _
      simp only [Act.put, List.setIfInBounds_toArray, List.set_cons_zero, List.set_cons_succ, i64_w, i32_w]
      rfl
     refine pure_ (i := 4) (N := some 30) (v := ?_) (a' := ?_) #[true, true, true, true, true, false, false, false, false, true, false, false, false] rfl rfl (by kernel_rfl) (fun _ _ _ h => h) (Or.inl ⟨by rfl, ?_⟩) ?_ ?_
     rotate_left
     ·intro w'
      go_simp
      with_reducible rfl
     rotate_left
     ·simp only [Act.put, List.setIfInBounds_toArray, List.set_cons_zero, List.set_cons_succ, i64_w, i32_w]
      rfl
     refine pure_ (i := 5) (N := some 35) (v := ?_) (a' := ?_) #[true, true, true, true, true, true, false, false, false, true, false, false, false] rfl rfl (by kernel_rfl) (fun _ _ _ h => h) (Or.inl ⟨by rfl, ?_⟩) ?_ ?_
     rotate_left
     ·intro w'
      go_simp
      with_reducible rfl
     rotate_left
     ·simp only [Act.put, List.setIfInBounds_toArray, List.set_cons_zero, List.set_cons_succ, i64_w, i32_w]
      rfl
     refine pure_ (i := 6) (N := some 36) (v := ?_) (a' := ?_) #[true, true, true, true, true, true, true, false, false, true, false, false, false] rfl rfl (by kernel_rfl) (fun _ _ _ h => h) (Or.inl ⟨by rfl, ?_⟩) ?_ ?_
     rotate_left
     ·intro w'
      go_simp
      with_reducible rfl
     rotate_left
     ·simp only [Act.put, List.setIfInBounds_toArray, List.set_cons_zero, List.set_cons_succ, i64_w, i32_w]
      rfl
     refine pure_ (i := 7) (N := some 37) (v := ?_) (a' := ?_) #[true, true, true, true, true, true, true, true, false, true, false, false, false] rfl rfl (by kernel_rfl) (fun _ _ _ h => h) (Or.inl ⟨by rfl, ?_⟩) ?_ ?_
     rotate_left
     ·intro w'
      go_simp
      with_reducible rfl
     rotate_left
     ·simp only [Act.put, List.setIfInBounds_toArray, List.set_cons_zero, List.set_cons_succ, i64_w, i32_w]
      rfl
     refine one_ (i := 8) (N := some 9) #[true, true, true, true, true, true, true, true, true, true, false, false, false] rfl rfl (by kernel_rfl) (by decide) (fun K hK => ?_)
     refine box_step (by rfl) (N := 9) rfl (cs := #[.slice none 0 0]) (t := 29) ?_ ?_
     ·first | (go_simp; done) | (go_simp; rfl)
     intro g_145 hg v_144 hbox hb
     have h9 : bx v_144 g_145 (.slice none 0 0) := hbox
     have l9 : w_5.heap.size ≤ g_145 := by rw [hg]; exact hS.size
     have u10' := h10.lt
     have nn : g_145 ≠ g_141 := by omega
     replace hq := Pw.newbox hq hg hb
     replace hr := Pw.newbox hr hg hb
     replace f_4 := f_4.below hb
     replace h10 := h10.below hb
     replace hB := hB.trans (hb.mono hB.size)
     replace hS := hS.trans (hb.mono hS.size)
     clear hb hbox hg
     refine hK.out _ _ hS (fun hS => ?_)
     clear hK K
     refine norm_ (a' := ?_) ?_ ?_
     rotate_left
     ·show Act.put _ (some 9) _ = _
      simp only [Act.put, List.setIfInBounds_toArray, List.set_cons_zero, List.set_cons_succ, i64_w, i32_w]
      rfl
     exact norm_ (by simp only [putAll, Act.put, List.setIfInBounds_toArray, List.set_cons_zero, List.set_cons_succ]) (hCont ((_, _), (g_145, g_141)) _ ⟨hS, h9, h10, (show g_145 ≠ g_141 by omega), l9, l10, Pw.mono hq (fun i hi => by (try dsimp only at hi); refine ⟨?_, ?_, ?_⟩ <;> (try dsimp only) <;> omega), Pw.mono hr (fun i hi => by (try dsimp only at hi); refine ⟨?_, ?_⟩ <;> (try dsimp only) <;> omega)⟩)
    ·refine box_step (by rfl) (N := 9) rfl (cs := #[.slice none 0 0]) (t := 29) ?_ ?_
     ·first | (go_simp; done) | (go_simp; rfl)
     intro g_147 hg v_146 hbox hb
     have h9 : bx v_146 g_147 (.slice none 0 0) := hbox
     have l9 : w_5.heap.size ≤ g_147 := by rw [hg]; exact hS.size
     have u10' := h10.lt
     have nn : g_147 ≠ g_141 := by omega
     replace h2 := h2.below hb
     replace hnn := hnn.below hb
     replace f_4 := f_4.below hb
     replace h10 := h10.below hb
     replace hB := hB.trans (hb.mono hB.size)
     replace hS := hS.trans (hb.mono hS.size)
     clear hb hbox hg
     refine hK.out _ _ hS (fun hS => ?_)
     clear hK K
     refine norm_ (a' := ?_) ?_ ?_
     rotate_left
     ·show Act.put _ (some 9) _ = _
      simp only [Act.put, List.setIfInBounds_toArray, List.set_cons_zero, List.set_cons_succ, i64_w, i32_w]
      rfl
     refine one_ (i := 3) (N := some 34) #[true, true, true, true, false, false, false, false, true, true, false, false, false] rfl rfl (by kernel_rfl) (by decide) (fun K hK => ?_)
     refine goes_ Tryd.func40 (by kernel_rfl) rfl #[.agg #[(.slice A_3 n_3 c_3)], .agg #[.slice A2 n2 c2]] (by rfl) rfl rfl (by (try simp only [List.map_toArray, List.map_cons, List.map_nil]); first | done | rfl) ?_
     have gs := hS.size
     have u9 := h9.lt
     have u10 := h10.lt
     refine (divf_c hnn h2 (by omega) hy).mono ?_
     rintro e v_148 ⟨zq, zr, rfl, hq, hr, hb⟩
     refine ⟨_, rfl, ?_⟩
     replace f_4 := f_4.below hb
     replace h9 := h9.below hb
     replace h10 := h10.below hb
     replace hB := hB.trans (hb.mono hB.size)
     replace hS := hS.trans (hb.mono hS.size)
     clear hb h2 hnn
     refine hK.out _ _ hS (fun hS => ?_)
     clear hK K
     refine norm_ (a' := ?_) ?_ ?_
     rotate_left
     ·show Act.put _ (some 34) _ = _
      simp only [Act.put, List.setIfInBounds_toArray, List.set_cons_zero, List.set_cons_succ, i64_w, i32_w]
      rfl
     refine pure_ (i := 4) (N := some 30) (v := ?_) (a' := ?_) #[true, true, true, true, true, false, false, false, true, true, false, false, false] rfl rfl (by kernel_rfl) (fun _ _ _ h => h) (Or.inl ⟨by rfl, ?_⟩) ?_ ?_
     rotate_left
     ·intro w'
      go_simp
      with_reducible rfl
     rotate_left
     ·simp only [Act.put, List.setIfInBounds_toArray, List.set_cons_zero, List.set_cons_succ, i64_w, i32_w]
      rfl
     refine pure_ (i := 5) (N := some 35) (v := ?_) (a' := ?_) #[true, true, true, true, true, true, false, false, true, true, false, false, false] rfl rfl (by kernel_rfl) (fun _ _ _ h => h) (Or.inl ⟨by rfl, ?_⟩) ?_ ?_
     rotate_left
     ·intro w'
      go_simp
      with_reducible rfl
     rotate_left
     ·simp only [Act.put, List.setIfInBounds_toArray, List.set_cons_zero, List.set_cons_succ, i64_w, i32_w]
      rfl
     refine pure_ (i := 6) (N := some 36) (v := ?_) (a' := ?_) #[true, true, true, true, true, true, true, false, true, true, false, false, false] rfl rfl (by kernel_rfl) (fun _ _ _ h => h) (Or.inl ⟨by rfl, ?_⟩) ?_ ?_
     rotate_left
     ·intro w'
      go_simp
      with_reducible rfl
     rotate_left
     ·simp only [Act.put, List.setIfInBounds_toArray, List.set_cons_zero, List.set_cons_succ, i64_w, i32_w]
      rfl
     refine pure_ (i := 7) (N := some 37) (v := ?_) (a' := ?_) #[true, true, true, true, true, true, true, true, true, true, false, false, false] rfl rfl (by kernel_rfl) (fun _ _ _ h => h) (Or.inl ⟨by rfl, ?_⟩) ?_ ?_
     rotate_left
     ·intro w'
      go_simp
      with_reducible rfl
     rotate_left
     ·simp only [Act.put, List.setIfInBounds_toArray, List.set_cons_zero, List.set_cons_succ, i64_w, i32_w]
      rfl
     exact norm_ (by simp only [putAll, Act.put, List.setIfInBounds_toArray, List.set_cons_zero, List.set_cons_succ]) (hCont ((_, _), (g_147, g_141)) _ ⟨hS, h9, h10, (show g_147 ≠ g_141 by omega), l9, l10, Pw.mono hq (fun i hi => by (try dsimp only at hi); refine ⟨?_, ?_, ?_⟩ <;> (try dsimp only) <;> omega), Pw.mono hr (fun i hi => by (try dsimp only at hi); refine ⟨?_, ?_⟩ <;> (try dsimp only) <;> omega)⟩)
   ·refine box_step (by rfl) (N := 9) rfl (cs := #[.slice none 0 0]) (t := 29) ?_ ?_
    ·first | (go_simp; done) | (go_simp; rfl)
    intro g_150 hg v_149 hbox hb
    have h9 : bx v_149 g_150 (.slice none 0 0) := hbox
    have l9 : w_5.heap.size ≤ g_150 := by rw [hg]; exact hS.size
    have u10' := h10.lt
    have nn : g_150 ≠ g_141 := by omega
    replace h2 := h2.below hb
    replace hnn := hnn.below hb
    replace f_4 := f_4.below hb
    replace h10 := h10.below hb
    replace hB := hB.trans (hb.mono hB.size)
    replace hS := hS.trans (hb.mono hS.size)
    clear hb hbox hg
    refine hK.out _ _ hS (fun hS => ?_)
    clear hK K
    refine norm_ (a' := ?_) ?_ ?_
    rotate_left
    ·show Act.put _ (some 9) _ = _
     simp only [Act.put, List.setIfInBounds_toArray, List.set_cons_zero, List.set_cons_succ, i64_w, i32_w]
     rfl
    refine one_ (i := 2) (N := some 33) #[true, true, true, false, false, false, false, false, true, true, false, false, false] rfl rfl (by kernel_rfl) (by decide) (fun K hK => ?_)
    refine goes_ Tryd.func89 (by kernel_rfl) rfl #[.agg #[.slice A1 n1 c1, .slice A2 n2 c2, .bool true]] (by rfl) rfl rfl (by (try simp only [List.map_toArray, List.map_cons, List.map_nil]); first | done | rfl) ?_
    refine (qden_c).mono ?_
    rintro e v_151 ⟨rfl, hb⟩
    refine ⟨_, rfl, ?_⟩
    replace h2 := h2.below hb
    replace hnn := hnn.below hb
    replace f_4 := f_4.below hb
    replace h9 := h9.below hb
    replace h10 := h10.below hb
    replace hB := hB.trans (hb.mono hB.size)
    replace hS := hS.trans (hb.mono hS.size)
    clear hb
    refine hK.out _ _ hS (fun hS => ?_)
    clear hK K
    refine norm_ (a' := ?_) ?_ ?_
    rotate_left
    ·show Act.put _ (some 33) _ = _
     simp only [Act.put, List.setIfInBounds_toArray, List.set_cons_zero, List.set_cons_succ, i64_w, i32_w]
     rfl
    refine one_ (i := 3) (N := some 34) #[true, true, true, true, false, false, false, false, true, true, false, false, false] rfl rfl (by kernel_rfl) (by decide) (fun K hK => ?_)
    refine goes_ Tryd.func40 (by kernel_rfl) rfl #[.agg #[(.slice A_3 n_3 c_3)], .agg #[.slice A2 n2 c2]] (by rfl) rfl rfl (by (try simp only [List.map_toArray, List.map_cons, List.map_nil]); first | done | rfl) ?_
    have gs := hS.size
    have u9 := h9.lt
    have u10 := h10.lt
    refine (divf_c hnn h2 (by omega) hy).mono ?_
    rintro e v_152 ⟨zq, zr, rfl, hq, hr, hb⟩
    refine ⟨_, rfl, ?_⟩
    replace f_4 := f_4.below hb
    replace h9 := h9.below hb
    replace h10 := h10.below hb
    replace hB := hB.trans (hb.mono hB.size)
    replace hS := hS.trans (hb.mono hS.size)
    clear hb h2 hnn
    refine hK.out _ _ hS (fun hS => ?_)
    clear hK K
    refine norm_ (a' := ?_) ?_ ?_
    rotate_left
    ·show Act.put _ (some 34) _ = _
     simp only [Act.put, List.setIfInBounds_toArray, List.set_cons_zero, List.set_cons_succ, i64_w, i32_w]
     rfl
    refine pure_ (i := 4) (N := some 30) (v := ?_) (a' := ?_) #[true, true, true, true, true, false, false, false, true, true, false, false, false] rfl rfl (by kernel_rfl) (fun _ _ _ h => h) (Or.inl ⟨by rfl, ?_⟩) ?_ ?_
    rotate_left
    ·intro w'
     go_simp
     with_reducible rfl
    rotate_left
    ·simp only [Act.put, List.setIfInBounds_toArray, List.set_cons_zero, List.set_cons_succ, i64_w, i32_w]
     rfl
    refine pure_ (i := 5) (N := some 35) (v := ?_) (a' := ?_) #[true, true, true, true, true, true, false, false, true, true, false, false, false] rfl rfl (by kernel_rfl) (fun _ _ _ h => h) (Or.inl ⟨by rfl, ?_⟩) ?_ ?_
    rotate_left
    ·intro w'
     go_simp
     with_reducible rfl
    rotate_left
    ·simp only [Act.put, List.setIfInBounds_toArray, List.set_cons_zero, List.set_cons_succ, i64_w, i32_w]
     rfl
    refine pure_ (i := 6) (N := some 36) (v := ?_) (a' := ?_) #[true, true, true, true, true, true, true, false, true, true, false, false, false] rfl rfl (by kernel_rfl) (fun _ _ _ h => h) (Or.inl ⟨by rfl, ?_⟩) ?_ ?_
    rotate_left
    ·intro w'
     go_simp
     with_reducible rfl
    rotate_left
    ·simp only [Act.put, List.setIfInBounds_toArray, List.set_cons_zero, List.set_cons_succ, i64_w, i32_w]
     rfl
    refine pure_ (i := 7) (N := some 37) (v := ?_) (a' := ?_) #[true, true, true, true, true, true, true, true, true, true, false, false, false] rfl rfl (by kernel_rfl) (fun _ _ _ h => h) (Or.inl ⟨by rfl, ?_⟩) ?_ ?_
    rotate_left
    ·intro w'
     go_simp
     with_reducible rfl
    rotate_left
    ·simp only [Act.put, List.setIfInBounds_toArray, List.set_cons_zero, List.set_cons_succ, i64_w, i32_w]
     rfl
    exact norm_ (by simp only [putAll, Act.put, List.setIfInBounds_toArray, List.set_cons_zero, List.set_cons_succ]) (hCont ((_, _), (g_150, g_141)) _ ⟨hS, h9, h10, (show g_150 ≠ g_141 by omega), l9, l10, Pw.mono hq (fun i hi => by (try dsimp only at hi); refine ⟨?_, ?_, ?_⟩ <;> (try dsimp only) <;> omega), Pw.mono hr (fun i hi => by (try dsimp only at hi); refine ⟨?_, ?_⟩ <;> (try dsimp only) <;> omega)⟩)
 ·rintro ⟨⟨zq, zr⟩, ⟨b9, b10⟩⟩ v_1 ⟨hS, h9, h10, n910, l9, l10, hq, hr⟩
  refine norm_ (a' := ?_) ?_ ?_
  rotate_left
  ·simp only [putAll, Act.put, List.setIfInBounds_toArray, List.set_cons_zero, List.set_cons_succ]
   rfl
  dsimp only at h9 h10 n910 l9 l10 hq hr
  replace f_4 := f_4.below hS
  replace hB := hB.trans (hS.mono hB.size)
  clear h2 hnn
  obtain ⟨A_6, n_6, c_6, rfl⟩ := (Pw.nw hq).shape
  obtain ⟨A_7, n_7, c_7, rfl⟩ := (Pw.nw hr).shape
  have l9w : w.heap.size ≤ b9 := by omega
  have l10w : w.heap.size ≤ b10 := by omega
  have n49 : b_4 ≠ b9 := by omega
  have n410 : b_4 ≠ b10 := by omega
  have nq9 : ¬ (w_5.heap.size ≤ b9 ∧ b9 ≠ b9 ∧ b9 ≠ b10) := fun h => h.2.1 rfl
  have nq10 : ¬ (w_5.heap.size ≤ b10 ∧ b10 ≠ b9 ∧ b10 ≠ b10) := fun h => h.2.2 rfl
  have nr9 : ¬ (b9 ≠ b9 ∧ b9 ≠ b10) := fun h => h.1 rfl
  have nr10 : ¬ (b10 ≠ b9 ∧ b10 ≠ b10) := fun h => h.2 rfl
  have nq4 : ¬ (w_5.heap.size ≤ b_4 ∧ b_4 ≠ b9 ∧ b_4 ≠ b10) := by omega
  refine one_ (i := 10) (N := none) #[true, true, true, true, true, true, true, true, true, true, true, false, false] rfl rfl (by kernel_rfl) (by decide) (fun K hK => ?_)
  have hs_ := (blk_cell h9 0).trans rfl
  have hfs_ := blk_frozen h9 0
  refine skip_ (w1 := ?_) (by rfl) rfl ?_ ?_
  rotate_left
  ·go_simp
   rfl
  clear hs_ hfs_
  replace h9 := h9.set (.slice A_6 n_6 c_6)
  replace h10 := h10.far n910.symm (.slice A_6 n_6 c_6)
  replace f_4 := f_4.far n49 (.slice A_6 n_6 c_6)
  replace hq := hq.put nq9 (.slice A_6 n_6 c_6)
  replace hr := hr.put nr9 (.slice A_6 n_6 c_6)
  replace hB := below_set (v := (.slice A_6 n_6 c_6)) (j := 0) hB l9w
  replace hS := below_set (v := (.slice A_6 n_6 c_6)) (j := 0) hS l9
  refine hK.out _ _ hS (fun hS => ?_)
  clear hK K
  generalize v_1.setCell ⟨b9, 0, none⟩ (.slice A_6 n_6 c_6) = v_2 at h9 h10 f_4 hq hr hB hS ⊢
  refine one_ (i := 11) (N := none) #[true, true, true, true, true, true, true, true, true, true, true, true, false] rfl rfl (by kernel_rfl) (by decide) (fun K hK => ?_)
  have hs_ := (blk_cell h10 0).trans rfl
  have hfs_ := blk_frozen h10 0
  refine skip_ (w1 := ?_) (by rfl) rfl ?_ ?_
  rotate_left
  ·go_simp
   rfl
  clear hs_ hfs_
  replace h10 := h10.set (.slice A_7 n_7 c_7)
  replace h9 := h9.far n910 (.slice A_7 n_7 c_7)
  replace f_4 := f_4.far n410 (.slice A_7 n_7 c_7)
  replace hq := hq.put nq10 (.slice A_7 n_7 c_7)
  replace hr := hr.put nr10 (.slice A_7 n_7 c_7)
  replace hB := below_set (v := (.slice A_7 n_7 c_7)) (j := 0) hB l10w
  replace hS := below_set (v := (.slice A_7 n_7 c_7)) (j := 0) hS l10
  refine hK.out _ _ hS (fun hS => ?_)
  clear hK K
  generalize v_2.setCell ⟨b10, 0, none⟩ (.slice A_7 n_7 c_7) = v_3 at h9 h10 f_4 hq hr hB hS ⊢
  refine pure_ (i := 12) (N := some 11) (v := ?_) (a' := ?_) #[true, true, true, true, true, true, true, true, true, true, true, true, true] rfl rfl (by kernel_rfl) (fun _ _ _ h => h) (Or.inl ⟨by rfl, ?_⟩) ?_ ?_
  rotate_left
  ·intro w'
   go_simp
   with_reducible rfl
  rotate_left
  ·simp only [Act.put, List.setIfInBounds_toArray, List.set_cons_zero, List.set_cons_succ, i64_w, i32_w]
   rfl
  refine done_ (by kernel_rfl) ?_
  clear hS
  go_wp2_with fail
  have hb : Below v_3.heap.size v_3 v_3.drew := below_drew (Below.refl _ _)
  refine start_ (n := 7) (S := fun w' => Below v_3.drew.heap.size v_3.drew w') (ds := [4]) #[false, false, false, false, false, false, false] (by kernel_rfl) rfl rfl (Below.refl _ _) (fun hS => ?_)
  replace hq := hq.below hb
  replace hr := hr.below hb
  replace f_4 := f_4.below hb
  replace h9 := h9.below hb
  replace h10 := h10.below hb
  replace hB := hB.trans (hb.mono hB.size)
  clear hb
  generalize v_3.drew = w_8 at hq hr f_4 h9 h10 hB hS ⊢
  have sf_4 := f_4
  have sh9 := h9
  have sh10 := h10
  refine take_ (i := 0) (N := some 38) (v := ?_) (a' := ?_) #[true, false, false, false, false, false, false] rfl rfl (by kernel_rfl) (fun _ _ _ h => h) (Or.inl ⟨by rfl, ?_⟩) hS ?_ ?_
  rotate_left
  ·intro w' hS_
   have k_ := (blk_cell (bx.below sh9 hS_) 0).trans rfl
   go_simp
   with_reducible rfl
  rotate_left
  ·simp only [Act.put, List.setIfInBounds_toArray, List.set_cons_zero, List.set_cons_succ, i64_w, i32_w]
   rfl
  refine take_ (i := 1) (N := some 39) (v := ?_) (a' := ?_) #[true, true, false, false, false, false, false] rfl rfl (by kernel_rfl) (fun _ _ _ h => h) (Or.inl ⟨by rfl, ?_⟩) hS ?_ ?_
  rotate_left
  ·intro w' hS_
   have k_ := (blk_cell (bx.below sh10 hS_) 0).trans rfl
   go_simp
   with_reducible rfl
  rotate_left
  ·simp only [Act.put, List.setIfInBounds_toArray, List.set_cons_zero, List.set_cons_succ, i64_w, i32_w]
   rfl
  refine one_ (i := 2) (N := some 40) #[true, true, true, false, false, false, false] rfl rfl (by kernel_rfl) (by decide) (fun K hK => ?_)
  refine goes_ Tryd.func22 (by kernel_rfl) rfl #[.agg #[(.slice A_7 n_7 c_7)]] (by rfl) rfl rfl (by (try simp only [List.map_toArray, List.map_cons, List.map_nil]); first | done | rfl | (simp only [List.length_drop, List.length_take]; rfl)) ?_
  refine (zero_c hr.nw).mono ?_
  rintro e w_9 ⟨rfl, hb⟩
  refine ⟨_, rfl, ?_⟩
  replace hS := hS.trans (hb.mono hS.size)
  replace hq := hq.below hb
  replace hr := hr.below hb
  replace f_4 := f_4.below hb
  replace h9 := h9.below hb
  replace h10 := h10.below hb
  replace hB := hB.trans (hb.mono hB.size)
  clear hb
  refine hK.out _ _ hS (fun hS => ?_)
  clear hK K
  refine norm_ (a' := ?_) ?_ ?_
  rotate_left
  ·show Act.put _ (some 40) _ = _
   simp only [Act.put, List.setIfInBounds_toArray, List.set_cons_zero, List.set_cons_succ, i64_w, i32_w]
   rfl
  refine pure_ (i := 3) (N := some 41) (v := ?_) (a' := ?_) #[true, true, true, true, false, false, false] rfl rfl (by kernel_rfl) (fun _ _ _ h => h) (Or.inl ⟨by rfl, ?_⟩) ?_ ?_
  rotate_left
  ·intro w'
   go_simp
   with_reducible rfl
  rotate_left
  ·simp only [Act.put, List.setIfInBounds_toArray, List.set_cons_zero, List.set_cons_succ, i64_w, i32_w]
   rfl
  have hM : Ge 0 w_9 := Nat.zero_le _
  have np_4 := nq4
  refine last_ (i := 4) (N := none) #[true, true, true, true, true, false, false] rfl rfl (by kernel_rfl) (by decide) (fun K hK => ?_)
  have hs_ := (blk_cell f_4 0).trans rfl
  have hfs_ := blk_frozen f_4 0
  refine skip_ (w1 := ?_) (by rfl) rfl ?_ ?_
  rotate_left
  ·go_simp
   rfl
  clear hs_ hfs_
  refine hK.out _ _ ?_
  clear hK K
  replace f_4 := f_4.set (.slice A_6 n_6 c_6)
  replace hq := hq.put np_4 (.slice A_6 n_6 c_6)
  replace hM := hM.put b_4 (.slice A_6 n_6 c_6)
  replace hB := below_set (v := (.slice A_6 n_6 c_6)) (j := 0) hB l_4
  generalize w_9.setCell ⟨b_4, 0, none⟩ (.slice A_6 n_6 c_6) = w_10 at f_4 hq hM hB ⊢
  refine pure_ (i := 5) (N := some 5) (v := ?_) (a' := ?_) #[true, true, true, true, true, true, false] rfl rfl (by kernel_rfl) (fun _ _ _ h => h) (Or.inl ⟨by rfl, ?_⟩) ?_ ?_
  rotate_left
  ·intro w'
   go_simp
   with_reducible rfl
  rotate_left
  ·simp only [Act.put, List.setIfInBounds_toArray, List.set_cons_zero, List.set_cons_succ, i64_w, i32_w]
   rfl
  refine pure_ (i := 6) (N := some 6) (v := ?_) (a' := ?_) #[true, true, true, true, true, true, true] rfl rfl (by kernel_rfl) (fun _ _ _ h => h) (Or.inl ⟨by rfl, ?_⟩) ?_ ?_
  rotate_left
  ·intro w'
   go_simp
   with_reducible rfl
  rotate_left
  ·simp only [Act.put, List.setIfInBounds_toArray, List.set_cons_zero, List.set_cons_succ, i64_w, i32_w]
   rfl
  refine done_ (by kernel_rfl) ?_
  go_wp2_with fail
  refine bodyPost_ret (results_list (rs := [.cell 4 29, .tmp 5, .tmp 6]) rfl (by simp) (.cell b_4 29 #[(.slice A_6 n_6 c_6)] (0, 0) _ rfl f_4 Tryd.underlying29 rfl infoN (.tmp (.tmp .nil)))) rfl ?_
  exact ⟨_, rfl, Kd.V_mono hq (fun i hi => Nat.le_trans gw5 hi.1), hB⟩
end Go.Proofs.YtgkdealidnidiaaDoor.Na
namespace Go.Proofs.YtgkdealidnidiaaDoor.Na
open Go.RowKit Go.Proofs.YtgkdealidnidiaaDoorW.PrintWords Go.Proofs.YtgkdealidnidiaaDoorW.PrintLast Go.Proofs.YtgkdealidnidiaaDoorW.PrintMore Go.Proofs.YtgkdealidnidiaaDoor.Dg
set_option linter.unusedSimpArgs false
set_option linter.unusedVariables false
def Scl (w : World) (q : Value) (p : Int) (r : Nat) (sb : Bool) (ec : Int) : Prop := ∀ W, Below w.heap.size w W → Calls Tryd.prog 90 #[q, .int .i64 p] W fun e w' => ∃ z, e = .returned (.tuple #[.agg #[z], .bool sb, .int .i64 ec]) ∧ Nf W.heap.size w' z r ∧ Below W.heap.size W w'
set_option maxRecDepth 100000 in
set_option maxHeartbeats 8000000 in
theorem floor_c {w : World} {A1 A2 : Option Addr} {n1 n2 c1 c2 r : Nat} {p ec : Int} {sb : Bool} (hS : Scl w (.agg #[.slice A1 n1 c1, .slice A2 n2 c2, .bool true]) p r sb ec) :
  Calls Tryd.prog 51 #[.agg #[.slice A1 n1 c1, .slice A2 n2 c2, .bool true], .int .i64 p] w fun e w' => ∃ z, e = .returned (.tuple #[.agg #[z], .int .i64 ec]) ∧ Nw w' z r ∧ Below w.heap.size w w' := by
 have hu29 := Tryd.underlying29
 have hu62 := Tryd.underlying62
 have f_2 : rb ((w.alloc (.cells #[.slice A1 n1 c1, .slice A2 n2 c2, .bool true] 62)).alloc (.cells #[.slice none 0 0] 29)) w.heap.size (.slice A1 n1 c1) (.slice A2 n2 c2) true := (rb.new w _ _ _).alloc _
 have f_4 : bx ((w.alloc (.cells #[.slice A1 n1 c1, .slice A2 n2 c2, .bool true] 62)).alloc (.cells #[.slice none 0 0] 29)) (w.heap.size + 1) (.slice none 0 0) := by have h := bx.new (w.alloc (.cells #[.slice A1 n1 c1, .slice A2 n2 c2, .bool true] 62)) (.slice none 0 0); simpa using h
 have hB : Below w.heap.size w ((w.alloc (.cells #[.slice A1 n1 c1, .slice A2 n2 c2, .bool true] 62)).alloc (.cells #[.slice none 0 0] 29)) := below_alloc (below_alloc (Below.refl _ _) _) _
 go_enter Tryd.func51, Tryd.ntmps51
 go_wp2_with (first | refine Cel.wpList_load_row_w rfl 62 _ rfl w.heap.size rfl 62 #[.slice A1 n1 c1, .slice A2 n2 c2, .bool true] (0, 0) _ f_2 hu62 rfl infoR ?_)
 have F := hS _ hB
 generalize ((w.alloc (.cells #[.slice A1 n1 c1, .slice A2 n2 c2, .bool true] 62)).alloc (.cells #[.slice none 0 0] 29)) = w_1 at f_2 f_4 hB F ⊢
 have l_4 : w.heap.size ≤ w.heap.size + 1 := by omega
 generalize w.heap.size + 1 = b_4 at f_4 l_4 ⊢
 clear f_2
 have g4 := f_4.lt
 refine (F).mono ?_
 rintro e w_2 ⟨z_q, rfl, hq, hb⟩
 replace f_4 := f_4.below hb
 replace hB := hB.trans (hb.mono hB.size)
 clear hb
 clear F
 obtain ⟨A_3, n_3, c_3, rfl⟩ := (Kf.kw hq).shape
 have f_6 := bx.new w_2 (.slice A_3 n_3 c_3)
 replace f_4 := f_4.alloc (.cells #[(.slice A_3 n_3 c_3)] 29)
 have hA := below_alloc (Below.refl w_2.heap.size w_2) (.cells #[(.slice A_3 n_3 c_3)] 29)
 replace hq := Kf.below hq hA
 replace hB := hB.trans (hA.mono hB.size)
 have hs4 : (w_2.alloc (.cells #[(.slice A_3 n_3 c_3)] 29)).cell? ⟨b_4, 0, none⟩ = some (.slice none 0 0) := (blk_cell f_4 0).trans rfl
 have hfs4 := blk_frozen f_4 0
 go_wp2_with (first | refine Cel.wpList_load_row_w rfl 29 _ rfl w_2.heap.size rfl 29 #[(.slice A_3 n_3 c_3)] (0, 0) _ f_6 hu29 rfl infoN ?_)
 refine bodyPost_ret (results_list (rs := [.cell 4 29, .tmp 5]) rfl (by simp) (.cell b_4 29 #[(.slice A_3 n_3 c_3)] (0, 0) _ rfl (f_4.set (.slice A_3 n_3 c_3)) Tryd.underlying29 rfl infoN (.tmp .nil))) rfl ?_
 exact ⟨_, rfl, Kf.kw (Kf.put hq g4 _), below_set hB l_4⟩
set_option maxRecDepth 100000 in
set_option maxHeartbeats 8000000 in
theorem ceil_more_c {w : World} {A1 A2 : Option Addr} {n1 n2 c1 c2 r : Nat} {p : Int} (hS : Scl w (.agg #[.slice A1 n1 c1, .slice A2 n2 c2, .bool true]) p r true 0) (lr : (wd BW r).length ≤ 64) :
  Calls Tryd.prog 52 #[.agg #[.slice A1 n1 c1, .slice A2 n2 c2, .bool true], .int .i64 p] w fun e w' => ∃ z, e = .returned (.tuple #[.agg #[z], .int .i64 (fitE (r + 1))]) ∧ Nw w' z (fitN (r + 1)) ∧ Below w.heap.size w w' := by
 have hu29 := Tryd.underlying29
 have hu62 := Tryd.underlying62
 have f_2 : rb ((w.alloc (.cells #[.slice A1 n1 c1, .slice A2 n2 c2, .bool true] 62)).alloc (.cells #[.slice none 0 0] 29)) w.heap.size (.slice A1 n1 c1) (.slice A2 n2 c2) true := (rb.new w _ _ _).alloc _
 have f_4 : bx ((w.alloc (.cells #[.slice A1 n1 c1, .slice A2 n2 c2, .bool true] 62)).alloc (.cells #[.slice none 0 0] 29)) (w.heap.size + 1) (.slice none 0 0) := by have h := bx.new (w.alloc (.cells #[.slice A1 n1 c1, .slice A2 n2 c2, .bool true] 62)) (.slice none 0 0); simpa using h
 have hB : Below w.heap.size w ((w.alloc (.cells #[.slice A1 n1 c1, .slice A2 n2 c2, .bool true] 62)).alloc (.cells #[.slice none 0 0] 29)) := below_alloc (below_alloc (Below.refl _ _) _) _
 go_enter Tryd.func52, Tryd.ntmps52
 go_wp2_with (first | refine Cel.wpList_load_row_w rfl 62 _ rfl w.heap.size rfl 62 #[.slice A1 n1 c1, .slice A2 n2 c2, .bool true] (0, 0) _ f_2 hu62 rfl infoR ?_)
 have F := hS _ hB
 generalize ((w.alloc (.cells #[.slice A1 n1 c1, .slice A2 n2 c2, .bool true] 62)).alloc (.cells #[.slice none 0 0] 29)) = w_1 at f_2 f_4 hB F ⊢
 have l_4 : w.heap.size ≤ w.heap.size + 1 := by omega
 generalize w.heap.size + 1 = b_4 at f_4 l_4 ⊢
 clear f_2
 have g4 := f_4.lt
 refine (F).mono ?_
 rintro e w_2 ⟨z_q, rfl, hq, hb⟩
 replace f_4 := f_4.below hb
 replace hB := hB.trans (hb.mono hB.size)
 clear hb
 clear F
 obtain ⟨A_3, n_3, c_3, rfl⟩ := (Kf.kw hq).shape
 have l1_ : (wd BW 1).length ≤ 64 := Nat.le_trans ((len_le_iff (by decide) 1).2 (by decide)) (by decide)
 go_wp2_with fail
 have f_6 := bx.new w_2 (.slice A_3 n_3 c_3)
 have hA_ := below_alloc (Below.refl w_2.heap.size w_2) (.cells #[(.slice A_3 n_3 c_3)] 29)
 replace f_4 := f_4.below hA_
 replace hq := hq.below hA_
 replace hB := hB.trans (hA_.mono hB.size)
 clear hA_
 generalize w_2.alloc (.cells #[(.slice A_3 n_3 c_3)] 29) = w_4 at f_6 f_4 hq hB ⊢
 generalize w_2.heap.size = b_6 at f_6 ⊢
 have hb : Below w_4.heap.size w_4 w_4.drew := below_drew (Below.refl _ _)
 refine start_ (n := 7) (S := fun w' => Below w_4.drew.heap.size w_4.drew w') (ds := [5]) #[false, false, false, false, false, false, false] (by kernel_rfl) rfl rfl (Below.refl _ _) (fun hS => ?_)
 replace hq := hq.below hb
 replace f_6 := f_6.below hb
 replace f_4 := f_4.below hb
 replace hB := hB.trans (hb.mono hB.size)
 clear hb
 generalize w_4.drew = w_5 at hq f_6 f_4 hB hS ⊢
 have sf_6 := f_6
 have sf_4 := f_4
 refine take_ (i := 0) (N := some 21) (v := ?_) (a' := ?_) #[true, false, false, false, false, false, false] rfl rfl (by kernel_rfl) (fun _ _ _ h => h) (Or.inl ⟨by rfl, ?_⟩) hS ?_ ?_
 rotate_left
 ·intro w' hS_
  have k_ := (blk_cell (bx.below sf_6 hS_) 0).trans rfl
  go_simp
  with_reducible rfl
 rotate_left
 ·simp only [Act.put, List.setIfInBounds_toArray, List.set_cons_zero, List.set_cons_succ, i64_w, i32_w]
  rfl
 have g44 := f_4.lt
 refine one_ (i := 1) (N := some 22) #[true, true, false, false, false, false, false] rfl rfl (by kernel_rfl) (by decide) (fun K hK => ?_)
 refine goes_ Tryd.func55 (by kernel_rfl) rfl #[.int .u64 1] (by rfl) rfl rfl (by (try simp only [List.map_toArray, List.map_cons, List.map_nil]); first | done | rfl | (simp only [List.length_drop, List.length_take]; rfl)) ?_
 refine (of_c 1 (by decide)).mono ?_
 rintro e w_6 ⟨z_o, rfl, ho, hb⟩
 refine ⟨_, rfl, ?_⟩
 replace hS := hS.trans (hb.mono hS.size)
 replace hq := hq.below hb
 replace f_6 := f_6.below hb
 replace f_4 := f_4.below hb
 replace hB := hB.trans (hb.mono hB.size)
 clear hb
 refine hK.out _ _ hS (fun hS => ?_)
 clear hK K
 refine norm_ (a' := ?_) ?_ ?_
 rotate_left
 ·show Act.put _ (some 22) _ = _
  simp only [Act.put, List.setIfInBounds_toArray, List.set_cons_zero, List.set_cons_succ, i64_w, i32_w]
  rfl
 have ho' : Nw w_6 z_o 1 := Kf.kw ho
 clear ho
 obtain ⟨A_7, n_7, c_7, rfl⟩ := ho'.shape
 have g45 := f_4.lt
 refine one_ (i := 2) (N := some 23) #[true, true, true, false, false, false, false] rfl rfl (by kernel_rfl) (by decide) (fun K hK => ?_)
 refine goes_ Tryd.func32 (by kernel_rfl) rfl #[.agg #[(.slice A_3 n_3 c_3)], .agg #[(.slice A_7 n_7 c_7)]] (by rfl) rfl rfl (by (try simp only [List.map_toArray, List.map_cons, List.map_nil]); first | done | rfl | (simp only [List.length_drop, List.length_take]; rfl)) ?_
 have F := add_c (Kf.kw hq) ho' lr l1_
 refine (F).mono ?_
 rintro e w_8 ⟨z_a, rfl, ha, hb⟩
 refine ⟨_, rfl, ?_⟩
 replace hS := hS.trans (hb.mono hS.size)
 replace hq := hq.below hb
 replace ho' := ho'.below hb
 replace f_6 := f_6.below hb
 replace f_4 := f_4.below hb
 replace hB := hB.trans (hb.mono hB.size)
 clear hb
 refine hK.out _ _ hS (fun hS => ?_)
 clear hK K
 refine norm_ (a' := ?_) ?_ ?_
 rotate_left
 ·show Act.put _ (some 23) _ = _
  simp only [Act.put, List.setIfInBounds_toArray, List.set_cons_zero, List.set_cons_succ, i64_w, i32_w]
  rfl
 clear F
 obtain ⟨A_9, n_9, c_9, rfl⟩ := (Kf.kw ha).shape
 refine pure_ (i := 3) (N := some 24) (v := ?_) (a' := ?_) #[true, true, true, true, false, false, false] rfl rfl (by kernel_rfl) (fun _ _ _ h => h) (Or.inl ⟨by rfl, ?_⟩) ?_ ?_
 rotate_left
 ·intro w'
  go_simp
  with_reducible rfl
 rotate_left
 ·simp only [Act.put, List.setIfInBounds_toArray, List.set_cons_zero, List.set_cons_succ, i64_w, i32_w]
  rfl
 refine pure_ (i := 4) (N := some 25) (v := ?_) (a' := ?_) #[true, true, true, true, true, false, false] rfl rfl (by kernel_rfl) (fun _ _ _ h => h) (Or.inl ⟨by rfl, ?_⟩) ?_ ?_
 rotate_left
 ·intro w'
  go_simp
  with_reducible rfl
 rotate_left
 ·simp only [Act.put, List.setIfInBounds_toArray, List.set_cons_zero, List.set_cons_succ, i64_w, i32_w]
  rfl
 have np_4 := g45
 have hM : Ge 0 w_8 := Nat.zero_le _
 refine last_ (i := 5) (N := none) #[true, true, true, true, true, true, false] rfl rfl (by kernel_rfl) (by decide) (fun K hK => ?_)
 have hs_ := (blk_cell f_4 0).trans rfl
 have hfs_ := blk_frozen f_4 0
 refine skip_ (w1 := ?_) (by rfl) rfl ?_ ?_
 rotate_left
 ·go_simp
  rfl
 clear hs_ hfs_
 refine hK.out _ _ ?_
 clear hK K
 refine pure_ (i := 6) (N := some 5) (v := ?_) (a' := ?_) #[true, true, true, true, true, true, true] rfl rfl (by kernel_rfl) (fun _ _ _ h => h) (Or.inl ⟨by rfl, ?_⟩) ?_ ?_
 rotate_left
 ·intro w'
  go_simp
  with_reducible rfl
 rotate_left
 ·simp only [Act.put, List.setIfInBounds_toArray, List.set_cons_zero, List.set_cons_succ, i64_w, i32_w]
  rfl
 refine done_ (by kernel_rfl) ?_
 go_wp2_with fail
 refine bodyPost_ret (results_list (rs := [.cell 4 29, .tmp 5]) rfl (by simp) (.cell b_4 29 #[(.slice A_9 n_9 c_9)] (0, 0) _ rfl (f_4.set (.slice A_9 n_9 c_9)) Tryd.underlying29 rfl infoN (.tmp .nil))) rfl ?_
 exact ⟨_, rfl, Kf.kw (Kf.put ha g45 _), below_set hB l_4⟩
end Go.Proofs.YtgkdealidnidiaaDoor.Na
namespace Go.Proofs.YtgkdealidnidiaaDoor.Na
open Go.RowKit Go.Proofs.YtgkdealidnidiaaDoorW.PrintWords Go.Proofs.YtgkdealidnidiaaDoorW.PrintLast Go.Proofs.YtgkdealidnidiaaDoorW.PrintMore Go.Proofs.YtgkdealidnidiaaDoor.Dg
set_option linter.unusedSimpArgs false
set_option linter.unusedVariables false
theorem dec_dig {n : Nat} (h : n < 10) : decS n = ⟨#[UInt8.ofNat (48 + n)]⟩ := by
 apply ba_ext
 rw [decS_data, decD_small h]
theorem len_lt {n : Nat} (h : n < BW) : (wd BW n).length ≤ 1 := (len_le_iff (by decide) 1).2 (by rw [Nat.pow_one]; exact h)
set_option maxRecDepth 100000 in
set_option maxHeartbeats 8000000 in
theorem awake2_c {w : World} (htab : Tab w) :
  Calls Tryd.prog 44 #[] w fun e w' => e = .returned (.bool true) ∧ Below w.heap.size w w' := by
 have hu29 := Tryd.underlying29
 have hu62 := Tryd.underlying62
 have hB : Below w.heap.size w w := Below.refl _ _
 go_enter Tryd.func44, Tryd.ntmps44
 go_wp2_with fail
 have F := ofr_c (w := w) 6 4 (by decide) (by decide) (by decide)
 rw [show 6 / Nat.gcd 6 4 = 3 by decide, show 4 / Nat.gcd 6 4 = 2 by decide] at F
 refine (F).mono ?_
 rintro e w_1 ⟨z, z', rfl, han, had, hb⟩
 replace htab := htab.below hb
 replace hB := hB.trans (hb.mono hB.size)
 clear hb
 clear F
 obtain ⟨A_2, n_2, c_2, rfl⟩ := han.shape
 obtain ⟨A_3, n_3, c_3, rfl⟩ := had.shape
 have hA : Below w_1.heap.size w_1 ((w_1.alloc (.cells #[.slice none 0 0, .slice none 0 0, .bool false] 62)).setRow w_1.heap.size #[(.slice A_2 n_2 c_2), (.slice A_3 n_3 c_3), .bool true]) := below_setRow (below_alloc (Below.refl _ _) _) (Nat.le_refl _) _
 have hi2 : (Tryd.prog.info? 62).map (·.size) = some (#[(.slice A_2 n_2 c_2), (.slice A_3 n_3 c_3), .bool true] : Array Value).size := infoR
 have ho2 : (#[(.slice A_2 n_2 c_2), (.slice A_3 n_3 c_3), .bool true] : Array Value).all (·.oneCell') = true := by kernel_rfl
 have f_a : rb ((w_1.alloc (.cells #[.slice none 0 0, .slice none 0 0, .bool false] 62)).setRow w_1.heap.size #[(.slice A_2 n_2 c_2), (.slice A_3 n_3 c_3), .bool true]) w_1.heap.size (.slice A_2 n_2 c_2) (.slice A_3 n_3 c_3) true := (rb.new w_1 _ _ _).put _
 go_wp2_with (first | refine wpList_store_row rfl 62 _ _ rfl w_1.heap.size #[(.slice A_2 n_2 c_2), (.slice A_3 n_3 c_3), .bool true] rfl rfl 62 _ (rb.new w_1 _ _ _) hi2 rfl ho2 ?_)
 replace htab := htab.below hA
 replace han := han.below hA
 replace had := had.below hA
 replace hB := hB.trans (hA.mono hB.size)
 clear hA hi2 ho2
 generalize ((w_1.alloc (.cells #[.slice none 0 0, .slice none 0 0, .bool false] 62)).setRow w_1.heap.size #[(.slice A_2 n_2 c_2), (.slice A_3 n_3 c_3), .bool true]) = w_4 at f_a htab han had hB ⊢
 generalize w_1.heap.size = b_a at f_a ⊢
 have F := ofr_c (w := w_4) 1 2 (by decide) (by decide) (by decide)
 rw [show 1 / Nat.gcd 1 2 = 1 by decide, show 2 / Nat.gcd 1 2 = 2 by decide] at F
 refine (F).mono ?_
 rintro e w_5 ⟨z, z', rfl, hhn, hhd, hb⟩
 replace htab := htab.below hb
 replace han := han.below hb
 replace had := had.below hb
 replace f_a := f_a.below hb
 replace hB := hB.trans (hb.mono hB.size)
 clear hb
 clear F
 obtain ⟨A_6, n_6, c_6, rfl⟩ := hhn.shape
 obtain ⟨A_7, n_7, c_7, rfl⟩ := hhd.shape
 have hA : Below w_5.heap.size w_5 ((w_5.alloc (.cells #[.slice none 0 0, .slice none 0 0, .bool false] 62)).setRow w_5.heap.size #[(.slice A_6 n_6 c_6), (.slice A_7 n_7 c_7), .bool true]) := below_setRow (below_alloc (Below.refl _ _) _) (Nat.le_refl _) _
 have hi2 : (Tryd.prog.info? 62).map (·.size) = some (#[(.slice A_6 n_6 c_6), (.slice A_7 n_7 c_7), .bool true] : Array Value).size := infoR
 have ho2 : (#[(.slice A_6 n_6 c_6), (.slice A_7 n_7 c_7), .bool true] : Array Value).all (·.oneCell') = true := by kernel_rfl
 have f_h : rb ((w_5.alloc (.cells #[.slice none 0 0, .slice none 0 0, .bool false] 62)).setRow w_5.heap.size #[(.slice A_6 n_6 c_6), (.slice A_7 n_7 c_7), .bool true]) w_5.heap.size (.slice A_6 n_6 c_6) (.slice A_7 n_7 c_7) true := (rb.new w_5 _ _ _).put _
 go_wp2_with (first | refine wpList_store_row rfl 62 _ _ rfl w_5.heap.size #[(.slice A_6 n_6 c_6), (.slice A_7 n_7 c_7), .bool true] rfl rfl 62 _ (rb.new w_5 _ _ _) hi2 rfl ho2 ?_)
 replace htab := htab.below hA
 replace han := han.below hA
 replace had := had.below hA
 replace hhn := hhn.below hA
 replace hhd := hhd.below hA
 replace f_a := f_a.below hA
 replace hB := hB.trans (hA.mono hB.size)
 clear hA hi2 ho2
 generalize ((w_5.alloc (.cells #[.slice none 0 0, .slice none 0 0, .bool false] 62)).setRow w_5.heap.size #[(.slice A_6 n_6 c_6), (.slice A_7 n_7 c_7), .bool true]) = w_8 at f_h htab han had hhn hhd f_a hB ⊢
 generalize w_5.heap.size = b_h at f_h ⊢
 have F := ofr_c (w := w_8) 1 3 (by decide) (by decide) (by decide)
 rw [show 1 / Nat.gcd 1 3 = 1 by decide, show 3 / Nat.gcd 1 3 = 3 by decide] at F
 refine (F).mono ?_
 rintro e w_9 ⟨z, z', rfl, htn, htd, hb⟩
 replace htab := htab.below hb
 replace han := han.below hb
 replace had := had.below hb
 replace hhn := hhn.below hb
 replace hhd := hhd.below hb
 replace f_a := f_a.below hb
 replace f_h := f_h.below hb
 replace hB := hB.trans (hb.mono hB.size)
 clear hb
 clear F
 obtain ⟨A_10, n_10, c_10, rfl⟩ := htn.shape
 obtain ⟨A_11, n_11, c_11, rfl⟩ := htd.shape
 have hA : Below w_9.heap.size w_9 ((w_9.alloc (.cells #[.slice none 0 0, .slice none 0 0, .bool false] 62)).setRow w_9.heap.size #[(.slice A_10 n_10 c_10), (.slice A_11 n_11 c_11), .bool true]) := below_setRow (below_alloc (Below.refl _ _) _) (Nat.le_refl _) _
 have hi2 : (Tryd.prog.info? 62).map (·.size) = some (#[(.slice A_10 n_10 c_10), (.slice A_11 n_11 c_11), .bool true] : Array Value).size := infoR
 have ho2 : (#[(.slice A_10 n_10 c_10), (.slice A_11 n_11 c_11), .bool true] : Array Value).all (·.oneCell') = true := by kernel_rfl
 have f_t : rb ((w_9.alloc (.cells #[.slice none 0 0, .slice none 0 0, .bool false] 62)).setRow w_9.heap.size #[(.slice A_10 n_10 c_10), (.slice A_11 n_11 c_11), .bool true]) w_9.heap.size (.slice A_10 n_10 c_10) (.slice A_11 n_11 c_11) true := (rb.new w_9 _ _ _).put _
 go_wp2_with (first | refine wpList_store_row rfl 62 _ _ rfl w_9.heap.size #[(.slice A_10 n_10 c_10), (.slice A_11 n_11 c_11), .bool true] rfl rfl 62 _ (rb.new w_9 _ _ _) hi2 rfl ho2 ?_ | refine Cel.wpList_load_row_w rfl 62 _ rfl w_9.heap.size rfl 62 #[(.slice A_10 n_10 c_10), (.slice A_11 n_11 c_11), .bool true] (0, 0) _ f_t hu62 rfl infoR ?_ | refine Cel.wpList_load_row_w rfl 62 _ rfl b_h rfl 62 #[(.slice A_6 n_6 c_6), (.slice A_7 n_7 c_7), .bool true] (0, 0) _ (f_h.below hA) hu62 rfl infoR ?_)
 replace htab := htab.below hA
 replace han := han.below hA
 replace had := had.below hA
 replace hhn := hhn.below hA
 replace hhd := hhd.below hA
 replace htn := htn.below hA
 replace htd := htd.below hA
 replace f_a := f_a.below hA
 replace f_h := f_h.below hA
 replace hB := hB.trans (hA.mono hB.size)
 clear hA hi2 ho2
 generalize ((w_9.alloc (.cells #[.slice none 0 0, .slice none 0 0, .bool false] 62)).setRow w_9.heap.size #[(.slice A_10 n_10 c_10), (.slice A_11 n_11 c_11), .bool true]) = w_12 at f_t htab han had hhn hhd htn htd f_a f_h hB ⊢
 generalize w_9.heap.size = b_t at f_t ⊢
 have l1 := len_lt (n := 1) (by decide)
 have l2 := len_lt (n := 2) (by decide)
 have l3 := len_lt (n := 3) (by decide)
 have l5 := len_lt (n := 5) (by decide)
 have l6 := len_lt (n := 6) (by decide)
 have F := qadd_c hhn hhd htn htd (by omega) (by omega) (by omega) (by omega) (by decide) (by decide)
 rw [show (1 * 3 + 1 * 2) / Nat.gcd (1 * 3 + 1 * 2) (2 * 3) = 5 by decide, show 2 * 3 / Nat.gcd (1 * 3 + 1 * 2) (2 * 3) = 6 by decide] at F
 refine (F).mono ?_
 rintro e w_13 ⟨z, z', rfl, hsn, hsd, hb⟩
 replace htab := htab.below hb
 replace han := han.below hb
 replace had := had.below hb
 replace f_a := f_a.below hb
 replace f_h := f_h.below hb
 replace f_t := f_t.below hb
 replace hB := hB.trans (hb.mono hB.size)
 clear hb
 clear F
 clear f_h f_t
 obtain ⟨A_14, n_14, c_14, rfl⟩ := hsn.shape
 obtain ⟨A_15, n_15, c_15, rfl⟩ := hsd.shape
 have hA : Below w_13.heap.size w_13 ((w_13.alloc (.cells #[.slice none 0 0, .slice none 0 0, .bool false] 62)).setRow w_13.heap.size #[(.slice A_14 n_14 c_14), (.slice A_15 n_15 c_15), .bool true]) := below_setRow (below_alloc (Below.refl _ _) _) (Nat.le_refl _) _
 have hi2 : (Tryd.prog.info? 62).map (·.size) = some (#[(.slice A_14 n_14 c_14), (.slice A_15 n_15 c_15), .bool true] : Array Value).size := infoR
 have ho2 : (#[(.slice A_14 n_14 c_14), (.slice A_15 n_15 c_15), .bool true] : Array Value).all (·.oneCell') = true := by kernel_rfl
 have f_s : rb ((w_13.alloc (.cells #[.slice none 0 0, .slice none 0 0, .bool false] 62)).setRow w_13.heap.size #[(.slice A_14 n_14 c_14), (.slice A_15 n_15 c_15), .bool true]) w_13.heap.size (.slice A_14 n_14 c_14) (.slice A_15 n_15 c_15) true := (rb.new w_13 _ _ _).put _
 go_wp2_with (first | refine wpList_store_row rfl 62 _ _ rfl w_13.heap.size #[(.slice A_14 n_14 c_14), (.slice A_15 n_15 c_15), .bool true] rfl rfl 62 _ (rb.new w_13 _ _ _) hi2 rfl ho2 ?_ | refine Cel.wpList_load_row_w rfl 62 _ rfl w_13.heap.size rfl 62 #[(.slice A_14 n_14 c_14), (.slice A_15 n_15 c_15), .bool true] (0, 0) _ f_s hu62 rfl infoR ?_)
 replace htab := htab.below hA
 replace han := han.below hA
 replace had := had.below hA
 replace hsn := hsn.below hA
 replace hsd := hsd.below hA
 replace f_a := f_a.below hA
 replace hB := hB.trans (hA.mono hB.size)
 clear hA hi2 ho2
 generalize ((w_13.alloc (.cells #[.slice none 0 0, .slice none 0 0, .bool false] 62)).setRow w_13.heap.size #[(.slice A_14 n_14 c_14), (.slice A_15 n_15 c_15), .bool true]) = w_16 at f_s htab han had hsn hsd f_a hB ⊢
 generalize w_13.heap.size = b_s at f_s ⊢
 have hS1 : Scl w_16 (.agg #[(.slice A_14 n_14 c_14), (.slice A_15 n_15 c_15), .bool true]) 1 1 true 0 := fun W hW => by
  have F := scaled_c (hsn.below hW) (hsd.below hW) (by omega) (by decide) 1 (by decide) (Nat.le_trans (len_lt (n := 5 * 2 ^ 1) (by decide)) (by decide))
  rw [show (!decide (5 * 2 ^ 1 % 6 = 0)) = true by decide, show 5 * 2 ^ 1 / 6 = 1 by decide] at F
  exact F
 refine (floor_c hS1).mono ?_
 rintro e w_17 ⟨z_x, rfl, hx, hb⟩
 replace htab := htab.below hb
 replace han := han.below hb
 replace had := had.below hb
 replace hsn := hsn.below hb
 replace hsd := hsd.below hb
 replace f_a := f_a.below hb
 replace f_s := f_s.below hb
 replace hB := hB.trans (hb.mono hB.size)
 clear hb
 clear hS1
 obtain ⟨A_18, n_18, c_18, rfl⟩ := hx.shape
 have hA : Below w_17.heap.size w_17 (w_17.alloc (.cells #[(.slice A_18 n_18 c_18)] 29)) := below_alloc (Below.refl _ _) _
 have f_x := bx.new w_17 (.slice A_18 n_18 c_18)
 go_wp2_with (first | refine Cel.wpList_load_row_w rfl 62 _ rfl b_s rfl 62 #[(.slice A_14 n_14 c_14), (.slice A_15 n_15 c_15), .bool true] (0, 0) _ (f_s.below hA) hu62 rfl infoR ?_)
 replace htab := htab.below hA
 replace han := han.below hA
 replace had := had.below hA
 replace hsn := hsn.below hA
 replace hsd := hsd.below hA
 replace hx := hx.below hA
 replace f_a := f_a.below hA
 replace f_s := f_s.below hA
 replace hB := hB.trans (hA.mono hB.size)
 clear hA
 generalize (w_17.alloc (.cells #[(.slice A_18 n_18 c_18)] 29)) = w_19 at f_x htab han had hsn hsd hx f_a f_s hB ⊢
 generalize w_17.heap.size = b_x at f_x ⊢
 have hS2 : Scl w_19 (.agg #[(.slice A_14 n_14 c_14), (.slice A_15 n_15 c_15), .bool true]) 1 1 true 0 := fun W hW => by
  have F := scaled_c (hsn.below hW) (hsd.below hW) (by omega) (by decide) 1 (by decide) (Nat.le_trans (len_lt (n := 5 * 2 ^ 1) (by decide)) (by decide))
  rw [show (!decide (5 * 2 ^ 1 % 6 = 0)) = true by decide, show 5 * 2 ^ 1 / 6 = 1 by decide] at F
  exact F
 have F := ceil_more_c hS2 (by omega)
 have l2' : (wd BW (1 + 1)).length ≤ 64 := (show (wd BW 2).length ≤ 64 by omega)
 rw [fitE_ok l2', fitN_ok l2'] at F
 refine (F).mono ?_
 rintro e w_20 ⟨z_y, rfl, hy, hb⟩
 replace htab := htab.below hb
 replace han := han.below hb
 replace had := had.below hb
 replace hsn := hsn.below hb
 replace hsd := hsd.below hb
 replace hx := hx.below hb
 replace f_x := f_x.below hb
 replace f_a := f_a.below hb
 replace f_s := f_s.below hb
 replace hB := hB.trans (hb.mono hB.size)
 clear hb
 clear hS2 F
 obtain ⟨A_21, n_21, c_21, rfl⟩ := hy.shape
 have hA : Below w_20.heap.size w_20 (w_20.alloc (.cells #[(.slice A_21 n_21 c_21)] 29)) := below_alloc (Below.refl _ _) _
 have f_y := bx.new w_20 (.slice A_21 n_21 c_21)
 go_wp2_with fail
 replace htab := htab.below hA
 replace han := han.below hA
 replace had := had.below hA
 replace hsn := hsn.below hA
 replace hsd := hsd.below hA
 replace hx := hx.below hA
 replace hy := hy.below hA
 replace f_x := f_x.below hA
 replace f_a := f_a.below hA
 replace f_s := f_s.below hA
 replace hB := hB.trans (hA.mono hB.size)
 clear hA
 generalize (w_20.alloc (.cells #[(.slice A_21 n_21 c_21)] 29)) = w_22 at f_y htab han had hsn hsd hx hy f_x f_a f_s hB ⊢
 generalize w_20.heap.size = b_y at f_y ⊢
 refine (awake_c htab).mono ?_
 rintro e w_23 ⟨rfl, hb⟩
 replace htab := htab.below hb
 replace han := han.below hb
 replace had := had.below hb
 replace hsn := hsn.below hb
 replace hsd := hsd.below hb
 replace hx := hx.below hb
 replace hy := hy.below hb
 replace f_x := f_x.below hb
 replace f_y := f_y.below hb
 replace f_a := f_a.below hb
 replace f_s := f_s.below hb
 replace hB := hB.trans (hb.mono hB.size)
 clear hb
 go_wp2_with (first | refine Cel.wpList_load_row_w rfl 62 _ rfl b_a rfl 62 #[(.slice A_2 n_2 c_2), (.slice A_3 n_3 c_3), .bool true] (0, 0) _ f_a hu62 rfl infoR ?_)
 have F := qstr_c han had (by omega) (by omega) htab
 rw [show decS 3 ++ ⟨#[47]⟩ ++ decS 2 = (⟨#[51, 47, 50]⟩ : ByteArray) by rw [dec_dig (by decide), dec_dig (by decide)]; rfl] at F
 refine (F).mono ?_
 rintro e w_24 ⟨rfl, hb⟩
 replace htab := htab.below hb
 replace hsn := hsn.below hb
 replace hsd := hsd.below hb
 replace hx := hx.below hb
 replace hy := hy.below hb
 replace f_x := f_x.below hb
 replace f_y := f_y.below hb
 replace f_a := f_a.below hb
 replace f_s := f_s.below hb
 replace hB := hB.trans (hb.mono hB.size)
 clear hb
 clear F
 clear f_a
 go_wp2_with (first | refine Cel.wpList_load_row_w rfl 62 _ rfl b_s rfl 62 #[(.slice A_14 n_14 c_14), (.slice A_15 n_15 c_15), .bool true] (0, 0) _ f_s hu62 rfl infoR ?_)
 have F := qstr_c hsn hsd (by omega) (by omega) htab
 rw [show decS 5 ++ ⟨#[47]⟩ ++ decS 6 = (⟨#[53, 47, 54]⟩ : ByteArray) by rw [dec_dig (by decide), dec_dig (by decide)]; rfl] at F
 refine (F).mono ?_
 rintro e w_25 ⟨rfl, hb⟩
 replace htab := htab.below hb
 replace hx := hx.below hb
 replace hy := hy.below hb
 replace f_x := f_x.below hb
 replace f_y := f_y.below hb
 replace f_s := f_s.below hb
 replace hB := hB.trans (hb.mono hB.size)
 clear hb
 clear F
 clear f_s
 go_wp2_with (first | refine Cel.wpList_load_row_w rfl 29 _ rfl b_x rfl 29 #[(.slice A_18 n_18 c_18)] (0, 0) _ f_x hu29 rfl infoN ?_)
 have F := str_c hx (by omega) htab
 rw [show decS 1 = (⟨#[49]⟩ : ByteArray) by rw [dec_dig (by decide)]; rfl] at F
 refine (F).mono ?_
 rintro e w_26 ⟨rfl, hb⟩
 replace htab := htab.below hb
 replace hy := hy.below hb
 replace f_x := f_x.below hb
 replace f_y := f_y.below hb
 replace hB := hB.trans (hb.mono hB.size)
 clear hb
 clear F
 go_wp2_with (first | refine Cel.wpList_load_row_w rfl 29 _ rfl b_y rfl 29 #[(.slice A_21 n_21 c_21)] (0, 0) _ f_y hu29 rfl infoN ?_)
 have F := str_c hy (by omega) htab
 rw [show decS (1 + 1) = (⟨#[50]⟩ : ByteArray) by rw [dec_dig (by decide)]; rfl] at F
 refine (F).mono ?_
 rintro e w_27 ⟨rfl, hb⟩
 replace htab := htab.below hb
 replace f_x := f_x.below hb
 replace f_y := f_y.below hb
 replace hB := hB.trans (hb.mono hB.size)
 clear hb
 clear F
 go_wp2
 go_ret
 exact ⟨rfl, hB⟩
end Go.Proofs.YtgkdealidnidiaaDoor.Na
namespace Go.Proofs.YtgkdealidnidiaaDoor.Na
open Go.RowKit Go.Proofs.YtgkdealidnidiaaDoorW.PrintWords Go.Proofs.YtgkdealidnidiaaDoorW.PrintLast Go.Proofs.YtgkdealidnidiaaDoorW.PrintMore
attribute [local go_sem] max2_int max_two
set_option linter.unusedVariables false
set_option linter.unusedSimpArgs false
def chaffref02_New.f (k : Nat) (l0 : List Int) (l1 : List Int) : Option (List Int × List Int) := (chaffref01_Gcd.f k l0 l1).bind fun t593 => ((chaffref01_Div.f k l0 t593).bind fun bt596 => ((chaffref01_Div.f k l1 t593).bind fun bt602 => (some (bt596.1, bt602.1))))
set_option maxHeartbeats 8000000 in
set_option maxRecDepth 100000 in
theorem chaffref02_New.calls (k : Nat) (P0_ : Nat → Prop) (A0 : Option Addr) (c0 : Nat) (l0 : List Int) (P1_ : Nat → Prop) (A1 : Option Addr) (c1 : Nat) (l1 : List Int) (r1 : List Int) (r2 : List Int) (w : World) (hs0 : Kd.V (Kd.int .i64) 3 w w.heap.size (fun k_ => P0_ k_) (.slice A0 l0.length c0) l0) (hs1 : Kd.V (Kd.int .i64) 3 w w.heap.size (fun k_ => P1_ k_) (.slice A1 l1.length c1) l1) (h : chaffref02_New.f k l0 l1 = some (r1, r2)) :
  Calls Tryd.prog 86 #[.slice A0 l0.length c0, .slice A1 l1.length c1] w fun e w' => ∃ v0_ v1_ : Value, e = .returned (.agg #[v0_, v1_]) ∧ Kd.V (Kd.int .i64) 3 w' w.heap.size (fun k_ => ((P0_ k_ ∨ P1_ k_) ∨ w.heap.size ≤ k_)) v0_ r1 ∧ Kd.V (Kd.int .i64) 3 w' w.heap.size (fun k_ => ((P0_ k_ ∨ P1_ k_) ∨ w.heap.size ≤ k_)) v1_ r2 ∧ Below w.heap.size w w' := by
 have hu66 := Tryd.underlying66
 have HO0 := Aside0.mk (show Kd.V (Kd.int .i64) 3 w w.heap.size (fun k_ => ((P0_ k_ ∨ P1_ k_) ∨ w.heap.size ≤ k_)) (.slice A0 l0.length c0) l0 from Kd.V_mono hs0 (fun k_ hk => .inl (.inl hk)))
 have HO1 := Aside0.mk (show Kd.V (Kd.int .i64) 3 w w.heap.size (fun k_ => ((P0_ k_ ∨ P1_ k_) ∨ w.heap.size ≤ k_)) (.slice A1 l1.length c1) l1 from Kd.V_mono hs1 (fun k_ hk => .inl (.inr hk)))
 have HB := Aside0.mk (Below.refl w.heap.size w)
 have H : ((chaffref01_Gcd.f k l0 l1).bind fun t593 => ((chaffref01_Div.f k l0 t593).bind fun bt596 => ((chaffref01_Div.f k l1 t593).bind fun bt602 => (some (bt596.1, bt602.1))))) = some (r1, r2) := h
 clear h
 replace H := Option.bind_eq_some_iff.mp H
 obtain ⟨t593, A30, H⟩ := H
 replace H : ((chaffref01_Div.f k l0 t593).bind fun bt596 => ((chaffref01_Div.f k l1 t593).bind fun bt602 => (some (bt596.1, bt602.1)))) = some (r1, r2) := H
 have A3 := Aside0.mk A30
 clear A30
 replace H := Option.bind_eq_some_iff.mp H
 obtain ⟨⟨t596, t599⟩, A40, H⟩ := H
 replace H : ((chaffref01_Div.f k l1 t593).bind fun bt602 => (some (t596, bt602.1))) = some (r1, r2) := H
 have A4 := Aside0.mk A40
 clear A40
 replace H := Option.bind_eq_some_iff.mp H
 obtain ⟨⟨t602, t605⟩, A50, H⟩ := H
 replace H : (some (t596, t602)) = some (r1, r2) := H
 have A5 := Aside0.mk A50
 clear A50
 simp only [Option.some.injEq, Prod.mk.injEq] at H
 obtain ⟨rfl, rfl⟩ := H
 go_enter Tryd.func86, Tryd.ntmps86
 go_wp2_with (first | ((with_reducible refine gate_dst (N := 4) rfl ?_); refine box_event ?hg (N := 4) ?hd (cs := #[.slice none 0 0, .slice none 0 0]) (t := 66) ?hr ?_; (case hd => rfl); (case hg => rfl); (case hr => first | (go_simp; done) | (go_simp; rfl)); intro gb592 hg w6 hbox hb; have n0_ := Aside0.mk (Kd.V_below (Kd.V_elderB (by (with_reducible repeat (first | apply Kd.V_alloc | apply Kd.V_drewN | apply Kd.V_drew)); exact HO0.out) gb592 (Nat.le_of_eq hg.symm)) hb); have n1_ := Aside0.mk (Kd.V_below (Kd.V_elderB (by (with_reducible repeat (first | apply Kd.V_alloc | apply Kd.V_drewN | apply Kd.V_drew)); exact HO1.out) gb592 (Nat.le_of_eq hg.symm)) hb); have n2_ := Aside0.mk (below_step (by repeat (first | (with_reducible first | exact HB.out | apply below_alloc | apply pw_below_drewN | apply below_drew1) | exact HB.out)) hb); have n3_ := Aside0.mk (hbox); have n4_ := Aside0.mk ((by rw [hg]; exact (below_size (by repeat (first | (with_reducible first | exact HB.out | apply below_alloc | apply pw_below_drewN | apply below_drew1) | exact HB.out))) : w.heap.size ≤ gb592)); have n5_ := Aside0.mk ((by rw [hg]; exact (below_size (by repeat (first | (with_reducible first | exact HB.out | apply below_alloc | apply pw_below_drewN | apply below_drew1) | exact HB.out))) : w.heap.size ≤ gb592)); clear HO0; clear HO1; clear HB; have HO0 := n0_; have HO1 := n1_; have HB := n2_; have BK592 := n3_; have GW592 := n4_; have GE592 := n5_; clear n0_ n1_ n2_ n3_ n4_ n5_; clear hb hbox hg) | ((with_reducible refine gate_callee (f := 43) rfl ?_); refine goesL_ (some 12) rfl rfl Tryd.func43 (by kernel_rfl) rfl #[.slice A0 l0.length c0, .slice A1 l1.length c1] rfl (by (try simp only [List.map_toArray, List.map_cons, List.map_nil]); first | done | rfl | (simp only [List.length_drop, List.length_take]; rfl)) ?_; (with_reducible refine (chaffref01_Gcd.calls k (fun k_ => (((P0_ k_ ∨ P1_ k_) ∨ w.heap.size ≤ k_) ∧ k_ ≠ gb592)) _ _ l0 (fun k_ => (((P0_ k_ ∨ P1_ k_) ∨ w.heap.size ≤ k_) ∧ k_ ≠ gb592)) _ _ l1 t593 _ ?side1 ?side2 A3.out).mono ?_); (case side1 => exact HO0.out); (case side2 => exact HO1.out); rintro e w7 ⟨v594, rfl, ho0, hb⟩; refine ⟨_, rfl, ?_⟩; have n0_ := Aside0.mk (Kd.V_below (by (with_reducible repeat (first | apply Kd.V_alloc | apply Kd.V_drewN | apply Kd.V_drew)); exact HO0.out) hb); have n1_ := Aside0.mk (Kd.V_below (by (with_reducible repeat (first | apply Kd.V_alloc | apply Kd.V_drewN | apply Kd.V_drew)); exact HO1.out) hb); have n2_ := Aside0.mk (Kd.V_lower (Kd.V_mono (ok' := fun k_ => ((P0_ k_ ∨ P1_ k_) ∨ w.heap.size ≤ k_) ∧ k_ ≠ gb592) ho0 (fun k_ hk_ => ⟨Or.elim hk_ (fun hs_ => Or.elim hs_ (fun hs_ => hs_.1) (fun hs_ => hs_.1)) (fun hn_ => (.inr (Nat.le_trans (below_size (by repeat (first | (with_reducible first | exact HB.out | apply below_alloc | apply pw_below_drewN | apply below_drew1 | refine below_set ?_ GE592.out) | exact HB.out))) hn_))), Or.elim hk_ (fun hs_ => Or.elim hs_ (fun hs_ => hs_.2) (fun hs_ => hs_.2)) (fun hn_ => (Kd.freshB (g := gb592) (o := .cells #[.slice none 0 0, .slice none 0 0] 66 (0, 0)) (by (with_reducible repeat (first | refine blk_drewN ?_ _ | refine blk_drew ?_ | refine blk_alloc ?_ _)); exact BK592.out) k_ hn_))⟩)) (below_size (by repeat (first | (with_reducible first | exact HB.out | apply below_alloc | apply pw_below_drewN | apply below_drew1 | refine below_set ?_ GE592.out) | exact HB.out)))); have n3_ := Aside0.mk (blk_below (g := gb592) (o := .cells #[.slice none 0 0, .slice none 0 0] 66 (0, 0)) (by (with_reducible repeat (first | refine blk_drewN ?_ _ | refine blk_drew ?_ | refine blk_alloc ?_ _)); exact BK592.out) hb); have n4_ := Aside0.mk (below_step (by repeat (first | (with_reducible first | exact HB.out | apply below_alloc | apply pw_below_drewN | apply below_drew1 | refine below_set ?_ GE592.out) | exact HB.out)) hb); clear HO0; clear HO1; clear BK592; clear HB; have HO0 := n0_; have HO1 := n1_; have HO595 := n2_; have BK592 := n3_; have HB := n4_; clear n0_ n1_ n2_ n3_ n4_; (try clear hb); (try clear hb2); (try clear hk); (try clear hi); (try clear ho0); obtain ⟨Ao8, co8, eo8⟩ := Kd.V_slice HO595.out; subst eo8) | ((with_reducible refine gate_callee (f := 42) rfl ?_); refine goesL_ (some 16) rfl rfl Tryd.func42 (by kernel_rfl) rfl #[.slice A0 l0.length c0, .slice Ao8 t593.length co8] rfl (by (try simp only [List.map_toArray, List.map_cons, List.map_nil]); first | done | rfl | (simp only [List.length_drop, List.length_take]; rfl)) ?_; (with_reducible refine (chaffref01_Div.calls k _ _ l0 _ _ t593 t596 t599 _ ?side1 ?side2 ?side3 ?side4 A4.out).mono ?_); (case side1 => repeat (first | exact (Kd.V_reads' HO0.out).2.2 | (with_reducible refine Kd.C_alloc ?_ _) | (with_reducible refine Kd.C_drewN ?_ _) | (with_reducible refine Kd.C_drew ?_))); (case side2 => exact (Kd.V_reads' HO0.out).2.1); (case side3 => repeat (first | exact (Kd.V_reads' HO595.out).2.2 | (with_reducible refine Kd.C_alloc ?_ _) | (with_reducible refine Kd.C_drewN ?_ _) | (with_reducible refine Kd.C_drew ?_))); (case side4 => exact (Kd.V_reads' HO595.out).2.1); rintro e w9 ⟨v597, v600, rfl, ho0, ho1, hb⟩; refine ⟨_, rfl, ?_⟩; have n0_ := Aside0.mk (Kd.V_below (by (with_reducible repeat (first | apply Kd.V_alloc | apply Kd.V_drewN | apply Kd.V_drew)); exact HO0.out) hb); have n1_ := Aside0.mk (Kd.V_below (by (with_reducible repeat (first | apply Kd.V_alloc | apply Kd.V_drewN | apply Kd.V_drew)); exact HO1.out) hb); have n2_ := Aside0.mk (Kd.V_below (by (with_reducible repeat (first | apply Kd.V_alloc | apply Kd.V_drewN | apply Kd.V_drew)); exact HO595.out) hb); have n3_ := Aside0.mk (Kd.V_lower (Kd.V_mono (ok' := fun k_ => ((P0_ k_ ∨ P1_ k_) ∨ w.heap.size ≤ k_) ∧ k_ ≠ gb592) ho0 (fun k_ hk_ => ⟨(.inr (Nat.le_trans (below_size (by repeat (first | (with_reducible first | exact HB.out | apply below_alloc | apply pw_below_drewN | apply below_drew1 | refine below_set ?_ GE592.out) | exact HB.out))) hk_)), (Kd.freshB (g := gb592) (o := .cells #[.slice none 0 0, .slice none 0 0] 66 (0, 0)) (by (with_reducible repeat (first | refine blk_drewN ?_ _ | refine blk_drew ?_ | refine blk_alloc ?_ _)); exact BK592.out) k_ hk_)⟩)) (below_size (by repeat (first | (with_reducible first | exact HB.out | apply below_alloc | apply pw_below_drewN | apply below_drew1 | refine below_set ?_ GE592.out) | exact HB.out)))); have n4_ := Aside0.mk (Kd.V_lower (Kd.V_mono (ok' := fun k_ => ((P0_ k_ ∨ P1_ k_) ∨ w.heap.size ≤ k_) ∧ k_ ≠ gb592) ho1 (fun k_ hk_ => ⟨(.inr (Nat.le_trans (below_size (by repeat (first | (with_reducible first | exact HB.out | apply below_alloc | apply pw_below_drewN | apply below_drew1 | refine below_set ?_ GE592.out) | exact HB.out))) hk_)), (Kd.freshB (g := gb592) (o := .cells #[.slice none 0 0, .slice none 0 0] 66 (0, 0)) (by (with_reducible repeat (first | refine blk_drewN ?_ _ | refine blk_drew ?_ | refine blk_alloc ?_ _)); exact BK592.out) k_ hk_)⟩)) (below_size (by repeat (first | (with_reducible first | exact HB.out | apply below_alloc | apply pw_below_drewN | apply below_drew1 | refine below_set ?_ GE592.out) | exact HB.out)))); have n5_ := Aside0.mk (blk_below (g := gb592) (o := .cells #[.slice none 0 0, .slice none 0 0] 66 (0, 0)) (by (with_reducible repeat (first | refine blk_drewN ?_ _ | refine blk_drew ?_ | refine blk_alloc ?_ _)); exact BK592.out) hb); have n6_ := Aside0.mk (below_step (by repeat (first | (with_reducible first | exact HB.out | apply below_alloc | apply pw_below_drewN | apply below_drew1 | refine below_set ?_ GE592.out) | exact HB.out)) hb); clear HO0; clear HO1; clear HO595; clear BK592; clear HB; have HO0 := n0_; have HO1 := n1_; have HO595 := n2_; have HO598 := n3_; have HO601 := n4_; have BK592 := n5_; have HB := n6_; clear n0_ n1_ n2_ n3_ n4_ n5_ n6_; (try clear hb); (try clear hb2); (try clear hk); (try clear hi); (try clear ho0); (try clear ho1)) | ((with_reducible refine gate_callee (f := 42) rfl ?_); refine goesL_ (some 22) rfl rfl Tryd.func42 (by kernel_rfl) rfl #[.slice A1 l1.length c1, .slice Ao8 t593.length co8] rfl (by (try simp only [List.map_toArray, List.map_cons, List.map_nil]); first | done | rfl | (simp only [List.length_drop, List.length_take]; rfl)) ?_; (with_reducible refine (chaffref01_Div.calls k _ _ l1 _ _ t593 t602 t605 _ ?side1 ?side2 ?side3 ?side4 A5.out).mono ?_); (case side1 => repeat (first | exact (Kd.V_reads' HO1.out).2.2 | (with_reducible refine Kd.C_alloc ?_ _) | (with_reducible refine Kd.C_drewN ?_ _) | (with_reducible refine Kd.C_drew ?_))); (case side2 => exact (Kd.V_reads' HO1.out).2.1); (case side3 => repeat (first | exact (Kd.V_reads' HO595.out).2.2 | (with_reducible refine Kd.C_alloc ?_ _) | (with_reducible refine Kd.C_drewN ?_ _) | (with_reducible refine Kd.C_drew ?_))); (case side4 => exact (Kd.V_reads' HO595.out).2.1); rintro e w10 ⟨v603, v606, rfl, ho0, ho1, hb⟩; refine ⟨_, rfl, ?_⟩; have n0_ := Aside0.mk (Kd.V_below (by (with_reducible repeat (first | apply Kd.V_alloc | apply Kd.V_drewN | apply Kd.V_drew)); exact HO0.out) hb); have n1_ := Aside0.mk (Kd.V_below (by (with_reducible repeat (first | apply Kd.V_alloc | apply Kd.V_drewN | apply Kd.V_drew)); exact HO1.out) hb); have n2_ := Aside0.mk (Kd.V_below (by (with_reducible repeat (first | apply Kd.V_alloc | apply Kd.V_drewN | apply Kd.V_drew)); exact HO595.out) hb); have n3_ := Aside0.mk (Kd.V_below (by (with_reducible repeat (first | apply Kd.V_alloc | apply Kd.V_drewN | apply Kd.V_drew)); exact HO598.out) hb); have n4_ := Aside0.mk (Kd.V_below (by (with_reducible repeat (first | apply Kd.V_alloc | apply Kd.V_drewN | apply Kd.V_drew)); exact HO601.out) hb); have n5_ := Aside0.mk (Kd.V_lower (Kd.V_mono (ok' := fun k_ => ((P0_ k_ ∨ P1_ k_) ∨ w.heap.size ≤ k_) ∧ k_ ≠ gb592) ho0 (fun k_ hk_ => ⟨(.inr (Nat.le_trans (below_size (by repeat (first | (with_reducible first | exact HB.out | apply below_alloc | apply pw_below_drewN | apply below_drew1 | refine below_set ?_ GE592.out) | exact HB.out))) hk_)), (Kd.freshB (g := gb592) (o := .cells #[.slice none 0 0, .slice none 0 0] 66 (0, 0)) (by (with_reducible repeat (first | refine blk_drewN ?_ _ | refine blk_drew ?_ | refine blk_alloc ?_ _)); exact BK592.out) k_ hk_)⟩)) (below_size (by repeat (first | (with_reducible first | exact HB.out | apply below_alloc | apply pw_below_drewN | apply below_drew1 | refine below_set ?_ GE592.out) | exact HB.out)))); have n6_ := Aside0.mk (Kd.V_lower (Kd.V_mono (ok' := fun k_ => ((P0_ k_ ∨ P1_ k_) ∨ w.heap.size ≤ k_) ∧ k_ ≠ gb592) ho1 (fun k_ hk_ => ⟨(.inr (Nat.le_trans (below_size (by repeat (first | (with_reducible first | exact HB.out | apply below_alloc | apply pw_below_drewN | apply below_drew1 | refine below_set ?_ GE592.out) | exact HB.out))) hk_)), (Kd.freshB (g := gb592) (o := .cells #[.slice none 0 0, .slice none 0 0] 66 (0, 0)) (by (with_reducible repeat (first | refine blk_drewN ?_ _ | refine blk_drew ?_ | refine blk_alloc ?_ _)); exact BK592.out) k_ hk_)⟩)) (below_size (by repeat (first | (with_reducible first | exact HB.out | apply below_alloc | apply pw_below_drewN | apply below_drew1 | refine below_set ?_ GE592.out) | exact HB.out)))); have n7_ := Aside0.mk (blk_below (g := gb592) (o := .cells #[.slice none 0 0, .slice none 0 0] 66 (0, 0)) (by (with_reducible repeat (first | refine blk_drewN ?_ _ | refine blk_drew ?_ | refine blk_alloc ?_ _)); exact BK592.out) hb); have n8_ := Aside0.mk (below_step (by repeat (first | (with_reducible first | exact HB.out | apply below_alloc | apply pw_below_drewN | apply below_drew1 | refine below_set ?_ GE592.out) | exact HB.out)) hb); clear HO0; clear HO1; clear HO595; clear HO598; clear HO601; clear BK592; clear HB; have HO0 := n0_; have HO1 := n1_; have HO595 := n2_; have HO598 := n3_; have HO601 := n4_; have HO604 := n5_; have HO607 := n6_; have BK592 := n7_; have HB := n8_; clear n0_ n1_ n2_ n3_ n4_ n5_ n6_ n7_ n8_; (try clear hb); (try clear hb2); (try clear hk); (try clear hi); (try clear ho0); (try clear ho1); obtain ⟨Ao11, co11, eo11⟩ := Kd.V_slice HO604.out; subst eo11; obtain ⟨Ao12, co12, eo12⟩ := Kd.V_slice HO598.out; subst eo12; have hcz13_0 : w10.cell? ⟨gb592, 0, none⟩ = some (.slice none 0 0) := (blk_cell BK592.out 0).trans rfl; have hcz13_1 : w10.cell? ⟨gb592, 1, none⟩ = some (.slice none 0 0) := (blk_cell BK592.out 1).trans rfl; have hfz13_0 := blk_frozen BK592.out 0; have hfz13_1 := blk_frozen BK592.out 1))
 refine bodyPost_ret (results_cell_row rfl _ _ gb592 66 #[.slice Ao12 t596.length co12, .slice Ao11 t602.length co11] (0, 0) _ rfl (by (with_reducible repeat (first | refine blk_drewN ?_ _ | refine blk_drew ?_ | refine blk_alloc ?_ _)); refine blk_put (cs := #[.slice Ao12 t596.length co12, .slice none 0 0]) ?_ 1 _ rfl; (with_reducible repeat (first | refine blk_drewN ?_ _ | refine blk_drew ?_ | refine blk_alloc ?_ _)); refine blk_put (cs := #[.slice none 0 0, .slice none 0 0]) ?_ 0 _ rfl; (with_reducible repeat (first | refine blk_drewN ?_ _ | refine blk_drew ?_ | refine blk_alloc ?_ _)); exact BK592.out) Tryd.underlying66 rfl (by kernel_rfl)) rfl ?_
 exact ⟨_, _, by first | rfl | (simp [errW_none, errW_some] <;> rfl) | (simp [*, errW_none, errW_some] <;> rfl), by (with_reducible repeat (first | apply Kd.V_alloc | apply Kd.V_drewN | apply Kd.V_drew)); exact Kd.V_mono (Kd.V_far (p := ⟨gb592, 1, none⟩) (Kd.V_far (p := ⟨gb592, 0, none⟩) (Kd.V_mono HO598.out (fun k_ hk => (⟨hk, hk.2⟩ : _ ∧ k_ ≠ gb592))) (fun _ hk => hk.2) (.slice Ao12 t596.length co12)) (fun _ hk => hk.2) (.slice Ao11 t602.length co11)) (fun _ hk => hk.1.1), by (with_reducible repeat (first | apply Kd.V_alloc | apply Kd.V_drewN | apply Kd.V_drew)); exact Kd.V_mono (Kd.V_far (p := ⟨gb592, 1, none⟩) (Kd.V_far (p := ⟨gb592, 0, none⟩) (Kd.V_mono HO604.out (fun k_ hk => (⟨hk, hk.2⟩ : _ ∧ k_ ≠ gb592))) (fun _ hk => hk.2) (.slice Ao12 t596.length co12)) (fun _ hk => hk.2) (.slice Ao11 t602.length co11)) (fun _ hk => hk.1.1), by repeat (first | (with_reducible first | exact HB.out | apply below_alloc | apply pw_below_drewN | apply below_drew1 | refine below_set ?_ GE592.out) | exact HB.out)⟩
end Go.Proofs.YtgkdealidnidiaaDoor.Na
namespace Go.Proofs.YtgkdealidnidiaaDoor.Na
open Go.RowKit Go.Proofs.YtgkdealidnidiaaDoorW.PrintWords Go.Proofs.YtgkdealidnidiaaDoorW.PrintLast Go.Proofs.YtgkdealidnidiaaDoorW.PrintMore Go.Proofs.YtgkdealidnidiaaDoor.Dg
set_option linter.unusedSimpArgs false
set_option linter.unusedVariables false
theorem lof_c {w : World} {u : Value} {x : Nat} (h1 : Nw w u x) (hx : (wd BW x).length ≤ 1000000) : Calls Tryd.prog 75 #[.agg #[u]] w fun e w' => ∃ z, e = .returned z ∧ Kf .i64 w.heap.size w' z (wd BD x) ∧ Below w.heap.size w w' := by
 obtain ⟨A1, c1, rfl, hc1, hC1⟩ := h1
 obtain ⟨k, hk⟩ := (lof_ev x hx).rounds
 refine (chafflaw01_Of.calls k A1 c1 _ _ w hC1 hc1 hk).mono ?_
 rintro e w' ⟨v0, rfl, hV, hB⟩
 exact ⟨v0, rfl, hV, hB⟩
end Go.Proofs.YtgkdealidnidiaaDoor.Na
namespace Go.Proofs.YtgkdealidnidiaaDoor.Na
open Go.RowKit Go.Proofs.YtgkdealidnidiaaDoorW.PrintWords Go.Proofs.YtgkdealidnidiaaDoorW.PrintLast Go.Proofs.YtgkdealidnidiaaDoorW.PrintMore Go.Proofs.YtgkdealidnidiaaDoor.Dg
set_option linter.unusedSimpArgs false
set_option linter.unusedVariables false
theorem infoQ : (Tryd.prog.info? 66).map (·.size) = some 2 := by kernel_rfl
def qb (W : World) (b : Nat) (u v : Value) : Prop := W.heap[b]? = some (.cells #[u, v] 66 (0, 0))
theorem qb.below {W W' : World} {b : Nat} {u v : Value} (h : qb W b u v) (hb : Below W.heap.size W W') : qb W' b u v := (hb.block _ (Array.getElem?_eq_some_iff.1 h).1).trans h
theorem qb.new (W : World) (u v : Value) : qb (W.alloc (.cells #[u, v] 66)) W.heap.size u v := heap_alloc_new W _
theorem qb.lt {W : World} {b : Nat} {u v : Value} (h : qb W b u v) : b < W.heap.size := (Array.getElem?_eq_some_iff.1 h).1
theorem qb.put {W : World} {b : Nat} {u v : Value} (h : qb W b u v) (x y : Value) : qb (W.setRow b #[x, y]) b x y := setRow_heap W b _ #[x, y] 66 (0, 0) h
set_option maxRecDepth 100000 in
set_option maxHeartbeats 8000000 in
theorem refstr_c {w : World} {A1 A2 : Option Addr} {n1 n2 c1 c2 x y : Nat} (h1 : Dw w (.slice A1 n1 c1) x) (h2 : Dw w (.slice A2 n2 c2) y) (lx : (wd BW x).length ≤ 10000) (ly : (wd BW y).length ≤ 10000) :
  Calls Tryd.prog 50 #[.agg #[.slice A1 n1 c1, .slice A2 n2 c2]] w fun e w' => e = .returned (.string (decS x ++ ⟨#[47]⟩ ++ decS y)) ∧ Below w.heap.size w w' := by
 have hu66 := Tryd.underlying66
 have lxD := len_BD lx
 have lyD := len_BD ly
 have sx : (decS x).size ≤ 200001 := by have h := dec_bound x; have e : (decS x).size = (Lib.decDigits x).length := bs_size _; omega
 have sy : (decS y).size ≤ 200001 := by have h := dec_bound y; have e : (decS y).size = (Lib.decDigits y).length := bs_size _; omega
 obtain ⟨X, hX⟩ : ∃ X, decS x = X := ⟨_, rfl⟩
 obtain ⟨Y, hY⟩ : ∃ Y, decS y = Y := ⟨_, rfl⟩
 rw [hX] at sx ⊢
 rw [hY] at sy ⊢
 have HX := Aside0.mk hX
 have HY := Aside0.mk hY
 clear hX hY
 have e1 : X.size + (⟨#[47]⟩ : ByteArray).size ≤ 9223372036854775807 := by show X.size + 1 ≤ _; omega
 obtain ⟨Z, hZ⟩ : ∃ Z, X ++ ⟨#[47]⟩ = Z := ⟨_, rfl⟩
 have e2 : Z.size + Y.size ≤ 9223372036854775807 := by rw [← hZ, ByteArray.size_append]; show X.size + 1 + _ ≤ _; omega
 have e3 : ¬ 9223372036854775807 < X.size + 1 := by omega
 have e4 : ¬ 9223372036854775807 < Z.size + Y.size := by omega
 go_enter Tryd.func50, Tryd.ntmps50
 go_wp2_with fail
 have hB : Below w.heap.size w (w.alloc (Obj.cells #[.slice A1 n1 c1, .slice A2 n2 c2] 66)) := below_alloc (Below.refl _ _) _
 have f_q := qb.new w (.slice A1 n1 c1) (.slice A2 n2 c2)
 replace h1 := h1.below hB
 replace h2 := h2.below hB
 generalize (w.alloc (Obj.cells #[.slice A1 n1 c1, .slice A2 n2 c2] 66)) = w_1 at f_q h1 h2 hB ⊢
 have hb : Below w_1.heap.size w_1 w_1.drew := below_drew (Below.refl _ _)
 refine start_ (n := 9) (S := fun w' => Below w_1.drew.heap.size w_1.drew w') (ds := []) #[false, false, false, false, false, false, false, false, false] (by kernel_rfl) rfl rfl (Below.refl _ _) (fun hS => ?_)
 replace h1 := h1.below hb
 replace h2 := h2.below hb
 replace f_q := f_q.below hb
 replace hB := hB.trans (hb.mono hB.size)
 clear hb
 generalize w_1.drew = w_2 at h1 h2 f_q hB hS ⊢
 have sf_q := f_q
 refine pure_ (i := 0) (N := some 3) (v := ?_) (a' := ?_) #[true, false, false, false, false, false, false, false, false] rfl rfl (by kernel_rfl) (fun _ _ _ h => h) (Or.inl ⟨by rfl, ?_⟩) ?_ ?_
 rotate_left
 ·intro w'
  go_simp
  with_reducible rfl
 rotate_left
 ·simp only [Act.put, List.setIfInBounds_toArray, List.set_cons_zero, List.set_cons_succ, i64_w, i32_w]
  rfl
 refine take_ (i := 1) (N := some 4) (v := ?_) (a' := ?_) #[true, true, false, false, false, false, false, false, false] rfl rfl (by kernel_rfl) (fun _ _ _ h => h) (Or.inl ⟨by rfl, ?_⟩) hS ?_ ?_
 rotate_left
 ·intro w' hS_
  have k_ := (blk_cell (qb.below sf_q hS_) 0).trans rfl
  go_simp
  with_reducible rfl
 rotate_left
 ·simp only [Act.put, List.setIfInBounds_toArray, List.set_cons_zero, List.set_cons_succ, i64_w, i32_w]
  rfl
 refine pure_ (i := 4) (N := some 7) (v := ?_) (a' := ?_) #[true, true, false, false, true, false, false, false, false] rfl rfl (by kernel_rfl) (fun _ _ _ h => h) (Or.inl ⟨by rfl, ?_⟩) ?_ ?_
 rotate_left
 ·intro w'
  go_simp
  with_reducible rfl
 rotate_left
 ·simp only [Act.put, List.setIfInBounds_toArray, List.set_cons_zero, List.set_cons_succ, i64_w, i32_w]
  rfl
 refine take_ (i := 5) (N := some 8) (v := ?_) (a' := ?_) #[true, true, false, false, true, true, false, false, false] rfl rfl (by kernel_rfl) (fun _ _ _ h => h) (Or.inl ⟨by rfl, ?_⟩) hS ?_ ?_
 rotate_left
 ·intro w' hS_
  have k_ := (blk_cell (qb.below sf_q hS_) 1).trans rfl
  go_simp
  with_reducible rfl
 rotate_left
 ·simp only [Act.put, List.setIfInBounds_toArray, List.set_cons_zero, List.set_cons_succ, i64_w, i32_w]
  rfl
 refine one_ (i := 2) (N := some 5) #[true, true, true, false, true, true, false, false, false] rfl rfl (by kernel_rfl) (by decide) (fun K hK => ?_)
 refine goes_ Tryd.func24 (by kernel_rfl) rfl #[.slice A1 n1 c1] (by rfl) rfl rfl (by (try simp only [List.map_toArray, List.map_cons, List.map_nil]); first | done | rfl | (simp only [List.length_drop, List.length_take]; rfl)) ?_
 have F := rstr_c h1 (by omega)
 rw [HX.out] at F
 refine (F).mono ?_
 rintro e w_3 ⟨rfl, hb⟩
 refine ⟨_, rfl, ?_⟩
 replace hS := hS.trans (hb.mono hS.size)
 replace h1 := h1.below hb
 replace h2 := h2.below hb
 replace f_q := f_q.below hb
 replace hB := hB.trans (hb.mono hB.size)
 clear hb
 refine hK.out _ _ hS (fun hS => ?_)
 clear hK K
 refine norm_ (a' := ?_) ?_ ?_
 rotate_left
 ·show Act.put _ (some 5) _ = _
  simp only [Act.put, List.setIfInBounds_toArray, List.set_cons_zero, List.set_cons_succ, i64_w, i32_w]
  rfl
 clear F
 refine pure_ (i := 3) (N := some 6) (v := ?_) (a' := ?_) #[true, true, true, true, true, true, false, false, false] rfl rfl (by kernel_rfl) (fun _ _ _ h => h) (Or.inl ⟨by rfl, ?_⟩) ?_ ?_
 rotate_left
 ·intro w'
  go_simp
  with_reducible rfl
 rotate_left
 ·simp only [Act.put, List.setIfInBounds_toArray, List.set_cons_zero, List.set_cons_succ, i64_w, i32_w]
  rfl
 refine one_ (i := 6) (N := some 9) #[true, true, true, true, true, true, true, false, false] rfl rfl (by kernel_rfl) (by decide) (fun K hK => ?_)
 refine goes_ Tryd.func24 (by kernel_rfl) rfl #[.slice A2 n2 c2] (by rfl) rfl rfl (by (try simp only [List.map_toArray, List.map_cons, List.map_nil]); first | done | rfl | (simp only [List.length_drop, List.length_take]; rfl)) ?_
 have F := rstr_c h2 (by omega)
 rw [HY.out] at F
 refine (F).mono ?_
 rintro e w_4 ⟨rfl, hb⟩
 refine ⟨_, rfl, ?_⟩
 replace hS := hS.trans (hb.mono hS.size)
 replace h1 := h1.below hb
 replace h2 := h2.below hb
 replace f_q := f_q.below hb
 replace hB := hB.trans (hb.mono hB.size)
 clear hb
 refine hK.out _ _ hS (fun hS => ?_)
 clear hK K
 refine norm_ (a' := ?_) ?_ ?_
 rotate_left
 ·show Act.put _ (some 9) _ = _
  simp only [Act.put, List.setIfInBounds_toArray, List.set_cons_zero, List.set_cons_succ, i64_w, i32_w]
  rfl
 clear F
 refine pure_ (i := 7) (N := some 10) (v := ?_) (a' := ?_) #[true, true, true, true, true, true, true, true, false] rfl rfl (by kernel_rfl) (fun _ _ _ h => h) (Or.inl ⟨by rfl, ?_⟩) ?_ ?_
 rotate_left
 ·intro w'
  go_simp
  with_reducible rfl
 rotate_left
 ·simp only [Act.put, List.setIfInBounds_toArray, List.set_cons_zero, List.set_cons_succ, i64_w, i32_w]
  rfl
 refine pure_ (i := 8) (N := some 2) (v := ?_) (a' := ?_) #[true, true, true, true, true, true, true, true, true] rfl rfl (by kernel_rfl) (fun _ _ _ h => h) (Or.inl ⟨by rfl, ?_⟩) ?_ ?_
 rotate_left
 ·intro w'
  go_simp
  with_reducible rfl
 rotate_left
 ·simp only [Act.put, List.setIfInBounds_toArray, List.set_cons_zero, List.set_cons_succ, i64_w, i32_w]
  rfl
 refine done_ (by kernel_rfl) ?_
 go_wp2
 go_ret
 exact ⟨by rw [hZ]; rfl, hB⟩
set_option maxRecDepth 100000 in
set_option maxHeartbeats 8000000 in
theorem of2_c {w : World} {A1 A2 : Option Addr} {n1 n2 c1 c2 x y : Nat} (h1 : Nw w (.slice A1 n1 c1) x) (h2 : Nw w (.slice A2 n2 c2) y) (lx : (wd BW x).length ≤ 10000) (ly : (wd BW y).length ≤ 10000) :
  Calls Tryd.prog 87 #[.agg #[.slice A1 n1 c1, .slice A2 n2 c2, .bool true]] w fun e w' => ∃ z z', e = .returned (.agg #[z, z']) ∧ Dw w' z x ∧ Dw w' z' y ∧ Below w.heap.size w w' := by
 have hu62 := Tryd.underlying62
 have hu66 := Tryd.underlying66
 have f_1 : rb ((w.alloc (.cells #[.slice A1 n1 c1, .slice A2 n2 c2, .bool true] 62)).alloc (.cells #[.slice none 0 0, .slice none 0 0] 66)) w.heap.size (.slice A1 n1 c1) (.slice A2 n2 c2) true := (rb.new w _ _ _).alloc _
 have f_2 : qb ((w.alloc (.cells #[.slice A1 n1 c1, .slice A2 n2 c2, .bool true] 62)).alloc (.cells #[.slice none 0 0, .slice none 0 0] 66)) (w.heap.size + 1) (.slice none 0 0) (.slice none 0 0) := by have h := qb.new (w.alloc (.cells #[.slice A1 n1 c1, .slice A2 n2 c2, .bool true] 62)) (.slice none 0 0) (.slice none 0 0); simpa using h
 have hB : Below w.heap.size w ((w.alloc (.cells #[.slice A1 n1 c1, .slice A2 n2 c2, .bool true] 62)).alloc (.cells #[.slice none 0 0, .slice none 0 0] 66)) := below_alloc (below_alloc (Below.refl _ _) _) _
 go_enter Tryd.func87, Tryd.ntmps87
 go_wp2_with fail
 replace h1 := h1.below hB
 replace h2 := h2.below hB
 generalize ((w.alloc (.cells #[.slice A1 n1 c1, .slice A2 n2 c2, .bool true] 62)).alloc (.cells #[.slice none 0 0, .slice none 0 0] 66)) = w_1 at f_1 f_2 h1 h2 hB ⊢
 have l_2 : w.heap.size ≤ w.heap.size + 1 := by omega
 generalize w.heap.size + 1 = b_2 at f_2 l_2 ⊢
 have hb : Below w_1.heap.size w_1 w_1.drew := below_drew (Below.refl _ _)
 refine start_ (n := 8) (S := fun w' => Below w_1.drew.heap.size w_1.drew w') (ds := [7]) #[false, false, false, false, false, false, false, false] (by kernel_rfl) rfl rfl (Below.refl _ _) (fun hS => ?_)
 replace h1 := h1.below hb
 replace h2 := h2.below hb
 replace f_1 := f_1.below hb
 replace f_2 := f_2.below hb
 replace hB := hB.trans (hb.mono hB.size)
 clear hb
 generalize w_1.drew = w_2 at h1 h2 f_1 f_2 hB hS ⊢
 have sf_1 := f_1
 refine take_ (i := 0) (N := some 3) (v := ?_) (a' := ?_) #[true, false, false, false, false, false, false, false] rfl rfl (by kernel_rfl) (fun _ _ _ h => h) (Or.inl ⟨by rfl, ?_⟩) hS ?_ ?_
 rotate_left
 ·intro w' hS_
  have k0_ := (blk_cell (rb.below sf_1 hS_) 0).trans rfl
  have k1_ := (blk_cell (rb.below sf_1 hS_) 1).trans rfl
  have k2_ := (blk_cell (rb.below sf_1 hS_) 2).trans rfl
  go_simp
  with_reducible rfl
 rotate_left
 ·simp only [Act.put, List.setIfInBounds_toArray, List.set_cons_zero, List.set_cons_succ, i64_w, i32_w]
  rfl
 refine take_ (i := 3) (N := some 6) (v := ?_) (a' := ?_) #[true, false, false, true, false, false, false, false] rfl rfl (by kernel_rfl) (fun _ _ _ h => h) (Or.inl ⟨by rfl, ?_⟩) hS ?_ ?_
 rotate_left
 ·intro w' hS_
  have k0_ := (blk_cell (rb.below sf_1 hS_) 0).trans rfl
  have k1_ := (blk_cell (rb.below sf_1 hS_) 1).trans rfl
  have k2_ := (blk_cell (rb.below sf_1 hS_) 2).trans rfl
  go_simp
  with_reducible rfl
 rotate_left
 ·simp only [Act.put, List.setIfInBounds_toArray, List.set_cons_zero, List.set_cons_succ, i64_w, i32_w]
  rfl
 refine one_ (i := 1) (N := some 4) #[true, true, false, true, false, false, false, false] rfl rfl (by kernel_rfl) (by decide) (fun K hK => ?_)
 refine goes_ Tryd.func88 (by kernel_rfl) rfl #[.agg #[.slice A1 n1 c1, .slice A2 n2 c2, .bool true]] (by rfl) rfl rfl (by (try simp only [List.map_toArray, List.map_cons, List.map_nil]); first | done | rfl | (simp only [List.length_drop, List.length_take]; rfl)) ?_
 refine (qnum_c).mono ?_
 rintro e w_3 ⟨rfl, hb⟩
 refine ⟨_, rfl, ?_⟩
 replace hS := hS.trans (hb.mono hS.size)
 replace h1 := h1.below hb
 replace h2 := h2.below hb
 replace f_1 := f_1.below hb
 replace f_2 := f_2.below hb
 replace hB := hB.trans (hb.mono hB.size)
 clear hb
 refine hK.out _ _ hS (fun hS => ?_)
 clear hK K
 refine norm_ (a' := ?_) ?_ ?_
 rotate_left
 ·show Act.put _ (some 4) _ = _
  simp only [Act.put, List.setIfInBounds_toArray, List.set_cons_zero, List.set_cons_succ, i64_w, i32_w]
  rfl
 have g1 := f_2.lt
 refine one_ (i := 2) (N := some 5) #[true, true, true, true, false, false, false, false] rfl rfl (by kernel_rfl) (by decide) (fun K hK => ?_)
 refine goes_ Tryd.func75 (by kernel_rfl) rfl #[.agg #[.slice A1 n1 c1]] (by rfl) rfl rfl (by (try simp only [List.map_toArray, List.map_cons, List.map_nil]); first | done | rfl | (simp only [List.length_drop, List.length_take]; rfl)) ?_
 refine (lof_c h1 (by omega)).mono ?_
 rintro e w_4 ⟨z_x, rfl, hx, hb⟩
 refine ⟨_, rfl, ?_⟩
 replace hS := hS.trans (hb.mono hS.size)
 replace h1 := h1.below hb
 replace h2 := h2.below hb
 replace f_1 := f_1.below hb
 replace f_2 := f_2.below hb
 replace hB := hB.trans (hb.mono hB.size)
 clear hb
 refine hK.out _ _ hS (fun hS => ?_)
 clear hK K
 refine norm_ (a' := ?_) ?_ ?_
 rotate_left
 ·show Act.put _ (some 5) _ = _
  simp only [Act.put, List.setIfInBounds_toArray, List.set_cons_zero, List.set_cons_succ, i64_w, i32_w]
  rfl
 obtain ⟨A_5, n_5, c_5, rfl⟩ := (Kf.kw hx).shape
 refine one_ (i := 4) (N := some 7) #[true, true, true, true, true, false, false, false] rfl rfl (by kernel_rfl) (by decide) (fun K hK => ?_)
 refine goes_ Tryd.func89 (by kernel_rfl) rfl #[.agg #[.slice A1 n1 c1, .slice A2 n2 c2, .bool true]] (by rfl) rfl rfl (by (try simp only [List.map_toArray, List.map_cons, List.map_nil]); first | done | rfl | (simp only [List.length_drop, List.length_take]; rfl)) ?_
 refine (qden_c).mono ?_
 rintro e w_6 ⟨rfl, hb⟩
 refine ⟨_, rfl, ?_⟩
 replace hS := hS.trans (hb.mono hS.size)
 replace h1 := h1.below hb
 replace h2 := h2.below hb
 replace f_1 := f_1.below hb
 replace f_2 := f_2.below hb
 replace hx := hx.below hb
 replace hB := hB.trans (hb.mono hB.size)
 clear hb
 refine hK.out _ _ hS (fun hS => ?_)
 clear hK K
 refine norm_ (a' := ?_) ?_ ?_
 rotate_left
 ·show Act.put _ (some 7) _ = _
  simp only [Act.put, List.setIfInBounds_toArray, List.set_cons_zero, List.set_cons_succ, i64_w, i32_w]
  rfl
 have g2 := f_2.lt
 refine one_ (i := 5) (N := some 8) #[true, true, true, true, true, true, false, false] rfl rfl (by kernel_rfl) (by decide) (fun K hK => ?_)
 refine goes_ Tryd.func75 (by kernel_rfl) rfl #[.agg #[.slice A2 n2 c2]] (by rfl) rfl rfl (by (try simp only [List.map_toArray, List.map_cons, List.map_nil]); first | done | rfl | (simp only [List.length_drop, List.length_take]; rfl)) ?_
 refine (lof_c h2 (by omega)).mono ?_
 rintro e w_7 ⟨z_y, rfl, hy, hb⟩
 refine ⟨_, rfl, ?_⟩
 replace hS := hS.trans (hb.mono hS.size)
 replace h1 := h1.below hb
 replace h2 := h2.below hb
 replace f_1 := f_1.below hb
 replace f_2 := f_2.below hb
 replace hx := hx.below hb
 replace hB := hB.trans (hb.mono hB.size)
 clear hb
 refine hK.out _ _ hS (fun hS => ?_)
 clear hK K
 refine norm_ (a' := ?_) ?_ ?_
 rotate_left
 ·show Act.put _ (some 8) _ = _
  simp only [Act.put, List.setIfInBounds_toArray, List.set_cons_zero, List.set_cons_succ, i64_w, i32_w]
  rfl
 obtain ⟨A_8, n_8, c_8, rfl⟩ := (Kf.kw hy).shape
 refine pure_ (i := 6) (N := some 9) (v := ?_) (a' := ?_) #[true, true, true, true, true, true, true, false] rfl rfl (by kernel_rfl) (fun _ _ _ h => h) (Or.inl ⟨by rfl, ?_⟩) ?_ ?_
 rotate_left
 ·intro w'
  go_simp
  with_reducible rfl
 rotate_left
 ·simp only [Act.put, List.setIfInBounds_toArray, List.set_cons_zero, List.set_cons_succ, i64_w, i32_w]
  rfl
 have hi2 : (Tryd.prog.info? 66).map (·.size) = some (#[(.slice A_5 n_5 c_5), (.slice A_8 n_8 c_8)] : Array Value).size := infoQ
 have ho2 : (#[(.slice A_5 n_5 c_5), (.slice A_8 n_8 c_8)] : Array Value).all (·.oneCell') = true := by kernel_rfl
 refine last_ (i := 7) (N := none) #[true, true, true, true, true, true, true, true] rfl rfl (by kernel_rfl) (by decide) (fun K hK => ?_)
 rw [if_pos (by rfl)]
 refine Cel.wp_store_none rfl 66 _ _ rfl b_2 #[(.slice A_5 n_5 c_5), (.slice A_8 n_8 c_8)] rfl rfl 66 _ f_2 hi2 rfl ho2 ?_
 refine hK.out _ _ ?_
 clear hK K
 refine done_ (by kernel_rfl) ?_
 go_wp2_with fail
 refine bodyPost_ret (results_cell_row rfl _ _ b_2 66 #[(.slice A_5 n_5 c_5), (.slice A_8 n_8 c_8)] (0, 0) _ rfl (f_2.put _ _) Tryd.underlying66 rfl infoQ) rfl ?_
 exact ⟨_, _, rfl, Kf.kw (Kw.setRow hx g1 _), Kf.kw (Kw.setRow hy g2 _), below_setRow hB l_2 _⟩
end Go.Proofs.YtgkdealidnidiaaDoor.Na
namespace Go.Proofs.YtgkdealidnidiaaDoor.Na
open Go.RowKit Go.Proofs.YtgkdealidnidiaaDoorW.PrintWords Go.Proofs.YtgkdealidnidiaaDoorW.PrintLast Go.Proofs.YtgkdealidnidiaaDoorW.PrintMore Go.Proofs.YtgkdealidnidiaaDoor.Dg
set_option linter.unusedSimpArgs false
set_option linter.unusedVariables false
set_option maxRecDepth 100000 in
set_option maxHeartbeats 8000000 in
theorem is2_c {w : World} {A1 A2 A3 A4 : Option Addr} {n1 n2 n3 n4 c1 c2 c3 c4 x y : Nat} (h1 : Nw w (.slice A1 n1 c1) x) (h2 : Nw w (.slice A2 n2 c2) y) (h3 : Dw w (.slice A3 n3 c3) x) (h4 : Dw w (.slice A4 n4 c4) y) (lx : (wd BW x).length ≤ 10000) (ly : (wd BW y).length ≤ 10000) :
  Calls Tryd.prog 48 #[.agg #[.slice A1 n1 c1, .slice A2 n2 c2, .bool true], .agg #[.slice A3 n3 c3, .slice A4 n4 c4]] w fun e w' => e = .returned (.bool true) ∧ Below w.heap.size w w' := by
 have hu62 := Tryd.underlying62
 have hu66 := Tryd.underlying66
 have lxD := len_BD lx
 have lyD := len_BD ly
 obtain ⟨W, eW⟩ : ∃ W, (w.alloc (.cells #[.slice A1 n1 c1, .slice A2 n2 c2, .bool true] 62)).alloc (.cells #[.slice A3 n3 c3, .slice A4 n4 c4] 66) = W := ⟨_, rfl⟩
 have f_2 : rb W w.heap.size (.slice A1 n1 c1) (.slice A2 n2 c2) true := by rw [← eW]; exact (rb.new w _ _ _).alloc _
 have f_3 : qb W (w.heap.size + 1) (.slice A3 n3 c3) (.slice A4 n4 c4) := by rw [← eW]; have h := qb.new (w.alloc (.cells #[.slice A1 n1 c1, .slice A2 n2 c2, .bool true] 62)) (.slice A3 n3 c3) (.slice A4 n4 c4); simpa using h
 have hB : Below w.heap.size w W := by rw [← eW]; exact below_alloc (below_alloc (Below.refl _ _) _) _
 go_enter Tryd.func48, Tryd.ntmps48
 go_wp2_with (first | refine Cel.wpList_load_row_w rfl 62 _ rfl w.heap.size rfl 62 #[.slice A1 n1 c1, .slice A2 n2 c2, .bool true] (0, 0) _ f_2 hu62 rfl infoR ?_)
 clear f_2 eW
 replace h1 := h1.below hB
 replace h2 := h2.below hB
 replace h3 := h3.below hB
 replace h4 := h4.below hB
 generalize w.heap.size + 1 = b_3 at f_3 ⊢
 refine (of2_c h1 h2 lx ly).mono ?_
 rintro e w1 ⟨z1, z2, rfl, hz1, hz2, hb⟩
 replace h3 := h3.below hb
 replace h4 := h4.below hb
 replace f_3 := f_3.below hb
 replace hB := hB.trans (hb.mono hB.size)
 clear hb
 obtain ⟨A5, n5, c5, rfl⟩ := hz1.shape
 obtain ⟨A6, n6, c6, rfl⟩ := hz2.shape
 obtain ⟨N, hN⟩ : ∃ N, (w1.alloc (.cells #[.slice none 0 0, .slice none 0 0] 66)).setRow w1.heap.size #[.slice A5 n5 c5, .slice A6 n6 c6] = N := ⟨_, rfl⟩
 have hA : Below w1.heap.size w1 N := by rw [← hN]; exact below_setRow (below_alloc (Below.refl _ _) _) (Nat.le_refl _) _
 have hi2 : (Tryd.prog.info? 66).map (·.size) = some (#[.slice A5 n5 c5, .slice A6 n6 c6] : Array Value).size := infoQ
 have ho2 : (#[.slice A5 n5 c5, .slice A6 n6 c6] : Array Value).all (·.oneCell') = true := by kernel_rfl
 have f_5 : qb N w1.heap.size (.slice A5 n5 c5) (.slice A6 n6 c6) := by rw [← hN]; exact (qb.new w1 _ _).put _ _
 have f_0 := qb.new w1 (.slice none 0 0) (.slice none 0 0)
 have k30 : N.cell? ⟨b_3, 0, none⟩ = some (.slice A3 n3 c3) := (blk_cell (f_3.below hA) 0).trans rfl
 have k50 : N.cell? ⟨w1.heap.size, 0, none⟩ = some (.slice A5 n5 c5) := (blk_cell f_5 0).trans rfl
 go_wp2_with (first | refine wpList_store_row rfl 66 _ _ rfl w1.heap.size #[.slice A5 n5 c5, .slice A6 n6 c6] rfl rfl 66 _ f_0 hi2 rfl ho2 ?_)
 replace h3 := h3.below hA
 replace h4 := h4.below hA
 replace hz1 := hz1.below hA
 replace hz2 := hz2.below hA
 replace f_3 := f_3.below hA
 replace hB := hB.trans (hA.mono hB.size)
 clear k30 k50 hN hA f_0 hi2 ho2
 generalize w1.heap.size = b_5 at f_5 ⊢
 have F := rcmp_c hz1 h3 (by omega)
 rw [cmpN_eq rfl] at F
 refine F.mono ?_
 rintro e w2 ⟨rfl, hb⟩
 replace h4 := h4.below hb
 replace hz2 := hz2.below hb
 replace f_3 := f_3.below hb
 replace f_5 := f_5.below hb
 replace hB := hB.trans (hb.mono hB.size)
 clear hb
 clear F
 have k31 : w2.cell? ⟨b_3, 1, none⟩ = some (.slice A4 n4 c4) := (blk_cell f_3 1).trans rfl
 have k51 : w2.cell? ⟨b_5, 1, none⟩ = some (.slice A6 n6 c6) := (blk_cell f_5 1).trans rfl
 go_wp2_with fail
 have F := rcmp_c hz2 h4 (by omega)
 rw [cmpN_eq rfl] at F
 refine F.mono ?_
 rintro e w3 ⟨rfl, hb⟩
 replace hB := hB.trans (hb.mono hB.size)
 clear hb
 go_wp2
 go_ret
 exact ⟨rfl, hB⟩
end Go.Proofs.YtgkdealidnidiaaDoor.Na
