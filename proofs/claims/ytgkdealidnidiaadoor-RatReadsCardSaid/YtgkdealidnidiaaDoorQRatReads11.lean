/- Texts of the seat, as far as the row needs them. -/
import Derived.ArgAppend
import Derived.Below
import Derived.BigQuiet
import Derived.ChangeArms
import Derived.ChangeSlices
import Derived.DataReads
import Derived.Deep.AppendLies
import Derived.Deep.CutBlock
import Derived.Deep.DeepCutAuto
import Derived.Deep.Draws
import Derived.Deep.Light
import Derived.Deep.LoopGhost
import Derived.Deep.OwnRows
import Derived.Deep.QuietTactic
import Derived.Deep.RegionHeld3
import Derived.Ground.Names2Prog
import Derived.KernelRfl
import Derived.LaidMore
import Derived.LaidSub
import Derived.Laws.AppendOwn
import Derived.Laws.BitsAllLaws
import Derived.Laws.BitsLemmas
import Derived.Laws.BytesArg
import Derived.Laws.CopyOwn
import Derived.Laws.Externs
import Derived.Laws.IdiomCopy
import Derived.Laws.MakeOwn
import Derived.Laws.OwnMore
import Derived.Laws.ResultCell
import Derived.Laws.Rows
import Derived.Laws.Slices
import Derived.Laws.StructEq
import Derived.Laws.Tables
import Derived.Lib.AppendIntMem
import Derived.Lib.AppendStr
import Derived.Lib.BitFns
import Derived.Lib.ConvBytes
import Derived.Lib.ItoaMem
import Derived.Lib.Join
import Derived.Lib.LazyBuf
import Derived.Lib.OwnBridge
import Derived.Lib.Repeat
import Derived.Lib.SliceRun
import Derived.Lib.SmallJoins
import Derived.Lib.Strings
import Derived.Lib.Walk
import Derived.MakeChecks
import Derived.Maps.AppendAt
import Derived.OrdersHeld
import Derived.Outline
import Derived.OwnWalk
import Derived.ProofKit
import Derived.RowKit
import Derived.RowKit3
import Derived.Shelf.Bits.Mul64
import Derived.Shelf.LaysM
import Derived.Shelf.Slices.Cells
import Derived.Shelf.Slices.CompactI
import Derived.Shelf.Slices.ReverseS
import Derived.Shelf.Small.Bits
import Derived.Shelf.Spec.BitsCarry
import Derived.Shelf.Strconv.Itoa0
import Derived.Shelf.Strconv.Itoa1
import Derived.Shelf.Strconv.Itoa2
import Derived.Shelf.Strings.Builder1
import Derived.Shelf.Strings.Builder2
import Derived.Shelf.Strings.Builder2Cap
import Derived.Shelf.Strings.BuilderCap
import Derived.Shelf.Strings.BuilderF
import Derived.Shelf.Strings.BuilderK
import Derived.Shelf.Strings.OnBuilder
import Derived.Shelf.Strings.Prefix
import Derived.Shelf.Strings.Repeat
import Derived.StillTailTactics
import Derived.Tactics
import Derived.Test.YtgkdealidnidiaaDoorProg
import Derived.Test.YtgkdealidnidiaaDoorRows
import Derived.WalkKit
import Derived.WideLaws
import Derived.WideShapes
import Derived.Test.YtgkdealidnidiaaDoorQRatReads0
import Derived.Test.YtgkdealidnidiaaDoorQRatReads1
import Derived.Test.YtgkdealidnidiaaDoorQRatReads2
import Derived.Test.YtgkdealidnidiaaDoorQRatReads3
import Derived.Test.YtgkdealidnidiaaDoorQRatReads4
import Derived.Test.YtgkdealidnidiaaDoorQRatReads5
import Derived.Test.YtgkdealidnidiaaDoorQRatReads6
import Derived.Test.YtgkdealidnidiaaDoorQRatReads7
import Derived.Test.YtgkdealidnidiaaDoorQRatReads8
import Derived.Test.YtgkdealidnidiaaDoorQRatReads9
import Derived.Test.YtgkdealidnidiaaDoorQRatReads10
set_option linter.unusedVariables false
set_option linter.unusedSimpArgs false
namespace Go.Proofs.YtgkdealidnidiaaDoor.Na
open Go.RowKit Go.Proofs.YtgkdealidnidiaaDoorW.PrintWords Go.Proofs.YtgkdealidnidiaaDoorW.PrintLast Go.Proofs.YtgkdealidnidiaaDoorW.PrintMore Go.Proofs.YtgkdealidnidiaaDoor.Dg
set_option linter.unusedSimpArgs false
set_option linter.unusedVariables false
theorem rfromf_c {w : World} {u : Value} {l : List Int} {n : Nat} (h1 : Kw .u64 w u l) (hR : R BW l) (hV : V BW l = n) (hl : l.length ≤ 1000000) : Calls Tryd.prog 15 #[u] w fun e w' => ∃ z, e = .returned z ∧ Kf .i64 w.heap.size w' z (wd BD n) ∧ Below w.heap.size w w' := by
 obtain ⟨A1, c1, rfl, hc1, hC1⟩ := h1
 obtain ⟨k, hk⟩ := (rfrom_ev l n hR hV (by omega)).rounds
 refine (chaffref01_From.calls k A1 c1 _ _ w hC1 hc1 hk).mono ?_
 rintro e w' ⟨v0, rfl, hV, hB⟩
 exact ⟨v0, rfl, hV, hB⟩
theorem refnewf_c {w : World} {n0 : Nat} (hn0 : n0 ≤ w.heap.size) {u : Value} {x : Nat} (h1 : Kf .i64 n0 w u (wd BD x)) {v : Value} {y : Nat} (h2 : Kf .i64 n0 w v (wd BD y)) (hy0 : 0 < y) (hx : (wd BD x).length ≤ 100000) (hy : (wd BD y).length ≤ 100000) : Calls Tryd.prog 86 #[u, v] w fun e w' => ∃ z z', e = .returned (.agg #[z, z']) ∧ Kf .i64 n0 w' z (wd BD (x / Nat.gcd x y)) ∧ Kf .i64 n0 w' z' (wd BD (y / Nat.gcd x y)) ∧ Below w.heap.size w w' := by
 have hgp := Nat.gcd_pos_of_pos_right x hy0
 have lg : (wd BD (Nat.gcd x y)).length ≤ 1000000 := by
  have := len_mono (b := BD) (x := Nat.gcd x y) (y := y) (by decide) (Nat.le_of_dvd hy0 (Nat.gcd_dvd_right x y))
  omega
 have hE : Ev (fun k => chaffref02_New.f k (wd BD x) (wd BD y)) (wd BD (x / Nat.gcd x y), wd BD (y / Nat.gcd x y)) := by
  unfold chaffref02_New.f
  exact Ev.bind (rgcd_ev x y (by omega) (by omega)) (Ev.bind (rdiv_ev x _ hgp (by omega) lg) (Ev.bind (rdiv_ev y _ hgp (by omega) lg) (Ev.now _)))
 obtain ⟨k, hk⟩ := hE.rounds
 obtain ⟨A1, c1, rfl⟩ := Kd.V_slice h1
 obtain ⟨A2, c2, rfl⟩ := Kd.V_slice h2
 refine (chaffref02_New.calls k _ A1 c1 _ _ A2 c2 _ _ _ w h1 h2 hk).mono ?_
 rintro e w' ⟨v0, v1, rfl, hV, hV1, hB⟩
 exact ⟨v0, v1, rfl, Kd.V_mono hV (fun i hi => hi.elim (fun h => h.elim id id) (Nat.le_trans hn0)), Kd.V_mono hV1 (fun i hi => hi.elim (fun h => h.elim id id) (Nat.le_trans hn0)), hB⟩
set_option maxRecDepth 100000 in
set_option maxHeartbeats 8000000 in
theorem make_c {w : World} {A1 A2 : Option Addr} {c1 c2 k1 k2 : Nat} {l1 l2 : List Int} (h1 : Kw .u64 w (.slice A1 k1 c1) l1) (h2 : Kw .u64 w (.slice A2 k2 c2) l2) (r1 : R BW l1) (r2 : R BW l2) {m n : Nat} (em : V BW l1 = m) (en : V BW l2 = n) (ll1 : l1.length ≤ 30) (ll2 : l2.length ≤ 30) (lm : (wd BW m).length ≤ 30) (ln : (wd BW n).length ≤ 30) (hn0 : 0 < n) :
  Calls Tryd.prog 47 #[.slice A1 k1 c1, .slice A2 k2 c2] w fun e w' => ∃ z1 z2 d1 d2, e = .returned (.tuple #[.agg #[z1, z2, .bool true], .agg #[d1, d2], .bool true]) ∧ Nw w' z1 (m / Nat.gcd m n) ∧ Nw w' z2 (n / Nat.gcd m n) ∧ Dw w' d1 (m / Nat.gcd m n) ∧ Dw w' d2 (n / Nat.gcd m n) ∧ Below w.heap.size w w' := by
 have hu29 := Tryd.underlying29
 have hu62 := Tryd.underlying62
 have hu66 := Tryd.underlying66
 have lmD := len_BD lm
 have lnD := len_BD ln
 have f_4 : rb ((w.alloc (.cells #[.slice none 0 0, .slice none 0 0, .bool false] 62)).alloc (.cells #[.slice none 0 0, .slice none 0 0] 66)) w.heap.size (.slice none 0 0) (.slice none 0 0) false := (rb.new w _ _ _).alloc _
 have f_5 : qb ((w.alloc (.cells #[.slice none 0 0, .slice none 0 0, .bool false] 62)).alloc (.cells #[.slice none 0 0, .slice none 0 0] 66)) (w.heap.size + 1) (.slice none 0 0) (.slice none 0 0) := by have h := qb.new (w.alloc (.cells #[.slice none 0 0, .slice none 0 0, .bool false] 62)) (.slice none 0 0) (.slice none 0 0); simpa using h
 have hB : Below w.heap.size w ((w.alloc (.cells #[.slice none 0 0, .slice none 0 0, .bool false] 62)).alloc (.cells #[.slice none 0 0, .slice none 0 0] 66)) := below_alloc (below_alloc (Below.refl _ _) _) _
 go_enter Tryd.func47, Tryd.ntmps47
 go_wp2_with fail
 replace h1 := h1.below hB
 replace h2 := h2.below hB
 generalize ((w.alloc (.cells #[.slice none 0 0, .slice none 0 0, .bool false] 62)).alloc (.cells #[.slice none 0 0, .slice none 0 0] 66)) = w_1 at f_4 f_5 h1 h2 hB ⊢
 have l_4 : w.heap.size ≤ w.heap.size := Nat.le_refl _
 have l_5 : w.heap.size ≤ w.heap.size + 1 := by omega
 obtain ⟨b_4, e_4⟩ : ∃ b, w.heap.size = b := ⟨_, rfl⟩
 have n_45 : w.heap.size ≠ w.heap.size + 1 := by omega
 generalize w.heap.size + 1 = b_5 at f_5 l_5 n_45 ⊢
 clear e_4 b_4
 refine (fromk_c h1 r1 em (by omega) (by omega)).mono ?_
 rintro e w_2 ⟨z_a, rfl, ha, hb⟩
 replace h1 := h1.below hb
 replace h2 := h2.below hb
 replace f_4 := f_4.below hb
 replace f_5 := f_5.below hb
 replace hB := hB.trans (hb.mono hB.size)
 clear hb
 obtain ⟨A_3, n_3, c_3, rfl⟩ := ha.shape
 have hA : Below w_2.heap.size w_2 (w_2.alloc (.cells #[(.slice A_3 n_3 c_3)] 29)) := below_alloc (Below.refl _ _) _
 have f_a := bx.new w_2 (.slice A_3 n_3 c_3)
 go_wp2_with fail
 replace h1 := h1.below hA
 replace h2 := h2.below hA
 replace f_4 := f_4.below hA
 replace f_5 := f_5.below hA
 replace ha := ha.below hA
 replace hB := hB.trans (hA.mono hB.size)
 clear hA
 generalize (w_2.alloc (.cells #[(.slice A_3 n_3 c_3)] 29)) = w_4 at f_a h1 h2 f_4 f_5 ha hB ⊢
 generalize w_2.heap.size = b_a at f_a ⊢
 refine (fromk_c h2 r2 en (by omega) (by omega)).mono ?_
 rintro e w_5 ⟨z_b, rfl, hbb, hb⟩
 replace h1 := h1.below hb
 replace h2 := h2.below hb
 replace f_4 := f_4.below hb
 replace f_5 := f_5.below hb
 replace ha := ha.below hb
 replace f_a := f_a.below hb
 replace hB := hB.trans (hb.mono hB.size)
 clear hb
 obtain ⟨A_6, n_6, c_6, rfl⟩ := hbb.shape
 have g_b := bx.new w_5 (.slice A_6 n_6 c_6)
 have hA : Below w_5.heap.size w_5 (w_5.alloc (.cells #[(.slice A_6 n_6 c_6)] 29)) := below_alloc (Below.refl _ _) _
 go_wp2_with (first | refine Cel.wpList_load_row_w rfl 29 _ rfl w_5.heap.size rfl 29 #[(.slice A_6 n_6 c_6)] (0, 0) _ g_b hu29 rfl infoN ?_)
 replace h1 := h1.below hA
 replace h2 := h2.below hA
 replace f_4 := f_4.below hA
 replace f_5 := f_5.below hA
 replace ha := ha.below hA
 replace hbb := hbb.below hA
 replace f_a := f_a.below hA
 replace hB := hB.trans (hA.mono hB.size)
 clear hA
 generalize (w_5.alloc (.cells #[(.slice A_6 n_6 c_6)] 29)) = w_30 at g_b h1 h2 f_4 f_5 ha hbb f_a hB ⊢
 generalize w_5.heap.size = b_b at g_b ⊢
 have F := zero_c hbb
 rw [decide_eq_false (show ¬ n = 0 by omega)] at F
 refine (F).mono ?_
 rintro e w_31 ⟨rfl, hb⟩
 replace h1 := h1.below hb
 replace h2 := h2.below hb
 replace f_4 := f_4.below hb
 replace f_5 := f_5.below hb
 replace ha := ha.below hb
 replace hbb := hbb.below hb
 replace f_a := f_a.below hb
 replace g_b := g_b.below hb
 replace hB := hB.trans (hb.mono hB.size)
 clear hb
 clear F
 go_wp2_with (first | refine Cel.wpList_load_row_w rfl 29 _ rfl b_a rfl 29 #[(.slice A_3 n_3 c_3)] (0, 0) _ f_a hu29 rfl infoN ?_ | refine Cel.wpList_load_row_w rfl 29 _ rfl b_b rfl 29 #[(.slice A_6 n_6 c_6)] (0, 0) _ g_b hu29 rfl infoN ?_)
 have g4 := f_4.lt
 have g5 := f_5.lt
 refine (newk_c ha hbb (by omega) (by omega) hn0).mono ?_
 rintro e w_32 ⟨z, z', rfl, hz, hz', hb⟩
 replace h1 := h1.below hb
 replace h2 := h2.below hb
 replace f_4 := f_4.below hb
 replace f_5 := f_5.below hb
 replace f_a := f_a.below hb
 replace g_b := g_b.below hb
 replace hB := hB.trans (hb.mono hB.size)
 clear hb
 clear f_a g_b
 obtain ⟨A_33, n_33, c_33, rfl⟩ := (Kf.kw hz).shape
 obtain ⟨A_34, n_34, c_34, rfl⟩ := (Kf.kw hz').shape
 have hA : Below w_32.heap.size w_32 ((w_32.alloc (.cells #[.slice none 0 0, .slice none 0 0, .bool false] 62)).setRow w_32.heap.size #[(.slice A_33 n_33 c_33), (.slice A_34 n_34 c_34), .bool true]) := below_setRow (below_alloc (Below.refl _ _) _) (Nat.le_refl _) _
 have hi2 : (Tryd.prog.info? 62).map (·.size) = some (#[(.slice A_33 n_33 c_33), (.slice A_34 n_34 c_34), .bool true] : Array Value).size := infoR
 have ho2 : (#[(.slice A_33 n_33 c_33), (.slice A_34 n_34 c_34), .bool true] : Array Value).all (·.oneCell') = true := by kernel_rfl
 have f_r : rb ((w_32.alloc (.cells #[.slice none 0 0, .slice none 0 0, .bool false] 62)).setRow w_32.heap.size #[(.slice A_33 n_33 c_33), (.slice A_34 n_34 c_34), .bool true]) w_32.heap.size (.slice A_33 n_33 c_33) (.slice A_34 n_34 c_34) true := (rb.new w_32 _ _ _).put _
 go_wp2_with (first | refine wpList_store_row rfl 62 _ _ rfl w_32.heap.size #[(.slice A_33 n_33 c_33), (.slice A_34 n_34 c_34), .bool true] rfl rfl 62 _ (rb.new w_32 _ _ _) hi2 rfl ho2 ?_)
 replace h1 := h1.below hA
 replace h2 := h2.below hA
 replace f_4 := f_4.below hA
 replace f_5 := f_5.below hA
 replace hz := hz.below hA
 replace hz' := hz'.below hA
 replace hB := hB.trans (hA.mono hB.size)
 clear hA hi2 ho2
 generalize ((w_32.alloc (.cells #[.slice none 0 0, .slice none 0 0, .bool false] 62)).setRow w_32.heap.size #[(.slice A_33 n_33 c_33), (.slice A_34 n_34 c_34), .bool true]) = w_35 at f_r h1 h2 f_4 f_5 hz hz' hB ⊢
 generalize w_32.heap.size = b_r at f_r ⊢
 have hb : Below w_35.heap.size w_35 w_35.drew := below_drew (Below.refl _ _)
 refine start_ (n := 11) (S := fun w' => Below w_35.drew.heap.size w_35.drew w') (ds := [8, 9]) #[false, false, false, false, false, false, false, false, false, false, false] (by kernel_rfl) rfl rfl (Below.refl _ _) (fun hS => ?_)
 replace h1 := h1.below hb
 replace h2 := h2.below hb
 replace f_4 := f_4.below hb
 replace f_5 := f_5.below hb
 replace hz := hz.below hb
 replace hz' := hz'.below hb
 replace f_r := f_r.below hb
 replace hB := hB.trans (hb.mono hB.size)
 clear hb
 generalize w_35.drew = w_36 at h1 h2 f_4 f_5 hz hz' f_r hB hS ⊢
 have sf_r := f_r
 have g44 := f_4.lt
 have g55 := f_5.lt
 refine take_ (i := 0) (N := some 41) (v := ?_) (a' := ?_) #[true, false, false, false, false, false, false, false, false, false, false] rfl rfl (by kernel_rfl) (fun _ _ _ h => h) (Or.inl ⟨by rfl, ?_⟩) hS ?_ ?_
 rotate_left
 ·intro w' hS_
  have k0_ := (blk_cell (rb.below sf_r hS_) 0).trans rfl
  have k1_ := (blk_cell (rb.below sf_r hS_) 1).trans rfl
  have k2_ := (blk_cell (rb.below sf_r hS_) 2).trans rfl
  go_simp
  with_reducible rfl
 rotate_left
 ·simp only [Act.put, List.setIfInBounds_toArray, List.set_cons_zero, List.set_cons_succ, i64_w, i32_w]
  rfl
 refine pure_ (i := 1) (N := some 42) (v := ?_) (a' := ?_) #[true, true, false, false, false, false, false, false, false, false, false] rfl rfl (by kernel_rfl) (fun _ _ _ h => h) (Or.inl ⟨by rfl, ?_⟩) ?_ ?_
 rotate_left
 ·intro w'
  go_simp
  with_reducible rfl
 rotate_left
 ·simp only [Act.put, List.setIfInBounds_toArray, List.set_cons_zero, List.set_cons_succ, i64_w, i32_w]
  rfl
 refine pure_ (i := 3) (N := some 44) (v := ?_) (a' := ?_) #[true, true, false, true, false, false, false, false, false, false, false] rfl rfl (by kernel_rfl) (fun _ _ _ h => h) (Or.inl ⟨by rfl, ?_⟩) ?_ ?_
 rotate_left
 ·intro w'
  go_simp
  with_reducible rfl
 rotate_left
 ·simp only [Act.put, List.setIfInBounds_toArray, List.set_cons_zero, List.set_cons_succ, i64_w, i32_w]
  rfl
 refine pure_ (i := 6) (N := some 47) (v := ?_) (a' := ?_) #[true, true, false, true, false, false, true, false, false, false, false] rfl rfl (by kernel_rfl) (fun _ _ _ h => h) (Or.inl ⟨by rfl, ?_⟩) ?_ ?_
 rotate_left
 ·intro w'
  go_simp
  with_reducible rfl
 rotate_left
 ·simp only [Act.put, List.setIfInBounds_toArray, List.set_cons_zero, List.set_cons_succ, i64_w, i32_w]
  rfl
 refine pure_ (i := 7) (N := some 48) (v := ?_) (a' := ?_) #[true, true, false, true, false, false, true, true, false, false, false] rfl rfl (by kernel_rfl) (fun _ _ _ h => h) (Or.inl ⟨by rfl, ?_⟩) ?_ ?_
 rotate_left
 ·intro w'
  go_simp
  with_reducible rfl
 rotate_left
 ·simp only [Act.put, List.setIfInBounds_toArray, List.set_cons_zero, List.set_cons_succ, i64_w, i32_w]
  rfl
 refine one_ (i := 2) (N := some 43) #[true, true, true, true, false, false, true, true, false, false, false] rfl rfl (by kernel_rfl) (by decide) (fun K hK => ?_)
 refine goes_ Tryd.func15 (by kernel_rfl) rfl #[.slice A1 k1 c1] (by rfl) rfl rfl (by (try simp only [List.map_toArray, List.map_cons, List.map_nil]); first | done | rfl | (simp only [List.length_drop, List.length_take]; rfl)) ?_
 refine (rfromf_c h1 r1 em (by omega)).mono ?_
 rintro e w_37 ⟨z_p, rfl, hp, hb⟩
 refine ⟨_, rfl, ?_⟩
 replace hS := hS.trans (hb.mono hS.size)
 replace h1 := h1.below hb
 replace h2 := h2.below hb
 replace f_4 := f_4.below hb
 replace f_5 := f_5.below hb
 replace hz := hz.below hb
 replace hz' := hz'.below hb
 replace f_r := f_r.below hb
 replace hB := hB.trans (hb.mono hB.size)
 clear hb
 refine hK.out _ _ hS (fun hS => ?_)
 clear hK K
 refine norm_ (a' := ?_) ?_ ?_
 rotate_left
 ·show Act.put _ (some 43) _ = _
  simp only [Act.put, List.setIfInBounds_toArray, List.set_cons_zero, List.set_cons_succ, i64_w, i32_w]
  rfl
 have HSZ := Aside0.mk hS.size
 refine one_ (i := 4) (N := some 45) #[true, true, true, true, true, false, true, true, false, false, false] rfl rfl (by kernel_rfl) (by decide) (fun K hK => ?_)
 refine goes_ Tryd.func15 (by kernel_rfl) rfl #[.slice A2 k2 c2] (by rfl) rfl rfl (by (try simp only [List.map_toArray, List.map_cons, List.map_nil]); first | done | rfl | (simp only [List.length_drop, List.length_take]; rfl)) ?_
 refine (rfromf_c h2 r2 en (by omega)).mono ?_
 rintro e w_38 ⟨z_q, rfl, hq, hb⟩
 refine ⟨_, rfl, ?_⟩
 replace hS := hS.trans (hb.mono hS.size)
 replace h1 := h1.below hb
 replace h2 := h2.below hb
 replace f_4 := f_4.below hb
 replace f_5 := f_5.below hb
 replace hz := hz.below hb
 replace hz' := hz'.below hb
 replace f_r := f_r.below hb
 replace hp := hp.below hb
 replace hB := hB.trans (hb.mono hB.size)
 clear hb
 refine hK.out _ _ hS (fun hS => ?_)
 clear hK K
 refine norm_ (a' := ?_) ?_ ?_
 rotate_left
 ·show Act.put _ (some 45) _ = _
  simp only [Act.put, List.setIfInBounds_toArray, List.set_cons_zero, List.set_cons_succ, i64_w, i32_w]
  rfl
 have hp' : Kf .i64 w_36.heap.size w_38 z_p _ := Kd.V_mono hp (fun i hi => hi)
 have hq' : Kf .i64 w_36.heap.size w_38 z_q _ := Kd.V_mono hq (fun i hi => Nat.le_trans HSZ.out hi)
 clear hp hq
 refine one_ (i := 5) (N := some 46) #[true, true, true, true, true, true, true, true, false, false, false] rfl rfl (by kernel_rfl) (by decide) (fun K hK => ?_)
 refine goes_ Tryd.func86 (by kernel_rfl) rfl #[z_p, z_q] (by rfl) rfl rfl (by (try simp only [List.map_toArray, List.map_cons, List.map_nil]); first | done | rfl | (simp only [List.length_drop, List.length_take]; rfl)) ?_
 refine (refnewf_c hS.size hp' hq' hn0 (by omega) (by omega)).mono ?_
 rintro e w_39 ⟨d1, d2, rfl, hd1, hd2, hb⟩
 refine ⟨_, rfl, ?_⟩
 replace hS := hS.trans (hb.mono hS.size)
 replace h1 := h1.below hb
 replace h2 := h2.below hb
 replace f_4 := f_4.below hb
 replace f_5 := f_5.below hb
 replace hz := hz.below hb
 replace hz' := hz'.below hb
 replace f_r := f_r.below hb
 replace hB := hB.trans (hb.mono hB.size)
 clear hb
 refine hK.out _ _ hS (fun hS => ?_)
 clear hK K
 refine norm_ (a' := ?_) ?_ ?_
 rotate_left
 ·show Act.put _ (some 46) _ = _
  simp only [Act.put, List.setIfInBounds_toArray, List.set_cons_zero, List.set_cons_succ, i64_w, i32_w]
  rfl
 obtain ⟨A_d, n_d, c_d, rfl⟩ := (Kf.kw hd1).shape
 obtain ⟨A_e, n_e, c_e, rfl⟩ := (Kf.kw hd2).shape
 have hi2 : (Tryd.prog.info? 62).map (·.size) = some (#[(.slice A_33 n_33 c_33), (.slice A_34 n_34 c_34), .bool true] : Array Value).size := infoR
 have ho2 : (#[(.slice A_33 n_33 c_33), (.slice A_34 n_34 c_34), .bool true] : Array Value).all (·.oneCell') = true := by kernel_rfl
 have hi6 : (Tryd.prog.info? 66).map (·.size) = some (#[(.slice A_d n_d c_d), (.slice A_e n_e c_e)] : Array Value).size := infoQ
 have ho6 : (#[(.slice A_d n_d c_d), (.slice A_e n_e c_e)] : Array Value).all (·.oneCell') = true := by kernel_rfl
 refine last_ (i := 8) (N := none) #[true, true, true, true, true, true, true, true, true, false, false] rfl rfl (by kernel_rfl) (by decide) (fun K hK => ?_)
 rw [if_pos (by rfl)]
 refine Cel.wp_store_none rfl 62 _ _ rfl w.heap.size #[(.slice A_33 n_33 c_33), (.slice A_34 n_34 c_34), .bool true] rfl rfl 62 _ f_4 hi2 rfl ho2 ?_
 refine hK.out _ _ ?_
 clear hK K
 have f_4' := f_4.put #[(.slice A_33 n_33 c_33), (.slice A_34 n_34 c_34), .bool true]
 have f_5' : qb (w_39.setRow w.heap.size #[(.slice A_33 n_33 c_33), (.slice A_34 n_34 c_34), .bool true]) b_5 (.slice none 0 0) (.slice none 0 0) := (setRow_other w_39 w.heap.size b_5 _ n_45.symm).trans f_5
 have q1 := Kw.setRow hz g4 #[(.slice A_33 n_33 c_33), (.slice A_34 n_34 c_34), .bool true]
 have q2 := Kw.setRow hz' g4 #[(.slice A_33 n_33 c_33), (.slice A_34 n_34 c_34), .bool true]
 have q3 := Kw.setRow hd1 g44 #[(.slice A_33 n_33 c_33), (.slice A_34 n_34 c_34), .bool true]
 have q4 := Kw.setRow hd2 g44 #[(.slice A_33 n_33 c_33), (.slice A_34 n_34 c_34), .bool true]
 replace hB := below_setRow hB l_4 #[(.slice A_33 n_33 c_33), (.slice A_34 n_34 c_34), .bool true]
 refine last_ (i := 9) (N := none) #[true, true, true, true, true, true, true, true, true, true, false] rfl rfl (by kernel_rfl) (by decide) (fun K hK => ?_)
 rw [if_pos (by rfl)]
 refine Cel.wp_store_none rfl 66 _ _ rfl b_5 #[(.slice A_d n_d c_d), (.slice A_e n_e c_e)] rfl rfl 66 _ f_5' hi6 rfl ho6 ?_
 refine hK.out _ _ ?_
 clear hK K
 refine pure_ (i := 10) (N := some 6) (v := ?_) (a' := ?_) #[true, true, true, true, true, true, true, true, true, true, true] rfl rfl (by kernel_rfl) (fun _ _ _ h => h) (Or.inl ⟨by rfl, ?_⟩) ?_ ?_
 rotate_left
 ·intro w'
  go_simp
  with_reducible rfl
 rotate_left
 ·simp only [Act.put, List.setIfInBounds_toArray, List.set_cons_zero, List.set_cons_succ, i64_w, i32_w]
  rfl
 refine done_ (by kernel_rfl) ?_
 go_wp2_with fail
 refine bodyPost_ret (results_list (rs := [.cell 4 62, .cell 5 66, .tmp 6]) rfl (by simp) (.cell w.heap.size 62 #[(.slice A_33 n_33 c_33), (.slice A_34 n_34 c_34), .bool true] (0, 0) _ rfl ((setRow_other _ b_5 w.heap.size _ n_45).trans f_4') Tryd.underlying62 rfl infoR (.cell b_5 66 #[(.slice A_d n_d c_d), (.slice A_e n_e c_e)] (0, 0) _ rfl (f_5'.put _ _) Tryd.underlying66 rfl infoQ (.tmp .nil)))) rfl ?_
 exact ⟨_, _, _, _, rfl, Kf.kw (Kw.setRow q1 g5 _), Kf.kw (Kw.setRow q2 g5 _), Kf.kw (Kw.setRow q3 g55 _), Kf.kw (Kw.setRow q4 g55 _), below_setRow hB l_5 _⟩
end Go.Proofs.YtgkdealidnidiaaDoor.Na
namespace Go.Proofs.YtgkdealidnidiaaDoor.Na
open Go.RowKit Go.Proofs.YtgkdealidnidiaaDoorW.PrintWords Go.Proofs.YtgkdealidnidiaaDoorW.PrintLast Go.Proofs.YtgkdealidnidiaaDoorW.PrintMore Go.Proofs.YtgkdealidnidiaaDoor.Dg
set_option linter.unusedSimpArgs false
set_option linter.unusedVariables false
set_option maxRecDepth 100000 in
set_option maxHeartbeats 8000000 in
theorem rreads_great {w : World} (A1 A2 : Option Addr) (c1 c2 n1 n2 : Nat) (hg : 30 < n1 ∨ 30 < n2) (htab : Tab w) :
  Calls Tryd.prog 9 #[.slice A1 n1 c1, .slice A2 n2 c2] w fun e w' => e = .returned (.bool true) ∧ Below w.heap.size w w' := by
 by_cases g1 : 30 < n1
 ·have da1 : decide ((n1 : Int) > 30) = true := decide_eq_true (by omega)
  have db1 : decide (30 < (n1 : Int)) = true := decide_eq_true (by omega)
  have dc1 : decide (30 < n1) = true := decide_eq_true (by omega)
  clear hg
  go_enter Tryd.func9, Tryd.ntmps9
  go_wp2_with fail
  refine (awake2_c htab).mono ?_
  rintro e w1 ⟨rfl, hb⟩
  go_wp2
  go_ret
  exact ⟨rfl, hb⟩
 ·have g2 : 30 < n2 := by omega
  have da1 : decide ((n1 : Int) > 30) = false := decide_eq_false (by omega)
  have db1 : decide (30 < (n1 : Int)) = false := decide_eq_false (by omega)
  have dc1 : decide (30 < n1) = false := decide_eq_false (by omega)
  have da2 : decide ((n2 : Int) > 30) = true := decide_eq_true (by omega)
  have db2 : decide (30 < (n2 : Int)) = true := decide_eq_true (by omega)
  have dc2 : decide (30 < n2) = true := decide_eq_true (by omega)
  clear hg
  go_enter Tryd.func9, Tryd.ntmps9
  go_wp2_with fail
  refine (awake2_c htab).mono ?_
  rintro e w1 ⟨rfl, hb⟩
  go_wp2
  go_ret
  exact ⟨rfl, hb⟩
set_option maxRecDepth 100000 in
set_option maxHeartbeats 8000000 in
theorem rreads_small {w : World} (A1 A2 : Option Addr) (c1 c2 : Nat) (l1 l2 : List Int) (h1 : Kw .u64 w (.slice A1 l1.length c1) l1) (h2 : Kw .u64 w (.slice A2 l2.length c2) l2) (r1 : R BW l1) (r2 : R BW l2) (htab : Tab w) (hg : ¬ (30 < l1.length ∨ 30 < l2.length)) :
  Calls Tryd.prog 9 #[.slice A1 l1.length c1, .slice A2 l2.length c2] w fun e w' => e = .returned (.bool true) ∧ Below w.heap.size w w'  := by
 have hu29 := Tryd.underlying29
 have hu62 := Tryd.underlying62
 have hu66 := Tryd.underlying66
 have hB : Below w.heap.size w w := Below.refl _ _
 obtain ⟨m, em, lm⟩ := V_nat r1
 obtain ⟨n1, en1⟩ : ∃ n, l1.length = n := ⟨_, rfl⟩
 rw [en1] at h1 lm hg ⊢
 obtain ⟨n, en, ln⟩ := V_nat r2
 obtain ⟨n2, en2⟩ : ∃ n, l2.length = n := ⟨_, rfl⟩
 rw [en2] at h2 ln hg ⊢
 have da1 : decide ((n1 : Int) > 30) = false := decide_eq_false (by omega)
 have db1 : decide (30 < (n1 : Int)) = false := decide_eq_false (by omega)
 have dc1 : decide (30 < n1) = false := decide_eq_false (by omega)
 have da2 : decide ((n2 : Int) > 30) = false := decide_eq_false (by omega)
 have db2 : decide (30 < (n2 : Int)) = false := decide_eq_false (by omega)
 have dc2 : decide (30 < n2) = false := decide_eq_false (by omega)
 have b1 : n1 ≤ 30 := by omega
 have b2 : n2 ≤ 30 := by omega
 clear hg
 have lmD := len_BD lm
 have lnD := len_BD ln
 go_enter Tryd.func9, Tryd.ntmps9
 go_wp2_with fail
 refine (fromk_c h1 r1 em (by omega) (by omega)).mono ?_
 rintro e w_1 ⟨z_a, rfl, ha, hb⟩
 replace h1 := h1.below hb
 replace h2 := h2.below hb
 replace htab := htab.below hb
 replace hB := hB.trans (hb.mono hB.size)
 clear hb
 obtain ⟨A_2, n_2, c_2, rfl⟩ := ha.shape
 have hA : Below w_1.heap.size w_1 (w_1.alloc (.cells #[(.slice A_2 n_2 c_2)] 29)) := below_alloc (Below.refl _ _) _
 have f_a := bx.new w_1 (.slice A_2 n_2 c_2)
 go_wp2_with fail
 replace h1 := h1.below hA
 replace h2 := h2.below hA
 replace htab := htab.below hA
 replace ha := ha.below hA
 replace hB := hB.trans (hA.mono hB.size)
 clear hA
 generalize (w_1.alloc (.cells #[(.slice A_2 n_2 c_2)] 29)) = w_3 at f_a h1 h2 htab ha hB ⊢
 generalize w_1.heap.size = b_a at f_a ⊢
 refine (fromk_c h2 r2 en (by omega) (by omega)).mono ?_
 rintro e w_4 ⟨z_b, rfl, hbb, hb⟩
 replace h1 := h1.below hb
 replace h2 := h2.below hb
 replace htab := htab.below hb
 replace ha := ha.below hb
 replace f_a := f_a.below hb
 replace hB := hB.trans (hb.mono hB.size)
 clear hb
 obtain ⟨A_5, n_5, c_5, rfl⟩ := hbb.shape
 have g_b := bx.new w_4 (.slice A_5 n_5 c_5)
 have hA : Below w_4.heap.size w_4 (w_4.alloc (.cells #[(.slice A_5 n_5 c_5)] 29)) := below_alloc (Below.refl _ _) _
 go_wp2_with (first | refine Cel.wpList_load_row_w rfl 29 _ rfl w_4.heap.size rfl 29 #[(.slice A_5 n_5 c_5)] (0, 0) _ g_b hu29 rfl infoN ?_)
 replace h1 := h1.below hA
 replace h2 := h2.below hA
 replace htab := htab.below hA
 replace ha := ha.below hA
 replace hbb := hbb.below hA
 replace f_a := f_a.below hA
 replace hB := hB.trans (hA.mono hB.size)
 clear hA
 generalize (w_4.alloc (.cells #[(.slice A_5 n_5 c_5)] 29)) = w_30 at g_b h1 h2 htab ha hbb f_a hB ⊢
 generalize w_4.heap.size = b_b at g_b ⊢
 by_cases hn0 : n = 0
 ·subst hn0
  have F := zero_c hbb
  rw [decide_eq_true rfl] at F
  refine (F).mono ?_
  rintro e w_31 ⟨rfl, hb⟩
  replace h1 := h1.below hb
  replace h2 := h2.below hb
  replace htab := htab.below hb
  replace ha := ha.below hb
  replace hbb := hbb.below hb
  replace f_a := f_a.below hb
  replace g_b := g_b.below hb
  replace hB := hB.trans (hb.mono hB.size)
  clear hb
  clear F
  go_wp2_with (first | refine Cel.wpList_load_row_w rfl 29 _ rfl b_a rfl 29 #[(.slice A_2 n_2 c_2)] (0, 0) _ f_a hu29 rfl infoN ?_ | refine Cel.wpList_load_row_w rfl 29 _ rfl b_b rfl 29 #[(.slice A_5 n_5 c_5)] (0, 0) _ g_b hu29 rfl infoN ?_)
  refine (newzero_c ha hbb).mono ?_
  rintro e w_32 ⟨rfl, hb⟩
  replace h1 := h1.below hb
  replace h2 := h2.below hb
  replace htab := htab.below hb
  replace ha := ha.below hb
  replace hbb := hbb.below hb
  replace f_a := f_a.below hb
  replace g_b := g_b.below hb
  replace hB := hB.trans (hb.mono hB.size)
  clear hb
  have hA : Below w_32.heap.size w_32 ((w_32.alloc (.cells #[.slice none 0 0, .slice none 0 0, .bool false] 62)).setRow w_32.heap.size #[.slice none 0 0, .slice none 0 0, .bool false]) := below_setRow (below_alloc (Below.refl _ _) _) (Nat.le_refl _) _
  have hi2 : (Tryd.prog.info? 62).map (·.size) = some (#[.slice none 0 0, .slice none 0 0, .bool false] : Array Value).size := infoR
  have ho2 : (#[.slice none 0 0, .slice none 0 0, .bool false] : Array Value).all (·.oneCell') = true := by kernel_rfl
  have f_r : rb ((w_32.alloc (.cells #[.slice none 0 0, .slice none 0 0, .bool false] 62)).setRow w_32.heap.size #[.slice none 0 0, .slice none 0 0, .bool false]) w_32.heap.size (.slice none 0 0) (.slice none 0 0) false := (rb.new w_32 _ _ _).put _
  go_wp2_with (first | refine wpList_store_row rfl 62 _ _ rfl w_32.heap.size #[.slice none 0 0, .slice none 0 0, .bool false] rfl rfl 62 _ (rb.new w_32 _ _ _) hi2 rfl ho2 ?_)
  replace htab := htab.below hA
  replace hB := hB.trans (hA.mono hB.size)
  clear hA hi2 ho2
  generalize ((w_32.alloc (.cells #[.slice none 0 0, .slice none 0 0, .bool false] 62)).setRow w_32.heap.size #[.slice none 0 0, .slice none 0 0, .bool false]) = w_60 at f_r htab hB ⊢
  generalize w_32.heap.size = b_r at f_r ⊢
  refine (awake2_c htab).mono ?_
  rintro e w_33 ⟨rfl, hb⟩
  replace htab := htab.below hb
  replace f_r := f_r.below hb
  replace hB := hB.trans (hb.mono hB.size)
  clear hb
  go_wp2_with (first | refine Cel.wpList_load_row_w rfl 62 _ rfl b_r rfl 62 #[.slice none 0 0, .slice none 0 0, .bool false] (0, 0) _ f_r hu62 rfl infoR ?_)
  have F := qzero_c (A2 := none) (n2 := 0) (c2 := 0) (s := false) (Nw.zero w_33)
  rw [decide_eq_true rfl] at F
  refine (F).mono ?_
  rintro e w_34 ⟨rfl, hb⟩
  replace htab := htab.below hb
  replace f_r := f_r.below hb
  replace hB := hB.trans (hb.mono hB.size)
  clear hb
  clear F
  go_wp2
  go_ret
  exact ⟨rfl, hB⟩
 ·have F := zero_c hbb
  rw [decide_eq_false hn0] at F
  refine (F).mono ?_
  rintro e w_31 ⟨rfl, hb⟩
  replace h1 := h1.below hb
  replace h2 := h2.below hb
  replace htab := htab.below hb
  replace ha := ha.below hb
  replace hbb := hbb.below hb
  replace f_a := f_a.below hb
  replace g_b := g_b.below hb
  replace hB := hB.trans (hb.mono hB.size)
  clear hb
  clear F
  clear ha hbb f_a g_b
  go_wp2_with fail
  refine (make_c h1 h2 r1 r2 em en (by omega) (by omega) (by omega) (by omega) (Nat.pos_of_ne_zero hn0)).mono ?_
  rintro e w_32 ⟨z1, z2, d1, d2, rfl, hz1, hz2, hd1, hd2, hb⟩
  replace h1 := h1.below hb
  replace h2 := h2.below hb
  replace htab := htab.below hb
  replace hB := hB.trans (hb.mono hB.size)
  clear hb
  have lx := len_mono (b := BW) (x := m / Nat.gcd m n) (y := m) (by decide) (Nat.div_le_self _ _)
  have ly := len_mono (b := BW) (x := n / Nat.gcd m n) (y := n) (by decide) (Nat.div_le_self _ _)
  clear h1 h2 r1 r2 em en
  generalize m / Nat.gcd m n = X at hz1 hd1 lx
  generalize n / Nat.gcd m n = Y at hz2 hd2 ly
  obtain ⟨A_33, n_33, c_33, rfl⟩ := hz1.shape
  obtain ⟨A_34, n_34, c_34, rfl⟩ := hz2.shape
  obtain ⟨A_d, n_d, c_d, rfl, en_d⟩ := hd1.shapeN
  obtain ⟨A_e, n_e, c_e, rfl⟩ := hd2.shape
  obtain ⟨zb, hzb⟩ : ∃ b, decide (X = 0) = b := ⟨_, rfl⟩
  have hln : ((n_d : Int) == 0) = zb := by rw [← hzb, en_d, Bool.eq_iff_iff, beq_iff_eq, decide_eq_true_iff, ← len_zero_iff (b := BD) (n := X) (by decide)]; omega
  have HZB := Aside0.mk hzb
  clear hzb en_d
  have hi2 : (Tryd.prog.info? 62).map (·.size) = some (#[(.slice A_33 n_33 c_33), (.slice A_34 n_34 c_34), .bool true] : Array Value).size := infoR
  have ho2 : (#[(.slice A_33 n_33 c_33), (.slice A_34 n_34 c_34), .bool true] : Array Value).all (·.oneCell') = true := by kernel_rfl
  have hi6 : (Tryd.prog.info? 66).map (·.size) = some (#[(.slice A_d n_d c_d), (.slice A_e n_e c_e)] : Array Value).size := infoQ
  have ho6 : (#[(.slice A_d n_d c_d), (.slice A_e n_e c_e)] : Array Value).all (·.oneCell') = true := by kernel_rfl
  have g_1 : rb ((w_32.alloc (.cells #[.slice none 0 0, .slice none 0 0, .bool false] 62)).alloc (.cells #[.slice none 0 0, .slice none 0 0] 66)) w_32.heap.size (.slice none 0 0) (.slice none 0 0) false := (rb.new w_32 _ _ _).alloc _
  have g_2 : qb ((w_32.alloc (.cells #[.slice none 0 0, .slice none 0 0, .bool false] 62)).alloc (.cells #[.slice none 0 0, .slice none 0 0] 66)) (w_32.heap.size + 1) (.slice none 0 0) (.slice none 0 0) := by have h := qb.new (w_32.alloc (.cells #[.slice none 0 0, .slice none 0 0, .bool false] 62)) (.slice none 0 0) (.slice none 0 0); simpa using h
  have g_2' : qb (((w_32.alloc (.cells #[.slice none 0 0, .slice none 0 0, .bool false] 62)).alloc (.cells #[.slice none 0 0, .slice none 0 0] 66)).setRow w_32.heap.size #[(.slice A_33 n_33 c_33), (.slice A_34 n_34 c_34), .bool true]) (w_32.heap.size + 1) (.slice none 0 0) (.slice none 0 0) := (setRow_other _ w_32.heap.size (w_32.heap.size + 1) _ (by omega)).trans g_2
  have f_r : rb ((((w_32.alloc (.cells #[.slice none 0 0, .slice none 0 0, .bool false] 62)).alloc (.cells #[.slice none 0 0, .slice none 0 0] 66)).setRow w_32.heap.size #[(.slice A_33 n_33 c_33), (.slice A_34 n_34 c_34), .bool true]).setRow (w_32.heap.size + 1) #[(.slice A_d n_d c_d), (.slice A_e n_e c_e)]) w_32.heap.size (.slice A_33 n_33 c_33) (.slice A_34 n_34 c_34) true := (setRow_other _ (w_32.heap.size + 1) w_32.heap.size _ (by omega)).trans (g_1.put _)
  have f_m : qb ((((w_32.alloc (.cells #[.slice none 0 0, .slice none 0 0, .bool false] 62)).alloc (.cells #[.slice none 0 0, .slice none 0 0] 66)).setRow w_32.heap.size #[(.slice A_33 n_33 c_33), (.slice A_34 n_34 c_34), .bool true]).setRow (w_32.heap.size + 1) #[(.slice A_d n_d c_d), (.slice A_e n_e c_e)]) (w_32.heap.size + 1) (.slice A_d n_d c_d) (.slice A_e n_e c_e) := g_2'.put _ _
  have hA : Below w_32.heap.size w_32 ((((w_32.alloc (.cells #[.slice none 0 0, .slice none 0 0, .bool false] 62)).alloc (.cells #[.slice none 0 0, .slice none 0 0] 66)).setRow w_32.heap.size #[(.slice A_33 n_33 c_33), (.slice A_34 n_34 c_34), .bool true]).setRow (w_32.heap.size + 1) #[(.slice A_d n_d c_d), (.slice A_e n_e c_e)]) := below_setRow (below_setRow (below_alloc (below_alloc (Below.refl _ _) _) _) (Nat.le_refl _) _) (by omega) _
  go_wp2_with (first | refine wpList_store_row rfl 62 _ _ rfl w_32.heap.size #[(.slice A_33 n_33 c_33), (.slice A_34 n_34 c_34), .bool true] rfl rfl 62 _ g_1 hi2 rfl ho2 ?_ | refine wpList_store_row rfl 66 _ _ rfl (w_32.heap.size + 1) #[(.slice A_d n_d c_d), (.slice A_e n_e c_e)] rfl rfl 66 _ g_2' hi6 rfl ho6 ?_)
  replace htab := htab.below hA
  replace hz1 := hz1.below hA
  replace hz2 := hz2.below hA
  replace hd1 := hd1.below hA
  replace hd2 := hd2.below hA
  replace hB := hB.trans (hA.mono hB.size)
  clear hA g_1 g_2 g_2' hi2 ho2 hi6 ho6
  generalize ((((w_32.alloc (.cells #[.slice none 0 0, .slice none 0 0, .bool false] 62)).alloc (.cells #[.slice none 0 0, .slice none 0 0] 66)).setRow w_32.heap.size #[(.slice A_33 n_33 c_33), (.slice A_34 n_34 c_34), .bool true]).setRow (w_32.heap.size + 1) #[(.slice A_d n_d c_d), (.slice A_e n_e c_e)]) = w_70 at f_r f_m htab hz1 hz2 hd1 hd2 hB ⊢
  generalize w_32.heap.size + 1 = b_m at f_m ⊢
  generalize w_32.heap.size = b_r at f_r ⊢
  obtain ⟨S, hS0⟩ : ∃ S, decS X ++ ⟨#[47]⟩ ++ decS Y = S := ⟨_, rfl⟩
  have HS0 := Aside0.mk hS0
  clear hS0
  have hb : Below w_70.heap.size w_70 w_70.drew := below_drew (Below.refl _ _)
  refine start_ (n := 26) (S := fun w' => Below w_70.drew.heap.size w_70.drew w') (ds := []) #[false, false, false, false, false, false, false, false, false, false, false, false, false, false, false, false, false, false, false, false, false, false, false, false, false, false] (by kernel_rfl) rfl rfl (Below.refl _ _) (fun hS => ?_)
  replace htab := htab.below hb
  replace hz1 := hz1.below hb
  replace hz2 := hz2.below hb
  replace hd1 := hd1.below hb
  replace hd2 := hd2.below hb
  replace f_r := f_r.below hb
  replace f_m := f_m.below hb
  replace hB := hB.trans (hb.mono hB.size)
  clear hb
  generalize w_70.drew = w_71 at htab hz1 hz2 hd1 hd2 f_r f_m hB hS ⊢
  have sf_r := f_r
  have sf_m := f_m
  refine one_ (i := 0) (N := some 57) #[true, false, false, false, false, false, false, false, false, false, false, false, false, false, false, false, false, false, false, false, false, false, false, false, false, false] rfl rfl (by kernel_rfl) (by decide) (fun K hK => ?_)
  refine goes_ Tryd.func44 (by kernel_rfl) rfl #[] (by rfl) rfl rfl (by (try simp only [List.map_toArray, List.map_cons, List.map_nil]); first | done | rfl | (simp only [List.length_drop, List.length_take]; rfl)) ?_
  refine (awake2_c htab).mono ?_
  rintro e w_72 ⟨rfl, hb⟩
  refine ⟨_, rfl, ?_⟩
  replace hS := hS.trans (hb.mono hS.size)
  replace htab := htab.below hb
  replace hz1 := hz1.below hb
  replace hz2 := hz2.below hb
  replace hd1 := hd1.below hb
  replace hd2 := hd2.below hb
  replace f_r := f_r.below hb
  replace f_m := f_m.below hb
  replace hB := hB.trans (hb.mono hB.size)
  clear hb
  refine hK.out _ _ hS (fun hS => ?_)
  clear hK K
  refine norm_ (a' := ?_) ?_ ?_
  rotate_left
  ·show Act.put _ (some 57) _ = _
   simp only [Act.put, List.setIfInBounds_toArray, List.set_cons_zero, List.set_cons_succ, i64_w, i32_w]
   rfl
  refine pure_ (i := 1) (N := some 58) (v := ?_) (a' := ?_) #[true, true, false, false, false, false, false, false, false, false, false, false, false, false, false, false, false, false, false, false, false, false, false, false, false, false] rfl rfl (by kernel_rfl) (fun _ _ _ h => h) (Or.inl ⟨by rfl, ?_⟩) ?_ ?_
  rotate_left
  ·intro w'
   go_simp
   with_reducible rfl
  rotate_left
  ·simp only [Act.put, List.setIfInBounds_toArray, List.set_cons_zero, List.set_cons_succ, i64_w, i32_w]
   rfl
  refine pure_ (i := 2) (N := some 59) (v := ?_) (a' := ?_) #[true, true, true, false, false, false, false, false, false, false, false, false, false, false, false, false, false, false, false, false, false, false, false, false, false, false] rfl rfl (by kernel_rfl) (fun _ _ _ h => h) (Or.inl ⟨by rfl, ?_⟩) ?_ ?_
  rotate_left
  ·intro w'
   go_simp
   with_reducible rfl
  rotate_left
  ·simp only [Act.put, List.setIfInBounds_toArray, List.set_cons_zero, List.set_cons_succ, i64_w, i32_w]
   rfl
  refine pure_ (i := 3) (N := some 60) (v := ?_) (a' := ?_) #[true, true, true, true, false, false, false, false, false, false, false, false, false, false, false, false, false, false, false, false, false, false, false, false, false, false] rfl rfl (by kernel_rfl) (fun _ _ _ h => h) (Or.inl ⟨by rfl, ?_⟩) ?_ ?_
  rotate_left
  ·intro w'
   go_simp
   with_reducible rfl
  rotate_left
  ·simp only [Act.put, List.setIfInBounds_toArray, List.set_cons_zero, List.set_cons_succ, i64_w, i32_w]
   rfl
  refine pure_ (i := 4) (N := some 61) (v := ?_) (a' := ?_) #[true, true, true, true, true, false, false, false, false, false, false, false, false, false, false, false, false, false, false, false, false, false, false, false, false, false] rfl rfl (by kernel_rfl) (fun _ _ _ h => h) (Or.inl ⟨by rfl, ?_⟩) ?_ ?_
  rotate_left
  ·intro w'
   go_simp
   with_reducible rfl
  rotate_left
  ·simp only [Act.put, List.setIfInBounds_toArray, List.set_cons_zero, List.set_cons_succ, i64_w, i32_w]
   rfl
  refine take_ (i := 5) (N := some 62) (v := ?_) (a' := ?_) #[true, true, true, true, true, true, false, false, false, false, false, false, false, false, false, false, false, false, false, false, false, false, false, false, false, false] rfl rfl (by kernel_rfl) (fun _ _ _ h => h) (Or.inl ⟨by rfl, ?_⟩) hS ?_ ?_
  rotate_left
  ·intro w' hS_
   have k0_ := (blk_cell (rb.below sf_r hS_) 0).trans rfl
   have k1_ := (blk_cell (rb.below sf_r hS_) 1).trans rfl
   have k2_ := (blk_cell (rb.below sf_r hS_) 2).trans rfl
   go_simp
   with_reducible rfl
  rotate_left
  ·simp only [Act.put, List.setIfInBounds_toArray, List.set_cons_zero, List.set_cons_succ, i64_w, i32_w]
   rfl
  refine take_ (i := 6) (N := some 63) (v := ?_) (a' := ?_) #[true, true, true, true, true, true, true, false, false, false, false, false, false, false, false, false, false, false, false, false, false, false, false, false, false, false] rfl rfl (by kernel_rfl) (fun _ _ _ h => h) (Or.inl ⟨by rfl, ?_⟩) hS ?_ ?_
  rotate_left
  ·intro w' hS_
   have k0_ := (blk_cell (qb.below sf_m hS_) 0).trans rfl
   have k1_ := (blk_cell (qb.below sf_m hS_) 1).trans rfl
   go_simp
   with_reducible rfl
  rotate_left
  ·simp only [Act.put, List.setIfInBounds_toArray, List.set_cons_zero, List.set_cons_succ, i64_w, i32_w]
   rfl
  refine one_ (i := 7) (N := some 64) #[true, true, true, true, true, true, true, true, false, false, false, false, false, false, false, false, false, false, false, false, false, false, false, false, false, false] rfl rfl (by kernel_rfl) (by decide) (fun K hK => ?_)
  refine goes_ Tryd.func48 (by kernel_rfl) rfl #[.agg #[(.slice A_33 n_33 c_33), (.slice A_34 n_34 c_34), .bool true], .agg #[(.slice A_d n_d c_d), (.slice A_e n_e c_e)]] (by rfl) rfl rfl (by (try simp only [List.map_toArray, List.map_cons, List.map_nil]); first | done | rfl | (simp only [List.length_drop, List.length_take]; rfl)) ?_
  refine (is2_c hz1 hz2 hd1 hd2 (by omega) (by omega)).mono ?_
  rintro e w_73 ⟨rfl, hb⟩
  refine ⟨_, rfl, ?_⟩
  replace hS := hS.trans (hb.mono hS.size)
  replace htab := htab.below hb
  replace hz1 := hz1.below hb
  replace hz2 := hz2.below hb
  replace hd1 := hd1.below hb
  replace hd2 := hd2.below hb
  replace f_r := f_r.below hb
  replace f_m := f_m.below hb
  replace hB := hB.trans (hb.mono hB.size)
  clear hb
  refine hK.out _ _ hS (fun hS => ?_)
  clear hK K
  refine norm_ (a' := ?_) ?_ ?_
  rotate_left
  ·show Act.put _ (some 64) _ = _
   simp only [Act.put, List.setIfInBounds_toArray, List.set_cons_zero, List.set_cons_succ, i64_w, i32_w]
   rfl
  refine pure_ (i := 8) (N := some 65) (v := ?_) (a' := ?_) #[true, true, true, true, true, true, true, true, true, false, false, false, false, false, false, false, false, false, false, false, false, false, false, false, false, false] rfl rfl (by kernel_rfl) (fun _ _ _ h => h) (Or.inl ⟨by rfl, ?_⟩) ?_ ?_
  rotate_left
  ·intro w'
   go_simp
   with_reducible rfl
  rotate_left
  ·simp only [Act.put, List.setIfInBounds_toArray, List.set_cons_zero, List.set_cons_succ, i64_w, i32_w]
   rfl
  refine pure_ (i := 9) (N := some 66) (v := ?_) (a' := ?_) #[true, true, true, true, true, true, true, true, true, true, false, false, false, false, false, false, false, false, false, false, false, false, false, false, false, false] rfl rfl (by kernel_rfl) (fun _ _ _ h => h) (Or.inl ⟨by rfl, ?_⟩) ?_ ?_
  rotate_left
  ·intro w'
   go_simp
   with_reducible rfl
  rotate_left
  ·simp only [Act.put, List.setIfInBounds_toArray, List.set_cons_zero, List.set_cons_succ, i64_w, i32_w]
   rfl
  refine take_ (i := 10) (N := some 67) (v := ?_) (a' := ?_) #[true, true, true, true, true, true, true, true, true, true, true, false, false, false, false, false, false, false, false, false, false, false, false, false, false, false] rfl rfl (by kernel_rfl) (fun _ _ _ h => h) (Or.inl ⟨by rfl, ?_⟩) hS ?_ ?_
  rotate_left
  ·intro w' hS_
   have k0_ := (blk_cell (rb.below sf_r hS_) 0).trans rfl
   have k1_ := (blk_cell (rb.below sf_r hS_) 1).trans rfl
   have k2_ := (blk_cell (rb.below sf_r hS_) 2).trans rfl
   go_simp
   with_reducible rfl
  rotate_left
  ·simp only [Act.put, List.setIfInBounds_toArray, List.set_cons_zero, List.set_cons_succ, i64_w, i32_w]
   rfl
  refine take_ (i := 12) (N := some 69) (v := ?_) (a' := ?_) #[true, true, true, true, true, true, true, true, true, true, true, false, true, false, false, false, false, false, false, false, false, false, false, false, false, false] rfl rfl (by kernel_rfl) (fun _ _ _ h => h) (Or.inl ⟨by rfl, ?_⟩) hS ?_ ?_
  rotate_left
  ·intro w' hS_
   have k0_ := (blk_cell (qb.below sf_m hS_) 0).trans rfl
   have k1_ := (blk_cell (qb.below sf_m hS_) 1).trans rfl
   go_simp
   with_reducible rfl
  rotate_left
  ·simp only [Act.put, List.setIfInBounds_toArray, List.set_cons_zero, List.set_cons_succ, i64_w, i32_w]
   rfl
  refine one_ (i := 11) (N := some 68) #[true, true, true, true, true, true, true, true, true, true, true, true, true, false, false, false, false, false, false, false, false, false, false, false, false, false] rfl rfl (by kernel_rfl) (by decide) (fun K hK => ?_)
  refine goes_ Tryd.func49 (by kernel_rfl) rfl #[.agg #[(.slice A_33 n_33 c_33), (.slice A_34 n_34 c_34), .bool true]] (by rfl) rfl rfl (by (try simp only [List.map_toArray, List.map_cons, List.map_nil]); first | done | rfl | (simp only [List.length_drop, List.length_take]; rfl)) ?_
  have F := qstr_c hz1 hz2 (by omega) (by omega) htab
  rw [HS0.out] at F
  refine (F).mono ?_
  rintro e w_74 ⟨rfl, hb⟩
  refine ⟨_, rfl, ?_⟩
  replace hS := hS.trans (hb.mono hS.size)
  replace htab := htab.below hb
  replace hz1 := hz1.below hb
  replace hz2 := hz2.below hb
  replace hd1 := hd1.below hb
  replace hd2 := hd2.below hb
  replace f_r := f_r.below hb
  replace f_m := f_m.below hb
  replace hB := hB.trans (hb.mono hB.size)
  clear hb
  refine hK.out _ _ hS (fun hS => ?_)
  clear hK K
  refine norm_ (a' := ?_) ?_ ?_
  rotate_left
  ·show Act.put _ (some 68) _ = _
   simp only [Act.put, List.setIfInBounds_toArray, List.set_cons_zero, List.set_cons_succ, i64_w, i32_w]
   rfl
  clear F
  refine one_ (i := 13) (N := some 70) #[true, true, true, true, true, true, true, true, true, true, true, true, true, true, false, false, false, false, false, false, false, false, false, false, false, false] rfl rfl (by kernel_rfl) (by decide) (fun K hK => ?_)
  refine goes_ Tryd.func50 (by kernel_rfl) rfl #[.agg #[(.slice A_d n_d c_d), (.slice A_e n_e c_e)]] (by rfl) rfl rfl (by (try simp only [List.map_toArray, List.map_cons, List.map_nil]); first | done | rfl | (simp only [List.length_drop, List.length_take]; rfl)) ?_
  have F := refstr_c hd1 hd2 (by omega) (by omega)
  rw [HS0.out] at F
  refine (F).mono ?_
  rintro e w_75 ⟨rfl, hb⟩
  refine ⟨_, rfl, ?_⟩
  replace hS := hS.trans (hb.mono hS.size)
  replace htab := htab.below hb
  replace hz1 := hz1.below hb
  replace hz2 := hz2.below hb
  replace hd1 := hd1.below hb
  replace hd2 := hd2.below hb
  replace f_r := f_r.below hb
  replace f_m := f_m.below hb
  replace hB := hB.trans (hb.mono hB.size)
  clear hb
  refine hK.out _ _ hS (fun hS => ?_)
  clear hK K
  refine norm_ (a' := ?_) ?_ ?_
  rotate_left
  ·show Act.put _ (some 70) _ = _
   simp only [Act.put, List.setIfInBounds_toArray, List.set_cons_zero, List.set_cons_succ, i64_w, i32_w]
   rfl
  clear F
  refine pure_ (i := 14) (N := some 71) (v := ?_) (a' := ?_) #[true, true, true, true, true, true, true, true, true, true, true, true, true, true, true, false, false, false, false, false, false, false, false, false, false, false] rfl rfl (by kernel_rfl) (fun _ _ _ h => h) (Or.inl ⟨by rfl, ?_⟩) ?_ ?_
  rotate_left
  ·intro w'
   go_simp
   with_reducible rfl
  rotate_left
  ·simp only [Act.put, List.setIfInBounds_toArray, List.set_cons_zero, List.set_cons_succ, i64_w, i32_w]
   rfl
  refine pure_ (i := 15) (N := some 72) (v := ?_) (a' := ?_) #[true, true, true, true, true, true, true, true, true, true, true, true, true, true, true, true, false, false, false, false, false, false, false, false, false, false] rfl rfl (by kernel_rfl) (fun _ _ _ h => h) (Or.inl ⟨by rfl, ?_⟩) ?_ ?_
  rotate_left
  ·intro w'
   go_simp
   with_reducible rfl
  rotate_left
  ·simp only [Act.put, List.setIfInBounds_toArray, List.set_cons_zero, List.set_cons_succ, i64_w, i32_w]
   rfl
  refine pure_ (i := 16) (N := some 73) (v := ?_) (a' := ?_) #[true, true, true, true, true, true, true, true, true, true, true, true, true, true, true, true, true, false, false, false, false, false, false, false, false, false] rfl rfl (by kernel_rfl) (fun _ _ _ h => h) (Or.inl ⟨by rfl, ?_⟩) ?_ ?_
  rotate_left
  ·intro w'
   go_simp
   with_reducible rfl
  rotate_left
  ·simp only [Act.put, List.setIfInBounds_toArray, List.set_cons_zero, List.set_cons_succ, i64_w, i32_w]
   rfl
  refine take_ (i := 17) (N := some 74) (v := ?_) (a' := ?_) #[true, true, true, true, true, true, true, true, true, true, true, true, true, true, true, true, true, true, false, false, false, false, false, false, false, false] rfl rfl (by kernel_rfl) (fun _ _ _ h => h) (Or.inl ⟨by rfl, ?_⟩) hS ?_ ?_
  rotate_left
  ·intro w' hS_
   have k0_ := (blk_cell (rb.below sf_r hS_) 0).trans rfl
   have k1_ := (blk_cell (rb.below sf_r hS_) 1).trans rfl
   have k2_ := (blk_cell (rb.below sf_r hS_) 2).trans rfl
   go_simp
   with_reducible rfl
  rotate_left
  ·simp only [Act.put, List.setIfInBounds_toArray, List.set_cons_zero, List.set_cons_succ, i64_w, i32_w]
   rfl
  refine pure_ (i := 19) (N := some 76) (v := ?_) (a' := ?_) #[true, true, true, true, true, true, true, true, true, true, true, true, true, true, true, true, true, true, false, true, false, false, false, false, false, false] rfl rfl (by kernel_rfl) (fun _ _ _ h => h) (Or.inl ⟨by rfl, ?_⟩) ?_ ?_
  rotate_left
  ·intro w'
   go_simp
   with_reducible rfl
  rotate_left
  ·simp only [Act.put, List.setIfInBounds_toArray, List.set_cons_zero, List.set_cons_succ, i64_w, i32_w]
   rfl
  refine take_ (i := 20) (N := some 77) (v := ?_) (a' := ?_) #[true, true, true, true, true, true, true, true, true, true, true, true, true, true, true, true, true, true, false, true, true, false, false, false, false, false] rfl rfl (by kernel_rfl) (fun _ _ _ h => h) (Or.inl ⟨by rfl, ?_⟩) hS ?_ ?_
  rotate_left
  ·intro w' hS_
   have k_ := (blk_cell (qb.below sf_m hS_) 0).trans rfl
   go_simp
   with_reducible rfl
  rotate_left
  ·simp only [Act.put, List.setIfInBounds_toArray, List.set_cons_zero, List.set_cons_succ, i64_w, i32_w]
   rfl
  refine pure_ (i := 21) (N := some 78) (v := ?_) (a' := ?_) #[true, true, true, true, true, true, true, true, true, true, true, true, true, true, true, true, true, true, false, true, true, true, false, false, false, false] rfl rfl (by kernel_rfl) (fun _ _ _ h => h) (Or.inl ⟨by rfl, ?_⟩) ?_ ?_
  rotate_left
  ·intro w'
   go_simp
   with_reducible rfl
  rotate_left
  ·simp only [Act.put, List.setIfInBounds_toArray, List.set_cons_zero, List.set_cons_succ, i64_w, i32_w]
   rfl
  refine pure_ (i := 22) (N := some 79) (v := ?_) (a' := ?_) #[true, true, true, true, true, true, true, true, true, true, true, true, true, true, true, true, true, true, false, true, true, true, true, false, false, false] rfl rfl (by kernel_rfl) (fun _ _ _ h => h) (Or.inl ⟨by rfl, ?_⟩) ?_ ?_
  rotate_left
  ·intro w'
   go_simp
   with_reducible rfl
  rotate_left
  ·simp only [Act.put, List.setIfInBounds_toArray, List.set_cons_zero, List.set_cons_succ, i64_w, i32_w]
   rfl
  refine one_ (i := 18) (N := some 75) #[true, true, true, true, true, true, true, true, true, true, true, true, true, true, true, true, true, true, true, true, true, true, true, false, false, false] rfl rfl (by kernel_rfl) (by decide) (fun K hK => ?_)
  refine goes_ Tryd.func46 (by kernel_rfl) rfl #[.agg #[(.slice A_33 n_33 c_33), (.slice A_34 n_34 c_34), .bool true]] (by rfl) rfl rfl (by (try simp only [List.map_toArray, List.map_cons, List.map_nil]); first | done | rfl | (simp only [List.length_drop, List.length_take]; rfl)) ?_
  have F := qzero_c (A2 := A_34) (n2 := n_34) (c2 := c_34) (s := true) hz1
  rw [HZB.out] at F
  refine (F).mono ?_
  rintro e w_76 ⟨rfl, hb⟩
  refine ⟨_, rfl, ?_⟩
  replace hS := hS.trans (hb.mono hS.size)
  replace htab := htab.below hb
  replace hz1 := hz1.below hb
  replace hz2 := hz2.below hb
  replace hd1 := hd1.below hb
  replace hd2 := hd2.below hb
  replace f_r := f_r.below hb
  replace f_m := f_m.below hb
  replace hB := hB.trans (hb.mono hB.size)
  clear hb
  refine hK.out _ _ hS (fun hS => ?_)
  clear hK K
  refine norm_ (a' := ?_) ?_ ?_
  rotate_left
  ·show Act.put _ (some 75) _ = _
   simp only [Act.put, List.setIfInBounds_toArray, List.set_cons_zero, List.set_cons_succ, i64_w, i32_w]
   rfl
  clear F
  refine pure_ (i := 23) (N := some 80) (v := ?_) (a' := ?_) #[true, true, true, true, true, true, true, true, true, true, true, true, true, true, true, true, true, true, true, true, true, true, true, true, false, false] rfl rfl (by kernel_rfl) (fun _ _ _ h => h) (Or.inl ⟨by rfl, ?_⟩) ?_ ?_
  rotate_left
  ·intro w'
   go_simp
   with_reducible rfl
  rotate_left
  ·simp only [Act.put, List.setIfInBounds_toArray, List.set_cons_zero, List.set_cons_succ, i64_w, i32_w]
   rfl
  refine pure_ (i := 24) (N := some 81) (v := ?_) (a' := ?_) #[true, true, true, true, true, true, true, true, true, true, true, true, true, true, true, true, true, true, true, true, true, true, true, true, true, false] rfl rfl (by kernel_rfl) (fun _ _ _ h => h) (Or.inl ⟨by rfl, ?_⟩) ?_ ?_
  rotate_left
  ·intro w'
   go_simp
   with_reducible rfl
  rotate_left
  ·simp only [Act.put, List.setIfInBounds_toArray, List.set_cons_zero, List.set_cons_succ, i64_w, i32_w]
   rfl
  refine pure_ (i := 25) (N := some 4) (v := ?_) (a' := ?_) #[true, true, true, true, true, true, true, true, true, true, true, true, true, true, true, true, true, true, true, true, true, true, true, true, true, true] rfl rfl (by kernel_rfl) (fun _ _ _ h => h) (Or.inl ⟨by rfl, ?_⟩) ?_ ?_
  rotate_left
  ·intro w'
   go_simp
   with_reducible rfl
  rotate_left
  ·simp only [Act.put, List.setIfInBounds_toArray, List.set_cons_zero, List.set_cons_succ, i64_w, i32_w]
   rfl
  refine done_ (by kernel_rfl) ?_
  go_wp2
  go_ret
  exact ⟨rfl, hB⟩
theorem rreads_walk {w : World} (A1 A2 : Option Addr) (c1 c2 : Nat) (l1 l2 : List Int) (h1 : Kw .u64 w (.slice A1 l1.length c1) l1) (h2 : Kw .u64 w (.slice A2 l2.length c2) l2) (r1 : R BW l1) (r2 : R BW l2) (htab : Tab w) :
  Calls Tryd.prog 9 #[.slice A1 l1.length c1, .slice A2 l2.length c2] w fun e w' => e = .returned (.bool true) ∧ Below w.heap.size w w'  := by
 by_cases hg : 30 < l1.length ∨ 30 < l2.length
 ·exact rreads_great A1 A2 c1 c2 _ _ hg htab
 ·exact rreads_small A1 A2 c1 c2 l1 l2 h1 h2 r1 r2 htab hg
end Go.Proofs.YtgkdealidnidiaaDoor.Na
namespace Go.Proofs.YtgkdealidnidiaaDoor.Na
set_option linter.unusedVariables false
open Go.RowKit Go.Proofs.YtgkdealidnidiaaDoorW.PrintWords Go.Proofs.YtgkdealidnidiaaDoorW.PrintLast Go.Proofs.YtgkdealidnidiaaDoorW.PrintMore Go.Proofs.YtgkdealidnidiaaDoor.Dg
set_option maxRecDepth 100000 in
theorem open_ws {H : Type} {enc : TypeId × Value → H} {W : World} {base : Nat} {spare : Nat → Bool} {held : Bool} {r : Reach} {b0 : Nat} {v : Value} {d : DataW H} {ps : List MemPlace}
  (hv : Value.okWide Tryd.prog W r b0 22 v) (h : DataW.Trod enc Tryd.prog W base spare held 22 v d ps) :
  ∃ A c l, v = .slice A l.length c ∧ l.length ≤ c ∧ Kd.C (Kd.int .u64) W A l.length l ∧ R BW l ∧ l.length ≤ 9223372036854775807 := by
 obtain ⟨a, len, cap, rfl⟩ := Go.WideShapes.okWide_slice Tryd.underlying22 hv
 obtain ⟨fuel, hf⟩ := h
 have hcz : Tryd.prog.cellsOf 40 = 1 := by kernel_rfl
 rcases Go.ChangeShapes.open_ints Tryd.underlying22 Tryd.underlying40 hcz hf with ⟨hc, _⟩ | ⟨a', len', cap', zs, hc, _, hlc, hcm, hzl, _, hcell, hwf⟩
 ·simp [Value.cells] at hc
  obtain ⟨rfl, rfl, rfl⟩ := hc
  exact ⟨none, 0, [], rfl, Nat.le_refl _, Kd.C_nil _ _, R_nil _, by simp⟩
 ·simp [Value.cells] at hc
  obtain ⟨rfl, rfl, rfl⟩ := hc
  have hle : len ≤ zs.length := by rw [hzl]; split <;> omega
  have hcap : cap ≤ 9223372036854775807 := by
   have : cap ≤ maxLen := hcm
   unfold maxLen at this
   omega
  have hl : (zs.take len).length = len := by rw [List.length_take, Nat.min_eq_left hle]
  refine ⟨some a', cap, zs.take len, by rw [hl], by omega, ⟨rfl, by omega, fun _ => ⟨a', rfl, ?_⟩⟩, ?_, by omega⟩
  ·intro j p hj
   refine ⟨[.int .u64 p], rfl, rfl, ?_⟩
   intro i u hi
   match i, hi with
   | 0, hi =>
    have hu : Value.int .u64 p = u := by simpa using hi
    subst hu
    have hj1 : j < (zs.take len).length := (List.getElem?_eq_some_iff.1 hj).1
    have hj2 : j < zs.length := by omega
    have hc := hcell j hj2
    have hz : zs.getD j 0 = p := by
     rw [List.getElem?_take, if_pos (by omega)] at hj
     rw [List.getD_eq_getElem?_getD, hj]; rfl
    rw [hz] at hc
    show W.cell? (a'.add (j * 1 + 0)) = _
    rw [Nat.mul_one, Nat.add_zero]; exact hc
   | i + 1, hi => simp at hi
  ·intro x hx
   have hw := hwf x (List.mem_of_mem_take hx)
   simp [Lit.wf, IntKind.min, IntKind.max, IntKind.signed, IntKind.bits] at hw
   have : ((BW : Nat) : Int) = 18446744073709551616 := rfl
   rw [this]
   omega
end Go.Proofs.YtgkdealidnidiaaDoor.Na
namespace Go.Proofs.YtgkdealidnidiaaDoor
open Go.RowKit
mutual
def flat : DataW Unit → List Value
 | .lit (.int k n) => [.int k n]
 | .agg parts => flats parts
 | _ => []
def flats : List (DataW Unit) → List Value
 | [] => []
 | d :: r => flat d ++ flats r
end
def layObj (d : DataW Unit) : Obj → Obj
 | .cells _ t fr => .cells (flat d).toArray t fr
 | o => o
noncomputable def laidWorld (os : Os) : World :=
 let w0 := World.holding Tryd.prog os ⟨#[], #[], []⟩
 { w0 with heap := ((w0.heap.modify 4 (layObj Rows.laid_math_bits_deBruijn32tab)).modify 5 (layObj Rows.laid_math_bits_deBruijn64tab)).modify 2 (layObj Rows.laid_internal_strconv_uint64pow10) }
theorem tab_of {W : World} (h : laidMetH Tryd.prog [("math/bits.deBruijn32tab", Rows.laid_math_bits_deBruijn32tab), ("math/bits.deBruijn64tab", Rows.laid_math_bits_deBruijn64tab), ("internal/strconv.uint64pow10", Rows.laid_internal_strconv_uint64pow10)] W) : Na.Tab W := by
 rw [MakeChecks.laidMetH_plain _ _ _ (by kernel_rfl)] at h
 have h2 := h.filter (fun x => x.1 == "internal/strconv.uint64pow10")
 have e : ([("math/bits.deBruijn32tab", Rows.laid_math_bits_deBruijn32tab), ("math/bits.deBruijn64tab", Rows.laid_math_bits_deBruijn64tab), ("internal/strconv.uint64pow10", Rows.laid_internal_strconv_uint64pow10)] : List (String × DataW Unit)).filter (fun x => x.1 == "internal/strconv.uint64pow10") = [("internal/strconv.uint64pow10", Lib.tabData .u64 Lib.pow10Tab)] := by kernel_rfl
 rw [e] at h2
 exact Lib.tabIs_of_head (g := 2) (t := 161) (e := 40) (n := 20) (by kernel_rfl) (by kernel_rfl) Tryd.underlying161 Tryd.underlying40 (by kernel_rfl) (by kernel_rfl) h2
end Go.Proofs.YtgkdealidnidiaaDoor
