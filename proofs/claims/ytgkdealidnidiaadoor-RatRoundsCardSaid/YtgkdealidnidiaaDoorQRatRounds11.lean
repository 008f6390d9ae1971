/- Texts of the seat, as far as the row needs them. -/
import Derived.Test.YtgkdealidnidiaaDoorQRatRounds10
set_option linter.unusedVariables false
set_option linter.unusedSimpArgs false
set_option maxHeartbeats 16000000
set_option maxRecDepth 100000
namespace Go.Proofs.YtgkdealidnidiaaDoor.Na
open Go.RowKit Go.Proofs.YtgkdealidnidiaaDoorW.PrintWords Go.Proofs.YtgkdealidnidiaaDoorW.PrintLast Go.Proofs.YtgkdealidnidiaaDoorW.PrintMore Go.Proofs.YtgkdealidnidiaaDoor.Dg
theorem Pw.zc2 {P : Nat → Prop} {w w' : World} {u : Value} {x g : Nat} (h : Pw P w u x) (hg : g = w.heap.size) (hb : Below w.heap.size w w') : Pw (fun i => P i ∧ i ≠ g) w' u x := Kd.zl (Kd.VM_ (Kd.V_bound h) (fun i hi => ⟨hi.1, by have := hi.2; omega⟩)) hb
theorem Pw.mono {P Q : Nat → Prop} {w : World} {u : Value} {x : Nat} (h : Pw P w u x) (hPQ : ∀ i, P i → Q i) : Pw Q w u x := Kd.VM_ h hPQ
theorem zf3 {w : World} {P : Nat → Prop} {u : Value} {x : Nat} (h1 : Pw P w u x) {v : Value} {y : Nat} (h2 : Nw w v y) (hxl : (wd BW x).length ≤ 100000) (hy : 0 < y) :
  Calls Tryd.prog 40 #[.agg #[u], .agg #[v]] w fun e w' => ∃ z z', e = .returned (.tuple #[.agg #[z], .agg #[z'], .int .i64 0]) ∧ Pw (fun i => w.heap.size ≤ i) w' z (x / y) ∧ Pw (fun i => P i ∨ w.heap.size ≤ i) w' z' (x % y) ∧ Below w.heap.size w w' := div_c h1 h2 hxl hy
theorem zr2 {w : World} {A1 A2 : Option Addr} {n1 n2 c1 c2 x y : Nat} (h1 : Nw w (.slice A1 n1 c1) x) (h2 : Nw w (.slice A2 n2 c2) y) (lx : (wd BW x).length ≤ 64) (hy : 0 < y) (p : Nat) (hp : p ≤ 4096) (hfit : (wd BW (x * 2 ^ p)).length ≤ 64) :
  Calls Tryd.prog 90 #[.agg #[.slice A1 n1 c1, .slice A2 n2 c2, .bool true], .int .i64 (p : Int)] w fun e w' => ∃ z, e = .returned (.tuple #[.agg #[z], .bool (!decide (x * 2 ^ p % y = 0)), .int .i64 0]) ∧ Nf w.heap.size w' z (x * 2 ^ p / y) ∧ Below w.heap.size w w' := by
 have hu29 := Tryd.underlying29
 have hu62 := Tryd.underlying62
 have d1 : decide ((p : Int) < 0) = false := decide_eq_false (by omega)
 have d2 : decide ((p : Int) > 4096) = false := decide_eq_false (by omega)
 have d3 : decide (4096 < (p : Int)) = false := decide_eq_false (by omega)
 have F := fun (W : World) (h : Nw W (.slice A1 n1 c1) x) => shl_c h lx p (by omega)
 rw [zb4 hfit, za4 hfit] at F
 obtain ⟨n, hn⟩ : ∃ n, x * 2 ^ p = n := ⟨_, rfl⟩
 rw [hn] at F hfit ⊢
 have HP := Q0.mk hp
 clear hn lx hp
 have f_2 : rb ((w.alloc (.cells #[.slice A1 n1 c1, .slice A2 n2 c2, .bool true] 62)).alloc (.cells #[.slice none 0 0] 29)) w.heap.size (.slice A1 n1 c1) (.slice A2 n2 c2) true := (rb.new w _ _ _).alloc _
 have f_4 : bx ((w.alloc (.cells #[.slice A1 n1 c1, .slice A2 n2 c2, .bool true] 62)).alloc (.cells #[.slice none 0 0] 29)) (w.heap.size + 1) (.slice none 0 0) := by have h := bx.new (w.alloc (.cells #[.slice A1 n1 c1, .slice A2 n2 c2, .bool true] 62)) (.slice none 0 0); simpa using h
 have hB : Below w.heap.size w ((w.alloc (.cells #[.slice A1 n1 c1, .slice A2 n2 c2, .bool true] 62)).alloc (.cells #[.slice none 0 0] 29)) := bA (bA (Below.refl _ _) _) _
 have k0 := (kC f_2 0).trans rfl
 go_enter Tryd.func90, Tryd.ntmps90
 go_wp2_with fail
 replace h1 := h1.below hB
 replace h2 := h2.below hB
 clear k0
 generalize ((w.alloc (.cells #[.slice A1 n1 c1, .slice A2 n2 c2, .bool true] 62)).alloc (.cells #[.slice none 0 0] 29)) = w_1 at f_2 f_4 h1 h2 hB ⊢
 have l_4 : w.heap.size ≤ w.heap.size + 1 := by omega
 have n_24 : w.heap.size ≠ w.heap.size + 1 := by omega
 generalize w.heap.size + 1 = b_4 at f_4 l_4 n_24 ⊢
 refine (F _ h1).mono ?_
 rintro e w_2 ⟨z_n, rfl, hnn, hb⟩
 replace h2 := h2.below hb
 replace f_2 := f_2.below hb
 replace f_4 := f_4.below hb
 replace hB := hB.trans (hb.mono hB.size)
 clear hb
 clear F
 obtain ⟨A_3, n_3, c_3, rfl⟩ := hnn.shape
 go_wp2_with fail
 have f_7 := bx.new w_2 (.slice A_3 n_3 c_3)
 have hA_ := bA (Below.refl w_2.heap.size w_2) (.cells #[(.slice A_3 n_3 c_3)] 29)
 replace h2 := h2.below hA_
 replace f_2 := f_2.below hA_
 replace f_4 := f_4.below hA_
 replace hnn := hnn.below hA_
 replace hB := hB.trans (hA_.mono hB.size)
 clear hA_
 generalize w_2.alloc (.cells #[(.slice A_3 n_3 c_3)] 29) = w_4 at f_7 h2 f_2 f_4 hnn hB ⊢
 generalize w_2.heap.size = b_7 at f_7 ⊢
 have g4 := f_4.lt
 have g2 := f_2.lt
 have g7 := f_7.lt
 have hb : Below w_4.heap.size w_4 w_4.drew := zf0 (Below.refl _ _)
 refine zt0 (n := 13) (S := fun w' => Below w_4.drew.heap.size w_4.drew w') (ds := []) #[ff,ff,ff,ff,ff,ff,ff,ff,ff,ff,ff,ff,ff] (by kernel_rfl) rfl rfl (Below.refl _ _) (fun hS => ?_)
 replace h2 := h2.below hb
 replace f_2 := f_2.below hb
 replace f_4 := f_4.below hb
 replace hnn := hnn.below hb
 replace f_7 := f_7.below hb
 replace hB := hB.trans (hb.mono hB.size)
 clear hb
 generalize w_4.drew = w_5 at h2 f_2 f_4 hnn f_7 hB hS ⊢
 have sf_7 := f_7
 have sf_2 := f_2
 have g45 := f_4.lt
 have gw5 := hB.size
 refine z10 0 31 ?_ #[tt,ff,ff,ff,ff,ff,ff,ff,ff,ff,ff,ff,ff] rfl rfl (by kernel_rfl) (fun _ _ _ h => h) (Or.inl ⟨by rfl, ?_⟩) hS ?_ ?_ ?_
 rotate_left
 ·intro w' hS_
  have k_ := (kC (bx.below sf_7 hS_) 0).trans rfl
  go_simp
  with_reducible rfl
 rotate_left
 ·simp only [Act.put, s2_, s0_, s1_, iw, jw]
  rfl
 refine z10 1 32 ?_ #[tt,tt,ff,ff,ff,ff,ff,ff,ff,ff,ff,ff,ff] rfl rfl (by kernel_rfl) (fun _ _ _ h => h) (Or.inl ⟨by rfl, ?_⟩) hS ?_ ?_ ?_
 rotate_left
 ·intro w' hS_
  have k0_ := (kC (rb.below sf_2 hS_) 0).trans rfl
  have k1_ := (kC (rb.below sf_2 hS_) 1).trans rfl
  have k2_ := (kC (rb.below sf_2 hS_) 2).trans rfl
  go_simp
  with_reducible rfl
 rotate_left
 ·simp only [Act.put, s2_, s0_, s1_, iw, jw]
  rfl
 clear h1 d1 d2 d3 sf_7 sf_2 f_2 f_7
 replace hnn := Nw.pw (P := fun i => i < w_5.heap.size) hnn (fun i hi => hi)
 refine join_ (σ := (Value × Value) × (Nat × Nat)) 3 #[tt,tt,tt,tt,tt,tt,tt,tt,tt,tt,ff,ff,ff] (fun s_ => [(33, .agg #[.slice A2 n2 c2]), (34, .tuple #[.agg #[s_.1.1], .agg #[s_.1.2], .int .i64 0]), (30, .tuple #[.agg #[s_.1.1], .agg #[s_.1.2], .int .i64 0]), (35, .agg #[s_.1.1]), (36, .agg #[s_.1.2]), (37, .int .i64 0), (9, .pointer (some ⟨s_.2.1, 0, none⟩)), (10, .pointer (some ⟨s_.2.2, 0, none⟩))]) (fun s_ w' => Below w_5.heap.size w_5 w' ∧ bx w' s_.2.1 (.slice none 0 0) ∧ bx w' s_.2.2 (.slice none 0 0) ∧ s_.2.1 ≠ s_.2.2 ∧ w_5.heap.size ≤ s_.2.1 ∧ w_5.heap.size ≤ s_.2.2 ∧ Pw (fun i => w_5.heap.size ≤ i ∧ i ≠ s_.2.1 ∧ i ≠ s_.2.2) w' s_.1.1 (n / y) ∧ Pw (fun i => i ≠ s_.2.1 ∧ i ≠ s_.2.2) w' s_.1.2 (n % y)) ?_ ?_
 rotate_left
 ·intro hCont
  refine three_ (i := 2) (j := 8) (k := 9) (Ni := some 33) (Nj := some 9) (Nk := some 10) #[tt,tt,tt,ff,ff,ff,ff,ff,ff,ff,ff,ff,ff] #[tt,tt,ff,ff,ff,ff,ff,ff,tt,ff,ff,ff,ff] #[tt,tt,ff,ff,ff,ff,ff,ff,ff,tt,ff,ff,ff] rfl rfl rfl rfl rfl rfl (by kernel_rfl) (by decide) (by decide) (by decide) (fun K hK => ?_) (fun K hK => ?_) (fun K hK => ?_)
  ·refine z00 Tryd.func89 (by kernel_rfl) rfl #[.agg #[.slice A1 n1 c1, .slice A2 n2 c2, .bool true]] (by rfl) rfl rfl (by (try simp only [List.map_toArray, List.map_cons, List.map_nil]); first | done | rfl) ?_
   refine (zn3).mono ?_
   rintro e v_101 ⟨rfl, hb⟩
   refine ⟨_, rfl, ?_⟩
   replace h2 := h2.below hb
   replace hnn := hnn.below hb
   replace f_4 := f_4.below hb
   replace hB := hB.trans (hb.mono hB.size)
   replace hS := hS.trans (hb.mono hS.size)
   clear hb
   refine hK.out _ _ hS (fun hS => ?_)
   clear hK K
   refine zg (a' := ?_) ?_ ?_
   rotate_left
   ·show Act.put _ (some 33) _ = _
    simp only [Act.put, s2_, s0_, s1_, iw, jw]
    rfl
   refine three_ (i := 3) (j := 8) (k := 9) (Ni := some 34) (Nj := some 9) (Nk := some 10) #[tt,tt,tt,tt,ff,ff,ff,ff,ff,ff,ff,ff,ff] #[tt,tt,tt,ff,ff,ff,ff,ff,tt,ff,ff,ff,ff] #[tt,tt,tt,ff,ff,ff,ff,ff,ff,tt,ff,ff,ff] rfl rfl rfl rfl rfl rfl (by kernel_rfl) (by decide) (by decide) (by decide) (fun K hK => ?_) (fun K hK => ?_) (fun K hK => ?_)
   ·refine z00 Tryd.func40 (by kernel_rfl) rfl #[.agg #[(.slice A_3 n_3 c_3)], .agg #[.slice A2 n2 c2]] (by rfl) rfl rfl (by (try simp only [List.map_toArray, List.map_cons, List.map_nil]); first | done | rfl) ?_
    have gs := hS.size
    refine (zf3 hnn h2 (by omega) hy).mono ?_
    rintro e v_102 ⟨zq, zr, rfl, hq, hr, hb⟩
    refine ⟨_, rfl, ?_⟩
    replace f_4 := f_4.below hb
    replace hB := hB.trans (hb.mono hB.size)
    replace hS := hS.trans (hb.mono hS.size)
    clear hb h2 hnn
    refine hK.out _ _ hS (fun hS => ?_)
    clear hK K
    refine zg (a' := ?_) ?_ ?_
    rotate_left
    ·show Act.put _ (some 34) _ = _
     simp only [Act.put, s2_, s0_, s1_, iw, jw]
     rfl
    refine za 4 30 ?_ #[tt,tt,tt,tt,tt,ff,ff,ff,ff,ff,ff,ff,ff] rfl rfl (by kernel_rfl) (fun _ _ _ h => h) (Or.inl ⟨by rfl, ?_⟩) ?_ ?_ ?_
    rotate_left
    ·intro w'
     go_simp
     with_reducible rfl
    rotate_left
    ·simp only [Act.put, s2_, s0_, s1_, iw, jw]
     rfl
    refine za 5 35 ?_ #[tt,tt,tt,tt,tt,tt,ff,ff,ff,ff,ff,ff,ff] rfl rfl (by kernel_rfl) (fun _ _ _ h => h) (Or.inl ⟨by rfl, ?_⟩) ?_ ?_ ?_
    rotate_left
    ·intro w'
     go_simp
     with_reducible rfl
    rotate_left
    ·simp only [Act.put, s2_, s0_, s1_, iw, jw]
     rfl
    refine za 6 36 ?_ #[tt,tt,tt,tt,tt,tt,tt,ff,ff,ff,ff,ff,ff] rfl rfl (by kernel_rfl) (fun _ _ _ h => h) (Or.inl ⟨by rfl, ?_⟩) ?_ ?_ ?_
    rotate_left
    ·intro w'
     go_simp
     with_reducible rfl
    rotate_left
    ·simp only [Act.put, s2_, s0_, s1_, iw, jw]
     rfl
    refine za 7 37 ?_ #[tt,tt,tt,tt,tt,tt,tt,tt,ff,ff,ff,ff,ff] rfl rfl (by kernel_rfl) (fun _ _ _ h => h) (Or.inl ⟨by rfl, ?_⟩) ?_ ?_ ?_
    rotate_left
    ·intro w'
     go_simp
     with_reducible rfl
    rotate_left
    ·simp only [Act.put, s2_, s0_, s1_, iw, jw]
     rfl
    refine two_ (i := 8) (j := 9) (Ni := some 9) (Nj := some 10) #[tt,tt,tt,tt,tt,tt,tt,tt,tt,ff,ff,ff,ff] #[tt,tt,tt,tt,tt,tt,tt,tt,ff,tt,ff,ff,ff] rfl rfl rfl rfl (by kernel_rfl) (by decide) (by decide) (fun K hK => ?_) (fun K hK => ?_)
    ·refine z01 (by rfl) (N := 9) rfl (cs := #[.slice none 0 0]) (t := 29) ?_ ?_
     ·first | (go_simp; done) | (go_simp; rfl)
     intro g_104 hg v_103 hbox hb
     have h9 : bx v_103 g_104 (.slice none 0 0) := hbox
     have l9 : w_5.heap.size ≤ g_104 := by rw [hg]; exact hS.size
     replace hq := Pw.zc2 hq hg hb
     replace hr := Pw.zc2 hr hg hb
     replace f_4 := f_4.below hb
     replace hB := hB.trans (hb.mono hB.size)
     replace hS := hS.trans (hb.mono hS.size)
     clear hb hbox hg
     refine hK.out _ _ hS (fun hS => ?_)
     clear hK K
     refine zg (a' := ?_) ?_ ?_
     rotate_left
     ·show Act.put _ (some 9) _ = _
      simp only [Act.put, s2_, s0_, s1_, iw, jw]
      rfl
     refine zh0 (i := 9) (N := some 10) #[tt,tt,tt,tt,tt,tt,tt,tt,tt,tt,ff,ff,ff] rfl rfl (by kernel_rfl) (by decide) (fun K hK => ?_)
     refine z01 (by rfl) (N := 10) rfl (cs := #[.slice none 0 0]) (t := 29) ?_ ?_
     ·first | (go_simp; done) | (go_simp; rfl)
     intro g_106 hg v_105 hbox hb
     have h10 : bx v_105 g_106 (.slice none 0 0) := hbox
     have l10 : w_5.heap.size ≤ g_106 := by rw [hg]; exact hS.size
     have u9' := h9.lt
     have nn : g_106 ≠ g_104 := by omega
     replace hq := Pw.zc2 hq hg hb
     replace hr := Pw.zc2 hr hg hb
     replace f_4 := f_4.below hb
     replace h9 := h9.below hb
     replace hB := hB.trans (hb.mono hB.size)
     replace hS := hS.trans (hb.mono hS.size)
     clear hb hbox hg
     refine hK.out _ _ hS (fun hS => ?_)
     clear hK K
     refine zg (a' := ?_) ?_ ?_
     rotate_left
     ·show Act.put _ (some 10) _ = _
      simp only [Act.put, s2_, s0_, s1_, iw, jw]
      rfl
     exact zg (by simp only [zq1, Act.put, s2_, s0_, s1_]) (hCont ((_, _), (g_104, g_106)) _ ⟨hS, h9, h10, (show g_104 ≠ g_106 by omega), l9, l10, Pw.mono hq (fun i hi => by (try dsimp only at hi); refine ⟨?_, ?_, ?_⟩ <;> (try dsimp only) <;> omega), Pw.mono hr (fun i hi => by (try dsimp only at hi); refine ⟨?_, ?_⟩ <;> (try dsimp only) <;> omega)⟩)
    ·refine z01 (by rfl) (N := 10) rfl (cs := #[.slice none 0 0]) (t := 29) ?_ ?_
     ·first | (go_simp; done) | (go_simp; rfl)
     intro g_108 hg v_107 hbox hb
     have h10 : bx v_107 g_108 (.slice none 0 0) := hbox
     have l10 : w_5.heap.size ≤ g_108 := by rw [hg]; exact hS.size
     replace hq := Pw.zc2 hq hg hb
     replace hr := Pw.zc2 hr hg hb
     replace f_4 := f_4.below hb
     replace hB := hB.trans (hb.mono hB.size)
     replace hS := hS.trans (hb.mono hS.size)
     clear hb hbox hg
     refine hK.out _ _ hS (fun hS => ?_)
     clear hK K
     refine zg (a' := ?_) ?_ ?_
     rotate_left
     ·show Act.put _ (some 10) _ = _
      simp only [Act.put, s2_, s0_, s1_, iw, jw]
      rfl
     refine zh0 (i := 8) (N := some 9) #[tt,tt,tt,tt,tt,tt,tt,tt,tt,tt,ff,ff,ff] rfl rfl (by kernel_rfl) (by decide) (fun K hK => ?_)
     refine z01 (by rfl) (N := 9) rfl (cs := #[.slice none 0 0]) (t := 29) ?_ ?_
     ·first | (go_simp; done) | (go_simp; rfl)
     intro g_110 hg v_109 hbox hb
     have h9 : bx v_109 g_110 (.slice none 0 0) := hbox
     have l9 : w_5.heap.size ≤ g_110 := by rw [hg]; exact hS.size
     have u10' := h10.lt
     have nn : g_110 ≠ g_108 := by omega
     replace hq := Pw.zc2 hq hg hb
     replace hr := Pw.zc2 hr hg hb
     replace f_4 := f_4.below hb
     replace h10 := h10.below hb
     replace hB := hB.trans (hb.mono hB.size)
     replace hS := hS.trans (hb.mono hS.size)
     clear hb hbox hg
     refine hK.out _ _ hS (fun hS => ?_)
     clear hK K
     refine zg (a' := ?_) ?_ ?_
     rotate_left
     ·show Act.put _ (some 9) _ = _
      simp only [Act.put, s2_, s0_, s1_, iw, jw]
      rfl
     exact zg (by simp only [zq1, Act.put, s2_, s0_, s1_]) (hCont ((_, _), (g_110, g_108)) _ ⟨hS, h9, h10, (show g_110 ≠ g_108 by omega), l9, l10, Pw.mono hq (fun i hi => by (try dsimp only at hi); refine ⟨?_, ?_, ?_⟩ <;> (try dsimp only) <;> omega), Pw.mono hr (fun i hi => by (try dsimp only at hi); refine ⟨?_, ?_⟩ <;> (try dsimp only) <;> omega)⟩)
   ·refine z01 (by rfl) (N := 9) rfl (cs := #[.slice none 0 0]) (t := 29) ?_ ?_
    ·first | (go_simp; done) | (go_simp; rfl)
    intro g_112 hg v_111 hbox hb
    have h9 : bx v_111 g_112 (.slice none 0 0) := hbox
    have l9 : w_5.heap.size ≤ g_112 := by rw [hg]; exact hS.size
    replace h2 := h2.below hb
    replace hnn := hnn.below hb
    replace f_4 := f_4.below hb
    replace hB := hB.trans (hb.mono hB.size)
    replace hS := hS.trans (hb.mono hS.size)
    clear hb hbox hg
    refine hK.out _ _ hS (fun hS => ?_)
    clear hK K
    refine zg (a' := ?_) ?_ ?_
    rotate_left
    ·show Act.put _ (some 9) _ = _
     simp only [Act.put, s2_, s0_, s1_, iw, jw]
     rfl
    refine two_ (i := 3) (j := 9) (Ni := some 34) (Nj := some 10) #[tt,tt,tt,tt,ff,ff,ff,ff,tt,ff,ff,ff,ff] #[tt,tt,tt,ff,ff,ff,ff,ff,tt,tt,ff,ff,ff] rfl rfl rfl rfl (by kernel_rfl) (by decide) (by decide) (fun K hK => ?_) (fun K hK => ?_)
    ·refine z00 Tryd.func40 (by kernel_rfl) rfl #[.agg #[(.slice A_3 n_3 c_3)], .agg #[.slice A2 n2 c2]] (by rfl) rfl rfl (by (try simp only [List.map_toArray, List.map_cons, List.map_nil]); first | done | rfl) ?_
     have gs := hS.size
     have u9 := h9.lt
     refine (zf3 hnn h2 (by omega) hy).mono ?_
     rintro e v_113 ⟨zq, zr, rfl, hq, hr, hb⟩
     refine ⟨_, rfl, ?_⟩
     replace f_4 := f_4.below hb
     replace h9 := h9.below hb
     replace hB := hB.trans (hb.mono hB.size)
     replace hS := hS.trans (hb.mono hS.size)
     clear hb h2 hnn
     refine hK.out _ _ hS (fun hS => ?_)
     clear hK K
     refine zg (a' := ?_) ?_ ?_
     rotate_left
     ·show Act.put _ (some 34) _ = _
      simp only [Act.put, s2_, s0_, s1_, iw, jw]
      rfl
     refine za 4 30 ?_ #[tt,tt,tt,tt,tt,ff,ff,ff,tt,ff,ff,ff,ff] rfl rfl (by kernel_rfl) (fun _ _ _ h => h) (Or.inl ⟨by rfl, ?_⟩) ?_ ?_ ?_
     rotate_left
     ·intro w'
      go_simp
      with_reducible rfl
     rotate_left
     ·simp only [Act.put, s2_, s0_, s1_, iw, jw]
      rfl
     refine za 5 35 ?_ #[tt,tt,tt,tt,tt,tt,ff,ff,tt,ff,ff,ff,ff] rfl rfl (by kernel_rfl) (fun _ _ _ h => h) (Or.inl ⟨by rfl, ?_⟩) ?_ ?_ ?_
     rotate_left
     ·intro w'
      go_simp
      with_reducible rfl
     rotate_left
     ·simp only [Act.put, s2_, s0_, s1_, iw, jw]
      rfl
     refine za 6 36 ?_ #[tt,tt,tt,tt,tt,tt,tt,ff,tt,ff,ff,ff,ff] rfl rfl (by kernel_rfl) (fun _ _ _ h => h) (Or.inl ⟨by rfl, ?_⟩) ?_ ?_ ?_
     rotate_left
     ·intro w'
      go_simp
      with_reducible rfl
     rotate_left
     ·simp only [Act.put, s2_, s0_, s1_, iw, jw]
      rfl
     refine za 7 37 ?_ #[tt,tt,tt,tt,tt,tt,tt,tt,tt,ff,ff,ff,ff] rfl rfl (by kernel_rfl) (fun _ _ _ h => h) (Or.inl ⟨by rfl, ?_⟩) ?_ ?_ ?_
     rotate_left
     ·intro w'
      go_simp
      with_reducible rfl
     rotate_left
     ·simp only [Act.put, s2_, s0_, s1_, iw, jw]
      rfl
     refine zh0 (i := 9) (N := some 10) #[tt,tt,tt,tt,tt,tt,tt,tt,tt,tt,ff,ff,ff] rfl rfl (by kernel_rfl) (by decide) (fun K hK => ?_)
     refine z01 (by rfl) (N := 10) rfl (cs := #[.slice none 0 0]) (t := 29) ?_ ?_
     ·first | (go_simp; done) | (go_simp; rfl)
     intro g_115 hg v_114 hbox hb
     have h10 : bx v_114 g_115 (.slice none 0 0) := hbox
     have l10 : w_5.heap.size ≤ g_115 := by rw [hg]; exact hS.size
     have u9' := h9.lt
     have nn : g_115 ≠ g_112 := by omega
     replace hq := Pw.zc2 hq hg hb
     replace hr := Pw.zc2 hr hg hb
     replace f_4 := f_4.below hb
     replace h9 := h9.below hb
     replace hB := hB.trans (hb.mono hB.size)
     replace hS := hS.trans (hb.mono hS.size)
     clear hb hbox hg
     refine hK.out _ _ hS (fun hS => ?_)
     clear hK K
     refine zg (a' := ?_) ?_ ?_
     rotate_left
     ·show Act.put _ (some 10) _ = _
      simp only [Act.put, s2_, s0_, s1_, iw, jw]
      rfl
     exact zg (by simp only [zq1, Act.put, s2_, s0_, s1_]) (hCont ((_, _), (g_112, g_115)) _ ⟨hS, h9, h10, (show g_112 ≠ g_115 by omega), l9, l10, Pw.mono hq (fun i hi => by (try dsimp only at hi); refine ⟨?_, ?_, ?_⟩ <;> (try dsimp only) <;> omega), Pw.mono hr (fun i hi => by (try dsimp only at hi); refine ⟨?_, ?_⟩ <;> (try dsimp only) <;> omega)⟩)
    ·refine z01 (by rfl) (N := 10) rfl (cs := #[.slice none 0 0]) (t := 29) ?_ ?_
     ·first | (go_simp; done) | (go_simp; rfl)
     intro g_117 hg v_116 hbox hb
     have h10 : bx v_116 g_117 (.slice none 0 0) := hbox
     have l10 : w_5.heap.size ≤ g_117 := by rw [hg]; exact hS.size
     have u9' := h9.lt
     have nn : g_117 ≠ g_112 := by omega
     replace h2 := h2.below hb
     replace hnn := hnn.below hb
     replace f_4 := f_4.below hb
     replace h9 := h9.below hb
     replace hB := hB.trans (hb.mono hB.size)
     replace hS := hS.trans (hb.mono hS.size)
     clear hb hbox hg
     refine hK.out _ _ hS (fun hS => ?_)
     clear hK K
     refine zg (a' := ?_) ?_ ?_
     rotate_left
     ·show Act.put _ (some 10) _ = _
      simp only [Act.put, s2_, s0_, s1_, iw, jw]
      rfl
     refine zh0 (i := 3) (N := some 34) #[tt,tt,tt,tt,ff,ff,ff,ff,tt,tt,ff,ff,ff] rfl rfl (by kernel_rfl) (by decide) (fun K hK => ?_)
     refine z00 Tryd.func40 (by kernel_rfl) rfl #[.agg #[(.slice A_3 n_3 c_3)], .agg #[.slice A2 n2 c2]] (by rfl) rfl rfl (by (try simp only [List.map_toArray, List.map_cons, List.map_nil]); first | done | rfl) ?_
     have gs := hS.size
     have u9 := h9.lt
     have u10 := h10.lt
     refine (zf3 hnn h2 (by omega) hy).mono ?_
     rintro e v_118 ⟨zq, zr, rfl, hq, hr, hb⟩
     refine ⟨_, rfl, ?_⟩
     replace f_4 := f_4.below hb
     replace h9 := h9.below hb
     replace h10 := h10.below hb
     replace hB := hB.trans (hb.mono hB.size)
     replace hS := hS.trans (hb.mono hS.size)
     clear hb h2 hnn
     refine hK.out _ _ hS (fun hS => ?_)
     clear hK K
     refine zg (a' := ?_) ?_ ?_
     rotate_left
     ·show Act.put _ (some 34) _ = _
      simp only [Act.put, s2_, s0_, s1_, iw, jw]
      rfl
     refine za 4 30 ?_ #[tt,tt,tt,tt,tt,ff,ff,ff,tt,tt,ff,ff,ff] rfl rfl (by kernel_rfl) (fun _ _ _ h => h) (Or.inl ⟨by rfl, ?_⟩) ?_ ?_ ?_
     rotate_left
     ·intro w'
      go_simp
      with_reducible rfl
     rotate_left
     ·simp only [Act.put, s2_, s0_, s1_, iw, jw]
      rfl
     refine za 5 35 ?_ #[tt,tt,tt,tt,tt,tt,ff,ff,tt,tt,ff,ff,ff] rfl rfl (by kernel_rfl) (fun _ _ _ h => h) (Or.inl ⟨by rfl, ?_⟩) ?_ ?_ ?_
     rotate_left
     ·intro w'
      go_simp
      with_reducible rfl
     rotate_left
     ·simp only [Act.put, s2_, s0_, s1_, iw, jw]
      rfl
     refine za 6 36 ?_ #[tt,tt,tt,tt,tt,tt,tt,ff,tt,tt,ff,ff,ff] rfl rfl (by kernel_rfl) (fun _ _ _ h => h) (Or.inl ⟨by rfl, ?_⟩) ?_ ?_ ?_
     rotate_left
     ·intro w'
      go_simp
      with_reducible rfl
     rotate_left
     ·simp only [Act.put, s2_, s0_, s1_, iw, jw]
      rfl
     refine za 7 37 ?_ #[tt,tt,tt,tt,tt,tt,tt,tt,tt,tt,ff,ff,ff] rfl rfl (by kernel_rfl) (fun _ _ _ h => h) (Or.inl ⟨by rfl, ?_⟩) ?_ ?_ ?_
     rotate_left
     ·intro w'
      go_simp
      with_reducible rfl
     rotate_left
     ·simp only [Act.put, s2_, s0_, s1_, iw, jw]
      rfl
     exact zg (by simp only [zq1, Act.put, s2_, s0_, s1_]) (hCont ((_, _), (g_112, g_117)) _ ⟨hS, h9, h10, (show g_112 ≠ g_117 by omega), l9, l10, Pw.mono hq (fun i hi => by (try dsimp only at hi); refine ⟨?_, ?_, ?_⟩ <;> (try dsimp only) <;> omega), Pw.mono hr (fun i hi => by (try dsimp only at hi); refine ⟨?_, ?_⟩ <;> (try dsimp only) <;> omega)⟩)
   ·refine z01 (by rfl) (N := 10) rfl (cs := #[.slice none 0 0]) (t := 29) ?_ ?_
    ·first | (go_simp; done) | (go_simp; rfl)
    intro g_120 hg v_119 hbox hb
    have h10 : bx v_119 g_120 (.slice none 0 0) := hbox
    have l10 : w_5.heap.size ≤ g_120 := by rw [hg]; exact hS.size
    replace h2 := h2.below hb
    replace hnn := hnn.below hb
    replace f_4 := f_4.below hb
    replace hB := hB.trans (hb.mono hB.size)
    replace hS := hS.trans (hb.mono hS.size)
    clear hb hbox hg
    refine hK.out _ _ hS (fun hS => ?_)
    clear hK K
    refine zg (a' := ?_) ?_ ?_
    rotate_left
    ·show Act.put _ (some 10) _ = _
     simp only [Act.put, s2_, s0_, s1_, iw, jw]
     rfl
    refine two_ (i := 3) (j := 8) (Ni := some 34) (Nj := some 9) #[tt,tt,tt,tt,ff,ff,ff,ff,ff,tt,ff,ff,ff] #[tt,tt,tt,ff,ff,ff,ff,ff,tt,tt,ff,ff,ff] rfl rfl rfl rfl (by kernel_rfl) (by decide) (by decide) (fun K hK => ?_) (fun K hK => ?_)
    ·refine z00 Tryd.func40 (by kernel_rfl) rfl #[.agg #[(.slice A_3 n_3 c_3)], .agg #[.slice A2 n2 c2]] (by rfl) rfl rfl (by (try simp only [List.map_toArray, List.map_cons, List.map_nil]); first | done | rfl) ?_
     have gs := hS.size
     have u10 := h10.lt
     refine (zf3 hnn h2 (by omega) hy).mono ?_
     rintro e v_121 ⟨zq, zr, rfl, hq, hr, hb⟩
     refine ⟨_, rfl, ?_⟩
     replace f_4 := f_4.below hb
     replace h10 := h10.below hb
     replace hB := hB.trans (hb.mono hB.size)
     replace hS := hS.trans (hb.mono hS.size)
     clear hb h2 hnn
     refine hK.out _ _ hS (fun hS => ?_)
     clear hK K
     refine zg (a' := ?_) ?_ ?_
     rotate_left
     ·show Act.put _ (some 34) _ = _
      simp only [Act.put, s2_, s0_, s1_, iw, jw]
      rfl
     refine za 4 30 ?_ #[tt,tt,tt,tt,tt,ff,ff,ff,ff,tt,ff,ff,ff] rfl rfl (by kernel_rfl) (fun _ _ _ h => h) (Or.inl ⟨by rfl, ?_⟩) ?_ ?_ ?_
     rotate_left
     ·intro w'
      go_simp
      with_reducible rfl
     rotate_left
     ·simp only [Act.put, s2_, s0_, s1_, iw, jw]
      rfl
     refine za 5 35 ?_ #[tt,tt,tt,tt,tt,tt,ff,ff,ff,tt,ff,ff,ff] rfl rfl (by kernel_rfl) (fun _ _ _ h => h) (Or.inl ⟨by rfl, ?_⟩) ?_ ?_ ?_
     rotate_left
     ·intro w'
      go_simp
      with_reducible rfl
     rotate_left
     ·simp only [Act.put, s2_, s0_, s1_, iw, jw]
      rfl
     refine za 6 36 ?_ #[tt,tt,tt,tt,tt,tt,tt,ff,ff,tt,ff,ff,ff] rfl rfl (by kernel_rfl) (fun _ _ _ h => h) (Or.inl ⟨by rfl, ?_⟩) ?_ ?_ ?_
     rotate_left
     ·intro w'
      go_simp
      with_reducible rfl
     rotate_left
     ·simp only [Act.put, s2_, s0_, s1_, iw, jw]
      rfl
     refine za 7 37 ?_ #[tt,tt,tt,tt,tt,tt,tt,tt,ff,tt,ff,ff,ff] rfl rfl (by kernel_rfl) (fun _ _ _ h => h) (Or.inl ⟨by rfl, ?_⟩) ?_ ?_ ?_
     rotate_left
     ·intro w'
      go_simp
      with_reducible rfl
     rotate_left
     ·simp only [Act.put, s2_, s0_, s1_, iw, jw]
      rfl
     refine zh0 (i := 8) (N := some 9) #[tt,tt,tt,tt,tt,tt,tt,tt,tt,tt,ff,ff,ff] rfl rfl (by kernel_rfl) (by decide) (fun K hK => ?_)
     refine z01 (by rfl) (N := 9) rfl (cs := #[.slice none 0 0]) (t := 29) ?_ ?_
     ·first | (go_simp; done) | (go_simp; rfl)
     intro g_123 hg v_122 hbox hb
     have h9 : bx v_122 g_123 (.slice none 0 0) := hbox
     have l9 : w_5.heap.size ≤ g_123 := by rw [hg]; exact hS.size
     have u10' := h10.lt
     have nn : g_123 ≠ g_120 := by omega
     replace hq := Pw.zc2 hq hg hb
     replace hr := Pw.zc2 hr hg hb
     replace f_4 := f_4.below hb
     replace h10 := h10.below hb
     replace hB := hB.trans (hb.mono hB.size)
     replace hS := hS.trans (hb.mono hS.size)
     clear hb hbox hg
     refine hK.out _ _ hS (fun hS => ?_)
     clear hK K
     refine zg (a' := ?_) ?_ ?_
     rotate_left
     ·show Act.put _ (some 9) _ = _
      simp only [Act.put, s2_, s0_, s1_, iw, jw]
      rfl
     exact zg (by simp only [zq1, Act.put, s2_, s0_, s1_]) (hCont ((_, _), (g_123, g_120)) _ ⟨hS, h9, h10, (show g_123 ≠ g_120 by omega), l9, l10, Pw.mono hq (fun i hi => by (try dsimp only at hi); refine ⟨?_, ?_, ?_⟩ <;> (try dsimp only) <;> omega), Pw.mono hr (fun i hi => by (try dsimp only at hi); refine ⟨?_, ?_⟩ <;> (try dsimp only) <;> omega)⟩)
    ·refine z01 (by rfl) (N := 9) rfl (cs := #[.slice none 0 0]) (t := 29) ?_ ?_
     ·first | (go_simp; done) | (go_simp; rfl)
     intro g_125 hg v_124 hbox hb
     have h9 : bx v_124 g_125 (.slice none 0 0) := hbox
     have l9 : w_5.heap.size ≤ g_125 := by rw [hg]; exact hS.size
     have u10' := h10.lt
     have nn : g_125 ≠ g_120 := by omega
     replace h2 := h2.below hb
     replace hnn := hnn.below hb
     replace f_4 := f_4.below hb
     replace h10 := h10.below hb
     replace hB := hB.trans (hb.mono hB.size)
     replace hS := hS.trans (hb.mono hS.size)
     clear hb hbox hg
     refine hK.out _ _ hS (fun hS => ?_)
     clear hK K
     refine zg (a' := ?_) ?_ ?_
     rotate_left
     ·show Act.put _ (some 9) _ = _
      simp only [Act.put, s2_, s0_, s1_, iw, jw]
      rfl
     refine zh0 (i := 3) (N := some 34) #[tt,tt,tt,tt,ff,ff,ff,ff,tt,tt,ff,ff,ff] rfl rfl (by kernel_rfl) (by decide) (fun K hK => ?_)
     refine z00 Tryd.func40 (by kernel_rfl) rfl #[.agg #[(.slice A_3 n_3 c_3)], .agg #[.slice A2 n2 c2]] (by rfl) rfl rfl (by (try simp only [List.map_toArray, List.map_cons, List.map_nil]); first | done | rfl) ?_
     have gs := hS.size
     have u9 := h9.lt
     have u10 := h10.lt
     refine (zf3 hnn h2 (by omega) hy).mono ?_
     rintro e v_126 ⟨zq, zr, rfl, hq, hr, hb⟩
     refine ⟨_, rfl, ?_⟩
     replace f_4 := f_4.below hb
     replace h9 := h9.below hb
     replace h10 := h10.below hb
     replace hB := hB.trans (hb.mono hB.size)
     replace hS := hS.trans (hb.mono hS.size)
     clear hb h2 hnn
     refine hK.out _ _ hS (fun hS => ?_)
     clear hK K
     refine zg (a' := ?_) ?_ ?_
     rotate_left
     ·show Act.put _ (some 34) _ = _
      simp only [Act.put, s2_, s0_, s1_, iw, jw]
      rfl
     refine za 4 30 ?_ #[tt,tt,tt,tt,tt,ff,ff,ff,tt,tt,ff,ff,ff] rfl rfl (by kernel_rfl) (fun _ _ _ h => h) (Or.inl ⟨by rfl, ?_⟩) ?_ ?_ ?_
     rotate_left
     ·intro w'
      go_simp
      with_reducible rfl
     rotate_left
     ·simp only [Act.put, s2_, s0_, s1_, iw, jw]
      rfl
     refine za 5 35 ?_ #[tt,tt,tt,tt,tt,tt,ff,ff,tt,tt,ff,ff,ff] rfl rfl (by kernel_rfl) (fun _ _ _ h => h) (Or.inl ⟨by rfl, ?_⟩) ?_ ?_ ?_
     rotate_left
     ·intro w'
      go_simp
      with_reducible rfl
     rotate_left
     ·simp only [Act.put, s2_, s0_, s1_, iw, jw]
      rfl
     refine za 6 36 ?_ #[tt,tt,tt,tt,tt,tt,tt,ff,tt,tt,ff,ff,ff] rfl rfl (by kernel_rfl) (fun _ _ _ h => h) (Or.inl ⟨by rfl, ?_⟩) ?_ ?_ ?_
     rotate_left
     ·intro w'
      go_simp
      with_reducible rfl
     rotate_left
     ·simp only [Act.put, s2_, s0_, s1_, iw, jw]
      rfl
     refine za 7 37 ?_ #[tt,tt,tt,tt,tt,tt,tt,tt,tt,tt,ff,ff,ff] rfl rfl (by kernel_rfl) (fun _ _ _ h => h) (Or.inl ⟨by rfl, ?_⟩) ?_ ?_ ?_
     rotate_left
     ·intro w'
      go_simp
      with_reducible rfl
     rotate_left
     ·simp only [Act.put, s2_, s0_, s1_, iw, jw]
      rfl
     exact zg (by simp only [zq1, Act.put, s2_, s0_, s1_]) (hCont ((_, _), (g_125, g_120)) _ ⟨hS, h9, h10, (show g_125 ≠ g_120 by omega), l9, l10, Pw.mono hq (fun i hi => by (try dsimp only at hi); refine ⟨?_, ?_, ?_⟩ <;> (try dsimp only) <;> omega), Pw.mono hr (fun i hi => by (try dsimp only at hi); refine ⟨?_, ?_⟩ <;> (try dsimp only) <;> omega)⟩)
  ·refine z01 (by rfl) (N := 9) rfl (cs := #[.slice none 0 0]) (t := 29) ?_ ?_
   ·first | (go_simp; done) | (go_simp; rfl)
   intro g_128 hg v_127 hbox hb
   have h9 : bx v_127 g_128 (.slice none 0 0) := hbox
   have l9 : w_5.heap.size ≤ g_128 := by rw [hg]; exact hS.size
   replace h2 := h2.below hb
   replace hnn := hnn.below hb
   replace f_4 := f_4.below hb
   replace hB := hB.trans (hb.mono hB.size)
   replace hS := hS.trans (hb.mono hS.size)
   clear hb hbox hg
   refine hK.out _ _ hS (fun hS => ?_)
   clear hK K
   refine zg (a' := ?_) ?_ ?_
   rotate_left
   ·show Act.put _ (some 9) _ = _
    simp only [Act.put, s2_, s0_, s1_, iw, jw]
    rfl
   refine two_ (i := 2) (j := 9) (Ni := some 33) (Nj := some 10) #[tt,tt,tt,ff,ff,ff,ff,ff,tt,ff,ff,ff,ff] #[tt,tt,ff,ff,ff,ff,ff,ff,tt,tt,ff,ff,ff] rfl rfl rfl rfl (by kernel_rfl) (by decide) (by decide) (fun K hK => ?_) (fun K hK => ?_)
   ·refine z00 Tryd.func89 (by kernel_rfl) rfl #[.agg #[.slice A1 n1 c1, .slice A2 n2 c2, .bool true]] (by rfl) rfl rfl (by (try simp only [List.map_toArray, List.map_cons, List.map_nil]); first | done | rfl) ?_
    refine (zn3).mono ?_
    rintro e v_129 ⟨rfl, hb⟩
    refine ⟨_, rfl, ?_⟩
    replace h2 := h2.below hb
    replace hnn := hnn.below hb
    replace f_4 := f_4.below hb
    replace h9 := h9.below hb
    replace hB := hB.trans (hb.mono hB.size)
    replace hS := hS.trans (hb.mono hS.size)
    clear hb
    refine hK.out _ _ hS (fun hS => ?_)
    clear hK K
    refine zg (a' := ?_) ?_ ?_
    rotate_left
    ·show Act.put _ (some 33) _ = _
     simp only [Act.put, s2_, s0_, s1_, iw, jw]
     rfl
    refine two_ (i := 3) (j := 9) (Ni := some 34) (Nj := some 10) #[tt,tt,tt,tt,ff,ff,ff,ff,tt,ff,ff,ff,ff] #[tt,tt,tt,ff,ff,ff,ff,ff,tt,tt,ff,ff,ff] rfl rfl rfl rfl (by kernel_rfl) (by decide) (by decide) (fun K hK => ?_) (fun K hK => ?_)
    ·refine z00 Tryd.func40 (by kernel_rfl) rfl #[.agg #[(.slice A_3 n_3 c_3)], .agg #[.slice A2 n2 c2]] (by rfl) rfl rfl (by (try simp only [List.map_toArray, List.map_cons, List.map_nil]); first | done | rfl) ?_
     have gs := hS.size
     have u9 := h9.lt
     refine (zf3 hnn h2 (by omega) hy).mono ?_
     rintro e v_130 ⟨zq, zr, rfl, hq, hr, hb⟩
     refine ⟨_, rfl, ?_⟩
     replace f_4 := f_4.below hb
     replace h9 := h9.below hb
     replace hB := hB.trans (hb.mono hB.size)
     replace hS := hS.trans (hb.mono hS.size)
     clear hb h2 hnn
     refine hK.out _ _ hS (fun hS => ?_)
     clear hK K
     refine zg (a' := ?_) ?_ ?_
     rotate_left
     ·show Act.put _ (some 34) _ = _
      simp only [Act.put, s2_, s0_, s1_, iw, jw]
      rfl
     refine za 4 30 ?_ #[tt,tt,tt,tt,tt,ff,ff,ff,tt,ff,ff,ff,ff] rfl rfl (by kernel_rfl) (fun _ _ _ h => h) (Or.inl ⟨by rfl, ?_⟩) ?_ ?_ ?_
     rotate_left
     ·intro w'
      go_simp
      with_reducible rfl
     rotate_left
     ·simp only [Act.put, s2_, s0_, s1_, iw, jw]
      rfl
     refine za 5 35 ?_ #[tt,tt,tt,tt,tt,tt,ff,ff,tt,ff,ff,ff,ff] rfl rfl (by kernel_rfl) (fun _ _ _ h => h) (Or.inl ⟨by rfl, ?_⟩) ?_ ?_ ?_
     rotate_left
     ·intro w'
      go_simp
      with_reducible rfl
     rotate_left
     ·simp only [Act.put, s2_, s0_, s1_, iw, jw]
      rfl
     refine za 6 36 ?_ #[tt,tt,tt,tt,tt,tt,tt,ff,tt,ff,ff,ff,ff] rfl rfl (by kernel_rfl) (fun _ _ _ h => h) (Or.inl ⟨by rfl, ?_⟩) ?_ ?_ ?_
     rotate_left
     ·intro w'
      go_simp
      with_reducible rfl
     rotate_left
     ·simp only [Act.put, s2_, s0_, s1_, iw, jw]
      rfl
     refine za 7 37 ?_ #[tt,tt,tt,tt,tt,tt,tt,tt,tt,ff,ff,ff,ff] rfl rfl (by kernel_rfl) (fun _ _ _ h => h) (Or.inl ⟨by rfl, ?_⟩) ?_ ?_ ?_
     rotate_left
     ·intro w'
      go_simp
      with_reducible rfl
     rotate_left
     ·simp only [Act.put, s2_, s0_, s1_, iw, jw]
      rfl
     refine zh0 (i := 9) (N := some 10) #[tt,tt,tt,tt,tt,tt,tt,tt,tt,tt,ff,ff,ff] rfl rfl (by kernel_rfl) (by decide) (fun K hK => ?_)
     refine z01 (by rfl) (N := 10) rfl (cs := #[.slice none 0 0]) (t := 29) ?_ ?_
     ·first | (go_simp; done) | (go_simp; rfl)
     intro g_132 hg v_131 hbox hb
     have h10 : bx v_131 g_132 (.slice none 0 0) := hbox
     have l10 : w_5.heap.size ≤ g_132 := by rw [hg]; exact hS.size
     have u9' := h9.lt
     have nn : g_132 ≠ g_128 := by omega
     replace hq := Pw.zc2 hq hg hb
     replace hr := Pw.zc2 hr hg hb
     replace f_4 := f_4.below hb
     replace h9 := h9.below hb
     replace hB := hB.trans (hb.mono hB.size)
     replace hS := hS.trans (hb.mono hS.size)
     clear hb hbox hg
     refine hK.out _ _ hS (fun hS => ?_)
     clear hK K
     refine zg (a' := ?_) ?_ ?_
     rotate_left
     ·show Act.put _ (some 10) _ = _
      simp only [Act.put, s2_, s0_, s1_, iw, jw]
      rfl
     exact zg (by simp only [zq1, Act.put, s2_, s0_, s1_]) (hCont ((_, _), (g_128, g_132)) _ ⟨hS, h9, h10, (show g_128 ≠ g_132 by omega), l9, l10, Pw.mono hq (fun i hi => by (try dsimp only at hi); refine ⟨?_, ?_, ?_⟩ <;> (try dsimp only) <;> omega), Pw.mono hr (fun i hi => by (try dsimp only at hi); refine ⟨?_, ?_⟩ <;> (try dsimp only) <;> omega)⟩)
    ·refine z01 (by rfl) (N := 10) rfl (cs := #[.slice none 0 0]) (t := 29) ?_ ?_
     ·first | (go_simp; done) | (go_simp; rfl)
     intro g_134 hg v_133 hbox hb
     have h10 : bx v_133 g_134 (.slice none 0 0) := hbox
     have l10 : w_5.heap.size ≤ g_134 := by rw [hg]; exact hS.size
     have u9' := h9.lt
     have nn : g_134 ≠ g_128 := by omega
     replace h2 := h2.below hb
     replace hnn := hnn.below hb
     replace f_4 := f_4.below hb
     replace h9 := h9.below hb
     replace hB := hB.trans (hb.mono hB.size)
     replace hS := hS.trans (hb.mono hS.size)
     clear hb hbox hg
     refine hK.out _ _ hS (fun hS => ?_)
     clear hK K
     refine zg (a' := ?_) ?_ ?_
     rotate_left
     ·show Act.put _ (some 10) _ = _
      simp only [Act.put, s2_, s0_, s1_, iw, jw]
      rfl
     refine zh0 (i := 3) (N := some 34) #[tt,tt,tt,tt,ff,ff,ff,ff,tt,tt,ff,ff,ff] rfl rfl (by kernel_rfl) (by decide) (fun K hK => ?_)
     refine z00 Tryd.func40 (by kernel_rfl) rfl #[.agg #[(.slice A_3 n_3 c_3)], .agg #[.slice A2 n2 c2]] (by rfl) rfl rfl (by (try simp only [List.map_toArray, List.map_cons, List.map_nil]); first | done | rfl) ?_
     have gs := hS.size
     have u9 := h9.lt
     have u10 := h10.lt
     refine (zf3 hnn h2 (by omega) hy).mono ?_
     rintro e v_135 ⟨zq, zr, rfl, hq, hr, hb⟩
     refine ⟨_, rfl, ?_⟩
     replace f_4 := f_4.below hb
     replace h9 := h9.below hb
     replace h10 := h10.below hb
     replace hB := hB.trans (hb.mono hB.size)
     replace hS := hS.trans (hb.mono hS.size)
     clear hb h2 hnn
     refine hK.out _ _ hS (fun hS => ?_)
     clear hK K
     refine zg (a' := ?_) ?_ ?_
     rotate_left
     ·show Act.put _ (some 34) _ = _
      simp only [Act.put, s2_, s0_, s1_, iw, jw]
      rfl
     refine za 4 30 ?_ #[tt,tt,tt,tt,tt,ff,ff,ff,tt,tt,ff,ff,ff] rfl rfl (by kernel_rfl) (fun _ _ _ h => h) (Or.inl ⟨by rfl, ?_⟩) ?_ ?_ ?_
     rotate_left
     ·intro w'
      go_simp
      with_reducible rfl
     rotate_left
     ·simp only [Act.put, s2_, s0_, s1_, iw, jw]
      rfl
     refine za 5 35 ?_ #[tt,tt,tt,tt,tt,tt,ff,ff,tt,tt,ff,ff,ff] rfl rfl (by kernel_rfl) (fun _ _ _ h => h) (Or.inl ⟨by rfl, ?_⟩) ?_ ?_ ?_
     rotate_left
     ·intro w'
      go_simp
      with_reducible rfl
     rotate_left
     ·simp only [Act.put, s2_, s0_, s1_, iw, jw]
      rfl
     refine za 6 36 ?_ #[tt,tt,tt,tt,tt,tt,tt,ff,tt,tt,ff,ff,ff] rfl rfl (by kernel_rfl) (fun _ _ _ h => h) (Or.inl ⟨by rfl, ?_⟩) ?_ ?_ ?_
     rotate_left
     ·intro w'
      go_simp
      with_reducible rfl
     rotate_left
     ·simp only [Act.put, s2_, s0_, s1_, iw, jw]
      rfl
     refine za 7 37 ?_ #[tt,tt,tt,tt,tt,tt,tt,tt,tt,tt,ff,ff,ff] rfl rfl (by kernel_rfl) (fun _ _ _ h => h) (Or.inl ⟨by rfl, ?_⟩) ?_ ?_ ?_
     rotate_left
     ·intro w'
      go_simp
      with_reducible rfl
     rotate_left
     ·simp only [Act.put, s2_, s0_, s1_, iw, jw]
      rfl
     exact zg (by simp only [zq1, Act.put, s2_, s0_, s1_]) (hCont ((_, _), (g_128, g_134)) _ ⟨hS, h9, h10, (show g_128 ≠ g_134 by omega), l9, l10, Pw.mono hq (fun i hi => by (try dsimp only at hi); refine ⟨?_, ?_, ?_⟩ <;> (try dsimp only) <;> omega), Pw.mono hr (fun i hi => by (try dsimp only at hi); refine ⟨?_, ?_⟩ <;> (try dsimp only) <;> omega)⟩)
   ·refine z01 (by rfl) (N := 10) rfl (cs := #[.slice none 0 0]) (t := 29) ?_ ?_
    ·first | (go_simp; done) | (go_simp; rfl)
    intro g_137 hg v_136 hbox hb
    have h10 : bx v_136 g_137 (.slice none 0 0) := hbox
    have l10 : w_5.heap.size ≤ g_137 := by rw [hg]; exact hS.size
    have u9' := h9.lt
    have nn : g_137 ≠ g_128 := by omega
    replace h2 := h2.below hb
    replace hnn := hnn.below hb
    replace f_4 := f_4.below hb
    replace h9 := h9.below hb
    replace hB := hB.trans (hb.mono hB.size)
    replace hS := hS.trans (hb.mono hS.size)
    clear hb hbox hg
    refine hK.out _ _ hS (fun hS => ?_)
    clear hK K
    refine zg (a' := ?_) ?_ ?_
    rotate_left
    ·show Act.put _ (some 10) _ = _
     simp only [Act.put, s2_, s0_, s1_, iw, jw]
     rfl
    refine zh0 (i := 2) (N := some 33) #[tt,tt,tt,ff,ff,ff,ff,ff,tt,tt,ff,ff,ff] rfl rfl (by kernel_rfl) (by decide) (fun K hK => ?_)
    refine z00 Tryd.func89 (by kernel_rfl) rfl #[.agg #[.slice A1 n1 c1, .slice A2 n2 c2, .bool true]] (by rfl) rfl rfl (by (try simp only [List.map_toArray, List.map_cons, List.map_nil]); first | done | rfl) ?_
    refine (zn3).mono ?_
    rintro e v_138 ⟨rfl, hb⟩
    refine ⟨_, rfl, ?_⟩
    replace h2 := h2.below hb
    replace hnn := hnn.below hb
    replace f_4 := f_4.below hb
    replace h9 := h9.below hb
    replace h10 := h10.below hb
    replace hB := hB.trans (hb.mono hB.size)
    replace hS := hS.trans (hb.mono hS.size)
    clear hb
    refine hK.out _ _ hS (fun hS => ?_)
    clear hK K
    refine zg (a' := ?_) ?_ ?_
    rotate_left
    ·show Act.put _ (some 33) _ = _
     simp only [Act.put, s2_, s0_, s1_, iw, jw]
     rfl
    refine zh0 (i := 3) (N := some 34) #[tt,tt,tt,tt,ff,ff,ff,ff,tt,tt,ff,ff,ff] rfl rfl (by kernel_rfl) (by decide) (fun K hK => ?_)
    refine z00 Tryd.func40 (by kernel_rfl) rfl #[.agg #[(.slice A_3 n_3 c_3)], .agg #[.slice A2 n2 c2]] (by rfl) rfl rfl (by (try simp only [List.map_toArray, List.map_cons, List.map_nil]); first | done | rfl) ?_
    have gs := hS.size
    have u9 := h9.lt
    have u10 := h10.lt
    refine (zf3 hnn h2 (by omega) hy).mono ?_
    rintro e v_139 ⟨zq, zr, rfl, hq, hr, hb⟩
    refine ⟨_, rfl, ?_⟩
    replace f_4 := f_4.below hb
    replace h9 := h9.below hb
    replace h10 := h10.below hb
    replace hB := hB.trans (hb.mono hB.size)
    replace hS := hS.trans (hb.mono hS.size)
    clear hb h2 hnn
    refine hK.out _ _ hS (fun hS => ?_)
    clear hK K
    refine zg (a' := ?_) ?_ ?_
    rotate_left
    ·show Act.put _ (some 34) _ = _
     simp only [Act.put, s2_, s0_, s1_, iw, jw]
     rfl
    refine za 4 30 ?_ #[tt,tt,tt,tt,tt,ff,ff,ff,tt,tt,ff,ff,ff] rfl rfl (by kernel_rfl) (fun _ _ _ h => h) (Or.inl ⟨by rfl, ?_⟩) ?_ ?_ ?_
    rotate_left
    ·intro w'
     go_simp
     with_reducible rfl
    rotate_left
    ·simp only [Act.put, s2_, s0_, s1_, iw, jw]
     rfl
    refine za 5 35 ?_ #[tt,tt,tt,tt,tt,tt,ff,ff,tt,tt,ff,ff,ff] rfl rfl (by kernel_rfl) (fun _ _ _ h => h) (Or.inl ⟨by rfl, ?_⟩) ?_ ?_ ?_
    rotate_left
    ·intro w'
     go_simp
     with_reducible rfl
    rotate_left
    ·simp only [Act.put, s2_, s0_, s1_, iw, jw]
     rfl
    refine za 6 36 ?_ #[tt,tt,tt,tt,tt,tt,tt,ff,tt,tt,ff,ff,ff] rfl rfl (by kernel_rfl) (fun _ _ _ h => h) (Or.inl ⟨by rfl, ?_⟩) ?_ ?_ ?_
    rotate_left
    ·intro w'
     go_simp
     with_reducible rfl
    rotate_left
    ·simp only [Act.put, s2_, s0_, s1_, iw, jw]
     rfl
    refine za 7 37 ?_ #[tt,tt,tt,tt,tt,tt,tt,tt,tt,tt,ff,ff,ff] rfl rfl (by kernel_rfl) (fun _ _ _ h => h) (Or.inl ⟨by rfl, ?_⟩) ?_ ?_ ?_
    rotate_left
    ·intro w'
     go_simp
     with_reducible rfl
    rotate_left
    ·simp only [Act.put, s2_, s0_, s1_, iw, jw]
     rfl
    exact zg (by simp only [zq1, Act.put, s2_, s0_, s1_]) (hCont ((_, _), (g_128, g_137)) _ ⟨hS, h9, h10, (show g_128 ≠ g_137 by omega), l9, l10, Pw.mono hq (fun i hi => by (try dsimp only at hi); refine ⟨?_, ?_, ?_⟩ <;> (try dsimp only) <;> omega), Pw.mono hr (fun i hi => by (try dsimp only at hi); refine ⟨?_, ?_⟩ <;> (try dsimp only) <;> omega)⟩)
  ·refine z01 (by rfl) (N := 10) rfl (cs := #[.slice none 0 0]) (t := 29) ?_ ?_
   ·first | (go_simp; done) | (go_simp; rfl)
   intro g_141 hg v_140 hbox hb
   have h10 : bx v_140 g_141 (.slice none 0 0) := hbox
   have l10 : w_5.heap.size ≤ g_141 := by rw [hg]; exact hS.size
   replace h2 := h2.below hb
   replace hnn := hnn.below hb
   replace f_4 := f_4.below hb
   replace hB := hB.trans (hb.mono hB.size)
   replace hS := hS.trans (hb.mono hS.size)
   clear hb hbox hg
   refine hK.out _ _ hS (fun hS => ?_)
   clear hK K
   refine zg (a' := ?_) ?_ ?_
   rotate_left
   ·show Act.put _ (some 10) _ = _
    simp only [Act.put, s2_, s0_, s1_, iw, jw]
    rfl
   refine two_ (i := 2) (j := 8) (Ni := some 33) (Nj := some 9) #[tt,tt,tt,ff,ff,ff,ff,ff,ff,tt,ff,ff,ff] #[tt,tt,ff,ff,ff,ff,ff,ff,tt,tt,ff,ff,ff] rfl rfl rfl rfl (by kernel_rfl) (by decide) (by decide) (fun K hK => ?_) (fun K hK => ?_)
   ·refine z00 Tryd.func89 (by kernel_rfl) rfl #[.agg #[.slice A1 n1 c1, .slice A2 n2 c2, .bool true]] (by rfl) rfl rfl (by (try simp only [List.map_toArray, List.map_cons, List.map_nil]); first | done | rfl) ?_
    refine (zn3).mono ?_
    rintro e v_142 ⟨rfl, hb⟩
    refine ⟨_, rfl, ?_⟩
    replace h2 := h2.below hb
    replace hnn := hnn.below hb
    replace f_4 := f_4.below hb
    replace h10 := h10.below hb
    replace hB := hB.trans (hb.mono hB.size)
    replace hS := hS.trans (hb.mono hS.size)
    clear hb
    refine hK.out _ _ hS (fun hS => ?_)
    clear hK K
    refine zg (a' := ?_) ?_ ?_
    rotate_left
    ·show Act.put _ (some 33) _ = _
     simp only [Act.put, s2_, s0_, s1_, iw, jw]
     rfl
    refine two_ (i := 3) (j := 8) (Ni := some 34) (Nj := some 9) #[tt,tt,tt,tt,ff,ff,ff,ff,ff,tt,ff,ff,ff] #[tt,tt,tt,ff,ff,ff,ff,ff,tt,tt,ff,ff,ff] rfl rfl rfl rfl (by kernel_rfl) (by decide) (by decide) (fun K hK => ?_) (fun K hK => ?_)
    ·refine z00 Tryd.func40 (by kernel_rfl) rfl #[.agg #[(.slice A_3 n_3 c_3)], .agg #[.slice A2 n2 c2]] (by rfl) rfl rfl (by (try simp only [List.map_toArray, List.map_cons, List.map_nil]); first | done | rfl) ?_
     have gs := hS.size
     have u10 := h10.lt
     refine (zf3 hnn h2 (by omega) hy).mono ?_
     rintro e v_143 ⟨zq, zr, rfl, hq, hr, hb⟩
     refine ⟨_, rfl, ?_⟩
     replace f_4 := f_4.below hb
     replace h10 := h10.below hb
     replace hB := hB.trans (hb.mono hB.size)
     replace hS := hS.trans (hb.mono hS.size)
     clear hb h2 hnn
     refine hK.out _ _ hS (fun hS => ?_)
     clear hK K
     refine zg (a' := ?_) ?_ ?_
     rotate_left
     ·show Act.put _ (some 34) _ = _
      simp only [Act.put, s2_, s0_, s1_, iw, jw]
      rfl
     refine za 4 30 ?_ #[tt,tt,tt,tt,tt,ff,ff,ff,ff,tt,ff,ff,ff] rfl rfl (by kernel_rfl) (fun _ _ _ h => h) (Or.inl ⟨by rfl, ?_⟩) ?_ ?_ ?_
     rotate_left
     ·intro w'
      go_simp
      with_reducible rfl
     rotate_left
     ·simp only [Act.put, s2_, s0_, s1_, iw, jw]
      rfl
     refine za 5 35 ?_ #[tt,tt,tt,tt,tt,tt,ff,ff,ff,tt,ff,ff,ff] rfl rfl (by kernel_rfl) (fun _ _ _ h => h) (Or.inl ⟨by rfl, ?_⟩) ?_ ?_ ?_
     rotate_left
     ·intro w'
      go_simp
      with_reducible rfl
     rotate_left
     ·simp only [Act.put, s2_, s0_, s1_, iw, jw]
      rfl
     refine za 6 36 ?_ #[tt,tt,tt,tt,tt,tt,tt,ff,ff,tt,ff,ff,ff] rfl rfl (by kernel_rfl) (fun _ _ _ h => h) (Or.inl ⟨by rfl, ?_⟩) ?_ ?_ ?_
     rotate_left
     ·intro w'
      go_simp
      with_reducible rfl
     rotate_left
     ·simp only [Act.put, s2_, s0_, s1_, iw, jw]
      rfl
     refine za 7 37 ?_ #[tt,tt,tt,tt,tt,tt,tt,tt,ff,tt,ff,ff,ff] rfl rfl (by kernel_rfl) (fun _ _ _ h => h) (Or.inl ⟨by rfl, ?_⟩) ?_ ?_ ?_
     rotate_left
     ·intro w'
      go_simp
      with_reducible rfl
     rotate_left
     ·simp only [Act.put, s2_, s0_, s1_, iw, jw]
      rfl
     refine zh0 (i := 8) (N := some 9) #[tt,tt,tt,tt,tt,tt,tt,tt,tt,tt,ff,ff,ff] rfl rfl (by kernel_rfl) (by decide) (fun K hK => ?_)
     refine z01 (by rfl) (N := 9) rfl (cs := #[.slice none 0 0]) (t := 29) ?_ ?_
     ·first | (go_simp; done) | (go_simp; rfl)
     intro g_145 hg v_144 hbox hb
     have h9 : bx v_144 g_145 (.slice none 0 0) := hbox
     have l9 : w_5.heap.size ≤ g_145 := by rw [hg]; exact hS.size
     have u10' := h10.lt
     have nn : g_145 ≠ g_141 := by omega
     replace hq := Pw.zc2 hq hg hb
     replace hr := Pw.zc2 hr hg hb
     replace f_4 := f_4.below hb
     replace h10 := h10.below hb
     replace hB := hB.trans (hb.mono hB.size)
     replace hS := hS.trans (hb.mono hS.size)
     clear hb hbox hg
     refine hK.out _ _ hS (fun hS => ?_)
     clear hK K
     refine zg (a' := ?_) ?_ ?_
     rotate_left
     ·show Act.put _ (some 9) _ = _
      simp only [Act.put, s2_, s0_, s1_, iw, jw]
      rfl
     exact zg (by simp only [zq1, Act.put, s2_, s0_, s1_]) (hCont ((_, _), (g_145, g_141)) _ ⟨hS, h9, h10, (show g_145 ≠ g_141 by omega), l9, l10, Pw.mono hq (fun i hi => by (try dsimp only at hi); refine ⟨?_, ?_, ?_⟩ <;> (try dsimp only) <;> omega), Pw.mono hr (fun i hi => by (try dsimp only at hi); refine ⟨?_, ?_⟩ <;> (try dsimp only) <;> omega)⟩)
    ·refine z01 (by rfl) (N := 9) rfl (cs := #[.slice none 0 0]) (t := 29) ?_ ?_
     ·first | (go_simp; done) | (go_simp; rfl)
     intro g_147 hg v_146 hbox hb
     have h9 : bx v_146 g_147 (.slice none 0 0) := hbox
     have l9 : w_5.heap.size ≤ g_147 := by rw [hg]; exact hS.size
     have u10' := h10.lt
     have nn : g_147 ≠ g_141 := by omega
     replace h2 := h2.below hb
     replace hnn := hnn.below hb
     replace f_4 := f_4.below hb
     replace h10 := h10.below hb
     replace hB := hB.trans (hb.mono hB.size)
     replace hS := hS.trans (hb.mono hS.size)
     clear hb hbox hg
     refine hK.out _ _ hS (fun hS => ?_)
     clear hK K
     refine zg (a' := ?_) ?_ ?_
     rotate_left
     ·show Act.put _ (some 9) _ = _
      simp only [Act.put, s2_, s0_, s1_, iw, jw]
      rfl
     refine zh0 (i := 3) (N := some 34) #[tt,tt,tt,tt,ff,ff,ff,ff,tt,tt,ff,ff,ff] rfl rfl (by kernel_rfl) (by decide) (fun K hK => ?_)
     refine z00 Tryd.func40 (by kernel_rfl) rfl #[.agg #[(.slice A_3 n_3 c_3)], .agg #[.slice A2 n2 c2]] (by rfl) rfl rfl (by (try simp only [List.map_toArray, List.map_cons, List.map_nil]); first | done | rfl) ?_
     have gs := hS.size
     have u9 := h9.lt
     have u10 := h10.lt
     refine (zf3 hnn h2 (by omega) hy).mono ?_
     rintro e v_148 ⟨zq, zr, rfl, hq, hr, hb⟩
     refine ⟨_, rfl, ?_⟩
     replace f_4 := f_4.below hb
     replace h9 := h9.below hb
     replace h10 := h10.below hb
     replace hB := hB.trans (hb.mono hB.size)
     replace hS := hS.trans (hb.mono hS.size)
     clear hb h2 hnn
     refine hK.out _ _ hS (fun hS => ?_)
     clear hK K
     refine zg (a' := ?_) ?_ ?_
     rotate_left
     ·show Act.put _ (some 34) _ = _
      simp only [Act.put, s2_, s0_, s1_, iw, jw]
      rfl
     refine za 4 30 ?_ #[tt,tt,tt,tt,tt,ff,ff,ff,tt,tt,ff,ff,ff] rfl rfl (by kernel_rfl) (fun _ _ _ h => h) (Or.inl ⟨by rfl, ?_⟩) ?_ ?_ ?_
     rotate_left
     ·intro w'
      go_simp
      with_reducible rfl
     rotate_left
     ·simp only [Act.put, s2_, s0_, s1_, iw, jw]
      rfl
     refine za 5 35 ?_ #[tt,tt,tt,tt,tt,tt,ff,ff,tt,tt,ff,ff,ff] rfl rfl (by kernel_rfl) (fun _ _ _ h => h) (Or.inl ⟨by rfl, ?_⟩) ?_ ?_ ?_
     rotate_left
     ·intro w'
      go_simp
      with_reducible rfl
     rotate_left
     ·simp only [Act.put, s2_, s0_, s1_, iw, jw]
      rfl
     refine za 6 36 ?_ #[tt,tt,tt,tt,tt,tt,tt,ff,tt,tt,ff,ff,ff] rfl rfl (by kernel_rfl) (fun _ _ _ h => h) (Or.inl ⟨by rfl, ?_⟩) ?_ ?_ ?_
     rotate_left
     ·intro w'
      go_simp
      with_reducible rfl
     rotate_left
     ·simp only [Act.put, s2_, s0_, s1_, iw, jw]
      rfl
     refine za 7 37 ?_ #[tt,tt,tt,tt,tt,tt,tt,tt,tt,tt,ff,ff,ff] rfl rfl (by kernel_rfl) (fun _ _ _ h => h) (Or.inl ⟨by rfl, ?_⟩) ?_ ?_ ?_
     rotate_left
     ·intro w'
      go_simp
      with_reducible rfl
     rotate_left
     ·simp only [Act.put, s2_, s0_, s1_, iw, jw]
      rfl
     exact zg (by simp only [zq1, Act.put, s2_, s0_, s1_]) (hCont ((_, _), (g_147, g_141)) _ ⟨hS, h9, h10, (show g_147 ≠ g_141 by omega), l9, l10, Pw.mono hq (fun i hi => by (try dsimp only at hi); refine ⟨?_, ?_, ?_⟩ <;> (try dsimp only) <;> omega), Pw.mono hr (fun i hi => by (try dsimp only at hi); refine ⟨?_, ?_⟩ <;> (try dsimp only) <;> omega)⟩)
   ·refine z01 (by rfl) (N := 9) rfl (cs := #[.slice none 0 0]) (t := 29) ?_ ?_
    ·first | (go_simp; done) | (go_simp; rfl)
    intro g_150 hg v_149 hbox hb
    have h9 : bx v_149 g_150 (.slice none 0 0) := hbox
    have l9 : w_5.heap.size ≤ g_150 := by rw [hg]; exact hS.size
    have u10' := h10.lt
    have nn : g_150 ≠ g_141 := by omega
    replace h2 := h2.below hb
    replace hnn := hnn.below hb
    replace f_4 := f_4.below hb
    replace h10 := h10.below hb
    replace hB := hB.trans (hb.mono hB.size)
    replace hS := hS.trans (hb.mono hS.size)
    clear hb hbox hg
    refine hK.out _ _ hS (fun hS => ?_)
    clear hK K
    refine zg (a' := ?_) ?_ ?_
    rotate_left
    ·show Act.put _ (some 9) _ = _
     simp only [Act.put, s2_, s0_, s1_, iw, jw]
     rfl
    refine zh0 (i := 2) (N := some 33) #[tt,tt,tt,ff,ff,ff,ff,ff,tt,tt,ff,ff,ff] rfl rfl (by kernel_rfl) (by decide) (fun K hK => ?_)
    refine z00 Tryd.func89 (by kernel_rfl) rfl #[.agg #[.slice A1 n1 c1, .slice A2 n2 c2, .bool true]] (by rfl) rfl rfl (by (try simp only [List.map_toArray, List.map_cons, List.map_nil]); first | done | rfl) ?_
    refine (zn3).mono ?_
    rintro e v_151 ⟨rfl, hb⟩
    refine ⟨_, rfl, ?_⟩
    replace h2 := h2.below hb
    replace hnn := hnn.below hb
    replace f_4 := f_4.below hb
    replace h9 := h9.below hb
    replace h10 := h10.below hb
    replace hB := hB.trans (hb.mono hB.size)
    replace hS := hS.trans (hb.mono hS.size)
    clear hb
    refine hK.out _ _ hS (fun hS => ?_)
    clear hK K
    refine zg (a' := ?_) ?_ ?_
    rotate_left
    ·show Act.put _ (some 33) _ = _
     simp only [Act.put, s2_, s0_, s1_, iw, jw]
     rfl
    refine zh0 (i := 3) (N := some 34) #[tt,tt,tt,tt,ff,ff,ff,ff,tt,tt,ff,ff,ff] rfl rfl (by kernel_rfl) (by decide) (fun K hK => ?_)
    refine z00 Tryd.func40 (by kernel_rfl) rfl #[.agg #[(.slice A_3 n_3 c_3)], .agg #[.slice A2 n2 c2]] (by rfl) rfl rfl (by (try simp only [List.map_toArray, List.map_cons, List.map_nil]); first | done | rfl) ?_
    have gs := hS.size
    have u9 := h9.lt
    have u10 := h10.lt
    refine (zf3 hnn h2 (by omega) hy).mono ?_
    rintro e v_152 ⟨zq, zr, rfl, hq, hr, hb⟩
    refine ⟨_, rfl, ?_⟩
    replace f_4 := f_4.below hb
    replace h9 := h9.below hb
    replace h10 := h10.below hb
    replace hB := hB.trans (hb.mono hB.size)
    replace hS := hS.trans (hb.mono hS.size)
    clear hb h2 hnn
    refine hK.out _ _ hS (fun hS => ?_)
    clear hK K
    refine zg (a' := ?_) ?_ ?_
    rotate_left
    ·show Act.put _ (some 34) _ = _
     simp only [Act.put, s2_, s0_, s1_, iw, jw]
     rfl
    refine za 4 30 ?_ #[tt,tt,tt,tt,tt,ff,ff,ff,tt,tt,ff,ff,ff] rfl rfl (by kernel_rfl) (fun _ _ _ h => h) (Or.inl ⟨by rfl, ?_⟩) ?_ ?_ ?_
    rotate_left
    ·intro w'
     go_simp
     with_reducible rfl
    rotate_left
    ·simp only [Act.put, s2_, s0_, s1_, iw, jw]
     rfl
    refine za 5 35 ?_ #[tt,tt,tt,tt,tt,tt,ff,ff,tt,tt,ff,ff,ff] rfl rfl (by kernel_rfl) (fun _ _ _ h => h) (Or.inl ⟨by rfl, ?_⟩) ?_ ?_ ?_
    rotate_left
    ·intro w'
     go_simp
     with_reducible rfl
    rotate_left
    ·simp only [Act.put, s2_, s0_, s1_, iw, jw]
     rfl
    refine za 6 36 ?_ #[tt,tt,tt,tt,tt,tt,tt,ff,tt,tt,ff,ff,ff] rfl rfl (by kernel_rfl) (fun _ _ _ h => h) (Or.inl ⟨by rfl, ?_⟩) ?_ ?_ ?_
    rotate_left
    ·intro w'
     go_simp
     with_reducible rfl
    rotate_left
    ·simp only [Act.put, s2_, s0_, s1_, iw, jw]
     rfl
    refine za 7 37 ?_ #[tt,tt,tt,tt,tt,tt,tt,tt,tt,tt,ff,ff,ff] rfl rfl (by kernel_rfl) (fun _ _ _ h => h) (Or.inl ⟨by rfl, ?_⟩) ?_ ?_ ?_
    rotate_left
    ·intro w'
     go_simp
     with_reducible rfl
    rotate_left
    ·simp only [Act.put, s2_, s0_, s1_, iw, jw]
     rfl
    exact zg (by simp only [zq1, Act.put, s2_, s0_, s1_]) (hCont ((_, _), (g_150, g_141)) _ ⟨hS, h9, h10, (show g_150 ≠ g_141 by omega), l9, l10, Pw.mono hq (fun i hi => by (try dsimp only at hi); refine ⟨?_, ?_, ?_⟩ <;> (try dsimp only) <;> omega), Pw.mono hr (fun i hi => by (try dsimp only at hi); refine ⟨?_, ?_⟩ <;> (try dsimp only) <;> omega)⟩)
 ·rintro ⟨⟨zq, zr⟩, ⟨b9, b10⟩⟩ v_1 ⟨hS, h9, h10, n910, l9, l10, hq, hr⟩
  refine zg (a' := ?_) ?_ ?_
  rotate_left
  ·simp only [zq1, Act.put, s2_, s0_, s1_]
   rfl
  dsimp only at h9 h10 n910 l9 l10 hq hr
  replace f_4 := f_4.below hS
  replace hB := hB.trans (hS.mono hB.size)
  clear h2 hnn
  obtain ⟨A_6, n_6, c_6, rfl⟩ := (Pw.nw hq).shape
  obtain ⟨A_7, n_7, c_7, rfl⟩ := (Pw.nw hr).shape
  have l9w : w.heap.size ≤ b9 := by omega
  have l10w : w.heap.size ≤ b10 := by omega
  have n49 : b_4 ≠ b9 := by omega
  have n410 : b_4 ≠ b10 := by omega
  have nq9 : ¬ (w_5.heap.size ≤ b9 ∧ b9 ≠ b9 ∧ b9 ≠ b10) := fun h => h.2.1 rfl
  have nq10 : ¬ (w_5.heap.size ≤ b10 ∧ b10 ≠ b9 ∧ b10 ≠ b10) := fun h => h.2.2 rfl
  have nr9 : ¬ (b9 ≠ b9 ∧ b9 ≠ b10) := fun h => h.1 rfl
  have nr10 : ¬ (b10 ≠ b9 ∧ b10 ≠ b10) := fun h => h.2 rfl
  have nq4 : ¬ (w_5.heap.size ≤ b_4 ∧ b_4 ≠ b9 ∧ b_4 ≠ b10) := by omega
  refine zh0 (i := 10) (N := none) #[tt,tt,tt,tt,tt,tt,tt,tt,tt,tt,tt,ff,ff] rfl rfl (by kernel_rfl) (by decide) (fun K hK => ?_)
  have hs_ := (kC h9 0).trans rfl
  have hfs_ := kF h9 0
  refine zw1 (w1 := ?_) (by rfl) rfl ?_ ?_
  rotate_left
  ·go_simp
   rfl
  clear hs_ hfs_
  replace h9 := h9.set (.slice A_6 n_6 c_6)
  replace h10 := h10.far n910.symm (.slice A_6 n_6 c_6)
  replace f_4 := f_4.far n49 (.slice A_6 n_6 c_6)
  replace hq := hq.put nq9 (.slice A_6 n_6 c_6)
  replace hr := hr.put nr9 (.slice A_6 n_6 c_6)
  replace hB := bS (v := (.slice A_6 n_6 c_6)) (j := 0) hB l9w
  replace hS := bS (v := (.slice A_6 n_6 c_6)) (j := 0) hS l9
  refine hK.out _ _ hS (fun hS => ?_)
  clear hK K
  generalize v_1.setCell ⟨b9, 0, none⟩ (.slice A_6 n_6 c_6) = v_2 at h9 h10 f_4 hq hr hB hS ⊢
  refine zh0 (i := 11) (N := none) #[tt,tt,tt,tt,tt,tt,tt,tt,tt,tt,tt,tt,ff] rfl rfl (by kernel_rfl) (by decide) (fun K hK => ?_)
  have hs_ := (kC h10 0).trans rfl
  have hfs_ := kF h10 0
  refine zw1 (w1 := ?_) (by rfl) rfl ?_ ?_
  rotate_left
  ·go_simp
   rfl
  clear hs_ hfs_
  replace h10 := h10.set (.slice A_7 n_7 c_7)
  replace h9 := h9.far n910 (.slice A_7 n_7 c_7)
  replace f_4 := f_4.far n410 (.slice A_7 n_7 c_7)
  replace hq := hq.put nq10 (.slice A_7 n_7 c_7)
  replace hr := hr.put nr10 (.slice A_7 n_7 c_7)
  replace hB := bS (v := (.slice A_7 n_7 c_7)) (j := 0) hB l10w
  replace hS := bS (v := (.slice A_7 n_7 c_7)) (j := 0) hS l10
  refine hK.out _ _ hS (fun hS => ?_)
  clear hK K
  generalize v_2.setCell ⟨b10, 0, none⟩ (.slice A_7 n_7 c_7) = v_3 at h9 h10 f_4 hq hr hB hS ⊢
  refine za 12 11 ?_ #[tt,tt,tt,tt,tt,tt,tt,tt,tt,tt,tt,tt,tt] rfl rfl (by kernel_rfl) (fun _ _ _ h => h) (Or.inl ⟨by rfl, ?_⟩) ?_ ?_ ?_
  rotate_left
  ·intro w'
   go_simp
   with_reducible rfl
  rotate_left
  ·simp only [Act.put, s2_, s0_, s1_, iw, jw]
   rfl
  refine zh1 (by kernel_rfl) ?_
  clear hS
  go_wp2_with fail
  have hb : Below v_3.heap.size v_3 v_3.drew := zf0 (Below.refl _ _)
  refine zt0 (n := 7) (S := fun w' => Below v_3.drew.heap.size v_3.drew w') (ds := [4]) #[ff,ff,ff,ff,ff,ff,ff] (by kernel_rfl) rfl rfl (Below.refl _ _) (fun hS => ?_)
  replace hq := hq.below hb
  replace hr := hr.below hb
  replace f_4 := f_4.below hb
  replace h9 := h9.below hb
  replace h10 := h10.below hb
  replace hB := hB.trans (hb.mono hB.size)
  clear hb
  generalize v_3.drew = w_8 at hq hr f_4 h9 h10 hB hS ⊢
  have sf_4 := f_4
  have sh9 := h9
  have sh10 := h10
  refine z10 0 38 ?_ #[tt,ff,ff,ff,ff,ff,ff] rfl rfl (by kernel_rfl) (fun _ _ _ h => h) (Or.inl ⟨by rfl, ?_⟩) hS ?_ ?_ ?_
  rotate_left
  ·intro w' hS_
   have k_ := (kC (bx.below sh9 hS_) 0).trans rfl
   go_simp
   with_reducible rfl
  rotate_left
  ·simp only [Act.put, s2_, s0_, s1_, iw, jw]
   rfl
  refine z10 1 39 ?_ #[tt,tt,ff,ff,ff,ff,ff] rfl rfl (by kernel_rfl) (fun _ _ _ h => h) (Or.inl ⟨by rfl, ?_⟩) hS ?_ ?_ ?_
  rotate_left
  ·intro w' hS_
   have k_ := (kC (bx.below sh10 hS_) 0).trans rfl
   go_simp
   with_reducible rfl
  rotate_left
  ·simp only [Act.put, s2_, s0_, s1_, iw, jw]
   rfl
  refine zh0 (i := 2) (N := some 40) #[tt,tt,tt,ff,ff,ff,ff] rfl rfl (by kernel_rfl) (by decide) (fun K hK => ?_)
  refine z00 Tryd.func22 (by kernel_rfl) rfl #[.agg #[(.slice A_7 n_7 c_7)]] (by rfl) rfl rfl (by (try simp only [List.map_toArray, List.map_cons, List.map_nil]); first | done | rfl | (simp only [List.length_drop, List.length_take]; rfl)) ?_
  refine (zy1 hr.nw).mono ?_
  rintro e w_9 ⟨rfl, hb⟩
  refine ⟨_, rfl, ?_⟩
  replace hS := hS.trans (hb.mono hS.size)
  replace hq := hq.below hb
  replace hr := hr.below hb
  replace f_4 := f_4.below hb
  replace h9 := h9.below hb
  replace h10 := h10.below hb
  replace hB := hB.trans (hb.mono hB.size)
  clear hb
  refine hK.out _ _ hS (fun hS => ?_)
  clear hK K
  refine zg (a' := ?_) ?_ ?_
  rotate_left
  ·show Act.put _ (some 40) _ = _
   simp only [Act.put, s2_, s0_, s1_, iw, jw]
   rfl
  refine za 3 41 ?_ #[tt,tt,tt,tt,ff,ff,ff] rfl rfl (by kernel_rfl) (fun _ _ _ h => h) (Or.inl ⟨by rfl, ?_⟩) ?_ ?_ ?_
  rotate_left
  ·intro w'
   go_simp
   with_reducible rfl
  rotate_left
  ·simp only [Act.put, s2_, s0_, s1_, iw, jw]
   rfl
  have hM : Ge 0 w_9 := Nat.zero_le _
  have np_4 := nq4
  refine zk3 (i := 4) (N := none) #[tt,tt,tt,tt,tt,ff,ff] rfl rfl (by kernel_rfl) (by decide) (fun K hK => ?_)
  have hs_ := (kC f_4 0).trans rfl
  have hfs_ := kF f_4 0
  refine zw1 (w1 := ?_) (by rfl) rfl ?_ ?_
  rotate_left
  ·go_simp
   rfl
  clear hs_ hfs_
  refine hK.out _ _ ?_
  clear hK K
  replace f_4 := f_4.set (.slice A_6 n_6 c_6)
  replace hq := hq.put np_4 (.slice A_6 n_6 c_6)
  replace hM := hM.put b_4 (.slice A_6 n_6 c_6)
  replace hB := bS (v := (.slice A_6 n_6 c_6)) (j := 0) hB l_4
  generalize w_9.setCell ⟨b_4, 0, none⟩ (.slice A_6 n_6 c_6) = w_10 at f_4 hq hM hB ⊢
  refine za 5 5 ?_ #[tt,tt,tt,tt,tt,tt,ff] rfl rfl (by kernel_rfl) (fun _ _ _ h => h) (Or.inl ⟨by rfl, ?_⟩) ?_ ?_ ?_
  rotate_left
  ·intro w'
   go_simp
   with_reducible rfl
  rotate_left
  ·simp only [Act.put, s2_, s0_, s1_, iw, jw]
   rfl
  refine za 6 6 ?_ #[tt,tt,tt,tt,tt,tt,tt] rfl rfl (by kernel_rfl) (fun _ _ _ h => h) (Or.inl ⟨by rfl, ?_⟩) ?_ ?_ ?_
  rotate_left
  ·intro w'
   go_simp
   with_reducible rfl
  rotate_left
  ·simp only [Act.put, s2_, s0_, s1_, iw, jw]
   rfl
  refine zh1 (by kernel_rfl) ?_
  go_wp2_with fail
  refine bodyPost_ret (zt (rs := [.cell 4 29, .tmp 5, .tmp 6]) rfl (by simp) (.cell b_4 29 #[(.slice A_6 n_6 c_6)] (0, 0) _ rfl f_4 Tryd.underlying29 rfl zh (.tmp (.tmp .nil)))) rfl ?_
  exact ⟨_, rfl, Kd.VM_ hq (fun i hi => Nat.le_trans gw5 hi.1), hB⟩
def Scl (w : World) (q : Value) (p : Int) (r : Nat) (sb : Bool) (ec : Int) : Prop := ∀ W, Below w.heap.size w W → Calls Tryd.prog 90 #[q, .int .i64 p] W fun e w' => ∃ z, e = .returned (.tuple #[.agg #[z], .bool sb, .int .i64 ec]) ∧ Nf W.heap.size w' z r ∧ Below W.heap.size W w'
theorem floor_c {w : World} {A1 A2 : Option Addr} {n1 n2 c1 c2 r : Nat} {p ec : Int} {sb : Bool} (hS : Scl w (.agg #[.slice A1 n1 c1, .slice A2 n2 c2, .bool true]) p r sb ec) :
  Calls Tryd.prog 51 #[.agg #[.slice A1 n1 c1, .slice A2 n2 c2, .bool true], .int .i64 p] w fun e w' => ∃ z, e = .returned (.tuple #[.agg #[z], .int .i64 ec]) ∧ Nw w' z r ∧ Below w.heap.size w w' := by
 have hu29 := Tryd.underlying29
 have hu62 := Tryd.underlying62
 have f_2 : rb ((w.alloc (.cells #[.slice A1 n1 c1, .slice A2 n2 c2, .bool true] 62)).alloc (.cells #[.slice none 0 0] 29)) w.heap.size (.slice A1 n1 c1) (.slice A2 n2 c2) true := (rb.new w _ _ _).alloc _
 have f_4 : bx ((w.alloc (.cells #[.slice A1 n1 c1, .slice A2 n2 c2, .bool true] 62)).alloc (.cells #[.slice none 0 0] 29)) (w.heap.size + 1) (.slice none 0 0) := by have h := bx.new (w.alloc (.cells #[.slice A1 n1 c1, .slice A2 n2 c2, .bool true] 62)) (.slice none 0 0); simpa using h
 have hB : Below w.heap.size w ((w.alloc (.cells #[.slice A1 n1 c1, .slice A2 n2 c2, .bool true] 62)).alloc (.cells #[.slice none 0 0] 29)) := bA (bA (Below.refl _ _) _) _
 go_enter Tryd.func51, Tryd.ntmps51
 go_wp2_with (first | refine Cel.lW rfl 62 _ rfl w.heap.size rfl 62 #[.slice A1 n1 c1, .slice A2 n2 c2, .bool true] (0, 0) _ f_2 hu62 rfl za1 ?_)
 have F := hS _ hB
 generalize ((w.alloc (.cells #[.slice A1 n1 c1, .slice A2 n2 c2, .bool true] 62)).alloc (.cells #[.slice none 0 0] 29)) = w_1 at f_2 f_4 hB F ⊢
 have l_4 : w.heap.size ≤ w.heap.size + 1 := by omega
 generalize w.heap.size + 1 = b_4 at f_4 l_4 ⊢
 clear f_2
 have g4 := f_4.lt
 refine (F).mono ?_
 rintro e w_2 ⟨z_q, rfl, hq, hb⟩
 replace f_4 := f_4.below hb
 replace hB := hB.trans (hb.mono hB.size)
 clear hb
 clear F
 obtain ⟨A_3, n_3, c_3, rfl⟩ := (Kf.kw hq).shape
 have f_6 := bx.new w_2 (.slice A_3 n_3 c_3)
 replace f_4 := f_4.alloc (.cells #[(.slice A_3 n_3 c_3)] 29)
 have hA := bA (Below.refl w_2.heap.size w_2) (.cells #[(.slice A_3 n_3 c_3)] 29)
 replace hq := Kf.below hq hA
 replace hB := hB.trans (hA.mono hB.size)
 have hs4 : (w_2.alloc (.cells #[(.slice A_3 n_3 c_3)] 29)).cell? ⟨b_4, 0, none⟩ = some (.slice none 0 0) := (kC f_4 0).trans rfl
 have hfs4 := kF f_4 0
 go_wp2_with (first | refine Cel.lW rfl 29 _ rfl w_2.heap.size rfl 29 #[(.slice A_3 n_3 c_3)] (0, 0) _ f_6 hu29 rfl zh ?_)
 refine bodyPost_ret (zt (rs := [.cell 4 29, .tmp 5]) rfl (by simp) (.cell b_4 29 #[(.slice A_3 n_3 c_3)] (0, 0) _ rfl (f_4.set (.slice A_3 n_3 c_3)) Tryd.underlying29 rfl zh (.tmp .nil))) rfl ?_
 exact ⟨_, rfl, Kf.kw (Kf.put hq g4 _), bS hB l_4⟩
theorem zc4 {w : World} {A1 A2 : Option Addr} {n1 n2 c1 c2 r : Nat} {p ec : Int} {sb : Bool} (hS : Scl w (.agg #[.slice A1 n1 c1, .slice A2 n2 c2, .bool true]) p r sb ec) (hno : ¬ ec = 0 ∨ sb = false) :
  Calls Tryd.prog 52 #[.agg #[.slice A1 n1 c1, .slice A2 n2 c2, .bool true], .int .i64 p] w fun e w' => ∃ z, e = .returned (.tuple #[.agg #[z], .int .i64 ec]) ∧ Nw w' z r ∧ Below w.heap.size w w' := by
 have hu29 := Tryd.underlying29
 have hu62 := Tryd.underlying62
 have f_2 : rb ((w.alloc (.cells #[.slice A1 n1 c1, .slice A2 n2 c2, .bool true] 62)).alloc (.cells #[.slice none 0 0] 29)) w.heap.size (.slice A1 n1 c1) (.slice A2 n2 c2) true := (rb.new w _ _ _).alloc _
 have f_4 : bx ((w.alloc (.cells #[.slice A1 n1 c1, .slice A2 n2 c2, .bool true] 62)).alloc (.cells #[.slice none 0 0] 29)) (w.heap.size + 1) (.slice none 0 0) := by have h := bx.new (w.alloc (.cells #[.slice A1 n1 c1, .slice A2 n2 c2, .bool true] 62)) (.slice none 0 0); simpa using h
 have hB : Below w.heap.size w ((w.alloc (.cells #[.slice A1 n1 c1, .slice A2 n2 c2, .bool true] 62)).alloc (.cells #[.slice none 0 0] 29)) := bA (bA (Below.refl _ _) _) _
 go_enter Tryd.func52, Tryd.ntmps52
 go_wp2_with (first | refine Cel.lW rfl 62 _ rfl w.heap.size rfl 62 #[.slice A1 n1 c1, .slice A2 n2 c2, .bool true] (0, 0) _ f_2 hu62 rfl za1 ?_)
 have F := hS _ hB
 generalize ((w.alloc (.cells #[.slice A1 n1 c1, .slice A2 n2 c2, .bool true] 62)).alloc (.cells #[.slice none 0 0] 29)) = w_1 at f_2 f_4 hB F ⊢
 have l_4 : w.heap.size ≤ w.heap.size + 1 := by omega
 generalize w.heap.size + 1 = b_4 at f_4 l_4 ⊢
 clear f_2
 have g4 := f_4.lt
 refine (F).mono ?_
 rintro e w_2 ⟨z_q, rfl, hq, hb⟩
 replace f_4 := f_4.below hb
 replace hB := hB.trans (hb.mono hB.size)
 clear hb
 clear F
 obtain ⟨A_3, n_3, c_3, rfl⟩ := (Kf.kw hq).shape
 by_cases he : ec = 0
 ·obtain rfl : sb = false := hno.resolve_left (fun h => h he)
  subst he
  have f_6 := bx.new w_2 (.slice A_3 n_3 c_3)
  replace f_4 := f_4.alloc (.cells #[(.slice A_3 n_3 c_3)] 29)
  have hA := bA (Below.refl w_2.heap.size w_2) (.cells #[(.slice A_3 n_3 c_3)] 29)
  replace hq := Kf.below hq hA
  replace hB := hB.trans (hA.mono hB.size)
  have hs4 : (w_2.alloc (.cells #[(.slice A_3 n_3 c_3)] 29)).cell? ⟨b_4, 0, none⟩ = some (.slice none 0 0) := (kC f_4 0).trans rfl
  have hfs4 := kF f_4 0
  go_wp2_with (first | refine Cel.lW rfl 29 _ rfl w_2.heap.size rfl 29 #[(.slice A_3 n_3 c_3)] (0, 0) _ f_6 hu29 rfl zh ?_)
  refine bodyPost_ret (zt (rs := [.cell 4 29, .tmp 5]) rfl (by simp) (.cell b_4 29 #[(.slice A_3 n_3 c_3)] (0, 0) _ rfl (f_4.set (.slice A_3 n_3 c_3)) Tryd.underlying29 rfl zh (.tmp .nil))) rfl ?_
  exact ⟨_, rfl, Kf.kw (Kf.put hq g4 _), bS hB l_4⟩
 ·have he0 : (ec == 0) = false := beq_eq_false_iff_ne.2 he
  have f_6 := bx.new w_2 (.slice A_3 n_3 c_3)
  replace f_4 := f_4.alloc (.cells #[(.slice A_3 n_3 c_3)] 29)
  have hA := bA (Below.refl w_2.heap.size w_2) (.cells #[(.slice A_3 n_3 c_3)] 29)
  replace hq := Kf.below hq hA
  replace hB := hB.trans (hA.mono hB.size)
  have hs4 : (w_2.alloc (.cells #[(.slice A_3 n_3 c_3)] 29)).cell? ⟨b_4, 0, none⟩ = some (.slice none 0 0) := (kC f_4 0).trans rfl
  have hfs4 := kF f_4 0
  go_wp2_with (first | refine Cel.lW rfl 29 _ rfl w_2.heap.size rfl 29 #[(.slice A_3 n_3 c_3)] (0, 0) _ f_6 hu29 rfl zh ?_)
  refine bodyPost_ret (zt (rs := [.cell 4 29, .tmp 5]) rfl (by simp) (.cell b_4 29 #[(.slice A_3 n_3 c_3)] (0, 0) _ rfl (f_4.set (.slice A_3 n_3 c_3)) Tryd.underlying29 rfl zh (.tmp .nil))) rfl ?_
  exact ⟨_, rfl, Kf.kw (Kf.put hq g4 _), bS hB l_4⟩
theorem ceil_more_c {w : World} {A1 A2 : Option Addr} {n1 n2 c1 c2 r : Nat} {p : Int} (hS : Scl w (.agg #[.slice A1 n1 c1, .slice A2 n2 c2, .bool true]) p r true 0) (lr : (wd BW r).length ≤ 64) :
  Calls Tryd.prog 52 #[.agg #[.slice A1 n1 c1, .slice A2 n2 c2, .bool true], .int .i64 p] w fun e w' => ∃ z, e = .returned (.tuple #[.agg #[z], .int .i64 (zw2 (r + 1))]) ∧ Nw w' z (fitN (r + 1)) ∧ Below w.heap.size w w' := by
 have hu29 := Tryd.underlying29
 have hu62 := Tryd.underlying62
 have f_2 : rb ((w.alloc (.cells #[.slice A1 n1 c1, .slice A2 n2 c2, .bool true] 62)).alloc (.cells #[.slice none 0 0] 29)) w.heap.size (.slice A1 n1 c1) (.slice A2 n2 c2) true := (rb.new w _ _ _).alloc _
 have f_4 : bx ((w.alloc (.cells #[.slice A1 n1 c1, .slice A2 n2 c2, .bool true] 62)).alloc (.cells #[.slice none 0 0] 29)) (w.heap.size + 1) (.slice none 0 0) := by have h := bx.new (w.alloc (.cells #[.slice A1 n1 c1, .slice A2 n2 c2, .bool true] 62)) (.slice none 0 0); simpa using h
 have hB : Below w.heap.size w ((w.alloc (.cells #[.slice A1 n1 c1, .slice A2 n2 c2, .bool true] 62)).alloc (.cells #[.slice none 0 0] 29)) := bA (bA (Below.refl _ _) _) _
 go_enter Tryd.func52, Tryd.ntmps52
 go_wp2_with (first | refine Cel.lW rfl 62 _ rfl w.heap.size rfl 62 #[.slice A1 n1 c1, .slice A2 n2 c2, .bool true] (0, 0) _ f_2 hu62 rfl za1 ?_)
 have F := hS _ hB
 generalize ((w.alloc (.cells #[.slice A1 n1 c1, .slice A2 n2 c2, .bool true] 62)).alloc (.cells #[.slice none 0 0] 29)) = w_1 at f_2 f_4 hB F ⊢
 have l_4 : w.heap.size ≤ w.heap.size + 1 := by omega
 generalize w.heap.size + 1 = b_4 at f_4 l_4 ⊢
 clear f_2
 have g4 := f_4.lt
 refine (F).mono ?_
 rintro e w_2 ⟨z_q, rfl, hq, hb⟩
 replace f_4 := f_4.below hb
 replace hB := hB.trans (hb.mono hB.size)
 clear hb
 clear F
 obtain ⟨A_3, n_3, c_3, rfl⟩ := (Kf.kw hq).shape
 have l1_ : (wd BW 1).length ≤ 64 := Nat.le_trans ((zn (by decide) 1).2 (by decide)) (by decide)
 go_wp2_with fail
 have f_6 := bx.new w_2 (.slice A_3 n_3 c_3)
 have hA_ := bA (Below.refl w_2.heap.size w_2) (.cells #[(.slice A_3 n_3 c_3)] 29)
 replace f_4 := f_4.below hA_
 replace hq := hq.below hA_
 replace hB := hB.trans (hA_.mono hB.size)
 clear hA_
 generalize w_2.alloc (.cells #[(.slice A_3 n_3 c_3)] 29) = w_4 at f_6 f_4 hq hB ⊢
 generalize w_2.heap.size = b_6 at f_6 ⊢
 have hb : Below w_4.heap.size w_4 w_4.drew := zf0 (Below.refl _ _)
 refine zt0 (n := 7) (S := fun w' => Below w_4.drew.heap.size w_4.drew w') (ds := [5]) #[ff,ff,ff,ff,ff,ff,ff] (by kernel_rfl) rfl rfl (Below.refl _ _) (fun hS => ?_)
 replace hq := hq.below hb
 replace f_6 := f_6.below hb
 replace f_4 := f_4.below hb
 replace hB := hB.trans (hb.mono hB.size)
 clear hb
 generalize w_4.drew = w_5 at hq f_6 f_4 hB hS ⊢
 have sf_6 := f_6
 have sf_4 := f_4
 refine z10 0 21 ?_ #[tt,ff,ff,ff,ff,ff,ff] rfl rfl (by kernel_rfl) (fun _ _ _ h => h) (Or.inl ⟨by rfl, ?_⟩) hS ?_ ?_ ?_
 rotate_left
 ·intro w' hS_
  have k_ := (kC (bx.below sf_6 hS_) 0).trans rfl
  go_simp
  with_reducible rfl
 rotate_left
 ·simp only [Act.put, s2_, s0_, s1_, iw, jw]
  rfl
 have g44 := f_4.lt
 refine zh0 (i := 1) (N := some 22) #[tt,tt,ff,ff,ff,ff,ff] rfl rfl (by kernel_rfl) (by decide) (fun K hK => ?_)
 refine z00 Tryd.func55 (by kernel_rfl) rfl #[.int .u64 1] (by rfl) rfl rfl (by (try simp only [List.map_toArray, List.map_cons, List.map_nil]); first | done | rfl | (simp only [List.length_drop, List.length_take]; rfl)) ?_
 refine (of_c 1 (by decide)).mono ?_
 rintro e w_6 ⟨z_o, rfl, ho, hb⟩
 refine ⟨_, rfl, ?_⟩
 replace hS := hS.trans (hb.mono hS.size)
 replace hq := hq.below hb
 replace f_6 := f_6.below hb
 replace f_4 := f_4.below hb
 replace hB := hB.trans (hb.mono hB.size)
 clear hb
 refine hK.out _ _ hS (fun hS => ?_)
 clear hK K
 refine zg (a' := ?_) ?_ ?_
 rotate_left
 ·show Act.put _ (some 22) _ = _
  simp only [Act.put, s2_, s0_, s1_, iw, jw]
  rfl
 have ho' : Nw w_6 z_o 1 := Kf.kw ho
 clear ho
 obtain ⟨A_7, n_7, c_7, rfl⟩ := ho'.shape
 have g45 := f_4.lt
 refine zh0 (i := 2) (N := some 23) #[tt,tt,tt,ff,ff,ff,ff] rfl rfl (by kernel_rfl) (by decide) (fun K hK => ?_)
 refine z00 Tryd.func32 (by kernel_rfl) rfl #[.agg #[(.slice A_3 n_3 c_3)], .agg #[(.slice A_7 n_7 c_7)]] (by rfl) rfl rfl (by (try simp only [List.map_toArray, List.map_cons, List.map_nil]); first | done | rfl | (simp only [List.length_drop, List.length_take]; rfl)) ?_
 have F := add_c (Kf.kw hq) ho' lr l1_
 refine (F).mono ?_
 rintro e w_8 ⟨z_a, rfl, ha, hb⟩
 refine ⟨_, rfl, ?_⟩
 replace hS := hS.trans (hb.mono hS.size)
 replace hq := hq.below hb
 replace ho' := ho'.below hb
 replace f_6 := f_6.below hb
 replace f_4 := f_4.below hb
 replace hB := hB.trans (hb.mono hB.size)
 clear hb
 refine hK.out _ _ hS (fun hS => ?_)
 clear hK K
 refine zg (a' := ?_) ?_ ?_
 rotate_left
 ·show Act.put _ (some 23) _ = _
  simp only [Act.put, s2_, s0_, s1_, iw, jw]
  rfl
 clear F
 obtain ⟨A_9, n_9, c_9, rfl⟩ := (Kf.kw ha).shape
 refine za 3 24 ?_ #[tt,tt,tt,tt,ff,ff,ff] rfl rfl (by kernel_rfl) (fun _ _ _ h => h) (Or.inl ⟨by rfl, ?_⟩) ?_ ?_ ?_
 rotate_left
 ·intro w'
  go_simp
  with_reducible rfl
 rotate_left
 ·simp only [Act.put, s2_, s0_, s1_, iw, jw]
  rfl
 refine za 4 25 ?_ #[tt,tt,tt,tt,tt,ff,ff] rfl rfl (by kernel_rfl) (fun _ _ _ h => h) (Or.inl ⟨by rfl, ?_⟩) ?_ ?_ ?_
 rotate_left
 ·intro w'
  go_simp
  with_reducible rfl
 rotate_left
 ·simp only [Act.put, s2_, s0_, s1_, iw, jw]
  rfl
 have np_4 := g45
 have hM : Ge 0 w_8 := Nat.zero_le _
 refine zk3 (i := 5) (N := none) #[tt,tt,tt,tt,tt,tt,ff] rfl rfl (by kernel_rfl) (by decide) (fun K hK => ?_)
 have hs_ := (kC f_4 0).trans rfl
 have hfs_ := kF f_4 0
 refine zw1 (w1 := ?_) (by rfl) rfl ?_ ?_
 rotate_left
 ·go_simp
  rfl
 clear hs_ hfs_
 refine hK.out _ _ ?_
 clear hK K
 refine za 6 5 ?_ #[tt,tt,tt,tt,tt,tt,tt] rfl rfl (by kernel_rfl) (fun _ _ _ h => h) (Or.inl ⟨by rfl, ?_⟩) ?_ ?_ ?_
 rotate_left
 ·intro w'
  go_simp
  with_reducible rfl
 rotate_left
 ·simp only [Act.put, s2_, s0_, s1_, iw, jw]
  rfl
 refine zh1 (by kernel_rfl) ?_
 go_wp2_with fail
 refine bodyPost_ret (zt (rs := [.cell 4 29, .tmp 5]) rfl (by simp) (.cell b_4 29 #[(.slice A_9 n_9 c_9)] (0, 0) _ rfl (f_4.set (.slice A_9 n_9 c_9)) Tryd.underlying29 rfl zh (.tmp .nil))) rfl ?_
 exact ⟨_, rfl, Kf.kw (Kf.put ha g45 _), bS hB l_4⟩
theorem dec_dig {n : Nat} (h : n < 10) : zx1 n = ⟨#[UInt8.ofNat (48 + n)]⟩ := by
 apply ba_ext
 rw [decS_data, decD_small h]
theorem z14 {n : Nat} (h : n < BW) : (wd BW n).length ≤ 1 := (zn (by decide) 1).2 (by rw [Nat.pow_one]; exact h)
theorem zs2 {w : World} (htab : Tab w) :
  Calls Tryd.prog 44 #[] w fun e w' => e = .returned (.bool true) ∧ Below w.heap.size w w' := by
 have hu29 := Tryd.underlying29
 have hu62 := Tryd.underlying62
 have hB : Below w.heap.size w w := Below.refl _ _
 go_enter Tryd.func44, Tryd.ntmps44
 go_wp2_with fail
 have F := ofr_c (w := w) 6 4 (by decide) (by decide) (by decide)
 rw [show 6 / Nat.gcd 6 4 = 3 by decide, show 4 / Nat.gcd 6 4 = 2 by decide] at F
 refine (F).mono ?_
 rintro e w_1 ⟨z, z', rfl, han, had, hb⟩
 replace htab := htab.below hb
 replace hB := hB.trans (hb.mono hB.size)
 clear hb
 clear F
 obtain ⟨A_2, n_2, c_2, rfl⟩ := han.shape
 obtain ⟨A_3, n_3, c_3, rfl⟩ := had.shape
 have hA : Below w_1.heap.size w_1 ((w_1.alloc (.cells #[.slice none 0 0, .slice none 0 0, .bool false] 62)).setRow w_1.heap.size #[(.slice A_2 n_2 c_2), (.slice A_3 n_3 c_3), .bool true]) := below_setRow (bA (Below.refl _ _) _) (Nat.le_refl _) _
 have hi2 : (Tryd.prog.info? 62).map (·.size) = some (#[(.slice A_2 n_2 c_2), (.slice A_3 n_3 c_3), .bool true] : Array Value).size := za1
 have ho2 : (#[(.slice A_2 n_2 c_2), (.slice A_3 n_3 c_3), .bool true] : Array Value).all (·.oneCell') = true := by kernel_rfl
 have f_a : rb ((w_1.alloc (.cells #[.slice none 0 0, .slice none 0 0, .bool false] 62)).setRow w_1.heap.size #[(.slice A_2 n_2 c_2), (.slice A_3 n_3 c_3), .bool true]) w_1.heap.size (.slice A_2 n_2 c_2) (.slice A_3 n_3 c_3) true := (rb.new w_1 _ _ _).put _
 go_wp2_with (first | refine wpList_store_row rfl 62 _ _ rfl w_1.heap.size #[(.slice A_2 n_2 c_2), (.slice A_3 n_3 c_3), .bool true] rfl rfl 62 _ (rb.new w_1 _ _ _) hi2 rfl ho2 ?_)
 replace htab := htab.below hA
 replace han := han.below hA
 replace had := had.below hA
 replace hB := hB.trans (hA.mono hB.size)
 clear hA hi2 ho2
 generalize ((w_1.alloc (.cells #[.slice none 0 0, .slice none 0 0, .bool false] 62)).setRow w_1.heap.size #[(.slice A_2 n_2 c_2), (.slice A_3 n_3 c_3), .bool true]) = w_4 at f_a htab han had hB ⊢
 generalize w_1.heap.size = b_a at f_a ⊢
 have F := ofr_c (w := w_4) 1 2 (by decide) (by decide) (by decide)
 rw [show 1 / Nat.gcd 1 2 = 1 by decide, show 2 / Nat.gcd 1 2 = 2 by decide] at F
 refine (F).mono ?_
 rintro e w_5 ⟨z, z', rfl, hhn, hhd, hb⟩
 replace htab := htab.below hb
 replace han := han.below hb
 replace had := had.below hb
 replace f_a := f_a.below hb
 replace hB := hB.trans (hb.mono hB.size)
 clear hb
 clear F
 obtain ⟨A_6, n_6, c_6, rfl⟩ := hhn.shape
 obtain ⟨A_7, n_7, c_7, rfl⟩ := hhd.shape
 have hA : Below w_5.heap.size w_5 ((w_5.alloc (.cells #[.slice none 0 0, .slice none 0 0, .bool false] 62)).setRow w_5.heap.size #[(.slice A_6 n_6 c_6), (.slice A_7 n_7 c_7), .bool true]) := below_setRow (bA (Below.refl _ _) _) (Nat.le_refl _) _
 have hi2 : (Tryd.prog.info? 62).map (·.size) = some (#[(.slice A_6 n_6 c_6), (.slice A_7 n_7 c_7), .bool true] : Array Value).size := za1
 have ho2 : (#[(.slice A_6 n_6 c_6), (.slice A_7 n_7 c_7), .bool true] : Array Value).all (·.oneCell') = true := by kernel_rfl
 have f_h : rb ((w_5.alloc (.cells #[.slice none 0 0, .slice none 0 0, .bool false] 62)).setRow w_5.heap.size #[(.slice A_6 n_6 c_6), (.slice A_7 n_7 c_7), .bool true]) w_5.heap.size (.slice A_6 n_6 c_6) (.slice A_7 n_7 c_7) true := (rb.new w_5 _ _ _).put _
 go_wp2_with (first | refine wpList_store_row rfl 62 _ _ rfl w_5.heap.size #[(.slice A_6 n_6 c_6), (.slice A_7 n_7 c_7), .bool true] rfl rfl 62 _ (rb.new w_5 _ _ _) hi2 rfl ho2 ?_)
 replace htab := htab.below hA
 replace han := han.below hA
 replace had := had.below hA
 replace hhn := hhn.below hA
 replace hhd := hhd.below hA
 replace f_a := f_a.below hA
 replace hB := hB.trans (hA.mono hB.size)
 clear hA hi2 ho2
 generalize ((w_5.alloc (.cells #[.slice none 0 0, .slice none 0 0, .bool false] 62)).setRow w_5.heap.size #[(.slice A_6 n_6 c_6), (.slice A_7 n_7 c_7), .bool true]) = w_8 at f_h htab han had hhn hhd f_a hB ⊢
 generalize w_5.heap.size = b_h at f_h ⊢
 have F := ofr_c (w := w_8) 1 3 (by decide) (by decide) (by decide)
 rw [show 1 / Nat.gcd 1 3 = 1 by decide, show 3 / Nat.gcd 1 3 = 3 by decide] at F
 refine (F).mono ?_
 rintro e w_9 ⟨z, z', rfl, htn, htd, hb⟩
 replace htab := htab.below hb
 replace han := han.below hb
 replace had := had.below hb
 replace hhn := hhn.below hb
 replace hhd := hhd.below hb
 replace f_a := f_a.below hb
 replace f_h := f_h.below hb
 replace hB := hB.trans (hb.mono hB.size)
 clear hb
 clear F
 obtain ⟨A_10, n_10, c_10, rfl⟩ := htn.shape
 obtain ⟨A_11, n_11, c_11, rfl⟩ := htd.shape
 have hA : Below w_9.heap.size w_9 ((w_9.alloc (.cells #[.slice none 0 0, .slice none 0 0, .bool false] 62)).setRow w_9.heap.size #[(.slice A_10 n_10 c_10), (.slice A_11 n_11 c_11), .bool true]) := below_setRow (bA (Below.refl _ _) _) (Nat.le_refl _) _
 have hi2 : (Tryd.prog.info? 62).map (·.size) = some (#[(.slice A_10 n_10 c_10), (.slice A_11 n_11 c_11), .bool true] : Array Value).size := za1
 have ho2 : (#[(.slice A_10 n_10 c_10), (.slice A_11 n_11 c_11), .bool true] : Array Value).all (·.oneCell') = true := by kernel_rfl
 have f_t : rb ((w_9.alloc (.cells #[.slice none 0 0, .slice none 0 0, .bool false] 62)).setRow w_9.heap.size #[(.slice A_10 n_10 c_10), (.slice A_11 n_11 c_11), .bool true]) w_9.heap.size (.slice A_10 n_10 c_10) (.slice A_11 n_11 c_11) true := (rb.new w_9 _ _ _).put _
 go_wp2_with (first | refine wpList_store_row rfl 62 _ _ rfl w_9.heap.size #[(.slice A_10 n_10 c_10), (.slice A_11 n_11 c_11), .bool true] rfl rfl 62 _ (rb.new w_9 _ _ _) hi2 rfl ho2 ?_ | refine Cel.lW rfl 62 _ rfl w_9.heap.size rfl 62 #[(.slice A_10 n_10 c_10), (.slice A_11 n_11 c_11), .bool true] (0, 0) _ f_t hu62 rfl za1 ?_ | refine Cel.lW rfl 62 _ rfl b_h rfl 62 #[(.slice A_6 n_6 c_6), (.slice A_7 n_7 c_7), .bool true] (0, 0) _ (f_h.below hA) hu62 rfl za1 ?_)
 replace htab := htab.below hA
 replace han := han.below hA
 replace had := had.below hA
 replace hhn := hhn.below hA
 replace hhd := hhd.below hA
 replace htn := htn.below hA
 replace htd := htd.below hA
 replace f_a := f_a.below hA
 replace f_h := f_h.below hA
 replace hB := hB.trans (hA.mono hB.size)
 clear hA hi2 ho2
 generalize ((w_9.alloc (.cells #[.slice none 0 0, .slice none 0 0, .bool false] 62)).setRow w_9.heap.size #[(.slice A_10 n_10 c_10), (.slice A_11 n_11 c_11), .bool true]) = w_12 at f_t htab han had hhn hhd htn htd f_a f_h hB ⊢
 generalize w_9.heap.size = b_t at f_t ⊢
 have l1 := z14 (n := 1) (by decide)
 have l2 := z14 (n := 2) (by decide)
 have l3 := z14 (n := 3) (by decide)
 have l5 := z14 (n := 5) (by decide)
 have l6 := z14 (n := 6) (by decide)
 have F := qadd_c hhn hhd htn htd (by omega) (by omega) (by omega) (by omega) (by decide) (by decide)
 rw [show (1 * 3 + 1 * 2) / Nat.gcd (1 * 3 + 1 * 2) (2 * 3) = 5 by decide, show 2 * 3 / Nat.gcd (1 * 3 + 1 * 2) (2 * 3) = 6 by decide] at F
 refine (F).mono ?_
 rintro e w_13 ⟨z, z', rfl, hsn, hsd, hb⟩
 replace htab := htab.below hb
 replace han := han.below hb
 replace had := had.below hb
 replace f_a := f_a.below hb
 replace f_h := f_h.below hb
 replace f_t := f_t.below hb
 replace hB := hB.trans (hb.mono hB.size)
 clear hb
 clear F
 clear f_h f_t
 obtain ⟨A_14, n_14, c_14, rfl⟩ := hsn.shape
 obtain ⟨A_15, n_15, c_15, rfl⟩ := hsd.shape
 have hA : Below w_13.heap.size w_13 ((w_13.alloc (.cells #[.slice none 0 0, .slice none 0 0, .bool false] 62)).setRow w_13.heap.size #[(.slice A_14 n_14 c_14), (.slice A_15 n_15 c_15), .bool true]) := below_setRow (bA (Below.refl _ _) _) (Nat.le_refl _) _
 have hi2 : (Tryd.prog.info? 62).map (·.size) = some (#[(.slice A_14 n_14 c_14), (.slice A_15 n_15 c_15), .bool true] : Array Value).size := za1
 have ho2 : (#[(.slice A_14 n_14 c_14), (.slice A_15 n_15 c_15), .bool true] : Array Value).all (·.oneCell') = true := by kernel_rfl
 have f_s : rb ((w_13.alloc (.cells #[.slice none 0 0, .slice none 0 0, .bool false] 62)).setRow w_13.heap.size #[(.slice A_14 n_14 c_14), (.slice A_15 n_15 c_15), .bool true]) w_13.heap.size (.slice A_14 n_14 c_14) (.slice A_15 n_15 c_15) true := (rb.new w_13 _ _ _).put _
 go_wp2_with (first | refine wpList_store_row rfl 62 _ _ rfl w_13.heap.size #[(.slice A_14 n_14 c_14), (.slice A_15 n_15 c_15), .bool true] rfl rfl 62 _ (rb.new w_13 _ _ _) hi2 rfl ho2 ?_ | refine Cel.lW rfl 62 _ rfl w_13.heap.size rfl 62 #[(.slice A_14 n_14 c_14), (.slice A_15 n_15 c_15), .bool true] (0, 0) _ f_s hu62 rfl za1 ?_)
 replace htab := htab.below hA
 replace han := han.below hA
 replace had := had.below hA
 replace hsn := hsn.below hA
 replace hsd := hsd.below hA
 replace f_a := f_a.below hA
 replace hB := hB.trans (hA.mono hB.size)
 clear hA hi2 ho2
 generalize ((w_13.alloc (.cells #[.slice none 0 0, .slice none 0 0, .bool false] 62)).setRow w_13.heap.size #[(.slice A_14 n_14 c_14), (.slice A_15 n_15 c_15), .bool true]) = w_16 at f_s htab han had hsn hsd f_a hB ⊢
 generalize w_13.heap.size = b_s at f_s ⊢
 have hS1 : Scl w_16 (.agg #[(.slice A_14 n_14 c_14), (.slice A_15 n_15 c_15), .bool true]) 1 1 true 0 := fun W hW => by
  have F := zr2 (hsn.below hW) (hsd.below hW) (by omega) (by decide) 1 (by decide) (Nat.le_trans (z14 (n := 5 * 2 ^ 1) (by decide)) (by decide))
  rw [show (!decide (5 * 2 ^ 1 % 6 = 0)) = true by decide, show 5 * 2 ^ 1 / 6 = 1 by decide] at F
  exact F
 refine (floor_c hS1).mono ?_
 rintro e w_17 ⟨z_x, rfl, hx, hb⟩
 replace htab := htab.below hb
 replace han := han.below hb
 replace had := had.below hb
 replace hsn := hsn.below hb
 replace hsd := hsd.below hb
 replace f_a := f_a.below hb
 replace f_s := f_s.below hb
 replace hB := hB.trans (hb.mono hB.size)
 clear hb
 clear hS1
 obtain ⟨A_18, n_18, c_18, rfl⟩ := hx.shape
 have hA : Below w_17.heap.size w_17 (w_17.alloc (.cells #[(.slice A_18 n_18 c_18)] 29)) := bA (Below.refl _ _) _
 have f_x := bx.new w_17 (.slice A_18 n_18 c_18)
 go_wp2_with (first | refine Cel.lW rfl 62 _ rfl b_s rfl 62 #[(.slice A_14 n_14 c_14), (.slice A_15 n_15 c_15), .bool true] (0, 0) _ (f_s.below hA) hu62 rfl za1 ?_)
 replace htab := htab.below hA
 replace han := han.below hA
 replace had := had.below hA
 replace hsn := hsn.below hA
 replace hsd := hsd.below hA
 replace hx := hx.below hA
 replace f_a := f_a.below hA
 replace f_s := f_s.below hA
 replace hB := hB.trans (hA.mono hB.size)
 clear hA
 generalize (w_17.alloc (.cells #[(.slice A_18 n_18 c_18)] 29)) = w_19 at f_x htab han had hsn hsd hx f_a f_s hB ⊢
 generalize w_17.heap.size = b_x at f_x ⊢
 have hS2 : Scl w_19 (.agg #[(.slice A_14 n_14 c_14), (.slice A_15 n_15 c_15), .bool true]) 1 1 true 0 := fun W hW => by
  have F := zr2 (hsn.below hW) (hsd.below hW) (by omega) (by decide) 1 (by decide) (Nat.le_trans (z14 (n := 5 * 2 ^ 1) (by decide)) (by decide))
  rw [show (!decide (5 * 2 ^ 1 % 6 = 0)) = true by decide, show 5 * 2 ^ 1 / 6 = 1 by decide] at F
  exact F
 have F := ceil_more_c hS2 (by omega)
 have l2' : (wd BW (1 + 1)).length ≤ 64 := (show (wd BW 2).length ≤ 64 by omega)
 rw [zb4 l2', za4 l2'] at F
 refine (F).mono ?_
 rintro e w_20 ⟨z_y, rfl, hy, hb⟩
 replace htab := htab.below hb
 replace han := han.below hb
 replace had := had.below hb
 replace hsn := hsn.below hb
 replace hsd := hsd.below hb
 replace hx := hx.below hb
 replace f_x := f_x.below hb
 replace f_a := f_a.below hb
 replace f_s := f_s.below hb
 replace hB := hB.trans (hb.mono hB.size)
 clear hb
 clear hS2 F
 obtain ⟨A_21, n_21, c_21, rfl⟩ := hy.shape
 have hA : Below w_20.heap.size w_20 (w_20.alloc (.cells #[(.slice A_21 n_21 c_21)] 29)) := bA (Below.refl _ _) _
 have f_y := bx.new w_20 (.slice A_21 n_21 c_21)
 go_wp2_with fail
 replace htab := htab.below hA
 replace han := han.below hA
 replace had := had.below hA
 replace hsn := hsn.below hA
 replace hsd := hsd.below hA
 replace hx := hx.below hA
 replace hy := hy.below hA
 replace f_x := f_x.below hA
 replace f_a := f_a.below hA
 replace f_s := f_s.below hA
 replace hB := hB.trans (hA.mono hB.size)
 clear hA
 generalize (w_20.alloc (.cells #[(.slice A_21 n_21 c_21)] 29)) = w_22 at f_y htab han had hsn hsd hx hy f_x f_a f_s hB ⊢
 generalize w_20.heap.size = b_y at f_y ⊢
 refine (awake_c htab).mono ?_
 rintro e w_23 ⟨rfl, hb⟩
 replace htab := htab.below hb
 replace han := han.below hb
 replace had := had.below hb
 replace hsn := hsn.below hb
 replace hsd := hsd.below hb
 replace hx := hx.below hb
 replace hy := hy.below hb
 replace f_x := f_x.below hb
 replace f_y := f_y.below hb
 replace f_a := f_a.below hb
 replace f_s := f_s.below hb
 replace hB := hB.trans (hb.mono hB.size)
 clear hb
 go_wp2_with (first | refine Cel.lW rfl 62 _ rfl b_a rfl 62 #[(.slice A_2 n_2 c_2), (.slice A_3 n_3 c_3), .bool true] (0, 0) _ f_a hu62 rfl za1 ?_)
 have F := qstr_c han had (by omega) (by omega) htab
 rw [show zx1 3 ++ ⟨#[47]⟩ ++ zx1 2 = (⟨#[51, 47, 50]⟩ : ByteArray) by rw [dec_dig (by decide), dec_dig (by decide)]; rfl] at F
 refine (F).mono ?_
 rintro e w_24 ⟨rfl, hb⟩
 replace htab := htab.below hb
 replace hsn := hsn.below hb
 replace hsd := hsd.below hb
 replace hx := hx.below hb
 replace hy := hy.below hb
 replace f_x := f_x.below hb
 replace f_y := f_y.below hb
 replace f_a := f_a.below hb
 replace f_s := f_s.below hb
 replace hB := hB.trans (hb.mono hB.size)
 clear hb
 clear F
 clear f_a
 go_wp2_with (first | refine Cel.lW rfl 62 _ rfl b_s rfl 62 #[(.slice A_14 n_14 c_14), (.slice A_15 n_15 c_15), .bool true] (0, 0) _ f_s hu62 rfl za1 ?_)
 have F := qstr_c hsn hsd (by omega) (by omega) htab
 rw [show zx1 5 ++ ⟨#[47]⟩ ++ zx1 6 = (⟨#[53, 47, 54]⟩ : ByteArray) by rw [dec_dig (by decide), dec_dig (by decide)]; rfl] at F
 refine (F).mono ?_
 rintro e w_25 ⟨rfl, hb⟩
 replace htab := htab.below hb
 replace hx := hx.below hb
 replace hy := hy.below hb
 replace f_x := f_x.below hb
 replace f_y := f_y.below hb
 replace f_s := f_s.below hb
 replace hB := hB.trans (hb.mono hB.size)
 clear hb
 clear F
 clear f_s
 go_wp2_with (first | refine Cel.lW rfl 29 _ rfl b_x rfl 29 #[(.slice A_18 n_18 c_18)] (0, 0) _ f_x hu29 rfl zh ?_)
 have F := str_c hx (by omega) htab
 rw [show zx1 1 = (⟨#[49]⟩ : ByteArray) by rw [dec_dig (by decide)]; rfl] at F
 refine (F).mono ?_
 rintro e w_26 ⟨rfl, hb⟩
 replace htab := htab.below hb
 replace hy := hy.below hb
 replace f_x := f_x.below hb
 replace f_y := f_y.below hb
 replace hB := hB.trans (hb.mono hB.size)
 clear hb
 clear F
 go_wp2_with (first | refine Cel.lW rfl 29 _ rfl b_y rfl 29 #[(.slice A_21 n_21 c_21)] (0, 0) _ f_y hu29 rfl zh ?_)
 have F := str_c hy (by omega) htab
 rw [show zx1 (1 + 1) = (⟨#[50]⟩ : ByteArray) by rw [dec_dig (by decide)]; rfl] at F
 refine (F).mono ?_
 rintro e w_27 ⟨rfl, hb⟩
 replace htab := htab.below hb
 replace f_x := f_x.below hb
 replace f_y := f_y.below hb
 replace hB := hB.trans (hb.mono hB.size)
 clear hb
 clear F
 go_wp2
 go_ret
 exact ⟨rfl, hB⟩
end Go.Proofs.YtgkdealidnidiaaDoor.Na
namespace Go.Proofs.YtgkdealidnidiaaDoor.Na
open Go.RowKit Go.Proofs.YtgkdealidnidiaaDoorW.PrintWords Go.Proofs.YtgkdealidnidiaaDoorW.PrintLast Go.Proofs.YtgkdealidnidiaaDoorW.PrintMore
attribute [local go_sem] zx0 zd1
def chaffref02_New.f (k : Nat) (l0 : List Int) (l1 : List Int) : Option (List Int × List Int) := (chaffref01_Gcd.f k l0 l1).bind fun t593 => ((chaffref01_Div.f k l0 t593).bind fun bt596 => ((chaffref01_Div.f k l1 t593).bind fun bt602 => (some (bt596.1, bt602.1))))
theorem chaffref02_New.calls (k : Nat) (P0_ : Nat → Prop) (A0 : Option Addr) (c0 : Nat) (l0 : List Int) (P1_ : Nat → Prop) (A1 : Option Addr) (c1 : Nat) (l1 : List Int) (r1 : List Int) (r2 : List Int) (w : World) (hs0 : Kd.V (Kd.int .i64) 3 w w.heap.size (fun k_ => P0_ k_) (.slice A0 l0.length c0) l0) (hs1 : Kd.V (Kd.int .i64) 3 w w.heap.size (fun k_ => P1_ k_) (.slice A1 l1.length c1) l1) (h : chaffref02_New.f k l0 l1 = some (r1, r2)) :
  Calls Tryd.prog 86 #[.slice A0 l0.length c0, .slice A1 l1.length c1] w fun e w' => ∃ v0_ v1_ : Value, e = .returned (.agg #[v0_, v1_]) ∧ Kd.V (Kd.int .i64) 3 w' w.heap.size (fun k_ => ((P0_ k_ ∨ P1_ k_) ∨ w.heap.size ≤ k_)) v0_ r1 ∧ Kd.V (Kd.int .i64) 3 w' w.heap.size (fun k_ => ((P0_ k_ ∨ P1_ k_) ∨ w.heap.size ≤ k_)) v1_ r2 ∧ Below w.heap.size w w' := by
 have hu66 := Tryd.underlying66
 have HO0 := Q0.mk (show Kd.V (Kd.int .i64) 3 w w.heap.size (fun k_ => ((P0_ k_ ∨ P1_ k_) ∨ w.heap.size ≤ k_)) (.slice A0 l0.length c0) l0 from Kd.VM_ hs0 (fun k_ hk => .inl (.inl hk)))
 have HO1 := Q0.mk (show Kd.V (Kd.int .i64) 3 w w.heap.size (fun k_ => ((P0_ k_ ∨ P1_ k_) ∨ w.heap.size ≤ k_)) (.slice A1 l1.length c1) l1 from Kd.VM_ hs1 (fun k_ hk => .inl (.inr hk)))
 have HB := Q0.mk (Below.refl w.heap.size w)
 have H : ((chaffref01_Gcd.f k l0 l1).bind fun t593 => ((chaffref01_Div.f k l0 t593).bind fun bt596 => ((chaffref01_Div.f k l1 t593).bind fun bt602 => (some (bt596.1, bt602.1))))) = some (r1, r2) := h
 clear h
 replace H := Option.bind_eq_some_iff.mp H
 obtain ⟨t593, A30, H⟩ := H
 replace H : ((chaffref01_Div.f k l0 t593).bind fun bt596 => ((chaffref01_Div.f k l1 t593).bind fun bt602 => (some (bt596.1, bt602.1)))) = some (r1, r2) := H
 have A3 := Q0.mk A30
 clear A30
 replace H := Option.bind_eq_some_iff.mp H
 obtain ⟨⟨t596, t599⟩, A40, H⟩ := H
 replace H : ((chaffref01_Div.f k l1 t593).bind fun bt602 => (some (t596, bt602.1))) = some (r1, r2) := H
 have A4 := Q0.mk A40
 clear A40
 replace H := Option.bind_eq_some_iff.mp H
 obtain ⟨⟨t602, t605⟩, A50, H⟩ := H
 replace H : (some (t596, t602)) = some (r1, r2) := H
 have A5 := Q0.mk A50
 clear A50
 simp only [Option.some.injEq, Prod.mk.injEq] at H
 obtain ⟨rfl, rfl⟩ := H
 go_enter Tryd.func86, Tryd.ntmps86
 go_wp2_with (first | ((with_reducible refine gD (N := 4) rfl ?_); refine xE ?hg (N := 4) ?hd (cs := #[.slice none 0 0, .slice none 0 0]) (t := 66) ?hr ?_; (case hd => rfl); (case hg => rfl); (case hr => first | (go_simp; done) | (go_simp; rfl)); intro gb592 hg w6 hbox hb; have q_ := zm (w := w) hb (by repeat (first | (with_reducible first | exact HB.out | apply bA | apply bN | apply b1_) | exact HB.out)); replace HO0 := Q0.mk (Kd.zl (Kd.zz1 (by (with_reducible repeat (first | apply Kd.VA_ | apply Kd.VN_ | apply Kd.VD_)); exact HO0.out) gb592 (Nat.le_of_eq hg.symm)) hb); replace HO1 := Q0.mk (Kd.zl (Kd.zz1 (by (with_reducible repeat (first | apply Kd.VA_ | apply Kd.VN_ | apply Kd.VD_)); exact HO1.out) gb592 (Nat.le_of_eq hg.symm)) hb); replace HB := Q0.mk (bP q_ hb); have BK592 := Q0.mk (hbox); have GW592 := Q0.mk ((by rw [hg]; exact (bZ q_) : w.heap.size ≤ gb592)); have GE592 := GW592; clear q_; clear hb hbox hg) | ((with_reducible refine gC (f := 43) rfl ?_); refine zx (some 12) rfl rfl Tryd.func43 (by kernel_rfl) rfl #[.slice A0 l0.length c0, .slice A1 l1.length c1] rfl (by (try simp only [List.map_toArray, List.map_cons, List.map_nil]); first | done | rfl | (simp only [List.length_drop, List.length_take]; rfl)) ?_; (with_reducible refine (chaffref01_Gcd.calls k (fun k_ => (((P0_ k_ ∨ P1_ k_) ∨ w.heap.size ≤ k_) ∧ k_ ≠ gb592)) _ _ l0 (fun k_ => (((P0_ k_ ∨ P1_ k_) ∨ w.heap.size ≤ k_) ∧ k_ ≠ gb592)) _ _ l1 t593 _ ?side1 ?side2 A3.out).mono ?_); (case side1 => exact HO0.out); (case side2 => exact HO1.out); rintro e w7 ⟨v594, rfl, ho0, hb⟩; refine ⟨_, rfl, ?_⟩; have q_ := zm (w := w) hb (by repeat (first | (with_reducible first | exact HB.out | apply bA | apply bN | apply b1_ | refine bS ?_ GE592.out) | exact HB.out)); replace HO0 := Q0.mk (Kd.zl (by (with_reducible repeat (first | apply Kd.VA_ | apply Kd.VN_ | apply Kd.VD_)); exact HO0.out) hb); replace HO1 := Q0.mk (Kd.zl (by (with_reducible repeat (first | apply Kd.VA_ | apply Kd.VN_ | apply Kd.VD_)); exact HO1.out) hb); have HO595 := Q0.mk (Kd.za0 (Kd.VM_ (ok' := fun k_ => ((P0_ k_ ∨ P1_ k_) ∨ w.heap.size ≤ k_) ∧ k_ ≠ gb592) ho0 (fun k_ hk_ => ⟨Or.elim hk_ (fun hs_ => Or.elim hs_ (fun hs_ => hs_.1) (fun hs_ => hs_.1)) (fun hn_ => (.inr (Nat.le_trans (bZ q_) hn_))), Or.elim hk_ (fun hs_ => Or.elim hs_ (fun hs_ => hs_.2) (fun hs_ => hs_.2)) (fun hn_ => (Kd.zm0 (g := gb592) (o := .cells #[.slice none 0 0, .slice none 0 0] 66 (0, 0)) (by (with_reducible repeat (first | refine kN ?_ _ | refine kD ?_ | refine kA ?_ _)); exact BK592.out) k_ hn_))⟩)) (bZ q_)); replace BK592 := Q0.mk (kB (g := gb592) (o := .cells #[.slice none 0 0, .slice none 0 0] 66 (0, 0)) (by (with_reducible repeat (first | refine kN ?_ _ | refine kD ?_ | refine kA ?_ _)); exact BK592.out) hb); replace HB := Q0.mk (bP q_ hb); clear q_; (try clear hb); (try clear hb2); (try clear hk); (try clear hi); (try clear ho0); obtain ⟨Ao8, co8, eo8⟩ := Kd.zo HO595.out; subst eo8) | ((with_reducible refine gC (f := 42) rfl ?_); refine zx (some 16) rfl rfl Tryd.func42 (by kernel_rfl) rfl #[.slice A0 l0.length c0, .slice Ao8 t593.length co8] rfl (by (try simp only [List.map_toArray, List.map_cons, List.map_nil]); first | done | rfl | (simp only [List.length_drop, List.length_take]; rfl)) ?_; (with_reducible refine (chaffref01_Div.calls k _ _ l0 _ _ t593 t596 t599 _ ?side1 ?side2 ?side3 ?side4 A4.out).mono ?_); (case side1 => repeat (first | exact (Kd.z90 HO0.out).2.2 | (with_reducible refine Kd.ze ?_ _) | (with_reducible refine Kd.zf ?_ _) | (with_reducible refine Kd.zi ?_))); (case side2 => exact (Kd.z90 HO0.out).2.1); (case side3 => repeat (first | exact (Kd.z90 HO595.out).2.2 | (with_reducible refine Kd.ze ?_ _) | (with_reducible refine Kd.zf ?_ _) | (with_reducible refine Kd.zi ?_))); (case side4 => exact (Kd.z90 HO595.out).2.1); rintro e w9 ⟨v597, v600, rfl, ho0, ho1, hb⟩; refine ⟨_, rfl, ?_⟩; have q_ := zm (w := w) hb (by repeat (first | (with_reducible first | exact HB.out | apply bA | apply bN | apply b1_ | refine bS ?_ GE592.out) | exact HB.out)); replace HO0 := Q0.mk (Kd.zl (by (with_reducible repeat (first | apply Kd.VA_ | apply Kd.VN_ | apply Kd.VD_)); exact HO0.out) hb); replace HO1 := Q0.mk (Kd.zl (by (with_reducible repeat (first | apply Kd.VA_ | apply Kd.VN_ | apply Kd.VD_)); exact HO1.out) hb); replace HO595 := Q0.mk (Kd.zl (by (with_reducible repeat (first | apply Kd.VA_ | apply Kd.VN_ | apply Kd.VD_)); exact HO595.out) hb); have HO598 := Q0.mk (Kd.za0 (Kd.VM_ (ok' := fun k_ => ((P0_ k_ ∨ P1_ k_) ∨ w.heap.size ≤ k_) ∧ k_ ≠ gb592) ho0 (fun k_ hk_ => ⟨(.inr (Nat.le_trans (bZ q_) hk_)), (Kd.zm0 (g := gb592) (o := .cells #[.slice none 0 0, .slice none 0 0] 66 (0, 0)) (by (with_reducible repeat (first | refine kN ?_ _ | refine kD ?_ | refine kA ?_ _)); exact BK592.out) k_ hk_)⟩)) (bZ q_)); have HO601 := Q0.mk (Kd.za0 (Kd.VM_ (ok' := fun k_ => ((P0_ k_ ∨ P1_ k_) ∨ w.heap.size ≤ k_) ∧ k_ ≠ gb592) ho1 (fun k_ hk_ => ⟨(.inr (Nat.le_trans (bZ q_) hk_)), (Kd.zm0 (g := gb592) (o := .cells #[.slice none 0 0, .slice none 0 0] 66 (0, 0)) (by (with_reducible repeat (first | refine kN ?_ _ | refine kD ?_ | refine kA ?_ _)); exact BK592.out) k_ hk_)⟩)) (bZ q_)); replace BK592 := Q0.mk (kB (g := gb592) (o := .cells #[.slice none 0 0, .slice none 0 0] 66 (0, 0)) (by (with_reducible repeat (first | refine kN ?_ _ | refine kD ?_ | refine kA ?_ _)); exact BK592.out) hb); replace HB := Q0.mk (bP q_ hb); clear q_; (try clear hb); (try clear hb2); (try clear hk); (try clear hi); (try clear ho0); (try clear ho1)) | ((with_reducible refine gC (f := 42) rfl ?_); refine zx (some 22) rfl rfl Tryd.func42 (by kernel_rfl) rfl #[.slice A1 l1.length c1, .slice Ao8 t593.length co8] rfl (by (try simp only [List.map_toArray, List.map_cons, List.map_nil]); first | done | rfl | (simp only [List.length_drop, List.length_take]; rfl)) ?_; (with_reducible refine (chaffref01_Div.calls k _ _ l1 _ _ t593 t602 t605 _ ?side1 ?side2 ?side3 ?side4 A5.out).mono ?_); (case side1 => repeat (first | exact (Kd.z90 HO1.out).2.2 | (with_reducible refine Kd.ze ?_ _) | (with_reducible refine Kd.zf ?_ _) | (with_reducible refine Kd.zi ?_))); (case side2 => exact (Kd.z90 HO1.out).2.1); (case side3 => repeat (first | exact (Kd.z90 HO595.out).2.2 | (with_reducible refine Kd.ze ?_ _) | (with_reducible refine Kd.zf ?_ _) | (with_reducible refine Kd.zi ?_))); (case side4 => exact (Kd.z90 HO595.out).2.1); rintro e w10 ⟨v603, v606, rfl, ho0, ho1, hb⟩; refine ⟨_, rfl, ?_⟩; have q_ := zm (w := w) hb (by repeat (first | (with_reducible first | exact HB.out | apply bA | apply bN | apply b1_ | refine bS ?_ GE592.out) | exact HB.out)); replace HO0 := Q0.mk (Kd.zl (by (with_reducible repeat (first | apply Kd.VA_ | apply Kd.VN_ | apply Kd.VD_)); exact HO0.out) hb); replace HO1 := Q0.mk (Kd.zl (by (with_reducible repeat (first | apply Kd.VA_ | apply Kd.VN_ | apply Kd.VD_)); exact HO1.out) hb); replace HO595 := Q0.mk (Kd.zl (by (with_reducible repeat (first | apply Kd.VA_ | apply Kd.VN_ | apply Kd.VD_)); exact HO595.out) hb); replace HO598 := Q0.mk (Kd.zl (by (with_reducible repeat (first | apply Kd.VA_ | apply Kd.VN_ | apply Kd.VD_)); exact HO598.out) hb); replace HO601 := Q0.mk (Kd.zl (by (with_reducible repeat (first | apply Kd.VA_ | apply Kd.VN_ | apply Kd.VD_)); exact HO601.out) hb); have HO604 := Q0.mk (Kd.za0 (Kd.VM_ (ok' := fun k_ => ((P0_ k_ ∨ P1_ k_) ∨ w.heap.size ≤ k_) ∧ k_ ≠ gb592) ho0 (fun k_ hk_ => ⟨(.inr (Nat.le_trans (bZ q_) hk_)), (Kd.zm0 (g := gb592) (o := .cells #[.slice none 0 0, .slice none 0 0] 66 (0, 0)) (by (with_reducible repeat (first | refine kN ?_ _ | refine kD ?_ | refine kA ?_ _)); exact BK592.out) k_ hk_)⟩)) (bZ q_)); have HO607 := Q0.mk (Kd.za0 (Kd.VM_ (ok' := fun k_ => ((P0_ k_ ∨ P1_ k_) ∨ w.heap.size ≤ k_) ∧ k_ ≠ gb592) ho1 (fun k_ hk_ => ⟨(.inr (Nat.le_trans (bZ q_) hk_)), (Kd.zm0 (g := gb592) (o := .cells #[.slice none 0 0, .slice none 0 0] 66 (0, 0)) (by (with_reducible repeat (first | refine kN ?_ _ | refine kD ?_ | refine kA ?_ _)); exact BK592.out) k_ hk_)⟩)) (bZ q_)); replace BK592 := Q0.mk (kB (g := gb592) (o := .cells #[.slice none 0 0, .slice none 0 0] 66 (0, 0)) (by (with_reducible repeat (first | refine kN ?_ _ | refine kD ?_ | refine kA ?_ _)); exact BK592.out) hb); replace HB := Q0.mk (bP q_ hb); clear q_; (try clear hb); (try clear hb2); (try clear hk); (try clear hi); (try clear ho0); (try clear ho1); obtain ⟨Ao11, co11, eo11⟩ := Kd.zo HO604.out; subst eo11; obtain ⟨Ao12, co12, eo12⟩ := Kd.zo HO598.out; subst eo12; have hcz13_0 : w10.cell? ⟨gb592, 0, none⟩ = some (.slice none 0 0) := (kC BK592.out 0).trans rfl; have hcz13_1 : w10.cell? ⟨gb592, 1, none⟩ = some (.slice none 0 0) := (kC BK592.out 1).trans rfl; have hfz13_0 := kF BK592.out 0; have hfz13_1 := kF BK592.out 1))
 refine bodyPost_ret (results_cell_row rfl _ _ gb592 66 #[.slice Ao12 t596.length co12, .slice Ao11 t602.length co11] (0, 0) _ rfl (by (with_reducible repeat (first | refine kN ?_ _ | refine kD ?_ | refine kA ?_ _)); refine zc0 (cs := #[.slice Ao12 t596.length co12, .slice none 0 0]) ?_ 1 _ rfl; (with_reducible repeat (first | refine kN ?_ _ | refine kD ?_ | refine kA ?_ _)); refine zc0 (cs := #[.slice none 0 0, .slice none 0 0]) ?_ 0 _ rfl; (with_reducible repeat (first | refine kN ?_ _ | refine kD ?_ | refine kA ?_ _)); exact BK592.out) Tryd.underlying66 rfl (by kernel_rfl)) rfl ?_
 exact ⟨_, _, by first | rfl | (simp [eN, eS] <;> rfl) | (simp [*, eN, eS] <;> rfl), by (with_reducible repeat (first | apply Kd.VA_ | apply Kd.VN_ | apply Kd.VD_)); exact Kd.VM_ (Kd.zn1 (p := ⟨gb592, 1, none⟩) (Kd.zn1 (p := ⟨gb592, 0, none⟩) (Kd.VM_ HO598.out (fun k_ hk => (⟨hk, hk.2⟩ : _ ∧ k_ ≠ gb592))) (fun _ hk => hk.2) (.slice Ao12 t596.length co12)) (fun _ hk => hk.2) (.slice Ao11 t602.length co11)) (fun _ hk => hk.1.1), by (with_reducible repeat (first | apply Kd.VA_ | apply Kd.VN_ | apply Kd.VD_)); exact Kd.VM_ (Kd.zn1 (p := ⟨gb592, 1, none⟩) (Kd.zn1 (p := ⟨gb592, 0, none⟩) (Kd.VM_ HO604.out (fun k_ hk => (⟨hk, hk.2⟩ : _ ∧ k_ ≠ gb592))) (fun _ hk => hk.2) (.slice Ao12 t596.length co12)) (fun _ hk => hk.2) (.slice Ao11 t602.length co11)) (fun _ hk => hk.1.1), by repeat (first | (with_reducible first | exact HB.out | apply bA | apply bN | apply b1_ | refine bS ?_ GE592.out) | exact HB.out)⟩
end Go.Proofs.YtgkdealidnidiaaDoor.Na
namespace Go.Proofs.YtgkdealidnidiaaDoor.Na
open Go.RowKit Go.Proofs.YtgkdealidnidiaaDoorW.PrintWords Go.Proofs.YtgkdealidnidiaaDoorW.PrintLast Go.Proofs.YtgkdealidnidiaaDoorW.PrintMore Go.Proofs.YtgkdealidnidiaaDoor.Dg
theorem zj2 : (Tryd.prog.info? 66).map (·.size) = some 2 := by kernel_rfl
def qb (W : World) (b : Nat) (u v : Value) : Prop := W.heap[b]? = some (.cells #[u, v] 66 (0, 0))
theorem qb.below {W W' : World} {b : Nat} {u v : Value} (h : qb W b u v) (hb : Below W.heap.size W W') : qb W' b u v := (hb.block _ (Array.getElem?_eq_some_iff.1 h).1).trans h
theorem qb.new (W : World) (u v : Value) : qb (W.alloc (.cells #[u, v] 66)) W.heap.size u v := heap_alloc_new W _
theorem qb.lt {W : World} {b : Nat} {u v : Value} (h : qb W b u v) : b < W.heap.size := (Array.getElem?_eq_some_iff.1 h).1
theorem qb.put {W : World} {b : Nat} {u v : Value} (h : qb W b u v) (x y : Value) : qb (W.setRow b #[x, y]) b x y := setRow_heap W b _ #[x, y] 66 (0, 0) h
theorem rfromf_c {w : World} {u : Value} {l : List Int} {n : Nat} (h1 : Kw .u64 w u l) (hR : R BW l) (hV : V BW l = n) (hl : l.length ≤ 1000000) : Calls Tryd.prog 15 #[u] w fun e w' => ∃ z, e = .returned z ∧ Kf .i64 w.heap.size w' z (wd BD n) ∧ Below w.heap.size w w' := by
 obtain ⟨A1, c1, rfl, hc1, hC1⟩ := h1
 obtain ⟨k, hk⟩ := (rfrom_ev l n hR hV (by omega)).rounds
 refine (chaffref01_From.calls k A1 c1 _ _ w hC1 hc1 hk).mono ?_
 rintro e w' ⟨v0, rfl, hV, hB⟩
 exact ⟨v0, rfl, hV, hB⟩
theorem refnewf_c {w : World} {n0 : Nat} (hn0 : n0 ≤ w.heap.size) {u : Value} {x : Nat} (h1 : Kf .i64 n0 w u (wd BD x)) {v : Value} {y : Nat} (h2 : Kf .i64 n0 w v (wd BD y)) (hy0 : 0 < y) (hx : (wd BD x).length ≤ 100000) (hy : (wd BD y).length ≤ 100000) : Calls Tryd.prog 86 #[u, v] w fun e w' => ∃ z z', e = .returned (.agg #[z, z']) ∧ Kf .i64 n0 w' z (wd BD (x / Nat.gcd x y)) ∧ Kf .i64 n0 w' z' (wd BD (y / Nat.gcd x y)) ∧ Below w.heap.size w w' := by
 have hgp := Nat.gcd_pos_of_pos_right x hy0
 have lg : (wd BD (Nat.gcd x y)).length ≤ 1000000 := by
  have := zy0 (b := BD) (x := Nat.gcd x y) (y := y) (by decide) (Nat.le_of_dvd hy0 (Nat.gcd_dvd_right x y))
  omega
 have hE : Ev (fun k => chaffref02_New.f k (wd BD x) (wd BD y)) (wd BD (x / Nat.gcd x y), wd BD (y / Nat.gcd x y)) := by
  unfold chaffref02_New.f
  exact Ev.bind (rgcd_ev x y (by omega) (by omega)) (Ev.bind (rdiv_ev x _ hgp (by omega) lg) (Ev.bind (rdiv_ev y _ hgp (by omega) lg) (Ev.now _)))
 obtain ⟨k, hk⟩ := hE.rounds
 obtain ⟨A1, c1, rfl⟩ := Kd.zo h1
 obtain ⟨A2, c2, rfl⟩ := Kd.zo h2
 refine (chaffref02_New.calls k _ A1 c1 _ _ A2 c2 _ _ _ w h1 h2 hk).mono ?_
 rintro e w' ⟨v0, v1, rfl, hV, hV1, hB⟩
 exact ⟨v0, v1, rfl, Kd.VM_ hV (fun i hi => hi.elim (fun h => h.elim id id) (Nat.le_trans hn0)), Kd.VM_ hV1 (fun i hi => hi.elim (fun h => h.elim id id) (Nat.le_trans hn0)), hB⟩
theorem make_c {w : World} {A1 A2 : Option Addr} {c1 c2 k1 k2 : Nat} {l1 l2 : List Int} (h1 : Kw .u64 w (.slice A1 k1 c1) l1) (h2 : Kw .u64 w (.slice A2 k2 c2) l2) (r1 : R BW l1) (r2 : R BW l2) {m n : Nat} (em : V BW l1 = m) (en : V BW l2 = n) (ll1 : l1.length ≤ 30) (ll2 : l2.length ≤ 30) (lm : (wd BW m).length ≤ 30) (ln : (wd BW n).length ≤ 30) (hn0 : 0 < n) :
  Calls Tryd.prog 47 #[.slice A1 k1 c1, .slice A2 k2 c2] w fun e w' => ∃ z1 z2 d1 d2, e = .returned (.tuple #[.agg #[z1, z2, .bool true], .agg #[d1, d2], .bool true]) ∧ Nw w' z1 (m / Nat.gcd m n) ∧ Nw w' z2 (n / Nat.gcd m n) ∧ Dw w' d1 (m / Nat.gcd m n) ∧ Dw w' d2 (n / Nat.gcd m n) ∧ Below w.heap.size w w' := by
 have hu29 := Tryd.underlying29
 have hu62 := Tryd.underlying62
 have hu66 := Tryd.underlying66
 have lmD := zq3 lm
 have lnD := zq3 ln
 have f_4 : rb ((w.alloc (.cells #[.slice none 0 0, .slice none 0 0, .bool false] 62)).alloc (.cells #[.slice none 0 0, .slice none 0 0] 66)) w.heap.size (.slice none 0 0) (.slice none 0 0) false := (rb.new w _ _ _).alloc _
 have f_5 : qb ((w.alloc (.cells #[.slice none 0 0, .slice none 0 0, .bool false] 62)).alloc (.cells #[.slice none 0 0, .slice none 0 0] 66)) (w.heap.size + 1) (.slice none 0 0) (.slice none 0 0) := by have h := qb.new (w.alloc (.cells #[.slice none 0 0, .slice none 0 0, .bool false] 62)) (.slice none 0 0) (.slice none 0 0); simpa using h
 have hB : Below w.heap.size w ((w.alloc (.cells #[.slice none 0 0, .slice none 0 0, .bool false] 62)).alloc (.cells #[.slice none 0 0, .slice none 0 0] 66)) := bA (bA (Below.refl _ _) _) _
 go_enter Tryd.func47, Tryd.ntmps47
 go_wp2_with fail
 replace h1 := h1.below hB
 replace h2 := h2.below hB
 generalize ((w.alloc (.cells #[.slice none 0 0, .slice none 0 0, .bool false] 62)).alloc (.cells #[.slice none 0 0, .slice none 0 0] 66)) = w_1 at f_4 f_5 h1 h2 hB ⊢
 have l_4 : w.heap.size ≤ w.heap.size := Nat.le_refl _
 have l_5 : w.heap.size ≤ w.heap.size + 1 := by omega
 obtain ⟨b_4, e_4⟩ : ∃ b, w.heap.size = b := ⟨_, rfl⟩
 have n_45 : w.heap.size ≠ w.heap.size + 1 := by omega
 generalize w.heap.size + 1 = b_5 at f_5 l_5 n_45 ⊢
 clear e_4 b_4
 refine (fromk_c h1 r1 em (by omega) (by omega)).mono ?_
 rintro e w_2 ⟨z_a, rfl, ha, hb⟩
 replace h1 := h1.below hb
 replace h2 := h2.below hb
 replace f_4 := f_4.below hb
 replace f_5 := f_5.below hb
 replace hB := hB.trans (hb.mono hB.size)
 clear hb
 obtain ⟨A_3, n_3, c_3, rfl⟩ := ha.shape
 have hA : Below w_2.heap.size w_2 (w_2.alloc (.cells #[(.slice A_3 n_3 c_3)] 29)) := bA (Below.refl _ _) _
 have f_a := bx.new w_2 (.slice A_3 n_3 c_3)
 go_wp2_with fail
 replace h1 := h1.below hA
 replace h2 := h2.below hA
 replace f_4 := f_4.below hA
 replace f_5 := f_5.below hA
 replace ha := ha.below hA
 replace hB := hB.trans (hA.mono hB.size)
 clear hA
 generalize (w_2.alloc (.cells #[(.slice A_3 n_3 c_3)] 29)) = w_4 at f_a h1 h2 f_4 f_5 ha hB ⊢
 generalize w_2.heap.size = b_a at f_a ⊢
 refine (fromk_c h2 r2 en (by omega) (by omega)).mono ?_
 rintro e w_5 ⟨z_b, rfl, hbb, hb⟩
 replace h1 := h1.below hb
 replace h2 := h2.below hb
 replace f_4 := f_4.below hb
 replace f_5 := f_5.below hb
 replace ha := ha.below hb
 replace f_a := f_a.below hb
 replace hB := hB.trans (hb.mono hB.size)
 clear hb
 obtain ⟨A_6, n_6, c_6, rfl⟩ := hbb.shape
 have g_b := bx.new w_5 (.slice A_6 n_6 c_6)
 have hA : Below w_5.heap.size w_5 (w_5.alloc (.cells #[(.slice A_6 n_6 c_6)] 29)) := bA (Below.refl _ _) _
 go_wp2_with (first | refine Cel.lW rfl 29 _ rfl w_5.heap.size rfl 29 #[(.slice A_6 n_6 c_6)] (0, 0) _ g_b hu29 rfl zh ?_)
 replace h1 := h1.below hA
 replace h2 := h2.below hA
 replace f_4 := f_4.below hA
 replace f_5 := f_5.below hA
 replace ha := ha.below hA
 replace hbb := hbb.below hA
 replace f_a := f_a.below hA
 replace hB := hB.trans (hA.mono hB.size)
 clear hA
 generalize (w_5.alloc (.cells #[(.slice A_6 n_6 c_6)] 29)) = w_30 at g_b h1 h2 f_4 f_5 ha hbb f_a hB ⊢
 generalize w_5.heap.size = b_b at g_b ⊢
 have F := zy1 hbb
 rw [decide_eq_false (show ¬ n = 0 by omega)] at F
 refine (F).mono ?_
 rintro e w_31 ⟨rfl, hb⟩
 replace h1 := h1.below hb
 replace h2 := h2.below hb
 replace f_4 := f_4.below hb
 replace f_5 := f_5.below hb
 replace ha := ha.below hb
 replace hbb := hbb.below hb
 replace f_a := f_a.below hb
 replace g_b := g_b.below hb
 replace hB := hB.trans (hb.mono hB.size)
 clear hb
 clear F
 go_wp2_with (first | refine Cel.lW rfl 29 _ rfl b_a rfl 29 #[(.slice A_3 n_3 c_3)] (0, 0) _ f_a hu29 rfl zh ?_ | refine Cel.lW rfl 29 _ rfl b_b rfl 29 #[(.slice A_6 n_6 c_6)] (0, 0) _ g_b hu29 rfl zh ?_)
 have g4 := f_4.lt
 have g5 := f_5.lt
 refine (newk_c ha hbb (by omega) (by omega) hn0).mono ?_
 rintro e w_32 ⟨z, z', rfl, hz, hz', hb⟩
 replace h1 := h1.below hb
 replace h2 := h2.below hb
 replace f_4 := f_4.below hb
 replace f_5 := f_5.below hb
 replace f_a := f_a.below hb
 replace g_b := g_b.below hb
 replace hB := hB.trans (hb.mono hB.size)
 clear hb
 clear f_a g_b
 obtain ⟨A_33, n_33, c_33, rfl⟩ := (Kf.kw hz).shape
 obtain ⟨A_34, n_34, c_34, rfl⟩ := (Kf.kw hz').shape
 have hA : Below w_32.heap.size w_32 ((w_32.alloc (.cells #[.slice none 0 0, .slice none 0 0, .bool false] 62)).setRow w_32.heap.size #[(.slice A_33 n_33 c_33), (.slice A_34 n_34 c_34), .bool true]) := below_setRow (bA (Below.refl _ _) _) (Nat.le_refl _) _
 have hi2 : (Tryd.prog.info? 62).map (·.size) = some (#[(.slice A_33 n_33 c_33), (.slice A_34 n_34 c_34), .bool true] : Array Value).size := za1
 have ho2 : (#[(.slice A_33 n_33 c_33), (.slice A_34 n_34 c_34), .bool true] : Array Value).all (·.oneCell') = true := by kernel_rfl
 have f_r : rb ((w_32.alloc (.cells #[.slice none 0 0, .slice none 0 0, .bool false] 62)).setRow w_32.heap.size #[(.slice A_33 n_33 c_33), (.slice A_34 n_34 c_34), .bool true]) w_32.heap.size (.slice A_33 n_33 c_33) (.slice A_34 n_34 c_34) true := (rb.new w_32 _ _ _).put _
 go_wp2_with (first | refine wpList_store_row rfl 62 _ _ rfl w_32.heap.size #[(.slice A_33 n_33 c_33), (.slice A_34 n_34 c_34), .bool true] rfl rfl 62 _ (rb.new w_32 _ _ _) hi2 rfl ho2 ?_)
 replace h1 := h1.below hA
 replace h2 := h2.below hA
 replace f_4 := f_4.below hA
 replace f_5 := f_5.below hA
 replace hz := hz.below hA
 replace hz' := hz'.below hA
 replace hB := hB.trans (hA.mono hB.size)
 clear hA hi2 ho2
 generalize ((w_32.alloc (.cells #[.slice none 0 0, .slice none 0 0, .bool false] 62)).setRow w_32.heap.size #[(.slice A_33 n_33 c_33), (.slice A_34 n_34 c_34), .bool true]) = w_35 at f_r h1 h2 f_4 f_5 hz hz' hB ⊢
 generalize w_32.heap.size = b_r at f_r ⊢
 have hb : Below w_35.heap.size w_35 w_35.drew := zf0 (Below.refl _ _)
 refine zt0 (n := 11) (S := fun w' => Below w_35.drew.heap.size w_35.drew w') (ds := [8, 9]) #[ff,ff,ff,ff,ff,ff,ff,ff,ff,ff,ff] (by kernel_rfl) rfl rfl (Below.refl _ _) (fun hS => ?_)
 replace h1 := h1.below hb
 replace h2 := h2.below hb
 replace f_4 := f_4.below hb
 replace f_5 := f_5.below hb
 replace hz := hz.below hb
 replace hz' := hz'.below hb
 replace f_r := f_r.below hb
 replace hB := hB.trans (hb.mono hB.size)
 clear hb
 generalize w_35.drew = w_36 at h1 h2 f_4 f_5 hz hz' f_r hB hS ⊢
 have sf_r := f_r
 have g44 := f_4.lt
 have g55 := f_5.lt
 refine z10 0 41 ?_ #[tt,ff,ff,ff,ff,ff,ff,ff,ff,ff,ff] rfl rfl (by kernel_rfl) (fun _ _ _ h => h) (Or.inl ⟨by rfl, ?_⟩) hS ?_ ?_ ?_
 rotate_left
 ·intro w' hS_
  have k0_ := (kC (rb.below sf_r hS_) 0).trans rfl
  have k1_ := (kC (rb.below sf_r hS_) 1).trans rfl
  have k2_ := (kC (rb.below sf_r hS_) 2).trans rfl
  go_simp
  with_reducible rfl
 rotate_left
 ·simp only [Act.put, s2_, s0_, s1_, iw, jw]
  rfl
 refine za 1 42 ?_ #[tt,tt,ff,ff,ff,ff,ff,ff,ff,ff,ff] rfl rfl (by kernel_rfl) (fun _ _ _ h => h) (Or.inl ⟨by rfl, ?_⟩) ?_ ?_ ?_
 rotate_left
 ·intro w'
  go_simp
  with_reducible rfl
 rotate_left
 ·simp only [Act.put, s2_, s0_, s1_, iw, jw]
  rfl
 refine za 3 44 ?_ #[tt,tt,ff,tt,ff,ff,ff,ff,ff,ff,ff] rfl rfl (by kernel_rfl) (fun _ _ _ h => h) (Or.inl ⟨by rfl, ?_⟩) ?_ ?_ ?_
 rotate_left
 ·intro w'
  go_simp
  with_reducible rfl
 rotate_left
 ·simp only [Act.put, s2_, s0_, s1_, iw, jw]
  rfl
 refine za 6 47 ?_ #[tt,tt,ff,tt,ff,ff,tt,ff,ff,ff,ff] rfl rfl (by kernel_rfl) (fun _ _ _ h => h) (Or.inl ⟨by rfl, ?_⟩) ?_ ?_ ?_
 rotate_left
 ·intro w'
  go_simp
  with_reducible rfl
 rotate_left
 ·simp only [Act.put, s2_, s0_, s1_, iw, jw]
  rfl
 refine za 7 48 ?_ #[tt,tt,ff,tt,ff,ff,tt,tt,ff,ff,ff] rfl rfl (by kernel_rfl) (fun _ _ _ h => h) (Or.inl ⟨by rfl, ?_⟩) ?_ ?_ ?_
 rotate_left
 ·intro w'
  go_simp
  with_reducible rfl
 rotate_left
 ·simp only [Act.put, s2_, s0_, s1_, iw, jw]
  rfl
 refine zh0 (i := 2) (N := some 43) #[tt,tt,tt,tt,ff,ff,tt,tt,ff,ff,ff] rfl rfl (by kernel_rfl) (by decide) (fun K hK => ?_)
 refine z00 Tryd.func15 (by kernel_rfl) rfl #[.slice A1 k1 c1] (by rfl) rfl rfl (by (try simp only [List.map_toArray, List.map_cons, List.map_nil]); first | done | rfl | (simp only [List.length_drop, List.length_take]; rfl)) ?_
 refine (rfromf_c h1 r1 em (by omega)).mono ?_
 rintro e w_37 ⟨z_p, rfl, hp, hb⟩
 refine ⟨_, rfl, ?_⟩
 replace hS := hS.trans (hb.mono hS.size)
 replace h1 := h1.below hb
 replace h2 := h2.below hb
 replace f_4 := f_4.below hb
 replace f_5 := f_5.below hb
 replace hz := hz.below hb
 replace hz' := hz'.below hb
 replace f_r := f_r.below hb
 replace hB := hB.trans (hb.mono hB.size)
 clear hb
 refine hK.out _ _ hS (fun hS => ?_)
 clear hK K
 refine zg (a' := ?_) ?_ ?_
 rotate_left
 ·show Act.put _ (some 43) _ = _
  simp only [Act.put, s2_, s0_, s1_, iw, jw]
  rfl
 have HSZ := Q0.mk hS.size
 refine zh0 (i := 4) (N := some 45) #[tt,tt,tt,tt,tt,ff,tt,tt,ff,ff,ff] rfl rfl (by kernel_rfl) (by decide) (fun K hK => ?_)
 refine z00 Tryd.func15 (by kernel_rfl) rfl #[.slice A2 k2 c2] (by rfl) rfl rfl (by (try simp only [List.map_toArray, List.map_cons, List.map_nil]); first | done | rfl | (simp only [List.length_drop, List.length_take]; rfl)) ?_
 refine (rfromf_c h2 r2 en (by omega)).mono ?_
 rintro e w_38 ⟨z_q, rfl, hq, hb⟩
 refine ⟨_, rfl, ?_⟩
 replace hS := hS.trans (hb.mono hS.size)
 replace h1 := h1.below hb
 replace h2 := h2.below hb
 replace f_4 := f_4.below hb
 replace f_5 := f_5.below hb
 replace hz := hz.below hb
 replace hz' := hz'.below hb
 replace f_r := f_r.below hb
 replace hp := hp.below hb
 replace hB := hB.trans (hb.mono hB.size)
 clear hb
 refine hK.out _ _ hS (fun hS => ?_)
 clear hK K
 refine zg (a' := ?_) ?_ ?_
 rotate_left
 ·show Act.put _ (some 45) _ = _
  simp only [Act.put, s2_, s0_, s1_, iw, jw]
  rfl
 have hp' : Kf .i64 w_36.heap.size w_38 z_p _ := Kd.VM_ hp (fun i hi => hi)
 have hq' : Kf .i64 w_36.heap.size w_38 z_q _ := Kd.VM_ hq (fun i hi => Nat.le_trans HSZ.out hi)
 clear hp hq
 refine zh0 (i := 5) (N := some 46) #[tt,tt,tt,tt,tt,tt,tt,tt,ff,ff,ff] rfl rfl (by kernel_rfl) (by decide) (fun K hK => ?_)
 refine z00 Tryd.func86 (by kernel_rfl) rfl #[z_p, z_q] (by rfl) rfl rfl (by (try simp only [List.map_toArray, List.map_cons, List.map_nil]); first | done | rfl | (simp only [List.length_drop, List.length_take]; rfl)) ?_
 refine (refnewf_c hS.size hp' hq' hn0 (by omega) (by omega)).mono ?_
 rintro e w_39 ⟨d1, d2, rfl, hd1, hd2, hb⟩
 refine ⟨_, rfl, ?_⟩
 replace hS := hS.trans (hb.mono hS.size)
 replace h1 := h1.below hb
 replace h2 := h2.below hb
 replace f_4 := f_4.below hb
 replace f_5 := f_5.below hb
 replace hz := hz.below hb
 replace hz' := hz'.below hb
 replace f_r := f_r.below hb
 replace hB := hB.trans (hb.mono hB.size)
 clear hb
 refine hK.out _ _ hS (fun hS => ?_)
 clear hK K
 refine zg (a' := ?_) ?_ ?_
 rotate_left
 ·show Act.put _ (some 46) _ = _
  simp only [Act.put, s2_, s0_, s1_, iw, jw]
  rfl
 obtain ⟨A_d, n_d, c_d, rfl⟩ := (Kf.kw hd1).shape
 obtain ⟨A_e, n_e, c_e, rfl⟩ := (Kf.kw hd2).shape
 have hi2 : (Tryd.prog.info? 62).map (·.size) = some (#[(.slice A_33 n_33 c_33), (.slice A_34 n_34 c_34), .bool true] : Array Value).size := za1
 have ho2 : (#[(.slice A_33 n_33 c_33), (.slice A_34 n_34 c_34), .bool true] : Array Value).all (·.oneCell') = true := by kernel_rfl
 have hi6 : (Tryd.prog.info? 66).map (·.size) = some (#[(.slice A_d n_d c_d), (.slice A_e n_e c_e)] : Array Value).size := zj2
 have ho6 : (#[(.slice A_d n_d c_d), (.slice A_e n_e c_e)] : Array Value).all (·.oneCell') = true := by kernel_rfl
 refine zk3 (i := 8) (N := none) #[tt,tt,tt,tt,tt,tt,tt,tt,tt,ff,ff] rfl rfl (by kernel_rfl) (by decide) (fun K hK => ?_)
 rw [if_pos (by rfl)]
 refine Cel.wp_store_none rfl 62 _ _ rfl w.heap.size #[(.slice A_33 n_33 c_33), (.slice A_34 n_34 c_34), .bool true] rfl rfl 62 _ f_4 hi2 rfl ho2 ?_
 refine hK.out _ _ ?_
 clear hK K
 have f_4' := f_4.put #[(.slice A_33 n_33 c_33), (.slice A_34 n_34 c_34), .bool true]
 have f_5' : qb (w_39.setRow w.heap.size #[(.slice A_33 n_33 c_33), (.slice A_34 n_34 c_34), .bool true]) b_5 (.slice none 0 0) (.slice none 0 0) := (setRow_other w_39 w.heap.size b_5 _ n_45.symm).trans f_5
 have q1 := Kw.setRow hz g4 #[(.slice A_33 n_33 c_33), (.slice A_34 n_34 c_34), .bool true]
 have q2 := Kw.setRow hz' g4 #[(.slice A_33 n_33 c_33), (.slice A_34 n_34 c_34), .bool true]
 have q3 := Kw.setRow hd1 g44 #[(.slice A_33 n_33 c_33), (.slice A_34 n_34 c_34), .bool true]
 have q4 := Kw.setRow hd2 g44 #[(.slice A_33 n_33 c_33), (.slice A_34 n_34 c_34), .bool true]
 replace hB := below_setRow hB l_4 #[(.slice A_33 n_33 c_33), (.slice A_34 n_34 c_34), .bool true]
 refine zk3 (i := 9) (N := none) #[tt,tt,tt,tt,tt,tt,tt,tt,tt,tt,ff] rfl rfl (by kernel_rfl) (by decide) (fun K hK => ?_)
 rw [if_pos (by rfl)]
 refine Cel.wp_store_none rfl 66 _ _ rfl b_5 #[(.slice A_d n_d c_d), (.slice A_e n_e c_e)] rfl rfl 66 _ f_5' hi6 rfl ho6 ?_
 refine hK.out _ _ ?_
 clear hK K
 refine za 10 6 ?_ #[tt,tt,tt,tt,tt,tt,tt,tt,tt,tt,tt] rfl rfl (by kernel_rfl) (fun _ _ _ h => h) (Or.inl ⟨by rfl, ?_⟩) ?_ ?_ ?_
 rotate_left
 ·intro w'
  go_simp
  with_reducible rfl
 rotate_left
 ·simp only [Act.put, s2_, s0_, s1_, iw, jw]
  rfl
 refine zh1 (by kernel_rfl) ?_
 go_wp2_with fail
 refine bodyPost_ret (zt (rs := [.cell 4 62, .cell 5 66, .tmp 6]) rfl (by simp) (.cell w.heap.size 62 #[(.slice A_33 n_33 c_33), (.slice A_34 n_34 c_34), .bool true] (0, 0) _ rfl ((setRow_other _ b_5 w.heap.size _ n_45).trans f_4') Tryd.underlying62 rfl za1 (.cell b_5 66 #[(.slice A_d n_d c_d), (.slice A_e n_e c_e)] (0, 0) _ rfl (f_5'.put _ _) Tryd.underlying66 rfl zj2 (.tmp .nil)))) rfl ?_
 exact ⟨_, _, _, _, rfl, Kf.kw (Kw.setRow q1 g5 _), Kf.kw (Kw.setRow q2 g5 _), Kf.kw (Kw.setRow q3 g55 _), Kf.kw (Kw.setRow q4 g55 _), below_setRow hB l_5 _⟩
end Go.Proofs.YtgkdealidnidiaaDoor.Na
