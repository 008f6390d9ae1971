/- Texts of the seat, as far as the row needs them. -/
import Derived.Test.YtgkdealidnidiaaDoorQRatRounds9
set_option linter.unusedVariables false
set_option linter.unusedSimpArgs false
set_option maxHeartbeats 8000000
set_option maxRecDepth 100000
namespace Go.Proofs.YtgkdealidnidiaaDoor.Na
open Go.RowKit Go.Proofs.YtgkdealidnidiaaDoorW.PrintWords Go.Proofs.YtgkdealidnidiaaDoorW.PrintLast Go.Proofs.YtgkdealidnidiaaDoorW.PrintMore Go.Proofs.YtgkdealidnidiaaDoor.Dg
def Pw (P : Nat → Prop) (w : World) (u : Value) (x : Nat) : Prop := Kd.V (Kd.int .u64) 0 w 0 P u (wd BW x)
theorem Pw.below {P : Nat → Prop} {w w' : World} {u : Value} {x : Nat} (h : Pw P w u x) (hb : Below w.heap.size w w') : Pw P w' u x := Kd.zl h hb
theorem Pw.put {P : Nat → Prop} {w : World} {u : Value} {x c : Nat} (h : Pw P w u x) (hb : ¬ P c) (v : Value) : Pw P (w.setCell ⟨c, 0, none⟩ v) u x := Kd.zn1 (p := ⟨c, 0, none⟩) h (fun i hi e => hb (by rw [← show i = c from e]; exact hi)) v
theorem Pw.nw {P : Nat → Prop} {w : World} {u : Value} {x : Nat} (h : Pw P w u x) : Nw w u x := Kw.ofV h
theorem Nf.pw {P : Nat → Prop} {n : Nat} {w : World} {u : Value} {x : Nat} (h : Nf n w u x) (hP : ∀ i, n ≤ i → P i) : Pw P w u x := Kd.VM_ h hP
theorem Nw.pw {P : Nat → Prop} {w : World} {u : Value} {x : Nat} (h : Nw w u x) (hP : ∀ i, i < w.heap.size → P i) : Pw P w u x := Kd.VM_ (h.V 0 0) hP
theorem bx.far {W : World} {b c : Nat} {u : Value} (h : bx W b u) (hne : b ≠ c) (v : Value) : bx (W.setCell ⟨c, 0, none⟩ v) b u := zr0 h (p := ⟨c, 0, none⟩) hne v
theorem bx.set {W : World} {b : Nat} {u : Value} (h : bx W b u) (v : Value) : bx (W.setCell ⟨b, 0, none⟩ v) b v := zc0 (cs := #[u]) (cs' := #[v]) h 0 v rfl
theorem rb.far {W : World} {b c : Nat} {u v : Value} {s : Bool} (h : rb W b u v s) (hne : b ≠ c) (z : Value) : rb (W.setCell ⟨c, 0, none⟩ z) b u v s := zr0 h (p := ⟨c, 0, none⟩) hne z
def Ge (n : Nat) (w : World) : Prop := n ≤ w.heap.size
theorem Ge.below {n : Nat} {w w' : World} (h : Ge n w) (hb : Below w.heap.size w w') : Ge n w' := Nat.le_trans h hb.size
theorem Ge.put {n : Nat} {w : World} (h : Ge n w) (c : Nat) (v : Value) : Ge n (w.setCell ⟨c, 0, none⟩ v) := by
 unfold Ge at *; simpa using h
theorem mulf_c {w : World} {u : Value} {x : Nat} (h1 : Nw w u x) {v : Value} {y : Nat} (h2 : Nw w v y) (i j : Nat) (hx : (wd BW x).length ≤ i) (hy : (wd BW y).length ≤ j) (hk : i + j ≤ 64) : Calls Tryd.prog 33 #[.agg #[u], .agg #[v]] w fun e w' => ∃ z, e = .returned (.tuple #[.agg #[z], .int .i64 0]) ∧ Nf w.heap.size w' z (x * y) ∧ Below w.heap.size w w' := by
 have F := mul_c h1 h2 (by omega) (by omega)
 have hf := len_mul hx hy
 rw [zb4 (by omega), za4 (by omega)] at F
 exact F
theorem cross_c {w : World} {A1 A2 A3 A4 : Option Addr} {n1 n2 n3 n4 c1 c2 c3 c4 x1 y1 x2 y2 : Nat} (h1 : Nw w (.slice A1 n1 c1) x1) (h2 : Nw w (.slice A2 n2 c2) y1) (h3 : Nw w (.slice A3 n3 c3) x2) (h4 : Nw w (.slice A4 n4 c4) y2)
  (k1 : (wd BW x1).length ≤ 30) (k2 : (wd BW y1).length ≤ 30) (k3 : (wd BW x2).length ≤ 30) (k4 : (wd BW y2).length ≤ 30) :
  Calls Tryd.prog 109 #[.agg #[.slice A1 n1 c1, .slice A2 n2 c2, .bool true], .agg #[.slice A3 n3 c3, .slice A4 n4 c4, .bool true]] w fun e w' => ∃ z1 z2 z3, e = .returned (.tuple #[.agg #[z1], .agg #[z2], .agg #[z3], .int .i64 0]) ∧ Nw w' z1 (x1 * y2) ∧ Nw w' z2 (x2 * y1) ∧ Nw w' z3 (y1 * y2) ∧ Below w.heap.size w w' := by
 have hu29 := Tryd.underlying29
 have hu62 := Tryd.underlying62
 go_enter Tryd.func109, Tryd.ntmps109
 go_wp2_with fail
 obtain ⟨W, eW⟩ : ∃ W, (((((w.alloc (.cells #[.slice A1 n1 c1, .slice A2 n2 c2, .bool true] 62)).alloc (.cells #[.slice A3 n3 c3, .slice A4 n4 c4, .bool true] 62)).alloc (.cells #[.slice none 0 0] 29)).alloc (.cells #[.slice none 0 0] 29)).alloc (.cells #[.slice none 0 0] 29)) = W := ⟨_, rfl⟩
 rw [eW]
 have f_2 : rb (((((w.alloc (.cells #[.slice A1 n1 c1, .slice A2 n2 c2, .bool true] 62)).alloc (.cells #[.slice A3 n3 c3, .slice A4 n4 c4, .bool true] 62)).alloc (.cells #[.slice none 0 0] 29)).alloc (.cells #[.slice none 0 0] 29)).alloc (.cells #[.slice none 0 0] 29)) (w.heap.size) (.slice A1 n1 c1) (.slice A2 n2 c2) true := by have h := (((((rb.new w (.slice A1 n1 c1) (.slice A2 n2 c2) true).alloc (.cells #[.slice A3 n3 c3, .slice A4 n4 c4, .bool true] 62)).alloc (.cells #[.slice none 0 0] 29)).alloc (.cells #[.slice none 0 0] 29)).alloc (.cells #[.slice none 0 0] 29)); simpa using h
 have f_3 : rb (((((w.alloc (.cells #[.slice A1 n1 c1, .slice A2 n2 c2, .bool true] 62)).alloc (.cells #[.slice A3 n3 c3, .slice A4 n4 c4, .bool true] 62)).alloc (.cells #[.slice none 0 0] 29)).alloc (.cells #[.slice none 0 0] 29)).alloc (.cells #[.slice none 0 0] 29)) (w.heap.size + 1) (.slice A3 n3 c3) (.slice A4 n4 c4) true := by have h := ((((rb.new (w.alloc (.cells #[.slice A1 n1 c1, .slice A2 n2 c2, .bool true] 62)) (.slice A3 n3 c3) (.slice A4 n4 c4) true).alloc (.cells #[.slice none 0 0] 29)).alloc (.cells #[.slice none 0 0] 29)).alloc (.cells #[.slice none 0 0] 29)); simpa using h
 have f_4 : bx (((((w.alloc (.cells #[.slice A1 n1 c1, .slice A2 n2 c2, .bool true] 62)).alloc (.cells #[.slice A3 n3 c3, .slice A4 n4 c4, .bool true] 62)).alloc (.cells #[.slice none 0 0] 29)).alloc (.cells #[.slice none 0 0] 29)).alloc (.cells #[.slice none 0 0] 29)) (w.heap.size + 1 + 1) (.slice none 0 0) := by have h := (((bx.new ((w.alloc (.cells #[.slice A1 n1 c1, .slice A2 n2 c2, .bool true] 62)).alloc (.cells #[.slice A3 n3 c3, .slice A4 n4 c4, .bool true] 62)) (.slice none 0 0)).alloc (.cells #[.slice none 0 0] 29)).alloc (.cells #[.slice none 0 0] 29)); simpa using h
 have f_5 : bx (((((w.alloc (.cells #[.slice A1 n1 c1, .slice A2 n2 c2, .bool true] 62)).alloc (.cells #[.slice A3 n3 c3, .slice A4 n4 c4, .bool true] 62)).alloc (.cells #[.slice none 0 0] 29)).alloc (.cells #[.slice none 0 0] 29)).alloc (.cells #[.slice none 0 0] 29)) (w.heap.size + 1 + 1 + 1) (.slice none 0 0) := by have h := ((bx.new (((w.alloc (.cells #[.slice A1 n1 c1, .slice A2 n2 c2, .bool true] 62)).alloc (.cells #[.slice A3 n3 c3, .slice A4 n4 c4, .bool true] 62)).alloc (.cells #[.slice none 0 0] 29)) (.slice none 0 0)).alloc (.cells #[.slice none 0 0] 29)); simpa using h
 have f_6 : bx (((((w.alloc (.cells #[.slice A1 n1 c1, .slice A2 n2 c2, .bool true] 62)).alloc (.cells #[.slice A3 n3 c3, .slice A4 n4 c4, .bool true] 62)).alloc (.cells #[.slice none 0 0] 29)).alloc (.cells #[.slice none 0 0] 29)).alloc (.cells #[.slice none 0 0] 29)) (w.heap.size + 1 + 1 + 1 + 1) (.slice none 0 0) := by have h := (bx.new ((((w.alloc (.cells #[.slice A1 n1 c1, .slice A2 n2 c2, .bool true] 62)).alloc (.cells #[.slice A3 n3 c3, .slice A4 n4 c4, .bool true] 62)).alloc (.cells #[.slice none 0 0] 29)).alloc (.cells #[.slice none 0 0] 29)) (.slice none 0 0)); simpa using h
 have hB : Below w.heap.size w (((((w.alloc (.cells #[.slice A1 n1 c1, .slice A2 n2 c2, .bool true] 62)).alloc (.cells #[.slice A3 n3 c3, .slice A4 n4 c4, .bool true] 62)).alloc (.cells #[.slice none 0 0] 29)).alloc (.cells #[.slice none 0 0] 29)).alloc (.cells #[.slice none 0 0] 29)) := bA (bA (bA (bA (bA (Below.refl _ _) _) _) _) _) _
 have hM : Ge (w.heap.size + 1 + 1 + 1 + 1 + 1) (((((w.alloc (.cells #[.slice A1 n1 c1, .slice A2 n2 c2, .bool true] 62)).alloc (.cells #[.slice A3 n3 c3, .slice A4 n4 c4, .bool true] 62)).alloc (.cells #[.slice none 0 0] 29)).alloc (.cells #[.slice none 0 0] 29)).alloc (.cells #[.slice none 0 0] 29)) := by unfold Ge; simp
 rw [eW] at f_2 f_3 f_4 f_5 f_6 hB hM
 clear eW
 obtain ⟨N, hN⟩ : ∃ N, w.heap.size = N := ⟨_, rfl⟩
 obtain ⟨b_2, e_2⟩ : ∃ b, w.heap.size = b := ⟨_, rfl⟩
 obtain ⟨b_3, e_3⟩ : ∃ b, w.heap.size + 1 = b := ⟨_, rfl⟩
 obtain ⟨b_4, e_4⟩ : ∃ b, w.heap.size + 1 + 1 = b := ⟨_, rfl⟩
 obtain ⟨b_5, e_5⟩ : ∃ b, w.heap.size + 1 + 1 + 1 = b := ⟨_, rfl⟩
 obtain ⟨b_6, e_6⟩ : ∃ b, w.heap.size + 1 + 1 + 1 + 1 = b := ⟨_, rfl⟩
 obtain ⟨b_M, e_M⟩ : ∃ b, w.heap.size + 1 + 1 + 1 + 1 + 1 = b := ⟨_, rfl⟩
 rw [e_M] at hM
 rw [e_6] at f_6 ⊢
 rw [e_5] at f_5 ⊢
 rw [e_4] at f_4 ⊢
 rw [e_3] at f_3 ⊢
 have n_2_3 : b_2 ≠ b_3 := by omega
 have n_2_4 : b_2 ≠ b_4 := by omega
 have n_2_5 : b_2 ≠ b_5 := by omega
 have n_2_6 : b_2 ≠ b_6 := by omega
 have n_3_2 : b_3 ≠ b_2 := by omega
 have n_3_4 : b_3 ≠ b_4 := by omega
 have n_3_5 : b_3 ≠ b_5 := by omega
 have n_3_6 : b_3 ≠ b_6 := by omega
 have n_4_2 : b_4 ≠ b_2 := by omega
 have n_4_3 : b_4 ≠ b_3 := by omega
 have n_4_5 : b_4 ≠ b_5 := by omega
 have n_4_6 : b_4 ≠ b_6 := by omega
 have n_5_2 : b_5 ≠ b_2 := by omega
 have n_5_3 : b_5 ≠ b_3 := by omega
 have n_5_4 : b_5 ≠ b_4 := by omega
 have n_5_6 : b_5 ≠ b_6 := by omega
 have n_6_2 : b_6 ≠ b_2 := by omega
 have n_6_3 : b_6 ≠ b_3 := by omega
 have n_6_4 : b_6 ≠ b_4 := by omega
 have n_6_5 : b_6 ≠ b_5 := by omega
 obtain ⟨P, hP⟩ : ∃ P : Nat → Prop, P = fun i => i < w.heap.size ∨ b_M ≤ i := ⟨_, rfl⟩
 have np_4 : ¬ P b_4 := by rw [hP]; show ¬ (_ ∨ _); omega
 have l_4 : w.heap.size ≤ b_4 := by omega
 have np_5 : ¬ P b_5 := by rw [hP]; show ¬ (_ ∨ _); omega
 have l_5 : w.heap.size ≤ b_5 := by omega
 have np_6 : ¬ P b_6 := by rw [hP]; show ¬ (_ ∨ _); omega
 have l_6 : w.heap.size ≤ b_6 := by omega
 have hPM : ∀ i, b_M ≤ i → P i := fun i hi => by rw [hP]; exact .inr hi
 have hPN : ∀ i, i < w.heap.size → P i := fun i hi => by rw [hP]; exact .inl hi
 have p1 := (Nw.pw h1 hPN).below hB
 have p2 := (Nw.pw h2 hPN).below hB
 have p3 := (Nw.pw h3 hPN).below hB
 have p4 := (Nw.pw h4 hPN).below hB
 rw [e_2] at f_2 ⊢
 clear hP e_2 e_3 e_4 e_5 e_6 e_M hN h1 h2 h3 h4 hPN
 have hb : Below W.heap.size W W.drew := zf0 (Below.refl _ _)
 refine zt0 (n := 10) (S := fun w' => Below W.drew.heap.size W.drew w') (ds := [8]) #[ff,ff,ff,ff,ff,ff,ff,ff,ff,ff] (by kernel_rfl) rfl rfl (Below.refl _ _) (fun hS => ?_)
 replace p1 := p1.below hb
 replace p2 := p2.below hb
 replace p3 := p3.below hb
 replace p4 := p4.below hb
 replace f_2 := f_2.below hb
 replace f_3 := f_3.below hb
 replace hM := hM.below hb
 replace f_4 := f_4.below hb
 replace f_5 := f_5.below hb
 replace f_6 := f_6.below hb
 replace hB := hB.trans (hb.mono hB.size)
 clear hb
 generalize W.drew = w_1 at p1 p2 p3 p4 f_2 f_3 hM f_4 f_5 f_6 hB hS ⊢
 have sf_4 := f_4
 have sf_5 := f_5
 have sf_6 := f_6
 have sf_2 := f_2
 have sf_3 := f_3
 refine za 0 9 ?_ #[tt,ff,ff,ff,ff,ff,ff,ff,ff,ff] rfl rfl (by kernel_rfl) (fun _ _ _ h => h) (Or.inl ⟨by rfl, ?_⟩) ?_ ?_ ?_
 rotate_left
 ·intro w'
  go_simp
  with_reducible rfl
 rotate_left
 ·simp only [Act.put, s2_, s0_, s1_, iw, jw]
  rfl
 refine z10 1 10 ?_ #[tt,tt,ff,ff,ff,ff,ff,ff,ff,ff] rfl rfl (by kernel_rfl) (fun _ _ _ h => h) (Or.inl ⟨by rfl, ?_⟩) hS ?_ ?_ ?_
 rotate_left
 ·intro w' hS_
  have k_ := (kC (rb.below sf_2 hS_) 0).trans rfl
  go_simp
  with_reducible rfl
 rotate_left
 ·simp only [Act.put, s2_, s0_, s1_, iw, jw]
  rfl
 refine z10 2 11 ?_ #[tt,tt,tt,ff,ff,ff,ff,ff,ff,ff] rfl rfl (by kernel_rfl) (fun _ _ _ h => h) (Or.inl ⟨by rfl, ?_⟩) hS ?_ ?_ ?_
 rotate_left
 ·intro w' hS_
  have k0_ := (kC (rb.below sf_3 hS_) 0).trans rfl
  have k1_ := (kC (rb.below sf_3 hS_) 1).trans rfl
  have k2_ := (kC (rb.below sf_3 hS_) 2).trans rfl
  go_simp
  with_reducible rfl
 rotate_left
 ·simp only [Act.put, s2_, s0_, s1_, iw, jw]
  rfl
 refine zh0 (i := 3) (N := some 12) #[tt,tt,tt,tt,ff,ff,ff,ff,ff,ff] rfl rfl (by kernel_rfl) (by decide) (fun K hK => ?_)
 refine z00 Tryd.func89 (by kernel_rfl) rfl #[.agg #[.slice A3 n3 c3, .slice A4 n4 c4, .bool true]] (by rfl) rfl rfl (by (try simp only [List.map_toArray, List.map_cons, List.map_nil]); first | done | rfl | (simp only [List.length_drop, List.length_take]; rfl)) ?_
 refine (zn3).mono ?_
 rintro e w_2 ⟨rfl, hb⟩
 refine ⟨_, rfl, ?_⟩
 replace hS := hS.trans (hb.mono hS.size)
 replace p1 := p1.below hb
 replace p2 := p2.below hb
 replace p3 := p3.below hb
 replace p4 := p4.below hb
 replace f_2 := f_2.below hb
 replace f_3 := f_3.below hb
 replace hM := hM.below hb
 replace f_4 := f_4.below hb
 replace f_5 := f_5.below hb
 replace f_6 := f_6.below hb
 replace hB := hB.trans (hb.mono hB.size)
 clear hb
 refine hK.out _ _ hS (fun hS => ?_)
 clear hK K
 refine zg (a' := ?_) ?_ ?_
 rotate_left
 ·show Act.put _ (some 12) _ = _
  simp only [Act.put, s2_, s0_, s1_, iw, jw]
  rfl
 have hM0 := hM
 refine zh0 (i := 4) (N := some 13) #[tt,tt,tt,tt,tt,ff,ff,ff,ff,ff] rfl rfl (by kernel_rfl) (by decide) (fun K hK => ?_)
 refine z00 Tryd.func33 (by kernel_rfl) rfl #[.agg #[.slice A1 n1 c1], .agg #[.slice A4 n4 c4]] (by rfl) rfl rfl (by (try simp only [List.map_toArray, List.map_cons, List.map_nil]); first | done | rfl | (simp only [List.length_drop, List.length_take]; rfl)) ?_
 refine (mulf_c p1.nw p4.nw 30 30 k1 k4 (by decide)).mono ?_
 rintro e w_3 ⟨z_x, rfl, h0, hb⟩
 refine ⟨_, rfl, ?_⟩
 replace hS := hS.trans (hb.mono hS.size)
 replace p1 := p1.below hb
 replace p2 := p2.below hb
 replace p3 := p3.below hb
 replace p4 := p4.below hb
 replace f_2 := f_2.below hb
 replace f_3 := f_3.below hb
 replace hM := hM.below hb
 replace f_4 := f_4.below hb
 replace f_5 := f_5.below hb
 replace f_6 := f_6.below hb
 replace hB := hB.trans (hb.mono hB.size)
 clear hb
 refine hK.out _ _ hS (fun hS => ?_)
 clear hK K
 refine zg (a' := ?_) ?_ ?_
 rotate_left
 ·show Act.put _ (some 13) _ = _
  simp only [Act.put, s2_, s0_, s1_, iw, jw]
  rfl
 have q_x := Nf.pw h0 (fun i hi => hPM i (Nat.le_trans hM0 hi))
 clear h0 hM0
 obtain ⟨A_4, n_4, c_4, rfl⟩ := (Pw.nw q_x).shape
 refine za 5 8 ?_ #[tt,tt,tt,tt,tt,tt,ff,ff,ff,ff] rfl rfl (by kernel_rfl) (fun _ _ _ h => h) (Or.inl ⟨by rfl, ?_⟩) ?_ ?_ ?_
 rotate_left
 ·intro w'
  go_simp
  with_reducible rfl
 rotate_left
 ·simp only [Act.put, s2_, s0_, s1_, iw, jw]
  rfl
 refine za 6 14 ?_ #[tt,tt,tt,tt,tt,tt,tt,ff,ff,ff] rfl rfl (by kernel_rfl) (fun _ _ _ h => h) (Or.inl ⟨by rfl, ?_⟩) ?_ ?_ ?_
 rotate_left
 ·intro w'
  go_simp
  with_reducible rfl
 rotate_left
 ·simp only [Act.put, s2_, s0_, s1_, iw, jw]
  rfl
 refine za 7 15 ?_ #[tt,tt,tt,tt,tt,tt,tt,tt,ff,ff] rfl rfl (by kernel_rfl) (fun _ _ _ h => h) (Or.inl ⟨by rfl, ?_⟩) ?_ ?_ ?_
 rotate_left
 ·intro w'
  go_simp
  with_reducible rfl
 rotate_left
 ·simp only [Act.put, s2_, s0_, s1_, iw, jw]
  rfl
 refine zk3 (i := 8) (N := none) #[tt,tt,tt,tt,tt,tt,tt,tt,tt,ff] rfl rfl (by kernel_rfl) (by decide) (fun K hK => ?_)
 have hs_ := (kC f_4 0).trans rfl
 have hfs_ := kF f_4 0
 refine zw1 (w1 := ?_) (by rfl) rfl ?_ ?_
 rotate_left
 ·go_simp
  rfl
 clear hs_ hfs_
 refine hK.out _ _ ?_
 clear hK K
 replace f_2 := f_2.far n_2_4 (.slice A_4 n_4 c_4)
 replace f_3 := f_3.far n_3_4 (.slice A_4 n_4 c_4)
 replace f_5 := f_5.far n_5_4 (.slice A_4 n_4 c_4)
 replace f_6 := f_6.far n_6_4 (.slice A_4 n_4 c_4)
 replace f_4 := f_4.set (.slice A_4 n_4 c_4)
 replace p1 := p1.put np_4 (.slice A_4 n_4 c_4)
 replace p2 := p2.put np_4 (.slice A_4 n_4 c_4)
 replace p3 := p3.put np_4 (.slice A_4 n_4 c_4)
 replace p4 := p4.put np_4 (.slice A_4 n_4 c_4)
 replace q_x := q_x.put np_4 (.slice A_4 n_4 c_4)
 replace hM := hM.put b_4 (.slice A_4 n_4 c_4)
 replace hB := bS (v := (.slice A_4 n_4 c_4)) (j := 0) hB l_4
 generalize w_3.setCell ⟨b_4, 0, none⟩ (.slice A_4 n_4 c_4) = w_5 at f_2 f_3 f_5 f_6 f_4 p1 p2 p3 p4 q_x hM hB ⊢
 refine za 9 7 ?_ #[tt,tt,tt,tt,tt,tt,tt,tt,tt,tt] rfl rfl (by kernel_rfl) (fun _ _ _ h => h) (Or.inl ⟨by rfl, ?_⟩) ?_ ?_ ?_
 rotate_left
 ·intro w'
  go_simp
  with_reducible rfl
 rotate_left
 ·simp only [Act.put, s2_, s0_, s1_, iw, jw]
  rfl
 refine zh1 (by kernel_rfl) ?_
 go_wp2_with fail
 have hb : Below w_5.heap.size w_5 w_5.drew := zf0 (Below.refl _ _)
 refine zt0 (n := 10) (S := fun w' => Below w_5.drew.heap.size w_5.drew w') (ds := [8]) #[ff,ff,ff,ff,ff,ff,ff,ff,ff,ff] (by kernel_rfl) rfl rfl (Below.refl _ _) (fun hS => ?_)
 replace p1 := p1.below hb
 replace p2 := p2.below hb
 replace p3 := p3.below hb
 replace p4 := p4.below hb
 replace f_2 := f_2.below hb
 replace f_3 := f_3.below hb
 replace hM := hM.below hb
 replace q_x := q_x.below hb
 replace f_4 := f_4.below hb
 replace f_5 := f_5.below hb
 replace f_6 := f_6.below hb
 replace hB := hB.trans (hb.mono hB.size)
 clear hb
 generalize w_5.drew = w_6 at p1 p2 p3 p4 f_2 f_3 hM q_x f_4 f_5 f_6 hB hS ⊢
 have sf_4 := f_4
 have sf_5 := f_5
 have sf_6 := f_6
 have sf_2 := f_2
 have sf_3 := f_3
 refine za 0 19 ?_ #[tt,ff,ff,ff,ff,ff,ff,ff,ff,ff] rfl rfl (by kernel_rfl) (fun _ _ _ h => h) (Or.inl ⟨by rfl, ?_⟩) ?_ ?_ ?_
 rotate_left
 ·intro w'
  go_simp
  with_reducible rfl
 rotate_left
 ·simp only [Act.put, s2_, s0_, s1_, iw, jw]
  rfl
 refine z10 1 20 ?_ #[tt,tt,ff,ff,ff,ff,ff,ff,ff,ff] rfl rfl (by kernel_rfl) (fun _ _ _ h => h) (Or.inl ⟨by rfl, ?_⟩) hS ?_ ?_ ?_
 rotate_left
 ·intro w' hS_
  have k_ := (kC (rb.below sf_3 hS_) 0).trans rfl
  go_simp
  with_reducible rfl
 rotate_left
 ·simp only [Act.put, s2_, s0_, s1_, iw, jw]
  rfl
 refine z10 2 21 ?_ #[tt,tt,tt,ff,ff,ff,ff,ff,ff,ff] rfl rfl (by kernel_rfl) (fun _ _ _ h => h) (Or.inl ⟨by rfl, ?_⟩) hS ?_ ?_ ?_
 rotate_left
 ·intro w' hS_
  have k0_ := (kC (rb.below sf_2 hS_) 0).trans rfl
  have k1_ := (kC (rb.below sf_2 hS_) 1).trans rfl
  have k2_ := (kC (rb.below sf_2 hS_) 2).trans rfl
  go_simp
  with_reducible rfl
 rotate_left
 ·simp only [Act.put, s2_, s0_, s1_, iw, jw]
  rfl
 refine zh0 (i := 3) (N := some 22) #[tt,tt,tt,tt,ff,ff,ff,ff,ff,ff] rfl rfl (by kernel_rfl) (by decide) (fun K hK => ?_)
 refine z00 Tryd.func89 (by kernel_rfl) rfl #[.agg #[.slice A1 n1 c1, .slice A2 n2 c2, .bool true]] (by rfl) rfl rfl (by (try simp only [List.map_toArray, List.map_cons, List.map_nil]); first | done | rfl | (simp only [List.length_drop, List.length_take]; rfl)) ?_
 refine (zn3).mono ?_
 rintro e w_7 ⟨rfl, hb⟩
 refine ⟨_, rfl, ?_⟩
 replace hS := hS.trans (hb.mono hS.size)
 replace p1 := p1.below hb
 replace p2 := p2.below hb
 replace p3 := p3.below hb
 replace p4 := p4.below hb
 replace f_2 := f_2.below hb
 replace f_3 := f_3.below hb
 replace hM := hM.below hb
 replace q_x := q_x.below hb
 replace f_4 := f_4.below hb
 replace f_5 := f_5.below hb
 replace f_6 := f_6.below hb
 replace hB := hB.trans (hb.mono hB.size)
 clear hb
 refine hK.out _ _ hS (fun hS => ?_)
 clear hK K
 refine zg (a' := ?_) ?_ ?_
 rotate_left
 ·show Act.put _ (some 22) _ = _
  simp only [Act.put, s2_, s0_, s1_, iw, jw]
  rfl
 have hM0 := hM
 refine zh0 (i := 4) (N := some 23) #[tt,tt,tt,tt,tt,ff,ff,ff,ff,ff] rfl rfl (by kernel_rfl) (by decide) (fun K hK => ?_)
 refine z00 Tryd.func33 (by kernel_rfl) rfl #[.agg #[.slice A3 n3 c3], .agg #[.slice A2 n2 c2]] (by rfl) rfl rfl (by (try simp only [List.map_toArray, List.map_cons, List.map_nil]); first | done | rfl | (simp only [List.length_drop, List.length_take]; rfl)) ?_
 refine (mulf_c p3.nw p2.nw 30 30 k3 k2 (by decide)).mono ?_
 rintro e w_8 ⟨z_y, rfl, h0, hb⟩
 refine ⟨_, rfl, ?_⟩
 replace hS := hS.trans (hb.mono hS.size)
 replace p1 := p1.below hb
 replace p2 := p2.below hb
 replace p3 := p3.below hb
 replace p4 := p4.below hb
 replace f_2 := f_2.below hb
 replace f_3 := f_3.below hb
 replace hM := hM.below hb
 replace q_x := q_x.below hb
 replace f_4 := f_4.below hb
 replace f_5 := f_5.below hb
 replace f_6 := f_6.below hb
 replace hB := hB.trans (hb.mono hB.size)
 clear hb
 refine hK.out _ _ hS (fun hS => ?_)
 clear hK K
 refine zg (a' := ?_) ?_ ?_
 rotate_left
 ·show Act.put _ (some 23) _ = _
  simp only [Act.put, s2_, s0_, s1_, iw, jw]
  rfl
 have q_y := Nf.pw h0 (fun i hi => hPM i (Nat.le_trans hM0 hi))
 clear h0 hM0
 obtain ⟨A_9, n_9, c_9, rfl⟩ := (Pw.nw q_y).shape
 refine za 5 18 ?_ #[tt,tt,tt,tt,tt,tt,ff,ff,ff,ff] rfl rfl (by kernel_rfl) (fun _ _ _ h => h) (Or.inl ⟨by rfl, ?_⟩) ?_ ?_ ?_
 rotate_left
 ·intro w'
  go_simp
  with_reducible rfl
 rotate_left
 ·simp only [Act.put, s2_, s0_, s1_, iw, jw]
  rfl
 refine za 6 24 ?_ #[tt,tt,tt,tt,tt,tt,tt,ff,ff,ff] rfl rfl (by kernel_rfl) (fun _ _ _ h => h) (Or.inl ⟨by rfl, ?_⟩) ?_ ?_ ?_
 rotate_left
 ·intro w'
  go_simp
  with_reducible rfl
 rotate_left
 ·simp only [Act.put, s2_, s0_, s1_, iw, jw]
  rfl
 refine za 7 25 ?_ #[tt,tt,tt,tt,tt,tt,tt,tt,ff,ff] rfl rfl (by kernel_rfl) (fun _ _ _ h => h) (Or.inl ⟨by rfl, ?_⟩) ?_ ?_ ?_
 rotate_left
 ·intro w'
  go_simp
  with_reducible rfl
 rotate_left
 ·simp only [Act.put, s2_, s0_, s1_, iw, jw]
  rfl
 refine zk3 (i := 8) (N := none) #[tt,tt,tt,tt,tt,tt,tt,tt,tt,ff] rfl rfl (by kernel_rfl) (by decide) (fun K hK => ?_)
 have hs_ := (kC f_5 0).trans rfl
 have hfs_ := kF f_5 0
 refine zw1 (w1 := ?_) (by rfl) rfl ?_ ?_
 rotate_left
 ·go_simp
  rfl
 clear hs_ hfs_
 refine hK.out _ _ ?_
 clear hK K
 replace f_2 := f_2.far n_2_5 (.slice A_9 n_9 c_9)
 replace f_3 := f_3.far n_3_5 (.slice A_9 n_9 c_9)
 replace f_4 := f_4.far n_4_5 (.slice A_9 n_9 c_9)
 replace f_6 := f_6.far n_6_5 (.slice A_9 n_9 c_9)
 replace f_5 := f_5.set (.slice A_9 n_9 c_9)
 replace p1 := p1.put np_5 (.slice A_9 n_9 c_9)
 replace p2 := p2.put np_5 (.slice A_9 n_9 c_9)
 replace p3 := p3.put np_5 (.slice A_9 n_9 c_9)
 replace p4 := p4.put np_5 (.slice A_9 n_9 c_9)
 replace q_x := q_x.put np_5 (.slice A_9 n_9 c_9)
 replace q_y := q_y.put np_5 (.slice A_9 n_9 c_9)
 replace hM := hM.put b_5 (.slice A_9 n_9 c_9)
 replace hB := bS (v := (.slice A_9 n_9 c_9)) (j := 0) hB l_5
 generalize w_8.setCell ⟨b_5, 0, none⟩ (.slice A_9 n_9 c_9) = w_10 at f_2 f_3 f_4 f_6 f_5 p1 p2 p3 p4 q_x q_y hM hB ⊢
 refine za 9 7 ?_ #[tt,tt,tt,tt,tt,tt,tt,tt,tt,tt] rfl rfl (by kernel_rfl) (fun _ _ _ h => h) (Or.inl ⟨by rfl, ?_⟩) ?_ ?_ ?_
 rotate_left
 ·intro w'
  go_simp
  with_reducible rfl
 rotate_left
 ·simp only [Act.put, s2_, s0_, s1_, iw, jw]
  rfl
 refine zh1 (by kernel_rfl) ?_
 go_wp2_with fail
 have hb : Below w_10.heap.size w_10 w_10.drew := zf0 (Below.refl _ _)
 refine zt0 (n := 10) (S := fun w' => Below w_10.drew.heap.size w_10.drew w') (ds := [8]) #[ff,ff,ff,ff,ff,ff,ff,ff,ff,ff] (by kernel_rfl) rfl rfl (Below.refl _ _) (fun hS => ?_)
 replace p1 := p1.below hb
 replace p2 := p2.below hb
 replace p3 := p3.below hb
 replace p4 := p4.below hb
 replace f_2 := f_2.below hb
 replace f_3 := f_3.below hb
 replace hM := hM.below hb
 replace q_x := q_x.below hb
 replace q_y := q_y.below hb
 replace f_4 := f_4.below hb
 replace f_5 := f_5.below hb
 replace f_6 := f_6.below hb
 replace hB := hB.trans (hb.mono hB.size)
 clear hb
 generalize w_10.drew = w_11 at p1 p2 p3 p4 f_2 f_3 hM q_x q_y f_4 f_5 f_6 hB hS ⊢
 have sf_4 := f_4
 have sf_5 := f_5
 have sf_6 := f_6
 have sf_2 := f_2
 have sf_3 := f_3
 refine z10 0 29 ?_ #[tt,ff,ff,ff,ff,ff,ff,ff,ff,ff] rfl rfl (by kernel_rfl) (fun _ _ _ h => h) (Or.inl ⟨by rfl, ?_⟩) hS ?_ ?_ ?_
 rotate_left
 ·intro w' hS_
  have k0_ := (kC (rb.below sf_2 hS_) 0).trans rfl
  have k1_ := (kC (rb.below sf_2 hS_) 1).trans rfl
  have k2_ := (kC (rb.below sf_2 hS_) 2).trans rfl
  go_simp
  with_reducible rfl
 rotate_left
 ·simp only [Act.put, s2_, s0_, s1_, iw, jw]
  rfl
 refine z10 2 31 ?_ #[tt,ff,tt,ff,ff,ff,ff,ff,ff,ff] rfl rfl (by kernel_rfl) (fun _ _ _ h => h) (Or.inl ⟨by rfl, ?_⟩) hS ?_ ?_ ?_
 rotate_left
 ·intro w' hS_
  have k0_ := (kC (rb.below sf_3 hS_) 0).trans rfl
  have k1_ := (kC (rb.below sf_3 hS_) 1).trans rfl
  have k2_ := (kC (rb.below sf_3 hS_) 2).trans rfl
  go_simp
  with_reducible rfl
 rotate_left
 ·simp only [Act.put, s2_, s0_, s1_, iw, jw]
  rfl
 refine zh0 (i := 1) (N := some 30) #[tt,tt,tt,ff,ff,ff,ff,ff,ff,ff] rfl rfl (by kernel_rfl) (by decide) (fun K hK => ?_)
 refine z00 Tryd.func89 (by kernel_rfl) rfl #[.agg #[.slice A1 n1 c1, .slice A2 n2 c2, .bool true]] (by rfl) rfl rfl (by (try simp only [List.map_toArray, List.map_cons, List.map_nil]); first | done | rfl | (simp only [List.length_drop, List.length_take]; rfl)) ?_
 refine (zn3).mono ?_
 rintro e w_12 ⟨rfl, hb⟩
 refine ⟨_, rfl, ?_⟩
 replace hS := hS.trans (hb.mono hS.size)
 replace p1 := p1.below hb
 replace p2 := p2.below hb
 replace p3 := p3.below hb
 replace p4 := p4.below hb
 replace f_2 := f_2.below hb
 replace f_3 := f_3.below hb
 replace hM := hM.below hb
 replace q_x := q_x.below hb
 replace q_y := q_y.below hb
 replace f_4 := f_4.below hb
 replace f_5 := f_5.below hb
 replace f_6 := f_6.below hb
 replace hB := hB.trans (hb.mono hB.size)
 clear hb
 refine hK.out _ _ hS (fun hS => ?_)
 clear hK K
 refine zg (a' := ?_) ?_ ?_
 rotate_left
 ·show Act.put _ (some 30) _ = _
  simp only [Act.put, s2_, s0_, s1_, iw, jw]
  rfl
 refine zh0 (i := 3) (N := some 32) #[tt,tt,tt,tt,ff,ff,ff,ff,ff,ff] rfl rfl (by kernel_rfl) (by decide) (fun K hK => ?_)
 refine z00 Tryd.func89 (by kernel_rfl) rfl #[.agg #[.slice A3 n3 c3, .slice A4 n4 c4, .bool true]] (by rfl) rfl rfl (by (try simp only [List.map_toArray, List.map_cons, List.map_nil]); first | done | rfl | (simp only [List.length_drop, List.length_take]; rfl)) ?_
 refine (zn3).mono ?_
 rintro e w_13 ⟨rfl, hb⟩
 refine ⟨_, rfl, ?_⟩
 replace hS := hS.trans (hb.mono hS.size)
 replace p1 := p1.below hb
 replace p2 := p2.below hb
 replace p3 := p3.below hb
 replace p4 := p4.below hb
 replace f_2 := f_2.below hb
 replace f_3 := f_3.below hb
 replace hM := hM.below hb
 replace q_x := q_x.below hb
 replace q_y := q_y.below hb
 replace f_4 := f_4.below hb
 replace f_5 := f_5.below hb
 replace f_6 := f_6.below hb
 replace hB := hB.trans (hb.mono hB.size)
 clear hb
 refine hK.out _ _ hS (fun hS => ?_)
 clear hK K
 refine zg (a' := ?_) ?_ ?_
 rotate_left
 ·show Act.put _ (some 32) _ = _
  simp only [Act.put, s2_, s0_, s1_, iw, jw]
  rfl
 have hM0 := hM
 refine zh0 (i := 4) (N := some 33) #[tt,tt,tt,tt,tt,ff,ff,ff,ff,ff] rfl rfl (by kernel_rfl) (by decide) (fun K hK => ?_)
 refine z00 Tryd.func33 (by kernel_rfl) rfl #[.agg #[.slice A2 n2 c2], .agg #[.slice A4 n4 c4]] (by rfl) rfl rfl (by (try simp only [List.map_toArray, List.map_cons, List.map_nil]); first | done | rfl | (simp only [List.length_drop, List.length_take]; rfl)) ?_
 refine (mulf_c p2.nw p4.nw 30 30 k2 k4 (by decide)).mono ?_
 rintro e w_14 ⟨z_d, rfl, h0, hb⟩
 refine ⟨_, rfl, ?_⟩
 replace hS := hS.trans (hb.mono hS.size)
 replace p1 := p1.below hb
 replace p2 := p2.below hb
 replace p3 := p3.below hb
 replace p4 := p4.below hb
 replace f_2 := f_2.below hb
 replace f_3 := f_3.below hb
 replace hM := hM.below hb
 replace q_x := q_x.below hb
 replace q_y := q_y.below hb
 replace f_4 := f_4.below hb
 replace f_5 := f_5.below hb
 replace f_6 := f_6.below hb
 replace hB := hB.trans (hb.mono hB.size)
 clear hb
 refine hK.out _ _ hS (fun hS => ?_)
 clear hK K
 refine zg (a' := ?_) ?_ ?_
 rotate_left
 ·show Act.put _ (some 33) _ = _
  simp only [Act.put, s2_, s0_, s1_, iw, jw]
  rfl
 have q_d := Nf.pw h0 (fun i hi => hPM i (Nat.le_trans hM0 hi))
 clear h0 hM0
 obtain ⟨A_15, n_15, c_15, rfl⟩ := (Pw.nw q_d).shape
 refine za 5 28 ?_ #[tt,tt,tt,tt,tt,tt,ff,ff,ff,ff] rfl rfl (by kernel_rfl) (fun _ _ _ h => h) (Or.inl ⟨by rfl, ?_⟩) ?_ ?_ ?_
 rotate_left
 ·intro w'
  go_simp
  with_reducible rfl
 rotate_left
 ·simp only [Act.put, s2_, s0_, s1_, iw, jw]
  rfl
 refine za 6 34 ?_ #[tt,tt,tt,tt,tt,tt,tt,ff,ff,ff] rfl rfl (by kernel_rfl) (fun _ _ _ h => h) (Or.inl ⟨by rfl, ?_⟩) ?_ ?_ ?_
 rotate_left
 ·intro w'
  go_simp
  with_reducible rfl
 rotate_left
 ·simp only [Act.put, s2_, s0_, s1_, iw, jw]
  rfl
 refine za 7 35 ?_ #[tt,tt,tt,tt,tt,tt,tt,tt,ff,ff] rfl rfl (by kernel_rfl) (fun _ _ _ h => h) (Or.inl ⟨by rfl, ?_⟩) ?_ ?_ ?_
 rotate_left
 ·intro w'
  go_simp
  with_reducible rfl
 rotate_left
 ·simp only [Act.put, s2_, s0_, s1_, iw, jw]
  rfl
 refine zk3 (i := 8) (N := none) #[tt,tt,tt,tt,tt,tt,tt,tt,tt,ff] rfl rfl (by kernel_rfl) (by decide) (fun K hK => ?_)
 have hs_ := (kC f_6 0).trans rfl
 have hfs_ := kF f_6 0
 refine zw1 (w1 := ?_) (by rfl) rfl ?_ ?_
 rotate_left
 ·go_simp
  rfl
 clear hs_ hfs_
 refine hK.out _ _ ?_
 clear hK K
 replace f_2 := f_2.far n_2_6 (.slice A_15 n_15 c_15)
 replace f_3 := f_3.far n_3_6 (.slice A_15 n_15 c_15)
 replace f_4 := f_4.far n_4_6 (.slice A_15 n_15 c_15)
 replace f_5 := f_5.far n_5_6 (.slice A_15 n_15 c_15)
 replace f_6 := f_6.set (.slice A_15 n_15 c_15)
 replace p1 := p1.put np_6 (.slice A_15 n_15 c_15)
 replace p2 := p2.put np_6 (.slice A_15 n_15 c_15)
 replace p3 := p3.put np_6 (.slice A_15 n_15 c_15)
 replace p4 := p4.put np_6 (.slice A_15 n_15 c_15)
 replace q_x := q_x.put np_6 (.slice A_15 n_15 c_15)
 replace q_y := q_y.put np_6 (.slice A_15 n_15 c_15)
 replace q_d := q_d.put np_6 (.slice A_15 n_15 c_15)
 replace hM := hM.put b_6 (.slice A_15 n_15 c_15)
 replace hB := bS (v := (.slice A_15 n_15 c_15)) (j := 0) hB l_6
 generalize w_14.setCell ⟨b_6, 0, none⟩ (.slice A_15 n_15 c_15) = w_16 at f_2 f_3 f_4 f_5 f_6 p1 p2 p3 p4 q_x q_y q_d hM hB ⊢
 refine za 9 7 ?_ #[tt,tt,tt,tt,tt,tt,tt,tt,tt,tt] rfl rfl (by kernel_rfl) (fun _ _ _ h => h) (Or.inl ⟨by rfl, ?_⟩) ?_ ?_ ?_
 rotate_left
 ·intro w'
  go_simp
  with_reducible rfl
 rotate_left
 ·simp only [Act.put, s2_, s0_, s1_, iw, jw]
  rfl
 refine zh1 (by kernel_rfl) ?_
 clear p1 p2 p3 p4 f_2 f_3
 go_wp2_with fail
 refine zt0 (n := 8) (S := fun w' => w'.cell? ⟨b_4, 0, none⟩ = some (.slice A_4 n_4 c_4) ∧ w'.cell? ⟨b_5, 0, none⟩ = some (.slice A_9 n_9 c_9) ∧ w'.cell? ⟨b_6, 0, none⟩ = some (.slice A_15 n_15 c_15)) (ds := []) #[ff,ff,ff,ff,ff,ff,ff,ff] (by kernel_rfl) rfl rfl ⟨(kC f_4 0).trans rfl, (kC f_5 0).trans rfl, (kC f_6 0).trans rfl⟩ (fun hHeld => ?_)
 have hb : Below w_16.heap.size w_16 w_16.drew := zf0 (Below.refl _ _)
 replace hM := hM.below hb
 replace q_x := q_x.below hb
 replace q_y := q_y.below hb
 replace q_d := q_d.below hb
 replace f_4 := f_4.below hb
 replace f_5 := f_5.below hb
 replace f_6 := f_6.below hb
 replace hB := hB.trans (hb.mono hB.size)
 clear hb
 generalize w_16.drew = w_90 at hM q_x q_y q_d f_4 f_5 f_6 hB hHeld ⊢
 refine z10 0 36 ?_ #[tt,ff,ff,ff,ff,ff,ff,ff] rfl rfl (by kernel_rfl) (fun _ _ _ h => h) (Or.inl ⟨by rfl, ?_⟩) hHeld ?_ ?_ ?_
 rotate_left
 ·rintro w' ⟨s0, s1, s2⟩
  go_simp
  with_reducible rfl
 rotate_left
 ·simp only [Act.put, s2_, s0_, s1_, iw, jw]
  rfl
 refine z10 1 37 ?_ #[tt,tt,ff,ff,ff,ff,ff,ff] rfl rfl (by kernel_rfl) (fun _ _ _ h => h) (Or.inl ⟨by rfl, ?_⟩) hHeld ?_ ?_ ?_
 rotate_left
 ·rintro w' ⟨s0, s1, s2⟩
  go_simp
  with_reducible rfl
 rotate_left
 ·simp only [Act.put, s2_, s0_, s1_, iw, jw]
  rfl
 refine z10 2 38 ?_ #[tt,tt,tt,ff,ff,ff,ff,ff] rfl rfl (by kernel_rfl) (fun _ _ _ h => h) (Or.inl ⟨by rfl, ?_⟩) hHeld ?_ ?_ ?_
 rotate_left
 ·rintro w' ⟨s0, s1, s2⟩
  go_simp
  with_reducible rfl
 rotate_left
 ·simp only [Act.put, s2_, s0_, s1_, iw, jw]
  rfl
 refine za 3 39 ?_ #[tt,tt,tt,tt,ff,ff,ff,ff] rfl rfl (by kernel_rfl) (fun _ _ _ h => h) (Or.inl ⟨by rfl, ?_⟩) ?_ ?_ ?_
 rotate_left
 ·intro w'
  go_simp
  with_reducible rfl
 rotate_left
 ·simp only [Act.put, s2_, s0_, s1_, iw, jw]
  rfl
 refine zh0 (i := 4) (N := none) #[tt,tt,tt,tt,tt,ff,ff,ff] rfl rfl (by kernel_rfl) (by decide) (fun K hK => ?_)
 have hs_ := (kC f_4 0).trans rfl
 have hfs_ := kF f_4 0
 refine zw1 (w1 := ?_) (by rfl) rfl ?_ ?_
 rotate_left
 ·go_simp
  rfl
 clear hs_ hfs_
 replace f_4 := f_4.set (.slice A_4 n_4 c_4)
 replace f_5 := f_5.far n_5_4 (.slice A_4 n_4 c_4)
 replace f_6 := f_6.far n_6_4 (.slice A_4 n_4 c_4)
 replace q_x := q_x.put np_4 (.slice A_4 n_4 c_4)
 replace q_y := q_y.put np_4 (.slice A_4 n_4 c_4)
 replace q_d := q_d.put np_4 (.slice A_4 n_4 c_4)
 replace hB := bS (v := (.slice A_4 n_4 c_4)) (j := 0) hB l_4
 refine hK.out _ _ ⟨(kC f_4 0).trans rfl, (kC f_5 0).trans rfl, (kC f_6 0).trans rfl⟩ (fun hHeld => ?_)
 clear hK K
 generalize w_90.setCell ⟨b_4, 0, none⟩ (.slice A_4 n_4 c_4) = w_94 at f_4 f_5 f_6 q_x q_y q_d hB hHeld ⊢
 refine zh0 (i := 5) (N := none) #[tt,tt,tt,tt,tt,tt,ff,ff] rfl rfl (by kernel_rfl) (by decide) (fun K hK => ?_)
 have hs_ := (kC f_5 0).trans rfl
 have hfs_ := kF f_5 0
 refine zw1 (w1 := ?_) (by rfl) rfl ?_ ?_
 rotate_left
 ·go_simp
  rfl
 clear hs_ hfs_
 replace f_5 := f_5.set (.slice A_9 n_9 c_9)
 replace f_4 := f_4.far n_4_5 (.slice A_9 n_9 c_9)
 replace f_6 := f_6.far n_6_5 (.slice A_9 n_9 c_9)
 replace q_x := q_x.put np_5 (.slice A_9 n_9 c_9)
 replace q_y := q_y.put np_5 (.slice A_9 n_9 c_9)
 replace q_d := q_d.put np_5 (.slice A_9 n_9 c_9)
 replace hB := bS (v := (.slice A_9 n_9 c_9)) (j := 0) hB l_5
 refine hK.out _ _ ⟨(kC f_4 0).trans rfl, (kC f_5 0).trans rfl, (kC f_6 0).trans rfl⟩ (fun hHeld => ?_)
 clear hK K
 generalize w_94.setCell ⟨b_5, 0, none⟩ (.slice A_9 n_9 c_9) = w_95 at f_4 f_5 f_6 q_x q_y q_d hB hHeld ⊢
 refine zh0 (i := 6) (N := none) #[tt,tt,tt,tt,tt,tt,tt,ff] rfl rfl (by kernel_rfl) (by decide) (fun K hK => ?_)
 have hs_ := (kC f_6 0).trans rfl
 have hfs_ := kF f_6 0
 refine zw1 (w1 := ?_) (by rfl) rfl ?_ ?_
 rotate_left
 ·go_simp
  rfl
 clear hs_ hfs_
 replace f_6 := f_6.set (.slice A_15 n_15 c_15)
 replace f_4 := f_4.far n_4_6 (.slice A_15 n_15 c_15)
 replace f_5 := f_5.far n_5_6 (.slice A_15 n_15 c_15)
 replace q_x := q_x.put np_6 (.slice A_15 n_15 c_15)
 replace q_y := q_y.put np_6 (.slice A_15 n_15 c_15)
 replace q_d := q_d.put np_6 (.slice A_15 n_15 c_15)
 replace hB := bS (v := (.slice A_15 n_15 c_15)) (j := 0) hB l_6
 refine hK.out _ _ ⟨(kC f_4 0).trans rfl, (kC f_5 0).trans rfl, (kC f_6 0).trans rfl⟩ (fun hHeld => ?_)
 clear hK K
 generalize w_95.setCell ⟨b_6, 0, none⟩ (.slice A_15 n_15 c_15) = w_96 at f_4 f_5 f_6 q_x q_y q_d hB hHeld ⊢
 refine za 7 7 ?_ #[tt,tt,tt,tt,tt,tt,tt,tt] rfl rfl (by kernel_rfl) (fun _ _ _ h => h) (Or.inl ⟨by rfl, ?_⟩) ?_ ?_ ?_
 rotate_left
 ·intro w'
  go_simp
  with_reducible rfl
 rotate_left
 ·simp only [Act.put, s2_, s0_, s1_, iw, jw]
  rfl
 refine zh1 (by kernel_rfl) ?_
 go_wp2_with fail
 refine bodyPost_ret (zt (rs := [.cell 4 29, .cell 5 29, .cell 6 29, .tmp 7]) rfl (by simp) (.cell b_4 29 #[(.slice A_4 n_4 c_4)] (0, 0) _ rfl f_4 Tryd.underlying29 rfl zh (.cell b_5 29 #[(.slice A_9 n_9 c_9)] (0, 0) _ rfl f_5 Tryd.underlying29 rfl zh (.cell b_6 29 #[(.slice A_15 n_15 c_15)] (0, 0) _ rfl f_6 Tryd.underlying29 rfl zh (.tmp .nil)))) ) rfl ?_
 exact ⟨_, _, _, rfl, q_x.nw, q_y.nw, q_d.nw, hB⟩
theorem qadd_c {w : World} {A1 A2 A3 A4 : Option Addr} {n1 n2 n3 n4 c1 c2 c3 c4 x1 y1 x2 y2 : Nat} (h1 : Nw w (.slice A1 n1 c1) x1) (h2 : Nw w (.slice A2 n2 c2) y1) (h3 : Nw w (.slice A3 n3 c3) x2) (h4 : Nw w (.slice A4 n4 c4) y2)
  (k1 : (wd BW x1).length ≤ 30) (k2 : (wd BW y1).length ≤ 30) (k3 : (wd BW x2).length ≤ 30) (k4 : (wd BW y2).length ≤ 30) (hd1 : 0 < y1) (hd2 : 0 < y2) :
  Calls Tryd.prog 85 #[.agg #[.slice A1 n1 c1, .slice A2 n2 c2, .bool true], .agg #[.slice A3 n3 c3, .slice A4 n4 c4, .bool true]] w fun e w' => ∃ z z', e = .returned (.tuple #[.agg #[z, z', .bool true], .int .i64 0]) ∧ Nw w' z ((x1 * y2 + x2 * y1) / Nat.gcd (x1 * y2 + x2 * y1) (y1 * y2)) ∧ Nw w' z' (y1 * y2 / Nat.gcd (x1 * y2 + x2 * y1) (y1 * y2)) ∧ Below w.heap.size w w' := by
 have hu29 := Tryd.underlying29
 have hu62 := Tryd.underlying62
 go_enter Tryd.func85, Tryd.ntmps85
 have f_p : rb (((w.alloc (.cells #[.slice A1 n1 c1, .slice A2 n2 c2, .bool true] 62)).alloc (.cells #[.slice A3 n3 c3, .slice A4 n4 c4, .bool true] 62)).alloc (.cells #[.slice none 0 0, .slice none 0 0, .bool false] 62)) (w.heap.size) (.slice A1 n1 c1) (.slice A2 n2 c2) true := by have h := (((rb.new w (.slice A1 n1 c1) (.slice A2 n2 c2) true).alloc (.cells #[.slice A3 n3 c3, .slice A4 n4 c4, .bool true] 62)).alloc (.cells #[.slice none 0 0, .slice none 0 0, .bool false] 62)); simpa using h
 have f_q : rb (((w.alloc (.cells #[.slice A1 n1 c1, .slice A2 n2 c2, .bool true] 62)).alloc (.cells #[.slice A3 n3 c3, .slice A4 n4 c4, .bool true] 62)).alloc (.cells #[.slice none 0 0, .slice none 0 0, .bool false] 62)) (w.heap.size + 1) (.slice A3 n3 c3) (.slice A4 n4 c4) true := by have h := ((rb.new (w.alloc (.cells #[.slice A1 n1 c1, .slice A2 n2 c2, .bool true] 62)) (.slice A3 n3 c3) (.slice A4 n4 c4) true).alloc (.cells #[.slice none 0 0, .slice none 0 0, .bool false] 62)); simpa using h
 have f_z : rb (((w.alloc (.cells #[.slice A1 n1 c1, .slice A2 n2 c2, .bool true] 62)).alloc (.cells #[.slice A3 n3 c3, .slice A4 n4 c4, .bool true] 62)).alloc (.cells #[.slice none 0 0, .slice none 0 0, .bool false] 62)) (w.heap.size + 1 + 1) (.slice none 0 0) (.slice none 0 0) false := by have h := (rb.new ((w.alloc (.cells #[.slice A1 n1 c1, .slice A2 n2 c2, .bool true] 62)).alloc (.cells #[.slice A3 n3 c3, .slice A4 n4 c4, .bool true] 62)) (.slice none 0 0) (.slice none 0 0) false); simpa using h
 have hB : Below w.heap.size w (((w.alloc (.cells #[.slice A1 n1 c1, .slice A2 n2 c2, .bool true] 62)).alloc (.cells #[.slice A3 n3 c3, .slice A4 n4 c4, .bool true] 62)).alloc (.cells #[.slice none 0 0, .slice none 0 0, .bool false] 62)) := bA (bA (bA (Below.refl _ _) _) _) _
 go_wp2_with (first | refine Cel.lW rfl 62 _ rfl w.heap.size rfl 62 #[.slice A1 n1 c1, .slice A2 n2 c2, .bool true] (0, 0) _ f_p hu62 rfl za1 ?_ | refine Cel.lW rfl 62 _ rfl (w.heap.size + 1) rfl 62 #[.slice A3 n3 c3, .slice A4 n4 c4, .bool true] (0, 0) _ f_q hu62 rfl za1 ?_)
 replace h1 := h1.below hB
 replace h2 := h2.below hB
 replace h3 := h3.below hB
 replace h4 := h4.below hB
 generalize (((w.alloc (.cells #[.slice A1 n1 c1, .slice A2 n2 c2, .bool true] 62)).alloc (.cells #[.slice A3 n3 c3, .slice A4 n4 c4, .bool true] 62)).alloc (.cells #[.slice none 0 0, .slice none 0 0, .bool false] 62)) = w_1 at f_p f_q f_z hB h1 h2 h3 h4 ⊢
 have l_z : w.heap.size ≤ w.heap.size + 1 + 1 := by omega
 clear f_p f_q
 generalize w.heap.size + 1 + 1 = b_z at f_z l_z ⊢
 refine (cross_c h1 h2 h3 h4 k1 k2 k3 k4).mono ?_
 rintro e w_2 ⟨z_1, z_2, z_3, rfl, q1, q2, q3, hb⟩
 replace f_z := f_z.below hb
 replace hB := hB.trans (hb.mono hB.size)
 clear hb
 obtain ⟨A_3, n_3, c_3, rfl⟩ := q1.shape
 obtain ⟨A_4, n_4, c_4, rfl⟩ := q2.shape
 obtain ⟨A_5, n_5, c_5, rfl⟩ := q3.shape
 have g_1 : bx (((w_2.alloc (.cells #[(.slice A_3 n_3 c_3)] 29)).alloc (.cells #[(.slice A_4 n_4 c_4)] 29)).alloc (.cells #[(.slice A_5 n_5 c_5)] 29)) w_2.heap.size (.slice A_3 n_3 c_3) := ((bx.new w_2 (.slice A_3 n_3 c_3)).alloc (.cells #[(.slice A_4 n_4 c_4)] 29)).alloc (.cells #[(.slice A_5 n_5 c_5)] 29)
 have g_2 : bx (((w_2.alloc (.cells #[(.slice A_3 n_3 c_3)] 29)).alloc (.cells #[(.slice A_4 n_4 c_4)] 29)).alloc (.cells #[(.slice A_5 n_5 c_5)] 29)) (w_2.heap.size + 1) (.slice A_4 n_4 c_4) := by have h := (bx.new (w_2.alloc (.cells #[(.slice A_3 n_3 c_3)] 29)) (.slice A_4 n_4 c_4)).alloc (.cells #[(.slice A_5 n_5 c_5)] 29); simpa using h
 have g_3 : bx (((w_2.alloc (.cells #[(.slice A_3 n_3 c_3)] 29)).alloc (.cells #[(.slice A_4 n_4 c_4)] 29)).alloc (.cells #[(.slice A_5 n_5 c_5)] 29)) (w_2.heap.size + 1 + 1) (.slice A_5 n_5 c_5) := by have h := bx.new ((w_2.alloc (.cells #[(.slice A_3 n_3 c_3)] 29)).alloc (.cells #[(.slice A_4 n_4 c_4)] 29)) (.slice A_5 n_5 c_5); simpa using h
 have hA : Below w_2.heap.size w_2 (((w_2.alloc (.cells #[(.slice A_3 n_3 c_3)] 29)).alloc (.cells #[(.slice A_4 n_4 c_4)] 29)).alloc (.cells #[(.slice A_5 n_5 c_5)] 29)) := bA (bA (bA (Below.refl _ _) _) _) _
 go_wp2_with (first | refine Cel.lW rfl 29 _ rfl w_2.heap.size rfl 29 #[(.slice A_3 n_3 c_3)] (0, 0) _ g_1 hu29 rfl zh ?_ | refine Cel.lW rfl 29 _ rfl (w_2.heap.size + 1) rfl 29 #[(.slice A_4 n_4 c_4)] (0, 0) _ g_2 hu29 rfl zh ?_)
 replace f_z := f_z.below hA
 replace q1 := q1.below hA
 replace q2 := q2.below hA
 replace q3 := q3.below hA
 replace hB := hB.trans (hA.mono hB.size)
 clear hA g_1 g_2
 generalize (((w_2.alloc (.cells #[(.slice A_3 n_3 c_3)] 29)).alloc (.cells #[(.slice A_4 n_4 c_4)] 29)).alloc (.cells #[(.slice A_5 n_5 c_5)] 29)) = w_50 at g_3 f_z q1 q2 q3 hB ⊢
 generalize w_2.heap.size + 1 + 1 = b_3 at g_3 ⊢
 have lx := len_mul (i := 30) (j := 30) k1 k4
 have ly := len_mul (i := 30) (j := 30) k3 k2
 have ld := len_mul (i := 30) (j := 30) k2 k4
 have ls := len_add (k := 60) lx ly
 have hdp := Nat.mul_pos hd1 hd2
 refine (addk_c q1 q2 60 lx ly (by decide)).mono ?_
 rintro e w_51 ⟨z_s, rfl, hs, hb⟩
 replace f_z := f_z.below hb
 replace q3 := q3.below hb
 replace g_3 := g_3.below hb
 replace hB := hB.trans (hb.mono hB.size)
 clear hb
 obtain ⟨A_52, n_52, c_52, rfl⟩ := hs.shape
 go_wp2_with (first | refine Cel.lW rfl 29 _ rfl w_51.heap.size rfl 29 #[(.slice A_52 n_52 c_52)] (0, 0) _ (bx.new w_51 _) hu29 rfl zh ?_ | refine Cel.lW rfl 29 _ rfl b_3 rfl 29 #[(.slice A_5 n_5 c_5)] (0, 0) _ (g_3.alloc _) hu29 rfl zh ?_)
 have f_s := bx.new w_51 (.slice A_52 n_52 c_52)
 have hA_ := bA (Below.refl w_51.heap.size w_51) (.cells #[(.slice A_52 n_52 c_52)] 29)
 replace f_z := f_z.below hA_
 replace q3 := q3.below hA_
 replace hs := hs.below hA_
 replace g_3 := g_3.below hA_
 replace hB := hB.trans (hA_.mono hB.size)
 clear hA_
 generalize w_51.alloc (.cells #[(.slice A_52 n_52 c_52)] 29) = w_53 at f_s f_z q3 hs g_3 hB ⊢
 generalize w_51.heap.size = b_s at f_s ⊢
 have lz := f_z.lt
 have hw := hB.size
 refine (newk_c hs q3 (by omega) (by omega) hdp).mono ?_
 rintro e w_54 ⟨z, z', rfl, hz, hz', hb⟩
 replace f_z := f_z.below hb
 replace q3 := q3.below hb
 replace hs := hs.below hb
 replace g_3 := g_3.below hb
 replace f_s := f_s.below hb
 replace hB := hB.trans (hb.mono hB.size)
 clear hb
 obtain ⟨A_55, n_55, c_55, rfl⟩ := (Kf.kw hz).shape
 obtain ⟨A_56, n_56, c_56, rfl⟩ := (Kf.kw hz').shape
 have hi2 : (Tryd.prog.info? 62).map (·.size) = some (#[(.slice A_55 n_55 c_55), (.slice A_56 n_56 c_56), .bool true] : Array Value).size := za1
 have ho2 : (#[(.slice A_55 n_55 c_55), (.slice A_56 n_56 c_56), .bool true] : Array Value).all (·.oneCell') = true := by kernel_rfl
 go_wp2_with (first | refine wpList_store_row rfl 62 _ _ rfl b_z #[(.slice A_55 n_55 c_55), (.slice A_56 n_56 c_56), .bool true] rfl rfl 62 _ f_z hi2 rfl ho2 ?_)
 refine bodyPost_ret (zt (rs := [.cell 4 62, .tmp 5]) rfl (by simp) (.cell b_z 62 #[(.slice A_55 n_55 c_55), (.slice A_56 n_56 c_56), .bool true] (0, 0) _ rfl (f_z.put _) Tryd.underlying62 rfl za1 (.tmp .nil))) rfl ?_
 exact ⟨_, _, rfl, Kf.kw (Kw.setRow hz lz _), Kf.kw (Kw.setRow hz' lz _), below_setRow hB l_z _⟩
theorem shlgreat_c {w : World} {u : Value} {x : Nat} (h1 : Nw w u x) (hx : (wd BW x).length ≤ 64) (hx0 : ¬ x = 0) (n : Nat) (hn : n ≤ 9223372036854775807) (hg : 4096 < nb x + n) :
  Calls Tryd.prog 28 #[.agg #[u], .int .i64 (n : Int)] w fun e w' => e = .returned (.tuple #[.agg #[.slice none 0 0], .int .i64 1]) ∧ Below w.heap.size w w' := by
 obtain ⟨A1, c1, rfl, hc1, hC1⟩ := h1
 have h1 : Nw w (.slice A1 (wd BW x).length c1) x := ⟨A1, c1, rfl, hc1, hC1⟩
 have hxl : (wd BW x).length ≤ 1000000 := by omega
 generalize (wd BW x).length = n1 at h1 ⊢
 have hd : decide ((n : Int) < 0) = false := decide_eq_false (by omega)
 have hnb := (zk2 x).1 hx
 have hu29 := Tryd.underlying29
 have hB : Below w.heap.size w ((w.alloc (Obj.cells #[.slice A1 n1 c1] 29)).alloc (Obj.cells #[Value.slice none 0 0] 29)) := bA (bA (Below.refl _ _) _) _
 go_enter Tryd.func28, Tryd.ntmps28
 go_wp2_with fail
 have f0 : bx ((w.alloc (Obj.cells #[Value.slice A1 n1 c1] 29)).alloc (Obj.cells #[Value.slice none 0 0] 29)) w.heap.size (.slice A1 n1 c1) := (bx.new w (.slice A1 n1 c1)).alloc _
 have f1 : bx ((w.alloc (Obj.cells #[Value.slice A1 n1 c1] 29)).alloc (Obj.cells #[Value.slice none 0 0] 29)) (w.heap.size + 1) (.slice none 0 0) := by have := bx.new (w.alloc (Obj.cells #[Value.slice A1 n1 c1] 29)) (.slice none 0 0); simpa using this
 generalize (w.alloc (Obj.cells #[Value.slice A1 n1 c1] 29)).alloc (Obj.cells #[Value.slice none 0 0] 29) = W at f0 f1 hB ⊢
 have l1 : w.heap.size ≤ w.heap.size + 1 := by omega
 have n01 : w.heap.size ≠ w.heap.size + 1 := by omega
 generalize w.heap.size + 1 = b1 at f1 l1 n01 ⊢
 have Z := zy1 (h1.below hB)
 rw [decf hx0] at Z
 refine Z.mono ?_
 rintro e w1 ⟨rfl, hb⟩
 replace f0 := f0.below hb
 replace f1 := f1.below hb
 replace hB := hB.trans (hb.mono hB.size)
 clear hb Z
 have hs1 : w1.cell? ⟨b1, 0, none⟩ = some (.slice none 0 0) := (kC f1 0).trans rfl
 have hfs1 := kF f1 0
 by_cases hn4 : 4096 < n
 ·have hd2 : decide ((n : Int) > 4096) = true := decide_eq_true (by omega)
  have hd3 : decide (4096 < (n : Int)) = true := decide_eq_true (by omega)
  go_wp2_with fail
  refine bodyPost_ret (zt (rs := [.cell 4 29, .tmp 5]) rfl (by simp) (.cell b1 29 #[.slice none 0 0] (0, 0) _ rfl (zc0 (cs := #[.slice none 0 0]) (cs' := #[.slice none 0 0]) f1 0 (.slice none 0 0) rfl) Tryd.underlying29 rfl zh (.tmp .nil))) rfl ?_
  exact ⟨rfl, bS hB l1⟩
 ·have hd2 : decide ((n : Int) > 4096) = false := decide_eq_false (by omega)
  have hd3 : decide (4096 < (n : Int)) = false := decide_eq_false (by omega)
  go_wp2_with (first | refine Cel.lW rfl 29 _ rfl w.heap.size rfl 29 #[.slice A1 n1 c1] (0, 0) _ f0 hu29 rfl zh ?_)
  refine (bits_c (h1.below hB) hxl).mono ?_
  rintro e w2 ⟨rfl, hb⟩
  replace f1 := f1.below hb
  replace hB := hB.trans (hb.mono hB.size)
  clear hb hs1 hfs1
  have hs1 : w2.cell? ⟨b1, 0, none⟩ = some (.slice none 0 0) := (kC f1 0).trans rfl
  have hfs1 := kF f1 0
  have hsum : IntKind.i64.wrap ((nb x : Int) + (n : Int)) = ((nb x + n : Nat) : Int) := by rw [IntKind.wrap_i64]; omega
  have hd4 : decide (4096 < ((nb x + n : Nat) : Int)) = true := decide_eq_true (by omega)
  have hd5 : decide (((nb x + n : Nat) : Int) > 4096) = true := decide_eq_true (by omega)
  have hd6 : decide (4096 < ((nb x : Int) + (n : Int))) = true := decide_eq_true (by omega)
  go_wp2_with fail
  refine bodyPost_ret (zt (rs := [.cell 4 29, .tmp 5]) rfl (by simp) (.cell b1 29 #[.slice none 0 0] (0, 0) _ rfl (zc0 (cs := #[.slice none 0 0]) (cs' := #[.slice none 0 0]) f1 0 (.slice none 0 0) rfl) Tryd.underlying29 rfl zh (.tmp .nil))) rfl ?_
  exact ⟨rfl, bS hB l1⟩
theorem shlzero_c {w : World} {u : Value} (h1 : Nw w u 0) (n : Nat) (hn : n ≤ 9223372036854775807) :
  Calls Tryd.prog 28 #[.agg #[u], .int .i64 (n : Int)] w fun e w' => e = .returned (.tuple #[.agg #[u], .int .i64 0]) ∧ Below w.heap.size w w' := by
 obtain ⟨A1, c1, rfl, hc1, hC1⟩ := h1
 have h1 : Nw w (.slice A1 (wd BW 0).length c1) 0 := ⟨A1, c1, rfl, hc1, hC1⟩
 generalize (wd BW 0).length = n1 at h1 ⊢
 have hd : decide ((n : Int) < 0) = false := decide_eq_false (by omega)
 have hu29 := Tryd.underlying29
 have hB : Below w.heap.size w ((w.alloc (Obj.cells #[.slice A1 n1 c1] 29)).alloc (Obj.cells #[Value.slice none 0 0] 29)) := bA (bA (Below.refl _ _) _) _
 go_enter Tryd.func28, Tryd.ntmps28
 go_wp2_with fail
 have f0 : bx ((w.alloc (Obj.cells #[Value.slice A1 n1 c1] 29)).alloc (Obj.cells #[Value.slice none 0 0] 29)) w.heap.size (.slice A1 n1 c1) := (bx.new w (.slice A1 n1 c1)).alloc _
 have f1 : bx ((w.alloc (Obj.cells #[Value.slice A1 n1 c1] 29)).alloc (Obj.cells #[Value.slice none 0 0] 29)) (w.heap.size + 1) (.slice none 0 0) := by have := bx.new (w.alloc (Obj.cells #[Value.slice A1 n1 c1] 29)) (.slice none 0 0); simpa using this
 generalize (w.alloc (Obj.cells #[Value.slice A1 n1 c1] 29)).alloc (Obj.cells #[Value.slice none 0 0] 29) = W at f0 f1 hB ⊢
 have l1 : w.heap.size ≤ w.heap.size + 1 := by omega
 have n01 : w.heap.size ≠ w.heap.size + 1 := by omega
 generalize w.heap.size + 1 = b1 at f1 l1 n01 ⊢
 have Z := zy1 (h1.below hB)
 rw [decide_eq_true (rfl : 0 = 0)] at Z
 refine Z.mono ?_
 rintro e w1 ⟨rfl, hb⟩
 replace f0 := f0.below hb
 replace f1 := f1.below hb
 replace hB := hB.trans (hb.mono hB.size)
 clear hb Z
 have hs0 : w1.cell? ⟨w.heap.size, 0, none⟩ = some (.slice A1 n1 c1) := (kC f0 0).trans rfl
 have hs1 : w1.cell? ⟨b1, 0, none⟩ = some (.slice none 0 0) := (kC f1 0).trans rfl
 have hfs1 := kF f1 0
 go_wp2_with (first | refine Cel.lW rfl 29 _ rfl w.heap.size rfl 29 #[.slice A1 n1 c1] (0, 0) _ f0 hu29 rfl zh ?_)
 refine bodyPost_ret (zt (rs := [.cell 4 29, .tmp 5]) rfl (by simp) (.cell b1 29 #[.slice A1 n1 c1] (0, 0) _ rfl (zc0 (cs := #[.slice none 0 0]) (cs' := #[.slice A1 n1 c1]) f1 0 (.slice A1 n1 c1) rfl) Tryd.underlying29 rfl zh (.tmp .nil))) rfl ?_
 exact ⟨rfl, bS hB l1⟩
theorem V_shl (x n q p : Nat) (r : List Int) (hq : n / 64 = q) (hp : n % 64 = p) (hrV : V BW r = ((x * 2 ^ p : Nat) : Int)) : V BW (List.replicate q 0 ++ r) = ((x * 2 ^ n : Nat) : Int) := by
 rw [zl2, V_zeros, List.length_replicate, hrV, Int.zero_add]
 have e : BW ^ q * (x * 2 ^ p) = x * 2 ^ n := by
  rw [pow64, Nat.mul_left_comm, ← Nat.pow_add]
  congr 2; omega
 rw [← e, Int.natCast_mul (BW ^ q) (x * 2 ^ p), Int.natCast_pow BW q]
theorem shlmain_c {w : World} {u : Value} {x : Nat} (h1 : Nw w u x) (hx : (wd BW x).length ≤ 64) (hx0 : ¬ x = 0) (n : Nat) (hg : nb x + n ≤ 4096) :
  Calls Tryd.prog 28 #[.agg #[u], .int .i64 (n : Int)] w fun e w' => ∃ z, e = .returned (.tuple #[.agg #[z], .int .i64 0]) ∧ Nf w.heap.size w' z (x * 2 ^ n) ∧ Below w.heap.size w w' := by
 obtain ⟨A1, c1, rfl, hc1, hC1⟩ := h1
 have h1 : Nw w (.slice A1 (wd BW x).length c1) x := ⟨A1, c1, rfl, hc1, hC1⟩
 have hxl : (wd BW x).length ≤ 1000000 := by omega
 generalize (wd BW x).length = n1 at h1 ⊢
 have hd : decide ((n : Int) < 0) = false := decide_eq_false (by omega)
 have hnb := (zk2 x).1 hx
 have hu29 := Tryd.underlying29
 have hB : Below w.heap.size w ((w.alloc (Obj.cells #[.slice A1 n1 c1] 29)).alloc (Obj.cells #[Value.slice none 0 0] 29)) := bA (bA (Below.refl _ _) _) _
 go_enter Tryd.func28, Tryd.ntmps28
 go_wp2_with fail
 have f0 : bx ((w.alloc (Obj.cells #[Value.slice A1 n1 c1] 29)).alloc (Obj.cells #[Value.slice none 0 0] 29)) w.heap.size (.slice A1 n1 c1) := (bx.new w (.slice A1 n1 c1)).alloc _
 have f1 : bx ((w.alloc (Obj.cells #[Value.slice A1 n1 c1] 29)).alloc (Obj.cells #[Value.slice none 0 0] 29)) (w.heap.size + 1) (.slice none 0 0) := by have := bx.new (w.alloc (Obj.cells #[Value.slice A1 n1 c1] 29)) (.slice none 0 0); simpa using this
 generalize (w.alloc (Obj.cells #[Value.slice A1 n1 c1] 29)).alloc (Obj.cells #[Value.slice none 0 0] 29) = W at f0 f1 hB ⊢
 have l1 : w.heap.size ≤ w.heap.size + 1 := by omega
 have n01 : w.heap.size ≠ w.heap.size + 1 := by omega
 generalize w.heap.size + 1 = b1 at f1 l1 n01 ⊢
 have Z := zy1 (h1.below hB)
 rw [decf hx0] at Z
 refine Z.mono ?_
 rintro e w1 ⟨rfl, hb⟩
 replace f0 := f0.below hb
 replace f1 := f1.below hb
 replace hB := hB.trans (hb.mono hB.size)
 clear hb Z
 have hd2 : decide ((n : Int) > 4096) = false := decide_eq_false (by omega)
 have hd3 : decide (4096 < (n : Int)) = false := decide_eq_false (by omega)
 go_wp2_with (first | refine Cel.lW rfl 29 _ rfl w.heap.size rfl 29 #[.slice A1 n1 c1] (0, 0) _ f0 hu29 rfl zh ?_)
 refine (bits_c (h1.below hB) hxl).mono ?_
 rintro e w2 ⟨rfl, hb⟩
 replace f0 := f0.below hb
 replace f1 := f1.below hb
 replace hB := hB.trans (hb.mono hB.size)
 clear hb
 have hsum : IntKind.i64.wrap ((nb x : Int) + (n : Int)) = ((nb x + n : Nat) : Int) := by rw [IntKind.wrap_i64]; omega
 have hd4 : decide (4096 < ((nb x + n : Nat) : Int)) = false := decide_eq_false (by omega)
 have hd5 : decide (((nb x + n : Nat) : Int) > 4096) = false := decide_eq_false (by omega)
 have hd6 : decide (4096 < ((nb x : Int) + (n : Int))) = false := decide_eq_false (by omega)
 go_wp2_with fail
 have k0 : w2.cell? ⟨w.heap.size, 0, none⟩ = some (.slice A1 n1 c1) := (kC f0 0).trans rfl
 refine zt0 (n := 11) (S := fun w' => w'.cell? ⟨w.heap.size, 0, none⟩ = some (.slice A1 n1 c1)) (ds := []) #[ff,ff,ff,ff,ff,ff,ff,ff,ff,ff,ff] (by kernel_rfl) rfl rfl k0 (fun hHeld => ?_)
 replace f1 := f1.drew
 replace f0 := f0.drew
 replace hB := hB.drew
 clear k0
 generalize w2.drew = w3 at f1 f0 hB hHeld ⊢
 clear hsum hd2 hd3 hd4 hd5 hd6 hd
 obtain ⟨q, hq⟩ : ∃ q, n / 64 = q := ⟨_, rfl⟩
 obtain ⟨p, hp⟩ : ∃ p, n % 64 = p := ⟨_, rfl⟩
 have hpl : p < 64 := by omega
 have hX6 : (wd BW x).length ≤ 1000000 := by omega
 have hql : q ≤ 64 := by omega
 have hq35 : q ≤ 35184372088832 := by omega
 have eq64 : wrap64 ((n : Int) / 64) = (q : Int) := by rw [w64 (by omega) (by omega)]; omega
 have er65 : IntKind.u64.wrap (Int.tmod (n : Int) 64) = (p : Int) := by
  have a1 : (0 : Int) ≤ (n : Int) % 64 := by omega
  have a2 : (n : Int) % 64 < 18446744073709551616 := by omega
  have a3 : (n : Int) % 64 = (p : Int) := by omega
  rw [z92 (by omega), u64w a1 a2, a3]
 refine za 0 26 ?_ #[tt,ff,ff,ff,ff,ff,ff,ff,ff,ff,ff] rfl rfl (by kernel_rfl) (fun _ _ _ h => h) (Or.inl ⟨by rfl, ?_⟩) ?_ ?_ ?_
 rotate_left
 ·intro w'
  go_simp
  with_reducible rfl
 rotate_left
 ·simp only [Act.put, s2_, s0_, s1_, iw, jw]
  rfl
 refine za 1 27 ?_ #[tt,tt,ff,ff,ff,ff,ff,ff,ff,ff,ff] rfl rfl (by kernel_rfl) (fun _ _ _ h => h) (Or.inl ⟨by rfl, ?_⟩) ?_ ?_ ?_
 rotate_left
 ·intro w'
  go_simp
  with_reducible rfl
 rotate_left
 ·simp only [Act.put, s2_, s0_, s1_, iw, jw]
  rfl
 refine za 3 29 ?_ #[tt,tt,ff,tt,ff,ff,ff,ff,ff,ff,ff] rfl rfl (by kernel_rfl) (fun _ _ _ h => h) (Or.inl ⟨by rfl, ?_⟩) ?_ ?_ ?_
 rotate_left
 ·intro w'
  go_simp
  with_reducible rfl
 rotate_left
 ·simp only [Act.put, s2_, s0_, s1_, iw, jw]
  rfl
 refine za 5 31 ?_ #[tt,tt,ff,tt,ff,tt,ff,ff,ff,ff,ff] rfl rfl (by kernel_rfl) (fun _ _ _ h => h) (Or.inl ⟨by rfl, ?_⟩) ?_ ?_ ?_
 rotate_left
 ·intro w'
  go_simp
  with_reducible rfl
 rotate_left
 ·simp only [Act.put, s2_, s0_, s1_, iw, jw]
  rfl
 refine za 6 32 ?_ #[tt,tt,ff,tt,ff,tt,tt,ff,ff,ff,ff] rfl rfl (by kernel_rfl) (fun _ _ _ h => h) (Or.inl ⟨by rfl, ?_⟩) ?_ ?_ ?_
 rotate_left
 ·intro w'
  go_simp
  with_reducible rfl
 rotate_left
 ·simp only [Act.put, s2_, s0_, s1_, iw, jw]
  rfl
 refine za 7 33 ?_ #[tt,tt,ff,tt,ff,tt,tt,tt,ff,ff,ff] rfl rfl (by kernel_rfl) (fun _ _ _ h => h) (Or.inl ⟨by rfl, ?_⟩) ?_ ?_ ?_
 rotate_left
 ·intro w'
  go_simp
  with_reducible rfl
 rotate_left
 ·simp only [Act.put, s2_, s0_, s1_, iw, jw]
  rfl
 refine z10 4 30 ?_ #[tt,tt,ff,tt,tt,tt,tt,tt,ff,ff,ff] rfl rfl (by kernel_rfl) (fun _ _ _ h => h) (Or.inl ⟨by rfl, ?_⟩) hHeld ?_ ?_ ?_
 rotate_left
 ·rintro w' s0
  go_simp
  with_reducible rfl
 rotate_left
 ·simp only [Act.put, s2_, s0_, s1_, iw, jw]
  rfl
 have hB3 : Below w3.heap.size w3 w3 := Below.refl _ _
 have E64 := Q0.mk eq64
 have E0 : 0 ≤ wrap64 ((n : Int) / 64) := by rw [eq64]; exact Int.natCast_nonneg q
 have E1 := Q0.mk E0
 clear eq64 er65 E0
 refine join_ (σ := Value × Value) 2 #[tt,tt,tt,tt,tt,tt,tt,tt,tt,ff,ff] (fun s_ => [(28, s_.1), (34, s_.2)]) (fun s_ w' => (w'.cell? ⟨w.heap.size, 0, none⟩ = some (.slice A1 n1 c1)) ∧ Kd.R (Kd.int .u64) 40 w' w3.heap.size (fun _ => True) s_.1 (List.replicate q 0) ∧ (∃ r, Kw .u64 w' s_.2 r ∧ R BW r ∧ V BW r = ((x * 2 ^ p : Nat) : Int) ∧ r.length ≤ 65) ∧ Below w3.heap.size w3 w') ?_ ?_
 rotate_left
 ·intro hCont
  refine two_ (i := 2) (j := 8) (Ni := some 28) (Nj := some 34) #[tt,tt,tt,tt,tt,tt,tt,tt,ff,ff,ff] #[tt,tt,ff,tt,tt,tt,tt,tt,tt,ff,ff] rfl rfl rfl rfl (by kernel_rfl) (by decide) (by decide) (fun K hK => ?_) (fun K hK => ?_)
  ·have WB : Below w3.heap.size w3 w3 := Below.refl _ _
   refine Kd.R_make_step (Kd.int .u64) (w0 := w3) w3.heap.size 40 (by rfl) (N := 28) rfl 22 _ _ rfl (wrap64 ((n : Int) / 64)) rfl rfl Tryd.underlying22 (.int .u64 0) 8 zg2 rfl (by decide) (by omega) 0 (ok := fun _ => True) (okp := fun _ => True) rfl (fun _ hk => hk) trivial (E1.out) (by rw [E64.out, Int.toNat_natCast]; omega) WB WB.size ?_
   intro v28 w5 ho hb hg_ hnew_
   rw [E64.out, Int.toNat_natCast] at ho
   refine hK.out _ _ ((kC (f0.below (hb)) 0).trans rfl) (fun hHeld => ?_)
   refine zg (a' := ?_) ?_ ?_
   rotate_left
   ·show Act.put _ (some 28) _ = _
    simp only [Act.put, s2_, s0_, s1_, iw, jw]
    rfl
   refine zh0 (i := 8) (N := some 34) #[tt,tt,tt,tt,tt,tt,tt,tt,tt,ff,ff] rfl rfl (by kernel_rfl) (by decide) (fun K hK => ?_)
   refine z00 Tryd.func76 (by kernel_rfl) rfl #[.slice A1 n1 c1, .int .u64 (p : Int)] (by rfl) rfl rfl (by (try simp only [List.map_toArray, List.map_cons, List.map_nil]); first | done | rfl) ?_
   refine (shifted_c (h1.below (hB.trans (hb.mono hB.size))) p hpl (zd2 (by decide) x) hX6).mono ?_
   rintro e w6 ⟨z, r, rfl, hz, hrR, hrV, hrl, hb6⟩
   refine ⟨_, rfl, ?_⟩
   have hb36 := hb.trans (hb6.mono hb.size)
   refine hK.out _ _ ((kC (f0.below hb36) 0).trans rfl) (fun hHeld => ?_)
   refine zg (a' := ?_) ?_ ?_
   rotate_left
   ·show Act.put _ (some 34) _ = _
    simp only [Act.put, s2_, s0_, s1_, iw, jw]
    rfl
   exact zg (by simp only [zq1, Act.put, s2_, s0_, s1_]) (hCont (v28, z) _ ⟨hHeld, Kd.zy ho hb6, ⟨r, Kf.kw hz, hrR, by rw [hrV, zn2 (by decide), Int.natCast_mul], by omega⟩, hb36⟩)
  ·refine z00 Tryd.func76 (by kernel_rfl) rfl #[.slice A1 n1 c1, .int .u64 (p : Int)] (by rfl) rfl rfl (by (try simp only [List.map_toArray, List.map_cons, List.map_nil]); first | done | rfl) ?_
   refine (shifted_c (h1.below hB) p hpl (zd2 (by decide) x) hX6).mono ?_
   rintro e w6 ⟨z, r, rfl, hz, hrR, hrV, hrl, hb6⟩
   refine ⟨_, rfl, ?_⟩
   refine hK.out _ _ ((kC (f0.below hb6) 0).trans rfl) (fun hHeld => ?_)
   refine zg (a' := ?_) ?_ ?_
   rotate_left
   ·show Act.put _ (some 34) _ = _
    simp only [Act.put, s2_, s0_, s1_, iw, jw]
    rfl
   refine zh0 (i := 2) (N := some 28) #[tt,tt,tt,tt,tt,tt,tt,tt,tt,ff,ff] rfl rfl (by kernel_rfl) (by decide) (fun K hK => ?_)
   refine Kd.R_make_step (Kd.int .u64) (w0 := w3) w3.heap.size 40 (by rfl) (N := 28) rfl 22 _ _ rfl (wrap64 ((n : Int) / 64)) rfl rfl Tryd.underlying22 (.int .u64 0) 8 zg2 rfl (by decide) (by omega) 0 (ok := fun _ => True) (okp := fun _ => True) rfl (fun _ hk => hk) trivial (E1.out) (by rw [E64.out, Int.toNat_natCast]; omega) hb6 hb6.size ?_
   intro v28 w5 ho hb hg_ hnew_
   rw [E64.out, Int.toNat_natCast] at ho
   have hb65 : Below w6.heap.size w6 w5 := (Below.refl _ w6).grown hg_ (Nat.le_refl _) (fun j hj => by cases hj)
   refine hK.out _ _ ((kC (f0.below hb) 0).trans rfl) (fun hHeld => ?_)
   refine zg (a' := ?_) ?_ ?_
   rotate_left
   ·show Act.put _ (some 28) _ = _
    simp only [Act.put, s2_, s0_, s1_, iw, jw]
    rfl
   exact zg (by simp only [zq1, Act.put, s2_, s0_, s1_]) (hCont (v28, z) _ ⟨hHeld, ho, ⟨r, (Kf.kw hz).below hb65, hrR, by rw [hrV, zn2 (by decide), Int.natCast_mul], by omega⟩, hb⟩)
 ·rintro ⟨v28, z⟩ w4 ⟨hHeld, ho, ⟨r, hz, hrR, hrV, hrl⟩, hb⟩
  refine zg (a' := ?_) ?_ ?_
  rotate_left
  ·simp only [zq1, Act.put, s2_, s0_, s1_]
   rfl
  have hw3 := hB.size
  have hb13 := f1.lt
  obtain ⟨Az, cz, rfl, hcz, hCz⟩ := hz
  refine zh0 (i := 9) (N := some 35) #[tt,tt,tt,tt,tt,tt,tt,tt,tt,tt,ff] rfl rfl (by kernel_rfl) (by decide) (fun K hK => ?_)
  refine Kd.R_append_rows_step (Kd.int .u64) (w0 := w3) w3.heap.size (by rfl) (.tmp 28) (.tmp 34) 22 40 (.int .u64 0) 8 rfl Tryd.underlying22 zg2 rfl (by decide) (by omega) v28 (List.replicate q 0) r Az r.length cz (fun _ => True) (fun _ => False) rfl rfl ?aO ?aR (fun _ _ h => h) (fun _ h => h.elim) ?aF ?aB ?aS ?aL ?_
  case aO => exact ho
  case aR => exact hCz
  case aF => exact fun _ _ => trivial
  case aB => exact hb
  case aS => exact hb.size
  case aL => rw [List.length_replicate]; omega
  intro v35 w7 ho7 hb7 hg7 hat7
  refine hK.out _ _ ((kC (f0.below hb7) 0).trans rfl) (fun hHeld => ?_)
  clear hK K
  refine zg (a' := ?_) ?_ ?_
  rotate_left
  ·show Act.put _ (some 35) _ = _
   simp only [Act.put, s2_, s0_, s1_, iw, jw]
   rfl
  refine za 10 6 ?_ #[tt,tt,tt,tt,tt,tt,tt,tt,tt,tt,tt] rfl rfl (by kernel_rfl) (fun _ _ _ h => h) (Or.inl ⟨by rfl, ?_⟩) ?_ ?_ ?_
  rotate_left
  ·intro w'
   go_simp
   with_reducible rfl
  rotate_left
  ·simp only [Act.put, s2_, s0_, s1_, iw, jw]
   rfl
  refine zh1 (by kernel_rfl) ?_
  have hK7 : Kf .u64 w3.heap.size w7 v35 (List.replicate q 0 ++ r) := Kf.ofR ho7
  have hR7 : R BW (List.replicate q 0 ++ r) := zz.2 ⟨zd4 (by decide) q, hrR⟩
  have hV7 : V BW (List.replicate q 0 ++ r) = ((x * 2 ^ n : Nat) : Int) := V_shl x n q p r hq hp hrV
  replace f1 := f1.below hb7
  replace hB := hB.trans (hb7.mono hB.size)
  clear f0 hHeld hat7 hg7 hcz hCz ho hb
  obtain ⟨A7, c7, rfl⟩ := Kd.zo hK7
  obtain ⟨n7, en7⟩ : ∃ n, (List.replicate q 0 ++ r).length = n := ⟨_, rfl⟩
  rw [en7] at hK7 ⊢
  go_wp2_with fail
  refine (norm_c (n := x * 2 ^ n) hb7.size (show Kf .u64 w3.heap.size w7 _ _ from hK7) hR7 hV7 (by rw [List.length_append, List.length_replicate]; omega)).mono ?_
  rintro e w8 ⟨z8, rfl, hz8, hb8⟩
  replace f1 := f1.below hb8
  replace hB := hB.trans (hb8.mono hB.size)
  obtain ⟨A8, c8, rfl⟩ := Kd.zo hz8
  obtain ⟨n8, en8⟩ : ∃ k, (wd BW (x * 2 ^ n)).length = k := ⟨_, rfl⟩
  rw [en8] at hz8 ⊢
  clear hK7 hR7 hV7 en7
  have hs1 : w8.cell? ⟨b1, 0, none⟩ = some (.slice none 0 0) := (kC f1 0).trans rfl
  have hfs1 := kF f1 0
  go_wp2_with fail
  refine bodyPost_ret (zt (rs := [.cell 4 29, .tmp 5]) rfl (by simp) (.cell b1 29 #[.slice A8 n8 c8] (0, 0) _ rfl (zc0 (cs := #[.slice none 0 0]) (cs' := #[.slice A8 n8 c8]) f1 0 (.slice A8 n8 c8) rfl) Tryd.underlying29 rfl zh (.tmp .nil))) rfl ?_
  exact ⟨_, rfl, Kf.mono (Kf.put hz8 hb13 (.slice A8 n8 c8)) hw3, bS hB l1⟩
end Go.Proofs.YtgkdealidnidiaaDoor.Na
namespace Go.Proofs.YtgkdealidnidiaaDoor.Na
open Go.RowKit Go.Proofs.YtgkdealidnidiaaDoorW.PrintWords Go.Proofs.YtgkdealidnidiaaDoorW.PrintLast Go.Proofs.YtgkdealidnidiaaDoorW.PrintMore Go.Proofs.YtgkdealidnidiaaDoor.Dg
attribute [local go_sem] zx0 zd1
theorem shl_c {w : World} {u : Value} {x : Nat} (h1 : Nw w u x) (hx : (wd BW x).length ≤ 64) (n : Nat) (hn : n ≤ 9223372036854775807) :
  Calls Tryd.prog 28 #[.agg #[u], .int .i64 (n : Int)] w fun e w' => ∃ z, e = .returned (.tuple #[.agg #[z], .int .i64 (zw2 (x * 2 ^ n))]) ∧ Nw w' z (fitN (x * 2 ^ n)) ∧ Below w.heap.size w w' := by
 by_cases hx0 : x = 0
 ·subst hx0
  rw [Nat.zero_mul]
  have e0 : (wd BW 0).length ≤ 64 := by rw [zo0]; exact Nat.zero_le _
  rw [zb4 e0, za4 e0]
  refine (shlzero_c h1 n hn).mono ?_
  rintro e w' ⟨rfl, hb⟩
  exact ⟨_, rfl, h1.below hb, hb⟩
 ·have hb := nb_shl n (Nat.pos_of_ne_zero hx0)
  by_cases hg : 4096 < nb x + n
  ·have hf : ¬ (wd BW (x * 2 ^ n)).length ≤ 64 := by rw [zk2, hb]; omega
   have e1 : zw2 (x * 2 ^ n) = 1 := by unfold zw2; rw [if_neg hf]
   have e2 : fitN (x * 2 ^ n) = 0 := by unfold fitN; rw [if_neg hf]
   rw [e1, e2]
   refine (shlgreat_c h1 hx hx0 n hn hg).mono ?_
   rintro e w' ⟨rfl, hb⟩
   exact ⟨_, rfl, Nw.zero _, hb⟩
  ·have hf : (wd BW (x * 2 ^ n)).length ≤ 64 := by rw [zk2, hb]; omega
   rw [zb4 hf, za4 hf]
   refine (shlmain_c h1 hx hx0 n (by omega)).mono ?_
   rintro e w' ⟨z, rfl, hz, hb⟩
   exact ⟨_, rfl, Kf.kw hz, hb⟩
theorem len_shl (x k : Nat) (hx : (wd BW x).length ≤ 64) (hk : k ≤ 5000) : (wd BW (x * 2 ^ k)).length ≤ 143 := by
 have h : (wd BW (2 ^ k)).length ≤ 79 := by
  obtain ⟨K, hK⟩ : ∃ K, 79 = K := ⟨_, rfl⟩
  rw [hK, zn (by decide), pow64]
  exact Nat.pow_lt_pow_right (by decide) (by omega)
 exact len_mul (i := 64) (j := 79) hx h
end Go.Proofs.YtgkdealidnidiaaDoor.Na
