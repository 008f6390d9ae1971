/- TableSteps: the law's walk. -/
import Derived.Test.YtdmmklfphkgmlaaTbAwake
namespace Go.Proofs.Ytdmmklfphkgmlaa.Tb
open Go.Proofs.Ytdmmklfphkgmlaa.Ba Go.Proofs.Ytdmmklfphkgmlaa.Seg Go.RowKit Go.Proofs.YtdmmklfphkgmlaaW.PrintWords Go.Proofs.YtdmmklfphkgmlaaW.PrintLast Go.Proofs.YtdmmklfphkgmlaaW.PrintMore Go.Proofs.Ytdmmklfphkgmlaa.Om

structure Stp where
  c : Int
  k : Int
  r : Int
  s : Bool
/-- The steps that are read. -/
def StepsAt (w : World) (A : Option Addr) (l : List Stp) : Prop :=
  0 < l.length → ∃ ad, A = some ad ∧ ∀ j s, l[j]? = some s → w.cell? (ad.add (j * 4)) = some (.int .i64 s.c) ∧ w.cell? ⟨(ad.add (j * 4)).block, (ad.add (j * 4)).off + 1, none⟩ = some (.int .i64 s.k) ∧
    w.cell? ⟨(ad.add (j * 4)).block, (ad.add (j * 4)).off + 2, none⟩ = some (.int .u64 s.r) ∧ w.cell? ⟨(ad.add (j * 4)).block, (ad.add (j * 4)).off + 3, none⟩ = some (.bool s.s)
theorem StepsAt.below {w w1 : World} {A : Option Addr} {l : List Stp} (h : StepsAt w A l) (hb : Below w.heap.size w w1) : StepsAt w1 A l := fun h0 => by
  obtain ⟨ad, e, hc⟩ := h h0
  refine ⟨ad, e, fun j s hj => ?_⟩
  obtain ⟨a, b, c, d⟩ := hc j s hj
  exact ⟨pw_cell_below hb a, pw_cell_below hb b, pw_cell_below hb c, pw_cell_below hb d⟩

theorem addX_len (xs : List Int) (c k : Int) (h : xs.length = 136) : (addX xs c k).1.length = 136 := by
  unfold addX; repeat' split
  all_goals first | exact h | (simp only [List.length_set]; exact h)
theorem addX_range (xs : List Int) (c k : Int) (h : ∀ x ∈ xs, 0 ≤ x ∧ x < 4294967296) : ∀ x ∈ (addX xs c k).1, 0 ≤ x ∧ x < 4294967296 := by
  unfold addX
  by_cases h1 : c < 0 ∨ 16 ≤ c
  · rw [if_pos h1]; exact h
  rw [if_neg h1]
  by_cases h2 : k < 0 ∨ 8 ≤ k
  · rw [if_pos h2]; exact h
  rw [if_neg h2]
  by_cases h3 : gx xs k.toNat = 4294967295 ∨ gx xs (8 + c.toNat * 8 + k.toNat) = 4294967295
  · rw [if_pos h3]; exact h
  rw [if_neg h3]
  intro x hx
  have r1 := gx_range h k.toNat
  have r2 := gx_range h (8 + c.toNat * 8 + k.toNat)
  rcases List.mem_or_eq_of_mem_set hx with hx | rfl
  · rcases List.mem_or_eq_of_mem_set hx with hx | rfl
    · exact h x hx
    · omega
  · omega

set_option maxRecDepth 100000 in
theorem steps_great (xs : List Int) (l : Int) (A : Option Addr) (n c : Nat) (w : World) (h : 100 < n) :
    Calls Try.prog 4 #[.agg (tabV xs l), .slice A n c] w fun e w' => e = .returned (.bool true) ∧ Below w.heap.size w w' := by
  have c1 : decide (100 < (n : Int)) = true := decide_eq_true (by omega)
  go_enter Try.func4, Try.ntmps4
  go_wp2_with fail
  refine (awake_calls _).mono ?_
  rintro r w1 ⟨rfl, h1⟩
  go_wp2
  go_ret
  exact ⟨rfl, (below_alloc (Below.refl _ _) _).trans (h1.mono (by simp))⟩

/-- The loop's state: both tables are the same. -/
def StT (w : World) (b : Nat) (W : World) : Prop :=
  Below w.heap.size w W ∧ ∃ (ys : List Int) (m : Int), ys.length = 136 ∧ (∀ x ∈ ys, 0 ≤ x ∧ x < 4294967296) ∧ W.heap[w.heap.size]? = some (.cells (tabV ys m) 39 (0, 0)) ∧ W.heap[b]? = some (.cells (tabV ys m) 44 (0, 0))

/-- Both tables' boxes and the step's. -/
def TT (w : World) (b p : Nat) (ys : List Int) (m : Int) (yz : List Int) (mz : Int) (s : Obj) (W : World) : Prop :=
  Below w.heap.size w W ∧ W.heap[w.heap.size]? = some (.cells (tabV ys m) 39 (0, 0)) ∧ W.heap[b]? = some (.cells (tabV yz mz) 44 (0, 0)) ∧ W.heap[p]? = some s
theorem TT.step {w W W' : World} {b p : Nat} {ys yz : List Int} {m mz : Int} {s : Obj} (h : TT w b p ys m yz mz s W) (hb : Below W.heap.size W W') : TT w b p ys m yz mz s W' :=
  ⟨h.1.trans (hb.mono h.1.size), (hb.block _ (Array.getElem?_eq_some_iff.1 h.2.1).1).trans h.2.1, (hb.block _ (Array.getElem?_eq_some_iff.1 h.2.2.1).1).trans h.2.2.1, (hb.block _ (Array.getElem?_eq_some_iff.1 h.2.2.2).1).trans h.2.2.2⟩
theorem TT.setT {w W : World} {b p : Nat} {ys yz : List Int} {m mz : Int} {s : Obj} (h : TT w b p ys m yz mz s W) (hb : w.heap.size < b) (hp : w.heap.size < p) (ys' : List Int) (m' : Int) : TT w b p ys' m' yz mz s (W.setRow w.heap.size (tabV ys' m')) :=
  ⟨below_setRow h.1 (Nat.le_refl _) _, setRow_heap _ _ _ _ _ _ h.2.1, (setRow_other _ _ _ _ (by omega)).trans h.2.2.1, (setRow_other _ _ _ _ (by omega)).trans h.2.2.2⟩
theorem TT.setM {w W : World} {b p : Nat} {ys yz : List Int} {m mz : Int} {s : Obj} (h : TT w b p ys m yz mz s W) (hb : w.heap.size < b) (hp : b < p) (ys' : List Int) (m' : Int) : TT w b p ys m ys' m' s (W.setRow b (tabV ys' m')) :=
  ⟨below_setRow h.1 (by omega) _, (setRow_other _ _ _ _ (by omega)).trans h.2.1, setRow_heap _ _ _ _ _ _ h.2.2.1, (setRow_other _ _ _ _ (by omega)).trans h.2.2.2⟩

theorem load39 {W : World} {b : Nat} {cs : Array Value} (h : W.heap[b]? = some (.cells cs 39 (0, 0))) (hi : (Try.prog.info? 39).map (·.size) = some cs.size) : (Instr.loadAt 39 (.pointer (some ⟨b, 0, none⟩))).run Try.prog W = .ok (.agg cs) W := by
  simp only [Instr.loadAt, Instr.sureAddr, Sem.run_bind, Sem.run_pure, Result.andThen_ok, run_loadVar_row W b 39 39 cs (0, 0) _ h Try.underlying39 rfl hi]
theorem load44 {W : World} {b : Nat} {cs : Array Value} (h : W.heap[b]? = some (.cells cs 44 (0, 0))) (hi : (Try.prog.info? 44).map (·.size) = some cs.size) : (Instr.loadAt 44 (.pointer (some ⟨b, 0, none⟩))).run Try.prog W = .ok (.agg cs) W := by
  simp only [Instr.loadAt, Instr.sureAddr, Sem.run_bind, Sem.run_pure, Result.andThen_ok, run_loadVar_row W b 44 44 cs (0, 0) _ h Try.underlying44 rfl hi]

theorem take_at {P : Program} {md : Region.Mode} {ops : Array Oper} {Q : Exit → Act → World → Prop} {S : World → Prop} {i : Nat} {oi : Oper} (d : Option Tmp) (v : Value) {fuel : Nat} {listed : Array Bool} {a : Act} {w : World} (hi : ops[i]? = some oi) (hd : oi.dst = d)
    (hs : Region.noSelect ops = true) (hf : Region.free md ops listed i = true) (hr : (Region.ready md ops listed).contains i = true)
    (hQ : ∀ c a w, Q (.panic c) (a.put d v) w → Q (.panic c) a w) (hy : YieldsIf P ops S oi v a) (hS : S w)
    (h : wpAnyH P md ops Q S fuel (listed.setIfInBounds i true) (a.put d v) w) : wpAnyH P md ops Q S (fuel + 1) listed a w := by
  subst hd; exact wpAnyH_take hi hs hf hr hQ hy hS h
theorem yieldsIf_load {ops : Array Oper} {S : World → Prop} {op : Oper} {a : Act} (hw : Region.wanted op (yielded ops a.tmps) = true) (ty : TypeId) (x : Operand) (ho : op.op = .load ty x) (p : Value) (hx : a.eval x = p) (v : Value)
    (hS : ∀ w, S w → (Instr.loadAt ty p).run Try.prog w = .ok v w) : YieldsIf Try.prog ops S op v a :=
  .inl ⟨hw, fun w hw' => by
    unfold execOp
    simp only [ho, hx, Sem.run_bind, hS w hw', Result.andThen_ok, Sem.run_pure]⟩

set_option maxRecDepth 100000 in
set_option maxHeartbeats 1000000 in
theorem steps_small (xs : List Int) (l : Int) (A : Option Addr) (c : Nat) (st : List Stp) (w : World) (hx : xs.length = 136) (hr : ∀ x ∈ xs, 0 ≤ x ∧ x < 4294967296) (hA : StepsAt w A st) (hn : st.length ≤ 100) :
    Calls Try.prog 4 #[.agg (tabV xs l), .slice A st.length c] w fun e w' => e = .returned (.bool true) ∧ Below w.heap.size w w' := by
  have c1 : decide (100 < (st.length : Int)) = false := decide_eq_false (by omega)
  have hT := heap_alloc_new w (.cells (tabV xs l) 39)
  have hi := tab_info39 xs l hx
  go_enter Try.func4, Try.ntmps4
  go_wp2_with (first | refine wpList_load_row rfl 39 _ rfl w.heap.size rfl 39 _ (0, 0) _ hT Try.underlying39 rfl hi ?_)
  refine (of_calls xs l _ hx).mono ?_
  rintro x w1 ⟨rfl, h1⟩
  have hT1 := (h1.block _ (by simp)).trans hT
  have hB1 : Below w.heap.size w w1 := (below_alloc (Below.refl _ _) _).trans (h1.mono (by simp))
  have hs1 : w.heap.size < w1.heap.size := by have := h1.size; simp at this; omega
  clear h1 hT
  have hi44 := tab_info44 xs l hx
  have ho := tab_one xs l
  have hz := tab_zero44 xs l hx
  have hM := heap_alloc_new w1 (.cells Try.zeroCells44 44)
  have hM2 := setRow_heap (w1.alloc (.cells Try.zeroCells44 44)) w1.heap.size _ (tabV xs l) 44 (0, 0) hM
  have hT2 : ((w1.alloc (.cells Try.zeroCells44 44)).setRow w1.heap.size (tabV xs l)).heap[w.heap.size]? = some (.cells (tabV xs l) 39 (0, 0)) := (setRow_other _ _ _ _ (by omega)).trans ((heap_alloc_old _ _ hs1).trans hT1)
  have hB2 : Below w.heap.size w ((w1.alloc (.cells Try.zeroCells44 44)).setRow w1.heap.size (tabV xs l)) := below_setRow (hB1.alloc hB1.size _) hB1.size _
  generalize hW : (w1.alloc (.cells Try.zeroCells44 44)).setRow w1.heap.size (tabV xs l) = W at hT2 hB2 hM2
  clear hT1 hB1
  go_wp2_with (refine wpList_store_row rfl 44 _ _ rfl w1.heap.size _ rfl rfl 44 _ hM hi44 hz ho ?_; rw [hW]; clear hW hM hz ho)
  have HA := Aside0.mk hA
  have HX := Aside0.mk hx
  have HR := Aside0.mk hr
  clear hA hi hi44
  go_loopw [18] (fun i wr => ∃ (j : Nat), i = .int .i64 j ∧ j ≤ st.length ∧ Aside0 (StT w w1.heap.size wr)) (fun i _ => st.length - (intOf i).toNat)
  case atStart => exact ⟨0, rfl, by omega, ⟨⟨hB2, xs, l, HX.out, HR.out, hT2, hM2⟩⟩⟩
  case round =>
    obtain ⟨j, rfl, hj, HS⟩ := hrel
    by_cases hlt : j < st.length
    · have hx1 : 0 ≤ (j : Int) := by omega
      have hx2 : (j : Int) < (st.length : Int) := by omega
      obtain ⟨hB, ys, m, hy, hyr, hT, hM⟩ := HS.out
      obtain ⟨ad, rfl, hcs⟩ := (StepsAt.below HA.out hB) (by omega)
      obtain ⟨p, hp⟩ : ∃ p, st[j]? = some p := ⟨_, List.getElem?_eq_getElem hlt⟩
      obtain ⟨q0, q1, q2, q3⟩ := hcs j p hp
      obtain ⟨pc, pk, pr, ps⟩ := p
      simp only at q0 q1 q2 q3
      clear hcs
      have hlt1 : w1.heap.size < wr.heap.size := (Array.getElem?_eq_some_iff.1 hM).1
      have H0 : TT w w1.heap.size wr.heap.size ys m ys m (.cells #[.int .i64 pc, .int .i64 pk, .int .u64 pr, .bool ps] 47 (0, 0)) (wr.alloc (.cells #[.int .i64 pc, .int .i64 pk, .int .u64 pr, .bool ps] 47)) :=
        ⟨hB.alloc hB.size _, (heap_alloc_old _ _ (Array.getElem?_eq_some_iff.1 hT).1).trans hT, (heap_alloc_old _ _ hlt1).trans hM, heap_alloc_new _ _⟩
      have hi := tab_info39 ys m hy
      have hT0 := H0.2.1
      have HH0 := Aside0.mk H0
      clear hB hT hM H0
      cases ps with
      | true =>
        go_wp2_with (refine wpList_load_row rfl 39 _ rfl w.heap.size rfl 39 _ (0, 0) _ hT0 Try.underlying39 rfl hi ?_)
        refine (seen_calls ys m pr _ hy).mono ?_
        obtain ⟨⟨m', code⟩, hsx⟩ : ∃ x, seenX m pr = x := ⟨_, rfl⟩
        rw [hsx]
        rintro x v1 ⟨rfl, h1⟩
        have H1 := HH0.out.step h1
        have H2 := H1.setT hs1 (by omega) ys m'
        have hi44 := tab_info44 ys m hy
        have hi' := tab_info39 ys m' hy
        have ho := tab_one ys m'
        have hz : (tabV ys m).size = (tabV ys m').size := by rw [tabV_size, tabV_size]
        have hT1 := H1.2.1
        have hM2 := H2.2.2.1
        have cp := cell_of_row _ wr.heap.size 2 _ _ _ H2.2.2.2
        have HH2 := Aside0.mk H2
        clear h1 H1 H2 HH0 hT0
        go_wp2_with (first | refine wpList_store_row rfl 39 _ _ rfl w.heap.size _ rfl rfl 39 _ hT1 hi' hz ho ?_ | refine wpList_load_row rfl 44 _ rfl w1.heap.size rfl 44 _ (0, 0) _ hM2 Try.underlying44 rfl hi44 ?_)
        refine (rseen_calls ys m pr _ hy).mono ?_
        rw [hsx]
        rintro x v3 ⟨rfl, h3⟩
        have H3 := HH2.out.step h3
        have H4 := H3.setM hs1 hlt1 ys m'
        have hi4 := tab_info44 ys m' hy
        have hM3 := H3.2.2.1
        generalize hV : v3.setRow w1.heap.size (tabV ys m') = V at H4
        have HH4 := Aside0.mk H4
        clear h3 H3 H4 HH2 hT1 hM2 cp hi44
        go_wp2_with (refine wpList_store_row rfl 44 _ _ rfl w1.heap.size _ rfl rfl 44 _ hM3 hi4 hz ho ?_; rw [hV]; clear hV hM3)
        have k39 : ∀ W : World, Below V.heap.size V W → (Instr.loadAt 39 (.pointer (some ⟨w.heap.size, 0, none⟩))).run Try.prog W = .ok (.agg (tabV ys m')) W := fun W h => load39 (HH4.out.step h).2.1 hi'
        have k44 : ∀ W : World, Below V.heap.size V W → (Instr.loadAt 44 (.pointer (some ⟨w1.heap.size, 0, none⟩))).run Try.prog W = .ok (.agg (tabV ys m')) W := fun W h => load44 (HH4.out.step h).2.2.1 hi4
        have keq : ∀ W : World, (Op.equalIn 10000 44 (.agg (tabV ys m')) (.agg (tabV ys m'))).run Try.prog W = .ok true W := fun W => by rw [tabEq44 ys ys m' m' hy hy, tabEq_refl]
        have KO := Aside0.mk (fun W => of_calls ys m' W hy)
        have kc : (code != code) = false := by simp
        refine wp_region_held_drew (S := fun W => Below V.heap.size V W) (by kernel_rfl) (below_drew (Below.refl _ _)) (fun hHeld => ?_)
        refine take_at (i := 0) (some 56) (.int .i64 code) rfl rfl (by kernel_rfl) (by kernel_rfl) (by kernel_rfl) (fun _ _ _ h => h) (Or.inl ⟨by rfl, fun w hSw => by go_simp⟩) hHeld ?_
        refine take_at (i := 1) (some 57) (.int .i64 code) rfl rfl (by kernel_rfl) (by kernel_rfl) (by kernel_rfl) (fun _ _ _ h => h) (Or.inl ⟨by rfl, fun w hSw => by go_simp⟩) hHeld ?_
        refine take_at (i := 2) (some 58) (.bool false) rfl rfl (by kernel_rfl) (by kernel_rfl) (by kernel_rfl) (fun _ _ _ h => h) (Or.inl ⟨by rfl, fun w hSw => by go_simp⟩) hHeld ?_
        refine take_at (i := 3) (some 59) (.bool false) rfl rfl (by kernel_rfl) (by kernel_rfl) (by kernel_rfl) (fun _ _ _ h => h) (Or.inl ⟨by rfl, fun w hSw => by go_simp⟩) hHeld ?_
        refine take_at (i := 4) (some 60) (.agg (tabV ys m')) rfl rfl (by kernel_rfl) (by kernel_rfl) (by kernel_rfl) (fun _ _ _ h => h) (yieldsIf_load (by rfl) 39 (.tmp 2) rfl (.pointer (some ⟨w.heap.size, 0, none⟩)) rfl _ k39) hHeld ?_
        refine take_at (i := 6) (some 62) (.agg (tabV ys m')) rfl rfl (by kernel_rfl) (by kernel_rfl) (by kernel_rfl) (fun _ _ _ h => h) (yieldsIf_load (by rfl) 44 (.tmp 5) rfl (.pointer (some ⟨w1.heap.size, 0, none⟩)) rfl _ k44) hHeld ?_
        simp only [Act.put, List.setIfInBounds_toArray, List.set_cons_zero, List.set_cons_succ]
        refine wpAnyH_ready (rs := [5]) (by kernel_rfl) (by simp) (AllReadyH.cons rfl (fun K hK => ?_) AllReadyH.nil)
        go_simp
        refine (KO.out _).mono ?_
        rintro x w5 ⟨rfl, hb⟩
        have hH5 : Below V.heap.size V w5 := hHeld.trans (hb.mono hHeld.size)
        refine hK.out _ _ hH5 (fun hHeld5 => ?_)
        clear hK K hb hHeld
        refine take_at (i := 7) (some 63) (.bool false) rfl rfl (by kernel_rfl) (by kernel_rfl) (by kernel_rfl) (fun _ _ _ h => h) (Or.inl ⟨by rfl, fun w hSw => by go_simp⟩) hHeld5 ?_
        refine take_at (i := 8) (some 64) (.bool false) rfl rfl (by kernel_rfl) (by kernel_rfl) (by kernel_rfl) (fun _ _ _ h => h) (Or.inl ⟨by rfl, fun w hSw => by go_simp⟩) hHeld5 ?_
        refine wpAnyH_done (by kernel_rfl) ?_ _
        simp only [Act.put, List.setIfInBounds_toArray, List.set_cons_zero, List.set_cons_succ]
        have H5 := Aside0.mk (HH4.out.step hHeld5)
        clear hHeld5 hH5 k39 k44 keq HH4
        go_wp2
        go_roundw
        case rel => exact ⟨j + 1, by go_num, by omega, ⟨⟨H5.out.1, ys, m', hy, hyr, H5.out.2.1, H5.out.2.2.1⟩⟩⟩
        case measure => simp [intOf]; omega
      | false =>
        go_wp2_with (refine wpList_load_row rfl 39 _ rfl w.heap.size rfl 39 _ (0, 0) _ hT0 Try.underlying39 rfl hi ?_)
        refine (add_calls ys m pc pk _ hy hyr).mono ?_
        obtain ⟨⟨zs, code⟩, hsx⟩ : ∃ x, addX ys pc pk = x := ⟨_, rfl⟩
        have hzl : zs.length = 136 := by have := addX_len ys pc pk hy; rw [hsx] at this; exact this
        have hzr : ∀ x ∈ zs, 0 ≤ x ∧ x < 4294967296 := by have := addX_range ys pc pk hyr; rw [hsx] at this; exact this
        rw [hsx]
        rintro x v1 ⟨rfl, h1⟩
        have H1 := HH0.out.step h1
        have H2 := H1.setT hs1 (by omega) zs m
        have hi44 := tab_info44 ys m hy
        have hi' := tab_info39 zs m hzl
        have ho := tab_one zs m
        have hz : (tabV ys m).size = (tabV zs m).size := by rw [tabV_size, tabV_size, hy, hzl]
        have hT1 := H1.2.1
        have hM2 := H2.2.2.1
        have cp := cell_of_row _ wr.heap.size 0 _ _ _ H2.2.2.2
        have cp1 := cell_of_row _ wr.heap.size 1 _ _ _ H2.2.2.2
        have HH2 := Aside0.mk H2
        clear h1 H1 H2 HH0 hT0
        go_wp2_with (first | refine wpList_store_row rfl 39 _ _ rfl w.heap.size _ rfl rfl 39 _ hT1 hi' hz ho ?_ | refine wpList_load_row rfl 44 _ rfl w1.heap.size rfl 44 _ (0, 0) _ hM2 Try.underlying44 rfl hi44 ?_)
        refine (radd_calls ys m pc pk _ hy hyr).mono ?_
        rw [hsx]
        rintro x v3 ⟨rfl, h3⟩
        have H3 := HH2.out.step h3
        have H4 := H3.setM hs1 hlt1 zs m
        have hi4 := tab_info44 zs m hzl
        have hM3 := H3.2.2.1
        generalize hV : v3.setRow w1.heap.size (tabV zs m) = V at H4
        have HH4 := Aside0.mk H4
        clear h3 H3 H4 HH2 hT1 hM2 cp cp1 hi44
        go_wp2_with (refine wpList_store_row rfl 44 _ _ rfl w1.heap.size _ rfl rfl 44 _ hM3 hi4 hz ho ?_; rw [hV]; clear hV hM3)
        have k39 : ∀ W : World, Below V.heap.size V W → (Instr.loadAt 39 (.pointer (some ⟨w.heap.size, 0, none⟩))).run Try.prog W = .ok (.agg (tabV zs m)) W := fun W h => load39 (HH4.out.step h).2.1 hi'
        have k44 : ∀ W : World, Below V.heap.size V W → (Instr.loadAt 44 (.pointer (some ⟨w1.heap.size, 0, none⟩))).run Try.prog W = .ok (.agg (tabV zs m)) W := fun W h => load44 (HH4.out.step h).2.2.1 hi4
        have keq : ∀ W : World, (Op.equalIn 10000 44 (.agg (tabV zs m)) (.agg (tabV zs m))).run Try.prog W = .ok true W := fun W => by rw [tabEq44 zs zs m m hzl hzl, tabEq_refl]
        have KO := Aside0.mk (fun W => of_calls zs m W hzl)
        have kc : (code != code) = false := by simp
        refine wp_region_held_drew (S := fun W => Below V.heap.size V W) (by kernel_rfl) (below_drew (Below.refl _ _)) (fun hHeld => ?_)
        refine take_at (i := 0) (some 56) (.int .i64 code) rfl rfl (by kernel_rfl) (by kernel_rfl) (by kernel_rfl) (fun _ _ _ h => h) (Or.inl ⟨by rfl, fun w hSw => by go_simp⟩) hHeld ?_
        refine take_at (i := 1) (some 57) (.int .i64 code) rfl rfl (by kernel_rfl) (by kernel_rfl) (by kernel_rfl) (fun _ _ _ h => h) (Or.inl ⟨by rfl, fun w hSw => by go_simp⟩) hHeld ?_
        refine take_at (i := 2) (some 58) (.bool false) rfl rfl (by kernel_rfl) (by kernel_rfl) (by kernel_rfl) (fun _ _ _ h => h) (Or.inl ⟨by rfl, fun w hSw => by go_simp⟩) hHeld ?_
        refine take_at (i := 3) (some 59) (.bool false) rfl rfl (by kernel_rfl) (by kernel_rfl) (by kernel_rfl) (fun _ _ _ h => h) (Or.inl ⟨by rfl, fun w hSw => by go_simp⟩) hHeld ?_
        refine take_at (i := 4) (some 60) (.agg (tabV zs m)) rfl rfl (by kernel_rfl) (by kernel_rfl) (by kernel_rfl) (fun _ _ _ h => h) (yieldsIf_load (by rfl) 39 (.tmp 2) rfl (.pointer (some ⟨w.heap.size, 0, none⟩)) rfl _ k39) hHeld ?_
        refine take_at (i := 6) (some 62) (.agg (tabV zs m)) rfl rfl (by kernel_rfl) (by kernel_rfl) (by kernel_rfl) (fun _ _ _ h => h) (yieldsIf_load (by rfl) 44 (.tmp 5) rfl (.pointer (some ⟨w1.heap.size, 0, none⟩)) rfl _ k44) hHeld ?_
        simp only [Act.put, List.setIfInBounds_toArray, List.set_cons_zero, List.set_cons_succ]
        refine wpAnyH_ready (rs := [5]) (by kernel_rfl) (by simp) (AllReadyH.cons rfl (fun K hK => ?_) AllReadyH.nil)
        go_simp
        refine (KO.out _).mono ?_
        rintro x w5 ⟨rfl, hb⟩
        have hH5 : Below V.heap.size V w5 := hHeld.trans (hb.mono hHeld.size)
        refine hK.out _ _ hH5 (fun hHeld5 => ?_)
        clear hK K hb hHeld
        refine take_at (i := 7) (some 63) (.bool false) rfl rfl (by kernel_rfl) (by kernel_rfl) (by kernel_rfl) (fun _ _ _ h => h) (Or.inl ⟨by rfl, fun w hSw => by go_simp⟩) hHeld5 ?_
        refine take_at (i := 8) (some 64) (.bool false) rfl rfl (by kernel_rfl) (by kernel_rfl) (by kernel_rfl) (fun _ _ _ h => h) (Or.inl ⟨by rfl, fun w hSw => by go_simp⟩) hHeld5 ?_
        refine wpAnyH_done (by kernel_rfl) ?_ _
        simp only [Act.put, List.setIfInBounds_toArray, List.set_cons_zero, List.set_cons_succ]
        have H5 := Aside0.mk (HH4.out.step hHeld5)
        clear hHeld5 hH5 k39 k44 keq HH4
        go_wp2
        go_roundw
        case rel => exact ⟨j + 1, by go_num, by omega, ⟨⟨H5.out.1, zs, m, hzl, hzr, H5.out.2.1, H5.out.2.2.1⟩⟩⟩
        case measure => simp [intOf]; omega
    · have hge : j = st.length := by omega
      subst hge
      have hB := Aside0.mk HS.out.1
      clear HS
      go_wp2_with fail
      refine (awake_calls _).mono ?_
      rintro r w2 ⟨rfl, h2⟩
      have hBB := Aside0.mk (hB.out.trans (h2.mono hB.out.size))
      clear h2
      go_wp2
      go_ret
      exact ⟨rfl, hBB.out⟩

theorem steps_walk (xs : List Int) (l : Int) (A : Option Addr) (c : Nat) (st : List Stp) (w : World) (hx : xs.length = 136) (hr : ∀ x ∈ xs, 0 ≤ x ∧ x < 4294967296) (hA : StepsAt w A st) :
    Calls Try.prog 4 #[.agg (tabV xs l), .slice A st.length c] w fun e w' => e = .returned (.bool true) ∧ Below w.heap.size w w' := by
  by_cases h : 100 < st.length
  · exact steps_great xs l A st.length c w h
  · exact steps_small xs l A c st w hx hr hA (by omega)
end Go.Proofs.Ytdmmklfphkgmlaa.Tb
