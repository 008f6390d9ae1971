/- TableAsks: the law's walk. -/
import Derived.Test.YtdmmklfphkgmlaaTbCovR
namespace Go.Proofs.Ytdmmklfphkgmlaa.Tb
set_option linter.unusedSimpArgs false
open Go.Proofs.Ytdmmklfphkgmlaa.Seg Go.RowKit Go.Proofs.YtdmmklfphkgmlaaW.PrintWords Go.Proofs.YtdmmklfphkgmlaaW.PrintLast Go.Proofs.YtdmmklfphkgmlaaW.PrintMore Go.Proofs.Ytdmmklfphkgmlaa.Om

theorem covB_refl (r : List Int) (n : Nat) : covB r r n = true := by simp [covB]
theorem covT_refl (xs : List Int) : covT xs xs = true := by simp [covT, covN, covB_refl]

theorem yieldsIf_indexAddr {ops : Array Oper} {S : World → Prop} {op : Oper} {a : Act} (hw : Region.wanted op (yielded ops a.tmps) = true) (ty : TypeId) (x y : Operand) (ho : op.op = .indexAddr ty x y) (p i : Value) (hx : a.eval x = p) (hy : a.eval y = i) (v : Value)
    (hS : ∀ w, (Instr.indexAt ty p i).run Try.prog w = .ok v w) : YieldsIf Try.prog ops S op v a :=
  .inl ⟨hw, fun w _ => by
    unfold execOp
    simp only [ho, hx, hy, Sem.run_bind, hS w, Result.andThen_ok, Sem.run_pure]⟩
theorem wp_store_none {o : Oper} {a : Act} {w : World} {K : Act → World → Prop} {Q : Exit → Act → World → Prop} (hn : o.dst = none) (ty : TypeId) (x y : Operand) (ho : o.op = .store ty x y)
    (g : Nat) (cells : Array Value) (hx : a.eval x = .pointer (some ⟨g, 0, none⟩)) (hy : a.eval y = .agg cells)
    (t : TypeId) (old : Array Value) (hg : w.heap[g]? = some (.cells old t (0, 0))) (hi : (Try.prog.info? ty).map (·.size) = some cells.size)
    (hold : old.size = cells.size) (h1 : cells.all (·.oneCell') = true) (h : K a (w.setRow g cells)) : o.wp Try.prog a w K Q :=
  wp_store_row ty x y ho g cells hx hy t old hg hi hold h1 (by rw [hn]; exact h)
theorem idx42 (b : Nat) (w : World) : (Instr.indexAt 42 (.pointer (some ⟨b, 8, none⟩)) (.int .i64 3)).run Try.prog w = .ok (.pointer (some ⟨b, 32, none⟩)) w := by
  have h := Try.underlying42
  go_simp

/-- The four tables' boxes. -/
def AK (w : World) (xs ys : List Int) (l m : Int) (b5 b6 : Nat) (W : World) : Prop :=
  Below w.heap.size w W ∧ W.heap[w.heap.size]? = some (.cells (tabV xs l) 39 (0, 0)) ∧ W.heap[w.heap.size + 1]? = some (.cells (tabV ys m) 39 (0, 0)) ∧ W.heap[b5]? = some (.cells (tabV xs l) 44 (0, 0)) ∧ W.heap[b6]? = some (.cells (tabV ys m) 44 (0, 0))
theorem AK.step {w W W' : World} {xs ys : List Int} {l m : Int} {b5 b6 : Nat} (h : AK w xs ys l m b5 b6 W) (hb : Below W.heap.size W W') : AK w xs ys l m b5 b6 W' :=
  ⟨h.1.trans (hb.mono h.1.size), (hb.block _ (Array.getElem?_eq_some_iff.1 h.2.1).1).trans h.2.1, (hb.block _ (Array.getElem?_eq_some_iff.1 h.2.2.1).1).trans h.2.2.1, (hb.block _ (Array.getElem?_eq_some_iff.1 h.2.2.2.1).1).trans h.2.2.2.1, (hb.block _ (Array.getElem?_eq_some_iff.1 h.2.2.2.2).1).trans h.2.2.2.2⟩

set_option maxRecDepth 100000 in
set_option maxHeartbeats 8000000 in
theorem asks_walk (xs ys : List Int) (l m : Int) (w : World) (hx : xs.length = 136) (hy : ys.length = 136) (hr : ∀ x ∈ xs, 0 ≤ x ∧ x < 4294967296) (hs : ∀ x ∈ ys, 0 ≤ x ∧ x < 4294967296) :
    Calls Try.prog 7 #[.agg (tabV xs l), .agg (tabV ys m)] w fun e w' => e = .returned (.bool true) ∧ Below w.heap.size w w' := by
  go_enter Try.func7, Try.ntmps7
  go_wp2_with fail
  refine Code.wp_mono (Q := fun e a W => e = .normal ∧ ∃ b5 b6, a = { tmps := #[.agg (tabV xs l), .agg (tabV ys m), .pointer (some ⟨w.heap.size, 0, none⟩), .pointer (some ⟨w.heap.size + 1, 0, none⟩), .bool false, .pointer (some ⟨b5, 0, none⟩), .pointer (some ⟨b6, 0, none⟩), .agg (tabV xs l), .agg (tabV xs l), .agg (tabV ys m), .agg (tabV ys m), undef, undef, undef, undef, undef, undef, undef, undef, undef, undef, undef, undef, undef, undef, undef, undef, undef, undef, undef, undef, undef, undef, undef, undef, undef, undef, undef, undef, undef, undef, undef, undef, undef, undef, undef], defers := [] } ∧ AK w xs ys l m b5 b6 W) ?_ ?_
  · rintro e a W0 ⟨rfl, b5, b6, rfl, hAK⟩
    have HK := Aside0.mk hAK
    clear hAK
    have ka : ∀ V : World, Below W0.heap.size W0 V → (Instr.loadAt 39 (.pointer (some ⟨w.heap.size, 0, none⟩))).run Try.prog V = .ok (.agg (tabV xs l)) V := fun V h => load39 (HK.out.step h).2.1 (tab_info39 xs l hx)
    have kb : ∀ V : World, Below W0.heap.size W0 V → (Instr.loadAt 39 (.pointer (some ⟨w.heap.size + 1, 0, none⟩))).run Try.prog V = .ok (.agg (tabV ys m)) V := fun V h => load39 (HK.out.step h).2.2.1 (tab_info39 ys m hy)
    have kc : ∀ V : World, Below W0.heap.size W0 V → (Instr.loadAt 44 (.pointer (some ⟨b5, 0, none⟩))).run Try.prog V = .ok (.agg (tabV xs l)) V := fun V h => load44 (HK.out.step h).2.2.2.1 (tab_info44 xs l hx)
    have kd : ∀ V : World, Below W0.heap.size W0 V → (Instr.loadAt 44 (.pointer (some ⟨b6, 0, none⟩))).run Try.prog V = .ok (.agg (tabV ys m)) V := fun V h => load44 (HK.out.step h).2.2.2.2 (tab_info44 ys m hy)
    have kx : ∀ V : World, Below W0.heap.size W0 V → (Instr.loadAt 36 (.pointer (some ⟨w.heap.size, 0, none⟩))).run Try.prog V = .ok (.agg (rowV (rowI xs 0))) V := fun V h => load_seg Try.underlying36 info36 (HK.out.step h).2.1 xs l hx (by omega)
    have ky : ∀ V : World, Below W0.heap.size W0 V → (Instr.loadAt 41 (.pointer (some ⟨b5, 0, none⟩))).run Try.prog V = .ok (.agg (rowV (rowI xs 0))) V := fun V h => load_seg Try.underlying41 info41 (HK.out.step h).2.2.2.1 xs l hx (by omega)
    have ku : ∀ V : World, Below W0.heap.size W0 V → (Instr.loadAt 36 (.pointer (some ⟨w.heap.size + 1, 32, none⟩))).run Try.prog V = .ok (.agg (rowV (rowI ys 32))) V := fun V h => load_seg Try.underlying36 info36 (HK.out.step h).2.2.1 ys m hy (by omega)
    have kv : ∀ V : World, Below W0.heap.size W0 V → (Instr.loadAt 41 (.pointer (some ⟨b6, 32, none⟩))).run Try.prog V = .ok (.agg (rowV (rowI ys 32))) V := fun V h => load_seg Try.underlying41 info41 (HK.out.step h).2.2.2.2 ys m hy (by omega)
    obtain ⟨cb, hcb⟩ : ∃ b, covT xs ys = b := ⟨_, rfl⟩
    obtain ⟨s1, hs1⟩ : ∃ b, sumTo (rowI xs 0) 8 = b := ⟨_, rfl⟩
    obtain ⟨s2, hs2⟩ : ∃ b, sumTo (rowI ys 32) 8 = b := ⟨_, rfl⟩
    have KA := Aside0.mk awake_calls
    have KC := Aside0.mk (fun V => hcb ▸ cov_calls xs ys l m V hx hy)
    have KR := Aside0.mk (fun V => hcb ▸ rcovers_calls xs ys l m V hx hy)
    have KD := Aside0.mk (fun V => covT_refl xs ▸ cov_calls xs xs l l V hx hx)
    have KS := Aside0.mk (fun V => hs1 ▸ sum_calls (rowI xs 0) V (rowI_len xs 0 hx (by omega)) (rowI_range hr 0))
    have KT := Aside0.mk (fun V => hs1 ▸ rsum_calls (rowI xs 0) V (rowI_len xs 0 hx (by omega)) (rowI_range hr 0))
    have KU := Aside0.mk (fun V => hs2 ▸ sum_calls (rowI ys 32) V (rowI_len ys 32 hy (by omega)) (rowI_range hs 32))
    have KV := Aside0.mk (fun V => hs2 ▸ rsum_calls (rowI ys 32) V (rowI_len ys 32 hy (by omega)) (rowI_range hs 32))
    clear hcb hs1 hs2 hx hy hr hs
    go_wp2_with fail
    refine wp_region_held_drew (S := fun V => Below W0.heap.size W0 V) (by kernel_rfl) (below_drew (Below.refl _ _)) (fun hHeld => ?_)
    try simp only [Act.put, List.setIfInBounds_toArray, List.set_cons_zero, List.set_cons_succ]
    refine wpAnyH_ready (rs := [0]) (by kernel_rfl) (by simp) (AllReadyH.cons rfl (fun K hK => ?_) AllReadyH.nil)
    go_simp
    refine (KA.out _).mono ?_
    rintro x wc1 ⟨rfl, hb⟩
    refine hK.out _ _ (Below.trans hHeld (hb.mono (Below.size hHeld))) (fun hH1 => ?_)
    clear hK K hb hHeld
    refine take_at (i := 1) (some 12) (.bool true) rfl rfl (by kernel_rfl) (by kernel_rfl) (by kernel_rfl) (fun _ _ _ h => h) (Or.inl ⟨by rfl, fun w hSw => by go_simp⟩) hH1 ?_
    refine take_at (i := 2) (some 13) (.agg (tabV xs l)) rfl rfl (by kernel_rfl) (by kernel_rfl) (by kernel_rfl) (fun _ _ _ h => h) (yieldsIf_load (by rfl) 39 (.tmp 2) rfl (.pointer (some ⟨w.heap.size, 0, none⟩)) rfl _ ka) hH1 ?_
    try simp only [Act.put, List.setIfInBounds_toArray, List.set_cons_zero, List.set_cons_succ]
    refine take_at (i := 3) (some 14) (.agg (tabV ys m)) rfl rfl (by kernel_rfl) (by kernel_rfl) (by kernel_rfl) (fun _ _ _ h => h) (yieldsIf_load (by rfl) 39 (.tmp 3) rfl (.pointer (some ⟨w.heap.size + 1, 0, none⟩)) rfl _ kb) hH1 ?_
    refine take_at (i := 5) (some 16) (.agg (tabV xs l)) rfl rfl (by kernel_rfl) (by kernel_rfl) (by kernel_rfl) (fun _ _ _ h => h) (yieldsIf_load (by rfl) 44 (.tmp 5) rfl (.pointer (some ⟨b5, 0, none⟩)) rfl _ kc) hH1 ?_
    try simp only [Act.put, List.setIfInBounds_toArray, List.set_cons_zero, List.set_cons_succ]
    refine take_at (i := 6) (some 17) (.agg (tabV ys m)) rfl rfl (by kernel_rfl) (by kernel_rfl) (by kernel_rfl) (fun _ _ _ h => h) (yieldsIf_load (by rfl) 44 (.tmp 6) rfl (.pointer (some ⟨b6, 0, none⟩)) rfl _ kd) hH1 ?_
    try simp only [Act.put, List.setIfInBounds_toArray, List.set_cons_zero, List.set_cons_succ]
    refine wpAnyH_ready (rs := [4]) (by kernel_rfl) (by simp) (AllReadyH.cons rfl (fun K hK => ?_) AllReadyH.nil)
    go_simp
    refine (KC.out _).mono ?_
    rintro x wc2 ⟨rfl, hb⟩
    refine hK.out _ _ (Below.trans hH1 (hb.mono (Below.size hH1))) (fun hH2 => ?_)
    clear hK K hb hH1
    try simp only [Act.put, List.setIfInBounds_toArray, List.set_cons_zero, List.set_cons_succ]
    refine wpAnyH_ready (rs := [7]) (by kernel_rfl) (by simp) (AllReadyH.cons rfl (fun K hK => ?_) AllReadyH.nil)
    go_simp
    refine (KR.out _).mono ?_
    rintro x wc3 ⟨rfl, hb⟩
    refine hK.out _ _ (Below.trans hH2 (hb.mono (Below.size hH2))) (fun hH3 => ?_)
    clear hK K hb hH2
    refine take_at (i := 8) (some 19) (.bool true) rfl rfl (by kernel_rfl) (by kernel_rfl) (by kernel_rfl) (fun _ _ _ h => h) (Or.inl ⟨by rfl, fun w hSw => by go_simp⟩) hH3 ?_
    try simp only [Act.put, List.setIfInBounds_toArray, List.set_cons_zero, List.set_cons_succ]
    refine take_at (i := 9) (some 20) (.bool true) rfl rfl (by kernel_rfl) (by kernel_rfl) (by kernel_rfl) (fun _ _ _ h => h) (Or.inl ⟨by rfl, fun w hSw => by go_simp⟩) hH3 ?_
    refine take_at (i := 10) (some 21) (.bool true) rfl rfl (by kernel_rfl) (by kernel_rfl) (by kernel_rfl) (fun _ _ _ h => h) (Or.inl ⟨by rfl, fun w hSw => by go_simp⟩) hH3 ?_
    try simp only [Act.put, List.setIfInBounds_toArray, List.set_cons_zero, List.set_cons_succ]
    refine take_at (i := 11) (some 22) (.agg (tabV xs l)) rfl rfl (by kernel_rfl) (by kernel_rfl) (by kernel_rfl) (fun _ _ _ h => h) (yieldsIf_load (by rfl) 39 (.tmp 2) rfl (.pointer (some ⟨w.heap.size, 0, none⟩)) rfl _ ka) hH3 ?_
    refine take_at (i := 12) (some 23) (.agg (tabV xs l)) rfl rfl (by kernel_rfl) (by kernel_rfl) (by kernel_rfl) (fun _ _ _ h => h) (yieldsIf_load (by rfl) 39 (.tmp 2) rfl (.pointer (some ⟨w.heap.size, 0, none⟩)) rfl _ ka) hH3 ?_
    try simp only [Act.put, List.setIfInBounds_toArray, List.set_cons_zero, List.set_cons_succ]
    try simp only [Act.put, List.setIfInBounds_toArray, List.set_cons_zero, List.set_cons_succ]
    refine wpAnyH_ready (rs := [13]) (by kernel_rfl) (by simp) (AllReadyH.cons rfl (fun K hK => ?_) AllReadyH.nil)
    go_simp
    refine (KD.out _).mono ?_
    rintro x wc4 ⟨rfl, hb⟩
    refine hK.out _ _ (Below.trans hH3 (hb.mono (Below.size hH3))) (fun hH4 => ?_)
    clear hK K hb hH3
    refine take_at (i := 14) (some 25) (.bool true) rfl rfl (by kernel_rfl) (by kernel_rfl) (by kernel_rfl) (fun _ _ _ h => h) (Or.inl ⟨by rfl, fun w hSw => by go_simp⟩) hH4 ?_
    refine take_at (i := 15) (some 26) (.bool true) rfl rfl (by kernel_rfl) (by kernel_rfl) (by kernel_rfl) (fun _ _ _ h => h) (Or.inl ⟨by rfl, fun w hSw => by go_simp⟩) hH4 ?_
    try simp only [Act.put, List.setIfInBounds_toArray, List.set_cons_zero, List.set_cons_succ]
    refine take_at (i := 16) (some 27) (.pointer (some ⟨w.heap.size, 0, none⟩)) rfl rfl (by kernel_rfl) (by kernel_rfl) (by kernel_rfl) (fun _ _ _ h => h) (Or.inl ⟨by rfl, fun w hSw => by go_simp⟩) hH4 ?_
    refine take_at (i := 17) (some 28) (.agg (rowV (rowI xs 0))) rfl rfl (by kernel_rfl) (by kernel_rfl) (by kernel_rfl) (fun _ _ _ h => h) (yieldsIf_load (by rfl) 36 (.tmp 27) rfl (.pointer (some ⟨w.heap.size, 0, none⟩)) rfl _ kx) hH4 ?_
    try simp only [Act.put, List.setIfInBounds_toArray, List.set_cons_zero, List.set_cons_succ]
    refine take_at (i := 19) (some 30) (.pointer (some ⟨b5, 0, none⟩)) rfl rfl (by kernel_rfl) (by kernel_rfl) (by kernel_rfl) (fun _ _ _ h => h) (Or.inl ⟨by rfl, fun w hSw => by go_simp⟩) hH4 ?_
    refine take_at (i := 20) (some 31) (.agg (rowV (rowI xs 0))) rfl rfl (by kernel_rfl) (by kernel_rfl) (by kernel_rfl) (fun _ _ _ h => h) (yieldsIf_load (by rfl) 41 (.tmp 30) rfl (.pointer (some ⟨b5, 0, none⟩)) rfl _ ky) hH4 ?_
    try simp only [Act.put, List.setIfInBounds_toArray, List.set_cons_zero, List.set_cons_succ]
    try simp only [Act.put, List.setIfInBounds_toArray, List.set_cons_zero, List.set_cons_succ]
    refine wpAnyH_ready (rs := [18]) (by kernel_rfl) (by simp) (AllReadyH.cons rfl (fun K hK => ?_) AllReadyH.nil)
    go_simp
    refine (KS.out _).mono ?_
    rintro x wc5 ⟨rfl, hb⟩
    refine hK.out _ _ (Below.trans hH4 (hb.mono (Below.size hH4))) (fun hH5 => ?_)
    clear hK K hb hH4
    try simp only [Act.put, List.setIfInBounds_toArray, List.set_cons_zero, List.set_cons_succ]
    refine wpAnyH_ready (rs := [21]) (by kernel_rfl) (by simp) (AllReadyH.cons rfl (fun K hK => ?_) AllReadyH.nil)
    go_simp
    refine (KT.out _).mono ?_
    rintro x wc6 ⟨rfl, hb⟩
    refine hK.out _ _ (Below.trans hH5 (hb.mono (Below.size hH5))) (fun hH6 => ?_)
    clear hK K hb hH5
    refine take_at (i := 22) (some 33) (.bool true) rfl rfl (by kernel_rfl) (by kernel_rfl) (by kernel_rfl) (fun _ _ _ h => h) (Or.inl ⟨by rfl, fun w hSw => by go_simp⟩) hH6 ?_
    refine take_at (i := 23) (some 34) (.bool true) rfl rfl (by kernel_rfl) (by kernel_rfl) (by kernel_rfl) (fun _ _ _ h => h) (Or.inl ⟨by rfl, fun w hSw => by go_simp⟩) hH6 ?_
    try simp only [Act.put, List.setIfInBounds_toArray, List.set_cons_zero, List.set_cons_succ]
    refine take_at (i := 24) (some 35) (.bool true) rfl rfl (by kernel_rfl) (by kernel_rfl) (by kernel_rfl) (fun _ _ _ h => h) (Or.inl ⟨by rfl, fun w hSw => by go_simp⟩) hH6 ?_
    refine take_at (i := 25) (some 36) (.pointer (some ⟨w.heap.size + 1, 8, none⟩)) rfl rfl (by kernel_rfl) (by kernel_rfl) (by kernel_rfl) (fun _ _ _ h => h) (Or.inl ⟨by rfl, fun w hSw => by go_simp⟩) hH6 ?_
    try simp only [Act.put, List.setIfInBounds_toArray, List.set_cons_zero, List.set_cons_succ]
    refine take_at (i := 26) (some 37) (.pointer (some ⟨w.heap.size + 1, 32, none⟩)) rfl rfl (by kernel_rfl) (by kernel_rfl) (by kernel_rfl) (fun _ _ _ h => h) (Or.inl ⟨by rfl, fun w hSw => by go_simp⟩) hH6 ?_
    refine take_at (i := 27) (some 38) (.agg (rowV (rowI ys 32))) rfl rfl (by kernel_rfl) (by kernel_rfl) (by kernel_rfl) (fun _ _ _ h => h) (yieldsIf_load (by rfl) 36 (.tmp 37) rfl (.pointer (some ⟨w.heap.size + 1, 32, none⟩)) rfl _ ku) hH6 ?_
    try simp only [Act.put, List.setIfInBounds_toArray, List.set_cons_zero, List.set_cons_succ]
    refine take_at (i := 29) (some 40) (.pointer (some ⟨b6, 8, none⟩)) rfl rfl (by kernel_rfl) (by kernel_rfl) (by kernel_rfl) (fun _ _ _ h => h) (Or.inl ⟨by rfl, fun w hSw => by go_simp⟩) hH6 ?_
    refine take_at (i := 30) (some 41) (.pointer (some ⟨b6, 32, none⟩)) rfl rfl (by kernel_rfl) (by kernel_rfl) (by kernel_rfl) (fun _ _ _ h => h) (yieldsIf_indexAddr (by rfl) 42 (.tmp 40) (.const (.int .i64 3)) rfl (.pointer (some ⟨b6, 8, none⟩)) (.int .i64 3) rfl rfl _ (idx42 b6)) hH6 ?_
    try simp only [Act.put, List.setIfInBounds_toArray, List.set_cons_zero, List.set_cons_succ]
    refine take_at (i := 31) (some 42) (.agg (rowV (rowI ys 32))) rfl rfl (by kernel_rfl) (by kernel_rfl) (by kernel_rfl) (fun _ _ _ h => h) (yieldsIf_load (by rfl) 41 (.tmp 41) rfl (.pointer (some ⟨b6, 32, none⟩)) rfl _ kv) hH6 ?_
    try simp only [Act.put, List.setIfInBounds_toArray, List.set_cons_zero, List.set_cons_succ]
    refine wpAnyH_ready (rs := [28]) (by kernel_rfl) (by simp) (AllReadyH.cons rfl (fun K hK => ?_) AllReadyH.nil)
    go_simp
    refine (KU.out _).mono ?_
    rintro x wc7 ⟨rfl, hb⟩
    refine hK.out _ _ (Below.trans hH6 (hb.mono (Below.size hH6))) (fun hH7 => ?_)
    clear hK K hb hH6
    try simp only [Act.put, List.setIfInBounds_toArray, List.set_cons_zero, List.set_cons_succ]
    refine wpAnyH_ready (rs := [32]) (by kernel_rfl) (by simp) (AllReadyH.cons rfl (fun K hK => ?_) AllReadyH.nil)
    go_simp
    refine (KV.out _).mono ?_
    rintro x wc8 ⟨rfl, hb⟩
    refine hK.out _ _ (Below.trans hH7 (hb.mono (Below.size hH7))) (fun hH8 => ?_)
    clear hK K hb hH7
    refine take_at (i := 33) (some 44) (.bool true) rfl rfl (by kernel_rfl) (by kernel_rfl) (by kernel_rfl) (fun _ _ _ h => h) (Or.inl ⟨by rfl, fun w hSw => by go_simp⟩) hH8 ?_
    try simp only [Act.put, List.setIfInBounds_toArray, List.set_cons_zero, List.set_cons_succ]
    refine take_at (i := 34) (some 45) (.bool true) rfl rfl (by kernel_rfl) (by kernel_rfl) (by kernel_rfl) (fun _ _ _ h => h) (Or.inl ⟨by rfl, fun w hSw => by go_simp⟩) hH8 ?_
    refine take_at (i := 35) (some 4) (.bool true) rfl rfl (by kernel_rfl) (by kernel_rfl) (by kernel_rfl) (fun _ _ _ h => h) (Or.inl ⟨by rfl, fun w hSw => by go_simp⟩) hH8 ?_
    try simp only [Act.put, List.setIfInBounds_toArray, List.set_cons_zero, List.set_cons_succ]
    refine wpAnyH_done (by kernel_rfl) ?_ _
    try simp only [Act.put, List.setIfInBounds_toArray, List.set_cons_zero, List.set_cons_succ]
    have HZ := Aside0.mk (HK.out.step hH8).1
    clear hH8 ka kb kc kd kx ky ku kv
    go_wp2
    go_ret
    exact ⟨rfl, HZ.out⟩
  · have hW1 := heap_alloc2_old w (.cells (tabV xs l) 39) (.cells (tabV ys m) 39)
    have hW2 := heap_alloc2_new w (.cells (tabV xs l) 39) (.cells (tabV ys m) 39)
    have hW3 : Below w.heap.size w ((w.alloc (.cells (tabV xs l) 39)).alloc (.cells (tabV ys m) 39)) := below_alloc (below_alloc (Below.refl _ _) _) _
    generalize (w.alloc (.cells (tabV xs l) 39)).alloc (.cells (tabV ys m) 39) = W0 at hW1 hW2 hW3 ⊢
    have HW := Aside0.mk (And.intro hW3 (And.intro hW1 hW2))
    clear hW1 hW2 hW3
    have hix := tab_info44 xs l hx
    have hiy := tab_info44 ys m hy
    have hzx : Try.zeroCells44.size = (tabV xs l).size := tab_zero44 xs l hx
    have hzy : Try.zeroCells44.size = (tabV ys m).size := tab_zero44 ys m hy
    have hox := tab_one xs l
    have hoy := tab_one ys m
    have ka : ∀ V : World, Below W0.heap.size W0 V → (Instr.loadAt 39 (.pointer (some ⟨w.heap.size, 0, none⟩))).run Try.prog V = .ok (.agg (tabV xs l)) V := fun V h => load39 ((h.block _ (Array.getElem?_eq_some_iff.1 HW.out.2.1).1).trans HW.out.2.1) (tab_info39 xs l hx)
    have kb : ∀ V : World, Below W0.heap.size W0 V → (Instr.loadAt 39 (.pointer (some ⟨w.heap.size + 1, 0, none⟩))).run Try.prog V = .ok (.agg (tabV ys m)) V := fun V h => load39 ((h.block _ (Array.getElem?_eq_some_iff.1 HW.out.2.2).1).trans HW.out.2.2) (tab_info39 ys m hy)
    have KX := Aside0.mk (fun V => of_calls xs l V hx)
    have KY := Aside0.mk (fun V => of_calls ys m V hy)
    refine wp_region_held_drew (S := fun V => Below W0.heap.size W0 V) (by kernel_rfl) (below_drew (Below.refl _ _)) (fun hHeld => ?_)
    refine take_at (i := 0) (some 7) (.agg (tabV xs l)) rfl rfl (by kernel_rfl) (by kernel_rfl) (by kernel_rfl) (fun _ _ _ h => by cases h.1) (yieldsIf_load (by rfl) 39 (.tmp 2) rfl (.pointer (some ⟨w.heap.size, 0, none⟩)) rfl _ ka) hHeld ?_
    refine take_at (i := 2) (some 9) (.agg (tabV ys m)) rfl rfl (by kernel_rfl) (by kernel_rfl) (by kernel_rfl) (fun _ _ _ h => by cases h.1) (yieldsIf_load (by rfl) 39 (.tmp 3) rfl (.pointer (some ⟨w.heap.size + 1, 0, none⟩)) rfl _ kb) hHeld ?_
    try simp only [Act.put, List.setIfInBounds_toArray, List.set_cons_zero, List.set_cons_succ]
    generalize W0.drew = V0 at hHeld ⊢
    clear ka kb hr hs
    try simp only [Act.put, List.setIfInBounds_toArray, List.set_cons_zero, List.set_cons_succ]
    refine wpAnyH_ready (rs := [1, 4, 5]) (by kernel_rfl) (by simp) (AllReadyH.cons rfl (fun K hK => ?_) (AllReadyH.cons rfl (fun K hK => ?_) (AllReadyH.cons rfl (fun K hK => ?_) AllReadyH.nil)))
    · go_simp
      refine (KX.out _).mono ?_
      rintro x V1 ⟨rfl, hb⟩
      refine hK.out _ _ (Below.trans hHeld (hb.mono (Below.size hHeld))) (fun hS2 => ?_)
      clear hK K hb hHeld
      try simp only [Act.put, List.setIfInBounds_toArray, List.set_cons_zero, List.set_cons_succ]
      refine wpAnyH_ready (rs := [3, 4, 5]) (by kernel_rfl) (by simp) (AllReadyH.cons rfl (fun K hK => ?_) (AllReadyH.cons rfl (fun K hK => ?_) (AllReadyH.cons rfl (fun K hK => ?_) AllReadyH.nil)))
      · go_simp
        refine (KY.out _).mono ?_
        rintro x V3 ⟨rfl, hb⟩
        refine hK.out _ _ (Below.trans hS2 (hb.mono (Below.size hS2))) (fun hS4 => ?_)
        clear hK K hb hS2
        try simp only [Act.put, List.setIfInBounds_toArray, List.set_cons_zero, List.set_cons_succ]
        refine wpAnyH_ready (rs := [4, 5]) (by kernel_rfl) (by simp) (AllReadyH.cons rfl (fun K hK => ?_) (AllReadyH.cons rfl (fun K hK => ?_) AllReadyH.nil))
        · go_simp
          obtain ⟨V5, hV⟩ : ∃ U, V3.alloc (.cells Try.zeroCells44 44) = U := ⟨_, rfl⟩
          have F4 := Aside0.mk (show V5.heap[V3.heap.size]? = some (.cells Try.zeroCells44 44 (0, 0)) from hV ▸ heap_alloc_new V3 _)
          have G4 := Aside0.mk (show W0.heap.size ≤ V3.heap.size from hS4.size)
          have hN : Below W0.heap.size W0 V5 := hV ▸ hS4.alloc hS4.size _
          rw [hV]
          refine hK.out _ _ hN (fun hS6 => ?_)
          clear hK K hN hV hS4
          try simp only [Act.put, List.setIfInBounds_toArray, List.set_cons_zero, List.set_cons_succ]
          refine wpAnyH_ready (rs := [5]) (by kernel_rfl) (by simp) (AllReadyH.cons rfl (fun K hK => ?_) AllReadyH.nil)
          · go_simp
            obtain ⟨V7, hV⟩ : ∃ U, V5.alloc (.cells Try.zeroCells44 44) = U := ⟨_, rfl⟩
            have F5 := Aside0.mk (show V7.heap[V5.heap.size]? = some (.cells Try.zeroCells44 44 (0, 0)) from hV ▸ heap_alloc_new V5 _)
            have G5 := Aside0.mk (show W0.heap.size ≤ V5.heap.size from hS6.size)
            have NN := Aside0.mk (show V3.heap.size ≠ V5.heap.size from Nat.ne_of_lt (Array.getElem?_eq_some_iff.1 F4.out).1)
            replace F4 := Aside0.mk (show V7.heap[V3.heap.size]? = some (.cells Try.zeroCells44 44 (0, 0)) from hV ▸ (heap_alloc_old V5 _ (Array.getElem?_eq_some_iff.1 F4.out).1).trans F4.out)
            have hN : Below W0.heap.size W0 V7 := hV ▸ hS6.alloc hS6.size _
            rw [hV]
            refine hK.out _ _ hN (fun hS8 => ?_)
            clear hK K hN hV hS6
            try simp only [Act.put, List.setIfInBounds_toArray, List.set_cons_zero, List.set_cons_succ]
            have E1 := setRow_heap V7 V3.heap.size _ (tabV xs l) 44 (0, 0) F4.out
            have E2 := (setRow_other V7 V3.heap.size V5.heap.size (tabV xs l) NN.out.symm).trans F5.out
            have E3 := below_setRow hS8 G4.out (tabV xs l)
            refine wpAnyH_ready (rs := [6]) (by kernel_rfl) (by simp) (AllReadyH.cons rfl (fun K hK => ?_) AllReadyH.nil)
            rw [if_pos (by rfl)]
            refine wp_store_none rfl 44 (.tmp 5) (.tmp 8) rfl V3.heap.size _ rfl rfl 44 _ F4.out hix hzx hox ?_
            generalize V7.setRow V3.heap.size (tabV xs l) = U at E1 E2 E3 ⊢
            refine hK.out _ _ E3 (fun hT => ?_)
            clear hK K
            try simp only [Act.put, List.setIfInBounds_toArray, List.set_cons_zero, List.set_cons_succ]
            have D1 := (setRow_other U V5.heap.size V3.heap.size (tabV ys m) NN.out).trans E1
            have D2 := setRow_heap U V5.heap.size _ (tabV ys m) 44 (0, 0) E2
            have D3 := below_setRow hT G5.out (tabV ys m)
            refine wpAnyH_ready (rs := [7]) (by kernel_rfl) (by simp) (AllReadyH.cons rfl (fun K hK => ?_) AllReadyH.nil)
            rw [if_pos (by rfl)]
            refine wp_store_none rfl 44 (.tmp 6) (.tmp 10) rfl V5.heap.size _ rfl rfl 44 _ E2 hiy hzy hoy ?_
            refine hK.out _ _ D3 (fun hU => ?_)
            clear hK K
            refine wpAnyH_done (by kernel_rfl) ?_ _
            try simp only [Act.put, List.setIfInBounds_toArray, List.set_cons_zero, List.set_cons_succ]
            exact ⟨by trivial, V3.heap.size, V5.heap.size, rfl, HW.out.1.trans (hU.mono HW.out.1.size), (hU.block _ (Array.getElem?_eq_some_iff.1 HW.out.2.1).1).trans HW.out.2.1, (hU.block _ (Array.getElem?_eq_some_iff.1 HW.out.2.2).1).trans HW.out.2.2, D1, D2⟩
        · go_simp
          obtain ⟨V9, hV⟩ : ∃ U, V3.alloc (.cells Try.zeroCells44 44) = U := ⟨_, rfl⟩
          have F5 := Aside0.mk (show V9.heap[V3.heap.size]? = some (.cells Try.zeroCells44 44 (0, 0)) from hV ▸ heap_alloc_new V3 _)
          have G5 := Aside0.mk (show W0.heap.size ≤ V3.heap.size from hS4.size)
          have hN : Below W0.heap.size W0 V9 := hV ▸ hS4.alloc hS4.size _
          rw [hV]
          refine hK.out _ _ hN (fun hS10 => ?_)
          clear hK K hN hV hS4
          try simp only [Act.put, List.setIfInBounds_toArray, List.set_cons_zero, List.set_cons_succ]
          refine wpAnyH_ready (rs := [4]) (by kernel_rfl) (by simp) (AllReadyH.cons rfl (fun K hK => ?_) AllReadyH.nil)
          · go_simp
            obtain ⟨V11, hV⟩ : ∃ U, V9.alloc (.cells Try.zeroCells44 44) = U := ⟨_, rfl⟩
            have F4 := Aside0.mk (show V11.heap[V9.heap.size]? = some (.cells Try.zeroCells44 44 (0, 0)) from hV ▸ heap_alloc_new V9 _)
            have G4 := Aside0.mk (show W0.heap.size ≤ V9.heap.size from hS10.size)
            have NN := Aside0.mk (show V9.heap.size ≠ V3.heap.size from Nat.ne_of_gt (Array.getElem?_eq_some_iff.1 F5.out).1)
            replace F5 := Aside0.mk (show V11.heap[V3.heap.size]? = some (.cells Try.zeroCells44 44 (0, 0)) from hV ▸ (heap_alloc_old V9 _ (Array.getElem?_eq_some_iff.1 F5.out).1).trans F5.out)
            have hN : Below W0.heap.size W0 V11 := hV ▸ hS10.alloc hS10.size _
            rw [hV]
            refine hK.out _ _ hN (fun hS12 => ?_)
            clear hK K hN hV hS10
            try simp only [Act.put, List.setIfInBounds_toArray, List.set_cons_zero, List.set_cons_succ]
            have E1 := setRow_heap V11 V9.heap.size _ (tabV xs l) 44 (0, 0) F4.out
            have E2 := (setRow_other V11 V9.heap.size V3.heap.size (tabV xs l) NN.out.symm).trans F5.out
            have E3 := below_setRow hS12 G4.out (tabV xs l)
            refine wpAnyH_ready (rs := [6]) (by kernel_rfl) (by simp) (AllReadyH.cons rfl (fun K hK => ?_) AllReadyH.nil)
            rw [if_pos (by rfl)]
            refine wp_store_none rfl 44 (.tmp 5) (.tmp 8) rfl V9.heap.size _ rfl rfl 44 _ F4.out hix hzx hox ?_
            generalize V11.setRow V9.heap.size (tabV xs l) = U at E1 E2 E3 ⊢
            refine hK.out _ _ E3 (fun hT => ?_)
            clear hK K
            try simp only [Act.put, List.setIfInBounds_toArray, List.set_cons_zero, List.set_cons_succ]
            have D1 := (setRow_other U V3.heap.size V9.heap.size (tabV ys m) NN.out).trans E1
            have D2 := setRow_heap U V3.heap.size _ (tabV ys m) 44 (0, 0) E2
            have D3 := below_setRow hT G5.out (tabV ys m)
            refine wpAnyH_ready (rs := [7]) (by kernel_rfl) (by simp) (AllReadyH.cons rfl (fun K hK => ?_) AllReadyH.nil)
            rw [if_pos (by rfl)]
            refine wp_store_none rfl 44 (.tmp 6) (.tmp 10) rfl V3.heap.size _ rfl rfl 44 _ E2 hiy hzy hoy ?_
            refine hK.out _ _ D3 (fun hU => ?_)
            clear hK K
            refine wpAnyH_done (by kernel_rfl) ?_ _
            try simp only [Act.put, List.setIfInBounds_toArray, List.set_cons_zero, List.set_cons_succ]
            exact ⟨by trivial, V9.heap.size, V3.heap.size, rfl, HW.out.1.trans (hU.mono HW.out.1.size), (hU.block _ (Array.getElem?_eq_some_iff.1 HW.out.2.1).1).trans HW.out.2.1, (hU.block _ (Array.getElem?_eq_some_iff.1 HW.out.2.2).1).trans HW.out.2.2, D1, D2⟩
      · go_simp
        obtain ⟨V13, hV⟩ : ∃ U, V1.alloc (.cells Try.zeroCells44 44) = U := ⟨_, rfl⟩
        have F4 := Aside0.mk (show V13.heap[V1.heap.size]? = some (.cells Try.zeroCells44 44 (0, 0)) from hV ▸ heap_alloc_new V1 _)
        have G4 := Aside0.mk (show W0.heap.size ≤ V1.heap.size from hS2.size)
        have hN : Below W0.heap.size W0 V13 := hV ▸ hS2.alloc hS2.size _
        rw [hV]
        refine hK.out _ _ hN (fun hS14 => ?_)
        clear hK K hN hV hS2
        try simp only [Act.put, List.setIfInBounds_toArray, List.set_cons_zero, List.set_cons_succ]
        refine wpAnyH_ready (rs := [3, 5]) (by kernel_rfl) (by simp) (AllReadyH.cons rfl (fun K hK => ?_) (AllReadyH.cons rfl (fun K hK => ?_) AllReadyH.nil))
        · go_simp
          refine (KY.out _).mono ?_
          rintro x V15 ⟨rfl, hb⟩
          refine hK.out _ _ (Below.trans hS14 (hb.mono (Below.size hS14))) (fun hS16 => ?_)
          replace F4 := Aside0.mk ((hb.block _ (Array.getElem?_eq_some_iff.1 F4.out).1).trans F4.out)
          clear hK K hb hS14
          try simp only [Act.put, List.setIfInBounds_toArray, List.set_cons_zero, List.set_cons_succ]
          refine wpAnyH_ready (rs := [5]) (by kernel_rfl) (by simp) (AllReadyH.cons rfl (fun K hK => ?_) AllReadyH.nil)
          · go_simp
            obtain ⟨V17, hV⟩ : ∃ U, V15.alloc (.cells Try.zeroCells44 44) = U := ⟨_, rfl⟩
            have F5 := Aside0.mk (show V17.heap[V15.heap.size]? = some (.cells Try.zeroCells44 44 (0, 0)) from hV ▸ heap_alloc_new V15 _)
            have G5 := Aside0.mk (show W0.heap.size ≤ V15.heap.size from hS16.size)
            have NN := Aside0.mk (show V1.heap.size ≠ V15.heap.size from Nat.ne_of_lt (Array.getElem?_eq_some_iff.1 F4.out).1)
            replace F4 := Aside0.mk (show V17.heap[V1.heap.size]? = some (.cells Try.zeroCells44 44 (0, 0)) from hV ▸ (heap_alloc_old V15 _ (Array.getElem?_eq_some_iff.1 F4.out).1).trans F4.out)
            have hN : Below W0.heap.size W0 V17 := hV ▸ hS16.alloc hS16.size _
            rw [hV]
            refine hK.out _ _ hN (fun hS18 => ?_)
            clear hK K hN hV hS16
            try simp only [Act.put, List.setIfInBounds_toArray, List.set_cons_zero, List.set_cons_succ]
            have E1 := setRow_heap V17 V1.heap.size _ (tabV xs l) 44 (0, 0) F4.out
            have E2 := (setRow_other V17 V1.heap.size V15.heap.size (tabV xs l) NN.out.symm).trans F5.out
            have E3 := below_setRow hS18 G4.out (tabV xs l)
            refine wpAnyH_ready (rs := [6]) (by kernel_rfl) (by simp) (AllReadyH.cons rfl (fun K hK => ?_) AllReadyH.nil)
            rw [if_pos (by rfl)]
            refine wp_store_none rfl 44 (.tmp 5) (.tmp 8) rfl V1.heap.size _ rfl rfl 44 _ F4.out hix hzx hox ?_
            generalize V17.setRow V1.heap.size (tabV xs l) = U at E1 E2 E3 ⊢
            refine hK.out _ _ E3 (fun hT => ?_)
            clear hK K
            try simp only [Act.put, List.setIfInBounds_toArray, List.set_cons_zero, List.set_cons_succ]
            have D1 := (setRow_other U V15.heap.size V1.heap.size (tabV ys m) NN.out).trans E1
            have D2 := setRow_heap U V15.heap.size _ (tabV ys m) 44 (0, 0) E2
            have D3 := below_setRow hT G5.out (tabV ys m)
            refine wpAnyH_ready (rs := [7]) (by kernel_rfl) (by simp) (AllReadyH.cons rfl (fun K hK => ?_) AllReadyH.nil)
            rw [if_pos (by rfl)]
            refine wp_store_none rfl 44 (.tmp 6) (.tmp 10) rfl V15.heap.size _ rfl rfl 44 _ E2 hiy hzy hoy ?_
            refine hK.out _ _ D3 (fun hU => ?_)
            clear hK K
            refine wpAnyH_done (by kernel_rfl) ?_ _
            try simp only [Act.put, List.setIfInBounds_toArray, List.set_cons_zero, List.set_cons_succ]
            exact ⟨by trivial, V1.heap.size, V15.heap.size, rfl, HW.out.1.trans (hU.mono HW.out.1.size), (hU.block _ (Array.getElem?_eq_some_iff.1 HW.out.2.1).1).trans HW.out.2.1, (hU.block _ (Array.getElem?_eq_some_iff.1 HW.out.2.2).1).trans HW.out.2.2, D1, D2⟩
        · go_simp
          obtain ⟨V19, hV⟩ : ∃ U, V13.alloc (.cells Try.zeroCells44 44) = U := ⟨_, rfl⟩
          have F5 := Aside0.mk (show V19.heap[V13.heap.size]? = some (.cells Try.zeroCells44 44 (0, 0)) from hV ▸ heap_alloc_new V13 _)
          have G5 := Aside0.mk (show W0.heap.size ≤ V13.heap.size from hS14.size)
          have NN := Aside0.mk (show V1.heap.size ≠ V13.heap.size from Nat.ne_of_lt (Array.getElem?_eq_some_iff.1 F4.out).1)
          replace F4 := Aside0.mk (show V19.heap[V1.heap.size]? = some (.cells Try.zeroCells44 44 (0, 0)) from hV ▸ (heap_alloc_old V13 _ (Array.getElem?_eq_some_iff.1 F4.out).1).trans F4.out)
          have hN : Below W0.heap.size W0 V19 := hV ▸ hS14.alloc hS14.size _
          rw [hV]
          refine hK.out _ _ hN (fun hS20 => ?_)
          clear hK K hN hV hS14
          try simp only [Act.put, List.setIfInBounds_toArray, List.set_cons_zero, List.set_cons_succ]
          refine wpAnyH_ready (rs := [3]) (by kernel_rfl) (by simp) (AllReadyH.cons rfl (fun K hK => ?_) AllReadyH.nil)
          · go_simp
            refine (KY.out _).mono ?_
            rintro x V21 ⟨rfl, hb⟩
            refine hK.out _ _ (Below.trans hS20 (hb.mono (Below.size hS20))) (fun hS22 => ?_)
            replace F4 := Aside0.mk ((hb.block _ (Array.getElem?_eq_some_iff.1 F4.out).1).trans F4.out)
            replace F5 := Aside0.mk ((hb.block _ (Array.getElem?_eq_some_iff.1 F5.out).1).trans F5.out)
            clear hK K hb hS20
            try simp only [Act.put, List.setIfInBounds_toArray, List.set_cons_zero, List.set_cons_succ]
            have E1 := setRow_heap V21 V1.heap.size _ (tabV xs l) 44 (0, 0) F4.out
            have E2 := (setRow_other V21 V1.heap.size V13.heap.size (tabV xs l) NN.out.symm).trans F5.out
            have E3 := below_setRow hS22 G4.out (tabV xs l)
            refine wpAnyH_ready (rs := [6]) (by kernel_rfl) (by simp) (AllReadyH.cons rfl (fun K hK => ?_) AllReadyH.nil)
            rw [if_pos (by rfl)]
            refine wp_store_none rfl 44 (.tmp 5) (.tmp 8) rfl V1.heap.size _ rfl rfl 44 _ F4.out hix hzx hox ?_
            generalize V21.setRow V1.heap.size (tabV xs l) = U at E1 E2 E3 ⊢
            refine hK.out _ _ E3 (fun hT => ?_)
            clear hK K
            try simp only [Act.put, List.setIfInBounds_toArray, List.set_cons_zero, List.set_cons_succ]
            have D1 := (setRow_other U V13.heap.size V1.heap.size (tabV ys m) NN.out).trans E1
            have D2 := setRow_heap U V13.heap.size _ (tabV ys m) 44 (0, 0) E2
            have D3 := below_setRow hT G5.out (tabV ys m)
            refine wpAnyH_ready (rs := [7]) (by kernel_rfl) (by simp) (AllReadyH.cons rfl (fun K hK => ?_) AllReadyH.nil)
            rw [if_pos (by rfl)]
            refine wp_store_none rfl 44 (.tmp 6) (.tmp 10) rfl V13.heap.size _ rfl rfl 44 _ E2 hiy hzy hoy ?_
            refine hK.out _ _ D3 (fun hU => ?_)
            clear hK K
            refine wpAnyH_done (by kernel_rfl) ?_ _
            try simp only [Act.put, List.setIfInBounds_toArray, List.set_cons_zero, List.set_cons_succ]
            exact ⟨by trivial, V1.heap.size, V13.heap.size, rfl, HW.out.1.trans (hU.mono HW.out.1.size), (hU.block _ (Array.getElem?_eq_some_iff.1 HW.out.2.1).1).trans HW.out.2.1, (hU.block _ (Array.getElem?_eq_some_iff.1 HW.out.2.2).1).trans HW.out.2.2, D1, D2⟩
      · go_simp
        obtain ⟨V23, hV⟩ : ∃ U, V1.alloc (.cells Try.zeroCells44 44) = U := ⟨_, rfl⟩
        have F5 := Aside0.mk (show V23.heap[V1.heap.size]? = some (.cells Try.zeroCells44 44 (0, 0)) from hV ▸ heap_alloc_new V1 _)
        have G5 := Aside0.mk (show W0.heap.size ≤ V1.heap.size from hS2.size)
        have hN : Below W0.heap.size W0 V23 := hV ▸ hS2.alloc hS2.size _
        rw [hV]
        refine hK.out _ _ hN (fun hS24 => ?_)
        clear hK K hN hV hS2
        try simp only [Act.put, List.setIfInBounds_toArray, List.set_cons_zero, List.set_cons_succ]
        refine wpAnyH_ready (rs := [3, 4]) (by kernel_rfl) (by simp) (AllReadyH.cons rfl (fun K hK => ?_) (AllReadyH.cons rfl (fun K hK => ?_) AllReadyH.nil))
        · go_simp
          refine (KY.out _).mono ?_
          rintro x V25 ⟨rfl, hb⟩
          refine hK.out _ _ (Below.trans hS24 (hb.mono (Below.size hS24))) (fun hS26 => ?_)
          replace F5 := Aside0.mk ((hb.block _ (Array.getElem?_eq_some_iff.1 F5.out).1).trans F5.out)
          clear hK K hb hS24
          try simp only [Act.put, List.setIfInBounds_toArray, List.set_cons_zero, List.set_cons_succ]
          refine wpAnyH_ready (rs := [4]) (by kernel_rfl) (by simp) (AllReadyH.cons rfl (fun K hK => ?_) AllReadyH.nil)
          · go_simp
            obtain ⟨V27, hV⟩ : ∃ U, V25.alloc (.cells Try.zeroCells44 44) = U := ⟨_, rfl⟩
            have F4 := Aside0.mk (show V27.heap[V25.heap.size]? = some (.cells Try.zeroCells44 44 (0, 0)) from hV ▸ heap_alloc_new V25 _)
            have G4 := Aside0.mk (show W0.heap.size ≤ V25.heap.size from hS26.size)
            have NN := Aside0.mk (show V25.heap.size ≠ V1.heap.size from Nat.ne_of_gt (Array.getElem?_eq_some_iff.1 F5.out).1)
            replace F5 := Aside0.mk (show V27.heap[V1.heap.size]? = some (.cells Try.zeroCells44 44 (0, 0)) from hV ▸ (heap_alloc_old V25 _ (Array.getElem?_eq_some_iff.1 F5.out).1).trans F5.out)
            have hN : Below W0.heap.size W0 V27 := hV ▸ hS26.alloc hS26.size _
            rw [hV]
            refine hK.out _ _ hN (fun hS28 => ?_)
            clear hK K hN hV hS26
            try simp only [Act.put, List.setIfInBounds_toArray, List.set_cons_zero, List.set_cons_succ]
            have E1 := setRow_heap V27 V25.heap.size _ (tabV xs l) 44 (0, 0) F4.out
            have E2 := (setRow_other V27 V25.heap.size V1.heap.size (tabV xs l) NN.out.symm).trans F5.out
            have E3 := below_setRow hS28 G4.out (tabV xs l)
            refine wpAnyH_ready (rs := [6]) (by kernel_rfl) (by simp) (AllReadyH.cons rfl (fun K hK => ?_) AllReadyH.nil)
            rw [if_pos (by rfl)]
            refine wp_store_none rfl 44 (.tmp 5) (.tmp 8) rfl V25.heap.size _ rfl rfl 44 _ F4.out hix hzx hox ?_
            generalize V27.setRow V25.heap.size (tabV xs l) = U at E1 E2 E3 ⊢
            refine hK.out _ _ E3 (fun hT => ?_)
            clear hK K
            try simp only [Act.put, List.setIfInBounds_toArray, List.set_cons_zero, List.set_cons_succ]
            have D1 := (setRow_other U V1.heap.size V25.heap.size (tabV ys m) NN.out).trans E1
            have D2 := setRow_heap U V1.heap.size _ (tabV ys m) 44 (0, 0) E2
            have D3 := below_setRow hT G5.out (tabV ys m)
            refine wpAnyH_ready (rs := [7]) (by kernel_rfl) (by simp) (AllReadyH.cons rfl (fun K hK => ?_) AllReadyH.nil)
            rw [if_pos (by rfl)]
            refine wp_store_none rfl 44 (.tmp 6) (.tmp 10) rfl V1.heap.size _ rfl rfl 44 _ E2 hiy hzy hoy ?_
            refine hK.out _ _ D3 (fun hU => ?_)
            clear hK K
            refine wpAnyH_done (by kernel_rfl) ?_ _
            try simp only [Act.put, List.setIfInBounds_toArray, List.set_cons_zero, List.set_cons_succ]
            exact ⟨by trivial, V25.heap.size, V1.heap.size, rfl, HW.out.1.trans (hU.mono HW.out.1.size), (hU.block _ (Array.getElem?_eq_some_iff.1 HW.out.2.1).1).trans HW.out.2.1, (hU.block _ (Array.getElem?_eq_some_iff.1 HW.out.2.2).1).trans HW.out.2.2, D1, D2⟩
        · go_simp
          obtain ⟨V29, hV⟩ : ∃ U, V23.alloc (.cells Try.zeroCells44 44) = U := ⟨_, rfl⟩
          have F4 := Aside0.mk (show V29.heap[V23.heap.size]? = some (.cells Try.zeroCells44 44 (0, 0)) from hV ▸ heap_alloc_new V23 _)
          have G4 := Aside0.mk (show W0.heap.size ≤ V23.heap.size from hS24.size)
          have NN := Aside0.mk (show V23.heap.size ≠ V1.heap.size from Nat.ne_of_gt (Array.getElem?_eq_some_iff.1 F5.out).1)
          replace F5 := Aside0.mk (show V29.heap[V1.heap.size]? = some (.cells Try.zeroCells44 44 (0, 0)) from hV ▸ (heap_alloc_old V23 _ (Array.getElem?_eq_some_iff.1 F5.out).1).trans F5.out)
          have hN : Below W0.heap.size W0 V29 := hV ▸ hS24.alloc hS24.size _
          rw [hV]
          refine hK.out _ _ hN (fun hS30 => ?_)
          clear hK K hN hV hS24
          try simp only [Act.put, List.setIfInBounds_toArray, List.set_cons_zero, List.set_cons_succ]
          refine wpAnyH_ready (rs := [3]) (by kernel_rfl) (by simp) (AllReadyH.cons rfl (fun K hK => ?_) AllReadyH.nil)
          · go_simp
            refine (KY.out _).mono ?_
            rintro x V31 ⟨rfl, hb⟩
            refine hK.out _ _ (Below.trans hS30 (hb.mono (Below.size hS30))) (fun hS32 => ?_)
            replace F4 := Aside0.mk ((hb.block _ (Array.getElem?_eq_some_iff.1 F4.out).1).trans F4.out)
            replace F5 := Aside0.mk ((hb.block _ (Array.getElem?_eq_some_iff.1 F5.out).1).trans F5.out)
            clear hK K hb hS30
            try simp only [Act.put, List.setIfInBounds_toArray, List.set_cons_zero, List.set_cons_succ]
            have E1 := setRow_heap V31 V23.heap.size _ (tabV xs l) 44 (0, 0) F4.out
            have E2 := (setRow_other V31 V23.heap.size V1.heap.size (tabV xs l) NN.out.symm).trans F5.out
            have E3 := below_setRow hS32 G4.out (tabV xs l)
            refine wpAnyH_ready (rs := [6]) (by kernel_rfl) (by simp) (AllReadyH.cons rfl (fun K hK => ?_) AllReadyH.nil)
            rw [if_pos (by rfl)]
            refine wp_store_none rfl 44 (.tmp 5) (.tmp 8) rfl V23.heap.size _ rfl rfl 44 _ F4.out hix hzx hox ?_
            generalize V31.setRow V23.heap.size (tabV xs l) = U at E1 E2 E3 ⊢
            refine hK.out _ _ E3 (fun hT => ?_)
            clear hK K
            try simp only [Act.put, List.setIfInBounds_toArray, List.set_cons_zero, List.set_cons_succ]
            have D1 := (setRow_other U V1.heap.size V23.heap.size (tabV ys m) NN.out).trans E1
            have D2 := setRow_heap U V1.heap.size _ (tabV ys m) 44 (0, 0) E2
            have D3 := below_setRow hT G5.out (tabV ys m)
            refine wpAnyH_ready (rs := [7]) (by kernel_rfl) (by simp) (AllReadyH.cons rfl (fun K hK => ?_) AllReadyH.nil)
            rw [if_pos (by rfl)]
            refine wp_store_none rfl 44 (.tmp 6) (.tmp 10) rfl V1.heap.size _ rfl rfl 44 _ E2 hiy hzy hoy ?_
            refine hK.out _ _ D3 (fun hU => ?_)
            clear hK K
            refine wpAnyH_done (by kernel_rfl) ?_ _
            try simp only [Act.put, List.setIfInBounds_toArray, List.set_cons_zero, List.set_cons_succ]
            exact ⟨by trivial, V23.heap.size, V1.heap.size, rfl, HW.out.1.trans (hU.mono HW.out.1.size), (hU.block _ (Array.getElem?_eq_some_iff.1 HW.out.2.1).1).trans HW.out.2.1, (hU.block _ (Array.getElem?_eq_some_iff.1 HW.out.2.2).1).trans HW.out.2.2, D1, D2⟩
    · go_simp
      obtain ⟨V33, hV⟩ : ∃ U, V0.alloc (.cells Try.zeroCells44 44) = U := ⟨_, rfl⟩
      have F4 := Aside0.mk (show V33.heap[V0.heap.size]? = some (.cells Try.zeroCells44 44 (0, 0)) from hV ▸ heap_alloc_new V0 _)
      have G4 := Aside0.mk (show W0.heap.size ≤ V0.heap.size from hHeld.size)
      have hN : Below W0.heap.size W0 V33 := hV ▸ hHeld.alloc hHeld.size _
      rw [hV]
      refine hK.out _ _ hN (fun hS34 => ?_)
      clear hK K hN hV hHeld
      try simp only [Act.put, List.setIfInBounds_toArray, List.set_cons_zero, List.set_cons_succ]
      refine wpAnyH_ready (rs := [1, 5]) (by kernel_rfl) (by simp) (AllReadyH.cons rfl (fun K hK => ?_) (AllReadyH.cons rfl (fun K hK => ?_) AllReadyH.nil))
      · go_simp
        refine (KX.out _).mono ?_
        rintro x V35 ⟨rfl, hb⟩
        refine hK.out _ _ (Below.trans hS34 (hb.mono (Below.size hS34))) (fun hS36 => ?_)
        replace F4 := Aside0.mk ((hb.block _ (Array.getElem?_eq_some_iff.1 F4.out).1).trans F4.out)
        clear hK K hb hS34
        try simp only [Act.put, List.setIfInBounds_toArray, List.set_cons_zero, List.set_cons_succ]
        refine wpAnyH_ready (rs := [3, 5]) (by kernel_rfl) (by simp) (AllReadyH.cons rfl (fun K hK => ?_) (AllReadyH.cons rfl (fun K hK => ?_) AllReadyH.nil))
        · go_simp
          refine (KY.out _).mono ?_
          rintro x V37 ⟨rfl, hb⟩
          refine hK.out _ _ (Below.trans hS36 (hb.mono (Below.size hS36))) (fun hS38 => ?_)
          replace F4 := Aside0.mk ((hb.block _ (Array.getElem?_eq_some_iff.1 F4.out).1).trans F4.out)
          clear hK K hb hS36
          try simp only [Act.put, List.setIfInBounds_toArray, List.set_cons_zero, List.set_cons_succ]
          refine wpAnyH_ready (rs := [5]) (by kernel_rfl) (by simp) (AllReadyH.cons rfl (fun K hK => ?_) AllReadyH.nil)
          · go_simp
            obtain ⟨V39, hV⟩ : ∃ U, V37.alloc (.cells Try.zeroCells44 44) = U := ⟨_, rfl⟩
            have F5 := Aside0.mk (show V39.heap[V37.heap.size]? = some (.cells Try.zeroCells44 44 (0, 0)) from hV ▸ heap_alloc_new V37 _)
            have G5 := Aside0.mk (show W0.heap.size ≤ V37.heap.size from hS38.size)
            have NN := Aside0.mk (show V0.heap.size ≠ V37.heap.size from Nat.ne_of_lt (Array.getElem?_eq_some_iff.1 F4.out).1)
            replace F4 := Aside0.mk (show V39.heap[V0.heap.size]? = some (.cells Try.zeroCells44 44 (0, 0)) from hV ▸ (heap_alloc_old V37 _ (Array.getElem?_eq_some_iff.1 F4.out).1).trans F4.out)
            have hN : Below W0.heap.size W0 V39 := hV ▸ hS38.alloc hS38.size _
            rw [hV]
            refine hK.out _ _ hN (fun hS40 => ?_)
            clear hK K hN hV hS38
            try simp only [Act.put, List.setIfInBounds_toArray, List.set_cons_zero, List.set_cons_succ]
            have E1 := setRow_heap V39 V0.heap.size _ (tabV xs l) 44 (0, 0) F4.out
            have E2 := (setRow_other V39 V0.heap.size V37.heap.size (tabV xs l) NN.out.symm).trans F5.out
            have E3 := below_setRow hS40 G4.out (tabV xs l)
            refine wpAnyH_ready (rs := [6]) (by kernel_rfl) (by simp) (AllReadyH.cons rfl (fun K hK => ?_) AllReadyH.nil)
            rw [if_pos (by rfl)]
            refine wp_store_none rfl 44 (.tmp 5) (.tmp 8) rfl V0.heap.size _ rfl rfl 44 _ F4.out hix hzx hox ?_
            generalize V39.setRow V0.heap.size (tabV xs l) = U at E1 E2 E3 ⊢
            refine hK.out _ _ E3 (fun hT => ?_)
            clear hK K
            try simp only [Act.put, List.setIfInBounds_toArray, List.set_cons_zero, List.set_cons_succ]
            have D1 := (setRow_other U V37.heap.size V0.heap.size (tabV ys m) NN.out).trans E1
            have D2 := setRow_heap U V37.heap.size _ (tabV ys m) 44 (0, 0) E2
            have D3 := below_setRow hT G5.out (tabV ys m)
            refine wpAnyH_ready (rs := [7]) (by kernel_rfl) (by simp) (AllReadyH.cons rfl (fun K hK => ?_) AllReadyH.nil)
            rw [if_pos (by rfl)]
            refine wp_store_none rfl 44 (.tmp 6) (.tmp 10) rfl V37.heap.size _ rfl rfl 44 _ E2 hiy hzy hoy ?_
            refine hK.out _ _ D3 (fun hU => ?_)
            clear hK K
            refine wpAnyH_done (by kernel_rfl) ?_ _
            try simp only [Act.put, List.setIfInBounds_toArray, List.set_cons_zero, List.set_cons_succ]
            exact ⟨by trivial, V0.heap.size, V37.heap.size, rfl, HW.out.1.trans (hU.mono HW.out.1.size), (hU.block _ (Array.getElem?_eq_some_iff.1 HW.out.2.1).1).trans HW.out.2.1, (hU.block _ (Array.getElem?_eq_some_iff.1 HW.out.2.2).1).trans HW.out.2.2, D1, D2⟩
        · go_simp
          obtain ⟨V41, hV⟩ : ∃ U, V35.alloc (.cells Try.zeroCells44 44) = U := ⟨_, rfl⟩
          have F5 := Aside0.mk (show V41.heap[V35.heap.size]? = some (.cells Try.zeroCells44 44 (0, 0)) from hV ▸ heap_alloc_new V35 _)
          have G5 := Aside0.mk (show W0.heap.size ≤ V35.heap.size from hS36.size)
          have NN := Aside0.mk (show V0.heap.size ≠ V35.heap.size from Nat.ne_of_lt (Array.getElem?_eq_some_iff.1 F4.out).1)
          replace F4 := Aside0.mk (show V41.heap[V0.heap.size]? = some (.cells Try.zeroCells44 44 (0, 0)) from hV ▸ (heap_alloc_old V35 _ (Array.getElem?_eq_some_iff.1 F4.out).1).trans F4.out)
          have hN : Below W0.heap.size W0 V41 := hV ▸ hS36.alloc hS36.size _
          rw [hV]
          refine hK.out _ _ hN (fun hS42 => ?_)
          clear hK K hN hV hS36
          try simp only [Act.put, List.setIfInBounds_toArray, List.set_cons_zero, List.set_cons_succ]
          refine wpAnyH_ready (rs := [3]) (by kernel_rfl) (by simp) (AllReadyH.cons rfl (fun K hK => ?_) AllReadyH.nil)
          · go_simp
            refine (KY.out _).mono ?_
            rintro x V43 ⟨rfl, hb⟩
            refine hK.out _ _ (Below.trans hS42 (hb.mono (Below.size hS42))) (fun hS44 => ?_)
            replace F4 := Aside0.mk ((hb.block _ (Array.getElem?_eq_some_iff.1 F4.out).1).trans F4.out)
            replace F5 := Aside0.mk ((hb.block _ (Array.getElem?_eq_some_iff.1 F5.out).1).trans F5.out)
            clear hK K hb hS42
            try simp only [Act.put, List.setIfInBounds_toArray, List.set_cons_zero, List.set_cons_succ]
            have E1 := setRow_heap V43 V0.heap.size _ (tabV xs l) 44 (0, 0) F4.out
            have E2 := (setRow_other V43 V0.heap.size V35.heap.size (tabV xs l) NN.out.symm).trans F5.out
            have E3 := below_setRow hS44 G4.out (tabV xs l)
            refine wpAnyH_ready (rs := [6]) (by kernel_rfl) (by simp) (AllReadyH.cons rfl (fun K hK => ?_) AllReadyH.nil)
            rw [if_pos (by rfl)]
            refine wp_store_none rfl 44 (.tmp 5) (.tmp 8) rfl V0.heap.size _ rfl rfl 44 _ F4.out hix hzx hox ?_
            generalize V43.setRow V0.heap.size (tabV xs l) = U at E1 E2 E3 ⊢
            refine hK.out _ _ E3 (fun hT => ?_)
            clear hK K
            try simp only [Act.put, List.setIfInBounds_toArray, List.set_cons_zero, List.set_cons_succ]
            have D1 := (setRow_other U V35.heap.size V0.heap.size (tabV ys m) NN.out).trans E1
            have D2 := setRow_heap U V35.heap.size _ (tabV ys m) 44 (0, 0) E2
            have D3 := below_setRow hT G5.out (tabV ys m)
            refine wpAnyH_ready (rs := [7]) (by kernel_rfl) (by simp) (AllReadyH.cons rfl (fun K hK => ?_) AllReadyH.nil)
            rw [if_pos (by rfl)]
            refine wp_store_none rfl 44 (.tmp 6) (.tmp 10) rfl V35.heap.size _ rfl rfl 44 _ E2 hiy hzy hoy ?_
            refine hK.out _ _ D3 (fun hU => ?_)
            clear hK K
            refine wpAnyH_done (by kernel_rfl) ?_ _
            try simp only [Act.put, List.setIfInBounds_toArray, List.set_cons_zero, List.set_cons_succ]
            exact ⟨by trivial, V0.heap.size, V35.heap.size, rfl, HW.out.1.trans (hU.mono HW.out.1.size), (hU.block _ (Array.getElem?_eq_some_iff.1 HW.out.2.1).1).trans HW.out.2.1, (hU.block _ (Array.getElem?_eq_some_iff.1 HW.out.2.2).1).trans HW.out.2.2, D1, D2⟩
      · go_simp
        obtain ⟨V45, hV⟩ : ∃ U, V33.alloc (.cells Try.zeroCells44 44) = U := ⟨_, rfl⟩
        have F5 := Aside0.mk (show V45.heap[V33.heap.size]? = some (.cells Try.zeroCells44 44 (0, 0)) from hV ▸ heap_alloc_new V33 _)
        have G5 := Aside0.mk (show W0.heap.size ≤ V33.heap.size from hS34.size)
        have NN := Aside0.mk (show V0.heap.size ≠ V33.heap.size from Nat.ne_of_lt (Array.getElem?_eq_some_iff.1 F4.out).1)
        replace F4 := Aside0.mk (show V45.heap[V0.heap.size]? = some (.cells Try.zeroCells44 44 (0, 0)) from hV ▸ (heap_alloc_old V33 _ (Array.getElem?_eq_some_iff.1 F4.out).1).trans F4.out)
        have hN : Below W0.heap.size W0 V45 := hV ▸ hS34.alloc hS34.size _
        rw [hV]
        refine hK.out _ _ hN (fun hS46 => ?_)
        clear hK K hN hV hS34
        try simp only [Act.put, List.setIfInBounds_toArray, List.set_cons_zero, List.set_cons_succ]
        refine wpAnyH_ready (rs := [1]) (by kernel_rfl) (by simp) (AllReadyH.cons rfl (fun K hK => ?_) AllReadyH.nil)
        · go_simp
          refine (KX.out _).mono ?_
          rintro x V47 ⟨rfl, hb⟩
          refine hK.out _ _ (Below.trans hS46 (hb.mono (Below.size hS46))) (fun hS48 => ?_)
          replace F4 := Aside0.mk ((hb.block _ (Array.getElem?_eq_some_iff.1 F4.out).1).trans F4.out)
          replace F5 := Aside0.mk ((hb.block _ (Array.getElem?_eq_some_iff.1 F5.out).1).trans F5.out)
          clear hK K hb hS46
          try simp only [Act.put, List.setIfInBounds_toArray, List.set_cons_zero, List.set_cons_succ]
          refine wpAnyH_ready (rs := [3]) (by kernel_rfl) (by simp) (AllReadyH.cons rfl (fun K hK => ?_) AllReadyH.nil)
          · go_simp
            refine (KY.out _).mono ?_
            rintro x V49 ⟨rfl, hb⟩
            refine hK.out _ _ (Below.trans hS48 (hb.mono (Below.size hS48))) (fun hS50 => ?_)
            replace F4 := Aside0.mk ((hb.block _ (Array.getElem?_eq_some_iff.1 F4.out).1).trans F4.out)
            replace F5 := Aside0.mk ((hb.block _ (Array.getElem?_eq_some_iff.1 F5.out).1).trans F5.out)
            clear hK K hb hS48
            try simp only [Act.put, List.setIfInBounds_toArray, List.set_cons_zero, List.set_cons_succ]
            have E1 := setRow_heap V49 V0.heap.size _ (tabV xs l) 44 (0, 0) F4.out
            have E2 := (setRow_other V49 V0.heap.size V33.heap.size (tabV xs l) NN.out.symm).trans F5.out
            have E3 := below_setRow hS50 G4.out (tabV xs l)
            refine wpAnyH_ready (rs := [6]) (by kernel_rfl) (by simp) (AllReadyH.cons rfl (fun K hK => ?_) AllReadyH.nil)
            rw [if_pos (by rfl)]
            refine wp_store_none rfl 44 (.tmp 5) (.tmp 8) rfl V0.heap.size _ rfl rfl 44 _ F4.out hix hzx hox ?_
            generalize V49.setRow V0.heap.size (tabV xs l) = U at E1 E2 E3 ⊢
            refine hK.out _ _ E3 (fun hT => ?_)
            clear hK K
            try simp only [Act.put, List.setIfInBounds_toArray, List.set_cons_zero, List.set_cons_succ]
            have D1 := (setRow_other U V33.heap.size V0.heap.size (tabV ys m) NN.out).trans E1
            have D2 := setRow_heap U V33.heap.size _ (tabV ys m) 44 (0, 0) E2
            have D3 := below_setRow hT G5.out (tabV ys m)
            refine wpAnyH_ready (rs := [7]) (by kernel_rfl) (by simp) (AllReadyH.cons rfl (fun K hK => ?_) AllReadyH.nil)
            rw [if_pos (by rfl)]
            refine wp_store_none rfl 44 (.tmp 6) (.tmp 10) rfl V33.heap.size _ rfl rfl 44 _ E2 hiy hzy hoy ?_
            refine hK.out _ _ D3 (fun hU => ?_)
            clear hK K
            refine wpAnyH_done (by kernel_rfl) ?_ _
            try simp only [Act.put, List.setIfInBounds_toArray, List.set_cons_zero, List.set_cons_succ]
            exact ⟨by trivial, V0.heap.size, V33.heap.size, rfl, HW.out.1.trans (hU.mono HW.out.1.size), (hU.block _ (Array.getElem?_eq_some_iff.1 HW.out.2.1).1).trans HW.out.2.1, (hU.block _ (Array.getElem?_eq_some_iff.1 HW.out.2.2).1).trans HW.out.2.2, D1, D2⟩
    · go_simp
      obtain ⟨V51, hV⟩ : ∃ U, V0.alloc (.cells Try.zeroCells44 44) = U := ⟨_, rfl⟩
      have F5 := Aside0.mk (show V51.heap[V0.heap.size]? = some (.cells Try.zeroCells44 44 (0, 0)) from hV ▸ heap_alloc_new V0 _)
      have G5 := Aside0.mk (show W0.heap.size ≤ V0.heap.size from hHeld.size)
      have hN : Below W0.heap.size W0 V51 := hV ▸ hHeld.alloc hHeld.size _
      rw [hV]
      refine hK.out _ _ hN (fun hS52 => ?_)
      clear hK K hN hV hHeld
      try simp only [Act.put, List.setIfInBounds_toArray, List.set_cons_zero, List.set_cons_succ]
      refine wpAnyH_ready (rs := [1, 4]) (by kernel_rfl) (by simp) (AllReadyH.cons rfl (fun K hK => ?_) (AllReadyH.cons rfl (fun K hK => ?_) AllReadyH.nil))
      · go_simp
        refine (KX.out _).mono ?_
        rintro x V53 ⟨rfl, hb⟩
        refine hK.out _ _ (Below.trans hS52 (hb.mono (Below.size hS52))) (fun hS54 => ?_)
        replace F5 := Aside0.mk ((hb.block _ (Array.getElem?_eq_some_iff.1 F5.out).1).trans F5.out)
        clear hK K hb hS52
        try simp only [Act.put, List.setIfInBounds_toArray, List.set_cons_zero, List.set_cons_succ]
        refine wpAnyH_ready (rs := [3, 4]) (by kernel_rfl) (by simp) (AllReadyH.cons rfl (fun K hK => ?_) (AllReadyH.cons rfl (fun K hK => ?_) AllReadyH.nil))
        · go_simp
          refine (KY.out _).mono ?_
          rintro x V55 ⟨rfl, hb⟩
          refine hK.out _ _ (Below.trans hS54 (hb.mono (Below.size hS54))) (fun hS56 => ?_)
          replace F5 := Aside0.mk ((hb.block _ (Array.getElem?_eq_some_iff.1 F5.out).1).trans F5.out)
          clear hK K hb hS54
          try simp only [Act.put, List.setIfInBounds_toArray, List.set_cons_zero, List.set_cons_succ]
          refine wpAnyH_ready (rs := [4]) (by kernel_rfl) (by simp) (AllReadyH.cons rfl (fun K hK => ?_) AllReadyH.nil)
          · go_simp
            obtain ⟨V57, hV⟩ : ∃ U, V55.alloc (.cells Try.zeroCells44 44) = U := ⟨_, rfl⟩
            have F4 := Aside0.mk (show V57.heap[V55.heap.size]? = some (.cells Try.zeroCells44 44 (0, 0)) from hV ▸ heap_alloc_new V55 _)
            have G4 := Aside0.mk (show W0.heap.size ≤ V55.heap.size from hS56.size)
            have NN := Aside0.mk (show V55.heap.size ≠ V0.heap.size from Nat.ne_of_gt (Array.getElem?_eq_some_iff.1 F5.out).1)
            replace F5 := Aside0.mk (show V57.heap[V0.heap.size]? = some (.cells Try.zeroCells44 44 (0, 0)) from hV ▸ (heap_alloc_old V55 _ (Array.getElem?_eq_some_iff.1 F5.out).1).trans F5.out)
            have hN : Below W0.heap.size W0 V57 := hV ▸ hS56.alloc hS56.size _
            rw [hV]
            refine hK.out _ _ hN (fun hS58 => ?_)
            clear hK K hN hV hS56
            try simp only [Act.put, List.setIfInBounds_toArray, List.set_cons_zero, List.set_cons_succ]
            have E1 := setRow_heap V57 V55.heap.size _ (tabV xs l) 44 (0, 0) F4.out
            have E2 := (setRow_other V57 V55.heap.size V0.heap.size (tabV xs l) NN.out.symm).trans F5.out
            have E3 := below_setRow hS58 G4.out (tabV xs l)
            refine wpAnyH_ready (rs := [6]) (by kernel_rfl) (by simp) (AllReadyH.cons rfl (fun K hK => ?_) AllReadyH.nil)
            rw [if_pos (by rfl)]
            refine wp_store_none rfl 44 (.tmp 5) (.tmp 8) rfl V55.heap.size _ rfl rfl 44 _ F4.out hix hzx hox ?_
            generalize V57.setRow V55.heap.size (tabV xs l) = U at E1 E2 E3 ⊢
            refine hK.out _ _ E3 (fun hT => ?_)
            clear hK K
            try simp only [Act.put, List.setIfInBounds_toArray, List.set_cons_zero, List.set_cons_succ]
            have D1 := (setRow_other U V0.heap.size V55.heap.size (tabV ys m) NN.out).trans E1
            have D2 := setRow_heap U V0.heap.size _ (tabV ys m) 44 (0, 0) E2
            have D3 := below_setRow hT G5.out (tabV ys m)
            refine wpAnyH_ready (rs := [7]) (by kernel_rfl) (by simp) (AllReadyH.cons rfl (fun K hK => ?_) AllReadyH.nil)
            rw [if_pos (by rfl)]
            refine wp_store_none rfl 44 (.tmp 6) (.tmp 10) rfl V0.heap.size _ rfl rfl 44 _ E2 hiy hzy hoy ?_
            refine hK.out _ _ D3 (fun hU => ?_)
            clear hK K
            refine wpAnyH_done (by kernel_rfl) ?_ _
            try simp only [Act.put, List.setIfInBounds_toArray, List.set_cons_zero, List.set_cons_succ]
            exact ⟨by trivial, V55.heap.size, V0.heap.size, rfl, HW.out.1.trans (hU.mono HW.out.1.size), (hU.block _ (Array.getElem?_eq_some_iff.1 HW.out.2.1).1).trans HW.out.2.1, (hU.block _ (Array.getElem?_eq_some_iff.1 HW.out.2.2).1).trans HW.out.2.2, D1, D2⟩
        · go_simp
          obtain ⟨V59, hV⟩ : ∃ U, V53.alloc (.cells Try.zeroCells44 44) = U := ⟨_, rfl⟩
          have F4 := Aside0.mk (show V59.heap[V53.heap.size]? = some (.cells Try.zeroCells44 44 (0, 0)) from hV ▸ heap_alloc_new V53 _)
          have G4 := Aside0.mk (show W0.heap.size ≤ V53.heap.size from hS54.size)
          have NN := Aside0.mk (show V53.heap.size ≠ V0.heap.size from Nat.ne_of_gt (Array.getElem?_eq_some_iff.1 F5.out).1)
          replace F5 := Aside0.mk (show V59.heap[V0.heap.size]? = some (.cells Try.zeroCells44 44 (0, 0)) from hV ▸ (heap_alloc_old V53 _ (Array.getElem?_eq_some_iff.1 F5.out).1).trans F5.out)
          have hN : Below W0.heap.size W0 V59 := hV ▸ hS54.alloc hS54.size _
          rw [hV]
          refine hK.out _ _ hN (fun hS60 => ?_)
          clear hK K hN hV hS54
          try simp only [Act.put, List.setIfInBounds_toArray, List.set_cons_zero, List.set_cons_succ]
          refine wpAnyH_ready (rs := [3]) (by kernel_rfl) (by simp) (AllReadyH.cons rfl (fun K hK => ?_) AllReadyH.nil)
          · go_simp
            refine (KY.out _).mono ?_
            rintro x V61 ⟨rfl, hb⟩
            refine hK.out _ _ (Below.trans hS60 (hb.mono (Below.size hS60))) (fun hS62 => ?_)
            replace F4 := Aside0.mk ((hb.block _ (Array.getElem?_eq_some_iff.1 F4.out).1).trans F4.out)
            replace F5 := Aside0.mk ((hb.block _ (Array.getElem?_eq_some_iff.1 F5.out).1).trans F5.out)
            clear hK K hb hS60
            try simp only [Act.put, List.setIfInBounds_toArray, List.set_cons_zero, List.set_cons_succ]
            have E1 := setRow_heap V61 V53.heap.size _ (tabV xs l) 44 (0, 0) F4.out
            have E2 := (setRow_other V61 V53.heap.size V0.heap.size (tabV xs l) NN.out.symm).trans F5.out
            have E3 := below_setRow hS62 G4.out (tabV xs l)
            refine wpAnyH_ready (rs := [6]) (by kernel_rfl) (by simp) (AllReadyH.cons rfl (fun K hK => ?_) AllReadyH.nil)
            rw [if_pos (by rfl)]
            refine wp_store_none rfl 44 (.tmp 5) (.tmp 8) rfl V53.heap.size _ rfl rfl 44 _ F4.out hix hzx hox ?_
            generalize V61.setRow V53.heap.size (tabV xs l) = U at E1 E2 E3 ⊢
            refine hK.out _ _ E3 (fun hT => ?_)
            clear hK K
            try simp only [Act.put, List.setIfInBounds_toArray, List.set_cons_zero, List.set_cons_succ]
            have D1 := (setRow_other U V0.heap.size V53.heap.size (tabV ys m) NN.out).trans E1
            have D2 := setRow_heap U V0.heap.size _ (tabV ys m) 44 (0, 0) E2
            have D3 := below_setRow hT G5.out (tabV ys m)
            refine wpAnyH_ready (rs := [7]) (by kernel_rfl) (by simp) (AllReadyH.cons rfl (fun K hK => ?_) AllReadyH.nil)
            rw [if_pos (by rfl)]
            refine wp_store_none rfl 44 (.tmp 6) (.tmp 10) rfl V0.heap.size _ rfl rfl 44 _ E2 hiy hzy hoy ?_
            refine hK.out _ _ D3 (fun hU => ?_)
            clear hK K
            refine wpAnyH_done (by kernel_rfl) ?_ _
            try simp only [Act.put, List.setIfInBounds_toArray, List.set_cons_zero, List.set_cons_succ]
            exact ⟨by trivial, V53.heap.size, V0.heap.size, rfl, HW.out.1.trans (hU.mono HW.out.1.size), (hU.block _ (Array.getElem?_eq_some_iff.1 HW.out.2.1).1).trans HW.out.2.1, (hU.block _ (Array.getElem?_eq_some_iff.1 HW.out.2.2).1).trans HW.out.2.2, D1, D2⟩
      · go_simp
        obtain ⟨V63, hV⟩ : ∃ U, V51.alloc (.cells Try.zeroCells44 44) = U := ⟨_, rfl⟩
        have F4 := Aside0.mk (show V63.heap[V51.heap.size]? = some (.cells Try.zeroCells44 44 (0, 0)) from hV ▸ heap_alloc_new V51 _)
        have G4 := Aside0.mk (show W0.heap.size ≤ V51.heap.size from hS52.size)
        have NN := Aside0.mk (show V51.heap.size ≠ V0.heap.size from Nat.ne_of_gt (Array.getElem?_eq_some_iff.1 F5.out).1)
        replace F5 := Aside0.mk (show V63.heap[V0.heap.size]? = some (.cells Try.zeroCells44 44 (0, 0)) from hV ▸ (heap_alloc_old V51 _ (Array.getElem?_eq_some_iff.1 F5.out).1).trans F5.out)
        have hN : Below W0.heap.size W0 V63 := hV ▸ hS52.alloc hS52.size _
        rw [hV]
        refine hK.out _ _ hN (fun hS64 => ?_)
        clear hK K hN hV hS52
        try simp only [Act.put, List.setIfInBounds_toArray, List.set_cons_zero, List.set_cons_succ]
        refine wpAnyH_ready (rs := [1]) (by kernel_rfl) (by simp) (AllReadyH.cons rfl (fun K hK => ?_) AllReadyH.nil)
        · go_simp
          refine (KX.out _).mono ?_
          rintro x V65 ⟨rfl, hb⟩
          refine hK.out _ _ (Below.trans hS64 (hb.mono (Below.size hS64))) (fun hS66 => ?_)
          replace F4 := Aside0.mk ((hb.block _ (Array.getElem?_eq_some_iff.1 F4.out).1).trans F4.out)
          replace F5 := Aside0.mk ((hb.block _ (Array.getElem?_eq_some_iff.1 F5.out).1).trans F5.out)
          clear hK K hb hS64
          try simp only [Act.put, List.setIfInBounds_toArray, List.set_cons_zero, List.set_cons_succ]
          refine wpAnyH_ready (rs := [3]) (by kernel_rfl) (by simp) (AllReadyH.cons rfl (fun K hK => ?_) AllReadyH.nil)
          · go_simp
            refine (KY.out _).mono ?_
            rintro x V67 ⟨rfl, hb⟩
            refine hK.out _ _ (Below.trans hS66 (hb.mono (Below.size hS66))) (fun hS68 => ?_)
            replace F4 := Aside0.mk ((hb.block _ (Array.getElem?_eq_some_iff.1 F4.out).1).trans F4.out)
            replace F5 := Aside0.mk ((hb.block _ (Array.getElem?_eq_some_iff.1 F5.out).1).trans F5.out)
            clear hK K hb hS66
            try simp only [Act.put, List.setIfInBounds_toArray, List.set_cons_zero, List.set_cons_succ]
            have E1 := setRow_heap V67 V51.heap.size _ (tabV xs l) 44 (0, 0) F4.out
            have E2 := (setRow_other V67 V51.heap.size V0.heap.size (tabV xs l) NN.out.symm).trans F5.out
            have E3 := below_setRow hS68 G4.out (tabV xs l)
            refine wpAnyH_ready (rs := [6]) (by kernel_rfl) (by simp) (AllReadyH.cons rfl (fun K hK => ?_) AllReadyH.nil)
            rw [if_pos (by rfl)]
            refine wp_store_none rfl 44 (.tmp 5) (.tmp 8) rfl V51.heap.size _ rfl rfl 44 _ F4.out hix hzx hox ?_
            generalize V67.setRow V51.heap.size (tabV xs l) = U at E1 E2 E3 ⊢
            refine hK.out _ _ E3 (fun hT => ?_)
            clear hK K
            try simp only [Act.put, List.setIfInBounds_toArray, List.set_cons_zero, List.set_cons_succ]
            have D1 := (setRow_other U V0.heap.size V51.heap.size (tabV ys m) NN.out).trans E1
            have D2 := setRow_heap U V0.heap.size _ (tabV ys m) 44 (0, 0) E2
            have D3 := below_setRow hT G5.out (tabV ys m)
            refine wpAnyH_ready (rs := [7]) (by kernel_rfl) (by simp) (AllReadyH.cons rfl (fun K hK => ?_) AllReadyH.nil)
            rw [if_pos (by rfl)]
            refine wp_store_none rfl 44 (.tmp 6) (.tmp 10) rfl V0.heap.size _ rfl rfl 44 _ E2 hiy hzy hoy ?_
            refine hK.out _ _ D3 (fun hU => ?_)
            clear hK K
            refine wpAnyH_done (by kernel_rfl) ?_ _
            try simp only [Act.put, List.setIfInBounds_toArray, List.set_cons_zero, List.set_cons_succ]
            exact ⟨by trivial, V51.heap.size, V0.heap.size, rfl, HW.out.1.trans (hU.mono HW.out.1.size), (hU.block _ (Array.getElem?_eq_some_iff.1 HW.out.2.1).1).trans HW.out.2.1, (hU.block _ (Array.getElem?_eq_some_iff.1 HW.out.2.2).1).trans HW.out.2.2, D1, D2⟩
end Go.Proofs.Ytdmmklfphkgmlaa.Tb
