/- A disk: settle. Printed by gen_settle.py. -/
import Derived.Test.YtombochecgjmjaaDkWrite
import Derived.Test.YtombochecgjmjaaSeg
namespace Go.Proofs.Ytombochecgjmjaa.Dk
set_option linter.unusedSimpArgs false
set_option linter.unusedVariables false
open Go.RowKit Go.Proofs.Ytombochecgjmjaa.Own Go.Proofs.Ytombochecgjmjaa.Cel

/-- A write's two cells, in its row. -/
theorem owns_pair {W : World} {B g n c : Nat} {ws : List Wt} (h : W.ownsRow B 68 2 (.slice (some ⟨g, 0, none⟩) n c) ws.length (wcells ws)) (j : Nat) (hj : j < ws.length) :
    W.cell? ⟨g, j * 2, none⟩ = some (.int .i64 ((ws[j]'hj).1 : Nat)) ∧ W.cell? ⟨g, j * 2 + 1, none⟩ = some (.string (ws[j]'hj).2) := by
  have e0 := wcells_get0 ws j hj
  have e1 := wcells_get1 ws j hj
  have hc := h.cells (g := g) rfl
  have k0 := hc _ _ e0
  have k1 := hc _ _ e1
  rw [Nat.mul_comm j 2]
  rw [Seg.addr_add, Nat.zero_add] at k0 k1
  exact ⟨k0, k1⟩
theorem take_snoc (ws : List Wt) (j : Nat) (hj : j < ws.length) : ws.take (j + 1) = ws.take j ++ [ws[j]'hj] := by rw [List.take_succ_eq_append_getElem hj]
theorem kept_step (kp : Nat → Bool) (ws : List Wt) (ls : List ByteArray) (j : Nat) (hj : j < ws.length) :
    applyW ls (keptW kp 0 (ws.take (j + 1))) = if kp j then (applyW ls (keptW kp 0 (ws.take j))).set (ws[j]'hj).1 (ws[j]'hj).2 else applyW ls (keptW kp 0 (ws.take j)) := by
  rw [take_snoc ws j hj, keptW_snoc, Nat.zero_add, List.length_take, Nat.min_eq_left (by omega)]
  cases kp j
  · simp
  · simp [applyW_snoc]
theorem copy_step (src : List ByteArray) (ws : List Wt) (l : List ByteArray) (j : Nat) (hj : j < ws.length) :
    copyW src l (ws.take (j + 1)) = (copyW src l (ws.take j)).set (ws[j]'hj).1 (src.getD (ws[j]'hj).1 ByteArray.empty) := by
  rw [take_snoc ws j hj, copyW_snoc]
/-- 'clear' of the map. -/
theorem clear_run {W : World} {mb n : Nat} {D : DataW Unit} (h : W.ownsMap Try.prog 3 (plainElem Try.prog 3) mb n D) :
    ∃ W', (∀ ty, (Builtin.clear_ #[60] ty #[.map (some mb)]).run Try.prog W = .ok (.tuple #[]) W') ∧ W.grownBy W' (some mb) ∧ W'.ownsMap (H := Unit) Try.prog 3 (plainElem Try.prog 3) mb 0 (.map []) := by
  obtain ⟨es, clock, hb, _⟩ := h
  have hlt := (Array.getElem?_eq_some_iff.1 hb).1
  refine ⟨{ W with heap := W.heap.setIfInBounds mb (.map #[] clock) }, fun ty => ?_, ⟨rfl, rfl, rfl, by simp, fun k hk hn => ?_⟩, ?_⟩
  · have hu := run_underlying Try.underlying60 W
    simp [Builtin.clear_, run_underlying Try.underlying60, Go.MapKept.run_getObj_map hb, Go.MapKept.run_setObj_map _ hb, Result.andThen]
  · show (W.heap.setIfInBounds mb (.map #[] clock))[k]? = _
    rw [Array.getElem?_setIfInBounds_ne (fun e => hn (by rw [e]))]
  · refine ⟨#[], clock, ?_, ⟨by simp, Go.MapKept.stamped_empty clock, by simp⟩, Nat.le_refl _, rfl⟩
    show (W.heap.setIfInBounds mb (.map #[] clock))[mb]? = _
    rw [Array.getElem?_setIfInBounds_self_of_lt hlt]
theorem infoWc : (Try.prog.info? 68).map (·.size) = some 2 := by kernel_rfl

theorem boxed_new (W : World) (zc cs : Array Value) (t : TypeId) : ((W.alloc (.cells zc t)).setRow W.heap.size cs).heap[W.heap.size]? = some (.cells cs t (0, 0)) :=
  setRow_heap _ _ _ _ _ _ (heap_alloc_new W (.cells zc t))
theorem boxed_below (W : World) (zc cs : Array Value) (t : TypeId) : Below W.heap.size W ((W.alloc (.cells zc t)).setRow W.heap.size cs) :=
  below_setRow ((Below.refl _ _).alloc (Nat.le_refl _) _) (Nat.le_refl _) _

/-- What the loops' stores need. -/
def SB (p bx lb M : Nat) (bc xc : Array Value) (V : World) : Prop :=
  V.heap[p]? = some (.cells bc 63 (0, 0)) ∧ V.heap[bx]? = some (.cells xc 68 (0, 0)) ∧ ∃ cur, V.heap[lb]? = some (.cells cur 9 (0, 0)) ∧ M ≤ cur.size

def SB2 (p bx lb rb M xi : Nat) (bc xc cl : Array Value) (y : ByteArray) (V : World) : Prop :=
  V.heap[p]? = some (.cells bc 63 (0, 0)) ∧ V.heap[bx]? = some (.cells xc 68 (0, 0)) ∧ V.heap[lb]? = some (.cells cl 9 (0, 0)) ∧ cl[xi]? = some (.string y) ∧ ∃ cur, V.heap[rb]? = some (.cells cur 9 (0, 0)) ∧ M ≤ cur.size

variable {B p : Nat} {S : DS} {F : Nat → Prop} {W : World}

set_option maxRecDepth 100000 in
set_option maxHeartbeats 2000000 in
theorem settle_sync (h : DK B p S F W) (hok : S.ok) (hn : S.waits.length ≤ 1000000) (kp : Nat → Bool)
    (HK0 : ∀ V, Only (Big F W) W V → ∀ j : Nat, j < S.waits.length → Calls Try.prog 31 #[.int .i64 (j : Nat)] V fun e w' => e = .returned (.bool (kp j)) ∧ V = w') :
    Calls Try.prog 30 #[.pointer (some ⟨p, 0, none⟩), .func (.func 31) #[] #[]] W fun e W' => e = .returned (.tuple #[]) ∧ Did B p (S.crash kp) F W W' := by
  have HK := Aside0.mk HK0
  clear HK0
  obtain ⟨lb, lc, rb, rc, mb, wv, hd, hFP⟩ := h
  have d1 := hd.cell 1
  obtain ⟨A, wc, rfl⟩ := owns_slice hd.hw
  have HD := Aside0.mk hd
  have HFP := Aside0.mk hFP
  have HO := Aside0.mk hok
  obtain ⟨n, hnn⟩ : ∃ n, S.waits.length = n := ⟨_, rfl⟩
  have HNN := Aside0.mk hnn
  rw [hnn] at hn d1 HK HD HFP
  clear hd hFP hok hnn
  go_enter Try.func30, Try.ntmps30
  go_wp2_with fail
  clear d1
  go_loopw [13] (fun i V => ∃ (j : Nat), i = .int .i64 j ∧ j ≤ n ∧ Aside0 (DR B p lb lc rb rc mb (.slice A n wc) (applyW S.lasts (keptW kp 0 (S.waits.take j))) S.read S.waits (fun i => cnt i S.waits) n S.armed S.ops V ∧ Only (Big F W) W V)) (fun i _ => n - (intOf i).toNat)
  case atStart => exact ⟨0, rfl, by omega, ⟨by simpa [keptW, applyW] using HD.out, Only.refl _ _⟩⟩
  case round =>
    obtain ⟨j, rfl, hj, HS⟩ := hrel
    by_cases hlt : j < n
    · have hj1 : (j : Int) < (n : Int) := by omega
      have hjw : j < S.waits.length := by rw [HNN.out]; exact hlt
      rcases HS.out.1.hw.2 with ⟨e, e2⟩ | ⟨g, cap, cur0, e, e4⟩
      · exact absurd e2 (by omega)
      simp only [Value.slice.injEq] at e
      obtain ⟨rfl, e5, rfl⟩ := e
      clear e5 e4 cur0
      obtain ⟨p0, p1⟩ := owns_pair HS.out.1.hw j hjw
      obtain ⟨xi, hxi⟩ : ∃ x, (S.waits[j]'hjw).1 = x := ⟨_, rfl⟩
      obtain ⟨xs, hxs⟩ : ∃ x, (S.waits[j]'hjw).2 = x := ⟨_, rfl⟩
      rw [hxi] at p0
      rw [hxs] at p1
      have hxl : xi < S.lasts.length := by rw [← hxi]; exact HO.out _ (List.getElem_mem hjw)
      have KS := Aside0.mk (kept_step kp S.waits S.lasts j hjw)
      rw [hxi, hxs] at KS
      clear hxi hxs HD
      have hxb : xi < (applyW S.lasts (keptW kp 0 (S.waits.take j))).length := by rw [applyW_len]; exact hxl
      have hbw : Below wr.heap.size wr (wr.alloc (.cells #[.int .i64 (xi : Nat), .string xs] 68)) := (Below.refl _ _).alloc (Nat.le_refl _) _
      have hO := HS.out.2.big_trans (only_below hbw).big
      have hD := HS.out.1.below hbw
      have hbx := heap_alloc_new wr (.cells #[.int .i64 (xi : Nat), .string xs] 68)
      have KC := Aside0.mk (HK.out _ hO j hlt)
      have NB := Aside0.mk (show wr.heap.size ≠ p ∧ wr.heap.size ≠ lb from ⟨by have := (HS.out.1.lt (.inl rfl)).2; omega, by have := (HS.out.1.lt (.inr (.inr (.inl rfl)))).2; omega⟩)
      have HDO := Aside0.mk (And.intro hD (And.intro hO hbx))
      clear hbw hO hD hbx HS hxl
      go_wp2_with fail
      clear p0 p1
      generalize (wr.alloc (.cells #[.int .i64 (xi : Nat), .string xs] 68)) = V1 at KC HDO ⊢
      obtain ⟨bx, hbx⟩ : ∃ b, wr.heap.size = b := ⟨_, rfl⟩
      rw [hbx] at HDO NB ⊢
      obtain ⟨L, hL⟩ : ∃ l, applyW S.lasts (keptW kp 0 (S.waits.take j)) = l := ⟨_, rfl⟩
      rw [hL] at HDO KS hxb
      clear hbx hL
      refine KC.out.mono ?_
      rintro x v1 ⟨rfl, rfl⟩
      clear KC
      cases hkj : kp j with
      | false =>
        rw [hkj] at KS
        have HN := Aside0.mk (show DR B p lb lc rb rc mb (.slice (some ⟨g, 0, none⟩) n wc) (applyW S.lasts (keptW kp 0 (S.waits.take (j + 1)))) S.read S.waits (fun i => cnt i S.waits) n S.armed S.ops V1 ∧ Only (Big F W) W V1 from by
          rw [KS.out, if_neg (by decide)]; exact ⟨HDO.out.1, HDO.out.2.1⟩)
        clear hkj KS HDO NB
        go_wp2
        go_roundw
        case rel => exact ⟨j + 1, by go_num, by omega, HN⟩
        case measure => simp [intOf]; omega
      | true =>
        rw [hkj, if_pos rfl] at KS
        clear hkj
        obtain ⟨M, hM⟩ : ∃ m, L.length = m := ⟨_, rfl⟩
        have c0 := HDO.out.1.box
        rw [hM] at c0 hxb
        obtain ⟨curL, hcl, hls⟩ : ∃ cur, V1.heap[lb]? = some (.cells cur 9 (0, 0)) ∧ M ≤ cur.size := by
          rcases HDO.out.1.hl.2 with ⟨e, _⟩ | ⟨g', cap, cur, e, _, hg, hc1, _, hc3, _⟩
          · cases e
          · simp only [Value.slice.injEq, Option.some.injEq, Addr.mk.injEq] at e
            obtain ⟨⟨rfl, _⟩, _⟩ := e
            exact ⟨cur, hg, by omega⟩
        have hxb' : (xi : Int) < (M : Int) := by omega
        go_wp2_with fail
        refine wp_region_held_drew (S := fun V => SB p bx lb M #[.slice (some ⟨lb, 0, none⟩) M lc, .slice (some ⟨g, 0, none⟩) n wc, .map (some mb), .int .i64 S.armed, .int .i64 S.ops, .slice (some ⟨rb, 0, none⟩) M rc] #[.int .i64 (xi : Nat), .string xs] V) (by kernel_rfl) ⟨c0, HDO.out.2.2, curL, hcl, hls⟩ (fun hH => ?_)
        refine take_at (i := 0) (some 21) (.pointer (some ⟨p, 0, none⟩)) rfl rfl (by kernel_rfl) (by kernel_rfl) (by kernel_rfl) (fun _ _ _ h => h) (Or.inl ⟨by rfl, fun w hSw => by go_simp⟩) hH ?_
        refine take_at (i := 1) (some 22) (.pointer (some ⟨p, 0, none⟩)) rfl rfl (by kernel_rfl) (by kernel_rfl) (by kernel_rfl) (fun _ _ _ h => h) (Or.inl ⟨by rfl, fun w hSw => by go_simp⟩) hH ?_
        try simp only [Act.put, List.setIfInBounds_toArray, List.set_cons_zero, List.set_cons_succ]
        refine take_at (i := 2) (some 23) (.pointer (some ⟨p, 0, none⟩)) rfl rfl (by kernel_rfl) (by kernel_rfl) (by kernel_rfl) (fun _ _ _ h => h) (Or.inl ⟨by rfl, fun w hSw => by go_simp⟩) hH ?_
        refine take_at (i := 3) (some 24) (.slice (some ⟨lb, 0, none⟩) M lc) rfl rfl (by kernel_rfl) (by kernel_rfl) (by kernel_rfl) (fun _ _ _ h => h) (Or.inl ⟨by rfl, fun w hSw => by have e := cell_of_row w p 0 _ _ _ hSw.1; clear hSw; go_simp⟩) hH ?_
        try simp only [Act.put, List.setIfInBounds_toArray, List.set_cons_zero, List.set_cons_succ]
        refine take_at (i := 4) (some 25) (.pointer (some ⟨bx, 0, none⟩)) rfl rfl (by kernel_rfl) (by kernel_rfl) (by kernel_rfl) (fun _ _ _ h => h) (Or.inl ⟨by rfl, fun w hSw => by go_simp⟩) hH ?_
        refine take_at (i := 5) (some 26) (.int .i64 (xi : Nat)) rfl rfl (by kernel_rfl) (by kernel_rfl) (by kernel_rfl) (fun _ _ _ h => h) (Or.inl ⟨by rfl, fun w hSw => by have e := cell_of_row w bx 0 _ _ _ hSw.2.1; clear hSw; go_simp⟩) hH ?_
        try simp only [Act.put, List.setIfInBounds_toArray, List.set_cons_zero, List.set_cons_succ]
        refine take_at (i := 6) (some 27) (.pointer (some ⟨bx, 1, none⟩)) rfl rfl (by kernel_rfl) (by kernel_rfl) (by kernel_rfl) (fun _ _ _ h => h) (Or.inl ⟨by rfl, fun w hSw => by go_simp⟩) hH ?_
        refine take_at (i := 7) (some 28) (.string xs) rfl rfl (by kernel_rfl) (by kernel_rfl) (by kernel_rfl) (fun _ _ _ h => h) (Or.inl ⟨by rfl, fun w hSw => by have e := cell_of_row w bx 1 _ _ _ hSw.2.1; clear hSw; go_simp⟩) hH ?_
        try simp only [Act.put, List.setIfInBounds_toArray, List.set_cons_zero, List.set_cons_succ]
        refine take_at (i := 8) (some 29) (.pointer (some ⟨lb, xi, none⟩)) rfl rfl (by kernel_rfl) (by kernel_rfl) (by kernel_rfl) (fun _ _ _ h => h) (Or.inl ⟨by rfl, fun w hSw => by go_simp⟩) hH ?_
        try simp only [Act.put, List.setIfInBounds_toArray, List.set_cons_zero, List.set_cons_succ]
        have HV0 := Aside0.mk (And.intro (HDO.out.1.keep (W' := V1.drew) (fun _ _ => rfl)) (HDO.out.2.1.big_trans (only_below ((Below.refl _ V1).drew)).big))
        have BXH := Aside0.mk (show V1.drew.heap[bx]? = some (.cells #[.int .i64 (xi : Nat), .string xs] 68 (0, 0)) from HDO.out.2.2)
        clear HDO c0 hcl hls curL
        generalize V1.drew = V0 at hH HV0 BXH ⊢
        obtain ⟨hp, hb, cur, hl, hls⟩ := hH
        obtain ⟨u, hu⟩ : ∃ u, V0.cell? ⟨lb, xi, none⟩ = some u := ⟨_, (cell_of_row V0 lb xi _ _ _ hl).trans (Array.getElem?_eq_getElem (by omega))⟩
        have hfz : V0.frozen? ⟨lb, xi, none⟩ = false := frozen_of_row V0 lb xi _ _ hl
        have hnx := heap_setCell_same V0 lb xi cur _ (.string xs) hl
        have so : ∀ k, k ≠ lb → (V0.setCell ⟨lb, xi, none⟩ (.string xs)).heap[k]? = V0.heap[k]? := fun k hk => set_other _ _ _ _ hk
        have hS2 : SB p bx lb M #[.slice (some ⟨lb, 0, none⟩) M lc, .slice (some ⟨g, 0, none⟩) n wc, .map (some mb), .int .i64 S.armed, .int .i64 S.ops, .slice (some ⟨rb, 0, none⟩) M rc] #[.int .i64 (xi : Nat), .string xs] (V0.setCell ⟨lb, xi, none⟩ (.string xs)) := ⟨(so p HV0.out.1.p_lb).trans hp, (so bx NB.out.2).trans hb, _, hnx, by simpa using hls⟩
        refine wpAnyH_ready (rs := [9]) (by kernel_rfl) (by simp) (AllReadyH.cons rfl (fun K hK => ?_) AllReadyH.nil)
        clear so hnx hp hb hl hls
        go_simp
        refine hK.out _ _ hS2 (fun hH => ?_)
        clear hK K hS2 hu hfz
        refine wpAnyH_done (by kernel_rfl) ?_ _
        try simp only [Act.put, List.setIfInBounds_toArray, List.set_cons_zero, List.set_cons_succ]
        have HN := Aside0.mk (show DR B p lb lc rb rc mb (.slice (some ⟨g, 0, none⟩) n wc) (applyW S.lasts (keptW kp 0 (S.waits.take (j + 1)))) S.read S.waits (fun i => cnt i S.waits) n S.armed S.ops (V0.setCell ⟨lb, xi, none⟩ (.string xs)) ∧ Only (Big F W) W (V0.setCell ⟨lb, xi, none⟩ (.string xs)) from by
          rw [KS.out]
          exact ⟨HV0.out.1.setL xi xs, HV0.out.2.big_trans (only_set (F := F) ⟨lb, xi, none⟩ (.string xs) ((HFP.out lb).2 (.inr (.inr (.inl rfl))))).big⟩)
        clear hH HV0 BXH KS NB
        go_wp2
        go_roundw
        case rel => exact ⟨j + 1, by go_num, by omega, HN⟩
        case measure => simp [intOf]; omega
    · obtain rfl : j = n := by omega
      have H1 := Aside0.mk HS.out
      have d1 := HS.out.1.cell 1
      have e0 : S.waits.take j = S.waits := List.take_of_length_le (by rw [HNN.out]; exact Nat.le_refl _)
      rw [e0] at H1
      obtain ⟨L, hL⟩ : ∃ l, applyW S.lasts (keptW kp 0 S.waits) = l := ⟨_, rfl⟩
      have HL := Aside0.mk hL
      rw [hL] at H1
      have hll : L.length = S.lasts.length := by rw [← hL, applyW_len]
      have HLL := Aside0.mk hll
      clear HS e0 hL hll hlt hj HK HD
      go_wp2_with fail
      clear d1
      go_loopw [36] (fun i V => ∃ (k : Nat), i = .int .i64 k ∧ k ≤ j ∧ Aside0 (DR B p lb lc rb rc mb (.slice A j wc) L (copyW L S.read (S.waits.take k)) S.waits (fun i => cnt i S.waits) j S.armed S.ops V ∧ Only (Big F W) W V)) (fun i _ => j - (intOf i).toNat)
      case atStart => exact ⟨0, rfl, by omega, ⟨by simpa [copyW] using H1.out⟩⟩
      case round =>
        obtain ⟨k, rfl, hk, HS⟩ := hrel
        clear H1
        by_cases hlt : k < j
        · have hk1 : (k : Int) < (j : Int) := by omega
          have hkw : k < S.waits.length := by rw [HNN.out]; exact hlt
          rcases HS.out.1.hw.2 with ⟨e, e2⟩ | ⟨g, cap, cur0, e, e4⟩
          · exact absurd e2 (by omega)
          simp only [Value.slice.injEq] at e
          obtain ⟨rfl, e5, rfl⟩ := e
          clear e5 e4 cur0
          obtain ⟨p0, p1⟩ := owns_pair HS.out.1.hw k hkw
          obtain ⟨xi, hxi⟩ : ∃ x, (S.waits[k]'hkw).1 = x := ⟨_, rfl⟩
          obtain ⟨xs, hxs⟩ : ∃ x, (S.waits[k]'hkw).2 = x := ⟨_, rfl⟩
          rw [hxi] at p0
          rw [hxs] at p1
          have hxl : xi < L.length := by rw [HLL.out, ← hxi]; exact HO.out _ (List.getElem_mem hkw)
          have KS := Aside0.mk (copy_step L S.waits S.read k hkw)
          rw [hxi] at KS
          clear hxi hxs
          have hbw : Below wr.heap.size wr (wr.alloc (.cells #[.int .i64 (xi : Nat), .string xs] 68)) := (Below.refl _ _).alloc (Nat.le_refl _) _
          have hO := HS.out.2.big_trans (only_below hbw).big
          have hD := HS.out.1.below hbw
          have hbx := heap_alloc_new wr (.cells #[.int .i64 (xi : Nat), .string xs] 68)
          have NB := Aside0.mk (show wr.heap.size ≠ p ∧ wr.heap.size ≠ rb from ⟨by have := (HS.out.1.lt (.inl rfl)).2; omega, by have := (HS.out.1.lt (.inr (.inr (.inr (.inl rfl))))).2; omega⟩)
          have HDO := Aside0.mk (And.intro hD (And.intro hO hbx))
          clear hbw hO hD hbx HS
          go_wp2_with fail
          clear p0 p1
          generalize wr.alloc (.cells #[.int .i64 (xi : Nat), .string xs] 68) = V1 at HDO ⊢
          obtain ⟨bx, hbx⟩ : ∃ b, wr.heap.size = b := ⟨_, rfl⟩
          rw [hbx] at HDO NB ⊢
          clear hbx
          obtain ⟨M, hM⟩ : ∃ m, L.length = m := ⟨_, rfl⟩
          have c0 := HDO.out.1.box
          rw [hM] at c0 hxl
          obtain ⟨y, hy⟩ : ∃ y, L[xi]'(by rw [hM]; exact hxl) = y := ⟨_, rfl⟩
          obtain ⟨cl, hcl, hcy⟩ : ∃ cur, V1.heap[lb]? = some (.cells cur 9 (0, 0)) ∧ cur[xi]? = some (.string y) := by
            obtain ⟨cur, h1, _⟩ := HDO.out.1.lb_at
            refine ⟨cur, h1, ?_⟩
            have := HDO.out.1.hl.cellAt xi (by omega)
            rw [cell_of_row V1 lb xi _ _ _ h1, strs_get _ _ (by rw [hM]; exact hxl), hy] at this
            exact this
          obtain ⟨cr, hcr, hrs⟩ : ∃ cur, V1.heap[rb]? = some (.cells cur 9 (0, 0)) ∧ M ≤ cur.size := by
            rcases HDO.out.1.hr.2 with ⟨e, _⟩ | ⟨g', cap, cur, e, _, hg, hc1, _, hc3, _⟩
            · cases e
            · simp only [Value.slice.injEq, Option.some.injEq, Addr.mk.injEq] at e
              obtain ⟨⟨rfl, _⟩, _⟩ := e
              exact ⟨cur, hg, by omega⟩
          have KY := Aside0.mk (show L.getD xi ByteArray.empty = y by rw [List.getD_eq_getElem?_getD, List.getElem?_eq_getElem (by rw [hM]; exact hxl), hy]; rfl)
          have hxb' : (xi : Int) < (M : Int) := by omega
          have HM := Aside0.mk hM
          clear hM hy
          refine wp_region_held_drew (S := fun V => SB2 p bx lb rb M xi #[.slice (some ⟨lb, 0, none⟩) M lc, .slice (some ⟨g, 0, none⟩) j wc, .map (some mb), .int .i64 S.armed, .int .i64 S.ops, .slice (some ⟨rb, 0, none⟩) M rc] #[.int .i64 (xi : Nat), .string xs] cl y V) (by kernel_rfl) ⟨c0, HDO.out.2.2, hcl, hcy, cr, hcr, hrs⟩ (fun hH => ?_)
          refine take_at (i := 0) (some 40) (.pointer (some ⟨p, 0, none⟩)) rfl rfl (by kernel_rfl) (by kernel_rfl) (by kernel_rfl) (fun _ _ _ h => h) (Or.inl ⟨by rfl, fun w hSw => by go_simp⟩) hH ?_
          refine take_at (i := 1) (some 41) (.pointer (some ⟨p, 0, none⟩)) rfl rfl (by kernel_rfl) (by kernel_rfl) (by kernel_rfl) (fun _ _ _ h => h) (Or.inl ⟨by rfl, fun w hSw => by go_simp⟩) hH ?_
          try simp only [Act.put, List.setIfInBounds_toArray, List.set_cons_zero, List.set_cons_succ]
          refine take_at (i := 2) (some 42) (.pointer (some ⟨p, 5, none⟩)) rfl rfl (by kernel_rfl) (by kernel_rfl) (by kernel_rfl) (fun _ _ _ h => h) (Or.inl ⟨by rfl, fun w hSw => by go_simp⟩) hH ?_
          refine take_at (i := 3) (some 43) (.slice (some ⟨rb, 0, none⟩) M rc) rfl rfl (by kernel_rfl) (by kernel_rfl) (by kernel_rfl) (fun _ _ _ h => h) (Or.inl ⟨by rfl, fun w hSw => by have e := cell_of_row w p 5 _ _ _ hSw.1; clear hSw; go_simp⟩) hH ?_
          try simp only [Act.put, List.setIfInBounds_toArray, List.set_cons_zero, List.set_cons_succ]
          refine take_at (i := 4) (some 44) (.pointer (some ⟨bx, 0, none⟩)) rfl rfl (by kernel_rfl) (by kernel_rfl) (by kernel_rfl) (fun _ _ _ h => h) (Or.inl ⟨by rfl, fun w hSw => by go_simp⟩) hH ?_
          refine take_at (i := 5) (some 45) (.int .i64 (xi : Nat)) rfl rfl (by kernel_rfl) (by kernel_rfl) (by kernel_rfl) (fun _ _ _ h => h) (Or.inl ⟨by rfl, fun w hSw => by have e := cell_of_row w bx 0 _ _ _ hSw.2.1; clear hSw; go_simp⟩) hH ?_
          try simp only [Act.put, List.setIfInBounds_toArray, List.set_cons_zero, List.set_cons_succ]
          refine take_at (i := 6) (some 46) (.pointer (some ⟨p, 0, none⟩)) rfl rfl (by kernel_rfl) (by kernel_rfl) (by kernel_rfl) (fun _ _ _ h => h) (Or.inl ⟨by rfl, fun w hSw => by go_simp⟩) hH ?_
          refine take_at (i := 7) (some 47) (.pointer (some ⟨p, 0, none⟩)) rfl rfl (by kernel_rfl) (by kernel_rfl) (by kernel_rfl) (fun _ _ _ h => h) (Or.inl ⟨by rfl, fun w hSw => by go_simp⟩) hH ?_
          try simp only [Act.put, List.setIfInBounds_toArray, List.set_cons_zero, List.set_cons_succ]
          refine take_at (i := 8) (some 48) (.pointer (some ⟨p, 0, none⟩)) rfl rfl (by kernel_rfl) (by kernel_rfl) (by kernel_rfl) (fun _ _ _ h => h) (Or.inl ⟨by rfl, fun w hSw => by go_simp⟩) hH ?_
          refine take_at (i := 9) (some 49) (.slice (some ⟨lb, 0, none⟩) M lc) rfl rfl (by kernel_rfl) (by kernel_rfl) (by kernel_rfl) (fun _ _ _ h => h) (Or.inl ⟨by rfl, fun w hSw => by have e := cell_of_row w p 0 _ _ _ hSw.1; clear hSw; go_simp⟩) hH ?_
          try simp only [Act.put, List.setIfInBounds_toArray, List.set_cons_zero, List.set_cons_succ]
          refine take_at (i := 10) (some 50) (.pointer (some ⟨bx, 0, none⟩)) rfl rfl (by kernel_rfl) (by kernel_rfl) (by kernel_rfl) (fun _ _ _ h => h) (Or.inl ⟨by rfl, fun w hSw => by go_simp⟩) hH ?_
          refine take_at (i := 11) (some 51) (.int .i64 (xi : Nat)) rfl rfl (by kernel_rfl) (by kernel_rfl) (by kernel_rfl) (fun _ _ _ h => h) (Or.inl ⟨by rfl, fun w hSw => by have e := cell_of_row w bx 0 _ _ _ hSw.2.1; clear hSw; go_simp⟩) hH ?_
          try simp only [Act.put, List.setIfInBounds_toArray, List.set_cons_zero, List.set_cons_succ]
          refine take_at (i := 12) (some 52) (.pointer (some ⟨lb, xi, none⟩)) rfl rfl (by kernel_rfl) (by kernel_rfl) (by kernel_rfl) (fun _ _ _ h => h) (Or.inl ⟨by rfl, fun w hSw => by go_simp⟩) hH ?_
          refine take_at (i := 13) (some 53) (.string y) rfl rfl (by kernel_rfl) (by kernel_rfl) (by kernel_rfl) (fun _ _ _ h => h) (Or.inl ⟨by rfl, fun w hSw => by have e := (cell_of_row w lb xi _ _ _ hSw.2.2.1).trans hSw.2.2.2.1; clear hSw; go_simp⟩) hH ?_
          try simp only [Act.put, List.setIfInBounds_toArray, List.set_cons_zero, List.set_cons_succ]
          refine take_at (i := 14) (some 54) (.pointer (some ⟨rb, xi, none⟩)) rfl rfl (by kernel_rfl) (by kernel_rfl) (by kernel_rfl) (fun _ _ _ h => h) (Or.inl ⟨by rfl, fun w hSw => by go_simp⟩) hH ?_
          try simp only [Act.put, List.setIfInBounds_toArray, List.set_cons_zero, List.set_cons_succ]
          have HV0 := Aside0.mk (And.intro (HDO.out.1.keep (W' := V1.drew) (fun _ _ => rfl)) (HDO.out.2.1.big_trans (only_below ((Below.refl _ V1).drew)).big))
          clear HDO c0 hcl hcr hrs cr hcy
          generalize V1.drew = V0 at hH HV0 ⊢
          obtain ⟨hp, hb, hl, hy, cur, hr, hrs⟩ := hH
          obtain ⟨u, hu⟩ : ∃ u, V0.cell? ⟨rb, xi, none⟩ = some u := ⟨_, (cell_of_row V0 rb xi _ _ _ hr).trans (Array.getElem?_eq_getElem (by omega))⟩
          have hfz : V0.frozen? ⟨rb, xi, none⟩ = false := frozen_of_row V0 rb xi _ _ hr
          have hnx := heap_setCell_same V0 rb xi cur _ (.string y) hr
          have so : ∀ k, k ≠ rb → (V0.setCell ⟨rb, xi, none⟩ (.string y)).heap[k]? = V0.heap[k]? := fun k hk => set_other _ _ _ _ hk
          have hS2 : SB2 p bx lb rb M xi #[.slice (some ⟨lb, 0, none⟩) M lc, .slice (some ⟨g, 0, none⟩) j wc, .map (some mb), .int .i64 S.armed, .int .i64 S.ops, .slice (some ⟨rb, 0, none⟩) M rc] #[.int .i64 (xi : Nat), .string xs] cl y (V0.setCell ⟨rb, xi, none⟩ (.string y)) := ⟨(so p HV0.out.1.p_rb).trans hp, (so bx NB.out.2).trans hb, (so lb HV0.out.1.ne).trans hl, hy, _, hnx, by simpa using hrs⟩
          refine wpAnyH_ready (rs := [15]) (by kernel_rfl) (by simp) (AllReadyH.cons rfl (fun K hK => ?_) AllReadyH.nil)
          clear so hnx hp hb hl hy hr hrs
          go_simp
          refine hK.out _ _ hS2 (fun hH => ?_)
          clear hK K hS2 hu hfz
          refine wpAnyH_done (by kernel_rfl) ?_ _
          try simp only [Act.put, List.setIfInBounds_toArray, List.set_cons_zero, List.set_cons_succ]
          have HN := Aside0.mk (show DR B p lb lc rb rc mb (.slice (some ⟨g, 0, none⟩) j wc) L (copyW L S.read (S.waits.take (k + 1))) S.waits (fun i => cnt i S.waits) j S.armed S.ops (V0.setCell ⟨rb, xi, none⟩ (.string y)) ∧ Only (Big F W) W (V0.setCell ⟨rb, xi, none⟩ (.string y)) from by
            rw [KS.out, KY.out]
            exact ⟨HV0.out.1.setR xi y, HV0.out.2.big_trans (only_set (F := F) ⟨rb, xi, none⟩ (.string y) ((HFP.out rb).2 (.inr (.inr (.inr (.inl rfl)))))).big⟩)
          clear hH HV0 KS NB KY HM
          go_wp2
          go_roundw
          case rel => exact ⟨k + 1, by go_num, by omega, HN⟩
          case measure => simp [intOf]; omega
        · obtain rfl : k = j := by omega
          have e0 : S.waits.take k = S.waits := List.take_of_length_le (by rw [HNN.out]; exact Nat.le_refl _)
          have e1 : copyW L S.read S.waits = L := by rw [← HL.out]; exact settled S.lasts S.waits kp
          have hD0 := HS.out.1
          rw [e0, e1] at hD0
          have d1 := hD0.cell 1
          have f1 := hD0.frozen 1
          have hD1 := hD0.setW (.slice none 0 0) [] (World.ownsRow_nil _ _ _ _)
          have d2 := hD1.cell 2
          obtain ⟨nm, D, hown, _, _⟩ := hD1.mp
          obtain ⟨W9, hrun, hg9, hown9⟩ := clear_run hown
          have hD2 := hD1.setM (m' := fun i => cnt i []) (N' := 0) hg9 ⟨0, .map [], hown9, Nat.le_refl _, fun i => rfl⟩
          have O9 := HS.out.2.big_trans ((only_set (F := F) ⟨p, 1, none⟩ (.slice none 0 0) ((HFP.out p).2 (.inl rfl))).big.big_trans (only_grown (F := F) hg9 (fun k e => (HFP.out k).2 (.inr (.inl (by simpa using e.symm))))).big)
          have HE := Aside0.mk (And.intro hD2 O9)
          clear e0 e1 hD0 hD1 hown hg9 hown9 hD2 O9 HS hlt hk
          go_wp2
          go_end0
          refine ⟨rfl, FP p lb rb mb (.slice none 0 0), ⟨lb, lc, rb, rc, mb, _, ?_, fun _ => Iff.rfl⟩, HE.out.2.small, fun k hk => ?_⟩
          · have e2 : (S.crash kp).lasts = L := HL.out
            have e3 : (S.crash kp).read = L := HL.out
            rw [e2, e3]
            exact HE.out.1
          · rcases hk with rfl | rfl | rfl | rfl | hk
            · exact .inl ((HFP.out k).2 (.inl rfl))
            · exact .inl ((HFP.out k).2 (.inr (.inl rfl)))
            · exact .inl ((HFP.out k).2 (.inr (.inr (.inl rfl))))
            · exact .inl ((HFP.out k).2 (.inr (.inr (.inr (.inl rfl)))))
            · cases hk

set_option maxRecDepth 100000 in
set_option maxHeartbeats 2000000 in
theorem settle_crash (h : DK B p S F W) (hok : S.ok) (hn : S.waits.length ≤ 1000000) (kb : Nat) (kp : Nat → Bool)
    (HK0 : ∀ V, Only (Big F W) W V → ∀ j : Nat, j < S.waits.length → Calls Try.prog 32 #[.int .i64 (j : Nat), .pointer (some ⟨kb, 0, none⟩)] V fun e w' => e = .returned (.bool (kp j)) ∧ V = w') :
    Calls Try.prog 30 #[.pointer (some ⟨p, 0, none⟩), .func (.func 32) #[] #[.pointer (some ⟨kb, 0, none⟩)]] W fun e W' => e = .returned (.tuple #[]) ∧ Did B p (S.crash kp) F W W' := by
  have HK := Aside0.mk HK0
  clear HK0
  obtain ⟨lb, lc, rb, rc, mb, wv, hd, hFP⟩ := h
  have d1 := hd.cell 1
  obtain ⟨A, wc, rfl⟩ := owns_slice hd.hw
  have HD := Aside0.mk hd
  have HFP := Aside0.mk hFP
  have HO := Aside0.mk hok
  obtain ⟨n, hnn⟩ : ∃ n, S.waits.length = n := ⟨_, rfl⟩
  have HNN := Aside0.mk hnn
  rw [hnn] at hn d1 HK HD HFP
  clear hd hFP hok hnn
  go_enter Try.func30, Try.ntmps30
  go_wp2_with fail
  clear d1
  go_loopw [13] (fun i V => ∃ (j : Nat), i = .int .i64 j ∧ j ≤ n ∧ Aside0 (DR B p lb lc rb rc mb (.slice A n wc) (applyW S.lasts (keptW kp 0 (S.waits.take j))) S.read S.waits (fun i => cnt i S.waits) n S.armed S.ops V ∧ Only (Big F W) W V)) (fun i _ => n - (intOf i).toNat)
  case atStart => exact ⟨0, rfl, by omega, ⟨by simpa [keptW, applyW] using HD.out, Only.refl _ _⟩⟩
  case round =>
    obtain ⟨j, rfl, hj, HS⟩ := hrel
    by_cases hlt : j < n
    · have hj1 : (j : Int) < (n : Int) := by omega
      have hjw : j < S.waits.length := by rw [HNN.out]; exact hlt
      rcases HS.out.1.hw.2 with ⟨e, e2⟩ | ⟨g, cap, cur0, e, e4⟩
      · exact absurd e2 (by omega)
      simp only [Value.slice.injEq] at e
      obtain ⟨rfl, e5, rfl⟩ := e
      clear e5 e4 cur0
      obtain ⟨p0, p1⟩ := owns_pair HS.out.1.hw j hjw
      obtain ⟨xi, hxi⟩ : ∃ x, (S.waits[j]'hjw).1 = x := ⟨_, rfl⟩
      obtain ⟨xs, hxs⟩ : ∃ x, (S.waits[j]'hjw).2 = x := ⟨_, rfl⟩
      rw [hxi] at p0
      rw [hxs] at p1
      have hxl : xi < S.lasts.length := by rw [← hxi]; exact HO.out _ (List.getElem_mem hjw)
      have KS := Aside0.mk (kept_step kp S.waits S.lasts j hjw)
      rw [hxi, hxs] at KS
      clear hxi hxs HD
      have hxb : xi < (applyW S.lasts (keptW kp 0 (S.waits.take j))).length := by rw [applyW_len]; exact hxl
      have hbw : Below wr.heap.size wr (wr.alloc (.cells #[.int .i64 (xi : Nat), .string xs] 68)) := (Below.refl _ _).alloc (Nat.le_refl _) _
      have hO := HS.out.2.big_trans (only_below hbw).big
      have hD := HS.out.1.below hbw
      have hbx := heap_alloc_new wr (.cells #[.int .i64 (xi : Nat), .string xs] 68)
      have KC := Aside0.mk (HK.out _ hO j hlt)
      have NB := Aside0.mk (show wr.heap.size ≠ p ∧ wr.heap.size ≠ lb from ⟨by have := (HS.out.1.lt (.inl rfl)).2; omega, by have := (HS.out.1.lt (.inr (.inr (.inl rfl)))).2; omega⟩)
      have HDO := Aside0.mk (And.intro hD (And.intro hO hbx))
      clear hbw hO hD hbx HS hxl
      go_wp2_with fail
      clear p0 p1
      generalize (wr.alloc (.cells #[.int .i64 (xi : Nat), .string xs] 68)) = V1 at KC HDO ⊢
      obtain ⟨bx, hbx⟩ : ∃ b, wr.heap.size = b := ⟨_, rfl⟩
      rw [hbx] at HDO NB ⊢
      obtain ⟨L, hL⟩ : ∃ l, applyW S.lasts (keptW kp 0 (S.waits.take j)) = l := ⟨_, rfl⟩
      rw [hL] at HDO KS hxb
      clear hbx hL
      refine KC.out.mono ?_
      rintro x v1 ⟨rfl, rfl⟩
      clear KC
      cases hkj : kp j with
      | false =>
        rw [hkj] at KS
        have HN := Aside0.mk (show DR B p lb lc rb rc mb (.slice (some ⟨g, 0, none⟩) n wc) (applyW S.lasts (keptW kp 0 (S.waits.take (j + 1)))) S.read S.waits (fun i => cnt i S.waits) n S.armed S.ops V1 ∧ Only (Big F W) W V1 from by
          rw [KS.out, if_neg (by decide)]; exact ⟨HDO.out.1, HDO.out.2.1⟩)
        clear hkj KS HDO NB
        go_wp2
        go_roundw
        case rel => exact ⟨j + 1, by go_num, by omega, HN⟩
        case measure => simp [intOf]; omega
      | true =>
        rw [hkj, if_pos rfl] at KS
        clear hkj
        obtain ⟨M, hM⟩ : ∃ m, L.length = m := ⟨_, rfl⟩
        have c0 := HDO.out.1.box
        rw [hM] at c0 hxb
        obtain ⟨curL, hcl, hls⟩ : ∃ cur, V1.heap[lb]? = some (.cells cur 9 (0, 0)) ∧ M ≤ cur.size := by
          rcases HDO.out.1.hl.2 with ⟨e, _⟩ | ⟨g', cap, cur, e, _, hg, hc1, _, hc3, _⟩
          · cases e
          · simp only [Value.slice.injEq, Option.some.injEq, Addr.mk.injEq] at e
            obtain ⟨⟨rfl, _⟩, _⟩ := e
            exact ⟨cur, hg, by omega⟩
        have hxb' : (xi : Int) < (M : Int) := by omega
        go_wp2_with fail
        refine wp_region_held_drew (S := fun V => SB p bx lb M #[.slice (some ⟨lb, 0, none⟩) M lc, .slice (some ⟨g, 0, none⟩) n wc, .map (some mb), .int .i64 S.armed, .int .i64 S.ops, .slice (some ⟨rb, 0, none⟩) M rc] #[.int .i64 (xi : Nat), .string xs] V) (by kernel_rfl) ⟨c0, HDO.out.2.2, curL, hcl, hls⟩ (fun hH => ?_)
        refine take_at (i := 0) (some 21) (.pointer (some ⟨p, 0, none⟩)) rfl rfl (by kernel_rfl) (by kernel_rfl) (by kernel_rfl) (fun _ _ _ h => h) (Or.inl ⟨by rfl, fun w hSw => by go_simp⟩) hH ?_
        refine take_at (i := 1) (some 22) (.pointer (some ⟨p, 0, none⟩)) rfl rfl (by kernel_rfl) (by kernel_rfl) (by kernel_rfl) (fun _ _ _ h => h) (Or.inl ⟨by rfl, fun w hSw => by go_simp⟩) hH ?_
        try simp only [Act.put, List.setIfInBounds_toArray, List.set_cons_zero, List.set_cons_succ]
        refine take_at (i := 2) (some 23) (.pointer (some ⟨p, 0, none⟩)) rfl rfl (by kernel_rfl) (by kernel_rfl) (by kernel_rfl) (fun _ _ _ h => h) (Or.inl ⟨by rfl, fun w hSw => by go_simp⟩) hH ?_
        refine take_at (i := 3) (some 24) (.slice (some ⟨lb, 0, none⟩) M lc) rfl rfl (by kernel_rfl) (by kernel_rfl) (by kernel_rfl) (fun _ _ _ h => h) (Or.inl ⟨by rfl, fun w hSw => by have e := cell_of_row w p 0 _ _ _ hSw.1; clear hSw; go_simp⟩) hH ?_
        try simp only [Act.put, List.setIfInBounds_toArray, List.set_cons_zero, List.set_cons_succ]
        refine take_at (i := 4) (some 25) (.pointer (some ⟨bx, 0, none⟩)) rfl rfl (by kernel_rfl) (by kernel_rfl) (by kernel_rfl) (fun _ _ _ h => h) (Or.inl ⟨by rfl, fun w hSw => by go_simp⟩) hH ?_
        refine take_at (i := 5) (some 26) (.int .i64 (xi : Nat)) rfl rfl (by kernel_rfl) (by kernel_rfl) (by kernel_rfl) (fun _ _ _ h => h) (Or.inl ⟨by rfl, fun w hSw => by have e := cell_of_row w bx 0 _ _ _ hSw.2.1; clear hSw; go_simp⟩) hH ?_
        try simp only [Act.put, List.setIfInBounds_toArray, List.set_cons_zero, List.set_cons_succ]
        refine take_at (i := 6) (some 27) (.pointer (some ⟨bx, 1, none⟩)) rfl rfl (by kernel_rfl) (by kernel_rfl) (by kernel_rfl) (fun _ _ _ h => h) (Or.inl ⟨by rfl, fun w hSw => by go_simp⟩) hH ?_
        refine take_at (i := 7) (some 28) (.string xs) rfl rfl (by kernel_rfl) (by kernel_rfl) (by kernel_rfl) (fun _ _ _ h => h) (Or.inl ⟨by rfl, fun w hSw => by have e := cell_of_row w bx 1 _ _ _ hSw.2.1; clear hSw; go_simp⟩) hH ?_
        try simp only [Act.put, List.setIfInBounds_toArray, List.set_cons_zero, List.set_cons_succ]
        refine take_at (i := 8) (some 29) (.pointer (some ⟨lb, xi, none⟩)) rfl rfl (by kernel_rfl) (by kernel_rfl) (by kernel_rfl) (fun _ _ _ h => h) (Or.inl ⟨by rfl, fun w hSw => by go_simp⟩) hH ?_
        try simp only [Act.put, List.setIfInBounds_toArray, List.set_cons_zero, List.set_cons_succ]
        have HV0 := Aside0.mk (And.intro (HDO.out.1.keep (W' := V1.drew) (fun _ _ => rfl)) (HDO.out.2.1.big_trans (only_below ((Below.refl _ V1).drew)).big))
        have BXH := Aside0.mk (show V1.drew.heap[bx]? = some (.cells #[.int .i64 (xi : Nat), .string xs] 68 (0, 0)) from HDO.out.2.2)
        clear HDO c0 hcl hls curL
        generalize V1.drew = V0 at hH HV0 BXH ⊢
        obtain ⟨hp, hb, cur, hl, hls⟩ := hH
        obtain ⟨u, hu⟩ : ∃ u, V0.cell? ⟨lb, xi, none⟩ = some u := ⟨_, (cell_of_row V0 lb xi _ _ _ hl).trans (Array.getElem?_eq_getElem (by omega))⟩
        have hfz : V0.frozen? ⟨lb, xi, none⟩ = false := frozen_of_row V0 lb xi _ _ hl
        have hnx := heap_setCell_same V0 lb xi cur _ (.string xs) hl
        have so : ∀ k, k ≠ lb → (V0.setCell ⟨lb, xi, none⟩ (.string xs)).heap[k]? = V0.heap[k]? := fun k hk => set_other _ _ _ _ hk
        have hS2 : SB p bx lb M #[.slice (some ⟨lb, 0, none⟩) M lc, .slice (some ⟨g, 0, none⟩) n wc, .map (some mb), .int .i64 S.armed, .int .i64 S.ops, .slice (some ⟨rb, 0, none⟩) M rc] #[.int .i64 (xi : Nat), .string xs] (V0.setCell ⟨lb, xi, none⟩ (.string xs)) := ⟨(so p HV0.out.1.p_lb).trans hp, (so bx NB.out.2).trans hb, _, hnx, by simpa using hls⟩
        refine wpAnyH_ready (rs := [9]) (by kernel_rfl) (by simp) (AllReadyH.cons rfl (fun K hK => ?_) AllReadyH.nil)
        clear so hnx hp hb hl hls
        go_simp
        refine hK.out _ _ hS2 (fun hH => ?_)
        clear hK K hS2 hu hfz
        refine wpAnyH_done (by kernel_rfl) ?_ _
        try simp only [Act.put, List.setIfInBounds_toArray, List.set_cons_zero, List.set_cons_succ]
        have HN := Aside0.mk (show DR B p lb lc rb rc mb (.slice (some ⟨g, 0, none⟩) n wc) (applyW S.lasts (keptW kp 0 (S.waits.take (j + 1)))) S.read S.waits (fun i => cnt i S.waits) n S.armed S.ops (V0.setCell ⟨lb, xi, none⟩ (.string xs)) ∧ Only (Big F W) W (V0.setCell ⟨lb, xi, none⟩ (.string xs)) from by
          rw [KS.out]
          exact ⟨HV0.out.1.setL xi xs, HV0.out.2.big_trans (only_set (F := F) ⟨lb, xi, none⟩ (.string xs) ((HFP.out lb).2 (.inr (.inr (.inl rfl))))).big⟩)
        clear hH HV0 BXH KS NB
        go_wp2
        go_roundw
        case rel => exact ⟨j + 1, by go_num, by omega, HN⟩
        case measure => simp [intOf]; omega
    · obtain rfl : j = n := by omega
      have H1 := Aside0.mk HS.out
      have d1 := HS.out.1.cell 1
      have e0 : S.waits.take j = S.waits := List.take_of_length_le (by rw [HNN.out]; exact Nat.le_refl _)
      rw [e0] at H1
      obtain ⟨L, hL⟩ : ∃ l, applyW S.lasts (keptW kp 0 S.waits) = l := ⟨_, rfl⟩
      have HL := Aside0.mk hL
      rw [hL] at H1
      have hll : L.length = S.lasts.length := by rw [← hL, applyW_len]
      have HLL := Aside0.mk hll
      clear HS e0 hL hll hlt hj HK HD
      go_wp2_with fail
      clear d1
      go_loopw [36] (fun i V => ∃ (k : Nat), i = .int .i64 k ∧ k ≤ j ∧ Aside0 (DR B p lb lc rb rc mb (.slice A j wc) L (copyW L S.read (S.waits.take k)) S.waits (fun i => cnt i S.waits) j S.armed S.ops V ∧ Only (Big F W) W V)) (fun i _ => j - (intOf i).toNat)
      case atStart => exact ⟨0, rfl, by omega, ⟨by simpa [copyW] using H1.out⟩⟩
      case round =>
        obtain ⟨k, rfl, hk, HS⟩ := hrel
        clear H1
        by_cases hlt : k < j
        · have hk1 : (k : Int) < (j : Int) := by omega
          have hkw : k < S.waits.length := by rw [HNN.out]; exact hlt
          rcases HS.out.1.hw.2 with ⟨e, e2⟩ | ⟨g, cap, cur0, e, e4⟩
          · exact absurd e2 (by omega)
          simp only [Value.slice.injEq] at e
          obtain ⟨rfl, e5, rfl⟩ := e
          clear e5 e4 cur0
          obtain ⟨p0, p1⟩ := owns_pair HS.out.1.hw k hkw
          obtain ⟨xi, hxi⟩ : ∃ x, (S.waits[k]'hkw).1 = x := ⟨_, rfl⟩
          obtain ⟨xs, hxs⟩ : ∃ x, (S.waits[k]'hkw).2 = x := ⟨_, rfl⟩
          rw [hxi] at p0
          rw [hxs] at p1
          have hxl : xi < L.length := by rw [HLL.out, ← hxi]; exact HO.out _ (List.getElem_mem hkw)
          have KS := Aside0.mk (copy_step L S.waits S.read k hkw)
          rw [hxi] at KS
          clear hxi hxs
          have hbw : Below wr.heap.size wr (wr.alloc (.cells #[.int .i64 (xi : Nat), .string xs] 68)) := (Below.refl _ _).alloc (Nat.le_refl _) _
          have hO := HS.out.2.big_trans (only_below hbw).big
          have hD := HS.out.1.below hbw
          have hbx := heap_alloc_new wr (.cells #[.int .i64 (xi : Nat), .string xs] 68)
          have NB := Aside0.mk (show wr.heap.size ≠ p ∧ wr.heap.size ≠ rb from ⟨by have := (HS.out.1.lt (.inl rfl)).2; omega, by have := (HS.out.1.lt (.inr (.inr (.inr (.inl rfl))))).2; omega⟩)
          have HDO := Aside0.mk (And.intro hD (And.intro hO hbx))
          clear hbw hO hD hbx HS
          go_wp2_with fail
          clear p0 p1
          generalize wr.alloc (.cells #[.int .i64 (xi : Nat), .string xs] 68) = V1 at HDO ⊢
          obtain ⟨bx, hbx⟩ : ∃ b, wr.heap.size = b := ⟨_, rfl⟩
          rw [hbx] at HDO NB ⊢
          clear hbx
          obtain ⟨M, hM⟩ : ∃ m, L.length = m := ⟨_, rfl⟩
          have c0 := HDO.out.1.box
          rw [hM] at c0 hxl
          obtain ⟨y, hy⟩ : ∃ y, L[xi]'(by rw [hM]; exact hxl) = y := ⟨_, rfl⟩
          obtain ⟨cl, hcl, hcy⟩ : ∃ cur, V1.heap[lb]? = some (.cells cur 9 (0, 0)) ∧ cur[xi]? = some (.string y) := by
            obtain ⟨cur, h1, _⟩ := HDO.out.1.lb_at
            refine ⟨cur, h1, ?_⟩
            have := HDO.out.1.hl.cellAt xi (by omega)
            rw [cell_of_row V1 lb xi _ _ _ h1, strs_get _ _ (by rw [hM]; exact hxl), hy] at this
            exact this
          obtain ⟨cr, hcr, hrs⟩ : ∃ cur, V1.heap[rb]? = some (.cells cur 9 (0, 0)) ∧ M ≤ cur.size := by
            rcases HDO.out.1.hr.2 with ⟨e, _⟩ | ⟨g', cap, cur, e, _, hg, hc1, _, hc3, _⟩
            · cases e
            · simp only [Value.slice.injEq, Option.some.injEq, Addr.mk.injEq] at e
              obtain ⟨⟨rfl, _⟩, _⟩ := e
              exact ⟨cur, hg, by omega⟩
          have KY := Aside0.mk (show L.getD xi ByteArray.empty = y by rw [List.getD_eq_getElem?_getD, List.getElem?_eq_getElem (by rw [hM]; exact hxl), hy]; rfl)
          have hxb' : (xi : Int) < (M : Int) := by omega
          have HM := Aside0.mk hM
          clear hM hy
          refine wp_region_held_drew (S := fun V => SB2 p bx lb rb M xi #[.slice (some ⟨lb, 0, none⟩) M lc, .slice (some ⟨g, 0, none⟩) j wc, .map (some mb), .int .i64 S.armed, .int .i64 S.ops, .slice (some ⟨rb, 0, none⟩) M rc] #[.int .i64 (xi : Nat), .string xs] cl y V) (by kernel_rfl) ⟨c0, HDO.out.2.2, hcl, hcy, cr, hcr, hrs⟩ (fun hH => ?_)
          refine take_at (i := 0) (some 40) (.pointer (some ⟨p, 0, none⟩)) rfl rfl (by kernel_rfl) (by kernel_rfl) (by kernel_rfl) (fun _ _ _ h => h) (Or.inl ⟨by rfl, fun w hSw => by go_simp⟩) hH ?_
          refine take_at (i := 1) (some 41) (.pointer (some ⟨p, 0, none⟩)) rfl rfl (by kernel_rfl) (by kernel_rfl) (by kernel_rfl) (fun _ _ _ h => h) (Or.inl ⟨by rfl, fun w hSw => by go_simp⟩) hH ?_
          try simp only [Act.put, List.setIfInBounds_toArray, List.set_cons_zero, List.set_cons_succ]
          refine take_at (i := 2) (some 42) (.pointer (some ⟨p, 5, none⟩)) rfl rfl (by kernel_rfl) (by kernel_rfl) (by kernel_rfl) (fun _ _ _ h => h) (Or.inl ⟨by rfl, fun w hSw => by go_simp⟩) hH ?_
          refine take_at (i := 3) (some 43) (.slice (some ⟨rb, 0, none⟩) M rc) rfl rfl (by kernel_rfl) (by kernel_rfl) (by kernel_rfl) (fun _ _ _ h => h) (Or.inl ⟨by rfl, fun w hSw => by have e := cell_of_row w p 5 _ _ _ hSw.1; clear hSw; go_simp⟩) hH ?_
          try simp only [Act.put, List.setIfInBounds_toArray, List.set_cons_zero, List.set_cons_succ]
          refine take_at (i := 4) (some 44) (.pointer (some ⟨bx, 0, none⟩)) rfl rfl (by kernel_rfl) (by kernel_rfl) (by kernel_rfl) (fun _ _ _ h => h) (Or.inl ⟨by rfl, fun w hSw => by go_simp⟩) hH ?_
          refine take_at (i := 5) (some 45) (.int .i64 (xi : Nat)) rfl rfl (by kernel_rfl) (by kernel_rfl) (by kernel_rfl) (fun _ _ _ h => h) (Or.inl ⟨by rfl, fun w hSw => by have e := cell_of_row w bx 0 _ _ _ hSw.2.1; clear hSw; go_simp⟩) hH ?_
          try simp only [Act.put, List.setIfInBounds_toArray, List.set_cons_zero, List.set_cons_succ]
          refine take_at (i := 6) (some 46) (.pointer (some ⟨p, 0, none⟩)) rfl rfl (by kernel_rfl) (by kernel_rfl) (by kernel_rfl) (fun _ _ _ h => h) (Or.inl ⟨by rfl, fun w hSw => by go_simp⟩) hH ?_
          refine take_at (i := 7) (some 47) (.pointer (some ⟨p, 0, none⟩)) rfl rfl (by kernel_rfl) (by kernel_rfl) (by kernel_rfl) (fun _ _ _ h => h) (Or.inl ⟨by rfl, fun w hSw => by go_simp⟩) hH ?_
          try simp only [Act.put, List.setIfInBounds_toArray, List.set_cons_zero, List.set_cons_succ]
          refine take_at (i := 8) (some 48) (.pointer (some ⟨p, 0, none⟩)) rfl rfl (by kernel_rfl) (by kernel_rfl) (by kernel_rfl) (fun _ _ _ h => h) (Or.inl ⟨by rfl, fun w hSw => by go_simp⟩) hH ?_
          refine take_at (i := 9) (some 49) (.slice (some ⟨lb, 0, none⟩) M lc) rfl rfl (by kernel_rfl) (by kernel_rfl) (by kernel_rfl) (fun _ _ _ h => h) (Or.inl ⟨by rfl, fun w hSw => by have e := cell_of_row w p 0 _ _ _ hSw.1; clear hSw; go_simp⟩) hH ?_
          try simp only [Act.put, List.setIfInBounds_toArray, List.set_cons_zero, List.set_cons_succ]
          refine take_at (i := 10) (some 50) (.pointer (some ⟨bx, 0, none⟩)) rfl rfl (by kernel_rfl) (by kernel_rfl) (by kernel_rfl) (fun _ _ _ h => h) (Or.inl ⟨by rfl, fun w hSw => by go_simp⟩) hH ?_
          refine take_at (i := 11) (some 51) (.int .i64 (xi : Nat)) rfl rfl (by kernel_rfl) (by kernel_rfl) (by kernel_rfl) (fun _ _ _ h => h) (Or.inl ⟨by rfl, fun w hSw => by have e := cell_of_row w bx 0 _ _ _ hSw.2.1; clear hSw; go_simp⟩) hH ?_
          try simp only [Act.put, List.setIfInBounds_toArray, List.set_cons_zero, List.set_cons_succ]
          refine take_at (i := 12) (some 52) (.pointer (some ⟨lb, xi, none⟩)) rfl rfl (by kernel_rfl) (by kernel_rfl) (by kernel_rfl) (fun _ _ _ h => h) (Or.inl ⟨by rfl, fun w hSw => by go_simp⟩) hH ?_
          refine take_at (i := 13) (some 53) (.string y) rfl rfl (by kernel_rfl) (by kernel_rfl) (by kernel_rfl) (fun _ _ _ h => h) (Or.inl ⟨by rfl, fun w hSw => by have e := (cell_of_row w lb xi _ _ _ hSw.2.2.1).trans hSw.2.2.2.1; clear hSw; go_simp⟩) hH ?_
          try simp only [Act.put, List.setIfInBounds_toArray, List.set_cons_zero, List.set_cons_succ]
          refine take_at (i := 14) (some 54) (.pointer (some ⟨rb, xi, none⟩)) rfl rfl (by kernel_rfl) (by kernel_rfl) (by kernel_rfl) (fun _ _ _ h => h) (Or.inl ⟨by rfl, fun w hSw => by go_simp⟩) hH ?_
          try simp only [Act.put, List.setIfInBounds_toArray, List.set_cons_zero, List.set_cons_succ]
          have HV0 := Aside0.mk (And.intro (HDO.out.1.keep (W' := V1.drew) (fun _ _ => rfl)) (HDO.out.2.1.big_trans (only_below ((Below.refl _ V1).drew)).big))
          clear HDO c0 hcl hcr hrs cr hcy
          generalize V1.drew = V0 at hH HV0 ⊢
          obtain ⟨hp, hb, hl, hy, cur, hr, hrs⟩ := hH
          obtain ⟨u, hu⟩ : ∃ u, V0.cell? ⟨rb, xi, none⟩ = some u := ⟨_, (cell_of_row V0 rb xi _ _ _ hr).trans (Array.getElem?_eq_getElem (by omega))⟩
          have hfz : V0.frozen? ⟨rb, xi, none⟩ = false := frozen_of_row V0 rb xi _ _ hr
          have hnx := heap_setCell_same V0 rb xi cur _ (.string y) hr
          have so : ∀ k, k ≠ rb → (V0.setCell ⟨rb, xi, none⟩ (.string y)).heap[k]? = V0.heap[k]? := fun k hk => set_other _ _ _ _ hk
          have hS2 : SB2 p bx lb rb M xi #[.slice (some ⟨lb, 0, none⟩) M lc, .slice (some ⟨g, 0, none⟩) j wc, .map (some mb), .int .i64 S.armed, .int .i64 S.ops, .slice (some ⟨rb, 0, none⟩) M rc] #[.int .i64 (xi : Nat), .string xs] cl y (V0.setCell ⟨rb, xi, none⟩ (.string y)) := ⟨(so p HV0.out.1.p_rb).trans hp, (so bx NB.out.2).trans hb, (so lb HV0.out.1.ne).trans hl, hy, _, hnx, by simpa using hrs⟩
          refine wpAnyH_ready (rs := [15]) (by kernel_rfl) (by simp) (AllReadyH.cons rfl (fun K hK => ?_) AllReadyH.nil)
          clear so hnx hp hb hl hy hr hrs
          go_simp
          refine hK.out _ _ hS2 (fun hH => ?_)
          clear hK K hS2 hu hfz
          refine wpAnyH_done (by kernel_rfl) ?_ _
          try simp only [Act.put, List.setIfInBounds_toArray, List.set_cons_zero, List.set_cons_succ]
          have HN := Aside0.mk (show DR B p lb lc rb rc mb (.slice (some ⟨g, 0, none⟩) j wc) L (copyW L S.read (S.waits.take (k + 1))) S.waits (fun i => cnt i S.waits) j S.armed S.ops (V0.setCell ⟨rb, xi, none⟩ (.string y)) ∧ Only (Big F W) W (V0.setCell ⟨rb, xi, none⟩ (.string y)) from by
            rw [KS.out, KY.out]
            exact ⟨HV0.out.1.setR xi y, HV0.out.2.big_trans (only_set (F := F) ⟨rb, xi, none⟩ (.string y) ((HFP.out rb).2 (.inr (.inr (.inr (.inl rfl)))))).big⟩)
          clear hH HV0 KS NB KY HM
          go_wp2
          go_roundw
          case rel => exact ⟨k + 1, by go_num, by omega, HN⟩
          case measure => simp [intOf]; omega
        · obtain rfl : k = j := by omega
          have e0 : S.waits.take k = S.waits := List.take_of_length_le (by rw [HNN.out]; exact Nat.le_refl _)
          have e1 : copyW L S.read S.waits = L := by rw [← HL.out]; exact settled S.lasts S.waits kp
          have hD0 := HS.out.1
          rw [e0, e1] at hD0
          have d1 := hD0.cell 1
          have f1 := hD0.frozen 1
          have hD1 := hD0.setW (.slice none 0 0) [] (World.ownsRow_nil _ _ _ _)
          have d2 := hD1.cell 2
          obtain ⟨nm, D, hown, _, _⟩ := hD1.mp
          obtain ⟨W9, hrun, hg9, hown9⟩ := clear_run hown
          have hD2 := hD1.setM (m' := fun i => cnt i []) (N' := 0) hg9 ⟨0, .map [], hown9, Nat.le_refl _, fun i => rfl⟩
          have O9 := HS.out.2.big_trans ((only_set (F := F) ⟨p, 1, none⟩ (.slice none 0 0) ((HFP.out p).2 (.inl rfl))).big.big_trans (only_grown (F := F) hg9 (fun k e => (HFP.out k).2 (.inr (.inl (by simpa using e.symm))))).big)
          have HE := Aside0.mk (And.intro hD2 O9)
          clear e0 e1 hD0 hD1 hown hg9 hown9 hD2 O9 HS hlt hk
          go_wp2
          go_end0
          refine ⟨rfl, FP p lb rb mb (.slice none 0 0), ⟨lb, lc, rb, rc, mb, _, ?_, fun _ => Iff.rfl⟩, HE.out.2.small, fun k hk => ?_⟩
          · have e2 : (S.crash kp).lasts = L := HL.out
            have e3 : (S.crash kp).read = L := HL.out
            rw [e2, e3]
            exact HE.out.1
          · rcases hk with rfl | rfl | rfl | rfl | hk
            · exact .inl ((HFP.out k).2 (.inl rfl))
            · exact .inl ((HFP.out k).2 (.inr (.inl rfl)))
            · exact .inl ((HFP.out k).2 (.inr (.inr (.inl rfl))))
            · exact .inl ((HFP.out k).2 (.inr (.inr (.inr (.inl rfl)))))
            · cases hk
end Go.Proofs.Ytombochecgjmjaa.Dk
