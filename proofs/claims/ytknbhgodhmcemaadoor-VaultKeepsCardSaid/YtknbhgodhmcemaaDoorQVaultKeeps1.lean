/- Texts of the seat, as far as the row needs them. -/
import Derived.Below
import Derived.BigQuiet
import Derived.Deep.CutBlock
import Derived.Deep.DeepCutAuto
import Derived.Deep.DeepFit
import Derived.Deep.Light
import Derived.Deep.LoopGhost
import Derived.Deep.QuietTactic
import Derived.Deep.RegionHeld3
import Derived.Ground.Names2Prog
import Derived.Laws.AppendOwn
import Derived.Laws.BitsAllLaws
import Derived.Laws.BitsLemmas
import Derived.Laws.CopyOwn
import Derived.Laws.Externs
import Derived.Laws.IdiomCopy
import Derived.Laws.IdiomStrings
import Derived.Laws.OwnMore
import Derived.Laws.ResultCell
import Derived.Laws.Rows
import Derived.Laws.StructEq
import Derived.Laws.Tables
import Derived.Lib.AppendStr
import Derived.Lib.FrozenHead2
import Derived.Lib.OthersKept
import Derived.Lib.RepeatB
import Derived.Lib.TrimByte
import Derived.Lib.UnsafeStr
import Derived.Maps.Own
import Derived.Maps.OwnOps
import Derived.Maps.OwnSet
import Derived.Maps.Views
import Derived.OrdersHeld
import Derived.Outline
import Derived.OwnWalk
import Derived.Shelf.Bits.Mul64
import Derived.Shelf.Slices.Clone
import Derived.Shelf.Small.Strs
import Derived.Shelf.Small.Utf8
import Derived.Shelf.Strings.Builder1
import Derived.Shelf.Strings.Builder2
import Derived.Shelf.Strings.BuilderF
import Derived.Shelf.Strings.BuilderK
import Derived.Shelf.Strings.Prefix
import Derived.Shelf.Strings.Repeat
import Derived.Shelf.Strings.Search1
import Derived.Shelf.Strings.Trim
import Derived.Shelf.Unicode.DecodeSlow
import Derived.StillTailTactics
import Derived.Test.YtknbhgodhmcemaaDoorProg
import Derived.WalkKit
import Derived.Test.YtknbhgodhmcemaaDoorQVaultKeeps0
set_option linter.unusedVariables false
set_option linter.unusedSimpArgs false
namespace Go.Proofs.YtknbhgodhmcemaaDoor.Dk
set_option linter.unusedSimpArgs false
set_option linter.unusedVariables false
set_option maxRecDepth 100000
open Go.RowKit Go.Proofs.YtknbhgodhmcemaaDoor.Own Go.Proofs.YtknbhgodhmcemaaDoor.Cel
theorem owns_pair {W : World} {B g n c : Nat} {ws : List Wt} (h : W.ownsRow B 130 2 (.slice (some ⟨g, 0, none⟩) n c) ws.length (wcells ws)) (j : Nat) (hj : j < ws.length) :
    W.cell? ⟨g, j * 2, none⟩ = some (.int .i64 ((ws[j]'hj).1 : Nat)) ∧ W.cell? ⟨g, j * 2 + 1, none⟩ = some (.string (ws[j]'hj).2) := by
  have e0 := wcells_get0 ws j hj
  have e1 := wcells_get1 ws j hj
  have hc := h.cells (g := g) rfl
  have k0 := hc _ _ e0
  have k1 := hc _ _ e1
  rw [Nat.mul_comm j 2]
  rw [Seg.addr_add, Nat.zero_add] at k0 k1
  exact ⟨k0, k1⟩
theorem take_snoc (ws : List Wt) (j : Nat) (hj : j < ws.length) : ws.take (j + 1) = ws.take j ++ [ws[j]'hj] := by rw [List.take_succ_eq_append_getElem hj]
theorem kept_step (kp : Nat → Bool) (ws : List Wt) (ls : List ByteArray) (j : Nat) (hj : j < ws.length) :
    applyW ls (keptW kp 0 (ws.take (j + 1))) = if kp j then (applyW ls (keptW kp 0 (ws.take j))).set (ws[j]'hj).1 (ws[j]'hj).2 else applyW ls (keptW kp 0 (ws.take j)) := by
  rw [take_snoc ws j hj, keptW_snoc, Nat.zero_add, List.length_take, Nat.min_eq_left (by omega)]
  cases kp j
  · simp
  · simp [applyW_snoc]
theorem copy_step (src : List ByteArray) (ws : List Wt) (l : List ByteArray) (j : Nat) (hj : j < ws.length) :
    copyW src l (ws.take (j + 1)) = (copyW src l (ws.take j)).set (ws[j]'hj).1 (src.getD (ws[j]'hj).1 ByteArray.empty) := by
  rw [take_snoc ws j hj, copyW_snoc]
theorem clear_run {W : World} {mb n : Nat} {D : DataW Unit} (h : W.ownsMap Tryd.prog 3 (plainElem Tryd.prog 3) mb n D) :
    ∃ W', (∀ ty, (Builtin.clear_ #[89] ty #[.map (some mb)]).run Tryd.prog W = .ok (.tuple #[]) W') ∧ W.grownBy W' (some mb) ∧ W'.ownsMap (H := Unit) Tryd.prog 3 (plainElem Tryd.prog 3) mb 0 (.map []) := by
  obtain ⟨es, clock, hb, _⟩ := h
  have hlt := (Array.getElem?_eq_some_iff.1 hb).1
  refine ⟨{ W with heap := W.heap.setIfInBounds mb (.map #[] clock) }, fun ty => ?_, ⟨rfl, rfl, rfl, by simp, fun k hk hn => ?_⟩, ?_⟩
  · have hu := run_underlying Tryd.underlying89 W
    simp [Builtin.clear_, run_underlying Tryd.underlying89, Go.MapKept.run_getObj_map hb, Go.MapKept.run_setObj_map _ hb, Result.andThen]
  · show (W.heap.setIfInBounds mb (.map #[] clock))[k]? = _
    rw [Array.getElem?_setIfInBounds_ne (fun e => hn (by rw [e]))]
  · refine ⟨#[], clock, ?_, ⟨by simp, Go.MapKept.stamped_empty clock, by simp⟩, Nat.le_refl _, rfl⟩
    show (W.heap.setIfInBounds mb (.map #[] clock))[mb]? = _
    rw [Array.getElem?_setIfInBounds_self_of_lt hlt]
def SB (p bx lb M : Nat) (bc xc : Array Value) (V : World) : Prop :=
  V.heap[p]? = some (.cells bc 92 (0, 0)) ∧ V.heap[bx]? = some (.cells xc 130 (0, 0)) ∧ ∃ cur, V.heap[lb]? = some (.cells cur 9 (0, 0)) ∧ M ≤ cur.size
def SB2 (p bx lb rb M xi : Nat) (bc xc cl : Array Value) (y : ByteArray) (V : World) : Prop :=
  V.heap[p]? = some (.cells bc 92 (0, 0)) ∧ V.heap[bx]? = some (.cells xc 130 (0, 0)) ∧ V.heap[lb]? = some (.cells cl 9 (0, 0)) ∧ cl[xi]? = some (.string y) ∧ ∃ cur, V.heap[rb]? = some (.cells cur 9 (0, 0)) ∧ M ≤ cur.size
variable {B p : Nat} {S : DS} {F : Nat → Prop} {W : World}
set_option maxHeartbeats 2000000 in
theorem settle_sync (h : DK B p S F W) (hok : S.ok) (hn : S.waits.length ≤ 1000000) (kp : Nat → Bool)
    (HK0 : ∀ V, Only (Big F W) W V → ∀ j : Nat, j < S.waits.length → Calls Tryd.prog 53 #[.int .i64 (j : Nat)] V fun e w' => e = .returned (.bool (kp j)) ∧ V = w') :
    Calls Tryd.prog 48 #[.pointer (some ⟨p, 0, none⟩), .func (.func 53) #[] #[]] W fun e W' => e = .returned (.tuple #[]) ∧ Did B p (S.crash kp) F W W' := by
  have HK := Aside0.mk HK0
  clear HK0
  obtain ⟨lb, lc, rb, rc, mb, wv, hd, hFP⟩ := h
  have d1 := hd.cell 1
  obtain ⟨A, wc, rfl⟩ := owns_slice hd.hw
  have HD := Aside0.mk hd
  have HFP := Aside0.mk hFP
  have HO := Aside0.mk hok
  obtain ⟨n, hnn⟩ : ∃ n, S.waits.length = n := ⟨_, rfl⟩
  have HNN := Aside0.mk hnn
  rw [hnn] at hn d1 HK HD HFP
  clear hd hFP hok hnn
  go_enter Tryd.func48, Tryd.ntmps48
  go_wp2_with fail
  clear d1
  go_loopw [13] (fun i V => ∃ (j : Nat), i = .int .i64 j ∧ j ≤ n ∧ Aside0 (DR B p lb lc rb rc mb (.slice A n wc) (applyW S.lasts (keptW kp 0 (S.waits.take j))) S.read S.waits (fun i => cnt i S.waits) n S.armed S.ops V ∧ Only (Big F W) W V)) (fun i _ => n - (intOf i).toNat)
  case atStart => exact ⟨0, rfl, by omega, ⟨by simpa [keptW, applyW] using HD.out, Only.refl _ _⟩⟩
  case round =>
    obtain ⟨j, rfl, hj, HS⟩ := hrel
    by_cases hlt : j < n
    · have hj1 : (j : Int) < (n : Int) := by omega
      have hjw : j < S.waits.length := by rw [HNN.out]; exact hlt
      rcases HS.out.1.hw.2 with ⟨e, e2⟩ | ⟨g, cap, cur0, e, e4⟩
      · exact absurd e2 (by omega)
      simp only [Value.slice.injEq] at e
      obtain ⟨rfl, e5, rfl⟩ := e
      clear e5 e4 cur0
      obtain ⟨p0, p1⟩ := owns_pair HS.out.1.hw j hjw
      obtain ⟨xi, hxi⟩ : ∃ x, (S.waits[j]'hjw).1 = x := ⟨_, rfl⟩
      obtain ⟨xs, hxs⟩ : ∃ x, (S.waits[j]'hjw).2 = x := ⟨_, rfl⟩
      rw [hxi] at p0
      rw [hxs] at p1
      have hxl : xi < S.lasts.length := by rw [← hxi]; exact HO.out _ (List.getElem_mem hjw)
      have KS := Aside0.mk (kept_step kp S.waits S.lasts j hjw)
      rw [hxi, hxs] at KS
      clear hxi hxs HD
      have hxb : xi < (applyW S.lasts (keptW kp 0 (S.waits.take j))).length := by rw [applyW_len]; exact hxl
      have hbw : Below wr.heap.size wr (wr.alloc (.cells #[.int .i64 (xi : Nat), .string xs] 130)) := (Below.refl _ _).alloc (Nat.le_refl _) _
      have hO := HS.out.2.big_trans (only_below hbw).big
      have hD := HS.out.1.below hbw
      have hbx := heap_alloc_new wr (.cells #[.int .i64 (xi : Nat), .string xs] 130)
      have KC := Aside0.mk (HK.out _ hO j hlt)
      have NB := Aside0.mk (show wr.heap.size ≠ p ∧ wr.heap.size ≠ lb from ⟨by have := (HS.out.1.lt (.inl rfl)).2; omega, by have := (HS.out.1.lt (.inr (.inr (.inl rfl)))).2; omega⟩)
      have HDO := Aside0.mk (And.intro hD (And.intro hO hbx))
      clear hbw hO hD hbx HS hxl
      go_wp2_with fail
      clear p0 p1
      generalize (wr.alloc (.cells #[.int .i64 (xi : Nat), .string xs] 130)) = V1 at KC HDO ⊢
      obtain ⟨bx, hbx⟩ : ∃ b, wr.heap.size = b := ⟨_, rfl⟩
      rw [hbx] at HDO NB ⊢
      obtain ⟨L, hL⟩ : ∃ l, applyW S.lasts (keptW kp 0 (S.waits.take j)) = l := ⟨_, rfl⟩
      rw [hL] at HDO KS hxb
      clear hbx hL
      refine KC.out.mono ?_
      rintro x v1 ⟨rfl, rfl⟩
      clear KC
      cases hkj : kp j with
      | false =>
        rw [hkj] at KS
        have HN := Aside0.mk (show DR B p lb lc rb rc mb (.slice (some ⟨g, 0, none⟩) n wc) (applyW S.lasts (keptW kp 0 (S.waits.take (j + 1)))) S.read S.waits (fun i => cnt i S.waits) n S.armed S.ops V1 ∧ Only (Big F W) W V1 from by
          rw [KS.out, if_neg (by decide)]; exact ⟨HDO.out.1, HDO.out.2.1⟩)
        clear hkj KS HDO NB
        go_wp2
        go_roundw
        case rel => exact ⟨j + 1, by go_num, by omega, HN⟩
        case measure => simp [intOf]; omega
      | true =>
        rw [hkj, if_pos rfl] at KS
        clear hkj
        obtain ⟨M, hM⟩ : ∃ m, L.length = m := ⟨_, rfl⟩
        have c0 := HDO.out.1.box
        rw [hM] at c0 hxb
        obtain ⟨curL, hcl, hls⟩ : ∃ cur, V1.heap[lb]? = some (.cells cur 9 (0, 0)) ∧ M ≤ cur.size := by
          rcases HDO.out.1.hl.2 with ⟨e, _⟩ | ⟨g', cap, cur, e, _, hg, hc1, _, hc3, _⟩
          · cases e
          · simp only [Value.slice.injEq, Option.some.injEq, Addr.mk.injEq] at e
            obtain ⟨⟨rfl, _⟩, _⟩ := e
            exact ⟨cur, hg, by omega⟩
        have hxb' : (xi : Int) < (M : Int) := by omega
        go_wp2_with fail
        refine wp_region_held_drew (S := fun V => SB p bx lb M #[.slice (some ⟨lb, 0, none⟩) M lc, .slice (some ⟨g, 0, none⟩) n wc, .map (some mb), .int .i64 S.armed, .int .i64 S.ops, .slice (some ⟨rb, 0, none⟩) M rc] #[.int .i64 (xi : Nat), .string xs] V) (by kernel_rfl) ⟨c0, HDO.out.2.2, curL, hcl, hls⟩ (fun hH => ?_)
        refine take_at (i := 0) (some 21) (.pointer (some ⟨p, 0, none⟩)) rfl rfl (by kernel_rfl) (by kernel_rfl) (by kernel_rfl) (fun _ _ _ h => h) (Or.inl ⟨by rfl, fun w hSw => by go_simp⟩) hH ?_
        refine take_at (i := 1) (some 22) (.pointer (some ⟨p, 0, none⟩)) rfl rfl (by kernel_rfl) (by kernel_rfl) (by kernel_rfl) (fun _ _ _ h => h) (Or.inl ⟨by rfl, fun w hSw => by go_simp⟩) hH ?_
        try simp only [Act.put, List.setIfInBounds_toArray, List.set_cons_zero, List.set_cons_succ]
        refine take_at (i := 2) (some 23) (.pointer (some ⟨p, 0, none⟩)) rfl rfl (by kernel_rfl) (by kernel_rfl) (by kernel_rfl) (fun _ _ _ h => h) (Or.inl ⟨by rfl, fun w hSw => by go_simp⟩) hH ?_
        refine take_at (i := 3) (some 24) (.slice (some ⟨lb, 0, none⟩) M lc) rfl rfl (by kernel_rfl) (by kernel_rfl) (by kernel_rfl) (fun _ _ _ h => h) (Or.inl ⟨by rfl, fun w hSw => by have e := cell_of_row w p 0 _ _ _ hSw.1; clear hSw; go_simp⟩) hH ?_
        try simp only [Act.put, List.setIfInBounds_toArray, List.set_cons_zero, List.set_cons_succ]
        refine take_at (i := 4) (some 25) (.pointer (some ⟨bx, 0, none⟩)) rfl rfl (by kernel_rfl) (by kernel_rfl) (by kernel_rfl) (fun _ _ _ h => h) (Or.inl ⟨by rfl, fun w hSw => by go_simp⟩) hH ?_
        refine take_at (i := 5) (some 26) (.int .i64 (xi : Nat)) rfl rfl (by kernel_rfl) (by kernel_rfl) (by kernel_rfl) (fun _ _ _ h => h) (Or.inl ⟨by rfl, fun w hSw => by have e := cell_of_row w bx 0 _ _ _ hSw.2.1; clear hSw; go_simp⟩) hH ?_
        try simp only [Act.put, List.setIfInBounds_toArray, List.set_cons_zero, List.set_cons_succ]
        refine take_at (i := 6) (some 27) (.pointer (some ⟨bx, 1, none⟩)) rfl rfl (by kernel_rfl) (by kernel_rfl) (by kernel_rfl) (fun _ _ _ h => h) (Or.inl ⟨by rfl, fun w hSw => by go_simp⟩) hH ?_
        refine take_at (i := 7) (some 28) (.string xs) rfl rfl (by kernel_rfl) (by kernel_rfl) (by kernel_rfl) (fun _ _ _ h => h) (Or.inl ⟨by rfl, fun w hSw => by have e := cell_of_row w bx 1 _ _ _ hSw.2.1; clear hSw; go_simp⟩) hH ?_
        try simp only [Act.put, List.setIfInBounds_toArray, List.set_cons_zero, List.set_cons_succ]
        refine take_at (i := 8) (some 29) (.pointer (some ⟨lb, xi, none⟩)) rfl rfl (by kernel_rfl) (by kernel_rfl) (by kernel_rfl) (fun _ _ _ h => h) (Or.inl ⟨by rfl, fun w hSw => by go_simp⟩) hH ?_
        try simp only [Act.put, List.setIfInBounds_toArray, List.set_cons_zero, List.set_cons_succ]
        have HV0 := Aside0.mk (And.intro (HDO.out.1.keep (W' := V1.drew) (fun _ _ => rfl)) (HDO.out.2.1.big_trans (only_below ((Below.refl _ V1).drew)).big))
        have BXH := Aside0.mk (show V1.drew.heap[bx]? = some (.cells #[.int .i64 (xi : Nat), .string xs] 130 (0, 0)) from HDO.out.2.2)
        clear HDO c0 hcl hls curL
        generalize V1.drew = V0 at hH HV0 BXH ⊢
        obtain ⟨hp, hb, cur, hl, hls⟩ := hH
        obtain ⟨u, hu⟩ : ∃ u, V0.cell? ⟨lb, xi, none⟩ = some u := ⟨_, (cell_of_row V0 lb xi _ _ _ hl).trans (Array.getElem?_eq_getElem (by omega))⟩
        have hfz : V0.frozen? ⟨lb, xi, none⟩ = false := frozen_of_row V0 lb xi _ _ hl
        have hnx := heap_setCell_same V0 lb xi cur _ (.string xs) hl
        have so : ∀ k, k ≠ lb → (V0.setCell ⟨lb, xi, none⟩ (.string xs)).heap[k]? = V0.heap[k]? := fun k hk => set_other _ _ _ _ hk
        have hS2 : SB p bx lb M #[.slice (some ⟨lb, 0, none⟩) M lc, .slice (some ⟨g, 0, none⟩) n wc, .map (some mb), .int .i64 S.armed, .int .i64 S.ops, .slice (some ⟨rb, 0, none⟩) M rc] #[.int .i64 (xi : Nat), .string xs] (V0.setCell ⟨lb, xi, none⟩ (.string xs)) := ⟨(so p HV0.out.1.p_lb).trans hp, (so bx NB.out.2).trans hb, _, hnx, by simpa using hls⟩
        refine wpAnyH_ready (rs := [9]) (by kernel_rfl) (by simp) (AllReadyH.cons rfl (fun K hK => ?_) AllReadyH.nil)
        clear so hnx hp hb hl hls
        go_simp
        refine hK.out _ _ hS2 (fun hH => ?_)
        clear hK K hS2 hu hfz
        refine wpAnyH_done (by kernel_rfl) ?_ _
        try simp only [Act.put, List.setIfInBounds_toArray, List.set_cons_zero, List.set_cons_succ]
        have HN := Aside0.mk (show DR B p lb lc rb rc mb (.slice (some ⟨g, 0, none⟩) n wc) (applyW S.lasts (keptW kp 0 (S.waits.take (j + 1)))) S.read S.waits (fun i => cnt i S.waits) n S.armed S.ops (V0.setCell ⟨lb, xi, none⟩ (.string xs)) ∧ Only (Big F W) W (V0.setCell ⟨lb, xi, none⟩ (.string xs)) from by
          rw [KS.out]
          exact ⟨HV0.out.1.setL xi xs, HV0.out.2.big_trans (only_set (F := F) ⟨lb, xi, none⟩ (.string xs) ((HFP.out lb).2 (.inr (.inr (.inl rfl))))).big⟩)
        clear hH HV0 BXH KS NB
        go_wp2
        go_roundw
        case rel => exact ⟨j + 1, by go_num, by omega, HN⟩
        case measure => simp [intOf]; omega
    · obtain rfl : j = n := by omega
      have H1 := Aside0.mk HS.out
      have d1 := HS.out.1.cell 1
      have e0 : S.waits.take j = S.waits := List.take_of_length_le (by rw [HNN.out]; exact Nat.le_refl _)
      rw [e0] at H1
      obtain ⟨L, hL⟩ : ∃ l, applyW S.lasts (keptW kp 0 S.waits) = l := ⟨_, rfl⟩
      have HL := Aside0.mk hL
      rw [hL] at H1
      have hll : L.length = S.lasts.length := by rw [← hL, applyW_len]
      have HLL := Aside0.mk hll
      clear HS e0 hL hll hlt hj HK HD
      go_wp2_with fail
      clear d1
      go_loopw [36] (fun i V => ∃ (k : Nat), i = .int .i64 k ∧ k ≤ j ∧ Aside0 (DR B p lb lc rb rc mb (.slice A j wc) L (copyW L S.read (S.waits.take k)) S.waits (fun i => cnt i S.waits) j S.armed S.ops V ∧ Only (Big F W) W V)) (fun i _ => j - (intOf i).toNat)
      case atStart => exact ⟨0, rfl, by omega, ⟨by simpa [copyW] using H1.out⟩⟩
      case round =>
        obtain ⟨k, rfl, hk, HS⟩ := hrel
        clear H1
        by_cases hlt : k < j
        · have hk1 : (k : Int) < (j : Int) := by omega
          have hkw : k < S.waits.length := by rw [HNN.out]; exact hlt
          rcases HS.out.1.hw.2 with ⟨e, e2⟩ | ⟨g, cap, cur0, e, e4⟩
          · exact absurd e2 (by omega)
          simp only [Value.slice.injEq] at e
          obtain ⟨rfl, e5, rfl⟩ := e
          clear e5 e4 cur0
          obtain ⟨p0, p1⟩ := owns_pair HS.out.1.hw k hkw
          obtain ⟨xi, hxi⟩ : ∃ x, (S.waits[k]'hkw).1 = x := ⟨_, rfl⟩
          obtain ⟨xs, hxs⟩ : ∃ x, (S.waits[k]'hkw).2 = x := ⟨_, rfl⟩
          rw [hxi] at p0
          rw [hxs] at p1
          have hxl : xi < L.length := by rw [HLL.out, ← hxi]; exact HO.out _ (List.getElem_mem hkw)
          have KS := Aside0.mk (copy_step L S.waits S.read k hkw)
          rw [hxi] at KS
          clear hxi hxs
          have hbw : Below wr.heap.size wr (wr.alloc (.cells #[.int .i64 (xi : Nat), .string xs] 130)) := (Below.refl _ _).alloc (Nat.le_refl _) _
          have hO := HS.out.2.big_trans (only_below hbw).big
          have hD := HS.out.1.below hbw
          have hbx := heap_alloc_new wr (.cells #[.int .i64 (xi : Nat), .string xs] 130)
          have NB := Aside0.mk (show wr.heap.size ≠ p ∧ wr.heap.size ≠ rb from ⟨by have := (HS.out.1.lt (.inl rfl)).2; omega, by have := (HS.out.1.lt (.inr (.inr (.inr (.inl rfl))))).2; omega⟩)
          have HDO := Aside0.mk (And.intro hD (And.intro hO hbx))
          clear hbw hO hD hbx HS
          go_wp2_with fail
          clear p0 p1
          generalize wr.alloc (.cells #[.int .i64 (xi : Nat), .string xs] 130) = V1 at HDO ⊢
          obtain ⟨bx, hbx⟩ : ∃ b, wr.heap.size = b := ⟨_, rfl⟩
          rw [hbx] at HDO NB ⊢
          clear hbx
          obtain ⟨M, hM⟩ : ∃ m, L.length = m := ⟨_, rfl⟩
          have c0 := HDO.out.1.box
          rw [hM] at c0 hxl
          obtain ⟨y, hy⟩ : ∃ y, L[xi]'(by rw [hM]; exact hxl) = y := ⟨_, rfl⟩
          obtain ⟨cl, hcl, hcy⟩ : ∃ cur, V1.heap[lb]? = some (.cells cur 9 (0, 0)) ∧ cur[xi]? = some (.string y) := by
            obtain ⟨cur, h1, _⟩ := HDO.out.1.lb_at
            refine ⟨cur, h1, ?_⟩
            have := HDO.out.1.hl.cellAt xi (by omega)
            rw [cell_of_row V1 lb xi _ _ _ h1, strs_get _ _ (by rw [hM]; exact hxl), hy] at this
            exact this
          obtain ⟨cr, hcr, hrs⟩ : ∃ cur, V1.heap[rb]? = some (.cells cur 9 (0, 0)) ∧ M ≤ cur.size := by
            rcases HDO.out.1.hr.2 with ⟨e, _⟩ | ⟨g', cap, cur, e, _, hg, hc1, _, hc3, _⟩
            · cases e
            · simp only [Value.slice.injEq, Option.some.injEq, Addr.mk.injEq] at e
              obtain ⟨⟨rfl, _⟩, _⟩ := e
              exact ⟨cur, hg, by omega⟩
          have KY := Aside0.mk (show L.getD xi ByteArray.empty = y by rw [List.getD_eq_getElem?_getD, List.getElem?_eq_getElem (by rw [hM]; exact hxl), hy]; rfl)
          have hxb' : (xi : Int) < (M : Int) := by omega
          have HM := Aside0.mk hM
          clear hM hy
          refine wp_region_held_drew (S := fun V => SB2 p bx lb rb M xi #[.slice (some ⟨lb, 0, none⟩) M lc, .slice (some ⟨g, 0, none⟩) j wc, .map (some mb), .int .i64 S.armed, .int .i64 S.ops, .slice (some ⟨rb, 0, none⟩) M rc] #[.int .i64 (xi : Nat), .string xs] cl y V) (by kernel_rfl) ⟨c0, HDO.out.2.2, hcl, hcy, cr, hcr, hrs⟩ (fun hH => ?_)
          refine take_at (i := 0) (some 40) (.pointer (some ⟨p, 0, none⟩)) rfl rfl (by kernel_rfl) (by kernel_rfl) (by kernel_rfl) (fun _ _ _ h => h) (Or.inl ⟨by rfl, fun w hSw => by go_simp⟩) hH ?_
          refine take_at (i := 1) (some 41) (.pointer (some ⟨p, 0, none⟩)) rfl rfl (by kernel_rfl) (by kernel_rfl) (by kernel_rfl) (fun _ _ _ h => h) (Or.inl ⟨by rfl, fun w hSw => by go_simp⟩) hH ?_
          try simp only [Act.put, List.setIfInBounds_toArray, List.set_cons_zero, List.set_cons_succ]
          refine take_at (i := 2) (some 42) (.pointer (some ⟨p, 5, none⟩)) rfl rfl (by kernel_rfl) (by kernel_rfl) (by kernel_rfl) (fun _ _ _ h => h) (Or.inl ⟨by rfl, fun w hSw => by go_simp⟩) hH ?_
          refine take_at (i := 3) (some 43) (.slice (some ⟨rb, 0, none⟩) M rc) rfl rfl (by kernel_rfl) (by kernel_rfl) (by kernel_rfl) (fun _ _ _ h => h) (Or.inl ⟨by rfl, fun w hSw => by have e := cell_of_row w p 5 _ _ _ hSw.1; clear hSw; go_simp⟩) hH ?_
          try simp only [Act.put, List.setIfInBounds_toArray, List.set_cons_zero, List.set_cons_succ]
          refine take_at (i := 4) (some 44) (.pointer (some ⟨bx, 0, none⟩)) rfl rfl (by kernel_rfl) (by kernel_rfl) (by kernel_rfl) (fun _ _ _ h => h) (Or.inl ⟨by rfl, fun w hSw => by go_simp⟩) hH ?_
          refine take_at (i := 5) (some 45) (.int .i64 (xi : Nat)) rfl rfl (by kernel_rfl) (by kernel_rfl) (by kernel_rfl) (fun _ _ _ h => h) (Or.inl ⟨by rfl, fun w hSw => by have e := cell_of_row w bx 0 _ _ _ hSw.2.1; clear hSw; go_simp⟩) hH ?_
          try simp only [Act.put, List.setIfInBounds_toArray, List.set_cons_zero, List.set_cons_succ]
          refine take_at (i := 6) (some 46) (.pointer (some ⟨p, 0, none⟩)) rfl rfl (by kernel_rfl) (by kernel_rfl) (by kernel_rfl) (fun _ _ _ h => h) (Or.inl ⟨by rfl, fun w hSw => by go_simp⟩) hH ?_
          refine take_at (i := 7) (some 47) (.pointer (some ⟨p, 0, none⟩)) rfl rfl (by kernel_rfl) (by kernel_rfl) (by kernel_rfl) (fun _ _ _ h => h) (Or.inl ⟨by rfl, fun w hSw => by go_simp⟩) hH ?_
          try simp only [Act.put, List.setIfInBounds_toArray, List.set_cons_zero, List.set_cons_succ]
          refine take_at (i := 8) (some 48) (.pointer (some ⟨p, 0, none⟩)) rfl rfl (by kernel_rfl) (by kernel_rfl) (by kernel_rfl) (fun _ _ _ h => h) (Or.inl ⟨by rfl, fun w hSw => by go_simp⟩) hH ?_
          refine take_at (i := 9) (some 49) (.slice (some ⟨lb, 0, none⟩) M lc) rfl rfl (by kernel_rfl) (by kernel_rfl) (by kernel_rfl) (fun _ _ _ h => h) (Or.inl ⟨by rfl, fun w hSw => by have e := cell_of_row w p 0 _ _ _ hSw.1; clear hSw; go_simp⟩) hH ?_
          try simp only [Act.put, List.setIfInBounds_toArray, List.set_cons_zero, List.set_cons_succ]
          refine take_at (i := 10) (some 50) (.pointer (some ⟨bx, 0, none⟩)) rfl rfl (by kernel_rfl) (by kernel_rfl) (by kernel_rfl) (fun _ _ _ h => h) (Or.inl ⟨by rfl, fun w hSw => by go_simp⟩) hH ?_
          refine take_at (i := 11) (some 51) (.int .i64 (xi : Nat)) rfl rfl (by kernel_rfl) (by kernel_rfl) (by kernel_rfl) (fun _ _ _ h => h) (Or.inl ⟨by rfl, fun w hSw => by have e := cell_of_row w bx 0 _ _ _ hSw.2.1; clear hSw; go_simp⟩) hH ?_
          try simp only [Act.put, List.setIfInBounds_toArray, List.set_cons_zero, List.set_cons_succ]
          refine take_at (i := 12) (some 52) (.pointer (some ⟨lb, xi, none⟩)) rfl rfl (by kernel_rfl) (by kernel_rfl) (by kernel_rfl) (fun _ _ _ h => h) (Or.inl ⟨by rfl, fun w hSw => by go_simp⟩) hH ?_
          refine take_at (i := 13) (some 53) (.string y) rfl rfl (by kernel_rfl) (by kernel_rfl) (by kernel_rfl) (fun _ _ _ h => h) (Or.inl ⟨by rfl, fun w hSw => by have e := (cell_of_row w lb xi _ _ _ hSw.2.2.1).trans hSw.2.2.2.1; clear hSw; go_simp⟩) hH ?_
          try simp only [Act.put, List.setIfInBounds_toArray, List.set_cons_zero, List.set_cons_succ]
          refine take_at (i := 14) (some 54) (.pointer (some ⟨rb, xi, none⟩)) rfl rfl (by kernel_rfl) (by kernel_rfl) (by kernel_rfl) (fun _ _ _ h => h) (Or.inl ⟨by rfl, fun w hSw => by go_simp⟩) hH ?_
          try simp only [Act.put, List.setIfInBounds_toArray, List.set_cons_zero, List.set_cons_succ]
          have HV0 := Aside0.mk (And.intro (HDO.out.1.keep (W' := V1.drew) (fun _ _ => rfl)) (HDO.out.2.1.big_trans (only_below ((Below.refl _ V1).drew)).big))
          clear HDO c0 hcl hcr hrs cr hcy
          generalize V1.drew = V0 at hH HV0 ⊢
          obtain ⟨hp, hb, hl, hy, cur, hr, hrs⟩ := hH
          obtain ⟨u, hu⟩ : ∃ u, V0.cell? ⟨rb, xi, none⟩ = some u := ⟨_, (cell_of_row V0 rb xi _ _ _ hr).trans (Array.getElem?_eq_getElem (by omega))⟩
          have hfz : V0.frozen? ⟨rb, xi, none⟩ = false := frozen_of_row V0 rb xi _ _ hr
          have hnx := heap_setCell_same V0 rb xi cur _ (.string y) hr
          have so : ∀ k, k ≠ rb → (V0.setCell ⟨rb, xi, none⟩ (.string y)).heap[k]? = V0.heap[k]? := fun k hk => set_other _ _ _ _ hk
          have hS2 : SB2 p bx lb rb M xi #[.slice (some ⟨lb, 0, none⟩) M lc, .slice (some ⟨g, 0, none⟩) j wc, .map (some mb), .int .i64 S.armed, .int .i64 S.ops, .slice (some ⟨rb, 0, none⟩) M rc] #[.int .i64 (xi : Nat), .string xs] cl y (V0.setCell ⟨rb, xi, none⟩ (.string y)) := ⟨(so p HV0.out.1.p_rb).trans hp, (so bx NB.out.2).trans hb, (so lb HV0.out.1.ne).trans hl, hy, _, hnx, by simpa using hrs⟩
          refine wpAnyH_ready (rs := [15]) (by kernel_rfl) (by simp) (AllReadyH.cons rfl (fun K hK => ?_) AllReadyH.nil)
          clear so hnx hp hb hl hy hr hrs
          go_simp
          refine hK.out _ _ hS2 (fun hH => ?_)
          clear hK K hS2 hu hfz
          refine wpAnyH_done (by kernel_rfl) ?_ _
          try simp only [Act.put, List.setIfInBounds_toArray, List.set_cons_zero, List.set_cons_succ]
          have HN := Aside0.mk (show DR B p lb lc rb rc mb (.slice (some ⟨g, 0, none⟩) j wc) L (copyW L S.read (S.waits.take (k + 1))) S.waits (fun i => cnt i S.waits) j S.armed S.ops (V0.setCell ⟨rb, xi, none⟩ (.string y)) ∧ Only (Big F W) W (V0.setCell ⟨rb, xi, none⟩ (.string y)) from by
            rw [KS.out, KY.out]
            exact ⟨HV0.out.1.setR xi y, HV0.out.2.big_trans (only_set (F := F) ⟨rb, xi, none⟩ (.string y) ((HFP.out rb).2 (.inr (.inr (.inr (.inl rfl)))))).big⟩)
          clear hH HV0 KS NB KY HM
          go_wp2
          go_roundw
          case rel => exact ⟨k + 1, by go_num, by omega, HN⟩
          case measure => simp [intOf]; omega
        · obtain rfl : k = j := by omega
          have e0 : S.waits.take k = S.waits := List.take_of_length_le (by rw [HNN.out]; exact Nat.le_refl _)
          have e1 : copyW L S.read S.waits = L := by rw [← HL.out]; exact settled S.lasts S.waits kp
          have hD0 := HS.out.1
          rw [e0, e1] at hD0
          have d1 := hD0.cell 1
          have f1 := hD0.frozen 1
          have hD1 := hD0.setW (.slice none 0 0) [] (World.ownsRow_nil _ _ _ _)
          have d2 := hD1.cell 2
          obtain ⟨nm, D, hown, _, _⟩ := hD1.mp
          obtain ⟨W9, hrun, hg9, hown9⟩ := clear_run hown
          have hD2 := hD1.setM (m' := fun i => cnt i []) (N' := 0) hg9 ⟨0, .map [], hown9, Nat.le_refl _, fun i => rfl⟩
          have O9 := HS.out.2.big_trans ((only_set (F := F) ⟨p, 1, none⟩ (.slice none 0 0) ((HFP.out p).2 (.inl rfl))).big.big_trans (only_grown (F := F) hg9 (fun k e => (HFP.out k).2 (.inr (.inl (by simpa using e.symm))))).big)
          have HE := Aside0.mk (And.intro hD2 O9)
          clear e0 e1 hD0 hD1 hown hg9 hown9 hD2 O9 HS hlt hk
          go_wp2
          go_end0
          refine ⟨rfl, FP p lb rb mb (.slice none 0 0), ⟨lb, lc, rb, rc, mb, _, ?_, fun _ => Iff.rfl⟩, HE.out.2.small, fun k hk => ?_⟩
          · have e2 : (S.crash kp).lasts = L := HL.out
            have e3 : (S.crash kp).read = L := HL.out
            rw [e2, e3]
            exact HE.out.1
          · rcases hk with rfl | rfl | rfl | rfl | hk
            · exact .inl ((HFP.out k).2 (.inl rfl))
            · exact .inl ((HFP.out k).2 (.inr (.inl rfl)))
            · exact .inl ((HFP.out k).2 (.inr (.inr (.inl rfl))))
            · exact .inl ((HFP.out k).2 (.inr (.inr (.inr (.inl rfl)))))
            · cases hk
set_option maxHeartbeats 2000000 in
theorem settle_crash (h : DK B p S F W) (hok : S.ok) (hn : S.waits.length ≤ 1000000) (kb : Nat) (kp : Nat → Bool)
    (HK0 : ∀ V, Only (Big F W) W V → ∀ j : Nat, j < S.waits.length → Calls Tryd.prog 49 #[.int .i64 (j : Nat), .pointer (some ⟨kb, 0, none⟩)] V fun e w' => e = .returned (.bool (kp j)) ∧ V = w') :
    Calls Tryd.prog 48 #[.pointer (some ⟨p, 0, none⟩), .func (.func 49) #[] #[.pointer (some ⟨kb, 0, none⟩)]] W fun e W' => e = .returned (.tuple #[]) ∧ Did B p (S.crash kp) F W W' := by
  have HK := Aside0.mk HK0
  clear HK0
  obtain ⟨lb, lc, rb, rc, mb, wv, hd, hFP⟩ := h
  have d1 := hd.cell 1
  obtain ⟨A, wc, rfl⟩ := owns_slice hd.hw
  have HD := Aside0.mk hd
  have HFP := Aside0.mk hFP
  have HO := Aside0.mk hok
  obtain ⟨n, hnn⟩ : ∃ n, S.waits.length = n := ⟨_, rfl⟩
  have HNN := Aside0.mk hnn
  rw [hnn] at hn d1 HK HD HFP
  clear hd hFP hok hnn
  go_enter Tryd.func48, Tryd.ntmps48
  go_wp2_with fail
  clear d1
  go_loopw [13] (fun i V => ∃ (j : Nat), i = .int .i64 j ∧ j ≤ n ∧ Aside0 (DR B p lb lc rb rc mb (.slice A n wc) (applyW S.lasts (keptW kp 0 (S.waits.take j))) S.read S.waits (fun i => cnt i S.waits) n S.armed S.ops V ∧ Only (Big F W) W V)) (fun i _ => n - (intOf i).toNat)
  case atStart => exact ⟨0, rfl, by omega, ⟨by simpa [keptW, applyW] using HD.out, Only.refl _ _⟩⟩
  case round =>
    obtain ⟨j, rfl, hj, HS⟩ := hrel
    by_cases hlt : j < n
    · have hj1 : (j : Int) < (n : Int) := by omega
      have hjw : j < S.waits.length := by rw [HNN.out]; exact hlt
      rcases HS.out.1.hw.2 with ⟨e, e2⟩ | ⟨g, cap, cur0, e, e4⟩
      · exact absurd e2 (by omega)
      simp only [Value.slice.injEq] at e
      obtain ⟨rfl, e5, rfl⟩ := e
      clear e5 e4 cur0
      obtain ⟨p0, p1⟩ := owns_pair HS.out.1.hw j hjw
      obtain ⟨xi, hxi⟩ : ∃ x, (S.waits[j]'hjw).1 = x := ⟨_, rfl⟩
      obtain ⟨xs, hxs⟩ : ∃ x, (S.waits[j]'hjw).2 = x := ⟨_, rfl⟩
      rw [hxi] at p0
      rw [hxs] at p1
      have hxl : xi < S.lasts.length := by rw [← hxi]; exact HO.out _ (List.getElem_mem hjw)
      have KS := Aside0.mk (kept_step kp S.waits S.lasts j hjw)
      rw [hxi, hxs] at KS
      clear hxi hxs HD
      have hxb : xi < (applyW S.lasts (keptW kp 0 (S.waits.take j))).length := by rw [applyW_len]; exact hxl
      have hbw : Below wr.heap.size wr (wr.alloc (.cells #[.int .i64 (xi : Nat), .string xs] 130)) := (Below.refl _ _).alloc (Nat.le_refl _) _
      have hO := HS.out.2.big_trans (only_below hbw).big
      have hD := HS.out.1.below hbw
      have hbx := heap_alloc_new wr (.cells #[.int .i64 (xi : Nat), .string xs] 130)
      have KC := Aside0.mk (HK.out _ hO j hlt)
      have NB := Aside0.mk (show wr.heap.size ≠ p ∧ wr.heap.size ≠ lb from ⟨by have := (HS.out.1.lt (.inl rfl)).2; omega, by have := (HS.out.1.lt (.inr (.inr (.inl rfl)))).2; omega⟩)
      have HDO := Aside0.mk (And.intro hD (And.intro hO hbx))
      clear hbw hO hD hbx HS hxl
      go_wp2_with fail
      clear p0 p1
      generalize (wr.alloc (.cells #[.int .i64 (xi : Nat), .string xs] 130)) = V1 at KC HDO ⊢
      obtain ⟨bx, hbx⟩ : ∃ b, wr.heap.size = b := ⟨_, rfl⟩
      rw [hbx] at HDO NB ⊢
      obtain ⟨L, hL⟩ : ∃ l, applyW S.lasts (keptW kp 0 (S.waits.take j)) = l := ⟨_, rfl⟩
      rw [hL] at HDO KS hxb
      clear hbx hL
      refine KC.out.mono ?_
      rintro x v1 ⟨rfl, rfl⟩
      clear KC
      cases hkj : kp j with
      | false =>
        rw [hkj] at KS
        have HN := Aside0.mk (show DR B p lb lc rb rc mb (.slice (some ⟨g, 0, none⟩) n wc) (applyW S.lasts (keptW kp 0 (S.waits.take (j + 1)))) S.read S.waits (fun i => cnt i S.waits) n S.armed S.ops V1 ∧ Only (Big F W) W V1 from by
          rw [KS.out, if_neg (by decide)]; exact ⟨HDO.out.1, HDO.out.2.1⟩)
        clear hkj KS HDO NB
        go_wp2
        go_roundw
        case rel => exact ⟨j + 1, by go_num, by omega, HN⟩
        case measure => simp [intOf]; omega
      | true =>
        rw [hkj, if_pos rfl] at KS
        clear hkj
        obtain ⟨M, hM⟩ : ∃ m, L.length = m := ⟨_, rfl⟩
        have c0 := HDO.out.1.box
        rw [hM] at c0 hxb
        obtain ⟨curL, hcl, hls⟩ : ∃ cur, V1.heap[lb]? = some (.cells cur 9 (0, 0)) ∧ M ≤ cur.size := by
          rcases HDO.out.1.hl.2 with ⟨e, _⟩ | ⟨g', cap, cur, e, _, hg, hc1, _, hc3, _⟩
          · cases e
          · simp only [Value.slice.injEq, Option.some.injEq, Addr.mk.injEq] at e
            obtain ⟨⟨rfl, _⟩, _⟩ := e
            exact ⟨cur, hg, by omega⟩
        have hxb' : (xi : Int) < (M : Int) := by omega
        go_wp2_with fail
        refine wp_region_held_drew (S := fun V => SB p bx lb M #[.slice (some ⟨lb, 0, none⟩) M lc, .slice (some ⟨g, 0, none⟩) n wc, .map (some mb), .int .i64 S.armed, .int .i64 S.ops, .slice (some ⟨rb, 0, none⟩) M rc] #[.int .i64 (xi : Nat), .string xs] V) (by kernel_rfl) ⟨c0, HDO.out.2.2, curL, hcl, hls⟩ (fun hH => ?_)
        refine take_at (i := 0) (some 21) (.pointer (some ⟨p, 0, none⟩)) rfl rfl (by kernel_rfl) (by kernel_rfl) (by kernel_rfl) (fun _ _ _ h => h) (Or.inl ⟨by rfl, fun w hSw => by go_simp⟩) hH ?_
        refine take_at (i := 1) (some 22) (.pointer (some ⟨p, 0, none⟩)) rfl rfl (by kernel_rfl) (by kernel_rfl) (by kernel_rfl) (fun _ _ _ h => h) (Or.inl ⟨by rfl, fun w hSw => by go_simp⟩) hH ?_
        try simp only [Act.put, List.setIfInBounds_toArray, List.set_cons_zero, List.set_cons_succ]
        refine take_at (i := 2) (some 23) (.pointer (some ⟨p, 0, none⟩)) rfl rfl (by kernel_rfl) (by kernel_rfl) (by kernel_rfl) (fun _ _ _ h => h) (Or.inl ⟨by rfl, fun w hSw => by go_simp⟩) hH ?_
        refine take_at (i := 3) (some 24) (.slice (some ⟨lb, 0, none⟩) M lc) rfl rfl (by kernel_rfl) (by kernel_rfl) (by kernel_rfl) (fun _ _ _ h => h) (Or.inl ⟨by rfl, fun w hSw => by have e := cell_of_row w p 0 _ _ _ hSw.1; clear hSw; go_simp⟩) hH ?_
        try simp only [Act.put, List.setIfInBounds_toArray, List.set_cons_zero, List.set_cons_succ]
        refine take_at (i := 4) (some 25) (.pointer (some ⟨bx, 0, none⟩)) rfl rfl (by kernel_rfl) (by kernel_rfl) (by kernel_rfl) (fun _ _ _ h => h) (Or.inl ⟨by rfl, fun w hSw => by go_simp⟩) hH ?_
        refine take_at (i := 5) (some 26) (.int .i64 (xi : Nat)) rfl rfl (by kernel_rfl) (by kernel_rfl) (by kernel_rfl) (fun _ _ _ h => h) (Or.inl ⟨by rfl, fun w hSw => by have e := cell_of_row w bx 0 _ _ _ hSw.2.1; clear hSw; go_simp⟩) hH ?_
        try simp only [Act.put, List.setIfInBounds_toArray, List.set_cons_zero, List.set_cons_succ]
        refine take_at (i := 6) (some 27) (.pointer (some ⟨bx, 1, none⟩)) rfl rfl (by kernel_rfl) (by kernel_rfl) (by kernel_rfl) (fun _ _ _ h => h) (Or.inl ⟨by rfl, fun w hSw => by go_simp⟩) hH ?_
        refine take_at (i := 7) (some 28) (.string xs) rfl rfl (by kernel_rfl) (by kernel_rfl) (by kernel_rfl) (fun _ _ _ h => h) (Or.inl ⟨by rfl, fun w hSw => by have e := cell_of_row w bx 1 _ _ _ hSw.2.1; clear hSw; go_simp⟩) hH ?_
        try simp only [Act.put, List.setIfInBounds_toArray, List.set_cons_zero, List.set_cons_succ]
        refine take_at (i := 8) (some 29) (.pointer (some ⟨lb, xi, none⟩)) rfl rfl (by kernel_rfl) (by kernel_rfl) (by kernel_rfl) (fun _ _ _ h => h) (Or.inl ⟨by rfl, fun w hSw => by go_simp⟩) hH ?_
        try simp only [Act.put, List.setIfInBounds_toArray, List.set_cons_zero, List.set_cons_succ]
        have HV0 := Aside0.mk (And.intro (HDO.out.1.keep (W' := V1.drew) (fun _ _ => rfl)) (HDO.out.2.1.big_trans (only_below ((Below.refl _ V1).drew)).big))
        have BXH := Aside0.mk (show V1.drew.heap[bx]? = some (.cells #[.int .i64 (xi : Nat), .string xs] 130 (0, 0)) from HDO.out.2.2)
        clear HDO c0 hcl hls curL
        generalize V1.drew = V0 at hH HV0 BXH ⊢
        obtain ⟨hp, hb, cur, hl, hls⟩ := hH
        obtain ⟨u, hu⟩ : ∃ u, V0.cell? ⟨lb, xi, none⟩ = some u := ⟨_, (cell_of_row V0 lb xi _ _ _ hl).trans (Array.getElem?_eq_getElem (by omega))⟩
        have hfz : V0.frozen? ⟨lb, xi, none⟩ = false := frozen_of_row V0 lb xi _ _ hl
        have hnx := heap_setCell_same V0 lb xi cur _ (.string xs) hl
        have so : ∀ k, k ≠ lb → (V0.setCell ⟨lb, xi, none⟩ (.string xs)).heap[k]? = V0.heap[k]? := fun k hk => set_other _ _ _ _ hk
        have hS2 : SB p bx lb M #[.slice (some ⟨lb, 0, none⟩) M lc, .slice (some ⟨g, 0, none⟩) n wc, .map (some mb), .int .i64 S.armed, .int .i64 S.ops, .slice (some ⟨rb, 0, none⟩) M rc] #[.int .i64 (xi : Nat), .string xs] (V0.setCell ⟨lb, xi, none⟩ (.string xs)) := ⟨(so p HV0.out.1.p_lb).trans hp, (so bx NB.out.2).trans hb, _, hnx, by simpa using hls⟩
        refine wpAnyH_ready (rs := [9]) (by kernel_rfl) (by simp) (AllReadyH.cons rfl (fun K hK => ?_) AllReadyH.nil)
        clear so hnx hp hb hl hls
        go_simp
        refine hK.out _ _ hS2 (fun hH => ?_)
        clear hK K hS2 hu hfz
        refine wpAnyH_done (by kernel_rfl) ?_ _
        try simp only [Act.put, List.setIfInBounds_toArray, List.set_cons_zero, List.set_cons_succ]
        have HN := Aside0.mk (show DR B p lb lc rb rc mb (.slice (some ⟨g, 0, none⟩) n wc) (applyW S.lasts (keptW kp 0 (S.waits.take (j + 1)))) S.read S.waits (fun i => cnt i S.waits) n S.armed S.ops (V0.setCell ⟨lb, xi, none⟩ (.string xs)) ∧ Only (Big F W) W (V0.setCell ⟨lb, xi, none⟩ (.string xs)) from by
          rw [KS.out]
          exact ⟨HV0.out.1.setL xi xs, HV0.out.2.big_trans (only_set (F := F) ⟨lb, xi, none⟩ (.string xs) ((HFP.out lb).2 (.inr (.inr (.inl rfl))))).big⟩)
        clear hH HV0 BXH KS NB
        go_wp2
        go_roundw
        case rel => exact ⟨j + 1, by go_num, by omega, HN⟩
        case measure => simp [intOf]; omega
    · obtain rfl : j = n := by omega
      have H1 := Aside0.mk HS.out
      have d1 := HS.out.1.cell 1
      have e0 : S.waits.take j = S.waits := List.take_of_length_le (by rw [HNN.out]; exact Nat.le_refl _)
      rw [e0] at H1
      obtain ⟨L, hL⟩ : ∃ l, applyW S.lasts (keptW kp 0 S.waits) = l := ⟨_, rfl⟩
      have HL := Aside0.mk hL
      rw [hL] at H1
      have hll : L.length = S.lasts.length := by rw [← hL, applyW_len]
      have HLL := Aside0.mk hll
      clear HS e0 hL hll hlt hj HK HD
      go_wp2_with fail
      clear d1
      go_loopw [36] (fun i V => ∃ (k : Nat), i = .int .i64 k ∧ k ≤ j ∧ Aside0 (DR B p lb lc rb rc mb (.slice A j wc) L (copyW L S.read (S.waits.take k)) S.waits (fun i => cnt i S.waits) j S.armed S.ops V ∧ Only (Big F W) W V)) (fun i _ => j - (intOf i).toNat)
      case atStart => exact ⟨0, rfl, by omega, ⟨by simpa [copyW] using H1.out⟩⟩
      case round =>
        obtain ⟨k, rfl, hk, HS⟩ := hrel
        clear H1
        by_cases hlt : k < j
        · have hk1 : (k : Int) < (j : Int) := by omega
          have hkw : k < S.waits.length := by rw [HNN.out]; exact hlt
          rcases HS.out.1.hw.2 with ⟨e, e2⟩ | ⟨g, cap, cur0, e, e4⟩
          · exact absurd e2 (by omega)
          simp only [Value.slice.injEq] at e
          obtain ⟨rfl, e5, rfl⟩ := e
          clear e5 e4 cur0
          obtain ⟨p0, p1⟩ := owns_pair HS.out.1.hw k hkw
          obtain ⟨xi, hxi⟩ : ∃ x, (S.waits[k]'hkw).1 = x := ⟨_, rfl⟩
          obtain ⟨xs, hxs⟩ : ∃ x, (S.waits[k]'hkw).2 = x := ⟨_, rfl⟩
          rw [hxi] at p0
          rw [hxs] at p1
          have hxl : xi < L.length := by rw [HLL.out, ← hxi]; exact HO.out _ (List.getElem_mem hkw)
          have KS := Aside0.mk (copy_step L S.waits S.read k hkw)
          rw [hxi] at KS
          clear hxi hxs
          have hbw : Below wr.heap.size wr (wr.alloc (.cells #[.int .i64 (xi : Nat), .string xs] 130)) := (Below.refl _ _).alloc (Nat.le_refl _) _
          have hO := HS.out.2.big_trans (only_below hbw).big
          have hD := HS.out.1.below hbw
          have hbx := heap_alloc_new wr (.cells #[.int .i64 (xi : Nat), .string xs] 130)
          have NB := Aside0.mk (show wr.heap.size ≠ p ∧ wr.heap.size ≠ rb from ⟨by have := (HS.out.1.lt (.inl rfl)).2; omega, by have := (HS.out.1.lt (.inr (.inr (.inr (.inl rfl))))).2; omega⟩)
          have HDO := Aside0.mk (And.intro hD (And.intro hO hbx))
          clear hbw hO hD hbx HS
          go_wp2_with fail
          clear p0 p1
          generalize wr.alloc (.cells #[.int .i64 (xi : Nat), .string xs] 130) = V1 at HDO ⊢
          obtain ⟨bx, hbx⟩ : ∃ b, wr.heap.size = b := ⟨_, rfl⟩
          rw [hbx] at HDO NB ⊢
          clear hbx
          obtain ⟨M, hM⟩ : ∃ m, L.length = m := ⟨_, rfl⟩
          have c0 := HDO.out.1.box
          rw [hM] at c0 hxl
          obtain ⟨y, hy⟩ : ∃ y, L[xi]'(by rw [hM]; exact hxl) = y := ⟨_, rfl⟩
          obtain ⟨cl, hcl, hcy⟩ : ∃ cur, V1.heap[lb]? = some (.cells cur 9 (0, 0)) ∧ cur[xi]? = some (.string y) := by
            obtain ⟨cur, h1, _⟩ := HDO.out.1.lb_at
            refine ⟨cur, h1, ?_⟩
            have := HDO.out.1.hl.cellAt xi (by omega)
            rw [cell_of_row V1 lb xi _ _ _ h1, strs_get _ _ (by rw [hM]; exact hxl), hy] at this
            exact this
          obtain ⟨cr, hcr, hrs⟩ : ∃ cur, V1.heap[rb]? = some (.cells cur 9 (0, 0)) ∧ M ≤ cur.size := by
            rcases HDO.out.1.hr.2 with ⟨e, _⟩ | ⟨g', cap, cur, e, _, hg, hc1, _, hc3, _⟩
            · cases e
            · simp only [Value.slice.injEq, Option.some.injEq, Addr.mk.injEq] at e
              obtain ⟨⟨rfl, _⟩, _⟩ := e
              exact ⟨cur, hg, by omega⟩
          have KY := Aside0.mk (show L.getD xi ByteArray.empty = y by rw [List.getD_eq_getElem?_getD, List.getElem?_eq_getElem (by rw [hM]; exact hxl), hy]; rfl)
          have hxb' : (xi : Int) < (M : Int) := by omega
          have HM := Aside0.mk hM
          clear hM hy
          refine wp_region_held_drew (S := fun V => SB2 p bx lb rb M xi #[.slice (some ⟨lb, 0, none⟩) M lc, .slice (some ⟨g, 0, none⟩) j wc, .map (some mb), .int .i64 S.armed, .int .i64 S.ops, .slice (some ⟨rb, 0, none⟩) M rc] #[.int .i64 (xi : Nat), .string xs] cl y V) (by kernel_rfl) ⟨c0, HDO.out.2.2, hcl, hcy, cr, hcr, hrs⟩ (fun hH => ?_)
          refine take_at (i := 0) (some 40) (.pointer (some ⟨p, 0, none⟩)) rfl rfl (by kernel_rfl) (by kernel_rfl) (by kernel_rfl) (fun _ _ _ h => h) (Or.inl ⟨by rfl, fun w hSw => by go_simp⟩) hH ?_
          refine take_at (i := 1) (some 41) (.pointer (some ⟨p, 0, none⟩)) rfl rfl (by kernel_rfl) (by kernel_rfl) (by kernel_rfl) (fun _ _ _ h => h) (Or.inl ⟨by rfl, fun w hSw => by go_simp⟩) hH ?_
          try simp only [Act.put, List.setIfInBounds_toArray, List.set_cons_zero, List.set_cons_succ]
          refine take_at (i := 2) (some 42) (.pointer (some ⟨p, 5, none⟩)) rfl rfl (by kernel_rfl) (by kernel_rfl) (by kernel_rfl) (fun _ _ _ h => h) (Or.inl ⟨by rfl, fun w hSw => by go_simp⟩) hH ?_
          refine take_at (i := 3) (some 43) (.slice (some ⟨rb, 0, none⟩) M rc) rfl rfl (by kernel_rfl) (by kernel_rfl) (by kernel_rfl) (fun _ _ _ h => h) (Or.inl ⟨by rfl, fun w hSw => by have e := cell_of_row w p 5 _ _ _ hSw.1; clear hSw; go_simp⟩) hH ?_
          try simp only [Act.put, List.setIfInBounds_toArray, List.set_cons_zero, List.set_cons_succ]
          refine take_at (i := 4) (some 44) (.pointer (some ⟨bx, 0, none⟩)) rfl rfl (by kernel_rfl) (by kernel_rfl) (by kernel_rfl) (fun _ _ _ h => h) (Or.inl ⟨by rfl, fun w hSw => by go_simp⟩) hH ?_
          refine take_at (i := 5) (some 45) (.int .i64 (xi : Nat)) rfl rfl (by kernel_rfl) (by kernel_rfl) (by kernel_rfl) (fun _ _ _ h => h) (Or.inl ⟨by rfl, fun w hSw => by have e := cell_of_row w bx 0 _ _ _ hSw.2.1; clear hSw; go_simp⟩) hH ?_
          try simp only [Act.put, List.setIfInBounds_toArray, List.set_cons_zero, List.set_cons_succ]
          refine take_at (i := 6) (some 46) (.pointer (some ⟨p, 0, none⟩)) rfl rfl (by kernel_rfl) (by kernel_rfl) (by kernel_rfl) (fun _ _ _ h => h) (Or.inl ⟨by rfl, fun w hSw => by go_simp⟩) hH ?_
          refine take_at (i := 7) (some 47) (.pointer (some ⟨p, 0, none⟩)) rfl rfl (by kernel_rfl) (by kernel_rfl) (by kernel_rfl) (fun _ _ _ h => h) (Or.inl ⟨by rfl, fun w hSw => by go_simp⟩) hH ?_
          try simp only [Act.put, List.setIfInBounds_toArray, List.set_cons_zero, List.set_cons_succ]
          refine take_at (i := 8) (some 48) (.pointer (some ⟨p, 0, none⟩)) rfl rfl (by kernel_rfl) (by kernel_rfl) (by kernel_rfl) (fun _ _ _ h => h) (Or.inl ⟨by rfl, fun w hSw => by go_simp⟩) hH ?_
          refine take_at (i := 9) (some 49) (.slice (some ⟨lb, 0, none⟩) M lc) rfl rfl (by kernel_rfl) (by kernel_rfl) (by kernel_rfl) (fun _ _ _ h => h) (Or.inl ⟨by rfl, fun w hSw => by have e := cell_of_row w p 0 _ _ _ hSw.1; clear hSw; go_simp⟩) hH ?_
          try simp only [Act.put, List.setIfInBounds_toArray, List.set_cons_zero, List.set_cons_succ]
          refine take_at (i := 10) (some 50) (.pointer (some ⟨bx, 0, none⟩)) rfl rfl (by kernel_rfl) (by kernel_rfl) (by kernel_rfl) (fun _ _ _ h => h) (Or.inl ⟨by rfl, fun w hSw => by go_simp⟩) hH ?_
          refine take_at (i := 11) (some 51) (.int .i64 (xi : Nat)) rfl rfl (by kernel_rfl) (by kernel_rfl) (by kernel_rfl) (fun _ _ _ h => h) (Or.inl ⟨by rfl, fun w hSw => by have e := cell_of_row w bx 0 _ _ _ hSw.2.1; clear hSw; go_simp⟩) hH ?_
          try simp only [Act.put, List.setIfInBounds_toArray, List.set_cons_zero, List.set_cons_succ]
          refine take_at (i := 12) (some 52) (.pointer (some ⟨lb, xi, none⟩)) rfl rfl (by kernel_rfl) (by kernel_rfl) (by kernel_rfl) (fun _ _ _ h => h) (Or.inl ⟨by rfl, fun w hSw => by go_simp⟩) hH ?_
          refine take_at (i := 13) (some 53) (.string y) rfl rfl (by kernel_rfl) (by kernel_rfl) (by kernel_rfl) (fun _ _ _ h => h) (Or.inl ⟨by rfl, fun w hSw => by have e := (cell_of_row w lb xi _ _ _ hSw.2.2.1).trans hSw.2.2.2.1; clear hSw; go_simp⟩) hH ?_
          try simp only [Act.put, List.setIfInBounds_toArray, List.set_cons_zero, List.set_cons_succ]
          refine take_at (i := 14) (some 54) (.pointer (some ⟨rb, xi, none⟩)) rfl rfl (by kernel_rfl) (by kernel_rfl) (by kernel_rfl) (fun _ _ _ h => h) (Or.inl ⟨by rfl, fun w hSw => by go_simp⟩) hH ?_
          try simp only [Act.put, List.setIfInBounds_toArray, List.set_cons_zero, List.set_cons_succ]
          have HV0 := Aside0.mk (And.intro (HDO.out.1.keep (W' := V1.drew) (fun _ _ => rfl)) (HDO.out.2.1.big_trans (only_below ((Below.refl _ V1).drew)).big))
          clear HDO c0 hcl hcr hrs cr hcy
          generalize V1.drew = V0 at hH HV0 ⊢
          obtain ⟨hp, hb, hl, hy, cur, hr, hrs⟩ := hH
          obtain ⟨u, hu⟩ : ∃ u, V0.cell? ⟨rb, xi, none⟩ = some u := ⟨_, (cell_of_row V0 rb xi _ _ _ hr).trans (Array.getElem?_eq_getElem (by omega))⟩
          have hfz : V0.frozen? ⟨rb, xi, none⟩ = false := frozen_of_row V0 rb xi _ _ hr
          have hnx := heap_setCell_same V0 rb xi cur _ (.string y) hr
          have so : ∀ k, k ≠ rb → (V0.setCell ⟨rb, xi, none⟩ (.string y)).heap[k]? = V0.heap[k]? := fun k hk => set_other _ _ _ _ hk
          have hS2 : SB2 p bx lb rb M xi #[.slice (some ⟨lb, 0, none⟩) M lc, .slice (some ⟨g, 0, none⟩) j wc, .map (some mb), .int .i64 S.armed, .int .i64 S.ops, .slice (some ⟨rb, 0, none⟩) M rc] #[.int .i64 (xi : Nat), .string xs] cl y (V0.setCell ⟨rb, xi, none⟩ (.string y)) := ⟨(so p HV0.out.1.p_rb).trans hp, (so bx NB.out.2).trans hb, (so lb HV0.out.1.ne).trans hl, hy, _, hnx, by simpa using hrs⟩
          refine wpAnyH_ready (rs := [15]) (by kernel_rfl) (by simp) (AllReadyH.cons rfl (fun K hK => ?_) AllReadyH.nil)
          clear so hnx hp hb hl hy hr hrs
          go_simp
          refine hK.out _ _ hS2 (fun hH => ?_)
          clear hK K hS2 hu hfz
          refine wpAnyH_done (by kernel_rfl) ?_ _
          try simp only [Act.put, List.setIfInBounds_toArray, List.set_cons_zero, List.set_cons_succ]
          have HN := Aside0.mk (show DR B p lb lc rb rc mb (.slice (some ⟨g, 0, none⟩) j wc) L (copyW L S.read (S.waits.take (k + 1))) S.waits (fun i => cnt i S.waits) j S.armed S.ops (V0.setCell ⟨rb, xi, none⟩ (.string y)) ∧ Only (Big F W) W (V0.setCell ⟨rb, xi, none⟩ (.string y)) from by
            rw [KS.out, KY.out]
            exact ⟨HV0.out.1.setR xi y, HV0.out.2.big_trans (only_set (F := F) ⟨rb, xi, none⟩ (.string y) ((HFP.out rb).2 (.inr (.inr (.inr (.inl rfl)))))).big⟩)
          clear hH HV0 KS NB KY HM
          go_wp2
          go_roundw
          case rel => exact ⟨k + 1, by go_num, by omega, HN⟩
          case measure => simp [intOf]; omega
        · obtain rfl : k = j := by omega
          have e0 : S.waits.take k = S.waits := List.take_of_length_le (by rw [HNN.out]; exact Nat.le_refl _)
          have e1 : copyW L S.read S.waits = L := by rw [← HL.out]; exact settled S.lasts S.waits kp
          have hD0 := HS.out.1
          rw [e0, e1] at hD0
          have d1 := hD0.cell 1
          have f1 := hD0.frozen 1
          have hD1 := hD0.setW (.slice none 0 0) [] (World.ownsRow_nil _ _ _ _)
          have d2 := hD1.cell 2
          obtain ⟨nm, D, hown, _, _⟩ := hD1.mp
          obtain ⟨W9, hrun, hg9, hown9⟩ := clear_run hown
          have hD2 := hD1.setM (m' := fun i => cnt i []) (N' := 0) hg9 ⟨0, .map [], hown9, Nat.le_refl _, fun i => rfl⟩
          have O9 := HS.out.2.big_trans ((only_set (F := F) ⟨p, 1, none⟩ (.slice none 0 0) ((HFP.out p).2 (.inl rfl))).big.big_trans (only_grown (F := F) hg9 (fun k e => (HFP.out k).2 (.inr (.inl (by simpa using e.symm))))).big)
          have HE := Aside0.mk (And.intro hD2 O9)
          clear e0 e1 hD0 hD1 hown hg9 hown9 hD2 O9 HS hlt hk
          go_wp2
          go_end0
          refine ⟨rfl, FP p lb rb mb (.slice none 0 0), ⟨lb, lc, rb, rc, mb, _, ?_, fun _ => Iff.rfl⟩, HE.out.2.small, fun k hk => ?_⟩
          · have e2 : (S.crash kp).lasts = L := HL.out
            have e3 : (S.crash kp).read = L := HL.out
            rw [e2, e3]
            exact HE.out.1
          · rcases hk with rfl | rfl | rfl | rfl | hk
            · exact .inl ((HFP.out k).2 (.inl rfl))
            · exact .inl ((HFP.out k).2 (.inr (.inl rfl)))
            · exact .inl ((HFP.out k).2 (.inr (.inr (.inl rfl))))
            · exact .inl ((HFP.out k).2 (.inr (.inr (.inr (.inl rfl)))))
            · cases hk
end Go.Proofs.YtknbhgodhmcemaaDoor.Dk
namespace Go.Proofs.YtknbhgodhmcemaaDoor.Dk
set_option linter.unusedSimpArgs false
set_option linter.unusedVariables false
set_option maxRecDepth 100000
open Go.RowKit Go.Proofs.YtknbhgodhmcemaaDoor.Own Go.Proofs.YtknbhgodhmcemaaDoor.Cel
variable {B p : Nat} {S : DS} {F : Nat → Prop} {W : World}
theorem sync1_calls (j : Int) (W : World) : Calls Tryd.prog 53 #[.int .i64 j] W fun e w' => e = .returned (.bool true) ∧ W = w' := by
  go_enter Tryd.func53, Tryd.ntmps53
  go_wp2
  go_ret
  exact ⟨rfl, rfl⟩
theorem fails_ok (h : S.ok) : S.fails.1.ok := by
  obtain ⟨e1, e2, _⟩ := fails_lasts S
  unfold DS.ok
  rw [e1, e2]; exact h
theorem Did.of {B p : Nat} {S' : DS} {F F1 : Nat → Prop} {W W1 W2 : World} (h1 : Only F W W1) (hF : ∀ k, F1 k → F k ∨ W.heap.size ≤ k) (h : Did B p S' F1 W1 W2) : Did B p S' F W W2 := by
  obtain ⟨F2, d, o, f⟩ := h
  exact ⟨F2, d, h1.trans o hF, fun k hk => (f k hk).elim (hF k) (fun e => .inr (Nat.le_trans h1.size e))⟩
theorem DK.opsUp {F : Nat → Prop} (h : DK B p S F W) (o : Int) : DK B p { S with ops := o } F (W.setCell ⟨p, 4, none⟩ (.int .i64 o)) ∧ Only F W (W.setCell ⟨p, 4, none⟩ (.int .i64 o)) := by
  obtain ⟨lb, lc, rb, rc, mb, wv, h1, h2⟩ := h
  exact ⟨⟨lb, lc, rb, rc, mb, wv, h1.setO o, h2⟩, only_set _ _ ((h2 p).2 (.inl rfl))⟩
theorem DK.cell4 {F : Nat → Prop} (h : DK B p S F W) : W.cell? ⟨p, 4, none⟩ = some (.int .i64 S.ops) ∧ W.frozen? ⟨p, 4, none⟩ = false := by
  obtain ⟨lb, lc, rb, rc, mb, wv, h1, h2⟩ := h
  exact ⟨h1.cell 4, h1.frozen 4⟩
set_option maxHeartbeats 1000000 in
theorem sync_calls (h : DK B p S F W) (hok : S.ok) (ha : S.armed ≤ 9223372036854775807) (hn : S.waits.length ≤ 1000000) (ho0 : 0 ≤ S.ops) (ho : S.ops ≤ 4611686018427387904) :
    Calls Tryd.prog 18 #[.pointer (some ⟨p, 0, none⟩)] W fun e W' => e = .returned (.int .i64 S.sync.2) ∧ Did B p S.sync.1 F W W' := by
  have KF := Aside0.mk (fails_calls h ha)
  cases hf : S.fails.2 with
  | true =>
    have e : S.sync = (S.fails.1, 7) := by unfold DS.sync; rw [if_pos hf]
    rw [e]
    rw [hf] at KF
    clear e hf h hok ha
    go_enter Tryd.func18, Tryd.ntmps18
    go_wp2_with fail
    refine KF.out.mono ?_
    rintro e w1 ⟨rfl, h1, h2⟩
    have H1 := Aside0.mk (And.intro h1 h2)
    clear h1 h2
    go_wp2
    go_ret
    exact ⟨rfl, F, H1.out.1, H1.out.2, fun _ e => .inl e⟩
  | false =>
    have e : S.sync = ({ S.fails.1.crash (fun _ => true) with ops := S.ops + 1 }, 0) := by unfold DS.sync; rw [if_neg (by rw [hf]; decide)]
    rw [e]
    rw [hf] at KF
    obtain ⟨fl, fw, fo⟩ := fails_lasts S
    have hok1 := fails_ok hok
    obtain ⟨S1, hS1⟩ : ∃ x, S.fails.1 = x := ⟨_, rfl⟩
    rw [hS1] at KF fl fw fo hok1 ⊢
    rw [← fw] at hn
    rw [← fo] at ho0 ho ⊢
    have HOK := Aside0.mk hok1
    have HN := Aside0.mk hn
    clear e hf h hok ha fl fw fo hS1 hok1 hn
    go_enter Tryd.func18, Tryd.ntmps18
    go_wp2_with fail
    refine KF.out.mono ?_
    rintro e W1 ⟨rfl, h1, h2⟩
    have H1 := Aside0.mk (And.intro h1 h2)
    clear h1 h2 KF
    go_wp2_with fail
    refine (settle_sync H1.out.1 HOK.out HN.out (fun _ => true) (fun V _ j _ => sync1_calls j V)).mono ?_
    rintro e W2 ⟨rfl, F2, d, o, f⟩
    have hops : (S1.crash (fun _ => true)).ops = S1.ops := rfl
    obtain ⟨c4, f4⟩ := d.cell4
    rw [hops] at c4
    have HD := Aside0.mk (show Did B p { S1.crash (fun _ => true) with ops := S1.ops + 1 } F W (W2.setCell ⟨p, 4, none⟩ (.int .i64 (S1.ops + 1))) from by
      obtain ⟨u1, u2⟩ := d.opsUp (S1.ops + 1)
      refine Did.of H1.out.2 (fun k e => .inl e) (Did.of o f ⟨F2, u1, u2, fun _ e => .inl e⟩))
    clear d o f hops H1
    obtain ⟨op, hop⟩ : ∃ x, S1.ops = x := ⟨_, rfl⟩
    rw [hop] at c4 ho ho0 HD
    have HOP := Aside0.mk hop
    clear hop
    go_wp2
    go_ret
    exact ⟨rfl, by rw [HOP.out]; exact HD.out⟩
def KeepAt (F : Nat → Prop) (A : Option Addr) (ks : List Bool) (V : World) : Prop := ∀ i (h : i < ks.length), ∃ a b o, A = some ⟨b, o, none⟩ ∧ a = o + i ∧ ¬ F b ∧ V.cell? ⟨b, a, none⟩ = some (.bool (ks[i]'h))
theorem KeepAt.only {F : Nat → Prop} {A : Option Addr} {ks : List Bool} {V V' : World} (h : KeepAt F A ks V) (o : Only F V V') : KeepAt F A ks V' := fun i hi => by
  obtain ⟨a, b, o', e, e2, hn, hc⟩ := h i hi
  refine ⟨a, b, o', e, e2, hn, ?_⟩
  have hlt : b < V.heap.size := World.block_lt_of_cell? V _ hc
  exact (World.cell?_of_block (o.block b hlt hn)).trans hc
theorem crash1_calls (kb : Nat) (A : Option Addr) (c : Nat) (ks : List Bool) (j : Nat) (V : World) (h1 : V.cell? ⟨kb, 0, none⟩ = some (.slice A ks.length c)) (h2 : KeepAt F A ks V) (hl : ks.length ≤ 1000000) :
    Calls Tryd.prog 49 #[.int .i64 (j : Nat), .pointer (some ⟨kb, 0, none⟩)] V fun e w' => e = .returned (.bool (ks.getD j false)) ∧ V = w' := by
  by_cases hj : j < ks.length
  · obtain ⟨a, b, o, rfl, rfl, _, hc⟩ := h2 j hj
    obtain ⟨n, hn⟩ : ∃ n, ks.length = n := ⟨_, rfl⟩
    have e : ks.getD j false = ks[j]'hj := by rw [List.getD_eq_getElem?_getD, List.getElem?_eq_getElem hj]; rfl
    rw [e]
    obtain ⟨x, hx⟩ : ∃ x, ks[j]'hj = x := ⟨_, rfl⟩
    rw [hx] at hc ⊢
    rw [hn] at h1 hj
    have hj2 : (j : Int) < (n : Int) := by omega
    clear hn e hx h2
    go_enter Tryd.func49, Tryd.ntmps49
    go_wp2
    go_ret
    exact ⟨rfl, rfl⟩
  · have e : ks.getD j false = false := by rw [List.getD_eq_getElem?_getD, List.getElem?_eq_none (by omega)]; rfl
    rw [e]
    obtain ⟨n, hn⟩ : ∃ n, ks.length = n := ⟨_, rfl⟩
    rw [hn] at h1 hj
    have hj2 : decide ((j : Int) < (n : Int)) = false := decide_eq_false (by omega)
    clear hn e h2
    go_enter Tryd.func49, Tryd.ntmps49
    go_wp2
    go_ret
    exact ⟨rfl, rfl⟩
set_option maxHeartbeats 1000000 in
theorem crash_calls (h : DK B p S F W) (hok : S.ok) (hn : S.waits.length ≤ 1000000) (A : Option Addr) (c : Nat) (ks : List Bool) (hk : KeepAt F A ks W) (hl : ks.length ≤ 1000000) :
    Calls Tryd.prog 14 #[.pointer (some ⟨p, 0, none⟩), .slice A ks.length c] W fun e W' => e = .returned (.tuple #[]) ∧ Did B p (S.crash (fun j => ks.getD j false)) F W W' := by
  have hba : Below W.heap.size W (W.alloc (.cells #[.slice A ks.length c] 23)) := (Below.refl _ _).alloc (Nat.le_refl _) _
  have hO : Only F W (W.alloc (.cells #[.slice A ks.length c] 23)) := only_below hba
  have hD := h.below hba
  have hK := hk.only hO
  have hcc : (W.alloc (.cells #[.slice A ks.length c] 23)).heap[W.heap.size]? = some (.cells #[.slice A ks.length c] 23 (0, 0)) := heap_alloc_new W _
  have hnF : ¬ F W.heap.size := fun e => by have := (h.lt e).2; omega
  have KS := Aside0.mk (settle_crash (kb := W.heap.size) hD hok hn (fun j => ks.getD j false) (fun V oV j _ => by
    have o1 := oV.small
    have hlt : W.heap.size < (W.alloc (.cells #[.slice A ks.length c] 23)).heap.size := by simp
    have c1 : V.cell? ⟨W.heap.size, 0, none⟩ = some (.slice A ks.length c) := cell_of_row V W.heap.size 0 _ _ _ ((o1.block W.heap.size hlt hnF).trans hcc)
    exact crash1_calls W.heap.size A c ks j V c1 (hK.only o1) hl))
  have HO := Aside0.mk hO
  clear h hok hn hk hl hba hO hD hK hcc hnF
  go_enter Tryd.func14, Tryd.ntmps14
  go_wp2_with fail
  refine KS.out.mono ?_
  rintro e W2 ⟨rfl, hd⟩
  have HD := Aside0.mk (Did.of HO.out (fun k e => .inl e) hd)
  clear hd KS HO
  go_wp2
  go_end0
  exact ⟨rfl, HD.out⟩
end Go.Proofs.YtknbhgodhmcemaaDoor.Dk
namespace Go.Proofs.YtknbhgodhmcemaaDoor.Dk
set_option linter.unusedSimpArgs false
set_option linter.unusedVariables false
set_option maxRecDepth 100000
open Go.RowKit Go.Proofs.YtknbhgodhmcemaaDoor.Own Go.Proofs.YtknbhgodhmcemaaDoor.Cel
def DW (w : World) (p : Nat) (S : DS) (V : World) : Prop := ∃ F, DK w.heap.size p S F V ∧ Below w.heap.size w V
theorem DW.step {w V V' : World} {p : Nat} {S : DS} (h : DW w p S V) (hb : Below V.heap.size V V') : DW w p S V' := by
  obtain ⟨F, d, b⟩ := h
  exact ⟨F, d.below hb, b.trans (hb.mono b.size)⟩
theorem DW.did {w V V' : World} {p : Nat} {S S' : DS} {F : Nat → Prop} (d : DK w.heap.size p S F V) (b : Below w.heap.size w V) (h : Did w.heap.size p S' F V V') : DW w p S' V' := by
  obtain ⟨F', d', o, f⟩ := h
  exact ⟨F', d', b.trans (o.below (fun k hk => (d.lt hk).1) b.size)⟩
theorem DW.new {w V : World} {p : Nat} {S : DS} {F : Nat → Prop} (d : DK w.heap.size p S F V) (b : Below w.heap.size w V) : DW w p S V := ⟨F, d, b⟩
theorem DW.write {w V : World} {p : Nat} {S : DS} (h : DW w p S V) (ha : S.armed ≤ 9223372036854775807) (hn : S.waits.length ≤ 1000000) (ho0 : 0 ≤ S.ops) (ho : S.ops ≤ 4611686018427387904) (i : Int) (s : ByteArray) (hi0 : -9223372036854775808 ≤ i) (hi1 : i ≤ 9223372036854775807) :
    Calls Tryd.prog 28 #[.pointer (some ⟨p, 0, none⟩), .int .i64 i, .string s] V fun e W' => e = .returned (.int .i64 (S.put i s).2) ∧ DW w p (S.put i s).1 W' := by
  obtain ⟨F, d, b⟩ := h
  exact (write_calls d ha hn ho0 ho i s hi0 hi1).mono fun _ _ ⟨e, h⟩ => ⟨e, DW.did d b h⟩
theorem DW.read {w V : World} {p : Nat} {S : DS} (h : DW w p S V) (i : Int) :
    Calls Tryd.prog 39 #[.pointer (some ⟨p, 0, none⟩), .int .i64 i] V fun e W' => e = .returned (.tuple #[.string (S.readAt i).1, .int .i64 (S.readAt i).2]) ∧ V = W' := by
  obtain ⟨F, d, b⟩ := h
  exact read_calls d i
theorem DW.size {w V : World} {p : Nat} {S : DS} (h : DW w p S V) :
    Calls Tryd.prog 68 #[.pointer (some ⟨p, 0, none⟩)] V fun e W' => e = .returned (.int .i64 (S.lasts.length : Nat)) ∧ V = W' := by
  obtain ⟨F, d, b⟩ := h
  exact size_calls d
theorem DW.ops {w V : World} {p : Nat} {S : DS} (h : DW w p S V) :
    Calls Tryd.prog 70 #[.pointer (some ⟨p, 0, none⟩)] V fun e W' => e = .returned (.int .i64 S.ops) ∧ V = W' := by
  obtain ⟨F, d, b⟩ := h
  exact ops_calls d
theorem DW.crash0 {w V : World} {p : Nat} {S : DS} (h : DW w p S V) (hok : S.ok) (hn : S.waits.length ≤ 1000000) :
    Calls Tryd.prog 14 #[.pointer (some ⟨p, 0, none⟩), .slice none 0 0] V fun e W' => e = .returned (.tuple #[]) ∧ DW w p { S with waits := [] } W' := by
  obtain ⟨F, d, b⟩ := h
  refine (crash_calls d hok hn none 0 [] (fun i h => absurd h (by simp)) (by simp)).mono fun _ _ ⟨e, h⟩ => ⟨e, ?_⟩
  have e2 : S.crash (fun j => [].getD j false) = { S with waits := [] } := by
    unfold DS.crash
    rw [keptW_none _ _ _ (fun j _ _ => by simp)]; rfl
  rw [e2] at h
  exact DW.did d b h
set_option maxHeartbeats 1000000 in
theorem awake12_calls (w : World) : Calls Tryd.prog 41 #[] w fun e w' => e = .returned (.bool true) ∧ Below w.heap.size w w' := by
  have p1 : DS.put ⟨List.replicate 2 (sect 0), [], 0, 0⟩ 0 (sect 7) = (⟨List.replicate 2 (sect 0), [(0, sect 7)], 0, 1⟩, 0) := put_ok ⟨by decide, by decide⟩ (sect_size 7) rfl
  have r1 : DS.readAt ⟨List.replicate 2 (sect 0), [(0, sect 7)], 0, 1⟩ 0 = (sect 7, 0) := rfl
  have r2 : DS.readAt ⟨List.replicate 2 (sect 0), [], 0, 1⟩ 0 = (sect 0, 0) := rfl
  have ok1 : DS.ok ⟨List.replicate 2 (sect 0), [(0, sect 7)], 0, 1⟩ := fun x hx => by
    simp only [List.mem_singleton] at hx
    subst hx
    show 0 < (List.replicate 2 (sect 0)).length
    simp
  have KN := Aside0.mk (new_good 2 w (by omega) (by omega))
  have KF := Aside0.mk (fun V => fill_calls 7 V)
  rw [show (((7 : UInt8).toNat : Nat) : Int) = 7 by decide] at KF
  rw [show ((2 : Nat) : Int) = 2 by rfl] at KN
  have P1 := Aside0.mk p1
  have R1 := Aside0.mk r1
  have R2 := Aside0.mk r2
  have OK1 := Aside0.mk ok1
  clear p1 r1 r2 ok1
  go_enter Tryd.func41, Tryd.ntmps41
  go_wp2_with fail
  refine KN.out.mono ?_
  rintro x w1 ⟨p, F, rfl, d, b⟩
  have HD := Aside0.mk (DW.new d b)
  clear d b KN
  go_wp2_with fail
  refine (KF.out _).mono ?_
  rintro x w2 ⟨rfl, hb⟩
  replace HD := Aside0.mk (HD.out.step hb)
  clear hb
  go_wp2_with fail
  refine (HD.out.write (by decide) (by decide) (by decide) (by decide) 0 (sect 7) (by decide) (by decide)).mono ?_
  rw [P1.out]
  rintro x w3 ⟨rfl, hd⟩
  replace HD := Aside0.mk hd
  clear hd
  go_wp2_with fail
  refine (HD.out.read 0).mono ?_
  rw [R1.out]
  rintro x w4 ⟨rfl, rfl⟩
  go_wp2_with fail
  refine (HD.out.crash0 OK1.out (by decide)).mono ?_
  rintro x w5 ⟨rfl, hd⟩
  replace HD := Aside0.mk hd
  clear hd
  go_wp2_with fail
  refine (HD.out.read 0).mono ?_
  rw [R2.out]
  rintro x w6 ⟨rfl, rfl⟩
  generalize sect 7 = s7 at *
  go_wp2_with fail
  refine (KF.out _).mono ?_
  rintro x w7 ⟨rfl, hb⟩
  replace HD := Aside0.mk (HD.out.step hb)
  clear hb
  go_wp2_with fail
  refine (rblank_calls _).mono ?_
  rintro x w8 ⟨rfl, hb⟩
  replace HD := Aside0.mk (HD.out.step hb)
  clear hb
  generalize sect 0 = s0 at *
  go_wp2_with fail
  refine HD.out.size.mono ?_
  rintro x w9 ⟨rfl, rfl⟩
  go_wp2
  go_ret
  obtain ⟨F', d', b'⟩ := HD.out
  exact ⟨rfl, b'⟩
end Go.Proofs.YtknbhgodhmcemaaDoor.Dk
namespace Go.Proofs.YtknbhgodhmcemaaDoor.Sl
open Go.RowKit
structure Aside0 (p : Prop) : Prop where mk :: (out : p)
def st (x : Nat) : Nat := if x % 2 = 1 then x / 2 ^^^ 3988292384 else x / 2
def sts : Nat → Nat → Nat
  | 0, x => x
  | k + 1, x => st (sts k x)
def crc : List UInt8 → Nat → Nat
  | [], x => x
  | b :: l, x => crc l (sts 8 (x ^^^ b.toNat))
def sumN (l : List UInt8) : Nat := 4294967295 - crc l 4294967295
theorem st_lt {x : Nat} (h : x < 4294967296) : st x < 4294967296 := by
  unfold st
  split
  · exact Nat.xor_lt_two_pow (n := 32) (by omega) (by omega)
  · omega
theorem sts_lt {x : Nat} (h : x < 4294967296) : ∀ k, sts k x < 4294967296
  | 0 => h
  | k + 1 => st_lt (sts_lt h k)
theorem xor_byte {x b : Nat} (h : x < 4294967296) (hb : b < 256) : x ^^^ b < 4294967296 := Nat.xor_lt_two_pow (n := 32) h (by omega)
theorem crc_append (a b : List UInt8) : ∀ x, crc (a ++ b) x = crc b (crc a x) := by
  induction a with
  | nil => intro x; rfl
  | cons c a ih => intro x; simp only [List.cons_append, crc]; exact ih _
theorem crc_lt (l : List UInt8) : ∀ x, x < 4294967296 → crc l x < 4294967296 := by
  induction l with
  | nil => intro x h; exact h
  | cons b l ih => intro x h; exact ih _ (sts_lt (xor_byte h b.toNat_lt) 8)
theorem crc_snoc (s : ByteArray) (j : Nat) (h : j < s.size) (x : Nat) : crc (s.data.toList.take (j + 1)) x = sts 8 (crc (s.data.toList.take j) x ^^^ (s[j]'h).toNat) := by
  rw [List.take_succ_eq_append_getElem (by simpa using h), crc_append]; rfl
theorem not32 {x : Nat} (h : x < 4294967296) : 4294967295 ^^^ x = 4294967295 - x := by
  apply Nat.eq_of_testBit_eq
  intro i
  rw [Nat.testBit_xor, show 4294967295 - x = 2 ^ 32 - (x + 1) by omega, Nat.testBit_two_pow_sub_succ (by omega), show 4294967295 = 2 ^ 32 - 1 by rfl, Nat.testBit_two_pow_sub_one]
  by_cases hi : i < 32
  · simp [hi]
  · have : x.testBit i = false := Nat.testBit_lt_two_pow (Nat.lt_of_lt_of_le (show x < 2 ^ 32 by omega) (Nat.pow_le_pow_right (by omega) (by omega)))
    simp [hi, this]
theorem not_u32 {x : Nat} (h : x < 4294967296) : bits .xor .u32 IntKind.u32.max (x : Int) = ((4294967295 - x : Nat) : Int) := by
  have := u32_xor_nat 4294967295 x (by omega) h
  rw [not32 h] at this
  exact this
theorem sumN_lt (l : List UInt8) : sumN l < 4294967296 := by unfold sumN; omega
theorem crc_all (s : ByteArray) (x : Nat) : crc (s.data.toList.take s.size) x = crc s.data.toList x := by
  rw [List.take_of_length_le (by simp)]
end Go.Proofs.YtknbhgodhmcemaaDoor.Sl
namespace Go.Proofs.YtknbhgodhmcemaaDoor.Sl
set_option linter.unusedSimpArgs false
set_option maxRecDepth 100000
open Go.RowKit
set_option maxHeartbeats 400000 in
theorem sum_calls (s : ByteArray) (w : World) (hs : s.size ≤ 140737488355328) :
    Calls Tryd.prog 67 #[.string s] w fun e w' => e = .returned (.int .u32 (sumN s.data.toList : Nat)) ∧ w = w' := by
  go_enter Tryd.func67, Tryd.ntmps67
  go_wp2
  go_loop [3, 8] (fun t i => ∃ (j : Nat), i = .int .i64 j ∧ j ≤ s.size ∧ t = .int .u32 (crc (s.data.toList.take j) 4294967295 : Nat)) (fun _ i => s.size - (intOf i).toNat)
  case atStart => exact ⟨0, rfl, by omega, rfl⟩
  case round =>
    obtain ⟨j, rfl, hj, rfl⟩ := hrel
    have hx := crc_lt (s.data.toList.take j) 4294967295 (by omega)
    by_cases hlt : j < s.size
    · have hb := (s[j]'hlt).toNat_lt
      have HN := Aside0.mk (crc_snoc s j hlt 4294967295)
      generalize crc (s.data.toList.take j) 4294967295 = X at hx HN ⊢
      have e1 : ((s[j]'hlt).toNat : Int) % 4294967296 = ((s[j]'hlt).toNat : Int) := by omega
      have e2 := u32_xor_nat X (s[j]'hlt).toNat hx (by omega)
      have hy := xor_byte hx hb
      go_wp2
      clear e1 e2
      generalize X ^^^ (s[j]'hlt).toNat = Y0 at hy HN ⊢
      have HR := Aside0.mk (show s.size - (intOf (.int .i64 ((j : Int) + 1))).toNat < s.size - (intOf (.int .i64 (j : Int))).toNat by simp [intOf]; omega)
      go_loop [3, 17] (fun t i => ∃ (k : Nat), i = .int .i64 k ∧ k ≤ 8 ∧ t = .int .u32 (sts k Y0 : Nat)) (fun _ i => 8 - (intOf i).toNat)
      case atStart => exact ⟨0, rfl, by omega, rfl⟩
      case round =>
        obtain ⟨k, rfl, hk, rfl⟩ := hrel
        have hz := sts_lt hy k
        by_cases hlt2 : k < 8
        · have HE := Aside0.mk (show sts (k + 1) Y0 = st (sts k Y0) from rfl)
          generalize sts k Y0 = Z at hz HE ⊢
          have a1 := u32_and_nat Z 1 hz (by omega)
          have a2 : ((1 : Nat) : Int) = 1 := rfl
          rw [a2, Nat.and_one_is_mod] at a1
          have a3 := u32_xor_nat (Z / 2) 3988292384 (by omega) (by omega)
          have a4 : ((3988292384 : Nat) : Int) = 3988292384 := rfl
          have a5 : ((Z / 2 : Nat) : Int) = (Z : Int) / 2 := by omega
          rw [a4, a5] at a3
          by_cases hm : Z % 2 = 1
          · have t1 : (bits .and .u32 (Z : Int) 1 == 1) = true := by rw [a1, hm]; rfl
            have E := Aside0.mk (show Value.int .u32 (bits .xor .u32 ((Z : Int) / 2) 3988292384) = .int .u32 (sts (k + 1) Y0 : Nat) by rw [HE.out, st, if_pos hm, a3])
            clear a1 a2 a3 a4 a5 hm
            go_wp2
            go_round
            case rel => exact ⟨k + 1, by go_num, by omega, E.out⟩
            case measure => simp [intOf]; omega
          · have t1 : (bits .and .u32 (Z : Int) 1 == 1) = false := by rw [a1]; simp; omega
            have E := Aside0.mk (show Value.int .u32 ((Z : Int) / 2) = .int .u32 (sts (k + 1) Y0 : Nat) by rw [HE.out, st, if_neg hm, a5])
            clear a1 a2 a3 a4 a5 hm
            go_wp2
            go_round
            case rel => exact ⟨k + 1, by go_num, by omega, E.out⟩
            case measure => simp [intOf]; omega
        · have hge : k = 8 := by omega
          subst hge
          clear hz
          go_wp2
          go_round
          case rel => exact ⟨j + 1, by go_num, by omega, by rw [HN.out]⟩
          case measure => simp [intOf]; omega
    · have hge : j = s.size := by omega
      subst hge
      rw [crc_all] at hx ⊢
      have e3 := not_u32 hx
      have E := Aside0.mk (show ((4294967295 - crc s.data.toList 4294967295 : Nat) : Int) = (sumN s.data.toList : Nat) from rfl)
      have sg : IntKind.u32.signed = false := rfl
      go_wp2
      go_ret
      exact ⟨rfl, rfl⟩
end Go.Proofs.YtknbhgodhmcemaaDoor.Sl
namespace Go.Proofs.YtknbhgodhmcemaaDoor.Sl
set_option linter.unusedSimpArgs false
set_option maxRecDepth 100000
open Go.RowKit
def bw (v n : Nat) : Nat → List UInt8
  | 0 => []
  | d + 1 => bw v n d ++ [UInt8.ofNat (v / 256 ^ (n - 1 - d))]
def be (v n : Nat) : List UInt8 := bw v n n
theorem bw_len (v n : Nat) : ∀ d, (bw v n d).length = d
  | 0 => rfl
  | d + 1 => by simp [bw, bw_len v n d]
theorem be_len (v n : Nat) : (be v n).length = n := bw_len v n n
theorem shr_eq (v i : Nat) : (v : Int) / 2 ^ (8 * i) = ((v / 256 ^ i : Nat) : Int) := by
  rw [Int.pow_mul, show (2 : Int) ^ 8 = ((256 : Nat) : Int) by decide, ← Int.natCast_pow, Int.natCast_ediv]
theorem byte_cell (x : Nat) : Value.int .u8 (((x : Nat) : Int) % 256) = Value.int .u8 ((UInt8.ofNat x).toNat : Nat) := by
  congr 1
set_option maxHeartbeats 400000 in
theorem number_calls (B b : Nat) (l : List UInt8) (v n : Nat) (w : World) (hv : v < 18446744073709551616) (hn : n ≤ 8)
    (h : Lib.IsBuilderF 105 5 B b (Lib.byteCells l) w) (hlen : l.length ≤ 100000) (hBw : B ≤ w.heap.size) :
    Calls Tryd.prog 64 #[.int .u64 v, .int .i64 n, .pointer (some ⟨b, 0, none⟩)] w fun e w' => e = .returned (.tuple #[]) ∧
      Lib.IsBuilderF 105 5 B b (Lib.byteCells (l ++ be v n)) w' ∧ Below B w w' ∧ Lib.OthersKept 5 (some b) w w' := by
  have HH := Aside0.mk (show Lib.IsBuilderF 105 5 B b (Lib.byteCells (l ++ bw v n 0)) w ∧ Below B w w ∧ Lib.OthersKept 5 (some b) w w from ⟨by simpa [bw] using h, Below.refl _ _, Lib.OthersKept.refl _ _ _⟩)
  clear h
  have hv0 : 0 ≤ (v : Int) := by omega
  have hv1 : (v : Int) < 18446744073709551616 := by omega
  go_enter Tryd.func64, Tryd.ntmps64
  go_wp2
  go_loopw [5] (fun i W => ∃ (x : Int) (d : Nat), i = .int .i64 x ∧ -1 ≤ x ∧ x + d = (n : Int) - 1 ∧ Aside0 (Lib.IsBuilderF 105 5 B b (Lib.byteCells (l ++ bw v n d)) W ∧ Below B w W ∧ Lib.OthersKept 5 (some b) w W)) (fun i _ => (intOf i + 1).toNat)
  case atStart => exact ⟨_, 0, rfl, by omega, by omega, HH⟩
  case round =>
    obtain ⟨x, d, rfl, hx0, hxd, HS⟩ := hrel
    clear HH
    by_cases hlt : 0 ≤ x
    · obtain ⟨X, rfl⟩ := Int.eq_ofNat_of_zero_le hlt
      have hX : (X : Int) < 8 := by omega
      have e1 := shr_eq v X
      have K := Bld.writeByte B b (Lib.byteCells (l ++ bw v n d)) ((v : Int) / 2 ^ (8 * X) % 256) wr HS.out.1 (by rw [Lib.byteCells_length, List.length_append, bw_len]; omega) (Nat.le_trans hBw HS.out.2.1.size)
      have E := Aside0.mk (show Lib.byteCells (l ++ bw v n d) ++ [.int .u8 ((v : Int) / 2 ^ (8 * X) % 256)] = Lib.byteCells (l ++ bw v n (d + 1)) by
        rw [e1, byte_cell, bw, show n - 1 - d = X by omega, ← List.append_assoc, Lib.byteCells_append _ [_]]; rfl)
      have KK := Aside0.mk K
      clear K e1
      go_wp2_with fail
      refine KK.out.mono ?_
      rintro e w2 ⟨rfl, h2, hb2, hk2⟩
      rw [E.out] at h2
      have H2 := Aside0.mk (And.intro (show Lib.IsBuilderF 105 5 B b (Lib.byteCells (l ++ bw v n (d + 1))) w2 from .inr h2) (And.intro (HS.out.2.1.trans hb2) (HS.out.2.2.trans hk2)))
      clear h2 hb2 hk2 HS KK E
      go_wp2
      go_roundw
      case rel => exact ⟨(X : Int) - 1, d + 1, rfl, by omega, by omega, H2⟩
      case measure => simp [intOf]
    · obtain rfl : x = -1 := by omega
      obtain rfl : d = n := by omega
      have HX := Aside0.mk HS.out
      clear HS
      go_wp2
      go_end0
      exact ⟨rfl, HX.out⟩
end Go.Proofs.YtknbhgodhmcemaaDoor.Sl
namespace Go.Proofs.YtknbhgodhmcemaaDoor.Sl
set_option linter.unusedSimpArgs false
set_option maxRecDepth 100000
open Go.RowKit
theorem repeatL_one0 : ∀ c, Lib.repeatL [(0 : UInt8)] c = List.replicate c 0
  | 0 => rfl
  | c + 1 => by rw [List.replicate_succ, ← repeatL_one0 c]; rfl
def lb (x : Nat) : Nat → List UInt8
  | 0 => []
  | d + 1 => lb x d ++ [UInt8.ofNat (x / 256 ^ d)]
theorem lb_len (x : Nat) : ∀ d, (lb x d).length = d
  | 0 => rfl
  | d + 1 => by simp [lb, lb_len x d]
def head14 (k g i : Nat) (n : Nat) : List UInt8 := be k 1 ++ be g 8 ++ be i 4 ++ be n 1
def body (k g i : Nat) (d : List UInt8) : List UInt8 := head14 k g i d.length ++ d ++ List.replicate (110 - d.length) 0
def sector (k g i : Nat) (d : List UInt8) : List UInt8 := body k g i d ++ lb (sumN (body k g i d)) 4
def closeS (k g i : Nat) (d : ByteArray) : ByteArray × Int := if d.size > 110 then (⟨#[]⟩, 11) else (⟨(sector k g i d.data.toList).toArray⟩, 0)
def rc (k g i : Nat) (d : ByteArray) : Array Value := #[.int .u8 (k : Int), .int .u64 (g : Int), .int .u32 (i : Int), .string d]
def CS (w : World) (b : Nat) (x : Array Value) (l : List UInt8) (W : World) : Prop :=
  Below w.heap.size w W ∧ W.heap[w.heap.size]? = some (.cells x 64 (0, 0)) ∧ Lib.IsBuilderF 105 5 b b (Lib.byteCells l) W ∧ w.heap.size < b ∧ b < W.heap.size
theorem CS.step {w W W' : World} {b : Nat} {x : Array Value} {l : List UInt8} (h : CS w b x l W) (hb : Below W.heap.size W W') : CS w b x l W' :=
  ⟨h.1.trans (hb.mono h.1.size), (hb.block _ (Array.getElem?_eq_some_iff.1 h.2.1).1).trans h.2.1, Bld.builder_below h.2.2.1 hb, h.2.2.2.1, Nat.lt_of_lt_of_le h.2.2.2.2 hb.size⟩
theorem CS.put {w W W' : World} {b : Nat} {x : Array Value} {l l' : List UInt8} (h : CS w b x l W) (hi : Lib.IsBuilderF 105 5 b b (Lib.byteCells l') W') (hb : Below b W W') : CS w b x l' W' :=
  ⟨h.1.trans (hb.mono (Nat.le_of_lt h.2.2.2.1)), (hb.block _ h.2.2.2.1).trans h.2.1, hi, h.2.2.2.1, Nat.lt_of_lt_of_le h.2.2.2.2 hb.size⟩
theorem CS.cell {w W : World} {b : Nat} {x : Array Value} {l : List UInt8} (h : CS w b x l W) (j : Nat) : W.cell? ⟨w.heap.size, j, none⟩ = x[j]? := Lib.cell_of_heap h.2.1 j
theorem CS.num {w W : World} {b : Nat} {x : Array Value} {l : List UInt8} (h : CS w b x l W) (v n : Nat) (hv : v < 18446744073709551616) (hn : n ≤ 8) (hl : l.length ≤ 100000) :
    Calls Tryd.prog 64 #[.int .u64 v, .int .i64 n, .pointer (some ⟨b, 0, none⟩)] W fun e w' => e = .returned (.tuple #[]) ∧ CS w b x (l ++ be v n) w' := by
  refine (number_calls b b l v n W hv hn h.2.2.1 hl (Nat.le_of_lt h.2.2.2.2)).mono ?_
  rintro e w' ⟨rfl, h2, hb, _⟩
  exact ⟨rfl, h.put h2 hb⟩
theorem CS.byte {w W : World} {b : Nat} {x : Array Value} {l : List UInt8} (h : CS w b x l W) (c : Nat) (hl : l.length ≤ 100000) :
    Calls Tryd.prog 65 #[.pointer (some ⟨b, 0, none⟩), .int .u8 ((c : Int) % 256)] W fun e w' => e = .returned .nilIface ∧ CS w b x (l ++ [UInt8.ofNat c]) w' := by
  refine (Bld.writeByte b b (Lib.byteCells l) ((c : Int) % 256) W h.2.2.1 (by rw [Lib.byteCells_length]; omega) (Nat.le_of_lt h.2.2.2.2)).mono ?_
  rintro e w' ⟨rfl, h2, hb, _⟩
  refine ⟨rfl, h.put ?_ hb⟩
  rw [Lib.byteCells_append]
  rw [byte_cell] at h2
  exact .inr h2
theorem CS.str {w W : World} {b : Nat} {x : Array Value} {l : List UInt8} (h : CS w b x l W) (s : ByteArray) (hl : l.length + s.size ≤ 100000) :
    Calls Tryd.prog 55 #[.pointer (some ⟨b, 0, none⟩), .string s] W fun e w' => e = .returned (.tuple #[.int .i64 s.size, .nilIface]) ∧ CS w b x (l ++ s.data.toList) w' := by
  refine (Bld.writeString b b (Lib.byteCells l) s W h.2.2.1 (by rw [Lib.byteCells_length]; omega) (Nat.le_of_lt h.2.2.2.2)).mono ?_
  rintro e w' ⟨rfl, h2, hb, _⟩
  refine ⟨rfl, h.put ?_ hb⟩
  rw [Lib.strCells_eq, ← Lib.byteCells_append] at h2
  exact .inr h2
theorem CS.string {w W : World} {b : Nat} {x : Array Value} {l : List UInt8} (h : CS w b x l W) :
    Calls Tryd.prog 57 #[.pointer (some ⟨b, 0, none⟩)] W fun e w' => e = .returned (.string ⟨l.toArray⟩) ∧ CS w b x l w' := by
  refine (Tryd.Builder_String_any_f b b l W h.2.2.1 (Nat.le_of_lt h.2.2.2.2)).mono ?_
  rintro e w' ⟨rfl, h2, hb⟩
  exact ⟨rfl, h.put h2 hb⟩
theorem CS.len {w W : World} {b : Nat} {x : Array Value} {l : List UInt8} (h : CS w b x l W) :
    Calls Tryd.prog 66 #[.pointer (some ⟨b, 0, none⟩)] W fun e w' => e = .returned (.int .i64 l.length) ∧ w' = W := by
  have := Bld.len b b (Lib.byteCells l) W h.2.2.1
  rw [Lib.byteCells_length] at this
  exact this
set_option maxHeartbeats 1000000 in
theorem close_good (k g i : Nat) (d : ByteArray) (w : World) (hk : k < 256) (hg : g < 18446744073709551616) (hi : i < 4294967296) (hd : d.size ≤ 110) :
    Calls Tryd.prog 27 #[.agg (rc k g i d)] w fun e w' => e = .returned (.tuple #[.string ⟨(sector k g i d.data.toList).toArray⟩, .int .i64 0]) ∧ Below w.heap.size w w' := by
  have c1 : decide (110 < (d.size : Int)) = false := decide_eq_false (by omega)
  have c2 : decide (110 < d.size) = false := decide_eq_false (by omega)
  have hA := heap_alloc_new w (.cells (rc k g i d) 64)
  have H0 := Aside0.mk (show CS w (w.heap.size + 1) (rc k g i d) [] ((w.alloc (.cells (rc k g i d) 64)).alloc (.cells #[.pointer none, .slice none 0 0] 105)) from
    ⟨((Below.refl _ _).alloc (Nat.le_refl _) _).alloc (by simp) _, (heap_alloc_old _ _ (by simp)).trans hA, by have := Lib.IsBuilderF.of (Lib.fresh_isBuilder 105 5 (w.alloc (.cells (rc k g i d) 64))); simpa [Lib.byteCells] using this, by omega, by simp⟩)
  have q3 : (w.alloc (.cells (rc k g i d) 64)).cell? ⟨w.heap.size, 3, none⟩ = some (.string d) := Lib.cell_of_heap hA 3
  have r0 : ((w.alloc (.cells (rc k g i d) 64)).alloc (.cells #[.pointer none, .slice none 0 0] 105)).cell? ⟨w.heap.size, 0, none⟩ = some (.int .u8 (k : Int)) := H0.out.cell 0
  have HDS := Aside0.mk (show d.data.toList.length = d.size by simp)
  have e0 : (k : Int) % 18446744073709551616 = (k : Int) := by omega
  clear hA
  go_enter Tryd.func27, Tryd.ntmps27
  go_wp2_with fail
  generalize (w.alloc (.cells (rc k g i d) 64)).alloc (.cells #[.pointer none, .slice none 0 0] 105) = W0 at H0 r0 ⊢
  clear q3 e0 r0
  obtain ⟨b, hb⟩ : ∃ b, w.heap.size + 1 = b := ⟨_, rfl⟩
  rw [hb] at H0 ⊢
  clear hb
  refine (H0.out.num k 1 (by omega) (by omega) (by simp)).mono ?_
  rintro x w1 ⟨rfl, h1⟩
  have r1 : w1.cell? ⟨w.heap.size, 1, none⟩ = some (.int .u64 (g : Int)) := h1.cell 1
  have H1 := Aside0.mk h1
  clear h1 H0
  go_wp2_with fail
  clear r1
  refine (H1.out.num g 8 hg (by omega) (by simp [be_len])).mono ?_
  rintro x w2 ⟨rfl, h2⟩
  have r2 : w2.cell? ⟨w.heap.size, 2, none⟩ = some (.int .u32 (i : Int)) := h2.cell 2
  have e2 : (i : Int) % 18446744073709551616 = (i : Int) := by omega
  have H2 := Aside0.mk h2
  clear h2 H1
  go_wp2_with fail
  clear r2 e2
  refine (H2.out.num i 4 (by omega) (by omega) (by simp [be_len])).mono ?_
  rintro x w3 ⟨rfl, h3⟩
  have r3 : w3.cell? ⟨w.heap.size, 3, none⟩ = some (.string d) := h3.cell 3
  have e3 : (d.size : Int) % 18446744073709551616 = (d.size : Int) := by omega
  have H3 := Aside0.mk h3
  clear h3 H2
  go_wp2_with fail
  clear r3 e3
  refine (H3.out.num d.size 1 (by omega) (by omega) (by simp [be_len])).mono ?_
  rintro x w4 ⟨rfl, h4⟩
  have r4 : w4.cell? ⟨w.heap.size, 3, none⟩ = some (.string d) := h4.cell 3
  have H4 := Aside0.mk h4
  clear h4 H3
  go_wp2_with fail
  clear r4
  refine (H4.out.str d (by simp [be_len]; omega)).mono ?_
  rintro x w5 ⟨rfl, h5⟩
  have e5 : [] ++ be k 1 ++ be g 8 ++ be i 4 ++ be d.size 1 ++ d.data.toList = head14 k g i d.data.toList.length ++ d.data.toList := by rw [HDS.out]; simp [head14]
  rw [e5] at h5
  obtain ⟨L, hL⟩ : ∃ L, head14 k g i d.data.toList.length ++ d.data.toList = L := ⟨_, rfl⟩
  rw [hL] at h5
  have HL := Aside0.mk hL
  have hLl : L.length = 14 + d.size := by rw [← hL, List.length_append, HDS.out]; simp [head14, be_len]
  obtain ⟨n, hn⟩ : ∃ n, L.length = n := ⟨_, rfl⟩
  have h6 := h5.len
  rw [hn] at h6
  have H5 := Aside0.mk h5
  have H6 := Aside0.mk h6
  have e6 : (124 : Int) - (n : Int) = ((110 - d.size : Nat) : Int) := by omega
  have hn1 : (n : Int) ≤ 124 := by omega
  have HN := Aside0.mk (show L.length = n ∧ n = 14 + d.size from ⟨hn, by omega⟩)
  clear h5 h6 e5 hL hLl hn H4
  go_wp2_with fail
  refine H6.out.mono ?_
  rintro x w6 ⟨rfl, rfl⟩
  clear H6
  go_wp2_with fail
  clear e6
  refine (Rep.repeat_calls ⟨#[0]⟩ (110 - d.size) _ (by omega) (by show 1 * (110 - d.size) ≤ _; omega) (by show 0 < 1; omega)).mono ?_
  rintro x w7 ⟨rfl, h7⟩
  have H7 := Aside0.mk (H5.out.step h7)
  have e7 : (Lib.repeatL ((⟨#[0]⟩ : ByteArray).data.toList) (110 - d.size)) = List.replicate (110 - d.size) 0 := repeatL_one0 _
  rw [e7]
  clear e7 h7 H5
  go_wp2_with fail
  refine (H7.out.str _ (by have := HN.out; show L.length + (List.replicate (110 - d.size) (0 : UInt8)).toArray.size ≤ _; simp; omega)).mono ?_
  rintro x w8 ⟨rfl, h8⟩
  have e8 : L ++ (⟨Array.replicate (110 - d.size) (0 : UInt8)⟩ : ByteArray).data.toList = body k g i d.data.toList := by rw [← HL.out, body, HDS.out]; simp
  rw [e8] at h8
  have H8 := Aside0.mk h8
  clear h8 e8 H7
  have hbl : (body k g i d.data.toList).length = 124 := by have := HDS.out; simp [body, head14, be_len]; omega
  obtain ⟨Bd, hBd⟩ : ∃ B, body k g i d.data.toList = B := ⟨_, rfl⟩
  rw [hBd] at H8 hbl
  have HB := Aside0.mk hBd
  have HBL := Aside0.mk hbl
  clear hBd hbl
  go_wp2_with fail
  refine H8.out.string.mono ?_
  rintro x w9 ⟨rfl, h9⟩
  have H9 := Aside0.mk h9
  clear h9 H8
  go_wp2_with fail
  refine (sum_calls ⟨Bd.toArray⟩ _ (by show Bd.toArray.size ≤ _; have := HBL.out; simp; omega)).mono ?_
  rintro x w10 ⟨rfl, rfl⟩
  have hSl := sumN_lt Bd
  obtain ⟨S, hS⟩ : ∃ S, sumN Bd = S := ⟨_, rfl⟩
  have e10 : sumN ((⟨Bd.toArray⟩ : ByteArray).data.toList) = S := hS
  rw [e10]
  rw [hS] at hSl
  have HS := Aside0.mk hS
  have H10 := Aside0.mk (show CS w b (rc k g i d) (Bd ++ lb S 0) w9 by simpa [lb] using H9.out)
  clear hS e10 H9
  go_wp2_with fail
  go_loopw [42] (fun t W => ∃ (j : Nat), t = .int .i64 j ∧ j ≤ 4 ∧ Aside0 (CS w b (rc k g i d) (Bd ++ lb S j) W)) (fun t _ => 4 - (intOf t).toNat)
  case atStart => exact ⟨0, rfl, by omega, H10⟩
  case round =>
    obtain ⟨j, rfl, hj, HC⟩ := hrel
    clear H10
    by_cases hlt : j < 4
    · have hx1 : 0 ≤ (j : Int) := by omega
      have hx2 : (j : Int) < 4 := by omega
      have e11 := shr_eq S j
      have K := HC.out.byte (S / 256 ^ j) (by have := HBL.out; simp [lb_len]; omega)
      rw [← e11] at K
      have E := Aside0.mk (show Bd ++ lb S j ++ [UInt8.ofNat (S / 256 ^ j)] = Bd ++ lb S (j + 1) by rw [lb, List.append_assoc])
      rw [E.out] at K
      have KK := Aside0.mk K
      clear K e11 E HC
      go_wp2_with fail
      refine KK.out.mono ?_
      rintro x w11 ⟨rfl, h11⟩
      have H11 := Aside0.mk h11
      clear h11 KK
      go_wp2
      go_roundw
      case rel => exact ⟨j + 1, by go_num, by omega, H11⟩
      case measure => simp [intOf]; omega
    · have hge : j = 4 := by omega
      subst hge
      have E := Aside0.mk (show Bd ++ lb S 4 = sector k g i d.data.toList by rw [sector, HB.out, HS.out])
      rw [E.out] at HC
      go_wp2_with fail
      refine HC.out.string.mono ?_
      rintro x w12 ⟨rfl, h12⟩
      have H12 := Aside0.mk h12.1
      clear h12 HC E
      go_wp2
      go_ret2
      exact ⟨rfl, H12.out⟩
theorem close_long (k g i : Nat) (d : ByteArray) (w : World) (hd : 110 < d.size) :
    Calls Tryd.prog 27 #[.agg (rc k g i d)] w fun e w' => e = .returned (.tuple #[.string ⟨#[]⟩, .int .i64 11]) ∧ Below w.heap.size w w' := by
  have c1 : decide (110 < (d.size : Int)) = true := decide_eq_true (by omega)
  have c2 : decide (110 < d.size) = true := decide_eq_true (by omega)
  have q3 : (w.alloc (.cells (rc k g i d) 64)).cell? ⟨w.heap.size, 3, none⟩ = some (.string d) := Lib.cell_of_heap (heap_alloc_new w (.cells (rc k g i d) 64)) 3
  go_enter Tryd.func27, Tryd.ntmps27
  go_wp2
  go_ret2
  exact ⟨rfl, (Below.refl _ _).alloc (Nat.le_refl _) _⟩
theorem close_calls (k g i : Nat) (d : ByteArray) (w : World) (hk : k < 256) (hg : g < 18446744073709551616) (hi : i < 4294967296) :
    Calls Tryd.prog 27 #[.agg (rc k g i d)] w fun e w' => e = .returned (.tuple #[.string (closeS k g i d).1, .int .i64 (closeS k g i d).2]) ∧ Below w.heap.size w w' := by
  unfold closeS
  by_cases h : d.size > 110
  · rw [if_pos h]; exact close_long k g i d w h
  · rw [if_neg h]; exact close_good k g i d w hk hg hi (by omega)
end Go.Proofs.YtknbhgodhmcemaaDoor.Sl
namespace Go.Proofs.YtknbhgodhmcemaaDoor.Sl
set_option linter.unusedSimpArgs false
set_option maxRecDepth 100000
open Go.RowKit
theorem sector_len (k g i : Nat) (d : List UInt8) (h : d.length ≤ 110) : (sector k g i d).length = 128 := by
  simp [sector, body, head14, be_len, lb_len]; omega
theorem sum_nine : sumN [49, 50, 51, 52, 53, 54, 55, 56, 57] = 3421780262 := by decide +kernel
theorem awake_calls (w : World) : Calls Tryd.prog 42 #[] w fun e w' => e = .returned (.bool true) ∧ Below w.heap.size w w' := by
  have K : ∀ V : World, Calls Tryd.prog 27 #[.agg #[.int .u8 1, .int .u64 0, .int .u32 0, .string ⟨#[]⟩]] V fun e w' => e = .returned (.tuple #[.string ⟨(sector 1 0 0 []).toArray⟩, .int .i64 0]) ∧ Below V.heap.size V w' :=
    fun V => close_good 1 0 0 ⟨#[]⟩ V (by omega) (by omega) (by omega) (by decide)
  have KS : ∀ V : World, Calls Tryd.prog 67 #[.string ⟨#[49, 50, 51, 52, 53, 54, 55, 56, 57]⟩] V fun e w' => e = .returned (.int .u32 3421780262) ∧ V = w' := fun V => by
    have := sum_calls ⟨#[49, 50, 51, 52, 53, 54, 55, 56, 57]⟩ V (by decide)
    rw [show (sumN (⟨#[49, 50, 51, 52, 53, 54, 55, 56, 57]⟩ : ByteArray).data.toList) = 3421780262 from sum_nine] at this
    exact this
  have hl : (⟨(sector 1 0 0 []).toArray⟩ : ByteArray).size = 128 := by show (sector 1 0 0 []).toArray.size = 128; rw [List.size_toArray]; exact sector_len 1 0 0 [] (by simp)
  have KK := Aside0.mk K
  have KKS := Aside0.mk KS
  clear K KS
  generalize (⟨(sector 1 0 0 []).toArray⟩ : ByteArray) = z at hl KK
  have h128 : ((z.size : Int) == 128) = true := by rw [hl]; rfl
  have h128' : (z.size == 128) = true := by rw [hl]; rfl
  clear hl
  go_enter Tryd.func42, Tryd.ntmps42
  go_wp2_with fail
  refine (KK.out _).mono ?_
  rintro x w1 ⟨rfl, h1⟩
  have H1 := Aside0.mk h1
  clear h1
  go_wp2_with fail
  refine (KKS.out _).mono ?_
  rintro x w2 ⟨rfl, rfl⟩
  go_wp2
  go_ret
  exact ⟨rfl, H1.out⟩
end Go.Proofs.YtknbhgodhmcemaaDoor.Sl
namespace Go.Proofs.YtknbhgodhmcemaaDoor.Sl
set_option linter.unusedSimpArgs false
set_option linter.unusedVariables false
set_option maxRecDepth 100000
open Go.RowKit
def blankB (l : List UInt8) : Bool := l.all (· == 0)
theorem dropWhile_nil {α : Type} (p : α → Bool) : ∀ l : List α, (l.dropWhile p).isEmpty = l.all p
  | [] => rfl
  | a :: l => by
    simp only [List.dropWhile, List.all_cons]
    cases h : p a with
    | true => simp [dropWhile_nil p l]
    | false => simp
theorem dropWhile_reverse_all (p : UInt8 → Bool) (l : List UInt8) : ((l.reverse.dropWhile p).reverse).all p = l.all p := by
  have h1 : l.reverse.all p = ((l.reverse.takeWhile p) ++ (l.reverse.dropWhile p)).all p := by rw [List.takeWhile_append_dropWhile]
  rw [List.all_reverse] at h1
  rw [List.all_reverse, h1, List.all_append, List.all_takeWhile, Bool.true_and]
theorem trim_blank (l : List UInt8) : (Lib.trimB l 0).isEmpty = blankB l := by
  unfold Lib.trimB Lib.trimLeftB Lib.trimRightB blankB
  rw [dropWhile_nil, dropWhile_reverse_all]
theorem trim_eq (l : List UInt8) : ((⟨(Lib.trimB l 0).toArray⟩ : ByteArray).toList == (⟨#[]⟩ : ByteArray).toList) = blankB l := by
  rw [← trim_blank]
  have e : (⟨(Lib.trimB l 0).toArray⟩ : ByteArray).toList = Lib.trimB l 0 := by simp
  have e0 : (⟨#[]⟩ : ByteArray).toList = [] := by simp
  rw [e, e0]
  cases Lib.trimB l 0 <;> rfl
theorem blank_calls (s : ByteArray) (w : World) (hs : s.size ≤ 9223372036854775807) :
    Calls Tryd.prog 83 #[.string s] w fun e w' => e = .returned (.bool (blankB s.data.toList)) ∧ (w' = w ∨ w' = w.drew) := by
  have K := Tryd.strings_Trim_one s 0 (by decide) w hs
  have E := Aside0.mk (trim_eq s.data.toList)
  obtain ⟨t, ht⟩ : ∃ t, (⟨(Lib.trimB s.data.toList 0).toArray⟩ : ByteArray) = t := ⟨_, rfl⟩
  rw [ht] at K E
  have KK := Aside0.mk K
  clear K ht
  go_enter Tryd.func83, Tryd.ntmps83
  go_wp2_with fail
  refine KK.out.mono ?_
  rintro x w1 ⟨rfl, h1⟩
  have H1 := Aside0.mk h1
  clear h1
  go_wp2
  go_ret
  refine ⟨?_, H1.out⟩
  rw [← E.out]
  first | rfl | (congr 2; simp)
def val (l : List UInt8) : Nat := l.foldl (fun x b => x * 256 + b.toNat) 0
theorem val_snoc (l : List UInt8) (b : UInt8) : val (l ++ [b]) = val l * 256 + b.toNat := by simp [val, List.foldl_append]
theorem val_lt (l : List UInt8) : val l < 256 ^ l.length := by
  have key : ∀ (l : List UInt8) (x : Nat), l.foldl (fun x b => x * 256 + b.toNat) x < (x + 1) * 256 ^ l.length := by
    intro l
    induction l with
    | nil => intro x; simp
    | cons b l ih =>
      intro x
      have h := ih (x * 256 + b.toNat)
      have hb := b.toNat_lt
      rw [List.foldl_cons, List.length_cons, Nat.pow_succ, Nat.mul_comm (256 ^ l.length), ← Nat.mul_assoc]
      exact Nat.lt_of_lt_of_le h (Nat.mul_le_mul_right _ (by omega))
  have := key l 0
  simpa [val] using this
theorem val_take (s : ByteArray) (j : Nat) (h : j < s.size) : val (s.data.toList.take (j + 1)) = val (s.data.toList.take j) * 256 + (s[j]'h).toNat := by
  rw [List.take_succ_eq_append_getElem (by simpa using h), val_snoc]; rfl
theorem or_byte (x b : Nat) (hb : b < 256) : x * 256 ||| b = x * 256 + b := by
  have := Nat.shiftLeft_add_eq_or_of_lt (i := 8) (a := x) (b := b) (by omega)
  rw [Nat.shiftLeft_eq] at this
  exact this.symm
theorem number2_calls (s : ByteArray) (w : World) (hs : s.size ≤ 8) :
    Calls Tryd.prog 84 #[.string s] w fun e w' => e = .returned (.int .u64 (val s.data.toList : Nat)) ∧ w = w' := by
  go_enter Tryd.func84, Tryd.ntmps84
  go_wp2
  go_loop [3, 7] (fun v i => ∃ (j : Nat), i = .int .i64 j ∧ j ≤ s.size ∧ v = .int .u64 (val (s.data.toList.take j) : Nat)) (fun _ i => s.size - (intOf i).toNat)
  case atStart => exact ⟨0, rfl, by omega, rfl⟩
  case round =>
    obtain ⟨j, rfl, hj, rfl⟩ := hrel
    by_cases hlt : j < s.size
    · have hb := (s[j]'hlt).toNat_lt
      have hv := val_lt (s.data.toList.take j)
      have hv2 : val (s.data.toList.take j) < 256 ^ 7 := Nat.lt_of_lt_of_le hv (Nat.pow_le_pow_right (by omega) (by rw [List.length_take]; omega))
      have HN := Aside0.mk (val_take s j hlt)
      generalize val (s.data.toList.take j) = X at hv2 HN ⊢
      have hX : X < 72057594037927936 := hv2
      have e1 : ((s[j]'hlt).toNat : Int) % 18446744073709551616 = ((s[j]'hlt).toNat : Int) := by omega
      have e2 := u64_or_nat (X * 256) (s[j]'hlt).toNat (by omega) (by omega)
      rw [or_byte X _ hb] at e2
      have e3 : ((X * 256 : Nat) : Int) = (X : Int) * 256 := by push_cast; rfl
      rw [e3] at e2
      clear hv hv2 e3
      go_wp2
      go_round
      case rel => exact ⟨j + 1, by go_num, by omega, by rw [HN.out]; push_cast; rfl⟩
      case measure => simp [intOf]; omega
    · have hge : j = s.size := by omega
      subst hge
      have E := Aside0.mk (show val (s.data.toList.take s.size) = val s.data.toList by rw [List.take_of_length_le (by simp)])
      go_wp2
      go_ret
      exact ⟨by rw [E.out]; rfl, rfl⟩
end Go.Proofs.YtknbhgodhmcemaaDoor.Sl
namespace Go.Proofs.YtknbhgodhmcemaaDoor.Sl
set_option linter.unusedSimpArgs false
set_option linter.unusedVariables false
set_option maxRecDepth 100000
open Go.RowKit
def low (l : List UInt8) (p : Nat) : Nat → Nat
  | 0 => 0
  | d + 1 => low l p d + (l.getD (p + d) 0).toNat * 256 ^ d
theorem low_lt (l : List UInt8) (p : Nat) : ∀ d, low l p d < 256 ^ d
  | 0 => by simp [low]
  | d + 1 => by
    have := low_lt l p d
    have hb := (l.getD (p + d) 0).toNat_lt
    rw [low, Nat.pow_succ, Nat.mul_comm (256 ^ d)]
    have h2 : (l.getD (p + d) 0).toNat * 256 ^ d ≤ 255 * 256 ^ d := Nat.mul_le_mul_right _ (by omega)
    omega
structure Rec where
  k : Nat
  g : Nat
  i : Nat
  d : ByteArray
def Rec.zero : Rec := ⟨0, 0, 0, ⟨#[]⟩⟩
def recV (r : Rec) : Array Value := #[.int .u8 (r.k : Int), .int .u64 (r.g : Int), .int .u32 (r.i : Int), .string r.d]
def openS (s : ByteArray) : Rec × Int :=
  if s.size ≠ 128 then (.zero, 4) else if blankB s.data.toList = true then (.zero, 16)
  else if sumN (s.extract 0 124).data.toList ≠ low s.data.toList 124 4 then (.zero, 8)
  else if (s.data.toList.getD 13 0).toNat > 110 ∨ blankB (s.extract (14 + (s.data.toList.getD 13 0).toNat) 124).data.toList = false then (.zero, 4)
  else (⟨(s.data.toList.getD 0 0).toNat, val (s.extract 1 9).data.toList, val (s.extract 9 13).data.toList, s.extract 14 (14 + (s.data.toList.getD 13 0).toNat)⟩, 0)
theorem at_getD (s : ByteArray) (j : Nat) (h : j < s.size) : s.data.toList.getD j 0 = s[j]'h := by
  rw [List.getD_eq_getElem?_getD, List.getElem?_eq_getElem (by simpa using h)]; rfl
theorem infoR : (Tryd.prog.info? 64).map (·.size) = some 4 := by kernel_rfl
theorem recV_one (r : Rec) : (recV r).all (·.oneCell') = true := by
  rw [Array.all_eq_true_iff_forall_mem]
  intro v hv
  simp only [recV, List.mem_toArray, List.mem_cons, List.not_mem_nil, or_false] at hv
  rcases hv with rfl | rfl | rfl | rfl <;> rfl
theorem low_step (s : ByteArray) (j : Nat) (h : 124 + j < s.size) : low s.data.toList 124 (j + 1) = low s.data.toList 124 j + (s[124 + j]'h).toNat * 256 ^ j := by
  rw [low, at_getD s _ h]
theorem or_low (x b j : Nat) (hx : x < 256 ^ j) : x ||| b * 256 ^ j = x + b * 256 ^ j := by
  have e : (256 : Nat) ^ j = 2 ^ (8 * j) := by rw [Nat.pow_mul]
  rw [e] at hx ⊢
  have := Nat.shiftLeft_add_eq_or_of_lt (i := 8 * j) (a := b) (b := x) hx
  rw [Nat.shiftLeft_eq] at this
  rw [Nat.or_comm, ← this, Nat.add_comm]
theorem or_u32_low {x b j : Nat} (hx : x < 256 ^ j) (hb : b < 256) (hj : j < 4) : bits .or .u32 (x : Int) ((b : Int) % 4294967296 * 2 ^ (8 * j) % 4294967296) = ((x + b * 256 ^ j : Nat) : Int) := by
  have h1 : b * 256 ^ j < 4294967296 := by
    have : j = 0 ∨ j = 1 ∨ j = 2 ∨ j = 3 := by omega
    rcases this with rfl | rfl | rfl | rfl <;> omega
  have h2 : x < 4294967296 := Nat.lt_of_lt_of_le hx (by
    have : j = 0 ∨ j = 1 ∨ j = 2 ∨ j = 3 := by omega
    rcases this with rfl | rfl | rfl | rfl <;> omega)
  have e : (b : Int) % 4294967296 * 2 ^ (8 * j) % 4294967296 = ((b * 256 ^ j : Nat) : Int) := by
    rw [show (b : Int) % 4294967296 = (b : Int) by omega, Int.pow_mul, show (2 : Int) ^ 8 = ((256 : Nat) : Int) by decide, ← Int.natCast_pow, ← Int.natCast_mul]
    omega
  rw [e, u32_or_nat x _ h2 h1, or_low x b j hx]
theorem openS_len {s : ByteArray} (h : s.size ≠ 128) : openS s = (.zero, 4) := by unfold openS; rw [if_pos h]
theorem openS_blank {s : ByteArray} (h : s.size = 128) (h2 : blankB s.data.toList = true) : openS s = (.zero, 16) := by unfold openS; rw [if_neg (by omega), if_pos h2]
theorem openS_sum {s : ByteArray} (h : s.size = 128) (h2 : blankB s.data.toList = false) (h3 : sumN (s.extract 0 124).data.toList ≠ low s.data.toList 124 4) : openS s = (.zero, 8) := by
  unfold openS; rw [if_neg (by omega), if_neg (by simp [h2]), if_pos h3]
theorem openS_form {s : ByteArray} (h : s.size = 128) (h2 : blankB s.data.toList = false) (h3 : sumN (s.extract 0 124).data.toList = low s.data.toList 124 4)
    (h4 : (s.data.toList.getD 13 0).toNat > 110 ∨ blankB (s.extract (14 + (s.data.toList.getD 13 0).toNat) 124).data.toList = false) : openS s = (.zero, 4) := by
  unfold openS; rw [if_neg (by omega), if_neg (by simp [h2]), if_neg (fun e => e h3), if_pos h4]
theorem openS_ok {s : ByteArray} (h : s.size = 128) (h2 : blankB s.data.toList = false) (h3 : sumN (s.extract 0 124).data.toList = low s.data.toList 124 4)
    (h4 : (s.data.toList.getD 13 0).toNat ≤ 110) (h5 : blankB (s.extract (14 + (s.data.toList.getD 13 0).toNat) 124).data.toList = true) :
    openS s = (⟨(s.data.toList.getD 0 0).toNat, val (s.extract 1 9).data.toList, val (s.extract 9 13).data.toList, s.extract 14 (14 + (s.data.toList.getD 13 0).toNat)⟩, 0) := by
  unfold openS; rw [if_neg (by omega), if_neg (by simp [h2]), if_neg (fun e => e h3), if_neg (fun e => e.elim (fun e => absurd e (by omega)) (fun e => by rw [h5] at e; cases e))]
def RB4 (w : World) (W : World) : Prop := Below w.heap.size w W ∧ ∃ cs : Array Value, W.heap[w.heap.size]? = some (.cells cs 64 (0, 0)) ∧ cs.size = 4
def RB (w : World) (W : World) : Prop := Below w.heap.size w W ∧ W.heap[w.heap.size]? = some (.cells #[.int .u8 0, .int .u64 0, .int .u32 0, .string ⟨#[]⟩] 64 (0, 0))
theorem RB.step {w W W' : World} (h : RB w W) (hb : W' = W ∨ W' = W.drew) : RB w W' := by
  rcases hb with rfl | rfl
  · exact h
  · exact ⟨h.1.drew, h.2⟩
set_option maxHeartbeats 1000000 in
theorem open_calls (s : ByteArray) (w : World) (hs : s.size ≤ 1000) :
    Calls Tryd.prog 47 #[.string s] w fun e w' => e = .returned (.tuple #[.agg (recV (openS s).1), .int .i64 (openS s).2]) ∧ Below w.heap.size w w' := by
  have hz := heap_alloc_new w (.cells #[.int .u8 0, .int .u64 0, .int .u32 0, .string ⟨#[]⟩] 64)
  have hi : (Tryd.prog.info? 64).map (·.size) = some (#[.int .u8 0, .int .u64 0, .int .u32 0, .string ⟨#[]⟩] : Array Value).size := infoR
  have ho : (#[.int .u8 0, .int .u64 0, .int .u32 0, .string ⟨#[]⟩] : Array Value).all (·.oneCell') = true := recV_one .zero
  by_cases h1 : s.size = 128
  · have c1 : ((s.size : Int) != 128) = false := by simp [h1]
    have c1' : (s.size != 128) = false := by simp [h1]
    have KB := Aside0.mk (fun V => blank_calls s V (by omega))
    obtain ⟨bl, hbl⟩ : ∃ b, blankB s.data.toList = b := ⟨_, rfl⟩
    rw [hbl] at KB
    have H1 := Aside0.mk h1
    have HBL := Aside0.mk hbl
    have HZ := Aside0.mk (show RB w (w.alloc (.cells #[.int .u8 0, .int .u64 0, .int .u32 0, .string ⟨#[]⟩] 64)) from ⟨(Below.refl _ _).alloc (Nat.le_refl _) _, hz⟩)
    clear h1 hs hbl hz
    go_enter Tryd.func47, Tryd.ntmps47
    go_wp2_with fail
    refine (KB.out _).mono ?_
    rintro x w1 ⟨rfl, hw1⟩
    have B1 := Aside0.mk (HZ.out.step hw1)
    have hZ1 := B1.out.2
    clear hw1 KB HZ
    cases bl with
    | true =>
      have E := Aside0.mk (openS_blank H1.out HBL.out)
      go_wp2_with (refine wpList_store_row rfl 64 _ _ rfl w.heap.size #[.int .u8 0, .int .u64 0, .int .u32 0, .string ⟨#[]⟩] rfl rfl 64 _ hZ1 hi rfl ho ?_)
      exact bodyPost_ret (Cel.end_cell rfl _ _ _ _ _ hZ1 rfl Tryd.underlying64 rfl hi) rfl ⟨by rw [E.out]; rfl, below_setRow B1.out.1 (Nat.le_refl _) _⟩
    | false =>
      have KS := Aside0.mk (fun V => sum_calls (s.extract 0 124) V (by rw [ByteArray.size_extract]; have := H1.out; omega))
      have hsl := sumN_lt (s.extract 0 124).data.toList
      obtain ⟨S, hS⟩ : ∃ S, sumN (s.extract 0 124).data.toList = S := ⟨_, rfl⟩
      obtain ⟨T, hT⟩ : ∃ T, low s.data.toList 124 4 = T := ⟨_, rfl⟩
      rw [hS] at KS hsl
      have HS := Aside0.mk hS
      have HT := Aside0.mk hT
      have HSl := Aside0.mk hsl
      clear hS hT hsl hZ1
      go_wp2_with fail
      go_loop [4, 16] (fun t i => ∃ (j : Nat), i = .int .i64 j ∧ j ≤ 4 ∧ t = .int .u32 (low s.data.toList 124 j : Nat)) (fun _ i => 4 - (intOf i).toNat)
      case atStart => exact ⟨0, rfl, by omega, rfl⟩
      case round =>
        obtain ⟨j, rfl, hj, rfl⟩ := hrel
        by_cases hlt : j < 4
        · have hx1 : 0 ≤ (j : Int) := by omega
          have hx2 : (j : Int) < 4 := by omega
          have hj2 : 124 + j < s.size := by have := H1.out; omega
          have hj3 : (124 : Int) + (j : Int) < (s.size : Int) := by omega
          have hb := (s[124 + j]'hj2).toNat_lt
          have E := Aside0.mk (show Value.int .u32 (bits .or .u32 (low s.data.toList 124 j : Nat) (((s[124 + j]'hj2).toNat : Int) % 4294967296 * 2 ^ (8 * j) % 4294967296)) = .int .u32 (low s.data.toList 124 (j + 1) : Nat) by
            rw [or_u32_low (low_lt _ _ _) hb hlt, low_step s j hj2])
          clear hb
          go_wp2
          go_round
          case rel => exact ⟨j + 1, by go_num, by omega, E.out⟩
          case measure => simp [intOf]; omega
        · have hge : j = 4 := by omega
          subst hge
          rw [HT.out]
          have hsz : (s.size : Int) = 128 := by have := H1.out; omega
          have hle : 124 ≤ s.size := by have := H1.out; omega
          by_cases hST : S = T
          · subst hST
            have t1 : ((S : Int) != (S : Int)) = false := by simp
            have hST : sumN (s.extract 0 124).data.toList = low s.data.toList 124 4 := by rw [HS.out, HT.out]
            have hl0 : 0 < s.size := by omega
            have hl13 : 13 < s.size := by omega
            have hn8 := (s[13]'hl13).toNat_lt
            have hat := at_getD s 13 hl13
            obtain ⟨n, hn⟩ : ∃ n, (s[13]'hl13).toNat = n := ⟨_, rfl⟩
            rw [hn] at hn8
            have HST := Aside0.mk hST
            have HAT := Aside0.mk (show (s.data.toList.getD 13 0).toNat = n by rw [hat, hn])
            have HN := Aside0.mk hn
            clear hST hat hn
            by_cases hn1 : 110 < n
            · have t2 : decide (110 < (n : Int)) = true := decide_eq_true (by omega)
              have t3 : decide (110 < n) = true := decide_eq_true hn1
              have E := Aside0.mk (openS_form H1.out HBL.out HST.out (.inl (by rw [HAT.out]; exact hn1)))
              have hZ1 := B1.out.2
              have hn := HN.out
              go_wp2_with fail
              refine (KS.out _).mono ?_
              rintro x w2 ⟨rfl, rfl⟩
              go_wp2_with (refine wpList_store_row rfl 64 _ _ rfl w.heap.size #[.int .u8 0, .int .u64 0, .int .u32 0, .string ⟨#[]⟩] rfl rfl 64 _ hZ1 hi rfl ho ?_)
              exact bodyPost_ret (Cel.end_cell rfl _ _ _ _ _ hZ1 rfl Tryd.underlying64 rfl hi) rfl ⟨by rw [E.out]; rfl, below_setRow B1.out.1 (Nat.le_refl _) _⟩
            · have t2 : decide (110 < (n : Int)) = false := decide_eq_false (by omega)
              have t3 : decide (110 < n) = false := decide_eq_false hn1
              have hn2 : 14 + n ≤ 124 := by omega
              have hn3 : (14 : Int) + (n : Int) ≤ 124 := by omega
              have K2 := Aside0.mk (fun V => blank_calls (s.extract (14 + n) 124) V (by rw [ByteArray.size_extract]; omega))
              obtain ⟨b2, hb2⟩ : ∃ b, blankB (s.extract (14 + n) 124).data.toList = b := ⟨_, rfl⟩
              rw [hb2] at K2
              have HB2 := Aside0.mk hb2
              clear hb2
              have hn := HN.out
              have hslice : ∀ W : World, (Instr.slice 9 (.string s) (some (.int .i64 (14 + (n : Int)))) (some (.int .i64 124)) none).run Tryd.prog W = .ok (.string (s.extract (14 + n) 124)) W := fun W => by
                have := run_slice_string (P := Tryd.prog) 9 s .i64 .i64 (14 + (n : Int)) 124 Tryd.underlying9 (by omega) (by omega) (by omega) (w := W)
                rw [show (14 + (n : Int)).toNat = 14 + n by omega] at this
                exact this
              go_wp2_with fail
              refine (KS.out _).mono ?_
              rintro x w1' ⟨rfl, rfl⟩
              go_wp2_with fail
              refine (K2.out _).mono ?_
              rintro x w2 ⟨rfl, hw2⟩
              have B2 := Aside0.mk (B1.out.step hw2)
              have hZ1 := B2.out.2
              clear hw2 B1 K2
              cases b2 with
              | false =>
                have E := Aside0.mk (openS_form H1.out HBL.out HST.out (.inr (by rw [HAT.out]; exact HB2.out)))
                go_wp2_with (refine wpList_store_row rfl 64 _ _ rfl w.heap.size #[.int .u8 0, .int .u64 0, .int .u32 0, .string ⟨#[]⟩] rfl rfl 64 _ hZ1 hi rfl ho ?_)
                exact bodyPost_ret (Cel.end_cell rfl _ _ _ _ _ hZ1 rfl Tryd.underlying64 rfl hi) rfl ⟨by rw [E.out]; rfl, below_setRow B2.out.1 (Nat.le_refl _) _⟩
              | true =>
                have E := Aside0.mk (openS_ok H1.out HBL.out HST.out (by rw [HAT.out]; omega) (by rw [HAT.out]; exact HB2.out))
                rw [HAT.out, at_getD s 0 hl0] at E
                have KG := Aside0.mk (fun V => number2_calls (s.extract 1 9) V (by rw [ByteArray.size_extract]; omega))
                have KI := Aside0.mk (fun V => number2_calls (s.extract 9 13) V (by rw [ByteArray.size_extract]; omega))
                have hi0 := val_lt (s.extract 9 13).data.toList
                obtain ⟨g0, hg0⟩ : ∃ g, val (s.extract 1 9).data.toList = g := ⟨_, rfl⟩
                obtain ⟨i0, hi0'⟩ : ∃ g, val (s.extract 9 13).data.toList = g := ⟨_, rfl⟩
                rw [hg0] at KG E
                rw [hi0'] at KI E hi0
                have hi1 : i0 < 4294967296 := Nat.lt_of_lt_of_le hi0 (by
                  have : (s.extract 9 13).data.toList.length ≤ 4 := by rw [Array.length_toList]; show (s.extract 9 13).size ≤ 4; rw [ByteArray.size_extract]; omega
                  exact Nat.pow_le_pow_right (by omega) this)
                have e5 : (i0 : Int) % 4294967296 = (i0 : Int) := by omega
                have hn4 : 14 + n ≤ s.size := by omega
                clear hg0 hi0 hi0' hi1 hn
                go_wp2_with fail
                clear hslice
                have hwrap : IntKind.i64.wrap (14 + (n : Int)) = 14 + (n : Int) := by rw [IntKind.wrap_i64]; omega
                have hwrap2 : IntKind.u32.wrap (i0 : Int) = (i0 : Int) := by rw [IntKind.wrap_u32]; omega
                have hslice2 : ∀ W : World, (Instr.slice 9 (.string s) (some (.int .i64 14)) (some (.int .i64 (14 + (n : Int)))) none).run Tryd.prog W = .ok (.string (s.extract 14 (14 + n))) W := fun W => by
                  have := run_slice_string (P := Tryd.prog) 9 s .i64 .i64 14 (14 + (n : Int)) Tryd.underlying9 (by omega) (by omega) (by omega) (w := W)
                  rw [show (14 + (n : Int)).toNat = 14 + n by omega] at this
                  exact this
                refine wp_region_held_drew (S := fun V => RB4 w V) (by kernel_rfl) ⟨B2.out.1.drew, _, hZ1, rfl⟩ (fun hH => ?_)
                refine Cel.take_at (i := 0) (some 50) (.string s) rfl rfl (by kernel_rfl) (by kernel_rfl) (by kernel_rfl) (fun _ _ _ h => h) (Or.inl ⟨by rfl, fun w hSw => by go_simp⟩) hH ?_
                refine Cel.take_at (i := 1) (some 51) (.int .u8 ((s[0]'hl0).toNat : Nat)) rfl rfl (by kernel_rfl) (by kernel_rfl) (by kernel_rfl) (fun _ _ _ h => h) (Or.inl ⟨by rfl, fun w hSw => by go_simp⟩) hH ?_
                try simp only [Act.put, List.setIfInBounds_toArray, List.set_cons_zero, List.set_cons_succ]
                refine Cel.take_at (i := 2) (some 52) (.string s) rfl rfl (by kernel_rfl) (by kernel_rfl) (by kernel_rfl) (fun _ _ _ h => h) (Or.inl ⟨by rfl, fun w hSw => by go_simp⟩) hH ?_
                refine Cel.take_at (i := 3) (some 53) (.string (s.extract 1 9)) rfl rfl (by kernel_rfl) (by kernel_rfl) (by kernel_rfl) (fun _ _ _ h => h) (Or.inl ⟨by rfl, fun w hSw => by go_simp⟩) hH ?_
                try simp only [Act.put, List.setIfInBounds_toArray, List.set_cons_zero, List.set_cons_succ]
                refine Cel.take_at (i := 5) (some 55) (.string s) rfl rfl (by kernel_rfl) (by kernel_rfl) (by kernel_rfl) (fun _ _ _ h => h) (Or.inl ⟨by rfl, fun w hSw => by go_simp⟩) hH ?_
                refine Cel.take_at (i := 6) (some 56) (.string (s.extract 9 13)) rfl rfl (by kernel_rfl) (by kernel_rfl) (by kernel_rfl) (fun _ _ _ h => h) (Or.inl ⟨by rfl, fun w hSw => by go_simp⟩) hH ?_
                try simp only [Act.put, List.setIfInBounds_toArray, List.set_cons_zero, List.set_cons_succ]
                refine Cel.take_at (i := 9) (some 59) (.string s) rfl rfl (by kernel_rfl) (by kernel_rfl) (by kernel_rfl) (fun _ _ _ h => h) (Or.inl ⟨by rfl, fun w hSw => by go_simp⟩) hH ?_
                refine Cel.take_at (i := 10) (some 60) (.int .i64 (n : Int)) rfl rfl (by kernel_rfl) (by kernel_rfl) (by kernel_rfl) (fun _ _ _ h => h) (Or.inl ⟨by rfl, fun w hSw => by go_simp⟩) hH ?_
                try simp only [Act.put, List.setIfInBounds_toArray, List.set_cons_zero, List.set_cons_succ]
                refine Cel.take_at (i := 11) (some 61) (.int .i64 (14 + (n : Int))) rfl rfl (by kernel_rfl) (by kernel_rfl) (by kernel_rfl) (fun _ _ _ h => h) (Or.inl ⟨by rfl, fun w hSw => by go_simp⟩) hH ?_
                refine Cel.take_at (i := 12) (some 62) (.string (s.extract 14 (14 + n))) rfl rfl (by kernel_rfl) (by kernel_rfl) (by kernel_rfl) (fun _ _ _ h => h) (Or.inl ⟨by rfl, fun w hSw => by go_simp⟩) hH ?_
                try simp only [Act.put, List.setIfInBounds_toArray, List.set_cons_zero, List.set_cons_succ]
                generalize w2.drew = V0 at hH ⊢
                try simp only [Act.put, List.setIfInBounds_toArray, List.set_cons_zero, List.set_cons_succ]
                refine wpAnyH_ready (rs := [4]) (by kernel_rfl) (by simp) (AllReadyH.cons rfl (fun K hK => ?_) AllReadyH.nil)
                go_simp
                refine (KG.out _).mono ?_
                rintro x v4 ⟨rfl, rfl⟩
                refine hK.out _ _ hH (fun hH => ?_)
                clear hK K
                try simp only [Act.put, List.setIfInBounds_toArray, List.set_cons_zero, List.set_cons_succ]
                refine wpAnyH_ready (rs := [7]) (by kernel_rfl) (by simp) (AllReadyH.cons rfl (fun K hK => ?_) AllReadyH.nil)
                go_simp
                refine (KI.out _).mono ?_
                rintro x v7 ⟨rfl, rfl⟩
                refine hK.out _ _ hH (fun hH => ?_)
                clear hK K
                try simp only [Act.put, List.setIfInBounds_toArray, List.set_cons_zero, List.set_cons_succ]
                refine Cel.take_at (i := 8) (some 58) (.int .u32 (i0 : Nat)) rfl rfl (by kernel_rfl) (by kernel_rfl) (by kernel_rfl) (fun _ _ _ h => h) (Or.inl ⟨by rfl, fun w hSw => by go_simp⟩) hH ?_
                try simp only [Act.put, List.setIfInBounds_toArray, List.set_cons_zero, List.set_cons_succ]
                refine Cel.take_at (i := 13) (some 63) (.agg #[.int .u8 ((s[0]'hl0).toNat : Nat), .int .u64 (g0 : Nat), .int .u32 (i0 : Nat), .string (s.extract 14 (14 + n))]) rfl rfl (by kernel_rfl) (by kernel_rfl) (by kernel_rfl) (fun _ _ _ h => h) (Or.inl ⟨by rfl, fun w hSw => by go_simp⟩) hH ?_
                try simp only [Act.put, List.setIfInBounds_toArray, List.set_cons_zero, List.set_cons_succ]
                obtain ⟨hb0, cs0, hc0, hl0'⟩ := hH
                have hif : (Tryd.prog.info? 64).map (·.size) = some (#[.int .u8 ((s[0]'hl0).toNat : Nat), .int .u64 (g0 : Nat), .int .u32 (i0 : Nat), .string (s.extract 14 (14 + n))] : Array Value).size := infoR
                have hof : (#[.int .u8 ((s[0]'hl0).toNat : Nat), .int .u64 (g0 : Nat), .int .u32 (i0 : Nat), .string (s.extract 14 (14 + n))] : Array Value).all (·.oneCell') = true := recV_one ⟨(s[0]'hl0).toNat, g0, i0, s.extract 14 (14 + n)⟩
                refine wpAnyH_ready (rs := [14]) (by kernel_rfl) (by simp) (AllReadyH.cons rfl (fun K hK => ?_) AllReadyH.nil)
                rw [if_pos (by rfl)]
                refine Cel.wp_store_none rfl 64 (.tmp 2) (.tmp 63) rfl w.heap.size _ rfl rfl 64 _ hc0 hif hl0' hof ?_
                have hR := setRow_heap V0 w.heap.size _ #[.int .u8 ((s[0]'hl0).toNat : Nat), .int .u64 (g0 : Nat), .int .u32 (i0 : Nat), .string (s.extract 14 (14 + n))] 64 (0, 0) hc0
                have hbz := below_setRow hb0 (Nat.le_refl _) #[.int .u8 ((s[0]'hl0).toNat : Nat), .int .u64 (g0 : Nat), .int .u32 (i0 : Nat), .string (s.extract 14 (14 + n))]
                refine hK.out _ _ ⟨hbz, _, hR, rfl⟩ (fun hH => ?_)
                clear hK K
                try simp only [Act.put, List.setIfInBounds_toArray, List.set_cons_zero, List.set_cons_succ]
                refine Cel.take_at (i := 15) (some 3) (.int .i64 0) rfl rfl (by kernel_rfl) (by kernel_rfl) (by kernel_rfl) (fun _ _ _ h => h) (Or.inl ⟨by rfl, fun w hSw => by go_simp⟩) hH ?_
                refine wpAnyH_done (by kernel_rfl) ?_ _
                try simp only [Act.put, List.setIfInBounds_toArray, List.set_cons_zero, List.set_cons_succ]
                have HR := Aside0.mk hc0
                have HBZ := Aside0.mk hbz
                clear hH hR hbz hb0
                go_wp2
                exact bodyPost_ret (Cel.end_cell rfl _ _ _ _ _ HR.out rfl Tryd.underlying64 rfl hif) rfl ⟨by rw [E.out]; rfl, HBZ.out⟩
          · have t1 : ((S : Int) != (T : Int)) = true := by simp; omega
            have t1' : (S != T) = true := by simpa using hST
            have E := Aside0.mk (openS_sum H1.out HBL.out (by rw [HS.out, HT.out]; exact hST))
            clear hST
            have hZ1 := B1.out.2
            go_wp2_with fail
            refine (KS.out _).mono ?_
            rintro x w2 ⟨rfl, rfl⟩
            go_wp2_with (refine wpList_store_row rfl 64 _ _ rfl w.heap.size #[.int .u8 0, .int .u64 0, .int .u32 0, .string ⟨#[]⟩] rfl rfl 64 _ hZ1 hi rfl ho ?_)
            exact bodyPost_ret (Cel.end_cell rfl _ _ _ _ _ hZ1 rfl Tryd.underlying64 rfl hi) rfl ⟨by rw [E.out]; rfl, below_setRow B1.out.1 (Nat.le_refl _) _⟩
  · have c1 : ((s.size : Int) != 128) = true := by simp; omega
    have c1' : (s.size != 128) = true := by simp [h1]
    have E := Aside0.mk (openS_len h1)
    go_enter Tryd.func47, Tryd.ntmps47
    go_wp2_with (refine wpList_store_row rfl 64 _ _ rfl w.heap.size #[.int .u8 0, .int .u64 0, .int .u32 0, .string ⟨#[]⟩] rfl rfl 64 _ hz hi rfl ho ?_)
    exact bodyPost_ret (Cel.end_cell rfl _ _ _ _ _ hz rfl Tryd.underlying64 rfl hi) rfl ⟨by rw [E.out]; rfl, below_setRow ((Below.refl _ _).alloc (Nat.le_refl _) _) (Nat.le_refl _) _⟩
end Go.Proofs.YtknbhgodhmcemaaDoor.Sl
namespace Go.Proofs.YtknbhgodhmcemaaDoor.Sl
set_option linter.unusedSimpArgs false
set_option linter.unusedVariables false
set_option maxRecDepth 100000
open Go.RowKit
def QC (w : World) (x : Array Value) (v : Value) (l : List UInt8) (W : World) : Prop :=
  Below w.heap.size w W ∧ W.heap[w.heap.size]? = some (.cells x 119 (0, 0)) ∧ W.ownsRow (w.heap.size + 1) 5 1 v l.length (Lib.byteCells l)
theorem QC.size {w W : World} {x : Array Value} {v : Value} {l : List UInt8} (h : QC w x v l W) : w.heap.size + 1 ≤ W.heap.size := (Array.getElem?_eq_some_iff.1 h.2.1).1
theorem QC.cell {w W : World} {x : Array Value} {v : Value} {l : List UInt8} (h : QC w x v l W) (j : Nat) : W.cell? ⟨w.heap.size, j, none⟩ = x[j]? := cell_of_row W _ j _ _ _ h.2.1
def lenOf : Value → Nat | .slice _ n _ => n | _ => 0
end Go.Proofs.YtknbhgodhmcemaaDoor.Sl
namespace Go.Proofs.YtknbhgodhmcemaaDoor.Sl
set_option linter.unusedSimpArgs false
set_option linter.unusedVariables false
set_option maxRecDepth 100000
open Go.RowKit
theorem bw_val (v n : Nat) : ∀ d, d ≤ n → val (bw v n d) = v / 256 ^ (n - d) % 256 ^ d
  | 0, _ => by simp [bw, val, Nat.mod_one]
  | d + 1, h => by
    rw [bw, val_snoc, bw_val v n d (by omega), show n - 1 - d = n - (d + 1) by omega]
    have e : n - d = n - (d + 1) + 1 := by omega
    rw [e, Nat.pow_succ, ← Nat.div_div_eq_div_mul]
    generalize v / 256 ^ (n - (d + 1)) = X
    rw [show (UInt8.ofNat X).toNat = X % 256 by simp [UInt8.toNat_ofNat], Nat.pow_succ, Nat.mul_comm (256 ^ d) 256, Nat.mod_mul]
    rw [Nat.mul_comm, Nat.add_comm]
theorem be_val {v n : Nat} (h : v < 256 ^ n) : val (be v n) = v := by
  rw [be, bw_val v n n (Nat.le_refl _), Nat.sub_self, Nat.pow_zero, Nat.div_one, Nat.mod_eq_of_lt h]
theorem low_lb (b : List UInt8) (hb : b.length = 124) (x : Nat) (hx : x < 4294967296) : low (b ++ lb x 4) 124 4 = x := by
  have g : ∀ i, (b ++ lb x 4).getD (124 + i) 0 = (lb x 4).getD i 0 := fun i => by
    rw [List.getD_eq_getElem?_getD, List.getElem?_append_right (by omega), hb, List.getD_eq_getElem?_getD, Nat.add_sub_cancel_left]
  simp only [low, g]
  simp [lb, UInt8.toNat_ofNat]
  omega
theorem ext_list (l : List UInt8) (a b : Nat) : ((⟨l.toArray⟩ : ByteArray).extract a b).data.toList = (l.take b).drop a := by
  rw [ByteArray.data_extract]
  rw [Array.toList_extract, List.drop_take]
theorem mid {a b c : List UInt8} {m n : Nat} (ha : a.length = m) (hb : m + b.length = n) : ((a ++ (b ++ c)).take n).drop m = b := by
  subst ha; subst hb
  rw [← List.append_assoc, List.take_append_of_le_length (by rw [List.length_append]; exact Nat.le_refl _), List.take_of_length_le (by rw [List.length_append]; omega), List.drop_left]
theorem at_mid {a c : List UInt8} {x : UInt8} {m : Nat} (ha : a.length = m) : (a ++ x :: c).getD m 0 = x := by
  subst ha
  rw [List.getD_eq_getElem?_getD, List.getElem?_append_right (Nat.le_refl _), Nat.sub_self]; rfl
theorem be1 (x : Nat) : be x 1 = [UInt8.ofNat x] := by simp [be, bw]
theorem head14_len (k g i n : Nat) : (head14 k g i n).length = 14 := by simp [head14, be_len]
theorem body_len (k g i : Nat) (d : List UInt8) (h : d.length ≤ 110) : (body k g i d).length = 124 := by simp [body, head14_len]; omega
theorem sum_zeros : sumN (List.replicate 124 0) ≠ 0 := by decide +kernel
theorem blank_iff (l : List UInt8) : blankB l = true ↔ l = List.replicate l.length 0 := by
  constructor
  · intro h
    rw [List.eq_replicate_iff]
    refine ⟨rfl, fun b hb => ?_⟩
    have := List.all_eq_true.1 h b hb
    simpa using this
  · intro h
    rw [blankB, List.all_eq_true]
    intro b hb
    rw [h] at hb
    simp [(List.mem_replicate.1 hb).2]
theorem blank_append (a b : List UInt8) : blankB (a ++ b) = (blankB a && blankB b) := List.all_append
theorem sector_not_blank (b : List UInt8) (hb : b.length = 124) : blankB (b ++ lb (sumN b) 4) = false := by
  cases h : blankB (b ++ lb (sumN b) 4) with
  | false => rfl
  | true =>
    rw [blank_append, Bool.and_eq_true] at h
    have h1 := (blank_iff b).1 h.1
    rw [hb] at h1
    have h2 := (blank_iff _).1 h.2
    have h3 : low (b ++ lb (sumN b) 4) 124 4 = 0 := by
      rw [h2, lb_len]
      have g : ∀ i, i < 4 → (b ++ List.replicate 4 (0 : UInt8)).getD (124 + i) 0 = 0 := fun i hi => by
        rw [List.getD_eq_getElem?_getD, List.getElem?_append_right (by omega), hb, Nat.add_sub_cancel_left, List.getElem?_replicate, if_pos hi]; rfl
      simp only [low, g 0 (by omega), g 1 (by omega), g 2 (by omega), g 3 (by omega)]
      rfl
    rw [low_lb b hb _ (sumN_lt b), h1] at h3
    exact absurd h3 sum_zeros
theorem open_sector (k g i : Nat) (d : ByteArray) (hk : k < 256) (hg : g < 18446744073709551616) (hi : i < 4294967296) (hd : d.size ≤ 110) :
    openS ⟨(sector k g i d.data.toList).toArray⟩ = (⟨k, g, i, d⟩, 0) := by
  have hdl : d.data.toList.length = d.size := by rw [Array.length_toList]; rfl
  have hbl : (body k g i d.data.toList).length = 124 := body_len _ _ _ _ (by omega)
  have hL : (⟨(sector k g i d.data.toList).toArray⟩ : ByteArray).data.toList = sector k g i d.data.toList := rfl
  have hsec : sector k g i d.data.toList = body k g i d.data.toList ++ lb (sumN (body k g i d.data.toList)) 4 := rfl
  have h1 : (⟨(sector k g i d.data.toList).toArray⟩ : ByteArray).size = 128 := by show (sector k g i d.data.toList).toArray.size = 128; rw [List.size_toArray]; exact sector_len k g i _ (by omega)
  have hex : ∀ a b, b ≤ 124 → ((⟨(sector k g i d.data.toList).toArray⟩ : ByteArray).extract a b).data.toList = ((body k g i d.data.toList).take b).drop a := fun a b hb => by
    rw [ext_list, hsec, List.take_append_of_le_length (by omega)]
  have e13 : (sector k g i d.data.toList).getD 13 0 = UInt8.ofNat d.size := by
    have e : sector k g i d.data.toList = (be k 1 ++ be g 8 ++ be i 4) ++ UInt8.ofNat d.size :: (d.data.toList ++ List.replicate (110 - d.size) 0 ++ lb (sumN (body k g i d.data.toList)) 4) := by
      rw [hsec]
      generalize lb (sumN (body k g i d.data.toList)) 4 = R
      rw [body, head14, be1 d.data.toList.length, hdl]
      simp [List.append_assoc]
    rw [e]; exact at_mid (by simp [be_len])
  have e0 : (sector k g i d.data.toList).getD 0 0 = UInt8.ofNat k := by
    rw [hsec, body, head14, be1 k]; rfl
  have t13 : ((sector k g i d.data.toList).getD 13 0).toNat = d.size := by rw [e13]; simp [UInt8.toNat_ofNat]; omega
  have t0 : ((sector k g i d.data.toList).getD 0 0).toNat = k := by rw [e0]; simp [UInt8.toNat_ofNat]; omega
  have b1 : ((body k g i d.data.toList).take 9).drop 1 = be g 8 := by
    rw [show body k g i d.data.toList = be k 1 ++ (be g 8 ++ (be i 4 ++ be d.data.toList.length 1 ++ d.data.toList ++ List.replicate (110 - d.data.toList.length) 0)) by rw [body, head14]; simp only [List.append_assoc]]
    exact mid (be_len _ _) (by rw [be_len])
  have b2 : ((body k g i d.data.toList).take 13).drop 9 = be i 4 := by
    rw [show body k g i d.data.toList = (be k 1 ++ be g 8) ++ (be i 4 ++ (be d.data.toList.length 1 ++ d.data.toList ++ List.replicate (110 - d.data.toList.length) 0)) by rw [body, head14]; simp only [List.append_assoc]]
    exact mid (by simp [be_len]) (by rw [be_len])
  have b3 : ((body k g i d.data.toList).take (14 + d.size)).drop 14 = d.data.toList := by
    rw [show body k g i d.data.toList = head14 k g i d.data.toList.length ++ (d.data.toList ++ (List.replicate (110 - d.data.toList.length) 0)) by rw [body]; simp only [List.append_assoc]]
    exact mid (head14_len _ _ _ _) (by rw [hdl])
  have b4 : ((body k g i d.data.toList).take 124).drop (14 + d.size) = List.replicate (110 - d.size) 0 := by
    rw [show body k g i d.data.toList = (head14 k g i d.data.toList.length ++ d.data.toList) ++ (List.replicate (110 - d.size) 0 ++ []) by rw [body, hdl]; simp only [List.append_assoc, List.append_nil]]
    exact mid (by rw [List.length_append, head14_len, hdl]) (by rw [List.length_replicate]; omega)
  have hda : (⟨(sector k g i d.data.toList).toArray⟩ : ByteArray).extract 14 (14 + d.size) = d := by
    apply ByteArray.ext
    apply Array.toList_inj.1
    rw [hex 14 (14 + d.size) (by omega), b3]
  rw [openS_ok h1 (by rw [hL]; exact sector_not_blank _ hbl) (by rw [hex 0 124 (by omega), List.drop_zero, List.take_of_length_le (by omega), hL, hsec, low_lb _ hbl _ (sumN_lt _)]) (by rw [hL, t13]; exact hd)
    (by rw [hL, t13, hex (14 + d.size) 124 (by omega), b4]; simp [blankB]), hL, t13, t0, hex 1 9 (by omega), hex 9 13 (by omega), b1, b2, be_val (by simpa using hg), be_val (by simpa using hi), hda]
theorem close_ok (k g i : Nat) (d : ByteArray) (hd : d.size ≤ 110) : closeS k g i d = (⟨(sector k g i d.data.toList).toArray⟩, 0) := by unfold closeS; rw [if_neg (by omega)]
end Go.Proofs.YtknbhgodhmcemaaDoor.Sl
namespace Go.Proofs.YtknbhgodhmcemaaDoor.Lg
set_option linter.unusedSimpArgs false
set_option linter.unusedVariables false
open Go.Proofs.YtknbhgodhmcemaaDoor.Dk Go.Proofs.YtknbhgodhmcemaaDoor.Sl
def sec (g i : Nat) (d : ByteArray) : ByteArray := ⟨(sector 1 g i d.data.toList).toArray⟩
def dead (g : Nat) (s : ByteArray) : Prop := ¬ ((openS s).2 = 0 ∧ (openS s).1.k = 1 ∧ (openS s).1.g = g)
def isRec (g i : Nat) (s : ByteArray) : Bool := decide ((openS s).2 = 0 ∧ (openS s).1.k = 1 ∧ (openS s).1.g = g ∧ (openS s).1.i = i)
def repl (rd : List ByteArray) (fr g : Nat) : Nat → Nat → List ByteArray
  | 0, _ => []
  | n + 1, i => if isRec g i (rd.getD (fr + i) ByteArray.empty) then (openS (rd.getD (fr + i) ByteArray.empty)).1.d :: repl rd fr g n (i + 1) else []
theorem dead_rec {g i : Nat} {s : ByteArray} (h : dead g s) : isRec g i s = false := decide_eq_false (fun e => h ⟨e.1, e.2.1, e.2.2.1⟩)
theorem dead_blank (g : Nat) : dead g (sect 0) := fun h => by
  have e : openS (sect 0) = (.zero, 16) := openS_blank (sect_size 0) (by decide +kernel)
  rw [e] at h
  exact absurd h.1 (by decide)
theorem sec_open (g i : Nat) (d : ByteArray) (hg : g < 18446744073709551616) (hi : i < 4294967296) (hd : d.size ≤ 110) : openS (sec g i d) = (⟨1, g, i, d⟩, 0) := open_sector 1 g i d (by decide) hg hi hd
theorem sec_rec (g i : Nat) (d : ByteArray) (hg : g < 18446744073709551616) (hi : i < 4294967296) (hd : d.size ≤ 110) : isRec g i (sec g i d) = true := by
  rw [isRec, sec_open g i d hg hi hd]; exact decide_eq_true ⟨rfl, rfl, rfl, rfl⟩
theorem sec_size (g i : Nat) (d : ByteArray) (hd : d.size ≤ 110) : (sec g i d).size = 128 := by
  show (sector 1 g i d.data.toList).toArray.size = 128
  rw [List.size_toArray]; exact sector_len _ _ _ _ (by rw [Array.length_toList]; exact hd)
theorem sec_close (g i : Nat) (d : ByteArray) (hd : d.size ≤ 110) : closeS 1 g i d = (sec g i d, 0) := close_ok 1 g i d hd
theorem applyW_cases (i : Nat) (e : ByteArray) : ∀ (ws : List Wt) (l : List ByteArray), (applyW l ws).getD i e = l.getD i e ∨ ∃ x ∈ ws, x.1 = i ∧ (applyW l ws).getD i e = x.2
  | [], l => .inl rfl
  | x :: r, l => by
    rw [applyW]
    rcases applyW_cases i e r (l.set x.1 x.2) with h | ⟨y, h1, h2, h3⟩
    · by_cases hx : x.1 = i
      · by_cases hi : i < l.length
        · refine .inr ⟨x, List.mem_cons_self, hx, h.trans ?_⟩
          rw [List.getD_eq_getElem?_getD, hx, List.getElem?_set_self hi]; rfl
        · refine .inl (h.trans ?_)
          rw [List.getD_eq_getElem?_getD, List.getD_eq_getElem?_getD, List.getElem?_eq_none (by rw [List.length_set]; omega), List.getElem?_eq_none (by omega)]
      · refine .inl (h.trans ?_)
        rw [List.getD_eq_getElem?_getD, List.getElem?_set_ne hx, List.getD_eq_getElem?_getD]
    · exact .inr ⟨y, List.mem_cons_of_mem _ h1, h2, h3⟩
structure LK (fr room g : Nat) (all : List ByteArray) (sure : Nat) (S : DS) : Prop where
  hl : fr + room ≤ S.lasts.length
  hn : all.length ≤ room
  hs : sure ≤ all.length
  sz : ∀ j, j < all.length → (all.getD j ByteArray.empty).size ≤ 110
  ok : S.ok
  A : ∀ x ∈ S.waits, fr ≤ x.1 → x.1 < fr + room → x.1 < fr + all.length ∧ x.2 = sec g (x.1 - fr) (all.getD (x.1 - fr) ByteArray.empty)
  Bs : ∀ j, j < sure → S.lasts.getD (fr + j) ByteArray.empty = sec g j (all.getD j ByteArray.empty)
  C : ∀ j, j < room → dead g (S.lasts.getD (fr + j) ByteArray.empty) ∨ (j < all.length ∧ S.lasts.getD (fr + j) ByteArray.empty = sec g j (all.getD j ByteArray.empty))
  D : ∀ j, j < all.length → S.read.getD (fr + j) ByteArray.empty = sec g j (all.getD j ByteArray.empty)
variable {fr room g : Nat} {all : List ByteArray} {sure : Nat} {S : DS}
theorem LK.some (h : LK fr room g all sure S) (ws : List Wt) (hw : ∀ x ∈ ws, x ∈ S.waits) (j : Nat) (hj : j < room) :
    (dead g ((applyW S.lasts ws).getD (fr + j) ByteArray.empty) ∨ (j < all.length ∧ (applyW S.lasts ws).getD (fr + j) ByteArray.empty = sec g j (all.getD j ByteArray.empty))) ∧
    (j < sure → (applyW S.lasts ws).getD (fr + j) ByteArray.empty = sec g j (all.getD j ByteArray.empty)) := by
  rcases applyW_cases (fr + j) ByteArray.empty ws S.lasts with e | ⟨x, h1, h2, h3⟩
  · rw [e]; exact ⟨h.C j hj, h.Bs j⟩
  · have hA := h.A x (hw x h1) (by omega) (by omega)
    rw [h2, Nat.add_sub_cancel_left] at hA
    rw [h3]
    exact ⟨.inr ⟨by omega, hA.2⟩, fun _ => hA.2⟩
theorem repl_prefix (rd : List ByteArray) (hg : g < 18446744073709551616) (hr : all.length ≤ 4294967295) (sz : ∀ j, j < all.length → (all.getD j ByteArray.empty).size ≤ 110) (hs : sure ≤ all.length)
    (H : ∀ j, j < room → (dead g (rd.getD (fr + j) ByteArray.empty) ∨ (j < all.length ∧ rd.getD (fr + j) ByteArray.empty = sec g j (all.getD j ByteArray.empty))) ∧ (j < sure → rd.getD (fr + j) ByteArray.empty = sec g j (all.getD j ByteArray.empty))) :
    ∀ (n i : Nat), i + n = room → i ≤ all.length → sure ≤ room → ∃ k, i + k ≤ all.length ∧ (sure ≤ i + k) ∧ repl rd fr g n i = (all.drop i).take k
  | 0, i, hin, hi, hsr => ⟨0, by omega, by omega, by rw [List.take_zero]; rfl⟩
  | n + 1, i, hin, hi, hsr => by
    obtain ⟨hc, hb⟩ := H i (by omega)
    rw [repl]
    by_cases hrec : i < all.length ∧ rd.getD (fr + i) ByteArray.empty = sec g i (all.getD i ByteArray.empty)
    · obtain ⟨k, k1, k2, k3⟩ := repl_prefix rd hg hr sz hs H n (i + 1) (by omega) (by omega) hsr
      refine ⟨k + 1, by omega, by omega, ?_⟩
      have hz := sz i hrec.1
      rw [hrec.2, sec_rec g i _ hg (by omega) hz, if_pos rfl, sec_open g i _ hg (by omega) hz, k3]
      have e : all.drop i = all.getD i ByteArray.empty :: all.drop (i + 1) := by
        rw [List.getD_eq_getElem?_getD, List.getElem?_eq_getElem hrec.1]
        exact List.drop_eq_getElem_cons hrec.1
      rw [e, List.take_succ_cons]
    · rcases hc with hd | hc
      · rw [dead_rec hd]
        refine ⟨0, by omega, ?_, by simp⟩
        by_cases hlt : i < sure
        · exact absurd ⟨by omega, hb hlt⟩ hrec
        · omega
      · exact absurd hc hrec
theorem keptW_sub (kp : Nat → Bool) (k : Nat) (l : List Wt) : ∀ x ∈ keptW kp k l, x ∈ l := fun x h => keptW_mem kp x l k h
theorem LK.crashed (h : LK fr room g all sure S) (hg : g < 18446744073709551616) (hr : all.length ≤ 4294967295) (kp : Nat → Bool) :
    ∃ m, sure ≤ m ∧ m ≤ all.length ∧ repl (S.crash kp).read fr g room 0 = all.take m := by
  have hR : (S.crash kp).read = applyW S.lasts (keptW kp 0 S.waits) := rfl
  rw [hR]
  obtain ⟨k, k1, k2, k3⟩ := repl_prefix (all := all) (sure := sure) (applyW S.lasts (keptW kp 0 S.waits)) hg hr h.sz h.hs (fun j hj => h.some _ (keptW_sub kp 0 S.waits) j hj) room 0 (by omega) (by omega) (Nat.le_trans h.hs h.hn)
  exact ⟨k, by omega, by omega, by rw [k3, List.drop_zero]⟩
theorem LK.arm (h : LK fr room g all sure S) (a : Int) : LK fr room g all sure { S with armed := a } := ⟨h.hl, h.hn, h.hs, h.sz, h.ok, h.A, h.Bs, h.C, h.D⟩
theorem LK.failed (h : LK fr room g all sure S) : LK fr room g all sure S.fails.1 := by
  unfold DS.fails; split
  · exact h
  · exact h.arm _
theorem LK.put (h : LK fr room g all sure S) (d : ByteArray) (hd : d.size ≤ 110) (hn : all.length < room) (o : Int) :
    LK fr room g (all ++ [d]) sure { S with waits := S.waits ++ [(fr + all.length, sec g all.length d)], ops := o } := by
  have ga : ∀ j, j < all.length → (all ++ [d]).getD j ByteArray.empty = all.getD j ByteArray.empty := fun j hj => by
    rw [List.getD_eq_getElem?_getD, List.getElem?_append_left hj, List.getD_eq_getElem?_getD]
  have gl : (all ++ [d]).getD all.length ByteArray.empty = d := by
    rw [List.getD_eq_getElem?_getD, List.getElem?_append_right (Nat.le_refl _), Nat.sub_self]; rfl
  have hl2 : (all ++ [d]).length = all.length + 1 := by simp
  have hl := h.hl
  have hs := h.hs
  refine ⟨h.hl, by rw [hl2]; omega, by rw [hl2]; omega, fun j hj => ?_, fun x hx => ?_, fun x hx h1 h2 => ?_, fun j hj => ?_, fun j hj => ?_, fun j hj => ?_⟩
  · by_cases e : j < all.length
    · rw [ga j e]; exact h.sz j e
    · rw [show j = all.length by omega, gl]; exact hd
  · rcases List.mem_append.1 hx with hx | hx
    · exact h.ok x hx
    · simp only [List.mem_singleton] at hx
      subst hx
      show fr + all.length < S.lasts.length
      omega
  · rcases List.mem_append.1 hx with hx | hx
    · obtain ⟨a1, a2⟩ := h.A x hx h1 h2
      refine ⟨by omega, ?_⟩
      rw [ga _ (by omega)]; exact a2
    · simp only [List.mem_singleton] at hx
      subst hx
      refine ⟨by show fr + all.length < fr + (all ++ [d]).length; omega, ?_⟩
      show sec g all.length d = sec g (fr + all.length - fr) ((all ++ [d]).getD (fr + all.length - fr) ByteArray.empty)
      rw [Nat.add_sub_cancel_left, gl]
  · rw [ga j (by omega)]; exact h.Bs j hj
  · rcases h.C j hj with e | ⟨e1, e2⟩
    · exact .inl e
    · refine .inr ⟨by omega, ?_⟩
      rw [ga j e1]; exact e2
  · show (applyW S.lasts (S.waits ++ [(fr + all.length, sec g all.length d)])).getD (fr + j) ByteArray.empty = _
    have hrl : (applyW S.lasts S.waits).length = S.lasts.length := applyW_len _ _
    rw [applyW_snoc]
    by_cases e : j < all.length
    · rw [ga j e, List.getD_eq_getElem?_getD, List.getElem?_set_ne (show fr + all.length ≠ fr + j by omega), ← List.getD_eq_getElem?_getD]
      exact h.D j e
    · have e2 : j = all.length := by omega
      subst e2
      rw [gl, List.getD_eq_getElem?_getD, List.getElem?_set_self (show fr + all.length < (applyW S.lasts S.waits).length by omega)]; rfl
theorem LK.settle (h : LK fr room g all sure S) (o : Int) : LK fr room g all all.length { S.crash (fun _ => true) with ops := o } := by
  have e : applyW S.lasts (keptW (fun _ => true) 0 S.waits) = S.read := by rw [keptW_all _ _ _ (fun _ _ _ => rfl)]; rfl
  refine ⟨?_, h.hn, Nat.le_refl _, h.sz, fun x (hx : x ∈ ([] : List Wt)) => absurd hx (by simp), fun x (hx : x ∈ ([] : List Wt)) => absurd hx (by simp), fun j hj => ?_, fun j hj => ?_, fun j hj => ?_⟩
  · show fr + room ≤ (applyW S.lasts (keptW (fun _ => true) 0 S.waits)).length
    rw [applyW_len]; exact h.hl
  · show (applyW S.lasts (keptW (fun _ => true) 0 S.waits)).getD (fr + j) ByteArray.empty = _
    rw [e]; exact h.D j hj
  · show dead g ((applyW S.lasts (keptW (fun _ => true) 0 S.waits)).getD (fr + j) ByteArray.empty) ∨ (j < all.length ∧ (applyW S.lasts (keptW (fun _ => true) 0 S.waits)).getD (fr + j) ByteArray.empty = sec g j (all.getD j ByteArray.empty))
    rw [e]
    exact (h.some S.waits (fun _ hx => hx) j hj).1
  · show (applyW (applyW S.lasts (keptW (fun _ => true) 0 S.waits)) []).getD (fr + j) ByteArray.empty = _
    rw [e]; exact h.D j hj
theorem put_cases (S : DS) (i : Nat) (s : ByteArray) (hi : i < S.lasts.length) (hs : s.size = 128) :
    (S.put (i : Int) s = (S.fails.1, 7) ∧ S.fails.2 = true) ∨ (S.put (i : Int) s = ({ S.fails.1 with waits := S.waits ++ [(i, s)], ops := S.ops + 1 }, 0) ∧ S.fails.2 = false) := by
  cases hf : S.fails.2 with
  | true => exact .inl ⟨put_fails ⟨by omega, by omega⟩ hs hf, rfl⟩
  | false => refine .inr ⟨?_, rfl⟩; rw [put_ok ⟨by omega, by omega⟩ hs hf, Int.toNat_natCast]
theorem fails_armed (S : DS) : (S.armed ≤ 0 → S.fails = (S, false)) ∧ S.fails.1.armed ≤ S.armed := by
  unfold DS.fails
  constructor
  · intro h; rw [if_pos h]
  · split
    · exact Int.le_refl _
    · show S.armed - 1 ≤ S.armed; omega
end Go.Proofs.YtknbhgodhmcemaaDoor.Lg
namespace Go.Proofs.YtknbhgodhmcemaaDoor.Lg
set_option linter.unusedSimpArgs false
set_option linter.unusedVariables false
set_option maxRecDepth 100000
open Go.RowKit Go.Proofs.YtknbhgodhmcemaaDoor.Own Go.Proofs.YtknbhgodhmcemaaDoor.Cel Go.Proofs.YtknbhgodhmcemaaDoor.Dk
def logV (fr room g nx : Nat) : Array Value := #[.int .i64 (fr : Nat), .int .i64 (room : Nat), .int .u64 (g : Nat), .int .i64 (nx : Nat)]
theorem logV_one (fr room g nx : Nat) : (logV fr room g nx).all (·.oneCell') = true := by
  rw [Array.all_eq_true_iff_forall_mem]
  intro v hv
  simp only [logV, List.mem_toArray, List.mem_cons, List.not_mem_nil, or_false] at hv
  rcases hv with rfl | rfl | rfl | rfl <;> rfl
theorem infoL : (Tryd.prog.info? 31).map (·.size) = some 4 := by kernel_rfl
variable {B p : Nat} {S : DS} {F : Nat → Prop} {W : World}
theorem may_calls (h : DK B p S F W) (fr room g nx : Nat) (hr : 1 ≤ room) (hl : fr + room ≤ S.lasts.length) (hN : S.lasts.length ≤ 1000000) :
    Calls Tryd.prog 46 #[.agg (logV fr room g nx), .pointer (some ⟨p, 0, none⟩)] W fun e W' => e = .returned (.bool true) ∧ Below W.heap.size W W' := by
  have hz : (W.alloc (.cells (logV fr room g nx) 31)).heap[W.heap.size]? = some (.cells (logV fr room g nx) 31 (0, 0)) := heap_alloc_new W _
  have c0 : (W.alloc (.cells (logV fr room g nx) 31)).cell? ⟨W.heap.size, 0, none⟩ = some (.int .i64 (fr : Nat)) := cell_of_row _ _ 0 _ _ _ hz
  have c1 : (W.alloc (.cells (logV fr room g nx) 31)).cell? ⟨W.heap.size, 1, none⟩ = some (.int .i64 (room : Nat)) := cell_of_row _ _ 1 _ _ _ hz
  have KS := Aside0.mk (fun n => size_calls ((h.below ((Below.refl _ _).alloc (Nat.le_refl _) (.cells (logV fr room g nx) 31))).keep (W' := ((W.alloc (.cells (logV fr room g nx) 31)).drewN n)) (fun _ _ => rfl)))
  have HB := Aside0.mk ((Below.refl W.heap.size W).alloc (Nat.le_refl _) (.cells (logV fr room g nx) 31))
  obtain ⟨n, hn⟩ : ∃ n, S.lasts.length = n := ⟨_, rfl⟩
  rw [hn] at KS hl hN
  have d1 : (0 : Int) ≤ (fr : Int) := by omega
  have d2 : (1 : Int) ≤ (room : Int) := by omega
  have d3 : (fr : Int) < (n : Int) := by omega
  have d4 : (room : Int) ≤ (n : Int) - (fr : Int) := by omega
  have hw : wrap64 ((n : Int) - (fr : Int)) = (n : Int) - (fr : Int) := by unfold wrap64; omega
  replace HB := Aside0.mk (fun q => HB.out.trans (show Below W.heap.size (W.alloc (.cells (logV fr room g nx) 31)) ((W.alloc (.cells (logV fr room g nx) 31)).drewN q) from ⟨rfl, rfl, rfl, Nat.le_refl _, fun _ _ => rfl⟩))
  clear h hz hn
  go_enter Tryd.func46, Tryd.ntmps46
  go_wp2_with fail
  go_quiet (first | (go_at_call 68; refine Calls.quiet_of_same ((KS.out _).mono fun e w' x => ⟨x.1, x.2.symm⟩)) | fail)
  go_wp2
  go_ret
  exact ⟨by first | rfl | (congr 2; simp [hw]; omega), HB.out _⟩
theorem full_calls (fr room g nx : Nat) (W : World) : Calls Tryd.prog 43 #[.agg (logV fr room g nx)] W fun e W' => e = .returned (.bool (decide (room ≤ nx))) ∧ Below W.heap.size W W' := by
  have hz : (W.alloc (.cells (logV fr room g nx) 31)).heap[W.heap.size]? = some (.cells (logV fr room g nx) 31 (0, 0)) := heap_alloc_new W _
  have c1 : (W.alloc (.cells (logV fr room g nx) 31)).cell? ⟨W.heap.size, 1, none⟩ = some (.int .i64 (room : Nat)) := cell_of_row _ _ 1 _ _ _ hz
  have c3 : (W.alloc (.cells (logV fr room g nx) 31)).cell? ⟨W.heap.size, 3, none⟩ = some (.int .i64 (nx : Nat)) := cell_of_row _ _ 3 _ _ _ hz
  have HB := Aside0.mk ((Below.refl W.heap.size W).alloc (Nat.le_refl _) (.cells (logV fr room g nx) 31))
  have e : decide ((room : Int) ≤ (nx : Int)) = decide (room ≤ nx) := by simp
  obtain ⟨b, hb⟩ : ∃ b, decide (room ≤ nx) = b := ⟨_, rfl⟩
  rw [hb] at e ⊢
  have e2 : decide (room ≤ nx) = b := hb
  clear hz hb
  go_enter Tryd.func43, Tryd.ntmps43
  go_wp2
  go_ret
  exact ⟨rfl, HB.out⟩
end Go.Proofs.YtknbhgodhmcemaaDoor.Lg
