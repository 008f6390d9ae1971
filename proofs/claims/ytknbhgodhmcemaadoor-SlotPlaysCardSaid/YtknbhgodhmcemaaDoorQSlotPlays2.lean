/- Texts of the seat, as far as the row needs them. -/
import Derived.Below
import Derived.BigQuiet
import Derived.Deep.CutBlock
import Derived.Deep.DeepCutAuto
import Derived.Deep.DeepFit
import Derived.Deep.Light
import Derived.Deep.LoopGhost
import Derived.Deep.QuietTactic
import Derived.Deep.RegionHeld3
import Derived.Ground.Names2Prog
import Derived.Laws.AppendOwn
import Derived.Laws.BitsAllLaws
import Derived.Laws.BitsLemmas
import Derived.Laws.CopyOwn
import Derived.Laws.Externs
import Derived.Laws.IdiomCopy
import Derived.Laws.IdiomStrings
import Derived.Laws.OwnMore
import Derived.Laws.ResultCell
import Derived.Laws.Rows
import Derived.Laws.StructEq
import Derived.Laws.Tables
import Derived.Lib.AppendStr
import Derived.Lib.FrozenHead2
import Derived.Lib.OthersKept
import Derived.Lib.RepeatB
import Derived.Lib.TrimByte
import Derived.Lib.UnsafeStr
import Derived.LoopIn
import Derived.LoopNIn
import Derived.Maps.Own
import Derived.Maps.OwnOps
import Derived.Maps.OwnSet
import Derived.Maps.Views
import Derived.OrdersHeld
import Derived.Outline
import Derived.OwnWalk
import Derived.OwnWalkIn
import Derived.RangeFuncBound
import Derived.RangeFuncCalls
import Derived.RangeFuncLeaves
import Derived.RangeFuncNested
import Derived.Shelf.Abstract
import Derived.Shelf.Bits.Mul64
import Derived.Shelf.RegionOpen
import Derived.Shelf.Slices.Clone
import Derived.Shelf.Small.Strs
import Derived.Shelf.Small.Utf8
import Derived.Shelf.Strings.AsciiSet
import Derived.Shelf.Strings.Builder1
import Derived.Shelf.Strings.Builder2
import Derived.Shelf.Strings.Builder2Cap
import Derived.Shelf.Strings.BuilderCap
import Derived.Shelf.Strings.BuilderF
import Derived.Shelf.Strings.BuilderK
import Derived.Shelf.Strings.Prefix
import Derived.Shelf.Strings.Repeat
import Derived.Shelf.Strings.Runes
import Derived.Shelf.Strings.Search1
import Derived.Shelf.Strings.Trim
import Derived.Shelf.Unicode.DecodeSlow
import Derived.StillTailTactics
import Derived.TacticsInMore
import Derived.Test.YtknbhgodhmcemaaDoorProg
import Derived.WalkKit
import Derived.WalkMore
import Derived.Test.YtknbhgodhmcemaaDoorQSlotPlays0
import Derived.Test.YtknbhgodhmcemaaDoorQSlotPlays1
set_option linter.unusedVariables false
set_option linter.unusedSimpArgs false
namespace Go.Proofs.YtknbhgodhmcemaaDoor.Dk
set_option linter.unusedSimpArgs false
set_option linter.unusedVariables false
set_option maxRecDepth 100000
open Go.RowKit Go.Proofs.YtknbhgodhmcemaaDoor.Own Go.Proofs.YtknbhgodhmcemaaDoor.Cel
theorem owns_pair {W : World} {B g n c : Nat} {ws : List Wt} (h : W.ownsRow B 130 2 (.slice (some ⟨g, 0, none⟩) n c) ws.length (wcells ws)) (j : Nat) (hj : j < ws.length) :
    W.cell? ⟨g, j * 2, none⟩ = some (.int .i64 ((ws[j]'hj).1 : Nat)) ∧ W.cell? ⟨g, j * 2 + 1, none⟩ = some (.string (ws[j]'hj).2) := by
  have e0 := wcells_get0 ws j hj
  have e1 := wcells_get1 ws j hj
  have hc := h.cells (g := g) rfl
  have k0 := hc _ _ e0
  have k1 := hc _ _ e1
  rw [Nat.mul_comm j 2]
  rw [Seg.addr_add, Nat.zero_add] at k0 k1
  exact ⟨k0, k1⟩
theorem take_snoc (ws : List Wt) (j : Nat) (hj : j < ws.length) : ws.take (j + 1) = ws.take j ++ [ws[j]'hj] := by rw [List.take_succ_eq_append_getElem hj]
theorem kept_step (kp : Nat → Bool) (ws : List Wt) (ls : List ByteArray) (j : Nat) (hj : j < ws.length) :
    applyW ls (keptW kp 0 (ws.take (j + 1))) = if kp j then (applyW ls (keptW kp 0 (ws.take j))).set (ws[j]'hj).1 (ws[j]'hj).2 else applyW ls (keptW kp 0 (ws.take j)) := by
  rw [take_snoc ws j hj, keptW_snoc, Nat.zero_add, List.length_take, Nat.min_eq_left (by omega)]
  cases kp j
  · simp
  · simp [applyW_snoc]
theorem copy_step (src : List ByteArray) (ws : List Wt) (l : List ByteArray) (j : Nat) (hj : j < ws.length) :
    copyW src l (ws.take (j + 1)) = (copyW src l (ws.take j)).set (ws[j]'hj).1 (src.getD (ws[j]'hj).1 ByteArray.empty) := by
  rw [take_snoc ws j hj, copyW_snoc]
theorem clear_run {W : World} {mb n : Nat} {D : DataW Unit} (h : W.ownsMap Tryd.prog 3 (plainElem Tryd.prog 3) mb n D) :
    ∃ W', (∀ ty, (Builtin.clear_ #[89] ty #[.map (some mb)]).run Tryd.prog W = .ok (.tuple #[]) W') ∧ W.grownBy W' (some mb) ∧ W'.ownsMap (H := Unit) Tryd.prog 3 (plainElem Tryd.prog 3) mb 0 (.map []) := by
  obtain ⟨es, clock, hb, _⟩ := h
  have hlt := (Array.getElem?_eq_some_iff.1 hb).1
  refine ⟨{ W with heap := W.heap.setIfInBounds mb (.map #[] clock) }, fun ty => ?_, ⟨rfl, rfl, rfl, by simp, fun k hk hn => ?_⟩, ?_⟩
  · have hu := run_underlying Tryd.underlying89 W
    simp [Builtin.clear_, run_underlying Tryd.underlying89, Go.MapKept.run_getObj_map hb, Go.MapKept.run_setObj_map _ hb, Result.andThen]
  · show (W.heap.setIfInBounds mb (.map #[] clock))[k]? = _
    rw [Array.getElem?_setIfInBounds_ne (fun e => hn (by rw [e]))]
  · refine ⟨#[], clock, ?_, ⟨by simp, Go.MapKept.stamped_empty clock, by simp⟩, Nat.le_refl _, rfl⟩
    show (W.heap.setIfInBounds mb (.map #[] clock))[mb]? = _
    rw [Array.getElem?_setIfInBounds_self_of_lt hlt]
def SB (p bx lb M : Nat) (bc xc : Array Value) (V : World) : Prop :=
  V.heap[p]? = some (.cells bc 92 (0, 0)) ∧ V.heap[bx]? = some (.cells xc 130 (0, 0)) ∧ ∃ cur, V.heap[lb]? = some (.cells cur 9 (0, 0)) ∧ M ≤ cur.size
def SB2 (p bx lb rb M xi : Nat) (bc xc cl : Array Value) (y : ByteArray) (V : World) : Prop :=
  V.heap[p]? = some (.cells bc 92 (0, 0)) ∧ V.heap[bx]? = some (.cells xc 130 (0, 0)) ∧ V.heap[lb]? = some (.cells cl 9 (0, 0)) ∧ cl[xi]? = some (.string y) ∧ ∃ cur, V.heap[rb]? = some (.cells cur 9 (0, 0)) ∧ M ≤ cur.size
variable {B p : Nat} {S : DS} {F : Nat → Prop} {W : World}
set_option maxHeartbeats 2000000 in
theorem settle_sync (h : DK B p S F W) (hok : S.ok) (hn : S.waits.length ≤ 1000000) (kp : Nat → Bool)
    (HK0 : ∀ V, Only (Big F W) W V → ∀ j : Nat, j < S.waits.length → Calls Tryd.prog 53 #[.int .i64 (j : Nat)] V fun e w' => e = .returned (.bool (kp j)) ∧ V = w') :
    Calls Tryd.prog 48 #[.pointer (some ⟨p, 0, none⟩), .func (.func 53) #[] #[]] W fun e W' => e = .returned (.tuple #[]) ∧ Did B p (S.crash kp) F W W' := by
  have HK := Aside0.mk HK0
  clear HK0
  obtain ⟨lb, lc, rb, rc, mb, wv, hd, hFP⟩ := h
  have d1 := hd.cell 1
  obtain ⟨A, wc, rfl⟩ := owns_slice hd.hw
  have HD := Aside0.mk hd
  have HFP := Aside0.mk hFP
  have HO := Aside0.mk hok
  obtain ⟨n, hnn⟩ : ∃ n, S.waits.length = n := ⟨_, rfl⟩
  have HNN := Aside0.mk hnn
  rw [hnn] at hn d1 HK HD HFP
  clear hd hFP hok hnn
  go_enter Tryd.func48, Tryd.ntmps48
  go_wp2_with fail
  clear d1
  go_loopw [13] (fun i V => ∃ (j : Nat), i = .int .i64 j ∧ j ≤ n ∧ Aside0 (DR B p lb lc rb rc mb (.slice A n wc) (applyW S.lasts (keptW kp 0 (S.waits.take j))) S.read S.waits (fun i => cnt i S.waits) n S.armed S.ops V ∧ Only (Big F W) W V)) (fun i _ => n - (intOf i).toNat)
  case atStart => exact ⟨0, rfl, by omega, ⟨by simpa [keptW, applyW] using HD.out, Only.refl _ _⟩⟩
  case round =>
    obtain ⟨j, rfl, hj, HS⟩ := hrel
    by_cases hlt : j < n
    · have hj1 : (j : Int) < (n : Int) := by omega
      have hjw : j < S.waits.length := by rw [HNN.out]; exact hlt
      rcases HS.out.1.hw.2 with ⟨e, e2⟩ | ⟨g, cap, cur0, e, e4⟩
      · exact absurd e2 (by omega)
      simp only [Value.slice.injEq] at e
      obtain ⟨rfl, e5, rfl⟩ := e
      clear e5 e4 cur0
      obtain ⟨p0, p1⟩ := owns_pair HS.out.1.hw j hjw
      obtain ⟨xi, hxi⟩ : ∃ x, (S.waits[j]'hjw).1 = x := ⟨_, rfl⟩
      obtain ⟨xs, hxs⟩ : ∃ x, (S.waits[j]'hjw).2 = x := ⟨_, rfl⟩
      rw [hxi] at p0
      rw [hxs] at p1
      have hxl : xi < S.lasts.length := by rw [← hxi]; exact HO.out _ (List.getElem_mem hjw)
      have KS := Aside0.mk (kept_step kp S.waits S.lasts j hjw)
      rw [hxi, hxs] at KS
      clear hxi hxs HD
      have hxb : xi < (applyW S.lasts (keptW kp 0 (S.waits.take j))).length := by rw [applyW_len]; exact hxl
      have hbw : Below wr.heap.size wr (wr.alloc (.cells #[.int .i64 (xi : Nat), .string xs] 130)) := (Below.refl _ _).alloc (Nat.le_refl _) _
      have hO := HS.out.2.big_trans (only_below hbw).big
      have hD := HS.out.1.below hbw
      have hbx := heap_alloc_new wr (.cells #[.int .i64 (xi : Nat), .string xs] 130)
      have KC := Aside0.mk (HK.out _ hO j hlt)
      have NB := Aside0.mk (show wr.heap.size ≠ p ∧ wr.heap.size ≠ lb from ⟨by have := (HS.out.1.lt (.inl rfl)).2; omega, by have := (HS.out.1.lt (.inr (.inr (.inl rfl)))).2; omega⟩)
      have HDO := Aside0.mk (And.intro hD (And.intro hO hbx))
      clear hbw hO hD hbx HS hxl
      go_wp2_with fail
      clear p0 p1
      generalize (wr.alloc (.cells #[.int .i64 (xi : Nat), .string xs] 130)) = V1 at KC HDO ⊢
      obtain ⟨bx, hbx⟩ : ∃ b, wr.heap.size = b := ⟨_, rfl⟩
      rw [hbx] at HDO NB ⊢
      obtain ⟨L, hL⟩ : ∃ l, applyW S.lasts (keptW kp 0 (S.waits.take j)) = l := ⟨_, rfl⟩
      rw [hL] at HDO KS hxb
      clear hbx hL
      refine KC.out.mono ?_
      rintro x v1 ⟨rfl, rfl⟩
      clear KC
      cases hkj : kp j with
      | false =>
        rw [hkj] at KS
        have HN := Aside0.mk (show DR B p lb lc rb rc mb (.slice (some ⟨g, 0, none⟩) n wc) (applyW S.lasts (keptW kp 0 (S.waits.take (j + 1)))) S.read S.waits (fun i => cnt i S.waits) n S.armed S.ops V1 ∧ Only (Big F W) W V1 from by
          rw [KS.out, if_neg (by decide)]; exact ⟨HDO.out.1, HDO.out.2.1⟩)
        clear hkj KS HDO NB
        go_wp2
        go_roundw
        case rel => exact ⟨j + 1, by go_num, by omega, HN⟩
        case measure => simp [intOf]; omega
      | true =>
        rw [hkj, if_pos rfl] at KS
        clear hkj
        obtain ⟨M, hM⟩ : ∃ m, L.length = m := ⟨_, rfl⟩
        have c0 := HDO.out.1.box
        rw [hM] at c0 hxb
        obtain ⟨curL, hcl, hls⟩ : ∃ cur, V1.heap[lb]? = some (.cells cur 9 (0, 0)) ∧ M ≤ cur.size := by
          rcases HDO.out.1.hl.2 with ⟨e, _⟩ | ⟨g', cap, cur, e, _, hg, hc1, _, hc3, _⟩
          · cases e
          · simp only [Value.slice.injEq, Option.some.injEq, Addr.mk.injEq] at e
            obtain ⟨⟨rfl, _⟩, _⟩ := e
            exact ⟨cur, hg, by omega⟩
        have hxb' : (xi : Int) < (M : Int) := by omega
        go_wp2_with fail
        refine wp_region_held_drew (S := fun V => SB p bx lb M #[.slice (some ⟨lb, 0, none⟩) M lc, .slice (some ⟨g, 0, none⟩) n wc, .map (some mb), .int .i64 S.armed, .int .i64 S.ops, .slice (some ⟨rb, 0, none⟩) M rc] #[.int .i64 (xi : Nat), .string xs] V) (by kernel_rfl) ⟨c0, HDO.out.2.2, curL, hcl, hls⟩ (fun hH => ?_)
        refine take_at (i := 0) (some 21) (.pointer (some ⟨p, 0, none⟩)) rfl rfl (by kernel_rfl) (by kernel_rfl) (by kernel_rfl) (fun _ _ _ h => h) (Or.inl ⟨by rfl, fun w hSw => by go_simp⟩) hH ?_
        refine take_at (i := 1) (some 22) (.pointer (some ⟨p, 0, none⟩)) rfl rfl (by kernel_rfl) (by kernel_rfl) (by kernel_rfl) (fun _ _ _ h => h) (Or.inl ⟨by rfl, fun w hSw => by go_simp⟩) hH ?_
        try simp only [Act.put, List.setIfInBounds_toArray, List.set_cons_zero, List.set_cons_succ]
        refine take_at (i := 2) (some 23) (.pointer (some ⟨p, 0, none⟩)) rfl rfl (by kernel_rfl) (by kernel_rfl) (by kernel_rfl) (fun _ _ _ h => h) (Or.inl ⟨by rfl, fun w hSw => by go_simp⟩) hH ?_
        refine take_at (i := 3) (some 24) (.slice (some ⟨lb, 0, none⟩) M lc) rfl rfl (by kernel_rfl) (by kernel_rfl) (by kernel_rfl) (fun _ _ _ h => h) (Or.inl ⟨by rfl, fun w hSw => by have e := cell_of_row w p 0 _ _ _ hSw.1; clear hSw; go_simp⟩) hH ?_
        try simp only [Act.put, List.setIfInBounds_toArray, List.set_cons_zero, List.set_cons_succ]
        refine take_at (i := 4) (some 25) (.pointer (some ⟨bx, 0, none⟩)) rfl rfl (by kernel_rfl) (by kernel_rfl) (by kernel_rfl) (fun _ _ _ h => h) (Or.inl ⟨by rfl, fun w hSw => by go_simp⟩) hH ?_
        refine take_at (i := 5) (some 26) (.int .i64 (xi : Nat)) rfl rfl (by kernel_rfl) (by kernel_rfl) (by kernel_rfl) (fun _ _ _ h => h) (Or.inl ⟨by rfl, fun w hSw => by have e := cell_of_row w bx 0 _ _ _ hSw.2.1; clear hSw; go_simp⟩) hH ?_
        try simp only [Act.put, List.setIfInBounds_toArray, List.set_cons_zero, List.set_cons_succ]
        refine take_at (i := 6) (some 27) (.pointer (some ⟨bx, 1, none⟩)) rfl rfl (by kernel_rfl) (by kernel_rfl) (by kernel_rfl) (fun _ _ _ h => h) (Or.inl ⟨by rfl, fun w hSw => by go_simp⟩) hH ?_
        refine take_at (i := 7) (some 28) (.string xs) rfl rfl (by kernel_rfl) (by kernel_rfl) (by kernel_rfl) (fun _ _ _ h => h) (Or.inl ⟨by rfl, fun w hSw => by have e := cell_of_row w bx 1 _ _ _ hSw.2.1; clear hSw; go_simp⟩) hH ?_
        try simp only [Act.put, List.setIfInBounds_toArray, List.set_cons_zero, List.set_cons_succ]
        refine take_at (i := 8) (some 29) (.pointer (some ⟨lb, xi, none⟩)) rfl rfl (by kernel_rfl) (by kernel_rfl) (by kernel_rfl) (fun _ _ _ h => h) (Or.inl ⟨by rfl, fun w hSw => by go_simp⟩) hH ?_
        try simp only [Act.put, List.setIfInBounds_toArray, List.set_cons_zero, List.set_cons_succ]
        have HV0 := Aside0.mk (And.intro (HDO.out.1.keep (W' := V1.drew) (fun _ _ => rfl)) (HDO.out.2.1.big_trans (only_below ((Below.refl _ V1).drew)).big))
        have BXH := Aside0.mk (show V1.drew.heap[bx]? = some (.cells #[.int .i64 (xi : Nat), .string xs] 130 (0, 0)) from HDO.out.2.2)
        clear HDO c0 hcl hls curL
        generalize V1.drew = V0 at hH HV0 BXH ⊢
        obtain ⟨hp, hb, cur, hl, hls⟩ := hH
        obtain ⟨u, hu⟩ : ∃ u, V0.cell? ⟨lb, xi, none⟩ = some u := ⟨_, (cell_of_row V0 lb xi _ _ _ hl).trans (Array.getElem?_eq_getElem (by omega))⟩
        have hfz : V0.frozen? ⟨lb, xi, none⟩ = false := frozen_of_row V0 lb xi _ _ hl
        have hnx := heap_setCell_same V0 lb xi cur _ (.string xs) hl
        have so : ∀ k, k ≠ lb → (V0.setCell ⟨lb, xi, none⟩ (.string xs)).heap[k]? = V0.heap[k]? := fun k hk => set_other _ _ _ _ hk
        have hS2 : SB p bx lb M #[.slice (some ⟨lb, 0, none⟩) M lc, .slice (some ⟨g, 0, none⟩) n wc, .map (some mb), .int .i64 S.armed, .int .i64 S.ops, .slice (some ⟨rb, 0, none⟩) M rc] #[.int .i64 (xi : Nat), .string xs] (V0.setCell ⟨lb, xi, none⟩ (.string xs)) := ⟨(so p HV0.out.1.p_lb).trans hp, (so bx NB.out.2).trans hb, _, hnx, by simpa using hls⟩
        refine wpAnyH_ready (rs := [9]) (by kernel_rfl) (by simp) (AllReadyH.cons rfl (fun K hK => ?_) AllReadyH.nil)
        clear so hnx hp hb hl hls
        go_simp
        refine hK.out _ _ hS2 (fun hH => ?_)
        clear hK K hS2 hu hfz
        refine wpAnyH_done (by kernel_rfl) ?_ _
        try simp only [Act.put, List.setIfInBounds_toArray, List.set_cons_zero, List.set_cons_succ]
        have HN := Aside0.mk (show DR B p lb lc rb rc mb (.slice (some ⟨g, 0, none⟩) n wc) (applyW S.lasts (keptW kp 0 (S.waits.take (j + 1)))) S.read S.waits (fun i => cnt i S.waits) n S.armed S.ops (V0.setCell ⟨lb, xi, none⟩ (.string xs)) ∧ Only (Big F W) W (V0.setCell ⟨lb, xi, none⟩ (.string xs)) from by
          rw [KS.out]
          exact ⟨HV0.out.1.setL xi xs, HV0.out.2.big_trans (only_set (F := F) ⟨lb, xi, none⟩ (.string xs) ((HFP.out lb).2 (.inr (.inr (.inl rfl))))).big⟩)
        clear hH HV0 BXH KS NB
        go_wp2
        go_roundw
        case rel => exact ⟨j + 1, by go_num, by omega, HN⟩
        case measure => simp [intOf]; omega
    · obtain rfl : j = n := by omega
      have H1 := Aside0.mk HS.out
      have d1 := HS.out.1.cell 1
      have e0 : S.waits.take j = S.waits := List.take_of_length_le (by rw [HNN.out]; exact Nat.le_refl _)
      rw [e0] at H1
      obtain ⟨L, hL⟩ : ∃ l, applyW S.lasts (keptW kp 0 S.waits) = l := ⟨_, rfl⟩
      have HL := Aside0.mk hL
      rw [hL] at H1
      have hll : L.length = S.lasts.length := by rw [← hL, applyW_len]
      have HLL := Aside0.mk hll
      clear HS e0 hL hll hlt hj HK HD
      go_wp2_with fail
      clear d1
      go_loopw [36] (fun i V => ∃ (k : Nat), i = .int .i64 k ∧ k ≤ j ∧ Aside0 (DR B p lb lc rb rc mb (.slice A j wc) L (copyW L S.read (S.waits.take k)) S.waits (fun i => cnt i S.waits) j S.armed S.ops V ∧ Only (Big F W) W V)) (fun i _ => j - (intOf i).toNat)
      case atStart => exact ⟨0, rfl, by omega, ⟨by simpa [copyW] using H1.out⟩⟩
      case round =>
        obtain ⟨k, rfl, hk, HS⟩ := hrel
        clear H1
        by_cases hlt : k < j
        · have hk1 : (k : Int) < (j : Int) := by omega
          have hkw : k < S.waits.length := by rw [HNN.out]; exact hlt
          rcases HS.out.1.hw.2 with ⟨e, e2⟩ | ⟨g, cap, cur0, e, e4⟩
          · exact absurd e2 (by omega)
          simp only [Value.slice.injEq] at e
          obtain ⟨rfl, e5, rfl⟩ := e
          clear e5 e4 cur0
          obtain ⟨p0, p1⟩ := owns_pair HS.out.1.hw k hkw
          obtain ⟨xi, hxi⟩ : ∃ x, (S.waits[k]'hkw).1 = x := ⟨_, rfl⟩
          obtain ⟨xs, hxs⟩ : ∃ x, (S.waits[k]'hkw).2 = x := ⟨_, rfl⟩
          rw [hxi] at p0
          rw [hxs] at p1
          have hxl : xi < L.length := by rw [HLL.out, ← hxi]; exact HO.out _ (List.getElem_mem hkw)
          have KS := Aside0.mk (copy_step L S.waits S.read k hkw)
          rw [hxi] at KS
          clear hxi hxs
          have hbw : Below wr.heap.size wr (wr.alloc (.cells #[.int .i64 (xi : Nat), .string xs] 130)) := (Below.refl _ _).alloc (Nat.le_refl _) _
          have hO := HS.out.2.big_trans (only_below hbw).big
          have hD := HS.out.1.below hbw
          have hbx := heap_alloc_new wr (.cells #[.int .i64 (xi : Nat), .string xs] 130)
          have NB := Aside0.mk (show wr.heap.size ≠ p ∧ wr.heap.size ≠ rb from ⟨by have := (HS.out.1.lt (.inl rfl)).2; omega, by have := (HS.out.1.lt (.inr (.inr (.inr (.inl rfl))))).2; omega⟩)
          have HDO := Aside0.mk (And.intro hD (And.intro hO hbx))
          clear hbw hO hD hbx HS
          go_wp2_with fail
          clear p0 p1
          generalize wr.alloc (.cells #[.int .i64 (xi : Nat), .string xs] 130) = V1 at HDO ⊢
          obtain ⟨bx, hbx⟩ : ∃ b, wr.heap.size = b := ⟨_, rfl⟩
          rw [hbx] at HDO NB ⊢
          clear hbx
          obtain ⟨M, hM⟩ : ∃ m, L.length = m := ⟨_, rfl⟩
          have c0 := HDO.out.1.box
          rw [hM] at c0 hxl
          obtain ⟨y, hy⟩ : ∃ y, L[xi]'(by rw [hM]; exact hxl) = y := ⟨_, rfl⟩
          obtain ⟨cl, hcl, hcy⟩ : ∃ cur, V1.heap[lb]? = some (.cells cur 9 (0, 0)) ∧ cur[xi]? = some (.string y) := by
            obtain ⟨cur, h1, _⟩ := HDO.out.1.lb_at
            refine ⟨cur, h1, ?_⟩
            have := HDO.out.1.hl.cellAt xi (by omega)
            rw [cell_of_row V1 lb xi _ _ _ h1, strs_get _ _ (by rw [hM]; exact hxl), hy] at this
            exact this
          obtain ⟨cr, hcr, hrs⟩ : ∃ cur, V1.heap[rb]? = some (.cells cur 9 (0, 0)) ∧ M ≤ cur.size := by
            rcases HDO.out.1.hr.2 with ⟨e, _⟩ | ⟨g', cap, cur, e, _, hg, hc1, _, hc3, _⟩
            · cases e
            · simp only [Value.slice.injEq, Option.some.injEq, Addr.mk.injEq] at e
              obtain ⟨⟨rfl, _⟩, _⟩ := e
              exact ⟨cur, hg, by omega⟩
          have KY := Aside0.mk (show L.getD xi ByteArray.empty = y by rw [List.getD_eq_getElem?_getD, List.getElem?_eq_getElem (by rw [hM]; exact hxl), hy]; rfl)
          have hxb' : (xi : Int) < (M : Int) := by omega
          have HM := Aside0.mk hM
          clear hM hy
          refine wp_region_held_drew (S := fun V => SB2 p bx lb rb M xi #[.slice (some ⟨lb, 0, none⟩) M lc, .slice (some ⟨g, 0, none⟩) j wc, .map (some mb), .int .i64 S.armed, .int .i64 S.ops, .slice (some ⟨rb, 0, none⟩) M rc] #[.int .i64 (xi : Nat), .string xs] cl y V) (by kernel_rfl) ⟨c0, HDO.out.2.2, hcl, hcy, cr, hcr, hrs⟩ (fun hH => ?_)
          refine take_at (i := 0) (some 40) (.pointer (some ⟨p, 0, none⟩)) rfl rfl (by kernel_rfl) (by kernel_rfl) (by kernel_rfl) (fun _ _ _ h => h) (Or.inl ⟨by rfl, fun w hSw => by go_simp⟩) hH ?_
          refine take_at (i := 1) (some 41) (.pointer (some ⟨p, 0, none⟩)) rfl rfl (by kernel_rfl) (by kernel_rfl) (by kernel_rfl) (fun _ _ _ h => h) (Or.inl ⟨by rfl, fun w hSw => by go_simp⟩) hH ?_
          try simp only [Act.put, List.setIfInBounds_toArray, List.set_cons_zero, List.set_cons_succ]
          refine take_at (i := 2) (some 42) (.pointer (some ⟨p, 5, none⟩)) rfl rfl (by kernel_rfl) (by kernel_rfl) (by kernel_rfl) (fun _ _ _ h => h) (Or.inl ⟨by rfl, fun w hSw => by go_simp⟩) hH ?_
          refine take_at (i := 3) (some 43) (.slice (some ⟨rb, 0, none⟩) M rc) rfl rfl (by kernel_rfl) (by kernel_rfl) (by kernel_rfl) (fun _ _ _ h => h) (Or.inl ⟨by rfl, fun w hSw => by have e := cell_of_row w p 5 _ _ _ hSw.1; clear hSw; go_simp⟩) hH ?_
          try simp only [Act.put, List.setIfInBounds_toArray, List.set_cons_zero, List.set_cons_succ]
          refine take_at (i := 4) (some 44) (.pointer (some ⟨bx, 0, none⟩)) rfl rfl (by kernel_rfl) (by kernel_rfl) (by kernel_rfl) (fun _ _ _ h => h) (Or.inl ⟨by rfl, fun w hSw => by go_simp⟩) hH ?_
          refine take_at (i := 5) (some 45) (.int .i64 (xi : Nat)) rfl rfl (by kernel_rfl) (by kernel_rfl) (by kernel_rfl) (fun _ _ _ h => h) (Or.inl ⟨by rfl, fun w hSw => by have e := cell_of_row w bx 0 _ _ _ hSw.2.1; clear hSw; go_simp⟩) hH ?_
          try simp only [Act.put, List.setIfInBounds_toArray, List.set_cons_zero, List.set_cons_succ]
          refine take_at (i := 6) (some 46) (.pointer (some ⟨p, 0, none⟩)) rfl rfl (by kernel_rfl) (by kernel_rfl) (by kernel_rfl) (fun _ _ _ h => h) (Or.inl ⟨by rfl, fun w hSw => by go_simp⟩) hH ?_
          refine take_at (i := 7) (some 47) (.pointer (some ⟨p, 0, none⟩)) rfl rfl (by kernel_rfl) (by kernel_rfl) (by kernel_rfl) (fun _ _ _ h => h) (Or.inl ⟨by rfl, fun w hSw => by go_simp⟩) hH ?_
          try simp only [Act.put, List.setIfInBounds_toArray, List.set_cons_zero, List.set_cons_succ]
          refine take_at (i := 8) (some 48) (.pointer (some ⟨p, 0, none⟩)) rfl rfl (by kernel_rfl) (by kernel_rfl) (by kernel_rfl) (fun _ _ _ h => h) (Or.inl ⟨by rfl, fun w hSw => by go_simp⟩) hH ?_
          refine take_at (i := 9) (some 49) (.slice (some ⟨lb, 0, none⟩) M lc) rfl rfl (by kernel_rfl) (by kernel_rfl) (by kernel_rfl) (fun _ _ _ h => h) (Or.inl ⟨by rfl, fun w hSw => by have e := cell_of_row w p 0 _ _ _ hSw.1; clear hSw; go_simp⟩) hH ?_
          try simp only [Act.put, List.setIfInBounds_toArray, List.set_cons_zero, List.set_cons_succ]
          refine take_at (i := 10) (some 50) (.pointer (some ⟨bx, 0, none⟩)) rfl rfl (by kernel_rfl) (by kernel_rfl) (by kernel_rfl) (fun _ _ _ h => h) (Or.inl ⟨by rfl, fun w hSw => by go_simp⟩) hH ?_
          refine take_at (i := 11) (some 51) (.int .i64 (xi : Nat)) rfl rfl (by kernel_rfl) (by kernel_rfl) (by kernel_rfl) (fun _ _ _ h => h) (Or.inl ⟨by rfl, fun w hSw => by have e := cell_of_row w bx 0 _ _ _ hSw.2.1; clear hSw; go_simp⟩) hH ?_
          try simp only [Act.put, List.setIfInBounds_toArray, List.set_cons_zero, List.set_cons_succ]
          refine take_at (i := 12) (some 52) (.pointer (some ⟨lb, xi, none⟩)) rfl rfl (by kernel_rfl) (by kernel_rfl) (by kernel_rfl) (fun _ _ _ h => h) (Or.inl ⟨by rfl, fun w hSw => by go_simp⟩) hH ?_
          refine take_at (i := 13) (some 53) (.string y) rfl rfl (by kernel_rfl) (by kernel_rfl) (by kernel_rfl) (fun _ _ _ h => h) (Or.inl ⟨by rfl, fun w hSw => by have e := (cell_of_row w lb xi _ _ _ hSw.2.2.1).trans hSw.2.2.2.1; clear hSw; go_simp⟩) hH ?_
          try simp only [Act.put, List.setIfInBounds_toArray, List.set_cons_zero, List.set_cons_succ]
          refine take_at (i := 14) (some 54) (.pointer (some ⟨rb, xi, none⟩)) rfl rfl (by kernel_rfl) (by kernel_rfl) (by kernel_rfl) (fun _ _ _ h => h) (Or.inl ⟨by rfl, fun w hSw => by go_simp⟩) hH ?_
          try simp only [Act.put, List.setIfInBounds_toArray, List.set_cons_zero, List.set_cons_succ]
          have HV0 := Aside0.mk (And.intro (HDO.out.1.keep (W' := V1.drew) (fun _ _ => rfl)) (HDO.out.2.1.big_trans (only_below ((Below.refl _ V1).drew)).big))
          clear HDO c0 hcl hcr hrs cr hcy
          generalize V1.drew = V0 at hH HV0 ⊢
          obtain ⟨hp, hb, hl, hy, cur, hr, hrs⟩ := hH
          obtain ⟨u, hu⟩ : ∃ u, V0.cell? ⟨rb, xi, none⟩ = some u := ⟨_, (cell_of_row V0 rb xi _ _ _ hr).trans (Array.getElem?_eq_getElem (by omega))⟩
          have hfz : V0.frozen? ⟨rb, xi, none⟩ = false := frozen_of_row V0 rb xi _ _ hr
          have hnx := heap_setCell_same V0 rb xi cur _ (.string y) hr
          have so : ∀ k, k ≠ rb → (V0.setCell ⟨rb, xi, none⟩ (.string y)).heap[k]? = V0.heap[k]? := fun k hk => set_other _ _ _ _ hk
          have hS2 : SB2 p bx lb rb M xi #[.slice (some ⟨lb, 0, none⟩) M lc, .slice (some ⟨g, 0, none⟩) j wc, .map (some mb), .int .i64 S.armed, .int .i64 S.ops, .slice (some ⟨rb, 0, none⟩) M rc] #[.int .i64 (xi : Nat), .string xs] cl y (V0.setCell ⟨rb, xi, none⟩ (.string y)) := ⟨(so p HV0.out.1.p_rb).trans hp, (so bx NB.out.2).trans hb, (so lb HV0.out.1.ne).trans hl, hy, _, hnx, by simpa using hrs⟩
          refine wpAnyH_ready (rs := [15]) (by kernel_rfl) (by simp) (AllReadyH.cons rfl (fun K hK => ?_) AllReadyH.nil)
          clear so hnx hp hb hl hy hr hrs
          go_simp
          refine hK.out _ _ hS2 (fun hH => ?_)
          clear hK K hS2 hu hfz
          refine wpAnyH_done (by kernel_rfl) ?_ _
          try simp only [Act.put, List.setIfInBounds_toArray, List.set_cons_zero, List.set_cons_succ]
          have HN := Aside0.mk (show DR B p lb lc rb rc mb (.slice (some ⟨g, 0, none⟩) j wc) L (copyW L S.read (S.waits.take (k + 1))) S.waits (fun i => cnt i S.waits) j S.armed S.ops (V0.setCell ⟨rb, xi, none⟩ (.string y)) ∧ Only (Big F W) W (V0.setCell ⟨rb, xi, none⟩ (.string y)) from by
            rw [KS.out, KY.out]
            exact ⟨HV0.out.1.setR xi y, HV0.out.2.big_trans (only_set (F := F) ⟨rb, xi, none⟩ (.string y) ((HFP.out rb).2 (.inr (.inr (.inr (.inl rfl)))))).big⟩)
          clear hH HV0 KS NB KY HM
          go_wp2
          go_roundw
          case rel => exact ⟨k + 1, by go_num, by omega, HN⟩
          case measure => simp [intOf]; omega
        · obtain rfl : k = j := by omega
          have e0 : S.waits.take k = S.waits := List.take_of_length_le (by rw [HNN.out]; exact Nat.le_refl _)
          have e1 : copyW L S.read S.waits = L := by rw [← HL.out]; exact settled S.lasts S.waits kp
          have hD0 := HS.out.1
          rw [e0, e1] at hD0
          have d1 := hD0.cell 1
          have f1 := hD0.frozen 1
          have hD1 := hD0.setW (.slice none 0 0) [] (World.ownsRow_nil _ _ _ _)
          have d2 := hD1.cell 2
          obtain ⟨nm, D, hown, _, _⟩ := hD1.mp
          obtain ⟨W9, hrun, hg9, hown9⟩ := clear_run hown
          have hD2 := hD1.setM (m' := fun i => cnt i []) (N' := 0) hg9 ⟨0, .map [], hown9, Nat.le_refl _, fun i => rfl⟩
          have O9 := HS.out.2.big_trans ((only_set (F := F) ⟨p, 1, none⟩ (.slice none 0 0) ((HFP.out p).2 (.inl rfl))).big.big_trans (only_grown (F := F) hg9 (fun k e => (HFP.out k).2 (.inr (.inl (by simpa using e.symm))))).big)
          have HE := Aside0.mk (And.intro hD2 O9)
          clear e0 e1 hD0 hD1 hown hg9 hown9 hD2 O9 HS hlt hk
          go_wp2
          go_end0
          refine ⟨rfl, FP p lb rb mb (.slice none 0 0), ⟨lb, lc, rb, rc, mb, _, ?_, fun _ => Iff.rfl⟩, HE.out.2.small, fun k hk => ?_⟩
          · have e2 : (S.crash kp).lasts = L := HL.out
            have e3 : (S.crash kp).read = L := HL.out
            rw [e2, e3]
            exact HE.out.1
          · rcases hk with rfl | rfl | rfl | rfl | hk
            · exact .inl ((HFP.out k).2 (.inl rfl))
            · exact .inl ((HFP.out k).2 (.inr (.inl rfl)))
            · exact .inl ((HFP.out k).2 (.inr (.inr (.inl rfl))))
            · exact .inl ((HFP.out k).2 (.inr (.inr (.inr (.inl rfl)))))
            · cases hk
set_option maxHeartbeats 2000000 in
theorem settle_crash (h : DK B p S F W) (hok : S.ok) (hn : S.waits.length ≤ 1000000) (kb : Nat) (kp : Nat → Bool)
    (HK0 : ∀ V, Only (Big F W) W V → ∀ j : Nat, j < S.waits.length → Calls Tryd.prog 49 #[.int .i64 (j : Nat), .pointer (some ⟨kb, 0, none⟩)] V fun e w' => e = .returned (.bool (kp j)) ∧ V = w') :
    Calls Tryd.prog 48 #[.pointer (some ⟨p, 0, none⟩), .func (.func 49) #[] #[.pointer (some ⟨kb, 0, none⟩)]] W fun e W' => e = .returned (.tuple #[]) ∧ Did B p (S.crash kp) F W W' := by
  have HK := Aside0.mk HK0
  clear HK0
  obtain ⟨lb, lc, rb, rc, mb, wv, hd, hFP⟩ := h
  have d1 := hd.cell 1
  obtain ⟨A, wc, rfl⟩ := owns_slice hd.hw
  have HD := Aside0.mk hd
  have HFP := Aside0.mk hFP
  have HO := Aside0.mk hok
  obtain ⟨n, hnn⟩ : ∃ n, S.waits.length = n := ⟨_, rfl⟩
  have HNN := Aside0.mk hnn
  rw [hnn] at hn d1 HK HD HFP
  clear hd hFP hok hnn
  go_enter Tryd.func48, Tryd.ntmps48
  go_wp2_with fail
  clear d1
  go_loopw [13] (fun i V => ∃ (j : Nat), i = .int .i64 j ∧ j ≤ n ∧ Aside0 (DR B p lb lc rb rc mb (.slice A n wc) (applyW S.lasts (keptW kp 0 (S.waits.take j))) S.read S.waits (fun i => cnt i S.waits) n S.armed S.ops V ∧ Only (Big F W) W V)) (fun i _ => n - (intOf i).toNat)
  case atStart => exact ⟨0, rfl, by omega, ⟨by simpa [keptW, applyW] using HD.out, Only.refl _ _⟩⟩
  case round =>
    obtain ⟨j, rfl, hj, HS⟩ := hrel
    by_cases hlt : j < n
    · have hj1 : (j : Int) < (n : Int) := by omega
      have hjw : j < S.waits.length := by rw [HNN.out]; exact hlt
      rcases HS.out.1.hw.2 with ⟨e, e2⟩ | ⟨g, cap, cur0, e, e4⟩
      · exact absurd e2 (by omega)
      simp only [Value.slice.injEq] at e
      obtain ⟨rfl, e5, rfl⟩ := e
      clear e5 e4 cur0
      obtain ⟨p0, p1⟩ := owns_pair HS.out.1.hw j hjw
      obtain ⟨xi, hxi⟩ : ∃ x, (S.waits[j]'hjw).1 = x := ⟨_, rfl⟩
      obtain ⟨xs, hxs⟩ : ∃ x, (S.waits[j]'hjw).2 = x := ⟨_, rfl⟩
      rw [hxi] at p0
      rw [hxs] at p1
      have hxl : xi < S.lasts.length := by rw [← hxi]; exact HO.out _ (List.getElem_mem hjw)
      have KS := Aside0.mk (kept_step kp S.waits S.lasts j hjw)
      rw [hxi, hxs] at KS
      clear hxi hxs HD
      have hxb : xi < (applyW S.lasts (keptW kp 0 (S.waits.take j))).length := by rw [applyW_len]; exact hxl
      have hbw : Below wr.heap.size wr (wr.alloc (.cells #[.int .i64 (xi : Nat), .string xs] 130)) := (Below.refl _ _).alloc (Nat.le_refl _) _
      have hO := HS.out.2.big_trans (only_below hbw).big
      have hD := HS.out.1.below hbw
      have hbx := heap_alloc_new wr (.cells #[.int .i64 (xi : Nat), .string xs] 130)
      have KC := Aside0.mk (HK.out _ hO j hlt)
      have NB := Aside0.mk (show wr.heap.size ≠ p ∧ wr.heap.size ≠ lb from ⟨by have := (HS.out.1.lt (.inl rfl)).2; omega, by have := (HS.out.1.lt (.inr (.inr (.inl rfl)))).2; omega⟩)
      have HDO := Aside0.mk (And.intro hD (And.intro hO hbx))
      clear hbw hO hD hbx HS hxl
      go_wp2_with fail
      clear p0 p1
      generalize (wr.alloc (.cells #[.int .i64 (xi : Nat), .string xs] 130)) = V1 at KC HDO ⊢
      obtain ⟨bx, hbx⟩ : ∃ b, wr.heap.size = b := ⟨_, rfl⟩
      rw [hbx] at HDO NB ⊢
      obtain ⟨L, hL⟩ : ∃ l, applyW S.lasts (keptW kp 0 (S.waits.take j)) = l := ⟨_, rfl⟩
      rw [hL] at HDO KS hxb
      clear hbx hL
      refine KC.out.mono ?_
      rintro x v1 ⟨rfl, rfl⟩
      clear KC
      cases hkj : kp j with
      | false =>
        rw [hkj] at KS
        have HN := Aside0.mk (show DR B p lb lc rb rc mb (.slice (some ⟨g, 0, none⟩) n wc) (applyW S.lasts (keptW kp 0 (S.waits.take (j + 1)))) S.read S.waits (fun i => cnt i S.waits) n S.armed S.ops V1 ∧ Only (Big F W) W V1 from by
          rw [KS.out, if_neg (by decide)]; exact ⟨HDO.out.1, HDO.out.2.1⟩)
        clear hkj KS HDO NB
        go_wp2
        go_roundw
        case rel => exact ⟨j + 1, by go_num, by omega, HN⟩
        case measure => simp [intOf]; omega
      | true =>
        rw [hkj, if_pos rfl] at KS
        clear hkj
        obtain ⟨M, hM⟩ : ∃ m, L.length = m := ⟨_, rfl⟩
        have c0 := HDO.out.1.box
        rw [hM] at c0 hxb
        obtain ⟨curL, hcl, hls⟩ : ∃ cur, V1.heap[lb]? = some (.cells cur 9 (0, 0)) ∧ M ≤ cur.size := by
          rcases HDO.out.1.hl.2 with ⟨e, _⟩ | ⟨g', cap, cur, e, _, hg, hc1, _, hc3, _⟩
          · cases e
          · simp only [Value.slice.injEq, Option.some.injEq, Addr.mk.injEq] at e
            obtain ⟨⟨rfl, _⟩, _⟩ := e
            exact ⟨cur, hg, by omega⟩
        have hxb' : (xi : Int) < (M : Int) := by omega
        go_wp2_with fail
        refine wp_region_held_drew (S := fun V => SB p bx lb M #[.slice (some ⟨lb, 0, none⟩) M lc, .slice (some ⟨g, 0, none⟩) n wc, .map (some mb), .int .i64 S.armed, .int .i64 S.ops, .slice (some ⟨rb, 0, none⟩) M rc] #[.int .i64 (xi : Nat), .string xs] V) (by kernel_rfl) ⟨c0, HDO.out.2.2, curL, hcl, hls⟩ (fun hH => ?_)
        refine take_at (i := 0) (some 21) (.pointer (some ⟨p, 0, none⟩)) rfl rfl (by kernel_rfl) (by kernel_rfl) (by kernel_rfl) (fun _ _ _ h => h) (Or.inl ⟨by rfl, fun w hSw => by go_simp⟩) hH ?_
        refine take_at (i := 1) (some 22) (.pointer (some ⟨p, 0, none⟩)) rfl rfl (by kernel_rfl) (by kernel_rfl) (by kernel_rfl) (fun _ _ _ h => h) (Or.inl ⟨by rfl, fun w hSw => by go_simp⟩) hH ?_
        try simp only [Act.put, List.setIfInBounds_toArray, List.set_cons_zero, List.set_cons_succ]
        refine take_at (i := 2) (some 23) (.pointer (some ⟨p, 0, none⟩)) rfl rfl (by kernel_rfl) (by kernel_rfl) (by kernel_rfl) (fun _ _ _ h => h) (Or.inl ⟨by rfl, fun w hSw => by go_simp⟩) hH ?_
        refine take_at (i := 3) (some 24) (.slice (some ⟨lb, 0, none⟩) M lc) rfl rfl (by kernel_rfl) (by kernel_rfl) (by kernel_rfl) (fun _ _ _ h => h) (Or.inl ⟨by rfl, fun w hSw => by have e := cell_of_row w p 0 _ _ _ hSw.1; clear hSw; go_simp⟩) hH ?_
        try simp only [Act.put, List.setIfInBounds_toArray, List.set_cons_zero, List.set_cons_succ]
        refine take_at (i := 4) (some 25) (.pointer (some ⟨bx, 0, none⟩)) rfl rfl (by kernel_rfl) (by kernel_rfl) (by kernel_rfl) (fun _ _ _ h => h) (Or.inl ⟨by rfl, fun w hSw => by go_simp⟩) hH ?_
        refine take_at (i := 5) (some 26) (.int .i64 (xi : Nat)) rfl rfl (by kernel_rfl) (by kernel_rfl) (by kernel_rfl) (fun _ _ _ h => h) (Or.inl ⟨by rfl, fun w hSw => by have e := cell_of_row w bx 0 _ _ _ hSw.2.1; clear hSw; go_simp⟩) hH ?_
        try simp only [Act.put, List.setIfInBounds_toArray, List.set_cons_zero, List.set_cons_succ]
        refine take_at (i := 6) (some 27) (.pointer (some ⟨bx, 1, none⟩)) rfl rfl (by kernel_rfl) (by kernel_rfl) (by kernel_rfl) (fun _ _ _ h => h) (Or.inl ⟨by rfl, fun w hSw => by go_simp⟩) hH ?_
        refine take_at (i := 7) (some 28) (.string xs) rfl rfl (by kernel_rfl) (by kernel_rfl) (by kernel_rfl) (fun _ _ _ h => h) (Or.inl ⟨by rfl, fun w hSw => by have e := cell_of_row w bx 1 _ _ _ hSw.2.1; clear hSw; go_simp⟩) hH ?_
        try simp only [Act.put, List.setIfInBounds_toArray, List.set_cons_zero, List.set_cons_succ]
        refine take_at (i := 8) (some 29) (.pointer (some ⟨lb, xi, none⟩)) rfl rfl (by kernel_rfl) (by kernel_rfl) (by kernel_rfl) (fun _ _ _ h => h) (Or.inl ⟨by rfl, fun w hSw => by go_simp⟩) hH ?_
        try simp only [Act.put, List.setIfInBounds_toArray, List.set_cons_zero, List.set_cons_succ]
        have HV0 := Aside0.mk (And.intro (HDO.out.1.keep (W' := V1.drew) (fun _ _ => rfl)) (HDO.out.2.1.big_trans (only_below ((Below.refl _ V1).drew)).big))
        have BXH := Aside0.mk (show V1.drew.heap[bx]? = some (.cells #[.int .i64 (xi : Nat), .string xs] 130 (0, 0)) from HDO.out.2.2)
        clear HDO c0 hcl hls curL
        generalize V1.drew = V0 at hH HV0 BXH ⊢
        obtain ⟨hp, hb, cur, hl, hls⟩ := hH
        obtain ⟨u, hu⟩ : ∃ u, V0.cell? ⟨lb, xi, none⟩ = some u := ⟨_, (cell_of_row V0 lb xi _ _ _ hl).trans (Array.getElem?_eq_getElem (by omega))⟩
        have hfz : V0.frozen? ⟨lb, xi, none⟩ = false := frozen_of_row V0 lb xi _ _ hl
        have hnx := heap_setCell_same V0 lb xi cur _ (.string xs) hl
        have so : ∀ k, k ≠ lb → (V0.setCell ⟨lb, xi, none⟩ (.string xs)).heap[k]? = V0.heap[k]? := fun k hk => set_other _ _ _ _ hk
        have hS2 : SB p bx lb M #[.slice (some ⟨lb, 0, none⟩) M lc, .slice (some ⟨g, 0, none⟩) n wc, .map (some mb), .int .i64 S.armed, .int .i64 S.ops, .slice (some ⟨rb, 0, none⟩) M rc] #[.int .i64 (xi : Nat), .string xs] (V0.setCell ⟨lb, xi, none⟩ (.string xs)) := ⟨(so p HV0.out.1.p_lb).trans hp, (so bx NB.out.2).trans hb, _, hnx, by simpa using hls⟩
        refine wpAnyH_ready (rs := [9]) (by kernel_rfl) (by simp) (AllReadyH.cons rfl (fun K hK => ?_) AllReadyH.nil)
        clear so hnx hp hb hl hls
        go_simp
        refine hK.out _ _ hS2 (fun hH => ?_)
        clear hK K hS2 hu hfz
        refine wpAnyH_done (by kernel_rfl) ?_ _
        try simp only [Act.put, List.setIfInBounds_toArray, List.set_cons_zero, List.set_cons_succ]
        have HN := Aside0.mk (show DR B p lb lc rb rc mb (.slice (some ⟨g, 0, none⟩) n wc) (applyW S.lasts (keptW kp 0 (S.waits.take (j + 1)))) S.read S.waits (fun i => cnt i S.waits) n S.armed S.ops (V0.setCell ⟨lb, xi, none⟩ (.string xs)) ∧ Only (Big F W) W (V0.setCell ⟨lb, xi, none⟩ (.string xs)) from by
          rw [KS.out]
          exact ⟨HV0.out.1.setL xi xs, HV0.out.2.big_trans (only_set (F := F) ⟨lb, xi, none⟩ (.string xs) ((HFP.out lb).2 (.inr (.inr (.inl rfl))))).big⟩)
        clear hH HV0 BXH KS NB
        go_wp2
        go_roundw
        case rel => exact ⟨j + 1, by go_num, by omega, HN⟩
        case measure => simp [intOf]; omega
    · obtain rfl : j = n := by omega
      have H1 := Aside0.mk HS.out
      have d1 := HS.out.1.cell 1
      have e0 : S.waits.take j = S.waits := List.take_of_length_le (by rw [HNN.out]; exact Nat.le_refl _)
      rw [e0] at H1
      obtain ⟨L, hL⟩ : ∃ l, applyW S.lasts (keptW kp 0 S.waits) = l := ⟨_, rfl⟩
      have HL := Aside0.mk hL
      rw [hL] at H1
      have hll : L.length = S.lasts.length := by rw [← hL, applyW_len]
      have HLL := Aside0.mk hll
      clear HS e0 hL hll hlt hj HK HD
      go_wp2_with fail
      clear d1
      go_loopw [36] (fun i V => ∃ (k : Nat), i = .int .i64 k ∧ k ≤ j ∧ Aside0 (DR B p lb lc rb rc mb (.slice A j wc) L (copyW L S.read (S.waits.take k)) S.waits (fun i => cnt i S.waits) j S.armed S.ops V ∧ Only (Big F W) W V)) (fun i _ => j - (intOf i).toNat)
      case atStart => exact ⟨0, rfl, by omega, ⟨by simpa [copyW] using H1.out⟩⟩
      case round =>
        obtain ⟨k, rfl, hk, HS⟩ := hrel
        clear H1
        by_cases hlt : k < j
        · have hk1 : (k : Int) < (j : Int) := by omega
          have hkw : k < S.waits.length := by rw [HNN.out]; exact hlt
          rcases HS.out.1.hw.2 with ⟨e, e2⟩ | ⟨g, cap, cur0, e, e4⟩
          · exact absurd e2 (by omega)
          simp only [Value.slice.injEq] at e
          obtain ⟨rfl, e5, rfl⟩ := e
          clear e5 e4 cur0
          obtain ⟨p0, p1⟩ := owns_pair HS.out.1.hw k hkw
          obtain ⟨xi, hxi⟩ : ∃ x, (S.waits[k]'hkw).1 = x := ⟨_, rfl⟩
          obtain ⟨xs, hxs⟩ : ∃ x, (S.waits[k]'hkw).2 = x := ⟨_, rfl⟩
          rw [hxi] at p0
          rw [hxs] at p1
          have hxl : xi < L.length := by rw [HLL.out, ← hxi]; exact HO.out _ (List.getElem_mem hkw)
          have KS := Aside0.mk (copy_step L S.waits S.read k hkw)
          rw [hxi] at KS
          clear hxi hxs
          have hbw : Below wr.heap.size wr (wr.alloc (.cells #[.int .i64 (xi : Nat), .string xs] 130)) := (Below.refl _ _).alloc (Nat.le_refl _) _
          have hO := HS.out.2.big_trans (only_below hbw).big
          have hD := HS.out.1.below hbw
          have hbx := heap_alloc_new wr (.cells #[.int .i64 (xi : Nat), .string xs] 130)
          have NB := Aside0.mk (show wr.heap.size ≠ p ∧ wr.heap.size ≠ rb from ⟨by have := (HS.out.1.lt (.inl rfl)).2; omega, by have := (HS.out.1.lt (.inr (.inr (.inr (.inl rfl))))).2; omega⟩)
          have HDO := Aside0.mk (And.intro hD (And.intro hO hbx))
          clear hbw hO hD hbx HS
          go_wp2_with fail
          clear p0 p1
          generalize wr.alloc (.cells #[.int .i64 (xi : Nat), .string xs] 130) = V1 at HDO ⊢
          obtain ⟨bx, hbx⟩ : ∃ b, wr.heap.size = b := ⟨_, rfl⟩
          rw [hbx] at HDO NB ⊢
          clear hbx
          obtain ⟨M, hM⟩ : ∃ m, L.length = m := ⟨_, rfl⟩
          have c0 := HDO.out.1.box
          rw [hM] at c0 hxl
          obtain ⟨y, hy⟩ : ∃ y, L[xi]'(by rw [hM]; exact hxl) = y := ⟨_, rfl⟩
          obtain ⟨cl, hcl, hcy⟩ : ∃ cur, V1.heap[lb]? = some (.cells cur 9 (0, 0)) ∧ cur[xi]? = some (.string y) := by
            obtain ⟨cur, h1, _⟩ := HDO.out.1.lb_at
            refine ⟨cur, h1, ?_⟩
            have := HDO.out.1.hl.cellAt xi (by omega)
            rw [cell_of_row V1 lb xi _ _ _ h1, strs_get _ _ (by rw [hM]; exact hxl), hy] at this
            exact this
          obtain ⟨cr, hcr, hrs⟩ : ∃ cur, V1.heap[rb]? = some (.cells cur 9 (0, 0)) ∧ M ≤ cur.size := by
            rcases HDO.out.1.hr.2 with ⟨e, _⟩ | ⟨g', cap, cur, e, _, hg, hc1, _, hc3, _⟩
            · cases e
            · simp only [Value.slice.injEq, Option.some.injEq, Addr.mk.injEq] at e
              obtain ⟨⟨rfl, _⟩, _⟩ := e
              exact ⟨cur, hg, by omega⟩
          have KY := Aside0.mk (show L.getD xi ByteArray.empty = y by rw [List.getD_eq_getElem?_getD, List.getElem?_eq_getElem (by rw [hM]; exact hxl), hy]; rfl)
          have hxb' : (xi : Int) < (M : Int) := by omega
          have HM := Aside0.mk hM
          clear hM hy
          refine wp_region_held_drew (S := fun V => SB2 p bx lb rb M xi #[.slice (some ⟨lb, 0, none⟩) M lc, .slice (some ⟨g, 0, none⟩) j wc, .map (some mb), .int .i64 S.armed, .int .i64 S.ops, .slice (some ⟨rb, 0, none⟩) M rc] #[.int .i64 (xi : Nat), .string xs] cl y V) (by kernel_rfl) ⟨c0, HDO.out.2.2, hcl, hcy, cr, hcr, hrs⟩ (fun hH => ?_)
          refine take_at (i := 0) (some 40) (.pointer (some ⟨p, 0, none⟩)) rfl rfl (by kernel_rfl) (by kernel_rfl) (by kernel_rfl) (fun _ _ _ h => h) (Or.inl ⟨by rfl, fun w hSw => by go_simp⟩) hH ?_
          refine take_at (i := 1) (some 41) (.pointer (some ⟨p, 0, none⟩)) rfl rfl (by kernel_rfl) (by kernel_rfl) (by kernel_rfl) (fun _ _ _ h => h) (Or.inl ⟨by rfl, fun w hSw => by go_simp⟩) hH ?_
          try simp only [Act.put, List.setIfInBounds_toArray, List.set_cons_zero, List.set_cons_succ]
          refine take_at (i := 2) (some 42) (.pointer (some ⟨p, 5, none⟩)) rfl rfl (by kernel_rfl) (by kernel_rfl) (by kernel_rfl) (fun _ _ _ h => h) (Or.inl ⟨by rfl, fun w hSw => by go_simp⟩) hH ?_
          refine take_at (i := 3) (some 43) (.slice (some ⟨rb, 0, none⟩) M rc) rfl rfl (by kernel_rfl) (by kernel_rfl) (by kernel_rfl) (fun _ _ _ h => h) (Or.inl ⟨by rfl, fun w hSw => by have e := cell_of_row w p 5 _ _ _ hSw.1; clear hSw; go_simp⟩) hH ?_
          try simp only [Act.put, List.setIfInBounds_toArray, List.set_cons_zero, List.set_cons_succ]
          refine take_at (i := 4) (some 44) (.pointer (some ⟨bx, 0, none⟩)) rfl rfl (by kernel_rfl) (by kernel_rfl) (by kernel_rfl) (fun _ _ _ h => h) (Or.inl ⟨by rfl, fun w hSw => by go_simp⟩) hH ?_
          refine take_at (i := 5) (some 45) (.int .i64 (xi : Nat)) rfl rfl (by kernel_rfl) (by kernel_rfl) (by kernel_rfl) (fun _ _ _ h => h) (Or.inl ⟨by rfl, fun w hSw => by have e := cell_of_row w bx 0 _ _ _ hSw.2.1; clear hSw; go_simp⟩) hH ?_
          try simp only [Act.put, List.setIfInBounds_toArray, List.set_cons_zero, List.set_cons_succ]
          refine take_at (i := 6) (some 46) (.pointer (some ⟨p, 0, none⟩)) rfl rfl (by kernel_rfl) (by kernel_rfl) (by kernel_rfl) (fun _ _ _ h => h) (Or.inl ⟨by rfl, fun w hSw => by go_simp⟩) hH ?_
          refine take_at (i := 7) (some 47) (.pointer (some ⟨p, 0, none⟩)) rfl rfl (by kernel_rfl) (by kernel_rfl) (by kernel_rfl) (fun _ _ _ h => h) (Or.inl ⟨by rfl, fun w hSw => by go_simp⟩) hH ?_
          try simp only [Act.put, List.setIfInBounds_toArray, List.set_cons_zero, List.set_cons_succ]
          refine take_at (i := 8) (some 48) (.pointer (some ⟨p, 0, none⟩)) rfl rfl (by kernel_rfl) (by kernel_rfl) (by kernel_rfl) (fun _ _ _ h => h) (Or.inl ⟨by rfl, fun w hSw => by go_simp⟩) hH ?_
          refine take_at (i := 9) (some 49) (.slice (some ⟨lb, 0, none⟩) M lc) rfl rfl (by kernel_rfl) (by kernel_rfl) (by kernel_rfl) (fun _ _ _ h => h) (Or.inl ⟨by rfl, fun w hSw => by have e := cell_of_row w p 0 _ _ _ hSw.1; clear hSw; go_simp⟩) hH ?_
          try simp only [Act.put, List.setIfInBounds_toArray, List.set_cons_zero, List.set_cons_succ]
          refine take_at (i := 10) (some 50) (.pointer (some ⟨bx, 0, none⟩)) rfl rfl (by kernel_rfl) (by kernel_rfl) (by kernel_rfl) (fun _ _ _ h => h) (Or.inl ⟨by rfl, fun w hSw => by go_simp⟩) hH ?_
          refine take_at (i := 11) (some 51) (.int .i64 (xi : Nat)) rfl rfl (by kernel_rfl) (by kernel_rfl) (by kernel_rfl) (fun _ _ _ h => h) (Or.inl ⟨by rfl, fun w hSw => by have e := cell_of_row w bx 0 _ _ _ hSw.2.1; clear hSw; go_simp⟩) hH ?_
          try simp only [Act.put, List.setIfInBounds_toArray, List.set_cons_zero, List.set_cons_succ]
          refine take_at (i := 12) (some 52) (.pointer (some ⟨lb, xi, none⟩)) rfl rfl (by kernel_rfl) (by kernel_rfl) (by kernel_rfl) (fun _ _ _ h => h) (Or.inl ⟨by rfl, fun w hSw => by go_simp⟩) hH ?_
          refine take_at (i := 13) (some 53) (.string y) rfl rfl (by kernel_rfl) (by kernel_rfl) (by kernel_rfl) (fun _ _ _ h => h) (Or.inl ⟨by rfl, fun w hSw => by have e := (cell_of_row w lb xi _ _ _ hSw.2.2.1).trans hSw.2.2.2.1; clear hSw; go_simp⟩) hH ?_
          try simp only [Act.put, List.setIfInBounds_toArray, List.set_cons_zero, List.set_cons_succ]
          refine take_at (i := 14) (some 54) (.pointer (some ⟨rb, xi, none⟩)) rfl rfl (by kernel_rfl) (by kernel_rfl) (by kernel_rfl) (fun _ _ _ h => h) (Or.inl ⟨by rfl, fun w hSw => by go_simp⟩) hH ?_
          try simp only [Act.put, List.setIfInBounds_toArray, List.set_cons_zero, List.set_cons_succ]
          have HV0 := Aside0.mk (And.intro (HDO.out.1.keep (W' := V1.drew) (fun _ _ => rfl)) (HDO.out.2.1.big_trans (only_below ((Below.refl _ V1).drew)).big))
          clear HDO c0 hcl hcr hrs cr hcy
          generalize V1.drew = V0 at hH HV0 ⊢
          obtain ⟨hp, hb, hl, hy, cur, hr, hrs⟩ := hH
          obtain ⟨u, hu⟩ : ∃ u, V0.cell? ⟨rb, xi, none⟩ = some u := ⟨_, (cell_of_row V0 rb xi _ _ _ hr).trans (Array.getElem?_eq_getElem (by omega))⟩
          have hfz : V0.frozen? ⟨rb, xi, none⟩ = false := frozen_of_row V0 rb xi _ _ hr
          have hnx := heap_setCell_same V0 rb xi cur _ (.string y) hr
          have so : ∀ k, k ≠ rb → (V0.setCell ⟨rb, xi, none⟩ (.string y)).heap[k]? = V0.heap[k]? := fun k hk => set_other _ _ _ _ hk
          have hS2 : SB2 p bx lb rb M xi #[.slice (some ⟨lb, 0, none⟩) M lc, .slice (some ⟨g, 0, none⟩) j wc, .map (some mb), .int .i64 S.armed, .int .i64 S.ops, .slice (some ⟨rb, 0, none⟩) M rc] #[.int .i64 (xi : Nat), .string xs] cl y (V0.setCell ⟨rb, xi, none⟩ (.string y)) := ⟨(so p HV0.out.1.p_rb).trans hp, (so bx NB.out.2).trans hb, (so lb HV0.out.1.ne).trans hl, hy, _, hnx, by simpa using hrs⟩
          refine wpAnyH_ready (rs := [15]) (by kernel_rfl) (by simp) (AllReadyH.cons rfl (fun K hK => ?_) AllReadyH.nil)
          clear so hnx hp hb hl hy hr hrs
          go_simp
          refine hK.out _ _ hS2 (fun hH => ?_)
          clear hK K hS2 hu hfz
          refine wpAnyH_done (by kernel_rfl) ?_ _
          try simp only [Act.put, List.setIfInBounds_toArray, List.set_cons_zero, List.set_cons_succ]
          have HN := Aside0.mk (show DR B p lb lc rb rc mb (.slice (some ⟨g, 0, none⟩) j wc) L (copyW L S.read (S.waits.take (k + 1))) S.waits (fun i => cnt i S.waits) j S.armed S.ops (V0.setCell ⟨rb, xi, none⟩ (.string y)) ∧ Only (Big F W) W (V0.setCell ⟨rb, xi, none⟩ (.string y)) from by
            rw [KS.out, KY.out]
            exact ⟨HV0.out.1.setR xi y, HV0.out.2.big_trans (only_set (F := F) ⟨rb, xi, none⟩ (.string y) ((HFP.out rb).2 (.inr (.inr (.inr (.inl rfl)))))).big⟩)
          clear hH HV0 KS NB KY HM
          go_wp2
          go_roundw
          case rel => exact ⟨k + 1, by go_num, by omega, HN⟩
          case measure => simp [intOf]; omega
        · obtain rfl : k = j := by omega
          have e0 : S.waits.take k = S.waits := List.take_of_length_le (by rw [HNN.out]; exact Nat.le_refl _)
          have e1 : copyW L S.read S.waits = L := by rw [← HL.out]; exact settled S.lasts S.waits kp
          have hD0 := HS.out.1
          rw [e0, e1] at hD0
          have d1 := hD0.cell 1
          have f1 := hD0.frozen 1
          have hD1 := hD0.setW (.slice none 0 0) [] (World.ownsRow_nil _ _ _ _)
          have d2 := hD1.cell 2
          obtain ⟨nm, D, hown, _, _⟩ := hD1.mp
          obtain ⟨W9, hrun, hg9, hown9⟩ := clear_run hown
          have hD2 := hD1.setM (m' := fun i => cnt i []) (N' := 0) hg9 ⟨0, .map [], hown9, Nat.le_refl _, fun i => rfl⟩
          have O9 := HS.out.2.big_trans ((only_set (F := F) ⟨p, 1, none⟩ (.slice none 0 0) ((HFP.out p).2 (.inl rfl))).big.big_trans (only_grown (F := F) hg9 (fun k e => (HFP.out k).2 (.inr (.inl (by simpa using e.symm))))).big)
          have HE := Aside0.mk (And.intro hD2 O9)
          clear e0 e1 hD0 hD1 hown hg9 hown9 hD2 O9 HS hlt hk
          go_wp2
          go_end0
          refine ⟨rfl, FP p lb rb mb (.slice none 0 0), ⟨lb, lc, rb, rc, mb, _, ?_, fun _ => Iff.rfl⟩, HE.out.2.small, fun k hk => ?_⟩
          · have e2 : (S.crash kp).lasts = L := HL.out
            have e3 : (S.crash kp).read = L := HL.out
            rw [e2, e3]
            exact HE.out.1
          · rcases hk with rfl | rfl | rfl | rfl | hk
            · exact .inl ((HFP.out k).2 (.inl rfl))
            · exact .inl ((HFP.out k).2 (.inr (.inl rfl)))
            · exact .inl ((HFP.out k).2 (.inr (.inr (.inl rfl))))
            · exact .inl ((HFP.out k).2 (.inr (.inr (.inr (.inl rfl)))))
            · cases hk
end Go.Proofs.YtknbhgodhmcemaaDoor.Dk
namespace Go.Proofs.YtknbhgodhmcemaaDoor.Dk
set_option linter.unusedSimpArgs false
set_option linter.unusedVariables false
set_option maxRecDepth 100000
open Go.RowKit Go.Proofs.YtknbhgodhmcemaaDoor.Own Go.Proofs.YtknbhgodhmcemaaDoor.Cel
variable {B p : Nat} {S : DS} {F : Nat → Prop} {W : World}
theorem sync1_calls (j : Int) (W : World) : Calls Tryd.prog 53 #[.int .i64 j] W fun e w' => e = .returned (.bool true) ∧ W = w' := by
  go_enter Tryd.func53, Tryd.ntmps53
  go_wp2
  go_ret
  exact ⟨rfl, rfl⟩
theorem fails_ok (h : S.ok) : S.fails.1.ok := by
  obtain ⟨e1, e2, _⟩ := fails_lasts S
  unfold DS.ok
  rw [e1, e2]; exact h
theorem Did.of {B p : Nat} {S' : DS} {F F1 : Nat → Prop} {W W1 W2 : World} (h1 : Only F W W1) (hF : ∀ k, F1 k → F k ∨ W.heap.size ≤ k) (h : Did B p S' F1 W1 W2) : Did B p S' F W W2 := by
  obtain ⟨F2, d, o, f⟩ := h
  exact ⟨F2, d, h1.trans o hF, fun k hk => (f k hk).elim (hF k) (fun e => .inr (Nat.le_trans h1.size e))⟩
theorem DK.opsUp {F : Nat → Prop} (h : DK B p S F W) (o : Int) : DK B p { S with ops := o } F (W.setCell ⟨p, 4, none⟩ (.int .i64 o)) ∧ Only F W (W.setCell ⟨p, 4, none⟩ (.int .i64 o)) := by
  obtain ⟨lb, lc, rb, rc, mb, wv, h1, h2⟩ := h
  exact ⟨⟨lb, lc, rb, rc, mb, wv, h1.setO o, h2⟩, only_set _ _ ((h2 p).2 (.inl rfl))⟩
theorem DK.cell4 {F : Nat → Prop} (h : DK B p S F W) : W.cell? ⟨p, 4, none⟩ = some (.int .i64 S.ops) ∧ W.frozen? ⟨p, 4, none⟩ = false := by
  obtain ⟨lb, lc, rb, rc, mb, wv, h1, h2⟩ := h
  exact ⟨h1.cell 4, h1.frozen 4⟩
set_option maxHeartbeats 1000000 in
theorem sync_calls (h : DK B p S F W) (hok : S.ok) (ha : S.armed ≤ 9223372036854775807) (hn : S.waits.length ≤ 1000000) (ho0 : 0 ≤ S.ops) (ho : S.ops ≤ 4611686018427387904) :
    Calls Tryd.prog 18 #[.pointer (some ⟨p, 0, none⟩)] W fun e W' => e = .returned (.int .i64 S.sync.2) ∧ Did B p S.sync.1 F W W' := by
  have KF := Aside0.mk (fails_calls h ha)
  cases hf : S.fails.2 with
  | true =>
    have e : S.sync = (S.fails.1, 7) := by unfold DS.sync; rw [if_pos hf]
    rw [e]
    rw [hf] at KF
    clear e hf h hok ha
    go_enter Tryd.func18, Tryd.ntmps18
    go_wp2_with fail
    refine KF.out.mono ?_
    rintro e w1 ⟨rfl, h1, h2⟩
    have H1 := Aside0.mk (And.intro h1 h2)
    clear h1 h2
    go_wp2
    go_ret
    exact ⟨rfl, F, H1.out.1, H1.out.2, fun _ e => .inl e⟩
  | false =>
    have e : S.sync = ({ S.fails.1.crash (fun _ => true) with ops := S.ops + 1 }, 0) := by unfold DS.sync; rw [if_neg (by rw [hf]; decide)]
    rw [e]
    rw [hf] at KF
    obtain ⟨fl, fw, fo⟩ := fails_lasts S
    have hok1 := fails_ok hok
    obtain ⟨S1, hS1⟩ : ∃ x, S.fails.1 = x := ⟨_, rfl⟩
    rw [hS1] at KF fl fw fo hok1 ⊢
    rw [← fw] at hn
    rw [← fo] at ho0 ho ⊢
    have HOK := Aside0.mk hok1
    have HN := Aside0.mk hn
    clear e hf h hok ha fl fw fo hS1 hok1 hn
    go_enter Tryd.func18, Tryd.ntmps18
    go_wp2_with fail
    refine KF.out.mono ?_
    rintro e W1 ⟨rfl, h1, h2⟩
    have H1 := Aside0.mk (And.intro h1 h2)
    clear h1 h2 KF
    go_wp2_with fail
    refine (settle_sync H1.out.1 HOK.out HN.out (fun _ => true) (fun V _ j _ => sync1_calls j V)).mono ?_
    rintro e W2 ⟨rfl, F2, d, o, f⟩
    have hops : (S1.crash (fun _ => true)).ops = S1.ops := rfl
    obtain ⟨c4, f4⟩ := d.cell4
    rw [hops] at c4
    have HD := Aside0.mk (show Did B p { S1.crash (fun _ => true) with ops := S1.ops + 1 } F W (W2.setCell ⟨p, 4, none⟩ (.int .i64 (S1.ops + 1))) from by
      obtain ⟨u1, u2⟩ := d.opsUp (S1.ops + 1)
      refine Did.of H1.out.2 (fun k e => .inl e) (Did.of o f ⟨F2, u1, u2, fun _ e => .inl e⟩))
    clear d o f hops H1
    obtain ⟨op, hop⟩ : ∃ x, S1.ops = x := ⟨_, rfl⟩
    rw [hop] at c4 ho ho0 HD
    have HOP := Aside0.mk hop
    clear hop
    go_wp2
    go_ret
    exact ⟨rfl, by rw [HOP.out]; exact HD.out⟩
def KeepAt (F : Nat → Prop) (A : Option Addr) (ks : List Bool) (V : World) : Prop := ∀ i (h : i < ks.length), ∃ a b o, A = some ⟨b, o, none⟩ ∧ a = o + i ∧ ¬ F b ∧ V.cell? ⟨b, a, none⟩ = some (.bool (ks[i]'h))
theorem KeepAt.only {F : Nat → Prop} {A : Option Addr} {ks : List Bool} {V V' : World} (h : KeepAt F A ks V) (o : Only F V V') : KeepAt F A ks V' := fun i hi => by
  obtain ⟨a, b, o', e, e2, hn, hc⟩ := h i hi
  refine ⟨a, b, o', e, e2, hn, ?_⟩
  have hlt : b < V.heap.size := World.block_lt_of_cell? V _ hc
  exact (World.cell?_of_block (o.block b hlt hn)).trans hc
theorem crash1_calls (kb : Nat) (A : Option Addr) (c : Nat) (ks : List Bool) (j : Nat) (V : World) (h1 : V.cell? ⟨kb, 0, none⟩ = some (.slice A ks.length c)) (h2 : KeepAt F A ks V) (hl : ks.length ≤ 1000000) :
    Calls Tryd.prog 49 #[.int .i64 (j : Nat), .pointer (some ⟨kb, 0, none⟩)] V fun e w' => e = .returned (.bool (ks.getD j false)) ∧ V = w' := by
  by_cases hj : j < ks.length
  · obtain ⟨a, b, o, rfl, rfl, _, hc⟩ := h2 j hj
    obtain ⟨n, hn⟩ : ∃ n, ks.length = n := ⟨_, rfl⟩
    have e : ks.getD j false = ks[j]'hj := by rw [List.getD_eq_getElem?_getD, List.getElem?_eq_getElem hj]; rfl
    rw [e]
    obtain ⟨x, hx⟩ : ∃ x, ks[j]'hj = x := ⟨_, rfl⟩
    rw [hx] at hc ⊢
    rw [hn] at h1 hj
    have hj2 : (j : Int) < (n : Int) := by omega
    clear hn e hx h2
    go_enter Tryd.func49, Tryd.ntmps49
    go_wp2
    go_ret
    exact ⟨rfl, rfl⟩
  · have e : ks.getD j false = false := by rw [List.getD_eq_getElem?_getD, List.getElem?_eq_none (by omega)]; rfl
    rw [e]
    obtain ⟨n, hn⟩ : ∃ n, ks.length = n := ⟨_, rfl⟩
    rw [hn] at h1 hj
    have hj2 : decide ((j : Int) < (n : Int)) = false := decide_eq_false (by omega)
    clear hn e h2
    go_enter Tryd.func49, Tryd.ntmps49
    go_wp2
    go_ret
    exact ⟨rfl, rfl⟩
set_option maxHeartbeats 1000000 in
theorem crash_calls (h : DK B p S F W) (hok : S.ok) (hn : S.waits.length ≤ 1000000) (A : Option Addr) (c : Nat) (ks : List Bool) (hk : KeepAt F A ks W) (hl : ks.length ≤ 1000000) :
    Calls Tryd.prog 14 #[.pointer (some ⟨p, 0, none⟩), .slice A ks.length c] W fun e W' => e = .returned (.tuple #[]) ∧ Did B p (S.crash (fun j => ks.getD j false)) F W W' := by
  have hba : Below W.heap.size W (W.alloc (.cells #[.slice A ks.length c] 23)) := (Below.refl _ _).alloc (Nat.le_refl _) _
  have hO : Only F W (W.alloc (.cells #[.slice A ks.length c] 23)) := only_below hba
  have hD := h.below hba
  have hK := hk.only hO
  have hcc : (W.alloc (.cells #[.slice A ks.length c] 23)).heap[W.heap.size]? = some (.cells #[.slice A ks.length c] 23 (0, 0)) := heap_alloc_new W _
  have hnF : ¬ F W.heap.size := fun e => by have := (h.lt e).2; omega
  have KS := Aside0.mk (settle_crash (kb := W.heap.size) hD hok hn (fun j => ks.getD j false) (fun V oV j _ => by
    have o1 := oV.small
    have hlt : W.heap.size < (W.alloc (.cells #[.slice A ks.length c] 23)).heap.size := by simp
    have c1 : V.cell? ⟨W.heap.size, 0, none⟩ = some (.slice A ks.length c) := cell_of_row V W.heap.size 0 _ _ _ ((o1.block W.heap.size hlt hnF).trans hcc)
    exact crash1_calls W.heap.size A c ks j V c1 (hK.only o1) hl))
  have HO := Aside0.mk hO
  clear h hok hn hk hl hba hO hD hK hcc hnF
  go_enter Tryd.func14, Tryd.ntmps14
  go_wp2_with fail
  refine KS.out.mono ?_
  rintro e W2 ⟨rfl, hd⟩
  have HD := Aside0.mk (Did.of HO.out (fun k e => .inl e) hd)
  clear hd KS HO
  go_wp2
  go_end0
  exact ⟨rfl, HD.out⟩
end Go.Proofs.YtknbhgodhmcemaaDoor.Dk
namespace Go.Proofs.YtknbhgodhmcemaaDoor.Dk
set_option linter.unusedSimpArgs false
set_option linter.unusedVariables false
set_option maxRecDepth 100000
open Go.RowKit Go.Proofs.YtknbhgodhmcemaaDoor.Own Go.Proofs.YtknbhgodhmcemaaDoor.Cel
def DW (w : World) (p : Nat) (S : DS) (V : World) : Prop := ∃ F, DK w.heap.size p S F V ∧ Below w.heap.size w V
theorem DW.step {w V V' : World} {p : Nat} {S : DS} (h : DW w p S V) (hb : Below V.heap.size V V') : DW w p S V' := by
  obtain ⟨F, d, b⟩ := h
  exact ⟨F, d.below hb, b.trans (hb.mono b.size)⟩
theorem DW.did {w V V' : World} {p : Nat} {S S' : DS} {F : Nat → Prop} (d : DK w.heap.size p S F V) (b : Below w.heap.size w V) (h : Did w.heap.size p S' F V V') : DW w p S' V' := by
  obtain ⟨F', d', o, f⟩ := h
  exact ⟨F', d', b.trans (o.below (fun k hk => (d.lt hk).1) b.size)⟩
theorem DW.new {w V : World} {p : Nat} {S : DS} {F : Nat → Prop} (d : DK w.heap.size p S F V) (b : Below w.heap.size w V) : DW w p S V := ⟨F, d, b⟩
theorem DW.write {w V : World} {p : Nat} {S : DS} (h : DW w p S V) (ha : S.armed ≤ 9223372036854775807) (hn : S.waits.length ≤ 1000000) (ho0 : 0 ≤ S.ops) (ho : S.ops ≤ 4611686018427387904) (i : Int) (s : ByteArray) (hi0 : -9223372036854775808 ≤ i) (hi1 : i ≤ 9223372036854775807) :
    Calls Tryd.prog 28 #[.pointer (some ⟨p, 0, none⟩), .int .i64 i, .string s] V fun e W' => e = .returned (.int .i64 (S.put i s).2) ∧ DW w p (S.put i s).1 W' := by
  obtain ⟨F, d, b⟩ := h
  exact (write_calls d ha hn ho0 ho i s hi0 hi1).mono fun _ _ ⟨e, h⟩ => ⟨e, DW.did d b h⟩
theorem DW.read {w V : World} {p : Nat} {S : DS} (h : DW w p S V) (i : Int) :
    Calls Tryd.prog 39 #[.pointer (some ⟨p, 0, none⟩), .int .i64 i] V fun e W' => e = .returned (.tuple #[.string (S.readAt i).1, .int .i64 (S.readAt i).2]) ∧ V = W' := by
  obtain ⟨F, d, b⟩ := h
  exact read_calls d i
theorem DW.size {w V : World} {p : Nat} {S : DS} (h : DW w p S V) :
    Calls Tryd.prog 68 #[.pointer (some ⟨p, 0, none⟩)] V fun e W' => e = .returned (.int .i64 (S.lasts.length : Nat)) ∧ V = W' := by
  obtain ⟨F, d, b⟩ := h
  exact size_calls d
theorem DW.ops {w V : World} {p : Nat} {S : DS} (h : DW w p S V) :
    Calls Tryd.prog 70 #[.pointer (some ⟨p, 0, none⟩)] V fun e W' => e = .returned (.int .i64 S.ops) ∧ V = W' := by
  obtain ⟨F, d, b⟩ := h
  exact ops_calls d
theorem DW.crash0 {w V : World} {p : Nat} {S : DS} (h : DW w p S V) (hok : S.ok) (hn : S.waits.length ≤ 1000000) :
    Calls Tryd.prog 14 #[.pointer (some ⟨p, 0, none⟩), .slice none 0 0] V fun e W' => e = .returned (.tuple #[]) ∧ DW w p { S with waits := [] } W' := by
  obtain ⟨F, d, b⟩ := h
  refine (crash_calls d hok hn none 0 [] (fun i h => absurd h (by simp)) (by simp)).mono fun _ _ ⟨e, h⟩ => ⟨e, ?_⟩
  have e2 : S.crash (fun j => [].getD j false) = { S with waits := [] } := by
    unfold DS.crash
    rw [keptW_none _ _ _ (fun j _ _ => by simp)]; rfl
  rw [e2] at h
  exact DW.did d b h
set_option maxHeartbeats 1000000 in
theorem awake12_calls (w : World) : Calls Tryd.prog 41 #[] w fun e w' => e = .returned (.bool true) ∧ Below w.heap.size w w' := by
  have p1 : DS.put ⟨List.replicate 2 (sect 0), [], 0, 0⟩ 0 (sect 7) = (⟨List.replicate 2 (sect 0), [(0, sect 7)], 0, 1⟩, 0) := put_ok ⟨by decide, by decide⟩ (sect_size 7) rfl
  have r1 : DS.readAt ⟨List.replicate 2 (sect 0), [(0, sect 7)], 0, 1⟩ 0 = (sect 7, 0) := rfl
  have r2 : DS.readAt ⟨List.replicate 2 (sect 0), [], 0, 1⟩ 0 = (sect 0, 0) := rfl
  have ok1 : DS.ok ⟨List.replicate 2 (sect 0), [(0, sect 7)], 0, 1⟩ := fun x hx => by
    simp only [List.mem_singleton] at hx
    subst hx
    show 0 < (List.replicate 2 (sect 0)).length
    simp
  have KN := Aside0.mk (new_good 2 w (by omega) (by omega))
  have KF := Aside0.mk (fun V => fill_calls 7 V)
  rw [show (((7 : UInt8).toNat : Nat) : Int) = 7 by decide] at KF
  rw [show ((2 : Nat) : Int) = 2 by rfl] at KN
  have P1 := Aside0.mk p1
  have R1 := Aside0.mk r1
  have R2 := Aside0.mk r2
  have OK1 := Aside0.mk ok1
  clear p1 r1 r2 ok1
  go_enter Tryd.func41, Tryd.ntmps41
  go_wp2_with fail
  refine KN.out.mono ?_
  rintro x w1 ⟨p, F, rfl, d, b⟩
  have HD := Aside0.mk (DW.new d b)
  clear d b KN
  go_wp2_with fail
  refine (KF.out _).mono ?_
  rintro x w2 ⟨rfl, hb⟩
  replace HD := Aside0.mk (HD.out.step hb)
  clear hb
  go_wp2_with fail
  refine (HD.out.write (by decide) (by decide) (by decide) (by decide) 0 (sect 7) (by decide) (by decide)).mono ?_
  rw [P1.out]
  rintro x w3 ⟨rfl, hd⟩
  replace HD := Aside0.mk hd
  clear hd
  go_wp2_with fail
  refine (HD.out.read 0).mono ?_
  rw [R1.out]
  rintro x w4 ⟨rfl, rfl⟩
  go_wp2_with fail
  refine (HD.out.crash0 OK1.out (by decide)).mono ?_
  rintro x w5 ⟨rfl, hd⟩
  replace HD := Aside0.mk hd
  clear hd
  go_wp2_with fail
  refine (HD.out.read 0).mono ?_
  rw [R2.out]
  rintro x w6 ⟨rfl, rfl⟩
  generalize sect 7 = s7 at *
  go_wp2_with fail
  refine (KF.out _).mono ?_
  rintro x w7 ⟨rfl, hb⟩
  replace HD := Aside0.mk (HD.out.step hb)
  clear hb
  go_wp2_with fail
  refine (rblank_calls _).mono ?_
  rintro x w8 ⟨rfl, hb⟩
  replace HD := Aside0.mk (HD.out.step hb)
  clear hb
  generalize sect 0 = s0 at *
  go_wp2_with fail
  refine HD.out.size.mono ?_
  rintro x w9 ⟨rfl, rfl⟩
  go_wp2
  go_ret
  obtain ⟨F', d', b'⟩ := HD.out
  exact ⟨rfl, b'⟩
end Go.Proofs.YtknbhgodhmcemaaDoor.Dk
namespace Go.Proofs.YtknbhgodhmcemaaDoor.Lg
set_option linter.unusedSimpArgs false
set_option linter.unusedVariables false
set_option maxRecDepth 100000
open Go.RowKit Go.Proofs.YtknbhgodhmcemaaDoor.Own Go.Proofs.YtknbhgodhmcemaaDoor.Cel Go.Proofs.YtknbhgodhmcemaaDoor.Dk
def logV (fr room g nx : Nat) : Array Value := #[.int .i64 (fr : Nat), .int .i64 (room : Nat), .int .u64 (g : Nat), .int .i64 (nx : Nat)]
variable {B p : Nat} {S : DS} {F : Nat → Prop} {W : World}
theorem DK.drewN (h : DK B p S F W) (n : Nat) : DK B p S F (W.drewN n) := h.keep (fun _ _ => rfl)
end Go.Proofs.YtknbhgodhmcemaaDoor.Lg
namespace Go.Proofs.YtknbhgodhmcemaaDoor.Lg
set_option linter.unusedSimpArgs false
set_option linter.unusedVariables false
set_option maxRecDepth 100000
open Go.RowKit Go.Proofs.YtknbhgodhmcemaaDoor.Own Go.Proofs.YtknbhgodhmcemaaDoor.Cel Go.Proofs.YtknbhgodhmcemaaDoor.Dk
open Go.Proofs.YtknbhgodhmcemaaDoor.Sl (closeS close_calls openS recV rc)
def AB (B p : Nat) (F : Nat → Prop) (W : World) (b3 b6 : Nat) (S : DS) (x y : Array Value) (V : World) : Prop :=
  (∃ F', DK B p S F' V ∧ (∀ k, F' k → F k ∨ W.heap.size ≤ k) ∧ ¬ F' b3 ∧ ¬ F' b6) ∧ Only (Big F W) W V ∧ V.heap[b3]? = some (.cells x 31 (0, 0)) ∧ V.heap[b6]? = some (.cells y 31 (0, 0)) ∧ W.heap.size ≤ b3 ∧ W.heap.size ≤ b6 ∧ b3 ≠ b6
variable {B p : Nat} {S : DS} {F : Nat → Prop} {W V V' : World} {b3 b6 : Nat} {x y : Array Value}
theorem AB.z3 (h : AB B p F W b3 b6 S x y V) : V.heap[b3]? = some (.cells x 31 (0, 0)) := h.2.2.1
theorem AB.z6 (h : AB B p F W b3 b6 S x y V) : V.heap[b6]? = some (.cells y 31 (0, 0)) := h.2.2.2.1
theorem AB.lt3 (h : AB B p F W b3 b6 S x y V) : b3 < V.heap.size := (Array.getElem?_eq_some_iff.1 h.z3).1
theorem AB.lt6 (h : AB B p F W b3 b6 S x y V) : b6 < V.heap.size := (Array.getElem?_eq_some_iff.1 h.z6).1
theorem AB.did (h : AB B p F W b3 b6 S x y V) {S' : DS} (hd : ∀ F', DK B p S F' V → ¬ F' b3 → ¬ F' b6 → Did B p S' F' V V') : AB B p F W b3 b6 S' x y V' := by
  have l3 := h.lt3
  have l6 := h.lt6
  obtain ⟨⟨F', d, f, n3, n6⟩, o, z3, z6, l⟩ := h
  obtain ⟨F2, d2, o2, f2⟩ := hd F' d n3 n6
  refine ⟨⟨F2, d2, fun k hk => ?_, fun hk => ?_, fun hk => ?_⟩, o.trans o2 (fun k hk => .inl (f k hk)), (o2.block b3 l3 n3).trans z3, (o2.block b6 l6 n6).trans z6, l⟩
  · rcases f2 k hk with e | e
    · exact f k e
    · exact .inr (Nat.le_trans o.size e)
  · rcases f2 b3 hk with e | e
    · exact n3 e
    · omega
  · rcases f2 b6 hk with e | e
    · exact n6 e
    · omega
end Go.Proofs.YtknbhgodhmcemaaDoor.Lg
namespace Go.Proofs.YtknbhgodhmcemaaDoor.Sl
set_option linter.unusedSimpArgs false
set_option linter.unusedVariables false
set_option maxRecDepth 100000
open Go.RowKit
theorem low4 (b q : List UInt8) (hb : b.length = 124) : low (b ++ q) 124 4 = (q.getD 0 0).toNat + (q.getD 1 0).toNat * 256 + (q.getD 2 0).toNat * 65536 + (q.getD 3 0).toNat * 16777216 := by
  have g : ∀ i, (b ++ q).getD (124 + i) 0 = q.getD i 0 := fun i => by
    rw [List.getD_eq_getElem?_getD, List.getElem?_append_right (by omega), hb, List.getD_eq_getElem?_getD, Nat.add_sub_cancel_left]
  simp only [low, g]
  omega
theorem low_inj {b p q : List UInt8} (hb : b.length = 124) (hp : p.length = 4) (hq : q.length = 4) (h : low (b ++ p) 124 4 = low (b ++ q) 124 4) : p = q := by
  rw [low4 b p hb, low4 b q hb] at h
  match p, q, hp, hq with
  | [p0, p1, p2, p3], [q0, q1, q2, q3], _, _ =>
    simp only [List.getD_cons_zero, List.getD_cons_succ] at h
    have a0 := p0.toNat_lt; have a1 := p1.toNat_lt; have a2 := p2.toNat_lt; have a3 := p3.toNat_lt
    have b0 := q0.toNat_lt; have b1 := q1.toNat_lt; have b2 := q2.toNat_lt; have b3 := q3.toNat_lt
    have e0 : p0 = q0 := UInt8.toNat_inj.1 (by omega)
    have e1 : p1 = q1 := UInt8.toNat_inj.1 (by omega)
    have e2 : p2 = q2 := UInt8.toNat_inj.1 (by omega)
    have e3 : p3 = q3 := UInt8.toNat_inj.1 (by omega)
    rw [e0, e1, e2, e3]
theorem lb_low (b q : List UInt8) (hb : b.length = 124) (hq : q.length = 4) : lb (low (b ++ q) 124 4) 4 = q := by
  have hlt : low (b ++ q) 124 4 < 4294967296 := low_lt _ _ 4
  exact low_inj hb (lb_len _ _) hq (low_lb b hb _ hlt)
theorem val_inj : ∀ (n : Nat) (l m : List UInt8), l.length = n → m.length = n → val l = val m → l = m
  | 0, l, m, hl, hm, _ => by rw [List.length_eq_zero_iff.1 hl, List.length_eq_zero_iff.1 hm]
  | n + 1, l, m, hl, hm, h => by
    have el : l = l.take n ++ [l[n]'(by omega)] := by rw [← List.take_succ_eq_append_getElem, List.take_of_length_le (by omega)]
    have em : m = m.take n ++ [m[n]'(by omega)] := by rw [← List.take_succ_eq_append_getElem, List.take_of_length_le (by omega)]
    rw [el, em, val_snoc, val_snoc] at h
    have a := (l[n]'(by omega)).toNat_lt
    have b := (m[n]'(by omega)).toNat_lt
    have h1 : val (l.take n) = val (m.take n) := by omega
    have h2 : l[n]'(by omega) = m[n]'(by omega) := UInt8.toNat_inj.1 (by omega)
    have ih := val_inj n (l.take n) (m.take n) (by rw [List.length_take]; omega) (by rw [List.length_take]; omega) h1
    rw [el, em, ih, h2]
theorem val_be (l : List UInt8) : be (val l) l.length = l :=
  val_inj l.length _ _ (be_len _ _) rfl (be_val (val_lt l))
theorem seg_append (l : List UInt8) (a b c : Nat) (h1 : a ≤ b) (h2 : b ≤ c) : (l.take b).drop a ++ (l.take c).drop b = (l.take c).drop a := by
  rw [List.drop_take, List.drop_take, List.drop_take, show c - a = (b - a) + (c - b) by omega, List.take_add, List.drop_drop, show a + (b - a) = b by omega]
theorem seg_one (l : List UInt8) (j : Nat) (h : j < l.length) : (l.take (j + 1)).drop j = [l.getD j 0] := by
  rw [List.drop_take, show j + 1 - j = 1 by omega, List.drop_eq_getElem_cons h, List.getD_eq_getElem?_getD, List.getElem?_eq_getElem h]; rfl
theorem ext_toList (s : ByteArray) (a b : Nat) : (s.extract a b).data.toList = (s.data.toList.take b).drop a := by
  rw [ByteArray.data_extract, Array.toList_extract, List.drop_take]
theorem close_opened (s : ByteArray) (h1 : s.size = 128) (h3 : sumN (s.extract 0 124).data.toList = low s.data.toList 124 4) (h4 : (s.data.toList.getD 13 0).toNat ≤ 110)
    (h5 : blankB (s.extract (14 + (s.data.toList.getD 13 0).toNat) 124).data.toList = true) :
    closeS (s.data.toList.getD 0 0).toNat (val (s.extract 1 9).data.toList) (val (s.extract 9 13).data.toList) (s.extract 14 (14 + (s.data.toList.getD 13 0).toNat)) = (s, 0) := by
  obtain ⟨n, hn⟩ : ∃ n, (s.data.toList.getD 13 0).toNat = n := ⟨_, rfl⟩
  rw [hn] at h4 h5 ⊢
  obtain ⟨L, hL⟩ : ∃ L, s.data.toList = L := ⟨_, rfl⟩
  have hll : L.length = 128 := by rw [← hL, Array.length_toList]; exact h1
  have hds : (s.extract 14 (14 + n)).size = n := by rw [ByteArray.size_extract]; omega
  have hdl : (s.extract 14 (14 + n)).data.toList.length = n := by rw [Array.length_toList]; exact hds
  rw [close_ok _ _ _ _ (by rw [hds]; exact h4)]
  simp only [ext_toList, hL] at h3 h5 hdl ⊢
  rw [hL] at hn
  have hb : body (L.getD 0 0).toNat (val ((L.take 9).drop 1)) (val ((L.take 13).drop 9)) ((L.take (14 + n)).drop 14) = (L.take 124).drop 0 := by
    rw [body, head14, hdl]
    have a0 : be (L.getD 0 0).toNat 1 = (L.take 1).drop 0 := by rw [seg_one L 0 (by omega), be1]; simp
    have a1 : be (val ((L.take 9).drop 1)) 8 = (L.take 9).drop 1 := by
      have := val_be ((L.take 9).drop 1)
      rwa [show ((L.take 9).drop 1).length = 8 by rw [List.length_drop, List.length_take]; omega] at this
    have a2 : be (val ((L.take 13).drop 9)) 4 = (L.take 13).drop 9 := by
      have := val_be ((L.take 13).drop 9)
      rwa [show ((L.take 13).drop 9).length = 4 by rw [List.length_drop, List.length_take]; omega] at this
    have a3 : be n 1 = (L.take 14).drop 13 := by rw [seg_one L 13 (by omega), be1, ← hn]; simp
    have a4 : List.replicate (110 - n) 0 = (L.take 124).drop (14 + n) := by
      have := (blank_iff _).1 h5
      rw [this, List.length_drop, List.length_take, hll]; congr 1; omega
    rw [a0, a1, a2, a3, a4, seg_append _ _ _ _ (by omega) (by omega), seg_append _ _ _ _ (by omega) (by omega), seg_append _ _ _ _ (by omega) (by omega), seg_append _ _ _ _ (by omega) (by omega), seg_append _ _ _ _ (by omega) (by omega)]
  rw [sector, hb]
  have hq : lb (sumN ((L.take 124).drop 0)) 4 = L.drop 124 := by
    rw [h3]
    have := lb_low (L.take 124) (L.drop 124) (by rw [List.length_take]; omega) (by rw [List.length_drop]; omega)
    rwa [List.take_append_drop] at this
  rw [hq, List.drop_zero, List.take_append_drop, ← hL]
theorem open_back (s : ByteArray) : (openS s).1.k < 256 ∧ (openS s).1.g < 18446744073709551616 ∧ (openS s).1.i < 4294967296 ∧ ((openS s).2 = 0 → closeS (openS s).1.k (openS s).1.g (openS s).1.i (openS s).1.d = (s, 0)) := by
  have z : ∀ c : Int, c ≠ 0 → (Rec.zero, c).1.k < 256 ∧ (Rec.zero, c).1.g < 18446744073709551616 ∧ (Rec.zero, c).1.i < 4294967296 ∧ ((Rec.zero, c).2 = 0 → closeS (Rec.zero, c).1.k (Rec.zero, c).1.g (Rec.zero, c).1.i (Rec.zero, c).1.d = (s, 0)) :=
    fun c hc => ⟨by show (0 : Nat) < 256; decide, by show (0 : Nat) < 18446744073709551616; decide, by show (0 : Nat) < 4294967296; decide, fun e => absurd e hc⟩
  by_cases h1 : s.size = 128
  · cases h2 : blankB s.data.toList with
    | true => rw [openS_blank h1 h2]; exact z 16 (by decide)
    | false =>
      by_cases h3 : sumN (s.extract 0 124).data.toList = low s.data.toList 124 4
      · by_cases h4 : (s.data.toList.getD 13 0).toNat ≤ 110
        · cases h5 : blankB (s.extract (14 + (s.data.toList.getD 13 0).toNat) 124).data.toList with
          | false => rw [openS_form h1 h2 h3 (.inr h5)]; exact z 4 (by decide)
          | true =>
            rw [openS_ok h1 h2 h3 h4 h5]
            have v1 := val_lt (s.extract 1 9).data.toList
            have v2 := val_lt (s.extract 9 13).data.toList
            rw [show (s.extract 1 9).data.toList.length = 8 by rw [Array.length_toList]; show (s.extract 1 9).size = 8; rw [ByteArray.size_extract]; omega] at v1
            rw [show (s.extract 9 13).data.toList.length = 4 by rw [Array.length_toList]; show (s.extract 9 13).size = 4; rw [ByteArray.size_extract]; omega] at v2
            exact ⟨(s.data.toList.getD 0 0).toNat_lt, v1, v2, fun _ => close_opened s h1 h3 h4 h5⟩
        · rw [openS_form h1 h2 h3 (.inl (by omega))]; exact z 4 (by decide)
      · rw [openS_sum h1 h2 h3]; exact z 8 (by decide)
  · rw [openS_len h1]; exact z 4 (by decide)
end Go.Proofs.YtknbhgodhmcemaaDoor.Sl
namespace Go.Proofs.YtknbhgodhmcemaaDoor.Lg
set_option linter.unusedSimpArgs false
set_option linter.unusedVariables false
set_option maxRecDepth 100000
open Go.RowKit Go.Proofs.YtknbhgodhmcemaaDoor.Own Go.Proofs.YtknbhgodhmcemaaDoor.Cel Go.Proofs.YtknbhgodhmcemaaDoor.Dk
open Go.Proofs.YtknbhgodhmcemaaDoor.Sl (openS open_calls recV recV_one Rec)
abbrev zLog : Array Value := #[.int .i64 0, .int .i64 0, .int .u64 0, .int .i64 0]
def RP (B p : Nat) (S : DS) (F : Nat → Prop) (W : World) (x : Array Value) (v : Value) (acc : List ByteArray) (V : World) : Prop :=
  DK B p S F V ∧ Below W.heap.size W V ∧ V.heap[W.heap.size]? = some (.cells zLog 31 (0, 0)) ∧ V.heap[W.heap.size + 1]? = some (.cells x 31 (0, 0)) ∧ V.ownsRow (W.heap.size + 2) 9 1 v acc.length (strs acc)
variable {B p : Nat} {S : DS} {F : Nat → Prop} {W V V' : World} {x : Array Value} {v : Value} {acc : List ByteArray}
theorem RP.z8 (h : RP B p S F W x v acc V) : V.heap[W.heap.size]? = some (.cells zLog 31 (0, 0)) := h.2.2.1
theorem RP.z11 (h : RP B p S F W x v acc V) : V.heap[W.heap.size + 1]? = some (.cells x 31 (0, 0)) := h.2.2.2.1
theorem RP.size (h : RP B p S F W x v acc V) : W.heap.size + 2 ≤ V.heap.size := (Array.getElem?_eq_some_iff.1 h.z11).1
theorem RP.set (h : RP B p S F W x v acc V) (j : Nat) (u : Value) (hlt : ∀ q, F q → q < W.heap.size) : RP B p S F W (x.setIfInBounds j u) v acc (V.setCell ⟨W.heap.size + 1, j, none⟩ u) := by
  obtain ⟨d, b, z8, z11, r⟩ := h
  have so : ∀ k, k ≠ W.heap.size + 1 → (V.setCell ⟨W.heap.size + 1, j, none⟩ u).heap[k]? = V.heap[k]? := fun k hk => set_other V _ _ k hk
  exact ⟨d.keep (fun q hq => so q (by have := hlt q hq; omega)), b.setCell (p := ⟨W.heap.size + 1, j, none⟩) (by show W.heap.size ≤ W.heap.size + 1; omega) _, (so _ (by omega)).trans z8, heap_setCell_same V _ j _ _ u z11, owns_block r (fun g e => so g (by have := (r.lt g e).1; omega))⟩
theorem RP.read (h : RP B p S F W x v acc V) (i : Int) : Calls Tryd.prog 39 #[.pointer (some ⟨p, 0, none⟩), .int .i64 i] V fun e V' => e = .returned (.tuple #[.string (S.readAt i).1, .int .i64 (S.readAt i).2]) ∧ V = V' := read_calls h.1 i
end Go.Proofs.YtknbhgodhmcemaaDoor.Lg
namespace Go.Proofs.YtknbhgodhmcemaaDoor.Lg
set_option linter.unusedSimpArgs false
set_option linter.unusedVariables false
set_option maxRecDepth 100000
open Go.RowKit Go.Proofs.YtknbhgodhmcemaaDoor.Own Go.Proofs.YtknbhgodhmcemaaDoor.Cel Go.Proofs.YtknbhgodhmcemaaDoor.Dk
def DY (w : World) (p : Nat) (S : DS) (X : List (Nat × Obj)) (v : Value) (xs : List ByteArray) (V : World) : Prop :=
  ∃ F, DK w.heap.size p S F V ∧ Below w.heap.size w V ∧ (∀ x ∈ X, V.heap[x.1]? = some x.2 ∧ ¬ F x.1 ∧ v.ownBlock ≠ some x.1) ∧ V.ownsRow w.heap.size 9 1 v xs.length (strs xs) ∧ ∀ k, v.ownBlock = some k → ¬ F k
variable {w V V' : World} {p b : Nat} {t : TypeId} {old : Array Value} {S S' : DS} {X : List (Nat × Obj)} {v : Value} {xs : List ByteArray}
theorem DY.bel (h : DY w p S X v xs V) : Below w.heap.size w V := by obtain ⟨F, d, b, _⟩ := h; exact b
theorem DY.step (h : DY w p S X v xs V) (hb : Below V.heap.size V V') : DY w p S X v xs V' := by
  obtain ⟨F, d, b, hx, r, n⟩ := h
  exact ⟨F, d.below hb, b.trans (hb.mono b.size), fun x hm => ⟨keep (hx x hm).1 hb, (hx x hm).2⟩, owns_keep r hb, n⟩
theorem DY.did (h : DY w p S X v xs V) {f : FuncId} {args : Array Value} {Q : Ending → Prop} (hc : ∀ F, DK w.heap.size p S F V → Calls Tryd.prog f args V fun e V' => Q e ∧ Did w.heap.size p S' F V V') :
    Calls Tryd.prog f args V fun e V' => Q e ∧ DY w p S' X v xs V' := by
  have h0 := h
  obtain ⟨F, d, b, hx, r, n⟩ := h
  refine (hc F d).mono fun e V' ⟨q, hd⟩ => ⟨q, ?_⟩
  obtain ⟨F2, d2, o, f⟩ := hd
  refine ⟨F2, d2, b.trans (o.below (fun k hk => (d.lt hk).1) b.size), fun x hm => ?_, owns_block r (fun g e => o.block g (r.lt g e).2 (n g e)), fun k e hk => ?_⟩
  · obtain ⟨a1, a2, a3⟩ := hx x hm
    have hlt : x.1 < V.heap.size := (Array.getElem?_eq_some_iff.1 a1).1
    refine ⟨(o.block x.1 hlt a2).trans a1, fun hk => ?_, a3⟩
    rcases f x.1 hk with e | e
    · exact a2 e
    · omega
  · rcases f k hk with hk | hk
    · exact n k e hk
    · have := (r.lt k e).2
      omega
theorem DY.dk (h : DY w p S X v xs V) : ∃ F, DK w.heap.size p S F V := by obtain ⟨F, d, _⟩ := h; exact ⟨F, d⟩
theorem DY.at (h : DY w p S X v xs V) {b : Nat} {o : Obj} (hm : (b, o) ∈ X) : V.heap[b]? = some o := by obtain ⟨F, d, _, hx, _⟩ := h; exact (hx _ hm).1
end Go.Proofs.YtknbhgodhmcemaaDoor.Lg
namespace Go.Proofs.YtknbhgodhmcemaaDoor.Lg
set_option linter.unusedSimpArgs false
set_option linter.unusedVariables false
set_option maxRecDepth 100000
open Go.RowKit Go.Proofs.YtknbhgodhmcemaaDoor.Own Go.Proofs.YtknbhgodhmcemaaDoor.Cel Go.Proofs.YtknbhgodhmcemaaDoor.Dk
theorem below_drewN0 {V W : World} {B : Nat} (h : Below B V W) (n : Nat) : Below B V (W.drewN n) := h.trans ⟨rfl, rfl, rfl, Nat.le_refl _, fun _ _ => rfl⟩
theorem str_ne {x y : ByteArray} (h : x ≠ y) : (x.toList == y.toList) = false := by
  rw [beq_eq_false_iff_ne, ByteArray.toList_eq, ByteArray.toList_eq]
  intro e
  exact h (ByteArray.ext (Array.toList_inj.1 e))
end Go.Proofs.YtknbhgodhmcemaaDoor.Lg
namespace Go.Proofs.YtknbhgodhmcemaaDoor.So
set_option linter.unusedSimpArgs false
set_option linter.unusedVariables false
set_option maxRecDepth 100000
open Go.RowKit Go.Proofs.YtknbhgodhmcemaaDoor.Own Go.Proofs.YtknbhgodhmcemaaDoor.Cel Go.Proofs.YtknbhgodhmcemaaDoor.Dk
open Go.Proofs.YtknbhgodhmcemaaDoor.Sl (sum_calls sumN sumN_lt lb)
open Go.Proofs.YtknbhgodhmcemaaDoor.Lg (below_drewN0 str_ne)
variable {B p : Nat} {S : DS} {F : Nat → Prop} {W : World}
set_option maxHeartbeats 1000000 in
theorem may_calls (h : DK B p S F W) (fr room : Nat) (hr : 1 ≤ room) (hl : fr + room ≤ S.lasts.length) (hN : S.lasts.length ≤ 1000000) :
    Calls Tryd.prog 50 #[.pointer (some ⟨p, 0, none⟩), .int .i64 (fr : Nat), .int .i64 (room : Nat)] W fun e W' => e = .returned (.bool true) ∧ W = W' := by
  have KS := Aside0.mk (size_calls h)
  obtain ⟨n, hn⟩ : ∃ n, S.lasts.length = n := ⟨_, rfl⟩
  rw [hn] at KS hl hN
  have d1 : (0 : Int) ≤ (fr : Int) := by omega
  have d2 : (1 : Int) ≤ (room : Int) := by omega
  have d3 : (fr : Int) < (n : Int) := by omega
  have d4 : (room : Int) ≤ (n : Int) - (fr : Int) := by omega
  clear h hn
  go_enter Tryd.func50, Tryd.ntmps50
  go_wp2_with fail
  refine KS.out.mono ?_
  rintro e w1 ⟨rfl, rfl⟩
  go_wp2_with fail
  refine KS.out.mono ?_
  rintro e w1 ⟨rfl, rfl⟩
  go_wp2
  go_ret
  exact ⟨rfl, rfl⟩
set_option maxHeartbeats 1000000 in
theorem summed_calls (s : ByteArray) (w : World) (hs : s.size ≤ 1000000) :
    Calls Tryd.prog 51 #[.string s] w fun e w' => e = .returned (.string ⟨(summedL s.data.toList).toArray⟩) ∧ Below w.heap.size w w' := by
  have KS := Aside0.mk (fun V => sum_calls s V (by omega))
  go_enter Tryd.func51, Tryd.ntmps51
  go_wp2_with fail
  refine (KS.out _).mono ?_
  rintro e w' ⟨rfl, rfl⟩
  have hx := sumN_lt s.data.toList
  obtain ⟨x, hxe⟩ : ∃ x, sumN s.data.toList = x := ⟨_, rfl⟩
  have HX := Aside0.mk hxe
  rw [hxe] at hx ⊢
  clear KS hxe
  have hc : ∀ j v, [Value.int .u8 ((x : Int) % 256), .int .u8 ((x : Int) / 256 % 256), .int .u8 ((x : Int) / 65536 % 256), .int .u8 ((x : Int) / 16777216)][j]? = some v → (w.alloc (.cells #[.int .u8 ((x : Int) % 256), .int .u8 ((x : Int) / 256 % 256), .int .u8 ((x : Int) / 65536 % 256), .int .u8 ((x : Int) / 16777216)] 5)).cell? ⟨w.heap.size, j, none⟩ = some v := fun j v hv =>
    (cell_of_row _ w.heap.size j _ _ _ (heap_alloc_new w _)).trans (by simpa using hv)
  have b0 : (x : Int) % 256 = (((UInt8.ofNat x).toNat : Nat) : Int) := by rw [UInt8.toNat_ofNat']; omega
  have b1 : (x : Int) / 256 % 256 = (((UInt8.ofNat (x / 256)).toNat : Nat) : Int) := by rw [UInt8.toNat_ofNat']; omega
  have b2 : (x : Int) / 65536 % 256 = (((UInt8.ofNat (x / 65536)).toNat : Nat) : Int) := by rw [UInt8.toNat_ofNat']; omega
  have b3 : (x : Int) / 16777216 = (((UInt8.ofNat (x / 16777216)).toNat : Nat) : Int) := by rw [UInt8.toNat_ofNat']; omega
  have hlb : lb x 4 = [UInt8.ofNat x, UInt8.ofNat (x / 256), UInt8.ofNat (x / 65536), UInt8.ofNat (x / 16777216)] := by simp [lb]
  have hstr := run_convert_bytes_back (P := Tryd.prog) (w.alloc (.cells #[.int .u8 ((x : Int) % 256), .int .u8 ((x : Int) / 256 % 256), .int .u8 ((x : Int) / 65536 % 256), .int .u8 ((x : Int) / 16777216)] 5)) 103 9 5 ⟨w.heap.size, 0, none⟩ 4 (lb x 4) rfl rfl rfl (fun j hj => by
    rw [Seg.addr_add, Nat.zero_add]
    have hj4 : j < 4 := by rw [Sl.lb_len] at hj; exact hj
    simp only [hlb]
    match j, hj4 with
    | 0, _ => rw [hc 0 _ rfl, b0]; rfl
    | 1, _ => rw [hc 1 _ rfl, b1]; rfl
    | 2, _ => rw [hc 2 _ rfl, b2]; rfl
    | 3, _ => rw [hc 3 _ rfl, b3]; rfl)
  rw [Sl.lb_len] at hstr
  have HS := Aside0.mk (show (⟨(summedL s.data.toList).toArray⟩ : ByteArray) = s ++ ⟨(lb x 4).toArray⟩ by
    rw [summedL, HX.out]
    apply ByteArray.ext
    simp [ByteArray.data_append])
  have hcat : s.size + (lb x 4).length ≤ 9223372036854775807 := by rw [Sl.lb_len]; omega
  clear hc b0 b1 b2 b3 hlb HX
  go_wp2_with fail
  go_ret
  exact ⟨by rw [HS.out]; rfl, (Below.refl _ _).alloc (Nat.le_refl _) _⟩
theorem wholeS_short {l : List UInt8} {g : Nat} (h : l.length < 4) : wholeS l g = (⟨#[]⟩, 0, false) := by unfold wholeS; rw [if_pos h]
theorem wholeS_bad {l : List UInt8} {g : Nat} (h : ¬ l.length < 4) (h2 : summedL (l.take (l.length - 4)) ≠ l) : wholeS l g = (⟨#[]⟩, 0, false) := by unfold wholeS; rw [if_neg h, if_neg h2]
theorem wholeS_ok {l : List UInt8} {g : Nat} (h : ¬ l.length < 4) (h2 : summedL (l.take (l.length - 4)) = l) : wholeS l g = (⟨(l.take (l.length - 4)).toArray⟩, g, true) := by unfold wholeS; rw [if_neg h, if_pos h2]
set_option maxHeartbeats 1000000 in
theorem whole_calls (s : ByteArray) (g : Nat) (w : World) (hs : s.size ≤ 1000000) :
    Calls Tryd.prog 56 #[.string s, .int .u64 (g : Nat)] w fun e w' => e = .returned (.tuple #[.string (wholeS s.data.toList g).1, .int .u64 ((wholeS s.data.toList g).2.1 : Nat), .bool (wholeS s.data.toList g).2.2]) ∧ Below w.heap.size w w' := by
  have hl : s.data.toList.length = s.size := by rw [Array.length_toList]; rfl
  by_cases h4 : s.size < 4
  · rw [wholeS_short (by rw [hl]; exact h4)]
    have d1 : (s.size : Int) - 4 < 0 := by omega
    go_enter Tryd.func56, Tryd.ntmps56
    go_wp2
    go_ret3
    exact ⟨rfl, Below.refl _ _⟩
  obtain ⟨n, hn⟩ : ∃ n, s.size - 4 = n := ⟨_, rfl⟩
  have hsz : s.size = n + 4 := by omega
  have d1 : ((s.size : Int) - 4) = (n : Int) := by omega
  have d2 : decide ((n : Int) < 0) = false := decide_eq_false (by omega)
  have d3 : (n : Int) ≤ (s.size : Int) := by omega
  have hte : (s.extract 0 n).data.toList = s.data.toList.take (s.data.toList.length - 4) := by rw [Sl.ext_toList, List.drop_zero, hl, hn]
  have KS := Aside0.mk (fun V => summed_calls (s.extract 0 n) V (by rw [ByteArray.size_extract]; omega))
  rw [hte] at KS
  by_cases hq : summedL (s.data.toList.take (s.data.toList.length - 4)) = s.data.toList
  · rw [wholeS_ok (by rw [hl]; exact h4) hq]
    rw [hq] at KS
    have HE := Aside0.mk (show (⟨(s.data.toList.take (s.data.toList.length - 4)).toArray⟩ : ByteArray) = s.extract 0 n by rw [← hte])
    rw [HE.out]
    clear hl h4 hn hte hq HE
    go_enter Tryd.func56, Tryd.ntmps56
    go_wp2_with fail
    refine (KS.out _).mono ?_
    rintro e w1 ⟨rfl, hb⟩
    have HB := Aside0.mk hb
    clear hb KS
    go_wp2
    go_ret3
    exact ⟨rfl, HB.out⟩
  · rw [wholeS_bad (by rw [hl]; exact h4) hq]
    have ene : ((⟨(summedL (s.data.toList.take (s.data.toList.length - 4))).toArray⟩ : ByteArray).toList == s.toList) = false := str_ne (fun e => hq (congrArg (fun z : ByteArray => z.data.toList) e))
    obtain ⟨T, hT⟩ : ∃ T, (⟨(summedL (s.data.toList.take (s.data.toList.length - 4))).toArray⟩ : ByteArray) = T := ⟨_, rfl⟩
    rw [hT] at KS ene
    clear hl h4 hn hte hq hT
    go_enter Tryd.func56, Tryd.ntmps56
    go_wp2_with fail
    refine (KS.out _).mono ?_
    rintro e w1 ⟨rfl, hb⟩
    have HB := Aside0.mk hb
    clear hb KS
    go_wp2
    go_ret3
    exact ⟨rfl, HB.out⟩
end Go.Proofs.YtknbhgodhmcemaaDoor.So
namespace Go.Proofs.YtknbhgodhmcemaaDoor.Lg
set_option linter.unusedSimpArgs false
set_option linter.unusedVariables false
open Go.Proofs.YtknbhgodhmcemaaDoor.Dk
structure Sm (S : DS) (n k : Nat) : Prop where
  arm : S.armed ≤ 1000000
  waits : S.waits.length ≤ n
  ops0 : 0 ≤ S.ops
  ops : S.ops ≤ (k : Int)
def Full (S : DS) : Prop := (∀ s ∈ S.lasts, s.size = 128) ∧ ∀ x ∈ S.waits, x.2.size = 128
theorem applyW_full : ∀ (ws : List Wt) (l : List ByteArray), (∀ s ∈ l, s.size = 128) → (∀ x ∈ ws, x.2.size = 128) → ∀ s ∈ applyW l ws, s.size = 128
  | [], l, h, _ => h
  | x :: r, l, h, hw => by
    rw [applyW]
    refine applyW_full r _ (fun s hs => ?_) (fun y hy => hw y (List.mem_cons_of_mem _ hy))
    rcases List.mem_or_eq_of_mem_set hs with hs | rfl
    · exact h s hs
    · exact hw x List.mem_cons_self
theorem Full.read {S : DS} (h : Full S) : ∀ s ∈ S.read, s.size = 128 := applyW_full _ _ h.1 h.2
theorem Full.arm {S : DS} (h : Full S) (a : Int) : Full { S with armed := a } := h
theorem Full.fresh (N : Nat) (a o : Int) : Full ⟨List.replicate N (sect 0), [], a, o⟩ :=
  ⟨fun s hs => by rw [List.eq_of_mem_replicate hs, sect_size], fun x (hx : x ∈ ([] : List Wt)) => absurd hx (by simp)⟩
end Go.Proofs.YtknbhgodhmcemaaDoor.Lg
namespace Go.Proofs.YtknbhgodhmcemaaDoor.Lg
set_option linter.unusedSimpArgs false
set_option linter.unusedVariables false
set_option maxRecDepth 100000
open Go.RowKit Go.Proofs.YtknbhgodhmcemaaDoor.Own Go.Proofs.YtknbhgodhmcemaaDoor.Cel Go.Proofs.YtknbhgodhmcemaaDoor.Dk
theorem DY.start {w V : World} {p : Nat} {S : DS} {F : Nat → Prop} (d : DK w.heap.size p S F V) (b : Below w.heap.size w V) : DY w p S [] (.slice none 0 0) [] V :=
  ⟨F, d, b, fun x hx => absurd hx (by simp), World.ownsRow_nil _ _ _ _, fun k e => absurd e (by simp [Value.ownBlock])⟩
theorem box_new {V : World} (zc cs : Array Value) (t : TypeId) : Below V.heap.size V ((V.alloc (.cells zc t)).setRow V.heap.size cs) ∧ ((V.alloc (.cells zc t)).setRow V.heap.size cs).heap[V.heap.size]? = some (.cells cs t (0, 0)) ∧ (V.alloc (.cells zc t)).heap[V.heap.size]? = some (.cells zc t (0, 0)) :=
  ⟨below_setRow ((Below.refl V.heap.size V).alloc (Nat.le_refl _) (.cells zc t)) (g := V.heap.size) (Nat.le_refl _) cs, setRow_heap _ _ _ cs t (0, 0) (heap_alloc_new V _), heap_alloc_new V _⟩
theorem getD_size (l : List ByteArray) (k : Nat) (h : ∀ s ∈ l, s.size ≤ k) (j : Nat) : (l.getD j ByteArray.empty).size ≤ k := by
  rw [List.getD_eq_getElem?_getD]
  by_cases hj : j < l.length
  · rw [List.getElem?_eq_getElem hj]; exact h _ (List.getElem_mem hj)
  · rw [List.getElem?_eq_none (by omega)]; exact Nat.zero_le _
end Go.Proofs.YtknbhgodhmcemaaDoor.Lg
namespace Go.Proofs.YtknbhgodhmcemaaDoor.So
set_option linter.unusedSimpArgs false
set_option linter.unusedVariables false
set_option maxRecDepth 100000
open Go.RowKit Go.Proofs.YtknbhgodhmcemaaDoor.Own Go.Proofs.YtknbhgodhmcemaaDoor.Cel Go.Proofs.YtknbhgodhmcemaaDoor.Dk
open Go.Proofs.YtknbhgodhmcemaaDoor.Sl (close_calls closeS rc recV recV_one)
open Go.Proofs.YtknbhgodhmcemaaDoor.Lg (below_drewN0 str_ne box_new)
def rst (L : List UInt8) (i : Nat) : ByteArray := ⟨(L.drop (110 * i)).toArray⟩
theorem rst_size (L : List UInt8) (i : Nat) : (rst L i).size = L.length - 110 * i := by
  show (L.drop (110 * i)).toArray.size = _; rw [List.size_toArray, List.length_drop]
theorem rst_head (L : List UInt8) (i m : Nat) (hm : m = min 110 (L.length - 110 * i)) : (rst L i).extract 0 m = ⟨(pdat L i).toArray⟩ := by
  apply ByteArray.ext
  apply Array.toList_inj.1
  rw [Sl.ext_toList, List.drop_zero]
  show (L.drop (110 * i)).take m = (L.drop (110 * i)).take 110
  by_cases h : 110 ≤ L.length - 110 * i
  · rw [show m = 110 by omega]
  · rw [List.take_of_length_le (by rw [List.length_drop]; omega), List.take_of_length_le (by rw [List.length_drop]; omega)]
theorem rst_tail (L : List UInt8) (i m : Nat) (hm : m = min 110 (L.length - 110 * i)) : (rst L i).extract m (rst L i).size = rst L (i + 1) := by
  apply ByteArray.ext
  apply Array.toList_inj.1
  rw [Sl.ext_toList, rst_size]
  show ((L.drop (110 * i)).take _).drop m = L.drop (110 * (i + 1))
  rw [List.take_of_length_le (by rw [List.length_drop]; omega), List.drop_drop]
  by_cases h : 110 ≤ L.length - 110 * i
  · rw [show m = 110 by omega, show 110 * (i + 1) = 110 * i + 110 by omega]
  · rw [List.drop_of_length_le (by omega), List.drop_of_length_le (by omega)]
theorem rst_empty (L : List UInt8) (i : Nat) : ((rst L i).toList == (⟨#[]⟩ : ByteArray).toList) = decide (L.length ≤ 110 * i) := by
  rw [ByteArray.toList_eq, ByteArray.toList_eq]
  show (L.drop (110 * i) == []) = _
  by_cases h : L.length ≤ 110 * i
  · rw [List.drop_of_length_le h, decide_eq_true h]; rfl
  · rw [decide_eq_false h, beq_eq_false_iff_ne]
    intro e
    have := congrArg List.length e
    rw [List.length_drop] at this
    simp at this
    omega
variable {B p : Nat} {S : DS} {F : Nat → Prop} {W V V' : World}
structure Ok (S : DS) (N k : Nat) : Prop where
  ok : S.ok
  len : S.lasts.length = N
  arm : S.armed ≤ 9223372036854775807
  waits : S.waits.length + k ≤ 900000
  ops0 : 0 ≤ S.ops
  ops : S.ops + (k : Int) ≤ 1000000000
theorem Ok.put {S : DS} {N k i : Nat} {s : ByteArray} (h : Ok S N (k + 1)) (hi : i < N) (hs : s.size = 128) : Ok (S.put (i : Int) s).1 N k := by
  obtain ⟨l1, l2, l3⟩ := fails_lasts S
  have fa := (Lg.fails_armed S).2
  have h1 := h.len
  have h2 := h.arm
  have h3 := h.waits
  have h4 := h.ops0
  have h5 := h.ops
  rcases Lg.put_cases S i s (by omega) hs with ⟨e, _⟩ | ⟨e, _⟩
  · rw [e]
    exact ⟨fails_ok h.ok, by show S.fails.1.lasts.length = N; rw [l1]; exact h1, by show S.fails.1.armed ≤ _; omega, by show S.fails.1.waits.length + k ≤ _; rw [l2]; omega, by show 0 ≤ S.fails.1.ops; rw [l3]; exact h4, by show S.fails.1.ops + _ ≤ _; rw [l3]; omega⟩
  · rw [e]
    refine ⟨fun x hx => ?_, by show S.fails.1.lasts.length = N; rw [l1]; exact h1, by show S.fails.1.armed ≤ _; omega, ?_, by show 0 ≤ S.ops + 1; omega, by show S.ops + 1 + _ ≤ _; omega⟩
    · show x.1 < S.fails.1.lasts.length
      rw [l1]
      rcases List.mem_append.1 hx with hx | hx
      · exact h.ok x hx
      · simp only [List.mem_singleton] at hx
        subst hx
        show i < _; omega
    · show (S.waits ++ [(i, s)]).length + k ≤ _
      rw [List.length_append]; show S.waits.length + 1 + k ≤ _; omega
theorem did_step {S' : DS} {F : Nat → Prop} (h : Did B p S' F W V) (hb : Below V.heap.size V V') : Did B p S' F W V' := by
  obtain ⟨F2, d, o, f⟩ := h
  exact ⟨F2, d.below hb, o.trans (only_below hb) (fun i hi => .inl hi), f⟩
theorem did_write {S' : DS} {F : Nat → Prop} (h : Did B p S' F W V) (ha : S'.armed ≤ 9223372036854775807) (hn : S'.waits.length ≤ 1000000) (ho0 : 0 ≤ S'.ops) (ho : S'.ops ≤ 4611686018427387904) (i : Int) (s : ByteArray) (hi0 : -9223372036854775808 ≤ i) (hi1 : i ≤ 9223372036854775807) :
    Calls Tryd.prog 28 #[.pointer (some ⟨p, 0, none⟩), .int .i64 i, .string s] V fun e V' => e = .returned (.int .i64 (S'.put i s).2) ∧ Did B p (S'.put i s).1 F W V' := by
  obtain ⟨F2, d, o, f⟩ := h
  exact (write_calls d ha hn ho0 ho i s hi0 hi1).mono fun e V' ⟨q, h2⟩ => ⟨q, Did.of o f h2⟩
set_option maxHeartbeats 8000000 in
theorem write_good (h : DK B p S F W) (fr room g : Nat) (t : ByteArray) (hr : 1 ≤ room) (hl : fr + room ≤ S.lasts.length) (hN : S.lasts.length ≤ 5000) (hg : g < 18446744073709551616) (ht : t.size ≤ 100000) (hfit : t.size + 4 ≤ 110 * room) (hok : Ok S S.lasts.length (np (summedL t.data.toList).length)) :
    Calls Tryd.prog 17 #[.pointer (some ⟨p, 0, none⟩), .int .i64 (fr : Nat), .int .i64 (room : Nat), .int .u64 (g : Nat), .string t] W fun e W' =>
      e = .returned (.int .i64 (wrS fr g (summedL t.data.toList) (np (summedL t.data.toList).length) 0 S).2) ∧ Did B p (wrS fr g (summedL t.data.toList) (np (summedL t.data.toList).length) 0 S).1 F W W' := by
  have KM := Aside0.mk (may_calls h fr room hr hl (by omega))
  have KS := Aside0.mk (fun V => summed_calls t V (by omega))
  have hL := summedL_len t.data.toList
  have htl : t.data.toList.length = t.size := by rw [Array.length_toList]; rfl
  obtain ⟨L, hLL⟩ : ∃ L, summedL t.data.toList = L := ⟨_, rfl⟩
  rw [hLL] at hL hok KS ⊢
  obtain ⟨R, hR⟩ : ∃ R, wrS fr g L (np L.length) 0 S = R := ⟨_, rfl⟩
  rw [hR]
  obtain ⟨k, hk⟩ : ∃ k, np L.length = k := ⟨_, rfl⟩
  rw [hk] at hok hR
  have hk1 : 110 * k < L.length + 110 := by unfold np at hk; omega
  have hk2 : L.length ≤ 110 * k := by unfold np at hk; omega
  have hkr : k ≤ room := by omega
  have HD := Aside0.mk (show Did B p S F W W ∧ wrS fr g L (k - 0) 0 S = R ∧ Ok S S.lasts.length (k - 0) from ⟨⟨F, h, Only.refl _ _, fun _ e => .inl e⟩, hR, hok⟩)
  obtain ⟨N, hNN⟩ : ∃ N, S.lasts.length = N := ⟨_, rfl⟩
  rw [hNN] at hl hN HD
  have e0 : (⟨L.toArray⟩ : ByteArray) = rst L 0 := rfl
  rw [e0] at KS
  have d1 : decide (110 * (room : Int) - 4 < (t.size : Int)) = false := decide_eq_false (by omega)
  clear h hok hR hLL hNN htl e0
  go_enter Tryd.func17, Tryd.ntmps17
  go_wp2_with fail
  refine KM.out.mono ?_
  rintro e w1 ⟨rfl, rfl⟩
  clear KM
  go_wp2_with fail
  refine (KS.out _).mono ?_
  rintro e V1 ⟨rfl, hb⟩
  replace HD := Aside0.mk (And.intro (did_step HD.out.1 hb) HD.out.2)
  clear hb KS
  go_wp2_with fail
  go_loopw [11, 12] (fun sv iv V => ∃ (i : Nat) (S1 : DS), sv = .string (rst L i) ∧ iv = .int .i64 i ∧ i ≤ k ∧ Aside0 (Did B p S1 F W V ∧ wrS fr g L (k - i) i S1 = R ∧ Ok S1 N (k - i))) (fun _ iv _ => k - (intOf iv).toNat)
  case atStart => exact ⟨0, S, rfl, rfl, by omega, HD⟩
  case round =>
    obtain ⟨i, S1, rfl, rfl, hi, HS⟩ := hrel
    clear HD
    have hem := rst_empty L i
    have hnil : (⟨#[]⟩ : ByteArray).toList = [] := by rw [ByteArray.toList_eq]
    rw [hnil] at hem
    by_cases hlt : i < k
    rotate_left
    · have hd := decide_eq_true (show L.length ≤ 110 * i by omega)
      rw [hd] at hem
      have hki : k - i = 0 := by omega
      have HQ := Aside0.mk (show R = (S1, 0) ∧ Did B p S1 F W wr from ⟨by have := HS.out.2.1; rw [hki, wrS] at this; exact this.symm, HS.out.1⟩)
      clear HS hd hki hlt hi
      generalize rst L i = sv at hem ⊢
      go_wp2
      go_ret
      exact ⟨by rw [HQ.out.1]; rfl, by rw [HQ.out.1]; exact HQ.out.2⟩
    have hnl : ¬ L.length ≤ 110 * i := by omega
    rw [decide_eq_false hnl] at hem
    have hrs := rst_size L i
    obtain ⟨m, hm⟩ : ∃ m, min 110 (L.length - 110 * i) = m := ⟨_, rfl⟩
    have hhd := rst_head L i m hm.symm
    have htl := rst_tail L i m hm.symm
    have hem2 := rst_empty L (i + 1)
    rw [hnil] at hem2
    obtain ⟨n, hn⟩ : ∃ n, (rst L i).size = n := ⟨_, rfl⟩
    rw [hn] at hrs htl
    have hD : (⟨(pdat L i).toArray⟩ : ByteArray).size = m := by show (pdat L i).toArray.size = m; rw [List.size_toArray, pdat_len, hm]
    obtain ⟨D, hDD⟩ : ∃ D, (⟨(pdat L i).toArray⟩ : ByteArray) = D := ⟨_, rfl⟩
    have hmin : min (n : Int) 110 = (m : Int) := by omega
    have hmn : m ≤ n := by omega
    have hcast : ((fr + i : Nat) : Int) = (fr : Int) + (i : Int) := by omega
    have hps := psec_close g L i
    rw [hDD] at hhd hD hps
    have KC := Aside0.mk (fun V => close_calls (pk L.length i) g i D V (pk_lt _ _) hg (by omega))
    rw [hps] at KC
    have HPS := Aside0.mk (psec_size g L i)
    have HW := Aside0.mk (show wrS fr g L (k - i) i S1 = if (S1.put ((fr + i : Nat) : Int) (psec g L i)).2 ≠ 0 then S1.put ((fr + i : Nat) : Int) (psec g L i) else wrS fr g L (k - (i + 1)) (i + 1) (S1.put ((fr + i : Nat) : Int) (psec g L i)).1 by
      rw [show k - i = (k - (i + 1)) + 1 by omega, wrS])
    have HO := HS.out.2.2
    have hR2 := HS.out.2.1
    rw [HW.out] at hR2
    have HRR := Aside0.mk hR2
    have HOK := Aside0.mk (Ok.put (i := fr + i) (s := psec g L i) (show Ok S1 N ((k - (i + 1)) + 1) by rw [show (k - (i + 1)) + 1 = k - i by omega]; exact HO) (by omega) HPS.out)
    have ob1 := HO.arm
    have ob2 := HO.waits
    have ob3 := HO.ops0
    have ob4 := HO.ops
    have HDD := Aside0.mk HS.out.1
    have z13z : (wr.alloc (.cells #[.int .u8 0, .int .u64 0, .int .u32 0, .string ⟨#[]⟩] 64)).heap[wr.heap.size]? = some (.cells #[.int .u8 0, .int .u64 0, .int .u32 0, .string ⟨#[]⟩] 64 (0, 0)) := heap_alloc_new wr _
    have hbB := below_setRow ((Below.refl wr.heap.size wr).alloc (Nat.le_refl _) (.cells #[.int .u8 0, .int .u64 0, .int .u32 0, .string ⟨#[]⟩] 64)) (g := wr.heap.size) (Nat.le_refl _) #[.int .u8 2, .int .u64 (g : Nat), .int .u32 (i : Nat), .string D]
    have z13 := setRow_heap _ _ _ #[.int .u8 2, .int .u64 (g : Nat), .int .u32 (i : Nat), .string D] _ (0, 0) z13z
    have c3 : ((wr.alloc (.cells #[.int .u8 0, .int .u64 0, .int .u32 0, .string ⟨#[]⟩] 64)).setRow wr.heap.size #[.int .u8 2, .int .u64 (g : Nat), .int .u32 (i : Nat), .string D]).cell? ⟨wr.heap.size, 3, none⟩ = some (.string D) := cell_of_row _ _ 3 _ _ _ z13
    have c0 : ((wr.alloc (.cells #[.int .u8 0, .int .u64 0, .int .u32 0, .string ⟨#[]⟩] 64)).setRow wr.heap.size #[.int .u8 2, .int .u64 (g : Nat), .int .u32 (i : Nat), .string D]).cell? ⟨wr.heap.size, 0, none⟩ = some (.int .u8 2) := cell_of_row _ _ 0 _ _ _ z13
    have f0 : ((wr.alloc (.cells #[.int .u8 0, .int .u64 0, .int .u32 0, .string ⟨#[]⟩] 64)).setRow wr.heap.size #[.int .u8 2, .int .u64 (g : Nat), .int .u32 (i : Nat), .string D]).frozen? ⟨wr.heap.size, 0, none⟩ = false := frozen_of_row _ _ 0 _ _ z13
    have hi2 : (Tryd.prog.info? 64).map (·.size) = some (#[.int .u8 2, .int .u64 (g : Nat), .int .u32 (i : Nat), .string D] : Array Value).size := Sl.infoR
    have ho2 : (#[.int .u8 2, .int .u64 (g : Nat), .int .u32 (i : Nat), .string D] : Array Value).all (·.oneCell') = true := recV_one ⟨2, g, i, D⟩
    have hi32 : ((i : Nat) : Int) % 4294967296 = (i : Int) := by omega
    have HI := Aside0.mk (show i + 1 ≤ k from hlt)
    by_cases hlast : i + 1 = k
    · have hpk : pk L.length i = 3 := by rw [pk, hk, if_pos hlast]
      rw [hpk] at KC
      rw [decide_eq_true (show L.length ≤ 110 * (i + 1) by omega)] at hem2
      clear HS HO hR2 HW hnl hrs hm hDD hps hk1 hk2 hpk
      generalize rst L i = sv at hem hhd htl hn ⊢
      generalize hrv : rst L (i + 1) = rv at htl hem2
      have HRV := Aside0.mk hrv
      clear hrv
      have z14 : (((wr.alloc (.cells #[.int .u8 0, .int .u64 0, .int .u32 0, .string ⟨#[]⟩] 64)).setRow wr.heap.size #[.int .u8 2, .int .u64 (g : Nat), .int .u32 (i : Nat), .string D]).setCell ⟨wr.heap.size, 0, none⟩ (.int .u8 3)).heap[wr.heap.size]? = some (.cells #[.int .u8 3, .int .u64 (g : Nat), .int .u32 (i : Nat), .string D] 64 (0, 0)) := heap_setCell_same _ _ 0 _ _ (.int .u8 3) z13
      have hi3 : (Tryd.prog.info? 64).map (·.size) = some (#[.int .u8 3, .int .u64 (g : Nat), .int .u32 (i : Nat), .string D] : Array Value).size := Sl.infoR
      have HD2 := Aside0.mk (did_step HDD.out (hbB.setCell (p := ⟨wr.heap.size, 0, none⟩) (Nat.le_refl _) (.int .u8 3)))
      clear HDD hbB
      go_wp2_with (first | refine wpList_store_row rfl 64 _ _ rfl wr.heap.size #[.int .u8 2, .int .u64 (g : Nat), .int .u32 (i : Nat), .string D] rfl rfl 64 _ z13z hi2 rfl ho2 ?_ | refine wpList_load_row rfl 64 _ rfl wr.heap.size rfl 64 _ (0, 0) _ z14 Tryd.underlying64 rfl hi3 ?_ | fail)
      clear hi2 ho2 hi3 z13 z13z c3 c0 f0
      refine (KC.out _).mono ?_
      rintro e V2 ⟨rfl, hb⟩
      have HD3 := Aside0.mk (did_step HD2.out hb)
      clear hb KC HD2
      have KW := Aside0.mk (did_write HD3.out (by omega) (by omega) ob3 (by omega) ((fr + i : Nat) : Int) (psec g L i) (by omega) (by omega))
      rw [hcast] at KW
      go_wp2_with fail
      refine KW.out.mono ?_
      rintro e V3 ⟨rfl, h3⟩
      obtain ⟨Q, hQ⟩ : ∃ Q, S1.put ((fr : Int) + (i : Int)) (psec g L i) = Q := ⟨_, rfl⟩
      have hRQ := HRR.out
      have hOK := HOK.out
      rw [hcast] at hRQ hOK
      rw [hQ] at h3 hRQ hOK ⊢
      clear KW HD3 HRR HOK
      by_cases hq : Q.2 = 0
      · have HN := Aside0.mk (show Did B p Q.1 F W V3 ∧ wrS fr g L (k - (i + 1)) (i + 1) Q.1 = R ∧ Ok Q.1 N (k - (i + 1)) from ⟨h3, by rw [if_neg (fun e => e hq)] at hRQ; exact hRQ, hOK⟩)
        rw [hq]
        clear h3 hRQ hOK hQ
        go_wp2
        go_roundw
        case rel => exact ⟨i + 1, Q.1, by rw [HRV.out], by go_num, HI.out, HN⟩
        case measure => have := HI.out; simp [intOf]; omega
      · have HN := Aside0.mk (show R = Q ∧ Did B p Q.1 F W V3 from ⟨by rw [if_pos hq] at hRQ; exact hRQ.symm, h3⟩)
        obtain ⟨S9, q⟩ := Q
        dsimp only at hq ⊢
        have hq' : (q == 0) = false := by simpa using hq
        clear h3 hRQ hOK hQ
        go_wp2
        go_ret
        exact ⟨by rw [HN.out.1]; rfl, by rw [HN.out.1]; exact HN.out.2⟩

    · have hpk : pk L.length i = 2 := by rw [pk, hk, if_neg hlast]
      rw [hpk] at KC
      rw [decide_eq_false (show ¬ L.length ≤ 110 * (i + 1) by unfold np at hk; omega)] at hem2
      clear HS HO hR2 HW hnl hrs hm hDD hps hk1 hk2 hpk
      generalize rst L i = sv at hem hhd htl hn ⊢
      generalize hrv : rst L (i + 1) = rv at htl hem2
      have HRV := Aside0.mk hrv
      clear hrv
      have hi3 : (Tryd.prog.info? 64).map (·.size) = some (#[.int .u8 2, .int .u64 (g : Nat), .int .u32 (i : Nat), .string D] : Array Value).size := Sl.infoR
      have HD2 := Aside0.mk (did_step HDD.out hbB)
      clear HDD hbB
      go_wp2_with (first | refine wpList_store_row rfl 64 _ _ rfl wr.heap.size #[.int .u8 2, .int .u64 (g : Nat), .int .u32 (i : Nat), .string D] rfl rfl 64 _ z13z hi2 rfl ho2 ?_ | refine wpList_load_row rfl 64 _ rfl wr.heap.size rfl 64 _ (0, 0) _ z13 Tryd.underlying64 rfl hi3 ?_ | fail)
      clear hi2 ho2 hi3 z13 z13z c3 c0 f0
      refine (KC.out _).mono ?_
      rintro e V2 ⟨rfl, hb⟩
      have HD3 := Aside0.mk (did_step HD2.out hb)
      clear hb KC HD2
      have KW := Aside0.mk (did_write HD3.out (by omega) (by omega) ob3 (by omega) ((fr + i : Nat) : Int) (psec g L i) (by omega) (by omega))
      rw [hcast] at KW
      go_wp2_with fail
      refine KW.out.mono ?_
      rintro e V3 ⟨rfl, h3⟩
      obtain ⟨Q, hQ⟩ : ∃ Q, S1.put ((fr : Int) + (i : Int)) (psec g L i) = Q := ⟨_, rfl⟩
      have hRQ := HRR.out
      have hOK := HOK.out
      rw [hcast] at hRQ hOK
      rw [hQ] at h3 hRQ hOK ⊢
      clear KW HD3 HRR HOK
      by_cases hq : Q.2 = 0
      · have HN := Aside0.mk (show Did B p Q.1 F W V3 ∧ wrS fr g L (k - (i + 1)) (i + 1) Q.1 = R ∧ Ok Q.1 N (k - (i + 1)) from ⟨h3, by rw [if_neg (fun e => e hq)] at hRQ; exact hRQ, hOK⟩)
        rw [hq]
        clear h3 hRQ hOK hQ
        go_wp2
        go_roundw
        case rel => exact ⟨i + 1, Q.1, by rw [HRV.out], by go_num, HI.out, HN⟩
        case measure => have := HI.out; simp [intOf]; omega
      · have HN := Aside0.mk (show R = Q ∧ Did B p Q.1 F W V3 from ⟨by rw [if_pos hq] at hRQ; exact hRQ.symm, h3⟩)
        obtain ⟨S9, q⟩ := Q
        dsimp only at hq ⊢
        have hq' : (q == 0) = false := by simpa using hq
        clear h3 hRQ hOK hQ
        go_wp2
        go_ret
        exact ⟨by rw [HN.out.1]; rfl, by rw [HN.out.1]; exact HN.out.2⟩
theorem write_long (h : DK B p S F W) (fr room g : Nat) (t : ByteArray) (hr : 1 ≤ room) (hl : fr + room ≤ S.lasts.length) (hN : S.lasts.length ≤ 5000) (hlong : 110 * room < t.size + 4) :
    Calls Tryd.prog 17 #[.pointer (some ⟨p, 0, none⟩), .int .i64 (fr : Nat), .int .i64 (room : Nat), .int .u64 (g : Nat), .string t] W fun e W' => e = .returned (.int .i64 11) ∧ W = W' := by
  have KM := Aside0.mk (may_calls h fr room hr hl (by omega))
  have d1 : decide (110 * (room : Int) - 4 < (t.size : Int)) = true := decide_eq_true (by omega)
  clear h
  go_enter Tryd.func17, Tryd.ntmps17
  go_wp2_with fail
  refine KM.out.mono ?_
  rintro e w1 ⟨rfl, rfl⟩
  clear KM
  go_wp2
  go_ret
  exact ⟨rfl, rfl⟩
end Go.Proofs.YtknbhgodhmcemaaDoor.So
namespace Go.Proofs.YtknbhgodhmcemaaDoor.So
set_option linter.unusedSimpArgs false
set_option linter.unusedVariables false
set_option maxRecDepth 100000
open Go.RowKit Go.Shelf Go.Proofs.YtknbhgodhmcemaaDoor.Own Go.Proofs.YtknbhgodhmcemaaDoor.Cel Go.Proofs.YtknbhgodhmcemaaDoor.Dk
open Go.Proofs.YtknbhgodhmcemaaDoor.Sl (Rec openS open_calls recV recV_one)
attribute [local go_sem] Oper.semAt_some
section
variable {P : Program}
theorem in_store_row {F : Fence} {n : Nat} {ops : Array Oper} {rest : List Oper} {o : Oper} {a : Act} {w : World} {Q : Exit → Act → World → Prop} (hgd : o.guard = none) (ty : TypeId) (x y : Operand) (ho : o.op = .store ty x y)
    (g : Nat) (cells : Array Value) (hx : a.eval x = .pointer (some ⟨g, 0, none⟩)) (hy : a.eval y = .agg cells)
    (t : TypeId) (old : Array Value) (hg : w.heap[g]? = some (.cells old t (0, 0))) (hi : (P.info? ty).map (·.size) = some cells.size)
    (hold : old.size = cells.size) (h1 : cells.all (·.oneCell') = true)
    (h : wpListIn F n P ops Q rest (a.put o.dst undef) (w.setRow g cells)) : wpListIn F n P ops Q (o :: rest) a w := by
  refine wpListIn_plain hgd fun K hK => ?_
  unfold Oper.wpIn
  refine ⟨?_, ?_⟩
  · simp [Oper.about, ho]
  · rw [Oper.semAt_plain F _ _ (by rw [ho]; intro c hc'; cases hc')]
    unfold execOp
    simp only [ho, hx, hy, Instr.storeAt, Instr.sureAddr, Sem.run_bind, Sem.run_pure, Result.andThen_ok, run_storeVar_row w g t ty old cells hg hi hold h1]
    exact hK _ _ h
theorem in_load_row {F : Fence} {n : Nat} {ops : Array Oper} {rest : List Oper} {o : Oper} {a : Act} {w : World} {Q : Exit → Act → World → Prop} (hw : Region.wanted o (yielded ops a.tmps) = true) (ty : TypeId) (x : Operand) (ho : o.op = .load ty x)
    (g : Nat) (hx : a.eval x = .pointer (some ⟨g, 0, none⟩)) (t : TypeId) (cs : Array Value) (fr : Nat × Nat) (d : TypeDesc) (hg : w.heap[g]? = some (.cells cs t fr))
    (hu : P.underlying ty = some d) (hd : (match d with | .struct _ | .array _ _ => true | _ => false) = true) (hi : (P.info? ty).map (·.size) = some cs.size)
    (h : wpListIn F n P ops Q rest (a.put o.dst (.agg cs)) w) : wpListIn F n P ops Q (o :: rest) a w := by
  refine wpListIn_step fun K hK => ?_
  rw [if_pos hw]
  unfold Oper.wpIn
  refine ⟨?_, ?_⟩
  · simp [Oper.about, ho]
  · rw [Oper.semAt_plain F _ _ (by rw [ho]; intro c hc'; cases hc')]
    unfold execOp
    simp only [ho, hx, Instr.loadAt, Instr.sureAddr, Sem.run_bind, Sem.run_pure, Result.andThen_ok, run_loadVar_row w g t ty cs fr d hg hu hd hi]
    exact hK _ _ h
end
abbrev RX := { x : Nat × Rec // x.1 < 1000000 ∧ x.2.i < 4294967296 ∧ x.2.d.size ≤ 1000 }
def encX (x : RX) : Array Value := #[.int .i64 (x.1.1 : Nat), .agg (recV x.1.2)]
theorem openS_d (s : ByteArray) : (openS s).1.d.size ≤ 1000 := by
  by_cases h1 : s.size ≠ 128
  · rw [Sl.openS_len h1]; exact Nat.zero_le _
  have h1 : s.size = 128 := by omega
  by_cases h2 : Sl.blankB s.data.toList = true
  · rw [Sl.openS_blank h1 h2]; exact Nat.zero_le _
  have h2 : Sl.blankB s.data.toList = false := by simpa using h2
  by_cases h3 : Sl.sumN (s.extract 0 124).data.toList ≠ Sl.low s.data.toList 124 4
  · rw [Sl.openS_sum h1 h2 h3]; exact Nat.zero_le _
  have h3 : Sl.sumN (s.extract 0 124).data.toList = Sl.low s.data.toList 124 4 := Classical.not_not.1 h3
  by_cases h4 : (s.data.toList.getD 13 0).toNat > 110 ∨ Sl.blankB (s.extract (14 + (s.data.toList.getD 13 0).toNat) 124).data.toList = false
  · rw [Sl.openS_form h1 h2 h3 h4]; exact Nat.zero_le _
  · have h5 : (s.data.toList.getD 13 0).toNat ≤ 110 := by omega
    have h6 : Sl.blankB (s.extract (14 + (s.data.toList.getD 13 0).toNat) 124).data.toList = true := by
      cases h : Sl.blankB (s.extract (14 + (s.data.toList.getD 13 0).toNat) 124).data.toList with
      | true => rfl
      | false => exact absurd (.inr h) h4
    rw [Sl.openS_ok h1 h2 h3 h5 h6]
    show (s.extract 14 (14 + (s.data.toList.getD 13 0).toNat)).size ≤ 1000
    rw [ByteArray.size_extract]
    omega
def recsGo (rd : List ByteArray) (fr : Nat) : Nat → Nat → List RX
  | 0, _ => []
  | n + 1, i => if h : (openS (rd.getD (fr + i) ByteArray.empty)).2 = 0 ∧ i < 1000000 then ⟨(i, (openS (rd.getD (fr + i) ByteArray.empty)).1), h.2, (Sl.open_back _).2.2.1, openS_d _⟩ :: recsGo rd fr n (i + 1) else recsGo rd fr n (i + 1)
def KeepB (n0 c : Nat) (W W' : World) : Prop := Below n0 W W' ∧ ∀ k, c ≤ k → k < c + 3 → W'.heap[k]? = W.heap[k]?
theorem keepB_t {n0 c : Nat} {X Y Z : World} (h : KeepB n0 c X Y) (k : KeepB n0 c Y Z) : KeepB n0 c X Z := ⟨h.1.trans k.1, fun i h1 h2 => (k.2 i h1 h2).trans (h.2 i h1 h2)⟩
theorem keepB_b {n0 c : Nat} {w : World} (hn : n0 ≤ w.heap.size) (hc : c + 3 ≤ w.heap.size) (W : World) (l : Nat) (o o' : Obj) (hl : w.heap.size ≤ l) (h : W.heap[l]? = some o) (_ : o.isCells = false) (_ : o.isWalk = false) : KeepB n0 c W (W.putObj l o') :=
  ⟨belowK_b hn W l o o' hl h ‹_› ‹_›, fun k h1 h2 => World.putObj_heap_other (by omega)⟩
variable {B p : Nat} {S : DS} {F : Nat → Prop} {W : World}
structure IW (B p : Nat) (S : DS) (F : Nat → Prop) (n0 c fr room : Nat) (V : World) : Prop where
  dk : DK B p S F V
  f : ∀ k, F k → k < n0
  z0 : V.heap[c]? = some (.cells #[.pointer (some ⟨p, 0, none⟩)] 25 (0, 0))
  z1 : V.heap[c + 1]? = some (.cells #[.int .i64 (fr : Nat)] 3 (0, 0))
  z2 : V.heap[c + 2]? = some (.cells #[.int .i64 (room : Nat)] 3 (0, 0))
theorem IW.keep {n0 c fr room : Nat} {V V' : World} (h : IW B p S F n0 c fr room V) (k : KeepB n0 c V V') : IW B p S F n0 c fr room V' :=
  ⟨h.dk.keep (fun q hq => k.1.block q (h.f q hq)), h.f, (k.2 c (Nat.le_refl _) (by omega)).trans h.z0, (k.2 (c + 1) (by omega) (by omega)).trans h.z1, (k.2 (c + 2) (by omega) (by omega)).trans h.z2⟩
theorem IW.below {n0 c fr room : Nat} {V V' : World} (h : IW B p S F n0 c fr room V) (hb : Below V.heap.size V V') : IW B p S F n0 c fr room V' :=
  ⟨h.dk.below hb, h.f, Own.keep h.z0 hb, Own.keep h.z1 hb, Own.keep h.z2 hb⟩
set_option maxHeartbeats 4000000 in
theorem recs_stops (n : Nat) (hn : 2 ≤ n) {w0 : World} {n0 c fr room : Nat} (h : IW B p S F n0 c fr room w0) (hn0 : n0 ≤ c) (hl : fr + room ≤ S.lasts.length) (hN : S.lasts.length ≤ 5000) (hsz : ∀ j, (S.read.getD j ByteArray.empty).size ≤ 1000) :
    SeqStopsK Fence.wide n Tryd.prog 85 #[.pointer (some ⟨c + 2, 0, none⟩), .pointer (some ⟨c, 0, none⟩), .pointer (some ⟨c + 1, 0, none⟩)] encX (KeepB n0 c) (fun xs => xs = recsGo S.read fr room 0) (fun pre => pre <+: recsGo S.read fr room 0) (recsGo S.read fr room 0).length w0 := fun l J Jx W hW hJ hJx hY h0 => by
  refine callsIn_of_wp Tryd.func85 rfl trivial ?_ rfl
  simp only [Tryd.ntmps85, List.size_toArray, List.length_cons, List.length_nil, Nat.reduceAdd, Nat.reduceSub, Array.replicate_succ, Array.replicate_zero, List.push_toArray, List.append_toArray, List.nil_append, List.cons_append]
  have hIW := h.below hW
  have H := Aside0.mk hIW
  have c2 : W.cell? ⟨c + 2, 0, none⟩ = some (.int .i64 (room : Nat)) := cell_of_row _ _ 0 _ _ _ hIW.z2
  have H0 := Aside0.mk h0
  clear hIW h0
  have HSZ := Aside0.mk hsz
  have HY := Aside0.mk hY
  clear hY hsz
  gi_wp2
  gi_loopw [11] (fun iv V => ∃ (i : Nat) (pre : List RX), iv = .int .i64 i ∧ i ≤ room ∧ Aside0 (recsGo S.read fr room 0 = pre ++ recsGo S.read fr (room - i) i) ∧ Aside0 (J pre V ∧ IW B p S F n0 c fr room V ∧ W.heap.size ≤ V.heap.size)) (fun iv _ => room - (intOf iv).toNat)
  case atStart => exact ⟨0, [], rfl, by omega, ⟨rfl⟩, ⟨H0.out, H.out, Nat.le_refl _⟩⟩
  case round =>
    obtain ⟨i, pre, rfl, hi, HE, HS⟩ := hrel
    clear H H0 c2
    by_cases hlt : i < room
    rotate_left
    · obtain rfl : i = room := by omega
      have HQ := Aside0.mk (show pre = recsGo S.read fr i 0 ∧ J pre wr from ⟨by have := HE.out; rw [Nat.sub_self, recsGo, List.append_nil] at this; exact this.symm, HS.out.1⟩)
      clear HE HS hlt hi
      gi_wp2
      go_end0
      exact ⟨⟨_, rfl⟩, .inl ⟨pre, HQ.out.1, HQ.out.2⟩⟩
    have hi1 : (i : Int) < (room : Int) := by omega
    have c0 : wr.cell? ⟨c, 0, none⟩ = some (.pointer (some ⟨p, 0, none⟩)) := cell_of_row _ _ 0 _ _ _ HS.out.2.1.z0
    have c1 : wr.cell? ⟨c + 1, 0, none⟩ = some (.int .i64 (fr : Nat)) := cell_of_row _ _ 0 _ _ _ HS.out.2.1.z1
    have er : S.readAt ((fr + i : Nat) : Int) = (S.read.getD (fr + i) ByteArray.empty, 0) := by
      unfold DS.readAt
      rw [if_pos ⟨by omega, by omega⟩, Int.toNat_natCast]
    have hsz1 := HSZ.out (fr + i)
    obtain ⟨s, hs⟩ : ∃ s, S.read.getD (fr + i) ByteArray.empty = s := ⟨_, rfl⟩
    rw [hs, show ((fr + i : Nat) : Int) = (fr : Int) + (i : Int) by omega] at er
    rw [hs] at hsz1
    have KO := Aside0.mk (fun V => open_calls s V hsz1)
    obtain ⟨⟨r, q⟩, ho⟩ : ∃ o, openS s = o := ⟨_, rfl⟩
    rw [ho] at KO
    change Aside0 (∀ V, Calls Tryd.prog 47 #[.string s] V fun e w' => e = .returned (.tuple #[.agg (recV r), .int .i64 q]) ∧ Below V.heap.size V w') at KO
    have KR := read_calls HS.out.2.1.dk ((fr : Int) + (i : Int))
    rw [er] at KR
    have hXb : i < 1000000 ∧ r.i < 4294967296 ∧ r.d.size ≤ 1000 := ⟨by omega, by have := (Sl.open_back s).2.2.1; rw [ho] at this; exact this, by have := openS_d s; rw [ho] at this; exact this⟩
    obtain ⟨X, hX1⟩ : ∃ X : RX, X.1 = (i, r) := ⟨⟨(i, r), hXb⟩, rfl⟩
    have hstep : recsGo S.read fr (room - i) i = if q = 0 then X :: recsGo S.read fr (room - (i + 1)) (i + 1) else recsGo S.read fr (room - (i + 1)) (i + 1) := by
      have e : room - i = (room - (i + 1)) + 1 := by omega
      rw [e, recsGo]
      by_cases hq : q = 0
      · rw [dif_pos ⟨by rw [hs, ho]; exact hq, by omega⟩, if_pos hq]
        congr 1
        apply Subtype.ext
        rw [hX1]
        simp only [hs, ho]
      · rw [dif_neg (fun e => hq (by have := e.1; rw [hs, ho] at this; exact this)), if_neg hq]
    have HI2 := Aside0.mk (show (Tryd.prog.info? 64).map (·.size) = some (recV r).size from Sl.infoR)
    have hone2 := recV_one r
    have HH := Aside0.mk hstep
    have HX1 := Aside0.mk hX1
    clear er hs ho hsz1 hstep hX1 hXb
    gi_wp2
    refine ⟨trivial, fun _ => by omega, ?_⟩
    refine (callsIn_wide.2 KR).mono ?_
    rintro e w1 ⟨rfl, rfl⟩
    clear KR c0 c1
    gi_wp2
    refine ⟨trivial, fun _ => by omega, ?_⟩
    refine (callsIn_wide.2 (KO.out _)).mono ?_
    rintro e V3 ⟨rfl, hb⟩
    have z15 : (V3.alloc (.cells #[.int .u8 0, .int .u64 0, .int .u32 0, .string ⟨#[]⟩] 64)).heap[V3.heap.size]? = some (.cells #[.int .u8 0, .int .u64 0, .int .u32 0, .string ⟨#[]⟩] 64 (0, 0)) := heap_alloc_new V3 _
    have hb2 := hb.trans ((below_setRow ((Below.refl V3.heap.size V3).alloc (Nat.le_refl _) (.cells #[.int .u8 0, .int .u64 0, .int .u32 0, .string ⟨#[]⟩] 64)) (g := V3.heap.size) (Nat.le_refl _) (recV r)).mono hb.size)
    have Z15 := Aside0.mk (setRow_heap _ _ _ (recV r) _ (0, 0) z15)
    have HS2 := Aside0.mk (show J pre ((V3.alloc (.cells #[.int .u8 0, .int .u64 0, .int .u32 0, .string ⟨#[]⟩] 64)).setRow V3.heap.size (recV r)) ∧ IW B p S F n0 c fr room ((V3.alloc (.cells #[.int .u8 0, .int .u64 0, .int .u32 0, .string ⟨#[]⟩] 64)).setRow V3.heap.size (recV r)) ∧ W.heap.size ≤ ((V3.alloc (.cells #[.int .u8 0, .int .u64 0, .int .u32 0, .string ⟨#[]⟩] 64)).setRow V3.heap.size (recV r)).heap.size from ⟨hJ pre _ _ none HS.out.1 (grown_of_below hb2) (fun r e => by cases e), HS.out.2.1.below hb2, Nat.le_trans HS.out.2.2 hb2.size⟩)
    clear hb hb2 KO HS
    by_cases hq : q = 0
    rotate_left
    · have hq' : (q == 0) = false := by simpa using hq
      have HN := Aside0.mk (show recsGo S.read fr room 0 = pre ++ recsGo S.read fr (room - (i + 1)) (i + 1) by rw [HE.out, HH.out, if_neg hq])
      clear HE HH hq Z15
      gi_wp2_with (first | refine in_store_row rfl 64 _ _ rfl V3.heap.size (recV r) rfl rfl 64 _ z15 HI2.out rfl hone2 ?_ | fail)
      refine ⟨fun _ h => (by cases h), ?_⟩
      gi_wp2
      go_roundw
      case rel => exact ⟨i + 1, pre, by go_num, by omega, HN, HS2⟩
      case measure => simp [intOf]; omega
    subst hq
    have HN := Aside0.mk (show recsGo S.read fr room 0 = (pre ++ [X]) ++ recsGo S.read fr (room - (i + 1)) (i + 1) by rw [HE.out, HH.out, if_pos rfl, List.append_assoc]; rfl)
    have hlen : pre.length < (recsGo S.read fr room 0).length := by rw [HN.out]; simp
    obtain ⟨yfn, ytmps, yassign, ybody, hy, hR⟩ := HY.out pre X _ HS2.out.1 hlen
    rw [encX, HX1.out] at hy
    dsimp only at hy
    have HR := Aside0.mk hR
    have HPX := Aside0.mk (show pre ++ [X] <+: recsGo S.read fr room 0 from ⟨_, HN.out.symm⟩)
    clear HE HH hlen hR
    gi_wp2_with (first | refine in_store_row rfl 64 _ _ rfl V3.heap.size (recV r) rfl rfl 64 _ z15 HI2.out rfl hone2 ?_ | refine in_load_row rfl 64 _ rfl V3.heap.size rfl 64 _ (0, 0) _ Z15.out Tryd.underlying64 rfl HI2.out ?_ | fail)
    refine ⟨fun _ => by omega, ?_⟩
    refine HR.out.mono ?_
    rintro e W3 (⟨rfl, hJ3, hk3⟩ | ⟨rfl, hJx3⟩)
    · have HS3 := Aside0.mk (show J (pre ++ [X]) W3 ∧ IW B p S F n0 c fr room W3 ∧ W.heap.size ≤ W3.heap.size from ⟨hJ3, HS2.out.2.1.keep hk3, Nat.le_trans HS2.out.2.2 hk3.1.size⟩)
      clear hJ3 hk3 HS2 HR hy Z15 HPX
      gi_wp2
      go_roundw
      case rel => exact ⟨i + 1, pre ++ [X], by go_num, by omega, HN, HS3⟩
      case measure => simp [intOf]; omega
    · have HX3 := Aside0.mk hJx3
      clear hJx3 HS2 HR hy Z15
      gi_wp2
      refine bodyPost_ret (results_none rfl _ _ _) rfl ?_
      exact ⟨⟨_, rfl⟩, .inr ⟨pre ++ [X], HPX.out, HX3.out⟩⟩
end Go.Proofs.YtknbhgodhmcemaaDoor.So
namespace Go.Proofs.YtknbhgodhmcemaaDoor.So
set_option linter.unusedSimpArgs false
set_option linter.unusedVariables false
set_option maxRecDepth 100000
open Go.RowKit Go.Shelf Go.Proofs.YtknbhgodhmcemaaDoor.Own Go.Proofs.YtknbhgodhmcemaaDoor.Cel Go.Proofs.YtknbhgodhmcemaaDoor.Dk
open Go.Proofs.YtknbhgodhmcemaaDoor.Sl (Rec openS open_calls recV recV_one)
attribute [local go_sem] Oper.semAt_some
variable {B p : Nat} {S : DS} {F : Nat → Prop} {W : World}
theorem records_calls (p fr room : Nat) (V : World) :
    Calls Tryd.prog 54 #[.pointer (some ⟨p, 0, none⟩), .int .i64 (fr : Nat), .int .i64 (room : Nat)] V fun e V' =>
      e = .returned (.func (.func 85) #[] #[.pointer (some ⟨V.heap.size + 2, 0, none⟩), .pointer (some ⟨V.heap.size, 0, none⟩), .pointer (some ⟨V.heap.size + 1, 0, none⟩)]) ∧
      Below V.heap.size V V' ∧ V'.heap.size = V.heap.size + 3 ∧ V'.heap[V.heap.size]? = some (.cells #[.pointer (some ⟨p, 0, none⟩)] 25 (0, 0)) ∧ V'.heap[V.heap.size + 1]? = some (.cells #[.int .i64 (fr : Nat)] 3 (0, 0)) ∧ V'.heap[V.heap.size + 2]? = some (.cells #[.int .i64 (room : Nat)] 3 (0, 0)) := by
  have b1 := (Below.refl V.heap.size V).alloc (Nat.le_refl _) (.cells #[.pointer (some ⟨p, 0, none⟩)] 25)
  have b2 := b1.alloc (by simp) (.cells #[.int .i64 (fr : Nat)] 3)
  have b3 := b2.alloc (by simp; omega) (.cells #[.int .i64 (room : Nat)] 3)
  have s1 : (V.alloc (.cells #[.pointer (some ⟨p, 0, none⟩)] 25)).heap.size = V.heap.size + 1 := by simp
  have s2 : ((V.alloc (.cells #[.pointer (some ⟨p, 0, none⟩)] 25)).alloc (.cells #[.int .i64 (fr : Nat)] 3)).heap.size = V.heap.size + 2 := by simp
  have z0 := heap_alloc_new V (.cells #[.pointer (some ⟨p, 0, none⟩)] 25)
  have z1 := heap_alloc_new (V.alloc (.cells #[.pointer (some ⟨p, 0, none⟩)] 25)) (.cells #[.int .i64 (fr : Nat)] 3)
  have z2 := heap_alloc_new ((V.alloc (.cells #[.pointer (some ⟨p, 0, none⟩)] 25)).alloc (.cells #[.int .i64 (fr : Nat)] 3)) (.cells #[.int .i64 (room : Nat)] 3)
  rw [s1] at z1
  rw [s2] at z2
  have s3 : (((V.alloc (.cells #[.pointer (some ⟨p, 0, none⟩)] 25)).alloc (.cells #[.int .i64 (fr : Nat)] 3)).alloc (.cells #[.int .i64 (room : Nat)] 3)).heap.size = V.heap.size + 3 := by simp
  have y0 : ((V.alloc (.cells #[.pointer (some ⟨p, 0, none⟩)] 25)).alloc (.cells #[.int .i64 (fr : Nat)] 3)).heap[V.heap.size]? = some (.cells #[.pointer (some ⟨p, 0, none⟩)] 25 (0, 0)) := Own.keep z0 ((Below.refl _ _).alloc (Nat.le_refl _) _)
  have y0' : (((V.alloc (.cells #[.pointer (some ⟨p, 0, none⟩)] 25)).alloc (.cells #[.int .i64 (fr : Nat)] 3)).alloc (.cells #[.int .i64 (room : Nat)] 3)).heap[V.heap.size]? = some (.cells #[.pointer (some ⟨p, 0, none⟩)] 25 (0, 0)) := Own.keep y0 ((Below.refl _ _).alloc (Nat.le_refl _) _)
  have y1 : (((V.alloc (.cells #[.pointer (some ⟨p, 0, none⟩)] 25)).alloc (.cells #[.int .i64 (fr : Nat)] 3)).alloc (.cells #[.int .i64 (room : Nat)] 3)).heap[V.heap.size + 1]? = some (.cells #[.int .i64 (fr : Nat)] 3 (0, 0)) := Own.keep z1 ((Below.refl _ _).alloc (Nat.le_refl _) _)
  have H := Aside0.mk (And.intro b3 (And.intro s3 (And.intro y0' (And.intro y1 z2))))
  clear s3 y0 y0' y1
  clear b1 b2 b3 s1 s2 z0 z1 z2
  go_enter Tryd.func54, Tryd.ntmps54
  go_wp2
  go_ret
  exact ⟨rfl, H.out⟩
def nw (m : Nat) (x : RX) : Nat := if x.1.2.k = 2 ∨ x.1.2.k = 3 then max m x.1.2.g else m
def nwF (l : List RX) : Nat := l.foldl nw 0
theorem nwF_snoc (l : List RX) (x : RX) : nwF (l ++ [x]) = nw (nwF l) x := by simp [nwF]
theorem newGo_fold (rd : List ByteArray) (fr : Nat) : ∀ (n i m : Nat), i + n ≤ 1000000 → newGo rd fr n i m = (recsGo rd fr n i).foldl nw m
  | 0, i, m, _ => rfl
  | n + 1, i, m, h => by
    rw [newGo, recsGo]
    by_cases ho : (openS (rd.getD (fr + i) ByteArray.empty)).2 = 0
    · rw [if_neg (fun x => x ho), dif_pos ⟨ho, by omega⟩, List.foldl_cons, newGo_fold rd fr n (i + 1) _ (by omega)]
      rfl
    · rw [if_pos ho, dif_neg (fun x => ho x.1), newGo_fold rd fr n (i + 1) m (by omega)]
theorem own_row (b : Nat) (cs : Array Value) (t : TypeId) {β : Type} : Own (fun (_ : β) (V : World) => V.heap[b]? = some (.cells cs t (0, 0))) := fun s X Y row hs hg hrow =>
  (hg.block b (Array.getElem?_eq_some_iff.1 hs).1 (fun e => by
    obtain ⟨o, ho, hc⟩ := hrow b e.symm
    rw [hs] at ho
    cases ho
    cases hc)).trans hs
theorem own_rowf {β : Type} (b : Nat) (f : β → Array Value) (t : TypeId) : Own (fun (s : β) (V : World) => V.heap[b]? = some (.cells (f s) t (0, 0))) := fun s X Y row hs hg hrow =>
  (hg.block b (Array.getElem?_eq_some_iff.1 hs).1 (fun e => by
    obtain ⟨o, ho, hc⟩ := hrow b e.symm
    rw [hs] at ho
    cases ho
    cases hc)).trans hs
theorem own_size {β : Type} (B k : Nat) : OwnFrom B (fun (_ : β) (V : World) => k ≤ V.heap.size) := fun _ _ _ _ hs hg _ => Nat.le_trans hs hg.size
theorem keepsFrom_below {V V' : World} {B : Nat} (hb : Below V.heap.size V V') : KeepsFrom B V V' := ⟨hb.size, fun k o _ hk _ => (hb.block k (Array.getElem?_eq_some_iff.1 hk).1).trans hk⟩
theorem keepB_below {V V' : World} {n0 c : Nat} (hb : Below V.heap.size V V') (hn : n0 ≤ V.heap.size) (hc : c + 3 ≤ V.heap.size) : KeepB n0 c V V' := ⟨hb.mono hn, fun k h1 h2 => hb.block k (by omega)⟩
set_option maxHeartbeats 8000000 in
theorem newest_calls (h : DK B p S F W) (fr room : Nat) (hr : 1 ≤ room) (hl : fr + room ≤ S.lasts.length) (hN : S.lasts.length ≤ 5000) (hsz : ∀ j, (S.read.getD j ByteArray.empty).size ≤ 1000) :
    Calls Tryd.prog 20 #[.pointer (some ⟨p, 0, none⟩), .int .i64 (fr : Nat), .int .i64 (room : Nat)] W fun e W' => e = .returned (.int .u64 (newS S.read fr room : Nat)) ∧ Below W.heap.size W W' := by
  have KM := Aside0.mk (may_calls h fr room hr hl (by omega))
  have hB7 := (Below.refl W.heap.size W).alloc (Nat.le_refl _) (.cells #[.int .u64 0] 29)
  have z7 := heap_alloc_new W (.cells #[.int .u64 0] 29)
  have s7 : (W.alloc (.cells #[.int .u64 0] 29)).heap.size = W.heap.size + 1 := by simp
  refine (callsIn_wide (n := 8)).1 ?_
  refine callsIn_of_wp_marks Tryd.func20 rfl trivial ?_ rfl
  simp only [Tryd.ntmps20, List.size_toArray, List.length_cons, List.length_nil, Nat.reduceAdd, Nat.reduceSub, Array.replicate_succ, Array.replicate_zero, List.push_toArray, List.append_toArray, List.nil_append, List.cons_append]
  gi_wp2
  refine ⟨trivial, ?_⟩
  refine (callsIn_wide.2 KM.out).mono ?_
  rintro e w1 ⟨rfl, rfl⟩
  clear KM
  gi_wp2
  generalize W.alloc (.cells #[.int .u64 0] 29) = V7 at hB7 z7 s7 ⊢
  refine ⟨trivial, ?_⟩
  refine (callsIn_wide.2 (records_calls p fr room V7)).mono ?_
  rintro e V8 ⟨rfl, hb, s8, y0, y1, y2⟩
  have hIW : IW B p S F W.heap.size V7.heap.size fr room V8 := ⟨(h.below hB7).below hb, fun k hk => (h.lt hk).2, y0, y1, y2⟩
  have z8 : V8.heap[W.heap.size]? = some (.cells #[.int .u64 0] 29 (0, 0)) := Own.keep z7 hb
  have hB8 : Below W.heap.size W V8 := hB7.trans (hb.mono hB7.size)
  rw [s7] at hIW s8 ⊢
  clear y0 y1 y2 hb z7 hB7 s7 h
  gi_wp2
  refine wpIn_rangeFunc_ownH rfl (by omega) (gf := 85) (lb := #[.pointer (some ⟨W.heap.size + 1 + 2, 0, none⟩), .pointer (some ⟨W.heap.size + 1, 0, none⟩), .pointer (some ⟨W.heap.size + 1 + 1, 0, none⟩)]) rfl trivial (enters_of Tryd.func85 (by kernel_rfl) rfl)
    (recs_stops 7 (by omega) hIW (by omega) hl hN hsz) keepB_t (keepB_b (by omega) (by omega)) (Below.refl _ _) (fun _ => rfl)
    (fun pre V => V.heap[W.heap.size]? = some (.cells #[.int .u64 (nwF pre : Nat)] 29 (0, 0)) ∧ Below W.heap.size W V ∧ V8.heap.size ≤ V.heap.size)
    (fun _ _ _ => False)
    (OwnFrom.and (Own.from (own_rowf W.heap.size (fun pre => #[.int .u64 (nwF pre : Nat)]) 29) _) (OwnFrom.and (ownFrom_below (Nat.le_refl _) (by omega)) (own_size _ _)))
    (fun _ _ _ _ _ hs _ _ => hs)
    ⟨z8, hB8, Nat.le_refl _⟩
    (fun x a' V => ∃ Bx, W.heap.size + 4 ≤ Bx ∧ V.heap[Bx]? = some (.cells (recV x.1.2) 64 (0, 0)) ∧ a' = { tmps := #[.pointer (some ⟨p, 0, none⟩), .int .i64 (fr : Nat), .int .i64 (room : Nat), undef, undef, undef, .int .u64 0, .pointer (some ⟨W.heap.size, 0, none⟩), undef, .pointer (some ⟨Bx, 0, none⟩), .pointer (some ⟨p, 0, none⟩), .int .i64 (fr : Nat), .int .i64 (room : Nat), .bool true, .bool false, .pointer (some ⟨p, 0, none⟩), .int .i64 (fr : Nat), .int .i64 (room : Nat), .func (.func 85) #[] #[.pointer (some ⟨W.heap.size + 1 + 2, 0, none⟩), .pointer (some ⟨W.heap.size + 1, 0, none⟩), .pointer (some ⟨W.heap.size + 1 + 1, 0, none⟩)], .int .i64 (x.1.1 : Nat), .agg (recV x.1.2), undef, undef, undef, undef, undef, undef, undef, undef, undef, undef, undef, undef, undef], defers := [] })
    (fun x a' s X Y row hs hg hrow => by
      obtain ⟨Bx, h1, h2, h3⟩ := hs
      exact ⟨Bx, h1, own_row Bx _ _ () X Y row h2 hg (fun r e => (hrow r e).2), h3⟩)
    ?assign ?body ?done ?stop
  case assign =>
    intro l pre x V K hi hK
    have hb2 := below_setRow ((Below.refl V.heap.size V).alloc (Nat.le_refl _) (.cells #[.int .u8 0, .int .u64 0, .int .u32 0, .string ⟨#[]⟩] 64)) (g := V.heap.size) (Nat.le_refl _) (recV x.1.2)
    have z15 : (V.alloc (.cells #[.int .u8 0, .int .u64 0, .int .u32 0, .string ⟨#[]⟩] 64)).heap[V.heap.size]? = some (.cells #[.int .u8 0, .int .u64 0, .int .u32 0, .string ⟨#[]⟩] 64 (0, 0)) := heap_alloc_new V _
    have hi2 : (Tryd.prog.info? 64).map (·.size) = some (recV x.1.2).size := Sl.infoR
    have hone2 := recV_one x.1.2
    have hK2 := fun a' => hK a' _ (keepsFrom_below hb2) (keepB_below hb2 (by have := hi.2.2; omega) (by have := hi.2.2; omega)) ⟨Own.keep hi.1 hb2, hi.2.1.trans (hb2.mono hi.2.1.size), Nat.le_trans hi.2.2 hb2.size⟩
    have HK := Aside0.mk (fun a' (h : a' = _) => hK2 a' ⟨V.heap.size, by have := hi.2.2; omega, setRow_heap _ _ _ (recV x.1.2) _ (0, 0) z15, h⟩)
    clear hK hK2 hb2 hi
    simp only [encX]
    gi_wp2_with (first | refine in_store_row rfl 64 _ _ rfl V.heap.size (recV x.1.2) rfl rfl 64 _ z15 hi2 rfl hone2 ?_ | fail)
    exact HK.out _ rfl
  case body =>
    rintro l pre x a' V hl2 ⟨r, hr2⟩ ⟨z, hB, hsV⟩ ⟨Bx, hBx, bX, rfl⟩ hlt
    obtain ⟨⟨ix, rx⟩, hx1, hx2, hx3⟩ := x
    have c7 : V.cell? ⟨W.heap.size, 0, none⟩ = some (.int .u64 (nwF pre : Nat)) := cell_of_row _ _ 0 _ _ _ z
    have f7 : V.frozen? ⟨W.heap.size, 0, none⟩ = false := frozen_of_row _ _ 0 _ _ z
    have r0 : V.cell? ⟨Bx, 0, none⟩ = some (.int .u8 (rx.k : Nat)) := cell_of_row _ _ 0 _ _ _ bX
    have r1 : V.cell? ⟨Bx, 1, none⟩ = some (.int .u64 (rx.g : Nat)) := cell_of_row _ _ 1 _ _ _ bX
    by_cases hk : rx.k = 2 ∨ rx.k = 3
    · have hn : nwF (pre ++ [⟨(ix, rx), hx1, hx2, hx3⟩]) = max (nwF pre) rx.g := by rw [nwF_snoc, nw, if_pos hk]
      have HB := Aside0.mk hB
      have hmx : max ((nwF pre : Nat) : Int) (rx.g : Int) = ((max (nwF pre) rx.g : Nat) : Int) := by omega
      have HN := Aside0.mk (show (V.setCell ⟨W.heap.size, 0, none⟩ (.int .u64 ((max (nwF pre) rx.g : Nat) : Int))).heap[W.heap.size]? = some (.cells #[.int .u64 (nwF (pre ++ [⟨(ix, rx), hx1, hx2, hx3⟩]) : Nat)] 29 (0, 0)) ∧ Below W.heap.size W (V.setCell ⟨W.heap.size, 0, none⟩ (.int .u64 ((max (nwF pre) rx.g : Nat) : Int))) ∧ V8.heap.size ≤ (V.setCell ⟨W.heap.size, 0, none⟩ (.int .u64 ((max (nwF pre) rx.g : Nat) : Int))).heap.size from
        ⟨by rw [hn]; exact heap_setCell_same V _ 0 _ _ _ z, hB.setCell (p := ⟨W.heap.size, 0, none⟩) (Nat.le_refl _) _, by simpa [World.setCell] using hsV⟩)
      have HKB := Aside0.mk (show KeepB W.heap.size (W.heap.size + 1) V (V.setCell ⟨W.heap.size, 0, none⟩ (.int .u64 ((max (nwF pre) rx.g : Nat) : Int))) from ⟨(Below.refl _ V).setCell (p := ⟨W.heap.size, 0, none⟩) (Nat.le_refl _) _, fun k h1 h2 => set_other V _ _ k (by show k ≠ W.heap.size; omega)⟩)
      have HKF := Aside0.mk ((KeepsOthers.setCell V ⟨W.heap.size, 0, none⟩ (.int .u64 ((max (nwF pre) rx.g : Nat) : Int))).from V8.heap.size)
      rw [← hmx] at HN HKB HKF
      clear hn z hB hsV bX hmx
      by_cases hk2 : rx.k = 2
      · have e1 : ((rx.k : Int) == 2) = true := by rw [hk2]; rfl
        clear hk
        gi_wp2
        exact ⟨HKF.out, HKB.out, HN.out⟩
      · have e1 : ((rx.k : Int) == 2) = false := by simp; omega
        have e2 : ((rx.k : Int) == 3) = true := by simp; omega
        clear hk
        gi_wp2
        exact ⟨HKF.out, HKB.out, HN.out⟩
    · have hn : nwF (pre ++ [⟨(ix, rx), hx1, hx2, hx3⟩]) = nwF pre := by rw [nwF_snoc, nw, if_neg hk]
      have HN := Aside0.mk (show V.heap[W.heap.size]? = some (.cells #[.int .u64 (nwF (pre ++ [⟨(ix, rx), hx1, hx2, hx3⟩]) : Nat)] 29 (0, 0)) ∧ Below W.heap.size W V ∧ V8.heap.size ≤ V.heap.size from ⟨by rw [hn]; exact z, hB, hsV⟩)
      have e1 : ((rx.k : Int) == 2) = false := by simp; omega
      have e2 : ((rx.k : Int) == 3) = false := by simp; omega
      clear hn z hB hsV bX hk
      gi_wp2
      exact ⟨KeepsFrom.refl _ _, ⟨Below.refl _ _, fun _ _ _ => rfl⟩, HN.out⟩
  case done =>
    rintro D xs V hD rfl ⟨z, hB, hsV⟩ hK
    have c7 : V.cell? ⟨W.heap.size, 0, none⟩ = some (.int .u64 (nwF (recsGo S.read fr room 0) : Nat)) := cell_of_row _ _ 0 _ _ _ z
    have hE := Aside0.mk (show newS S.read fr room = nwF (recsGo S.read fr room 0) from newGo_fold S.read fr room 0 0 (by omega))
    gi_wp2
    refine ⟨by simp, .inl ⟨_, _, rfl, run_takeDeferred hK, ?_⟩⟩
    exact ⟨_, results_tmp rfl _ _ _, by rw [hE.out]; rfl, hB.trans (belowK_b (w := W) (Nat.le_refl _) V D _ _ (by omega) hK rfl rfl)⟩
  case stop =>
    rintro D c pre V _ _ h _
    exact h.elim
end Go.Proofs.YtknbhgodhmcemaaDoor.So
