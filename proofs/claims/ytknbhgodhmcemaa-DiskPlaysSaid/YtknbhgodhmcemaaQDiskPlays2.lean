/- Texts of the seat, as far as the row needs them. -/
import Derived.Below
import Derived.BigQuiet
import Derived.ChangeArms
import Derived.ChangeSlices
import Derived.DataReads
import Derived.Deep.CutBlock
import Derived.Deep.DeepCutAuto
import Derived.Deep.DeepFit
import Derived.Deep.Light
import Derived.Deep.LoopGhost
import Derived.Deep.QuietTactic
import Derived.Deep.RegionHeld3
import Derived.Ground.Names2Prog
import Derived.Laws.AppendOwn
import Derived.Laws.BitsAllLaws
import Derived.Laws.CopyOwn
import Derived.Laws.Externs
import Derived.Laws.IdiomCopy
import Derived.Laws.IdiomStrings
import Derived.Laws.OwnMore
import Derived.Laws.ResultCell
import Derived.Laws.Rows
import Derived.Laws.Tables
import Derived.Lib.AppendStr
import Derived.Lib.FrozenHead2
import Derived.Lib.OthersKept
import Derived.Lib.RepeatB
import Derived.Lib.UnsafeStr
import Derived.Maps.Own
import Derived.Maps.OwnOps
import Derived.Maps.OwnSet
import Derived.Maps.Views
import Derived.OrdersHeld
import Derived.Outline
import Derived.OwnWalk
import Derived.Shelf.Bits.Mul64
import Derived.Shelf.Slices.Clone
import Derived.Shelf.Strings.Builder1
import Derived.Shelf.Strings.Builder2
import Derived.Shelf.Strings.Builder2Cap
import Derived.Shelf.Strings.BuilderCap
import Derived.Shelf.Strings.BuilderF
import Derived.Shelf.Strings.BuilderK
import Derived.Shelf.Strings.Prefix
import Derived.Shelf.Strings.Repeat
import Derived.StillTailTactics
import Derived.Test.YtknbhgodhmcemaaProg
import Derived.WalkKit
import Derived.WideShapes
import Derived.Test.YtknbhgodhmcemaaQDiskPlays0
import Derived.Test.YtknbhgodhmcemaaQDiskPlays1
set_option linter.unusedVariables false
set_option linter.unusedSimpArgs false
namespace Go.Proofs.Ytknbhgodhmcemaa.Dk
set_option linter.unusedSimpArgs false
set_option linter.unusedVariables false
set_option maxRecDepth 100000
open Go.RowKit Go.Proofs.Ytknbhgodhmcemaa.Own Go.Proofs.Ytknbhgodhmcemaa.Cel
abbrev bornN (k : Nat) : DS := ⟨List.replicate k (sect 0), [], 0, 0⟩
theorem owns_ge {V : World} {B n : Nat} {e : TypeId} {sz : Nat} {v : Value} {xs : List Value} (h : V.ownsRow B e sz v n xs) (q : Nat) (hq : v.ownBlock = some q) : B ≤ q := by
  rcases h.2 with ⟨rfl, _⟩ | ⟨g, _, _, rfl, hg, _⟩
  · simp [Value.ownBlock] at hq
  · simp [Value.ownBlock] at hq
    omega
theorem wp_append_run {P : Program} {o : Oper} {a : Act} {w : World} {K : Act → World → Prop} {Q : Exit → Act → World → Prop} (s x : Operand) (t : TypeId) (ho : o.op = .call { callee := .builtin .append, args := #[s, x], argTypes := #[t, t] })
    (v y : Value) (hs : a.eval s = v) (hx : a.eval x = y) {v' : Value} {w' : World} (hr : (Builtin.append_ #[t, t] o.type #[v, y]).run P w = .ok v' w') (h : K (a.put o.dst v') w') : o.wp P a w K Q := by
  unfold Oper.wp execOp
  simp only [ho, resolve, invoke, builtin, Sem.run_bind, Sem.run_pure, Result.andThen_ok, List.map_toArray, List.map_cons, List.map_nil, hs, hx, hr]
  exact h
def NR (V : World) (k : Nat) (W : World) : Prop :=
  ∃ A c, Below V.heap.size V W ∧ W.heap[V.heap.size]? = some (.cells zM 31 (0, 0)) ∧ W.heap[V.heap.size + 1]? = some (.cells (mvV (.slice A k c) (.slice none 0 0) (bornN k)) 31 (0, 0)) ∧
    W.ownsRow (V.heap.size + 2) 9 1 (.slice A k c) k (strs (List.replicate k (sect 0)))
set_option maxHeartbeats 8000000 in
theorem rnew_calls (V : World) (n : Nat) (hn : n ≤ 4096) :
    Calls Try.prog 6 #[.int .i64 (n : Nat)] V fun e V' => ∃ mv', e = .returned (.agg mv') ∧ Rid (fun _ => False) mv' (bornN n) V V' := by
  have bA := ((Below.refl V.heap.size V).alloc (Nat.le_refl _) (.cells zM 31)).alloc (by simp) (.cells zM 31)
  have z0 : ((V.alloc (.cells zM 31)).alloc (.cells zM 31)).heap[V.heap.size]? = some (.cells zM 31 (0, 0)) := Own.keep (heap_alloc_new V _) ((Below.refl _ _).alloc (Nat.le_refl _) _)
  have z1 : ((V.alloc (.cells zM 31)).alloc (.cells zM 31)).heap[V.heap.size + 1]? = some (.cells zM 31 (0, 0)) := by
    have := heap_alloc_new (V.alloc (.cells zM 31)) (.cells zM 31)
    simpa using this
  have H0 := Asd.mk (show NR V 0 ((V.alloc (.cells zM 31)).alloc (.cells zM 31)) from ⟨none, 0, bA, z0, z1, World.ownsRow_nil _ _ _ _⟩)
  clear z0 z1 bA
  go_enter Try.func6, Try.ntmps6
  go_wp2
  go_loopw [4] (fun iv W => ∃ (k : Nat), iv = .int .i64 k ∧ k ≤ n ∧ Asd (NR V k W)) (fun iv _ => n - (intOf iv).toNat)
  case atStart => exact ⟨0, rfl, by omega, H0⟩
  case round =>
    obtain ⟨k, rfl, hk, HI⟩ := hrel
    clear H0
    obtain ⟨A, c, hb, zr, z, hown⟩ := HI.out
    by_cases hlt : k < n
    · have hk1 : (k : Int) < (n : Int) := by omega
      have hs2 : V.heap.size + 1 < wr.heap.size := (Array.getElem?_eq_some_iff.1 z).1
      go_wp2_with fail
      have k0 : wr.cell? ⟨V.heap.size + 1, 0, none⟩ = some (.slice A k c) := cell_of_row _ _ 0 _ _ _ z
      have k0d : wr.drew.cell? ⟨V.heap.size + 1, 0, none⟩ = some (.slice A k c) := k0
      refine wp_region_held_drew (S := fun _ => True) (by kernel_rfl) trivial (fun hH => ?_)
      refine take_at (i := 0) (some 10) (.pointer (some ⟨V.heap.size + 1, 0, none⟩)) rfl rfl (by kernel_rfl) (by kernel_rfl) (by kernel_rfl) (fun _ _ _ h => h) (Or.inl ⟨by rfl, fun w' hSw => by go_simp⟩) hH ?_
      try simp only [Act.put, List.setIfInBounds_toArray, List.set_cons_zero, List.set_cons_succ]
      refine wpAnyH_ready (rs := [1, 2]) (by kernel_rfl) (by simp) (AllReadyH.cons rfl (fun K hK => ?_) (AllReadyH.cons rfl (fun K hK => ?_) AllReadyH.nil))
      · go_simp
        refine hK.out _ _ trivial (fun hH => ?_)
        clear hK K
        try simp only [Act.put, List.setIfInBounds_toArray, List.set_cons_zero, List.set_cons_succ]
        refine wpAnyH_ready (rs := [2]) (by kernel_rfl) (by simp) (AllReadyH.cons rfl (fun K hK => ?_) AllReadyH.nil)
        go_simp
        go_at_call 13
        refine (rblank_calls _).mono ?_
        rintro e W1 ⟨rfl, hb1⟩
        have z1 : W1.heap[V.heap.size + 1]? = some (.cells (mvV (.slice A k c) (.slice none 0 0) (bornN k)) 31 (0, 0)) := Own.keep (show wr.drew.heap[V.heap.size + 1]? = some (.cells (mvV (.slice A k c) (.slice none 0 0) (bornN k)) 31 (0, 0)) from z) hb1
        have zr1 : W1.heap[V.heap.size]? = some (.cells zM 31 (0, 0)) := (hb1.block V.heap.size (by show V.heap.size < wr.heap.size; omega)).trans zr
        have hbd : Below V.heap.size V wr.drew := hb.drew
        have hbV := hbd.trans (hb1.mono hbd.size)
        have hown1 : W1.ownsRow (V.heap.size + 2) 9 1 (.slice A k c) k (strs (List.replicate k (sect 0))) := owns_keep (show wr.drew.ownsRow (V.heap.size + 2) 9 1 (.slice A k c) k (strs (List.replicate k (sect 0))) from hown) hb1
        have hszW : V.heap.size + 1 < W1.heap.size := (Array.getElem?_eq_some_iff.1 z1).1
        have bA := (Below.refl W1.heap.size W1).alloc (Nat.le_refl _) (.cells #[.string (sect 0)] 9)
        obtain ⟨g, cap, V7, hr, ho, hgr, hf⟩ := sapp (W1.alloc (.cells #[.string (sect 0)] 9)) (V.heap.size + 2) _ k _ (owns_keep hown1 bA) (by have := bA.size; omega) (.slice (some ⟨W1.heap.size, 0, none⟩) 1 1) [sect 0] ⟨rfl, .inr ⟨W1.heap.size, 1, _, rfl, Nat.zero_le _, heap_alloc_new W1 _, Nat.le_refl _, by decide, rfl, rfl⟩⟩ (by decide) (by show k + 1 ≤ 2000000; omega)
        have hge := owns_ge hown1
        have z7 := (hgr.block (V.heap.size + 1) (by have := bA.size; omega) (fun e => by have := hge _ e.symm; omega)).trans (Own.keep z1 bA)
        have zr7 := (hgr.block V.heap.size (by have := bA.size; omega) (fun e => by have := hge _ e.symm; omega)).trans ((bA.block V.heap.size (by omega)).trans zr1)
        have hb7 := (hbV.trans (bA.mono hbV.size)).grown hgr (by have := bA.size; have := hbV.size; omega) (fun p e => by have := hge _ e; omega)
        have kf7 : V7.frozen? ⟨V.heap.size + 1, 0, none⟩ = false := frozen_of_row _ _ 0 _ _ z7
        have kc7 : V7.cell? ⟨V.heap.size + 1, 0, none⟩ = some (.slice A k c) := cell_of_row _ _ 0 _ _ _ z7
        have er : strs (List.replicate k (sect 0)) ++ strs [sect 0] = strs (List.replicate (k + 1) (sect 0)) := by rw [← strs_append, ← List.replicate_succ']
        rw [er] at ho
        have hgg := owns_ge ho g rfl
        have HN := Asd.mk (show NR V (k + 1) (V7.setCell ⟨V.heap.size + 1, 0, none⟩ (.slice (some ⟨g, 0, none⟩) (k + 1) cap)) from
          ⟨some ⟨g, 0, none⟩, cap, hb7.setCell (p := ⟨V.heap.size + 1, 0, none⟩) (by show V.heap.size ≤ V.heap.size + 1; omega) _, (set_other _ _ _ _ (by show V.heap.size ≠ V.heap.size + 1; omega)).trans zr7, heap_setCell_same V7 (V.heap.size + 1) 0 _ _ _ z7, owns_block ho (fun q e => set_other _ _ _ _ (by have := owns_ge ho q e; show q ≠ V.heap.size + 1; omega))⟩)
        have z8 := heap_setCell_same V7 (V.heap.size + 1) 0 _ _ (.slice (some ⟨g, 0, none⟩) (k + 1) cap) z7
        have kW1 : W1.cell? ⟨V.heap.size + 1, 0, none⟩ = some (.slice A k c) := cell_of_row _ _ 0 _ _ _ z1
        have kWA : (W1.alloc (.cells #[.string (sect 0)] 9)).cell? ⟨V.heap.size + 1, 0, none⟩ = some (.slice A k c) := cell_of_row _ _ 0 _ _ _ (Own.keep z1 bA)
        refine hK.out _ _ trivial (fun hH => ?_)
        clear hK K
        try simp only [Act.put, List.setIfInBounds_toArray, List.set_cons_zero, List.set_cons_succ]
        refine wpAnyH_ready (rs := [3]) (by kernel_rfl) (by simp) (AllReadyH.cons rfl (fun K hK => ?_) AllReadyH.nil)
        go_simp
        refine hK.out _ _ trivial (fun hH => ?_)
        clear hK K
        try simp only [Act.put, List.setIfInBounds_toArray, List.set_cons_zero, List.set_cons_succ]
        refine wpAnyH_ready (rs := [4]) (by kernel_rfl) (by simp) (AllReadyH.cons rfl (fun K hK => ?_) AllReadyH.nil)
        refine wp_append_run (.tmp 11) (.tmp 13) 28 rfl _ _ rfl rfl hr ?_
        refine hK.out _ _ trivial (fun hH => ?_)
        clear hK K
        try simp only [Act.put, List.setIfInBounds_toArray, List.set_cons_zero, List.set_cons_succ]
        refine take_at (i := 5) (some 15) (.pointer (some ⟨V.heap.size + 1, 0, none⟩)) rfl rfl (by kernel_rfl) (by kernel_rfl) (by kernel_rfl) (fun _ _ _ h => h) (Or.inl ⟨by rfl, fun w' hSw => by go_simp⟩) hH ?_
        try simp only [Act.put, List.setIfInBounds_toArray, List.set_cons_zero, List.set_cons_succ]
        refine wpAnyH_ready (rs := [6]) (by kernel_rfl) (by simp) (AllReadyH.cons rfl (fun K hK => ?_) AllReadyH.nil)
        go_simp
        refine hK.out _ _ trivial (fun hH => ?_)
        clear hK K hH
        refine wpAnyH_done (by kernel_rfl) ?_ _
        try simp only [Act.put, List.setIfInBounds_toArray, List.set_cons_zero, List.set_cons_succ]
        clear kW1 kWA z7 zr7 z8 kf7 kc7 ho hr hf hgr
        go_wp2
        go_roundw
        case rel => exact ⟨k + 1, by go_num, by omega, HN⟩
        case measure => simp [intOf]; omega
      · go_simp
        go_at_call 13
        refine (rblank_calls _).mono ?_
        rintro e W1 ⟨rfl, hb1⟩
        have z1 : W1.heap[V.heap.size + 1]? = some (.cells (mvV (.slice A k c) (.slice none 0 0) (bornN k)) 31 (0, 0)) := Own.keep (show wr.drew.heap[V.heap.size + 1]? = some (.cells (mvV (.slice A k c) (.slice none 0 0) (bornN k)) 31 (0, 0)) from z) hb1
        have zr1 : W1.heap[V.heap.size]? = some (.cells zM 31 (0, 0)) := (hb1.block V.heap.size (by show V.heap.size < wr.heap.size; omega)).trans zr
        have hbd : Below V.heap.size V wr.drew := hb.drew
        have hbV := hbd.trans (hb1.mono hbd.size)
        have hown1 : W1.ownsRow (V.heap.size + 2) 9 1 (.slice A k c) k (strs (List.replicate k (sect 0))) := owns_keep (show wr.drew.ownsRow (V.heap.size + 2) 9 1 (.slice A k c) k (strs (List.replicate k (sect 0))) from hown) hb1
        have hszW : V.heap.size + 1 < W1.heap.size := (Array.getElem?_eq_some_iff.1 z1).1
        have bA := (Below.refl W1.heap.size W1).alloc (Nat.le_refl _) (.cells #[.string (sect 0)] 9)
        obtain ⟨g, cap, V7, hr, ho, hgr, hf⟩ := sapp (W1.alloc (.cells #[.string (sect 0)] 9)) (V.heap.size + 2) _ k _ (owns_keep hown1 bA) (by have := bA.size; omega) (.slice (some ⟨W1.heap.size, 0, none⟩) 1 1) [sect 0] ⟨rfl, .inr ⟨W1.heap.size, 1, _, rfl, Nat.zero_le _, heap_alloc_new W1 _, Nat.le_refl _, by decide, rfl, rfl⟩⟩ (by decide) (by show k + 1 ≤ 2000000; omega)
        have hge := owns_ge hown1
        have z7 := (hgr.block (V.heap.size + 1) (by have := bA.size; omega) (fun e => by have := hge _ e.symm; omega)).trans (Own.keep z1 bA)
        have zr7 := (hgr.block V.heap.size (by have := bA.size; omega) (fun e => by have := hge _ e.symm; omega)).trans ((bA.block V.heap.size (by omega)).trans zr1)
        have hb7 := (hbV.trans (bA.mono hbV.size)).grown hgr (by have := bA.size; have := hbV.size; omega) (fun p e => by have := hge _ e; omega)
        have kf7 : V7.frozen? ⟨V.heap.size + 1, 0, none⟩ = false := frozen_of_row _ _ 0 _ _ z7
        have kc7 : V7.cell? ⟨V.heap.size + 1, 0, none⟩ = some (.slice A k c) := cell_of_row _ _ 0 _ _ _ z7
        have er : strs (List.replicate k (sect 0)) ++ strs [sect 0] = strs (List.replicate (k + 1) (sect 0)) := by rw [← strs_append, ← List.replicate_succ']
        rw [er] at ho
        have hgg := owns_ge ho g rfl
        have HN := Asd.mk (show NR V (k + 1) (V7.setCell ⟨V.heap.size + 1, 0, none⟩ (.slice (some ⟨g, 0, none⟩) (k + 1) cap)) from
          ⟨some ⟨g, 0, none⟩, cap, hb7.setCell (p := ⟨V.heap.size + 1, 0, none⟩) (by show V.heap.size ≤ V.heap.size + 1; omega) _, (set_other _ _ _ _ (by show V.heap.size ≠ V.heap.size + 1; omega)).trans zr7, heap_setCell_same V7 (V.heap.size + 1) 0 _ _ _ z7, owns_block ho (fun q e => set_other _ _ _ _ (by have := owns_ge ho q e; show q ≠ V.heap.size + 1; omega))⟩)
        have z8 := heap_setCell_same V7 (V.heap.size + 1) 0 _ _ (.slice (some ⟨g, 0, none⟩) (k + 1) cap) z7
        have kW1 : W1.cell? ⟨V.heap.size + 1, 0, none⟩ = some (.slice A k c) := cell_of_row _ _ 0 _ _ _ z1
        have kWA : (W1.alloc (.cells #[.string (sect 0)] 9)).cell? ⟨V.heap.size + 1, 0, none⟩ = some (.slice A k c) := cell_of_row _ _ 0 _ _ _ (Own.keep z1 bA)
        refine hK.out _ _ trivial (fun hH => ?_)
        clear hK K
        try simp only [Act.put, List.setIfInBounds_toArray, List.set_cons_zero, List.set_cons_succ]
        refine wpAnyH_ready (rs := [1, 3]) (by kernel_rfl) (by simp) (AllReadyH.cons rfl (fun K hK => ?_) (AllReadyH.cons rfl (fun K hK => ?_) AllReadyH.nil))
        · go_simp
          refine hK.out _ _ trivial (fun hH => ?_)
          clear hK K
          try simp only [Act.put, List.setIfInBounds_toArray, List.set_cons_zero, List.set_cons_succ]
          refine wpAnyH_ready (rs := [3]) (by kernel_rfl) (by simp) (AllReadyH.cons rfl (fun K hK => ?_) AllReadyH.nil)
          go_simp
          refine hK.out _ _ trivial (fun hH => ?_)
          clear hK K
          try simp only [Act.put, List.setIfInBounds_toArray, List.set_cons_zero, List.set_cons_succ]
          refine wpAnyH_ready (rs := [4]) (by kernel_rfl) (by simp) (AllReadyH.cons rfl (fun K hK => ?_) AllReadyH.nil)
          refine wp_append_run (.tmp 11) (.tmp 13) 28 rfl _ _ rfl rfl hr ?_
          refine hK.out _ _ trivial (fun hH => ?_)
          clear hK K
          try simp only [Act.put, List.setIfInBounds_toArray, List.set_cons_zero, List.set_cons_succ]
          refine take_at (i := 5) (some 15) (.pointer (some ⟨V.heap.size + 1, 0, none⟩)) rfl rfl (by kernel_rfl) (by kernel_rfl) (by kernel_rfl) (fun _ _ _ h => h) (Or.inl ⟨by rfl, fun w' hSw => by go_simp⟩) hH ?_
          try simp only [Act.put, List.setIfInBounds_toArray, List.set_cons_zero, List.set_cons_succ]
          refine wpAnyH_ready (rs := [6]) (by kernel_rfl) (by simp) (AllReadyH.cons rfl (fun K hK => ?_) AllReadyH.nil)
          go_simp
          refine hK.out _ _ trivial (fun hH => ?_)
          clear hK K hH
          refine wpAnyH_done (by kernel_rfl) ?_ _
          try simp only [Act.put, List.setIfInBounds_toArray, List.set_cons_zero, List.set_cons_succ]
          clear kW1 kWA z7 zr7 z8 kf7 kc7 ho hr hf hgr
          go_wp2
          go_roundw
          case rel => exact ⟨k + 1, by go_num, by omega, HN⟩
          case measure => simp [intOf]; omega
        · go_simp
          refine hK.out _ _ trivial (fun hH => ?_)
          clear hK K
          try simp only [Act.put, List.setIfInBounds_toArray, List.set_cons_zero, List.set_cons_succ]
          refine wpAnyH_ready (rs := [1]) (by kernel_rfl) (by simp) (AllReadyH.cons rfl (fun K hK => ?_) AllReadyH.nil)
          go_simp
          refine hK.out _ _ trivial (fun hH => ?_)
          clear hK K
          try simp only [Act.put, List.setIfInBounds_toArray, List.set_cons_zero, List.set_cons_succ]
          refine wpAnyH_ready (rs := [4]) (by kernel_rfl) (by simp) (AllReadyH.cons rfl (fun K hK => ?_) AllReadyH.nil)
          refine wp_append_run (.tmp 11) (.tmp 13) 28 rfl _ _ rfl rfl hr ?_
          refine hK.out _ _ trivial (fun hH => ?_)
          clear hK K
          try simp only [Act.put, List.setIfInBounds_toArray, List.set_cons_zero, List.set_cons_succ]
          refine take_at (i := 5) (some 15) (.pointer (some ⟨V.heap.size + 1, 0, none⟩)) rfl rfl (by kernel_rfl) (by kernel_rfl) (by kernel_rfl) (fun _ _ _ h => h) (Or.inl ⟨by rfl, fun w' hSw => by go_simp⟩) hH ?_
          try simp only [Act.put, List.setIfInBounds_toArray, List.set_cons_zero, List.set_cons_succ]
          refine wpAnyH_ready (rs := [6]) (by kernel_rfl) (by simp) (AllReadyH.cons rfl (fun K hK => ?_) AllReadyH.nil)
          go_simp
          refine hK.out _ _ trivial (fun hH => ?_)
          clear hK K hH
          refine wpAnyH_done (by kernel_rfl) ?_ _
          try simp only [Act.put, List.setIfInBounds_toArray, List.set_cons_zero, List.set_cons_succ]
          clear kW1 kWA z7 zr7 z8 kf7 kc7 ho hr hf hgr
          go_wp2
          go_roundw
          case rel => exact ⟨k + 1, by go_num, by omega, HN⟩
          case measure => simp [intOf]; omega
    · obtain rfl : k = n := by omega
      have i0 := infoMS (.slice A k c) (.slice none 0 0) (bornN k)
      have o0 := mvV_one (.slice A k c) (.slice none 0 0) (bornN k) rfl rfl
      go_wp2_with (first | refine wpList_load_row rfl 31 _ rfl (V.heap.size + 1) rfl 31 _ (0, 0) _ z Try.underlying31 rfl i0 ?_ | refine wpList_store_row rfl 31 _ _ rfl V.heap.size (mvV (.slice A k c) (.slice none 0 0) (bornN k)) rfl rfl 31 _ zr i0 rfl o0 ?_ | fail)
      have bE := below_setRow hb (g := V.heap.size) (Nat.le_refl _) (mvV (.slice A k c) (.slice none 0 0) (bornN k))
      refine bodyPost_ret (end_cell0 rfl _ _ _ _ _ zr rfl Try.underlying31 rfl i0) rfl ⟨_, rfl, (fun q => V.heap.size ≤ q), ⟨.slice A k c, .slice none 0 0, rfl, ?_, World.ownsRow_nil _ _ _ _, fun q hq => ?_, fun _ => rfl⟩, bE, fun q hq => .inr hq⟩
      · show World.ownsRow _ 0 9 1 (.slice A k c) (List.replicate k (sect 0)).length (strs (List.replicate k (sect 0)))
        rw [List.length_replicate]
        refine owns_mono (owns_block hown (fun q e => ?_)) (Nat.zero_le _)
        have := owns_ge hown q e
        exact setRow_other _ _ _ _ (by omega)
      · rcases hq with e | e
        · have := owns_ge hown q e; show V.heap.size ≤ q; omega
        · simp [Value.ownBlock] at e
end Go.Proofs.Ytknbhgodhmcemaa.Dk
namespace Go.Proofs.Ytknbhgodhmcemaa.Dk
set_option linter.unusedSimpArgs false
set_option linter.unusedVariables false
set_option maxRecDepth 100000
open Go.RowKit Go.Proofs.Ytknbhgodhmcemaa.Own Go.Proofs.Ytknbhgodhmcemaa.Cel
theorem applyW_all (n : Nat) : ∀ (ws : List Wt) (l : List ByteArray), (∀ s ∈ l, s.size = n) → (∀ x ∈ ws, x.2.size = n) → ∀ s ∈ applyW l ws, s.size = n
  | [], l, h, _ => h
  | x :: r, l, h, hw => applyW_all n r (l.set x.1 x.2) (fun s hs => by
      rcases List.mem_or_eq_of_mem_set hs with hs | rfl
      · exact h s hs
      · exact hw x (by simp)) (fun y hy => hw y (by simp [hy]))
structure PI (n k : Nat) (S : DS) : Prop where
  len : S.lasts.length = n
  ok : S.ok
  l128 : ∀ s ∈ S.lasts, s.size = 128
  w128 : ∀ x ∈ S.waits, x.2.size = 128
  wl : S.waits.length ≤ k
  o0 : 0 ≤ S.ops
  o1 : S.ops ≤ (k : Int)
  ar : S.armed ≤ 9223372036854775807
theorem PI.mono {n k k' : Nat} {S : DS} (h : PI n k S) (hk : k ≤ k') : PI n k' S := ⟨h.len, h.ok, h.l128, h.w128, Nat.le_trans h.wl hk, h.o0, by have := h.o1; omega, h.ar⟩
theorem PI.arm {n k : Nat} {S : DS} (h : PI n k S) (a : Int) (ha : a ≤ 9223372036854775807) : PI n k { S with armed := a } := ⟨h.len, h.ok, h.l128, h.w128, h.wl, h.o0, h.o1, ha⟩
theorem PI.failed {n k : Nat} {S : DS} (h : PI n k S) : PI n k S.fails.1 := by
  unfold DS.fails
  split
  · exact h
  · exact h.arm _ (by have := h.ar; omega)
theorem PI.crash {n k : Nat} {S : DS} (h : PI n k S) (kp : Nat → Bool) : PI n k (S.crash kp) :=
  ⟨(applyW_len _ _).trans h.len, fun x hx => absurd hx (by simp [DS.crash]), applyW_all 128 _ _ h.l128 (fun x hx => h.w128 x (keptW_mem kp x _ _ hx)), fun x hx => absurd hx (by simp [DS.crash]), Nat.zero_le _, h.o0, h.o1, h.ar⟩
theorem PI.ops {n k : Nat} {S : DS} (h : PI n k S) (o : Int) (h0 : 0 ≤ o) (h1 : o ≤ ((k + 1 : Nat) : Int)) : PI n (k + 1) { S with ops := o } := ⟨h.len, h.ok, h.l128, h.w128, Nat.le_succ_of_le h.wl, h0, h1, h.ar⟩
theorem PI.sync {n k : Nat} {S : DS} (h : PI n k S) : PI n (k + 1) S.sync.1 := by
  unfold DS.sync
  split
  · exact h.failed.mono (Nat.le_succ _)
  · exact (h.failed.crash _).ops _ (by have := h.o0; omega) (by have := h.o1; omega)
theorem PI.put {n k : Nat} {S : DS} (h : PI n k S) (i : Int) (s : ByteArray) : PI n (k + 1) (S.put i s).1 := by
  unfold DS.put
  split
  · exact h.mono (Nat.le_succ _)
  · split
    · exact h.mono (Nat.le_succ _)
    · split
      · exact h.failed.mono (Nat.le_succ _)
      · rename_i hi hs hf
        have hi' : 0 ≤ i ∧ i < (S.lasts.length : Int) := Classical.not_not.1 hi
        have hf' := h.failed
        refine ⟨hf'.len, fun x hx => ?_, hf'.l128, fun x hx => ?_, ?_, ?_, ?_, hf'.ar⟩
        · rcases List.mem_append.1 hx with hx | hx
          · exact (show x.1 < S.fails.1.lasts.length by rw [(fails_lasts S).1]; exact h.ok x hx)
          · simp only [List.mem_singleton] at hx
            subst hx
            show i.toNat < S.fails.1.lasts.length
            rw [(fails_lasts S).1]; omega
        · rcases List.mem_append.1 hx with hx | hx
          · exact h.w128 x hx
          · simp only [List.mem_singleton] at hx
            subst hx
            exact Classical.not_not.1 hs
        · show (S.waits ++ [(i.toNat, s)]).length ≤ _
          rw [List.length_append]; have := h.wl; simp; exact this
        · show 0 ≤ S.ops + 1
          have := h.o0; omega
        · show S.ops + 1 ≤ _
          have := h.o1; omega
theorem PI.rot {n k : Nat} {S : DS} (h : PI n k S) (i j : Int) (x : Nat) : PI n k (S.rot i j x) := by
  unfold DS.rot
  split
  · rename_i hi
    refine ⟨(List.length_set).trans h.len, fun y hy => ?_, fun s hs => ?_, h.w128, h.wl, h.o0, h.o1, h.ar⟩
    · show y.1 < (S.lasts.set _ _).length
      rw [List.length_set]; exact h.ok y hy
    · rcases List.mem_or_eq_of_mem_set hs with hs | rfl
      · exact h.l128 s hs
      · rw [turnS_size]
        have : i.toNat < S.lasts.length := by omega
        rw [List.getD_eq_getElem?_getD, List.getElem?_eq_getElem this]
        exact h.l128 _ (List.getElem_mem this)
  · exact h
theorem PI.born (n : Nat) : PI n 0 (bornN n) :=
  ⟨List.length_replicate, fun x hx => absurd hx (by simp), fun s hs => by rw [(List.mem_replicate.1 hs).2]; exact sect_size 0, fun x hx => absurd hx (by simp), Nat.le_refl _, Int.le_refl _, Int.le_refl _, by show (0 : Int) ≤ _; decide⟩
end Go.Proofs.Ytknbhgodhmcemaa.Dk
namespace Go.Proofs.Ytknbhgodhmcemaa.Dk
set_option linter.unusedSimpArgs false
set_option linter.unusedVariables false
set_option maxRecDepth 100000
open Go.RowKit Go.Proofs.Ytknbhgodhmcemaa.Own Go.Proofs.Ytknbhgodhmcemaa.Cel
abbrev actV (kd : Nat) (i at_ : Int) (b : Nat) (sh : Bool) (A : Option Addr) (n c : Nat) : Array Value := #[.int .u8 kd, .int .i64 i, .int .i64 at_, .int .u8 b, .bool sh, .slice A n c]
theorem three (V : World) (a b c : Obj) : (((V.alloc a).alloc b).alloc c).heap[V.heap.size]? = some a ∧ (((V.alloc a).alloc b).alloc c).heap[V.heap.size + 1]? = some b ∧ (((V.alloc a).alloc b).alloc c).heap[V.heap.size + 2]? = some c := by
  have h0 := heap_alloc_new V a
  have h1 := heap_alloc_new (V.alloc a) b
  have h2 := heap_alloc_new ((V.alloc a).alloc b) c
  have e1 : (V.alloc a).heap.size = V.heap.size + 1 := by simp
  have e2 : ((V.alloc a).alloc b).heap.size = V.heap.size + 2 := by simp
  rw [e1] at h1
  rw [e2] at h2
  exact ⟨(Below.heap_alloc _ _ _ (by omega)).trans ((Below.heap_alloc _ _ _ (by omega)).trans h0), (Below.heap_alloc _ _ _ (by omega)).trans h1, h2⟩
def Pair (B p : Nat) (F G : Nat → Prop) (mv : Array Value) (S : DS) (V : World) : Prop := DK B p S F V ∧ RD G mv S V ∧ ∀ k, F k → ¬ G k
def DoOk (B p : Nat) (F G : Nat → Prop) (S' : DS) (V : World) (e : Ending) (V' : World) : Prop :=
  ∃ mv' F' G', e = .returned (.tuple #[.agg mv', .bool true]) ∧ Pair B p F' G' mv' S' V' ∧ Only F V V' ∧ (∀ k, F' k → F k ∨ V.heap.size ≤ k) ∧ ∀ k, G' k → ((G k ∧ k < V.heap.size) ∨ V.heap.size ≤ k) ∧ k < V'.heap.size
structure DD (V : World) (B p : Nat) (F G0 : Nat → Prop) (mc ac mv : Array Value) (S T : DS) (W : World) : Prop where
  m : W.heap[V.heap.size]? = some (.cells mc 31 (0, 0))
  a : W.heap[V.heap.size + 1]? = some (.cells ac 35 (0, 0))
  z : W.heap[V.heap.size + 2]? = some (.cells zM 31 (0, 0))
  only : Only F V W
  hF : ∀ k, F k → k < V.heap.size
  both : ∃ F' G lv wv, DK B p S F' W ∧ (∀ k, F' k → F k ∨ V.heap.size + 3 ≤ k) ∧ mv = mvV lv wv T ∧ RK G lv wv T W ∧ (∀ k, G k → ((G0 k ∧ k < V.heap.size) ∨ V.heap.size + 3 ≤ k) ∧ k < W.heap.size ∧ ¬ F' k)
theorem DD.start {V : World} {B p : Nat} {F G : Nat → Prop} {lv wv : Value} {S : DS} (d : DK B p S F V) (h : RK G lv wv S V) (ap : ∀ k, F k → ¬ G k) (ac : Array Value) :
    DD V B p F G (mvV lv wv S) ac (mvV lv wv S) S S (((V.alloc (.cells (mvV lv wv S) 31)).alloc (.cells ac 35)).alloc (.cells zM 31)) := by
  have bV := (((Below.refl V.heap.size V).alloc (Nat.le_refl _) (.cells (mvV lv wv S) 31)).alloc (by simp) (.cells ac 35)).alloc (by simp; omega) (.cells zM 31)
  obtain ⟨a0, a1, a2⟩ := three V (.cells (mvV lv wv S) 31) (.cells ac 35) (.cells zM 31)
  refine ⟨a0, a1, a2, only_below bV, fun k hk => (d.lt hk).2, F, (fun q => G q ∧ q < V.heap.size), lv, wv, d.below bV, fun k hk => .inl hk, rfl, h.tight.below bV, fun k hk => ⟨.inl hk, Nat.lt_of_lt_of_le hk.2 bV.size, fun e => ap k e hk.1⟩⟩
theorem DD.size {V : World} {B p : Nat} {F G0 : Nat → Prop} {mc ac mv : Array Value} {S T : DS} {W : World} (h : DD V B p F G0 mc ac mv S T W) : V.heap.size + 3 ≤ W.heap.size := (Array.getElem?_eq_some_iff.1 h.z).1
theorem DD.step {V : World} {B p : Nat} {F G0 : Nat → Prop} {mc ac mv : Array Value} {S T : DS} {W W' : World} (h : DD V B p F G0 mc ac mv S T W) (hb : Below W.heap.size W W') : DD V B p F G0 mc ac mv S T W' := by
  obtain ⟨F', G, lv, wv, d, f, e, r, g⟩ := h.both
  exact ⟨Own.keep h.m hb, Own.keep h.a hb, Own.keep h.z hb, h.only.trans (only_below (F := F) hb) (fun i hi => .inl hi), h.hF, F', G, lv, wv, d.below hb, f, e, r.below hb, fun k hk => ⟨(g k hk).1, Nat.lt_of_lt_of_le (g k hk).2.1 hb.size, (g k hk).2.2⟩⟩
theorem DD.info {V : World} {B p : Nat} {F G0 : Nat → Prop} {mc ac mv : Array Value} {S T : DS} {W : World} (h : DD V B p F G0 mc ac mv S T W) : (Try.prog.info? 31).map (·.size) = some mv.size := by
  obtain ⟨F', G, lv, wv, d, f, rfl, r, g⟩ := h.both
  exact infoMS lv wv T
theorem DD.one {V : World} {B p : Nat} {F G0 : Nat → Prop} {mc ac mv : Array Value} {S T : DS} {W : World} (h : DD V B p F G0 mc ac mv S T W) : mv.all (·.oneCell') = true := by
  obtain ⟨F', G, lv, wv, d, f, rfl, r, g⟩ := h.both
  exact mvV_one lv wv T (owns_cell1 r.1) (owns_cell1 r.2.1)
theorem DD.four {V : World} {B p : Nat} {F G0 : Nat → Prop} {mc ac mv : Array Value} {S T : DS} {W : World} (h : DD V B p F G0 mc ac mv S T W) : mv.size = 4 := by
  obtain ⟨F', G, lv, wv, d, f, rfl, r, g⟩ := h.both
  rfl
theorem DD.did {V : World} {B p : Nat} {F G0 : Nat → Prop} {mc ac mv : Array Value} {S S' T : DS} {W : World} (h : DD V B p F G0 mc ac mv S T W) {f : FuncId} {args : Array Value} {Q : Ending → Prop}
    (hc : ∀ F', DK B p S F' W → (∀ k, F' k → F k ∨ V.heap.size ≤ k) → Calls Try.prog f args W fun e W' => Q e ∧ Did B p S' F' W W') :
    Calls Try.prog f args W fun e W' => Q e ∧ DD V B p F G0 mc ac mv S' T W' := by
  obtain ⟨F', G, lv, wv, d, hf, e, r, g⟩ := h.both
  refine (hc F' d (fun k hk => (hf k hk).elim .inl (fun x => .inr (by omega)))).mono ?_
  rintro e' W' ⟨q, F2, d2, o, f2⟩
  have hs := h.size
  have no : ∀ j, j < 3 → ¬ F' (V.heap.size + j) := fun j hj x => by
    rcases hf _ x with y | y
    · have := h.hF _ y; omega
    · omega
  refine ⟨q, (o.block V.heap.size (by omega) (no 0 (by omega))).trans h.m, (o.block (V.heap.size + 1) (by omega) (no 1 (by omega))).trans h.a, (o.block (V.heap.size + 2) (by omega) (no 2 (by omega))).trans h.z,
    h.only.trans o (fun i hi => (hf i hi).elim .inl (fun x => .inr (by omega))), h.hF, F2, G, lv, wv, d2, fun k hk => (f2 k hk).elim (hf k) (fun x => .inr (by omega)), e, r.keep (fun k hk => o.block k (g k hk).2.1 (g k hk).2.2), fun k hk => ⟨(g k hk).1, Nat.lt_of_lt_of_le (g k hk).2.1 o.size, fun x => ?_⟩⟩
  rcases f2 k x with y | y
  · exact (g k hk).2.2 y
  · have := (g k hk).2.1; omega
theorem DD.ref {V : World} {B p : Nat} {F G0 : Nat → Prop} {mc ac mv : Array Value} {S T T' : DS} {W : World} (h : DD V B p F G0 mc ac mv S T W) {f : FuncId} {args : Array Value} {R : Array Value → Ending}
    (hc : ∀ G lv wv, mv = mvV lv wv T → RK G lv wv T W → Calls Try.prog f args W fun e W' => ∃ mv', e = R mv' ∧ Rid G mv' T' W W') :
    Calls Try.prog f args W fun e W' => ∃ mv', e = R mv' ∧ DD V B p F G0 mc ac mv' S T' W' := by
  obtain ⟨F', G, lv, wv, d, hf, e, r, g⟩ := h.both
  refine (hc G lv wv e r).mono ?_
  rintro e' W' ⟨mv', rfl, G', ⟨lv', wv', rfl, r'⟩, hb, g'⟩
  have hs := h.size
  refine ⟨_, rfl, Own.keep h.m hb, Own.keep h.a hb, Own.keep h.z hb, h.only.trans (only_below (F := F) hb) (fun i hi => .inl hi), h.hF, F', (fun q => G' q ∧ q < W'.heap.size), lv', wv', d.below hb, hf, rfl, r'.tight, fun k hk => ?_⟩
  rcases g' k hk.1 with x | x
  · exact ⟨(g k x).1, hk.2, (g k x).2.2⟩
  · exact ⟨.inr (by omega), hk.2, fun y => by have := (d.lt y).2; omega⟩
theorem setRow_size (W : World) (b : Nat) (cs : Array Value) : (W.setRow b cs).heap.size = W.heap.size := by simp [World.setRow]
theorem only_row {F : Nat → Prop} (W : World) (b : Nat) (cs : Array Value) (h : F b) : Only F W (W.setRow b cs) :=
  ⟨rfl, rfl, rfl, by rw [setRow_size]; exact Nat.le_refl _, fun k _ hn => setRow_other W b k cs (fun e => hn (e ▸ h))⟩
theorem DD.put {V : World} {B p : Nat} {F G0 : Nat → Prop} {mc ac mv : Array Value} {S T : DS} {W : World} (h : DD V B p F G0 mc ac mv S T W) : DD V B p F G0 mv ac mv S T (W.setRow V.heap.size mv) := by
  obtain ⟨F', G, lv, wv, d, hf, e, r, g⟩ := h.both
  have hs := h.size
  refine ⟨setRow_heap W _ _ mv _ _ h.m, (setRow_other W V.heap.size (V.heap.size + 1) mv (by omega)).trans h.a, (setRow_other W V.heap.size (V.heap.size + 2) mv (by omega)).trans h.z, h.only.trans (only_row (F := fun k => k = V.heap.size) W _ mv rfl) (fun i hi => .inr (by omega)), h.hF, F', G, lv, wv,
    d.keep (fun k hk => setRow_other W _ k mv (fun x => ?_)), hf, e, r.keep (fun k hk => setRow_other W _ k mv (fun x => ?_)), fun k hk => by rw [setRow_size]; exact g k hk⟩
  · rcases hf k hk with y | y
    · have := h.hF _ y; omega
    · omega
  · rcases (g k hk).1 with y | y
    · have := y.2; omega
    · omega
theorem DD.arm {V : World} {B p : Nat} {F G0 : Nat → Prop} {ac mv : Array Value} {S T : DS} {W : World} (h : DD V B p F G0 mv ac mv S T W) (n : Int) : ∃ mv', DD V B p F G0 mv' ac mv' S { T with armed := n } (W.setCell ⟨V.heap.size, 2, none⟩ (.int .i64 n)) := by
  obtain ⟨F', G, lv, wv, d, hf, rfl, r, g⟩ := h.both
  have hs := h.size
  have hz : (W.setCell ⟨V.heap.size, 2, none⟩ (.int .i64 n)).heap.size = W.heap.size := by simp
  have z0 : (W.setCell ⟨V.heap.size, 2, none⟩ (.int .i64 n)).heap[V.heap.size]? = some (.cells (mvV lv wv { T with armed := n }) 31 (0, 0)) := heap_setCell_same W V.heap.size 2 _ _ (.int .i64 n) h.m
  refine ⟨mvV lv wv { T with armed := n }, z0, (set_other _ _ _ _ (by show V.heap.size + 1 ≠ V.heap.size; omega)).trans h.a, (set_other _ _ _ _ (by show V.heap.size + 2 ≠ V.heap.size; omega)).trans h.z,
    h.only.trans (only_set (F := fun k => k = V.heap.size) _ _ rfl) (fun i hi => .inr (by omega)), h.hF, F', G, lv, wv, d.keep (fun k hk => set_other _ _ _ _ (fun x => ?_)), hf, rfl, r.keep (fun k hk => set_other _ _ _ _ (fun x => ?_)), fun k hk => by rw [hz]; exact g k hk⟩
  · have x' : k = V.heap.size := x
    rcases hf k hk with y | y
    · have := h.hF _ y; omega
    · omega
  · have x' : k = V.heap.size := x
    rcases (g k hk).1 with y | y
    · have := y.2; omega
    · omega
theorem DD.done {V : World} {B p : Nat} {F G0 : Nat → Prop} {ac mv : Array Value} {S : DS} {W : World} (h : DD V B p F G0 mv ac mv S S W) : DoOk B p F G0 S V (.returned (.tuple #[.agg mv, .bool true])) (W.setRow (V.heap.size + 2) mv) := by
  obtain ⟨F', G, lv, wv, d, hf, rfl, r, g⟩ := h.both
  refine ⟨_, F', G, rfl, ⟨d.keep (fun k hk => setRow_other W _ k _ (fun x => ?_)), ⟨lv, wv, rfl, r.keep (fun k hk => setRow_other W _ k _ (fun x => ?_))⟩, fun k hk x => (g k x).2.2 hk⟩, h.only.trans (only_row (F := fun k => k = V.heap.size + 2) W _ _ rfl) (fun i hi => .inr (by omega)), fun k hk => (hf k hk).elim .inl (fun x => .inr (by omega)), fun k hk => ⟨(g k hk).1.elim .inl (fun x => .inr (by omega)), by rw [setRow_size]; exact (g k hk).2.1⟩⟩
  · rcases hf k hk with y | y
    · have := h.hF _ y; omega
    · omega
  · rcases (g k hk).1 with y | y
    · have := y.2; omega
    · omega
theorem KeepAt.karg {F : Nat → Prop} {A : Option Addr} {ks : List Bool} {V : World} (h : KeepAt F A ks V) : KArg A ks V := fun i hi => by
  obtain ⟨a, b, o, e, rfl, _, hc⟩ := h i hi
  exact ⟨b, o, e, hc⟩
theorem KeepAt.to {F F' : Nat → Prop} {A : Option Addr} {ks : List Bool} {V W : World} (h : KeepAt F A ks V) (o : Only F V W) (hf : ∀ k, F' k → F k ∨ V.heap.size ≤ k) : KeepAt F' A ks W := fun i hi => by
  obtain ⟨a, b, q, e, ha, hn, hc⟩ := h.only o i hi
  obtain ⟨_, b2, q2, e2, _, _, hc2⟩ := h i hi
  have hb : b < V.heap.size := by
    rw [e] at e2
    obtain rfl : b = b2 := by injection e2 with e2; injection e2
    exact World.block_lt_of_cell? V _ hc2
  exact ⟨a, b, q, e, ha, fun x => by rcases hf b x with y | y; exact hn y; omega, hc⟩
end Go.Proofs.Ytknbhgodhmcemaa.Dk
namespace Go.Proofs.Ytknbhgodhmcemaa.Dk
set_option linter.unusedSimpArgs false
set_option linter.unusedVariables false
set_option maxRecDepth 100000
open Go.RowKit Go.Proofs.Ytknbhgodhmcemaa.Own Go.Proofs.Ytknbhgodhmcemaa.Cel
set_option maxHeartbeats 8000000 in
theorem do_arm {B p : Nat} {F G : Nat → Prop} {lv wv : Value} {S : DS} {V : World} (d : DK B p S F V) (h : RK G lv wv S V) (ap : ∀ k, F k → ¬ G k) (i n : Int) (b : Nat) (sh : Bool) (A : Option Addr) (kn kc : Nat) :
    Calls Try.prog 7 #[.pointer (some ⟨p, 0, none⟩), .agg (mvV lv wv S), .agg (actV 3 i n b sh A kn kc)] V (DoOk B p F G { S with armed := n } V) := by
  have H := Asd.mk (DD.start d h ap (actV 3 i n b sh A kn kc))
  obtain ⟨mv, hmv⟩ : ∃ mv, mvV lv wv S = mv := ⟨_, rfl⟩
  rw [hmv] at H ⊢
  clear hmv d h ap
  have K := Asd.mk (H.out.did (S' := { S with armed := n }) (Q := fun e => e = .returned (.tuple #[])) (fun F' d' _ => (arm_calls d' n).mono fun e W' x => ⟨x.1, F', x.2.1, x.2.2, fun k hk => .inl hk⟩))
  clear H
  go_enter Try.func7, Try.ntmps7
  go_wp2_with fail
  refine K.out.mono ?_
  rintro e W1 ⟨rfl, h1⟩
  clear K
  have c2 : W1.cell? ⟨V.heap.size + 1, 2, none⟩ = some (.int .i64 n) := cell_of_row _ _ 2 _ _ _ h1.a
  obtain ⟨mv', h3⟩ := h1.arm n
  have f02 : W1.frozen? ⟨V.heap.size, 2, none⟩ = false := frozen_of_row _ _ 2 _ _ h1.m
  have k02 : ∃ u, W1.cell? ⟨V.heap.size, 2, none⟩ = some u := by
    have e := cell_of_row _ _ 2 _ _ _ h1.m
    have hi := h1.info
    rw [infoM] at hi
    exact ⟨_, e.trans (Array.getElem?_eq_getElem (by injection hi with hi; omega))⟩
  obtain ⟨u0, k02⟩ := k02
  clear h1
  have y0 := h3.m
  have y2 := h3.z
  have i1 := h3.info
  have o1 := h3.one
  have q2 : zM.size = mv'.size := h3.four.symm
  have H3 := Asd.mk h3
  clear h3
  go_wp2_with (first | refine wpList_load_row rfl 31 _ rfl V.heap.size rfl 31 _ (0, 0) _ y0 Try.underlying31 rfl i1 ?_ | refine wpList_store_row rfl 31 _ _ rfl (V.heap.size + 2) mv' rfl rfl 31 _ y2 i1 q2 o1 ?_ | fail)
  exact bodyPost_ret (Cel.end_cell rfl _ _ _ _ _ y2 rfl Try.underlying31 rfl i1) rfl (by exact H3.out.done)
set_option maxHeartbeats 8000000 in
theorem do_none {B p : Nat} {F G : Nat → Prop} {lv wv : Value} {S : DS} {V : World} (d : DK B p S F V) (h : RK G lv wv S V) (ap : ∀ k, F k → ¬ G k) (kd : Nat) (i n : Int) (b : Nat) (sh : Bool) (A : Option Addr) (kn kc : Nat) (hk : 5 ≤ kd) :
    Calls Try.prog 7 #[.pointer (some ⟨p, 0, none⟩), .agg (mvV lv wv S), .agg (actV kd i n b sh A kn kc)] V (DoOk B p F G S V) := by
  have H := Asd.mk (DD.start d h ap (actV kd i n b sh A kn kc))
  obtain ⟨mv, hmv⟩ : ∃ mv, mvV lv wv S = mv := ⟨_, rfl⟩
  rw [hmv] at H ⊢
  clear hmv d h ap
  have t0 : ((kd : Int) == 0) = false := by simp; omega
  have t0' : (kd == 0) = false := by simp; omega
  have t1 : ((kd : Int) == 1) = false := by simp; omega
  have t1' : (kd == 1) = false := by simp; omega
  have t2 : ((kd : Int) == 2) = false := by simp; omega
  have t2' : (kd == 2) = false := by simp; omega
  have t3 : ((kd : Int) == 3) = false := by simp; omega
  have t3' : (kd == 3) = false := by simp; omega
  have t4 : ((kd : Int) == 4) = false := by simp; omega
  have t4' : (kd == 4) = false := by simp; omega
  have h3 := H.out
  clear H hk
  go_enter Try.func7, Try.ntmps7
  have y0 := h3.m
  have y2 := h3.z
  have i1 := h3.info
  have o1 := h3.one
  have q2 : zM.size = mv.size := h3.four.symm
  have H3 := Asd.mk h3
  clear h3
  go_wp2_with (first | refine wpList_load_row rfl 31 _ rfl V.heap.size rfl 31 _ (0, 0) _ y0 Try.underlying31 rfl i1 ?_ | refine wpList_store_row rfl 31 _ _ rfl (V.heap.size + 2) mv rfl rfl 31 _ y2 i1 q2 o1 ?_ | fail)
  exact bodyPost_ret (Cel.end_cell rfl _ _ _ _ _ y2 rfl Try.underlying31 rfl i1) rfl (by exact H3.out.done)
end Go.Proofs.Ytknbhgodhmcemaa.Dk
namespace Go.Proofs.Ytknbhgodhmcemaa.Dk
set_option linter.unusedSimpArgs false
set_option linter.unusedVariables false
set_option maxRecDepth 100000
open Go.RowKit Go.Proofs.Ytknbhgodhmcemaa.Own Go.Proofs.Ytknbhgodhmcemaa.Cel
set_option maxHeartbeats 8000000 in
theorem do_sync {B p : Nat} {F G : Nat → Prop} {lv wv : Value} {S : DS} {V : World} (d : DK B p S F V) (h : RK G lv wv S V) (ap : ∀ k, F k → ¬ G k) {N k : Nat} (P : PI N k S) (hN0 : 0 < N) (hN : N ≤ 100000) (hk : k ≤ 1000000) (i n : Int) (b : Nat) (sh : Bool) (A : Option Addr) (kn kc : Nat) :
    Calls Try.prog 7 #[.pointer (some ⟨p, 0, none⟩), .agg (mvV lv wv S), .agg (actV 1 i n b sh A kn kc)] V (DoOk B p F G S.sync.1 V) := by
  have hl := P.len
  have hw : S.waits.length ≤ 1000000 := Nat.le_trans P.wl hk
  have ho : S.ops ≤ 4611686018427387904 := by have := P.o1; omega
  have hl0 : 0 < S.lasts.length := by omega
  have hl1 : S.lasts.length ≤ 100000 := by omega
  have H := Asd.mk (DD.start d h ap (actV 1 i n b sh A kn kc))
  obtain ⟨mv, hmv⟩ : ∃ mv, mvV lv wv S = mv := ⟨_, rfl⟩
  rw [hmv] at H ⊢
  clear hmv d h ap
  have K := Asd.mk (H.out.did (fun F' d' _ => sync_calls d' P.ok P.ar hw P.o0 ho))
  have HP := Asd.mk (And.intro P.ok (And.intro hl0 (And.intro hl1 (And.intro hw (And.intro P.ar (And.intro P.o0 ho))))))
  obtain ⟨q, hq⟩ : ∃ q, S.sync.2 = q := ⟨_, rfl⟩
  obtain ⟨S', hS'⟩ : ∃ x, S.sync.1 = x := ⟨_, rfl⟩
  have HQ := Asd.mk (And.intro hq hS')
  rw [hq, hS'] at K
  rw [hS']
  have t : (q == q) = true := by simp
  clear H hq hS' P hl hw ho hl0 hl1 hN0 hN hk
  go_enter Try.func7, Try.ntmps7
  go_wp2_with fail
  refine K.out.mono ?_
  rintro e W1 ⟨rfl, h1⟩
  clear K
  have y0 := h1.m
  have i0 := h1.info
  have q4 := h1.four
  have KR := Asd.mk (h1.ref (f := 19) (args := #[.agg mv]) (T' := S') (R := fun m => .returned (.tuple #[.agg m, .int .i64 q])) (fun G lv wv e r => by
    obtain ⟨a1, a2, a3, a4, a5, a6, a7⟩ := HP.out
    have := rsync_calls r a1 a2 a3 a4 a5 a6 a7
    rw [HQ.out.1, HQ.out.2] at this
    rw [e]; exact this))
  clear h1
  go_wp2_with (first | refine wpList_load_row rfl 31 _ rfl V.heap.size rfl 31 _ (0, 0) _ y0 Try.underlying31 rfl i0 ?_ | fail)
  refine KR.out.mono ?_
  rintro e W2 ⟨mv', rfl, h2⟩
  have y0 := h2.m
  have i2 := h2.info
  have o2 := h2.one
  have h3 := h2.put
  have q2 : zM.size = mv'.size := h2.four.symm
  have q0 : mv.size = mv'.size := q4.trans h2.four.symm
  clear KR h2 i0
  have x0 := h3.m
  have x2 := h3.z
  have H3 := Asd.mk h3
  clear h3
  go_wp2_with (first | refine wpList_store_row rfl 31 _ _ rfl V.heap.size mv' rfl rfl 31 _ y0 i2 q0 o2 ?_ | refine wpList_load_row rfl 31 _ rfl V.heap.size rfl 31 _ (0, 0) _ x0 Try.underlying31 rfl i2 ?_ | refine wpList_store_row rfl 31 _ _ rfl (V.heap.size + 2) mv' rfl rfl 31 _ x2 i2 q2 o2 ?_ | fail)
  exact bodyPost_ret (Cel.end_cell rfl _ _ _ _ _ x2 rfl Try.underlying31 rfl i2) rfl (by exact H3.out.done)
set_option maxHeartbeats 8000000 in
theorem do_crash {B p : Nat} {F G : Nat → Prop} {lv wv : Value} {S : DS} {V : World} (d : DK B p S F V) (h : RK G lv wv S V) (ap : ∀ k, F k → ¬ G k) {N k : Nat} (P : PI N k S) (hN0 : 0 < N) (hN : N ≤ 100000) (hk : k ≤ 1000000) (i n : Int) (b : Nat) (sh : Bool) (A : Option Addr) (ks : List Bool) (kc : Nat) (hks : KeepAt F A ks V) (hkl : ks.length ≤ 1000000) :
    Calls Try.prog 7 #[.pointer (some ⟨p, 0, none⟩), .agg (mvV lv wv S), .agg (actV 2 i n b sh A ks.length kc)] V (DoOk B p F G (S.crash (fun j => ks.getD j false)) V) := by
  have hl := P.len
  have hw : S.waits.length ≤ 1000000 := Nat.le_trans P.wl hk
  have ho : S.ops ≤ 4611686018427387904 := by have := P.o1; omega
  have hl0 : 0 < S.lasts.length := by omega
  have hl1 : S.lasts.length ≤ 100000 := by omega
  have H := Asd.mk (DD.start d h ap (actV 2 i n b sh A ks.length kc))
  obtain ⟨mv, hmv⟩ : ∃ mv, mvV lv wv S = mv := ⟨_, rfl⟩
  rw [hmv] at H ⊢
  clear hmv d h ap
  have K := Asd.mk (H.out.did (fun F' d' hf => crash_calls d' P.ok hw A kc ks (hks.to H.out.only hf) hkl))
  have HP := Asd.mk (And.intro P.ok (And.intro hl0 (And.intro hl1 (And.intro hw (And.intro hks hkl)))))
  obtain ⟨S', hS'⟩ : ∃ x, S.crash (fun j => ks.getD j false) = x := ⟨_, rfl⟩
  obtain ⟨kn, hkn⟩ : ∃ x, ks.length = x := ⟨_, rfl⟩
  have HQ := Asd.mk (And.intro hS' hkn)
  rw [hS', hkn] at K
  rw [hS', hkn]
  clear H hS' hkn P hl hw ho hl0 hl1 hN0 hN hk hks hkl
  go_enter Try.func7, Try.ntmps7
  go_wp2_with fail
  refine K.out.mono ?_
  rintro e W1 ⟨rfl, h1⟩
  clear K
  have c5 : W1.cell? ⟨V.heap.size + 1, 5, none⟩ = some (.slice A kn kc) := cell_of_row _ _ 5 _ _ _ h1.a
  have y0 := h1.m
  have i0 := h1.info
  have q4 := h1.four
  have KR := Asd.mk (h1.ref (f := 20) (args := #[.agg mv, .slice A kn kc]) (T' := S') (R := fun m => .returned (.agg m)) (fun G lv wv e r => by
    obtain ⟨a1, a2, a3, a4, a5, a6⟩ := HP.out
    have := rcrash_calls r a1 a2 a3 a4 A kc ks (a5.only h1.only).karg a6
    rw [HQ.out.1, HQ.out.2] at this
    rw [e]; exact this))
  clear h1
  go_wp2_with (first | refine wpList_load_row rfl 31 _ rfl V.heap.size rfl 31 _ (0, 0) _ y0 Try.underlying31 rfl i0 ?_ | fail)
  refine KR.out.mono ?_
  rintro e W2 ⟨mv', rfl, h2⟩
  have y0 := h2.m
  have i2 := h2.info
  have o2 := h2.one
  have h3 := h2.put
  have q2 : zM.size = mv'.size := h2.four.symm
  have q0 : mv.size = mv'.size := q4.trans h2.four.symm
  clear KR h2 i0
  have x0 := h3.m
  have x2 := h3.z
  have H3 := Asd.mk h3
  clear h3
  go_wp2_with (first | refine wpList_store_row rfl 31 _ _ rfl V.heap.size mv' rfl rfl 31 _ y0 i2 q0 o2 ?_ | refine wpList_load_row rfl 31 _ rfl V.heap.size rfl 31 _ (0, 0) _ x0 Try.underlying31 rfl i2 ?_ | refine wpList_store_row rfl 31 _ _ rfl (V.heap.size + 2) mv' rfl rfl 31 _ x2 i2 q2 o2 ?_ | fail)
  exact bodyPost_ret (Cel.end_cell rfl _ _ _ _ _ x2 rfl Try.underlying31 rfl i2) rfl (by exact H3.out.done)
end Go.Proofs.Ytknbhgodhmcemaa.Dk
namespace Go.Proofs.Ytknbhgodhmcemaa.Dk
set_option linter.unusedSimpArgs false
set_option linter.unusedVariables false
set_option maxRecDepth 100000
open Go.RowKit Go.Proofs.Ytknbhgodhmcemaa.Own Go.Proofs.Ytknbhgodhmcemaa.Cel
set_option maxHeartbeats 8000000 in
theorem do_rot {B p : Nat} {F G : Nat → Prop} {lv wv : Value} {S : DS} {V : World} (d : DK B p S F V) (h : RK G lv wv S V) (ap : ∀ k, F k → ¬ G k) {N k : Nat} (P : PI N k S) (hN0 : 0 < N) (hN : N ≤ 100000) (hk : k ≤ 1000000) (i n : Int) (b : Nat) (sh : Bool) (A : Option Addr) (kn kc : Nat) (hb : b < 256) (hi1 : i ≤ 9223372036854775807) :
    Calls Try.prog 7 #[.pointer (some ⟨p, 0, none⟩), .agg (mvV lv wv S), .agg (actV 4 i n b sh A kn kc)] V (DoOk B p F G (S.rot i n b) V) := by
  have hl := P.len
  have hw : S.waits.length ≤ 1000000 := Nat.le_trans P.wl hk
  have ho : S.ops ≤ 4611686018427387904 := by have := P.o1; omega
  have hl0 : 0 < S.lasts.length := by omega
  have hl1 : S.lasts.length ≤ 100000 := by omega
  have H := Asd.mk (DD.start d h ap (actV 4 i n b sh A kn kc))
  obtain ⟨mv, hmv⟩ : ∃ mv, mvV lv wv S = mv := ⟨_, rfl⟩
  rw [hmv] at H ⊢
  clear hmv d h ap
  have K := Asd.mk (H.out.did (fun F' d' _ => rot_calls d' i n b hb P.l128 hi1))
  have HP := Asd.mk (And.intro hl1 (And.intro hb P.l128))
  obtain ⟨S', hS'⟩ : ∃ x, S.rot i n b = x := ⟨_, rfl⟩
  have HQ := Asd.mk hS'
  rw [hS'] at K
  rw [hS']
  clear H hS' P hl hw ho hl0 hl1 hN0 hN hk hi1
  go_enter Try.func7, Try.ntmps7
  go_wp2_with fail
  refine K.out.mono ?_
  rintro e W1 ⟨rfl, h1⟩
  clear K
  have c1 : W1.cell? ⟨V.heap.size + 1, 1, none⟩ = some (.int .i64 i) := cell_of_row _ _ 1 _ _ _ h1.a
  have c2 : W1.cell? ⟨V.heap.size + 1, 2, none⟩ = some (.int .i64 n) := cell_of_row _ _ 2 _ _ _ h1.a
  have c3 : W1.cell? ⟨V.heap.size + 1, 3, none⟩ = some (.int .u8 (b : Nat)) := cell_of_row _ _ 3 _ _ _ h1.a
  have y0 := h1.m
  have i0 := h1.info
  have q4 := h1.four
  have KR := Asd.mk (h1.ref (f := 23) (args := #[.agg mv, .int .i64 i, .int .i64 n, .int .u8 (b : Nat)]) (T' := S') (R := fun m => .returned (.agg m)) (fun G lv wv e r => by
    obtain ⟨a1, a2, a3⟩ := HP.out
    have := rrot_calls r i n b a1 a2 a3
    rw [HQ.out] at this
    rw [e]; exact this))
  clear h1
  go_wp2_with (first | refine wpList_load_row rfl 31 _ rfl V.heap.size rfl 31 _ (0, 0) _ y0 Try.underlying31 rfl i0 ?_ | fail)
  refine KR.out.mono ?_
  rintro e W2 ⟨mv', rfl, h2⟩
  have y0 := h2.m
  have i2 := h2.info
  have o2 := h2.one
  have h3 := h2.put
  have q2 : zM.size = mv'.size := h2.four.symm
  have q0 : mv.size = mv'.size := q4.trans h2.four.symm
  clear KR h2 i0
  have x0 := h3.m
  have x2 := h3.z
  have H3 := Asd.mk h3
  clear h3
  go_wp2_with (first | refine wpList_store_row rfl 31 _ _ rfl V.heap.size mv' rfl rfl 31 _ y0 i2 q0 o2 ?_ | refine wpList_load_row rfl 31 _ rfl V.heap.size rfl 31 _ (0, 0) _ x0 Try.underlying31 rfl i2 ?_ | refine wpList_store_row rfl 31 _ _ rfl (V.heap.size + 2) mv' rfl rfl 31 _ x2 i2 q2 o2 ?_ | fail)
  exact bodyPost_ret (Cel.end_cell rfl _ _ _ _ _ x2 rfl Try.underlying31 rfl i2) rfl (by exact H3.out.done)
end Go.Proofs.Ytknbhgodhmcemaa.Dk
namespace Go.Proofs.Ytknbhgodhmcemaa.Dk
set_option linter.unusedSimpArgs false
set_option linter.unusedVariables false
set_option maxRecDepth 100000
open Go.RowKit Go.Proofs.Ytknbhgodhmcemaa.Own Go.Proofs.Ytknbhgodhmcemaa.Cel
def wtxt (b : UInt8) (sh : Bool) : ByteArray := if sh then (sect b).extract 1 128 else sect b
set_option maxHeartbeats 8000000 in
theorem do_write {B p : Nat} {F G : Nat → Prop} {lv wv : Value} {S : DS} {V : World} (d : DK B p S F V) (h : RK G lv wv S V) (ap : ∀ k, F k → ¬ G k) {N k : Nat} (P : PI N k S) (hN0 : 0 < N) (hN : N ≤ 100000) (hk : k ≤ 1000000) (i n : Int) (b : UInt8) (sh : Bool) (A : Option Addr) (kn kc : Nat) (hi0 : -9223372036854775808 ≤ i) (hi1 : i ≤ 9223372036854775807) :
    Calls Try.prog 7 #[.pointer (some ⟨p, 0, none⟩), .agg (mvV lv wv S), .agg (actV 0 i n b.toNat sh A kn kc)] V (DoOk B p F G (S.put i (wtxt b sh)).1 V) := by
  have hl := P.len
  have hw : S.waits.length ≤ 1000000 := Nat.le_trans P.wl hk
  have ho : S.ops ≤ 4611686018427387904 := by have := P.o1; omega
  have hl0 : 0 < S.lasts.length := by omega
  have hl1 : S.lasts.length ≤ 100000 := by omega
  have H := Asd.mk (DD.start d h ap (actV 0 i n b.toNat sh A kn kc))
  obtain ⟨mv, hmv⟩ : ∃ mv, mvV lv wv S = mv := ⟨_, rfl⟩
  rw [hmv] at H ⊢
  clear hmv d h ap
  have KF := Asd.mk (fun V => fill_calls b V)
  obtain ⟨s8, hs8⟩ : ∃ x, sect b = x := ⟨_, rfl⟩
  have hz8 : s8.size = 128 := by rw [← hs8]; exact sect_size _
  have HP := Asd.mk (And.intro hl1 (And.intro hw (And.intro P.ar (And.intro P.o0 (And.intro ho (And.intro hi0 hi1))))))
  have HW := Asd.mk (fun (t : ByteArray) (W : World) (h1 : DD V B p F G mv (actV 0 i n b.toNat sh A kn kc) mv S S W) => h1.did (fun F' d' _ => write_calls d' P.ar hw P.o0 ho i t hi0 hi1))
  have HR := Asd.mk (fun (t : ByteArray) (S' : DS) (W : World) (h1 : DD V B p F G mv (actV 0 i n b.toNat sh A kn kc) mv S' S W) => h1.ref (f := 17) (args := #[.agg mv, .int .i64 i, .string t]) (T' := (S.put i t).1) (R := fun m => .returned (.tuple #[.agg m, .int .i64 (S.put i t).2])) (fun G lv wv e r => by
    obtain ⟨a1, a2, a3, a4, a5, _⟩ := HP.out
    rw [e]; exact rput_calls r i t a1 a2 a3 a4 a5))
  rw [hs8] at KF
  unfold wtxt
  rw [hs8]
  obtain ⟨x8, hx8⟩ : ∃ x : Nat, b.toNat = x := ⟨_, rfl⟩
  rw [hx8] at KF H HW HR ⊢
  clear hs8 hx8 P hl hw ho hl0 hl1 hN0 hN hk hi0 hi1 HP
  cases sh with
  | true =>
    rw [if_pos rfl]
    obtain ⟨q, hq⟩ : ∃ q, (S.put i (s8.extract 1 128)).2 = q := ⟨_, rfl⟩
    obtain ⟨S', hS'⟩ : ∃ x, (S.put i (s8.extract 1 128)).1 = x := ⟨_, rfl⟩
    have KW := Asd.mk (HW.out (s8.extract 1 128))
    have KR0 := Asd.mk (HR.out (s8.extract 1 128))
    rw [hq, hS'] at KW KR0
    rw [hS']
    have t : (q == q) = true := by simp
    clear HW HR hq hS'
    go_enter Try.func7, Try.ntmps7
    go_wp2_with fail
    refine (KF.out _).mono ?_
    rintro e W1 ⟨rfl, hb⟩
    have h1 := H.out.step hb
    clear KF H hb
    have c1 : W1.cell? ⟨V.heap.size + 1, 1, none⟩ = some (.int .i64 i) := cell_of_row _ _ 1 _ _ _ h1.a
    have c4 : W1.cell? ⟨V.heap.size + 1, 4, none⟩ = some (.bool true) := cell_of_row _ _ 4 _ _ _ h1.a
    have KW1 := Asd.mk (KW.out W1 h1)
    clear KW h1
    go_wp2_with fail
    refine KW1.out.mono ?_
    rintro e W3 ⟨rfl, h1⟩
    clear KW1 c1 c4
    have c1 : W3.cell? ⟨V.heap.size + 1, 1, none⟩ = some (.int .i64 i) := cell_of_row _ _ 1 _ _ _ h1.a
    have y0 := h1.m
    have i0 := h1.info
    have q4 := h1.four
    have KR := Asd.mk (KR0.out S' W3 h1)
    clear h1
    go_wp2_with (first | refine wpList_load_row rfl 31 _ rfl V.heap.size rfl 31 _ (0, 0) _ y0 Try.underlying31 rfl i0 ?_ | fail)
    refine KR.out.mono ?_
    rintro e W2 ⟨mv', rfl, h2⟩
    have y0 := h2.m
    have i2 := h2.info
    have o2 := h2.one
    have h3 := h2.put
    have q2 : zM.size = mv'.size := h2.four.symm
    have q0 : mv.size = mv'.size := q4.trans h2.four.symm
    clear KR h2 i0
    have x0 := h3.m
    have x2 := h3.z
    have H3 := Asd.mk h3
    clear h3
    go_wp2_with (first | refine wpList_store_row rfl 31 _ _ rfl V.heap.size mv' rfl rfl 31 _ y0 i2 q0 o2 ?_ | refine wpList_load_row rfl 31 _ rfl V.heap.size rfl 31 _ (0, 0) _ x0 Try.underlying31 rfl i2 ?_ | refine wpList_store_row rfl 31 _ _ rfl (V.heap.size + 2) mv' rfl rfl 31 _ x2 i2 q2 o2 ?_ | fail)
    exact bodyPost_ret (Cel.end_cell rfl _ _ _ _ _ x2 rfl Try.underlying31 rfl i2) rfl (by exact H3.out.done)
  | false =>
    rw [if_neg (by decide)]
    obtain ⟨q, hq⟩ : ∃ q, (S.put i s8).2 = q := ⟨_, rfl⟩
    obtain ⟨S', hS'⟩ : ∃ x, (S.put i s8).1 = x := ⟨_, rfl⟩
    have KW := Asd.mk (HW.out s8)
    have KR0 := Asd.mk (HR.out s8)
    rw [hq, hS'] at KW KR0
    rw [hS']
    have t : (q == q) = true := by simp
    clear HW HR hq hS'
    go_enter Try.func7, Try.ntmps7
    go_wp2_with fail
    refine (KF.out _).mono ?_
    rintro e W1 ⟨rfl, hb⟩
    have h1 := H.out.step hb
    clear KF H hb
    have c1 : W1.cell? ⟨V.heap.size + 1, 1, none⟩ = some (.int .i64 i) := cell_of_row _ _ 1 _ _ _ h1.a
    have c4 : W1.cell? ⟨V.heap.size + 1, 4, none⟩ = some (.bool false) := cell_of_row _ _ 4 _ _ _ h1.a
    have KW1 := Asd.mk (KW.out W1 h1)
    clear KW h1
    go_wp2_with fail
    refine KW1.out.mono ?_
    rintro e W3 ⟨rfl, h1⟩
    clear KW1 c1 c4
    have c1 : W3.cell? ⟨V.heap.size + 1, 1, none⟩ = some (.int .i64 i) := cell_of_row _ _ 1 _ _ _ h1.a
    have y0 := h1.m
    have i0 := h1.info
    have q4 := h1.four
    have KR := Asd.mk (KR0.out S' W3 h1)
    clear h1
    go_wp2_with (first | refine wpList_load_row rfl 31 _ rfl V.heap.size rfl 31 _ (0, 0) _ y0 Try.underlying31 rfl i0 ?_ | fail)
    refine KR.out.mono ?_
    rintro e W2 ⟨mv', rfl, h2⟩
    have y0 := h2.m
    have i2 := h2.info
    have o2 := h2.one
    have h3 := h2.put
    have q2 : zM.size = mv'.size := h2.four.symm
    have q0 : mv.size = mv'.size := q4.trans h2.four.symm
    clear KR h2 i0
    have x0 := h3.m
    have x2 := h3.z
    have H3 := Asd.mk h3
    clear h3
    go_wp2_with (first | refine wpList_store_row rfl 31 _ _ rfl V.heap.size mv' rfl rfl 31 _ y0 i2 q0 o2 ?_ | refine wpList_load_row rfl 31 _ rfl V.heap.size rfl 31 _ (0, 0) _ x0 Try.underlying31 rfl i2 ?_ | refine wpList_store_row rfl 31 _ _ rfl (V.heap.size + 2) mv' rfl rfl 31 _ x2 i2 q2 o2 ?_ | fail)
    exact bodyPost_ret (Cel.end_cell rfl _ _ _ _ _ x2 rfl Try.underlying31 rfl i2) rfl (by exact H3.out.done)
end Go.Proofs.Ytknbhgodhmcemaa.Dk
namespace Go.Proofs.Ytknbhgodhmcemaa.Dk
set_option linter.unusedSimpArgs false
set_option linter.unusedVariables false
set_option maxRecDepth 100000
open Go.RowKit Go.Proofs.Ytknbhgodhmcemaa.Own Go.Proofs.Ytknbhgodhmcemaa.Cel
variable {w V V' : World} {p : Nat} {S S' T T' : DS} {mv : Array Value} {X : List (Nat × Obj)}
def PY (w : World) (p : Nat) (S T : DS) (mv : Array Value) (X : List (Nat × Obj)) (V : World) : Prop :=
  ∃ F G lv wv, DK w.heap.size p S F V ∧ Below w.heap.size w V ∧ mv = mvV lv wv T ∧ RK G lv wv T V ∧ (∀ k, G k → k < V.heap.size ∧ ¬ F k ∧ ∀ x ∈ X, x.1 ≠ k) ∧ ∀ x ∈ X, V.heap[x.1]? = some x.2 ∧ ¬ F x.1 ∧ w.heap.size ≤ x.1
theorem PY.bel (h : PY w p S T mv X V) : Below w.heap.size w V := by
  obtain ⟨F, G, lv, wv, d, b, _⟩ := h
  exact b
theorem PY.at (h : PY w p S T mv X V) {b : Nat} {o : Obj} (hm : (b, o) ∈ X) : V.heap[b]? = some o := by
  obtain ⟨F, G, lv, wv, d, bl, e, r, g, x⟩ := h
  exact (x _ hm).1
theorem PY.info (h : PY w p S T mv X V) : (Try.prog.info? 31).map (·.size) = some mv.size := by
  obtain ⟨F, G, lv, wv, d, bl, rfl, r, g, x⟩ := h
  exact infoMS lv wv T
theorem PY.one (h : PY w p S T mv X V) : mv.all (·.oneCell') = true := by
  obtain ⟨F, G, lv, wv, d, bl, rfl, r, g, x⟩ := h
  exact mvV_one lv wv T (owns_cell1 r.1) (owns_cell1 r.2.1)
theorem PY.four (h : PY w p S T mv X V) : mv.size = 4 := by
  obtain ⟨F, G, lv, wv, d, bl, rfl, r, g, x⟩ := h
  rfl
theorem PY.sub (h : PY w p S T mv X V) {Y : List (Nat × Obj)} (hs : ∀ x ∈ Y, x ∈ X) : PY w p S T mv Y V := by
  obtain ⟨F, G, lv, wv, d, bl, e, r, g, x⟩ := h
  exact ⟨F, G, lv, wv, d, bl, e, r, fun k hk => ⟨(g k hk).1, (g k hk).2.1, fun y hy => (g k hk).2.2 y (hs y hy)⟩, fun y hy => x y (hs y hy)⟩
theorem heap_lt {V : World} {b : Nat} {o : Obj} (h : V.heap[b]? = some o) : b < V.heap.size := (Array.getElem?_eq_some_iff.1 h).1
theorem PY.step (h : PY w p S T mv X V) (hb : Below V.heap.size V V') : PY w p S T mv X V' := by
  obtain ⟨F, G, lv, wv, d, bl, e, r, g, x⟩ := h
  exact ⟨F, G, lv, wv, d.below hb, bl.trans (hb.mono bl.size), e, r.below hb, fun k hk => ⟨Nat.lt_of_lt_of_le (g k hk).1 hb.size, (g k hk).2⟩, fun y hy => ⟨Own.keep (x y hy).1 hb, (x y hy).2⟩⟩
theorem PY.add (h : PY w p S T mv X V) {b : Nat} {o : Obj} (hb : Below V.heap.size V V') (hn : V.heap.size ≤ b) (ho : V'.heap[b]? = some o) : PY w p S T mv ((b, o) :: X) V' := by
  obtain ⟨F, G, lv, wv, d, bl, e, r, g, x⟩ := h
  refine ⟨F, G, lv, wv, d.below hb, bl.trans (hb.mono bl.size), e, r.below hb, fun k hk => ⟨Nat.lt_of_lt_of_le (g k hk).1 hb.size, (g k hk).2.1, fun y hy => ?_⟩, fun y hy => ?_⟩
  · rcases List.mem_cons.1 hy with rfl | hy
    · have := (g k hk).1; show b ≠ k; omega
    · exact (g k hk).2.2 y hy
  · rcases List.mem_cons.1 hy with rfl | hy
    · exact ⟨ho, fun q => by have := (d.lt q).2; omega, Nat.le_trans bl.size hn⟩
    · exact ⟨Own.keep (x y hy).1 hb, (x y hy).2⟩
theorem PY.row {b : Nat} {old : Array Value} {t : TypeId} (h : PY w p S T mv ((b, .cells old t (0, 0)) :: X) V) (cs : Array Value) (hY : ∀ x ∈ X, x.1 ≠ b) : PY w p S T mv ((b, .cells cs t (0, 0)) :: X) (V.setRow b cs) := by
  obtain ⟨F, G, lv, wv, d, bl, e, r, g, x⟩ := h
  have hb := x _ List.mem_cons_self
  refine ⟨F, G, lv, wv, d.keep (fun k hk => setRow_other V b k cs (fun y => hb.2.1 (y ▸ hk))), bl.trans ((below_setRow (Below.refl V.heap.size V |>.mono bl.size) (g := b) hb.2.2 cs)), e, r.keep (fun k hk => setRow_other V b k cs (fun y => (g k hk).2.2 _ List.mem_cons_self y.symm)), fun k hk => ⟨by rw [setRow_size]; exact (g k hk).1, (g k hk).2.1, fun y hy => ?_⟩, fun y hy => ?_⟩
  · rcases List.mem_cons.1 hy with rfl | hy
    · exact (g k hk).2.2 (b, .cells old t (0, 0)) List.mem_cons_self
    · exact (g k hk).2.2 y (List.mem_cons_of_mem _ hy)
  · rcases List.mem_cons.1 hy with rfl | hy
    · exact ⟨setRow_heap V b _ cs t _ hb.1, hb.2⟩
    · exact ⟨(setRow_other V b y.1 cs (hY y hy)).trans (x y (List.mem_cons_of_mem _ hy)).1, (x y (List.mem_cons_of_mem _ hy)).2⟩
theorem PY.same (h : PY w p S S mv X V) (hl : S.lasts.length ≤ 100000) (hw : S.waits.length ≤ 1000000) :
    Calls Try.prog 8 #[.pointer (some ⟨p, 0, none⟩), .agg mv] V fun e V' => e = .returned (.bool true) ∧ Below V.heap.size V V' := by
  obtain ⟨F, G, lv, wv, d, bl, rfl, r, g, x⟩ := h
  exact same_calls d r hl hw
theorem PY.read (h : PY w p S T mv X V) (i : Int) :
    Calls Try.prog 9 #[.pointer (some ⟨p, 0, none⟩), .int .i64 i] V fun e V' => e = .returned (.tuple #[.string (S.readAt i).1, .int .i64 (S.readAt i).2]) ∧ V = V' := by
  obtain ⟨F, G, lv, wv, d, _⟩ := h
  exact read_calls d i
theorem PY.start {F : Nat → Prop} (d : DK w.heap.size p S F V) (bl : Below w.heap.size w V) (hr : Rid (fun _ => False) mv T V V') : PY w p S T mv [] V' := by
  obtain ⟨G', ⟨lv', wv', rfl, r'⟩, hb, g'⟩ := hr
  refine ⟨F, (fun q => G' q ∧ q < V'.heap.size), lv', wv', d.below hb, bl.trans (hb.mono bl.size), rfl, r'.tight, fun k hk => ⟨hk.2, fun y => ?_, fun y hy => absurd hy (by simp)⟩, fun y hy => absurd hy (by simp)⟩
  rcases g' k hk.1 with z | z
  · exact z
  · have := (d.lt y).2; omega
theorem KArg.keepAt {A : Option Addr} {ks : List Bool} {F : Nat → Prop} (h : KArg A ks w) (hb : Below w.heap.size w V) (d : DK w.heap.size p S F V) : KeepAt F A ks V := fun i hi => by
  obtain ⟨b, o, e, hc⟩ := h i hi
  have hlt : b < w.heap.size := World.block_lt_of_cell? w _ hc
  exact ⟨o + i, b, o, e, rfl, fun y => by have := (d.lt y).1; omega, (World.cell?_of_block (hb.block b hlt)).trans hc⟩
theorem PY.do1 (h : PY w p S S mv X V) {f : FuncId} {ac : Array Value} (hc : ∀ F G lv wv, mv = mvV lv wv S → DK w.heap.size p S F V → RK G lv wv S V → (∀ k, F k → ¬ G k) → Calls Try.prog f #[.pointer (some ⟨p, 0, none⟩), .agg mv, .agg ac] V (DoOk w.heap.size p F G S' V)) :
    Calls Try.prog f #[.pointer (some ⟨p, 0, none⟩), .agg mv, .agg ac] V fun e V' => ∃ mv', e = .returned (.tuple #[.agg mv', .bool true]) ∧ PY w p S' S' mv' X V' := by
  obtain ⟨F, G, lv, wv, d, bl, e, r, g, x⟩ := h
  refine (hc F G lv wv e d r (fun k hk y => (g k y).2.1 hk)).mono ?_
  rintro e' W' ⟨mv', F2, G2, rfl, ⟨d2, ⟨lv', wv', rfl, r2⟩, ap⟩, o, f2, g2⟩
  refine ⟨_, rfl, F2, G2, lv', wv', d2, bl.trans (o.below (fun k hk => (d.lt hk).1) bl.size), rfl, r2, fun k hk => ⟨(g2 k hk).2, fun y => ap k y hk, fun y hy => ?_⟩, fun y hy => ⟨(o.block y.1 (heap_lt (x y hy).1) (x y hy).2.1).trans (x y hy).1, fun q => ?_, (x y hy).2.2⟩⟩
  · rcases (g2 k hk).1 with z | z
    · exact (g k z.1).2.2 y hy
    · have := heap_lt (x y hy).1; omega
  · rcases f2 _ q with z | z
    · exact (x y hy).2.1 z
    · have := heap_lt (x y hy).1; omega
def DS.act (S : DS) (k : Nat) (i a : Int) (b : Nat) (s : Bool) (ks : List Bool) : DS :=
  if k = 0 then (S.put i (wtxt (UInt8.ofNat b) s)).1 else if k = 1 then S.sync.1 else if k = 2 then S.crash (fun j => ks.getD j false) else if k = 3 then { S with armed := a } else if k = 4 then S.rot i a b else S
theorem PI.act {n q : Nat} (P : PI n q S) (k : Nat) (i a : Int) (b : Nat) (s : Bool) (ks : List Bool) (ha : a ≤ 9223372036854775807) : PI n (q + 1) (S.act k i a b s ks) := by
  unfold DS.act
  split
  · exact P.put _ _
  · split
    · exact P.sync
    · split
      · exact (P.crash _).mono (Nat.le_succ _)
      · split
        · exact (P.arm _ ha).mono (Nat.le_succ _)
        · split
          · exact (P.rot _ _ _).mono (Nat.le_succ _)
          · exact P.mono (Nat.le_succ _)
theorem PY.act (h : PY w p S S mv X V) {N q : Nat} (P : PI N q S) (hN0 : 0 < N) (hN : N ≤ 100000) (hq : q ≤ 1000000) (k : Nat) (i a : Int) (b : Nat) (s : Bool) (A : Option Addr) (ks : List Bool) (c : Nat) (hks : KArg A ks w) (hkl : ks.length ≤ 1000000)
    (hi : -9223372036854775808 ≤ i ∧ i ≤ 9223372036854775807) (hb : b < 256) :
    Calls Try.prog 7 #[.pointer (some ⟨p, 0, none⟩), .agg mv, .agg (actV k i a b s A ks.length c)] V fun e V' => ∃ mv', e = .returned (.tuple #[.agg mv', .bool true]) ∧ PY w p (S.act k i a b s ks) (S.act k i a b s ks) mv' X V' := by
  have bl := h.bel
  refine h.do1 (fun F G lv wv e d r ap => ?_)
  subst e
  unfold DS.act
  by_cases k0 : k = 0
  · subst k0
    rw [if_pos rfl]
    have hb8 : (UInt8.ofNat b).toNat = b := by rw [UInt8.toNat_ofNat', Nat.mod_eq_of_lt (by omega)]
    have := do_write d r ap P hN0 hN hq i a (UInt8.ofNat b) s A ks.length c hi.1 hi.2
    rw [hb8] at this
    exact this
  rw [if_neg k0]
  by_cases k1 : k = 1
  · subst k1
    rw [if_pos rfl]
    exact do_sync d r ap P hN0 hN hq i a b s A ks.length c
  rw [if_neg k1]
  by_cases k2 : k = 2
  · subst k2
    rw [if_pos rfl]
    exact do_crash d r ap P hN0 hN hq i a b s A ks c (hks.keepAt bl d) hkl
  rw [if_neg k2]
  by_cases k3 : k = 3
  · subst k3
    rw [if_pos rfl]
    exact do_arm d r ap i a b s A ks.length c
  rw [if_neg k3]
  by_cases k4 : k = 4
  · subst k4
    rw [if_pos rfl]
    exact do_rot d r ap P hN0 hN hq i a b s A ks.length c hb hi.2
  rw [if_neg k4]
  exact do_none d r ap k i a b s A ks.length c (by omega)
end Go.Proofs.Ytknbhgodhmcemaa.Dk
namespace Go.Proofs.Ytknbhgodhmcemaa.Dk
set_option linter.unusedVariables false
set_option maxRecDepth 100000
open Go.RowKit Go.Proofs.Ytknbhgodhmcemaa.Own Go.Proofs.Ytknbhgodhmcemaa.Cel
structure A12 where
  k : Nat
  i : Int
  a : Int
  b : Nat
  s : Bool
  A : Option Addr
  c : Nat
  ks : List Bool
theorem KArg.far {A : Option Addr} {ks : List Bool} {V V' : World} {B : Nat} (h : KArg A ks V) (hs : V.heap.size ≤ B) (hb : Below B V V') : KArg A ks V' := fun i hi => by
  obtain ⟨b, o, e, hc⟩ := h i hi
  have hlt : b < V.heap.size := World.block_lt_of_cell? V _ hc
  exact ⟨b, o, e, (World.cell?_of_block (hb.block b (by omega))).trans hc⟩
def Act1 (b q : Nat) (x : A12) (V : World) : Prop :=
  V.cell? ⟨b, q, none⟩ = some (.int .u8 (x.k : Nat)) ∧ V.cell? ⟨b, q + 1, none⟩ = some (.int .i64 x.i) ∧ V.cell? ⟨b, q + 2, none⟩ = some (.int .i64 x.a) ∧ V.cell? ⟨b, q + 3, none⟩ = some (.int .u8 (x.b : Nat)) ∧
  V.cell? ⟨b, q + 4, none⟩ = some (.bool x.s) ∧ V.cell? ⟨b, q + 5, none⟩ = some (.slice x.A x.ks.length x.c) ∧ KArg x.A x.ks V ∧ x.ks.length ≤ 9223372036854775807 ∧ (-9223372036854775808 ≤ x.i ∧ x.i ≤ 9223372036854775807) ∧ x.a ≤ 9223372036854775807 ∧ x.k < 256 ∧ x.b < 256
def Acts (A : Option Addr) (l : List A12) (V : World) : Prop := ∀ j (h : j < l.length), ∃ b o, A = some ⟨b, o, none⟩ ∧ Act1 b (o + j * 6) (l[j]'h) V
theorem cell_far {V V' : World} {B b q : Nat} {v : Value} (h : V.cell? ⟨b, q, none⟩ = some v) (hs : V.heap.size ≤ B) (hb : Below B V V') : V'.cell? ⟨b, q, none⟩ = some v := by
  have hlt : b < V.heap.size := World.block_lt_of_cell? V _ h
  exact (World.cell?_of_block (hb.block b (by omega))).trans h
theorem Acts.far {A : Option Addr} {l : List A12} {V V' : World} {B : Nat} (h : Acts A l V) (hs : V.heap.size ≤ B) (hb : Below B V V') : Acts A l V' := fun i hi => by
  obtain ⟨b, o, e, h0, h1, h2, h3, h4, h5, h6, h7⟩ := h i hi
  exact ⟨b, o, e, cell_far h0 hs hb, cell_far h1 hs hb, cell_far h2 hs hb, cell_far h3 hs hb, cell_far h4 hs hb, cell_far h5 hs hb, h6.far hs hb, h7⟩
theorem list_of {α : Type} {P : Nat → α → Prop} : ∀ (n : Nat), (∀ i, i < n → ∃ x, P i x) → ∃ l : List α, l.length = n ∧ ∀ i (h : i < l.length), P i (l[i]'h)
  | 0, _ => ⟨[], rfl, fun i h => absurd h (by simp)⟩
  | n + 1, H => by
    obtain ⟨l, hl, hP⟩ := list_of n (fun i hi => H i (by omega))
    obtain ⟨x, hx⟩ := H n (by omega)
    refine ⟨l ++ [x], by rw [List.length_append, hl]; rfl, fun i h => ?_⟩
    by_cases e : i < l.length
    · rw [List.getElem_append_left e]; exact hP i e
    · have : i = n := by rw [List.length_append] at h; simp at h; omega
      subst this
      rw [List.getElem_append_right (by omega)]
      simp only [hl, Nat.sub_self, List.getElem_cons_zero]
      exact hx
theorem list6 : ∀ (cs : List Value), cs.length = 6 → ∃ a b c d e f, cs = [a, b, c, d, e, f]
  | [a, b, c, d, e, f], _ => ⟨a, b, c, d, e, f, rfl⟩
theorem plain_addr' {W : World} {a : Addr} {v : Value} (h : W.cell? (a.add 0) = some v) : ∃ b o, a = ⟨b, o, none⟩ := by
  have h1 := World.cell?_spot h
  obtain ⟨b, o, spot⟩ := a
  cases spot with
  | none => exact ⟨b, o, rfl⟩
  | some s => simp [Addr.add] at h1
theorem ks_of {H : Type} {enc : TypeId × Value → H} {W : World} {base : Nat} {spare : Nat → Bool} {held : Bool} {fuel : Nat} {x : Value} {y : DataW H × List MemPlace}
    (hf : DataW.trod enc Try.prog W base spare held fuel 33 [x] = some y) : ∃ A c ks, x = .slice A ks.length c ∧ KArg A ks W ∧ ks.length ≤ 9223372036854775807 := by
  have hcz : Try.prog.cellsOf 4 = 1 := by kernel_rfl
  rcases DataW.trod_slice Try.underlying33 hf with ⟨hc, _⟩ | ⟨a', len', cap', elems, rest, n, _, hc, hx, hb, hl, hm, hlen, hel, hsp, hns⟩
  · simp at hc
    subst hc
    exact ⟨none, 0, [], rfl, fun j hj => absurd hj (by simp), by simp⟩
  · simp at hc
    subst hc
    have each : ∀ i, i < len' → ∃ z, W.cell? (a'.add i) = some (.bool z) := fun i hi => by
      have h2 := hel i hi
      rw [List.getElem?_eq_getElem (by omega), hcz, Nat.mul_one, Option.bind_eq_some_iff] at h2
      obtain ⟨cs', hcs, hy⟩ := h2
      obtain ⟨z, rfl, _⟩ := DataW.trod_bool Try.underlying4 hy
      exact ⟨z, Go.ChangeShapes.cell_of_cells?_one hcs⟩
    refine ⟨some a', cap', (List.range len').map (fun i => match W.cell? (a'.add i) with | some (.bool z) => z | _ => false), by rw [List.length_map, List.length_range], fun j hj => ?_, ?_⟩
    · have hj2 : j < len' := by simpa using hj
      obtain ⟨z0, hz0⟩ := each 0 (by omega)
      obtain ⟨b, o, rfl⟩ := plain_addr' hz0
      obtain ⟨z, hz⟩ := each j hj2
      refine ⟨b, o, rfl, ?_⟩
      have hz' := hz
      rw [Seg.addr_add] at hz'
      rw [hz', List.getElem_map, List.getElem_range, hz]
    · rw [List.length_map, List.length_range]
      unfold maxLen at hm
      omega
theorem open_acts {H : Type} {enc : TypeId × Value → H} {W : World} {base : Nat} {spare : Nat → Bool} {held : Bool} {r : Reach} {b0 : Nat} {v : Value} {d : DataW H} {ps : List MemPlace}
    (hv : Value.okWide Try.prog W r b0 22 v) (h : DataW.Trod enc Try.prog W base spare held 22 v d ps) :
    ∃ A c l, v = .slice A l.length c ∧ Acts A l W ∧ l.length ≤ 9223372036854775807 := by
  obtain ⟨A, len, cap, rfl⟩ := Go.WideShapes.okWide_slice Try.underlying22 hv
  obtain ⟨fuel, hf⟩ := h
  have hz : Try.prog.cellsOf 35 = 6 := by kernel_rfl
  rcases DataW.trod_slice Try.underlying22 hf with ⟨hc, _⟩ | ⟨a, len', cap', es, rs, m, rfl, hc, _, hb, hl, hm, he, hr, _, _⟩
  · simp [Value.cells] at hc
    obtain ⟨rfl, rfl, rfl⟩ := hc
    exact ⟨none, 0, [], rfl, fun j hj => absurd hj (by simp), by simp⟩
  · simp [Value.cells] at hc
    obtain ⟨rfl, rfl, rfl⟩ := hc
    have key : ∀ i, i < len → ∃ x : A12, ∃ b o, some a = some ⟨b, o, none⟩ ∧ Act1 b (o + i * 6) x W := by
      intro i hi
      have h1 := hr i hi
      rw [hz] at h1
      have h2 : es[i]? = some (es[i]'(by omega)) := List.getElem?_eq_getElem _
      rw [h2, Option.bind_eq_some_iff] at h1
      obtain ⟨cs, hcs, ht2⟩ := h1
      obtain ⟨_, hlen, hat⟩ := World.cells?_some hcs
      obtain ⟨zs, n, _, _, _, hzl, hy⟩ := DataW.trod_struct Try.underlying35 ht2
      have hl6 : zs.length = 6 := hzl
      obtain ⟨b0, b1, b2, b3, b4, b5, rfl⟩ := list6 cs hlen
      have f0 : DataW.trod enc Try.prog W base spare held n 5 (List.take (Try.prog.cellsOf 5) (List.drop 0 [b0, b1, b2, b3, b4, b5])) = zs[0]? := hy 0 _ rfl
      have f1 : DataW.trod enc Try.prog W base spare held n 3 (List.take (Try.prog.cellsOf 3) (List.drop 1 [b0, b1, b2, b3, b4, b5])) = zs[1]? := hy 1 _ rfl
      have f2 : DataW.trod enc Try.prog W base spare held n 3 (List.take (Try.prog.cellsOf 3) (List.drop 2 [b0, b1, b2, b3, b4, b5])) = zs[2]? := hy 2 _ rfl
      have f3 : DataW.trod enc Try.prog W base spare held n 5 (List.take (Try.prog.cellsOf 5) (List.drop 3 [b0, b1, b2, b3, b4, b5])) = zs[3]? := hy 3 _ rfl
      have f4 : DataW.trod enc Try.prog W base spare held n 4 (List.take (Try.prog.cellsOf 4) (List.drop 4 [b0, b1, b2, b3, b4, b5])) = zs[4]? := hy 4 _ rfl
      have f5 : DataW.trod enc Try.prog W base spare held n 33 (List.take (Try.prog.cellsOf 33) (List.drop 5 [b0, b1, b2, b3, b4, b5])) = zs[5]? := hy 5 _ rfl
      rw [show Try.prog.cellsOf 5 = 1 by kernel_rfl, List.getElem?_eq_getElem (show 0 < zs.length by omega)] at f0
      rw [show Try.prog.cellsOf 3 = 1 by kernel_rfl, List.getElem?_eq_getElem (show 1 < zs.length by omega)] at f1
      rw [show Try.prog.cellsOf 3 = 1 by kernel_rfl, List.getElem?_eq_getElem (show 2 < zs.length by omega)] at f2
      rw [show Try.prog.cellsOf 5 = 1 by kernel_rfl, List.getElem?_eq_getElem (show 3 < zs.length by omega)] at f3
      rw [show Try.prog.cellsOf 4 = 1 by kernel_rfl, List.getElem?_eq_getElem (show 4 < zs.length by omega)] at f4
      rw [show Try.prog.cellsOf 33 = 1 by kernel_rfl, List.getElem?_eq_getElem (show 5 < zs.length by omega)] at f5
      obtain ⟨x0, e0, _, w0⟩ := DataW.trod_int Try.underlying5 f0
      obtain ⟨x1, e1, _, w1⟩ := DataW.trod_int Try.underlying3 f1
      obtain ⟨x2, e2, _, w2⟩ := DataW.trod_int Try.underlying3 f2
      obtain ⟨x3, e3, _, w3⟩ := DataW.trod_int Try.underlying5 f3
      obtain ⟨x4, e4, _⟩ := DataW.trod_bool Try.underlying4 f4
      obtain ⟨Ak, ck, ks, e5, hk, hkl⟩ := ks_of f5
      simp at e0 e1 e2 e3 e4 e5
      subst e0 e1 e2 e3 e4 e5
      have q0 := hat 0 (by omega)
      have q1 := hat 1 (by omega)
      have q2 := hat 2 (by omega)
      have q3 := hat 3 (by omega)
      have q4 := hat 4 (by omega)
      have q5 := hat 5 (by omega)
      have hpl : ∃ b o, a = ⟨b, o, none⟩ := by
        have h0 := hr 0 (by omega)
        rw [hz, List.getElem?_eq_getElem (show 0 < es.length by omega), Option.bind_eq_some_iff] at h0
        obtain ⟨cs, hcs, _⟩ := h0
        obtain ⟨_, hl0, hat0⟩ := World.cells?_some hcs
        obtain ⟨y0, y1, y2, y3, y4, y5, rfl⟩ := list6 cs hl0
        have h1 := World.cell?_spot (hat0 0 (by omega))
        obtain ⟨b, o, spot⟩ := a
        cases spot with
        | none => exact ⟨b, o, rfl⟩
        | some s => simp [Addr.add] at h1
      clear hy ht2 hat f0 f1 f2 f3 f4 f5 hlen hcs hr hf hv
      obtain ⟨b, o, rfl⟩ := hpl
      rw [Seg.addr_add, Seg.addr_add] at q0 q1 q2 q3 q4 q5
      simp [Lit.wf, IntKind.min, IntKind.max, IntKind.signed, IntKind.bits] at w0 w1 w2 w3
      obtain ⟨n0, rfl⟩ := Int.eq_ofNat_of_zero_le w0.1
      obtain ⟨n3, rfl⟩ := Int.eq_ofNat_of_zero_le w3.1
      exact ⟨⟨n0, x1, x2, n3, x4, Ak, ck, ks⟩, b, o, rfl, q0, q1, q2, q3, q4, q5, hk, hkl, ⟨by dsimp only; omega, by dsimp only; omega⟩, by dsimp only; omega, by dsimp only; omega, by dsimp only; omega⟩
    obtain ⟨l, rfl, hp⟩ := list_of len key
    exact ⟨some a, cap, l, rfl, fun j hj => hp j hj, by unfold maxLen at hm; omega⟩
end Go.Proofs.Ytknbhgodhmcemaa.Dk
namespace Go.Proofs.Ytknbhgodhmcemaa.Dk
set_option linter.unusedSimpArgs false
set_option linter.unusedVariables false
set_option maxRecDepth 100000
open Go.RowKit Go.Proofs.Ytknbhgodhmcemaa.Own Go.Proofs.Ytknbhgodhmcemaa.Cel
theorem box_new {V : World} (zc cs : Array Value) (t : TypeId) : Below V.heap.size V ((V.alloc (.cells zc t)).setRow V.heap.size cs) ∧ ((V.alloc (.cells zc t)).setRow V.heap.size cs).heap[V.heap.size]? = some (.cells cs t (0, 0)) ∧ (V.alloc (.cells zc t)).heap[V.heap.size]? = some (.cells zc t (0, 0)) :=
  ⟨below_setRow ((Below.refl V.heap.size V).alloc (Nat.le_refl _) (.cells zc t)) (g := V.heap.size) (Nat.le_refl _) cs, setRow_heap _ _ _ cs t (0, 0) (heap_alloc_new V _), heap_alloc_new V _⟩
abbrev zA12 : Array Value := #[.int .u8 0, .int .i64 0, .int .i64 0, .int .u8 0, .bool false, .slice none 0 0]
theorem infoA12 : (Try.prog.info? 35).map (·.size) = some 6 := by kernel_rfl
theorem readAt_no {S : DS} {i : Int} (h : ¬ (0 ≤ i ∧ i < (S.lasts.length : Int))) : S.readAt i = (⟨#[]⟩, 5) := by unfold DS.readAt; rw [if_neg h]
set_option maxHeartbeats 16000000 in
theorem plays_early (n : Int) (A : Option Addr) (n1 c : Nat) (w : World) (m1 : n1 ≤ 9223372036854775807) (h : (40 < n ∧ n ≤ 4096) ∨ 60 < n1) :
    Calls Try.prog 3 #[.int .i64 n, .slice A n1 c] w fun e w' => e = .returned (.bool true) ∧ Below w.heap.size w w' := by
  by_cases a : 40 < n ∧ n ≤ 4096
  · have t0 : decide (40 < n) = true := decide_eq_true a.1
    have t1 : decide (n ≤ 4096) = true := decide_eq_true a.2
    clear a h
    go_enter Try.func3, Try.ntmps3
    go_wp2_with fail
    refine (awake12_calls _).mono ?_
    rintro x w3 ⟨rfl, hb⟩
    have HB := Asd.mk hb
    clear hb
    go_wp2
    go_ret
    exact ⟨rfl, HB.out⟩
  have b : 60 < n1 := h.elim (fun x => absurd x a) id
  have t2 : decide (60 < (n1 : Int)) = true := decide_eq_true (by omega)
  have t2' : decide (60 < n1) = true := decide_eq_true b
  by_cases a0 : 40 < n
  · have t0 : decide (40 < n) = true := decide_eq_true a0
    have t1 : decide (n ≤ 4096) = false := decide_eq_false (fun e => a ⟨a0, e⟩)
    clear a h a0 b
    go_enter Try.func3, Try.ntmps3
    go_wp2_with fail
    refine (awake12_calls _).mono ?_
    rintro x w3 ⟨rfl, hb⟩
    have HB := Asd.mk hb
    clear hb
    go_wp2
    go_ret
    exact ⟨rfl, HB.out⟩
  · have t0 : decide (40 < n) = false := decide_eq_false a0
    clear a h a0 b
    go_enter Try.func3, Try.ntmps3
    go_wp2_with fail
    refine (awake12_calls _).mono ?_
    rintro x w3 ⟨rfl, hb⟩
    have HB := Asd.mk hb
    clear hb
    go_wp2
    go_ret
    exact ⟨rfl, HB.out⟩
set_option maxHeartbeats 16000000 in
theorem plays_bad (n : Int) (A : Option Addr) (n1 c : Nat) (w : World) (m1 : n1 ≤ 60) (h : n < 1 ∨ 4096 < n) :
    Calls Try.prog 3 #[.int .i64 n, .slice A n1 c] w fun e w' => e = .returned (.bool true) ∧ Below w.heap.size w w' := by
  have t2 : decide (60 < (n1 : Int)) = false := decide_eq_false (by omega)
  have t2' : decide (60 < n1) = false := decide_eq_false (by omega)
  have KN := Asd.mk (new_bad n w h)
  by_cases a0 : n < 1
  · have t0 : decide (40 < n) = false := decide_eq_false (by omega)
    have t3 : decide (n < 1) = true := decide_eq_true a0
    clear h a0 m1
    go_enter Try.func3, Try.ntmps3
    go_wp2_with fail
    refine KN.out.mono ?_
    rintro x w1 ⟨rfl, rfl⟩
    clear KN
    go_wp2_with fail
    refine (awake12_calls _).mono ?_
    rintro x w3 ⟨rfl, hb⟩
    have HB := Asd.mk hb
    clear hb
    go_wp2
    go_ret
    exact ⟨rfl, HB.out⟩
  · have t0 : decide (40 < n) = true := decide_eq_true (by omega)
    have t1 : decide (n ≤ 4096) = false := decide_eq_false (by omega)
    have t3 : decide (n < 1) = false := decide_eq_false a0
    have t4 : decide (4096 < n) = true := decide_eq_true (by omega)
    clear h a0 m1
    go_enter Try.func3, Try.ntmps3
    go_wp2_with fail
    refine KN.out.mono ?_
    rintro x w1 ⟨rfl, rfl⟩
    clear KN
    go_wp2_with fail
    refine (awake12_calls _).mono ?_
    rintro x w3 ⟨rfl, hb⟩
    have HB := Asd.mk hb
    clear hb
    go_wp2
    go_ret
    exact ⟨rfl, HB.out⟩
def LY (w : World) (p N bm j : Nat) (W : World) : Prop := ∃ S mv, PI N j S ∧ PY w p S S mv [(bm, .cells mv 31 (0, 0))] W
set_option maxHeartbeats 16000000 in
theorem plays_main (N : Nat) (A : Option Addr) (c : Nat) (l : List A12) (w : World) (h1 : Acts A l w) (m1 : l.length ≤ 60) (hN0 : 1 ≤ N) (hN : N ≤ 40) :
    Calls Try.prog 3 #[.int .i64 (N : Nat), .slice A l.length c] w fun e w' => e = .returned (.bool true) ∧ Below w.heap.size w w' := by
  obtain ⟨n1, hn1⟩ : ∃ n, l.length = n := ⟨_, rfl⟩
  rw [hn1] at m1 ⊢
  have H1 := Asd.mk h1
  have N1 := Asd.mk hn1
  have HN := Asd.mk (And.intro hN0 hN)
  have t2 : decide (60 < (n1 : Int)) = false := decide_eq_false (by omega)
  have t2' : decide (60 < n1) = false := decide_eq_false (by omega)
  have t0 : decide (40 < (N : Int)) = false := decide_eq_false (by omega)
  have t0' : decide (40 < N) = false := decide_eq_false (by omega)
  have t3 : decide ((N : Int) < 1) = false := decide_eq_false (by omega)
  have t3' : decide (N < 1) = false := decide_eq_false (by omega)
  have t4 : decide (4096 < (N : Int)) = false := decide_eq_false (by omega)
  have t4' : decide (4096 < N) = false := decide_eq_false (by omega)
  have KN := Asd.mk (new_good N w hN0 (by omega))
  clear h1 hn1 hN0 hN
  go_enter Try.func3, Try.ntmps3
  go_wp2_with fail
  refine KN.out.mono ?_
  rintro x w1 ⟨p, F, rfl, d, b⟩
  clear KN
  have HD := Asd.mk (And.intro d b)
  clear d b
  go_wp2_with fail
  refine (rnew_calls _ N (by have := HN.out; omega)).mono ?_
  rintro x W2 ⟨mv0, rfl, hr⟩
  have h2 := PY.start HD.out.1 HD.out.2 hr
  clear HD hr
  obtain ⟨hb, z3, z3z⟩ := box_new (V := W2) zM mv0 31
  have i0 := h2.info
  have o0 := h2.one
  have q0 : zM.size = mv0.size := h2.four.symm
  have H0 := Asd.mk (show LY w p N W2.heap.size 0 ((W2.alloc (.cells zM 31)).setRow W2.heap.size mv0) from ⟨bornN N, mv0, PI.born N, h2.add hb (Nat.le_refl _) z3⟩)
  clear h2 hb z3
  go_wp2_with (first | refine wpList_store_row rfl 31 _ _ rfl W2.heap.size mv0 rfl rfl 31 _ z3z i0 q0 o0 ?_ | fail)
  clear z3z i0 o0 q0
  go_loopw [58] (fun iv W => ∃ (i : Nat), iv = .int .i64 i ∧ i ≤ n1 ∧ Asd (LY w p N W2.heap.size i W)) (fun iv _ => n1 - (intOf iv).toNat)
  case atStart => exact ⟨0, rfl, by omega, H0⟩
  case round =>
    obtain ⟨j, rfl, hj, HK⟩ := hrel
    clear H0
    generalize W2.heap.size = bm at HK ⊢
    obtain ⟨S, mv, P, hy⟩ := HK.out
    clear HK
    by_cases hlt : j < n1
    rotate_left
    · obtain rfl : j = n1 := by omega
      have K1 := hy.read (-1)
      have K2 := hy.read (N : Nat)
      rw [readAt_no (by omega)] at K1
      rw [readAt_no (by rw [P.len]; omega)] at K2
      have HB := Asd.mk hy.bel
      have KA := Asd.mk K1
      have KB := Asd.mk K2
      clear hy P hlt hj K1 K2
      go_wp2_with fail
      refine KA.out.mono ?_
      rintro x w3 ⟨rfl, rfl⟩
      clear KA
      go_wp2_with fail
      refine KB.out.mono ?_
      rintro x w3 ⟨rfl, rfl⟩
      clear KB
      go_wp2_with fail
      refine (awake12_calls _).mono ?_
      rintro x w3 ⟨rfl, hb⟩
      have HE := Asd.mk (HB.out.trans (hb.mono HB.out.size))
      clear hb HB
      go_wp2
      go_ret
      exact ⟨rfl, HE.out⟩
    have hj1 : (j : Int) < (n1 : Int) := by omega
    have hjl : j < l.length := by rw [N1.out]; exact hlt
    obtain ⟨ab, ao, rfl, a0, a1, a2, a3, a4, a5, ak, akl, ai, aa, ak8, ab8⟩ := (H1.out.far (Nat.le_refl _) hy.bel) j hjl
    have akw : KArg (l[j]'hjl).A (l[j]'hjl).ks w := by
      obtain ⟨_, _, _, _, _, _, _, _, _, x, _⟩ := H1.out j hjl
      exact x
    obtain ⟨⟨k, i, a, b, s, A', c', ks⟩, ha⟩ : ∃ a, l[j]'hjl = a := ⟨_, rfl⟩
    rw [ha] at a0 a1 a2 a3 a4 a5 ak akl ai aa ak8 ab8 akw
    dsimp only at a0 a1 a2 a3 a4 a5 ak akl ai aa ak8 ab8 akw
    obtain ⟨nk, hnk⟩ : ∃ q, ks.length = q := ⟨_, rfl⟩
    rw [hnk] at a5 akl
    have hzm := heap_lt (hy.at List.mem_cons_self)
    obtain ⟨hb9, z9, z9z⟩ := box_new (V := wr) zA12 (actV k i a b s A' nk c') 35
    have h9 := hy.add hb9 (Nat.le_refl _) z9
    have iA : (Try.prog.info? 35).map (·.size) = some (actV k i a b s A' nk c').size := infoA12
    have oA : (actV k i a b s A' nk c').all (·.oneCell') = true := by simp [Value.oneCell']
    have f5 : ((wr.alloc (.cells zA12 35)).setRow wr.heap.size (actV k i a b s A' nk c')).cell? ⟨wr.heap.size, 5, none⟩ = some (.slice A' nk c') := cell_of_row _ _ 5 _ _ _ z9
    clear hy hb9 ak hlt ha hjl
    by_cases g1 : 100 < nk
    · have t5 : decide (100 < (nk : Int)) = true := decide_eq_true (by omega)
      have t5' : decide (100 < nk) = true := decide_eq_true g1
      have HB := Asd.mk h9.bel
      clear g1 h9 P akw ai aa ak8 ab8 hzm hnk
      go_wp2_with (first | refine wpList_store_row rfl 35 _ _ rfl wr.heap.size (actV k i a b s A' nk c') rfl rfl 35 _ z9z iA rfl oA ?_ | fail)
      refine (awake12_calls _).mono ?_
      rintro x w3 ⟨rfl, hb⟩
      have HE := Asd.mk (HB.out.trans (hb.mono HB.out.size))
      clear hb HB
      go_wp2
      go_ret
      exact ⟨rfl, HE.out⟩
    have t5 : decide (100 < (nk : Int)) = false := decide_eq_false (by omega)
    have t5' : decide (100 < nk) = false := decide_eq_false g1
    have y0 := h9.at (b := bm) (List.mem_cons_of_mem _ List.mem_cons_self)
    have i0 := h9.info
    have o0 := h9.one
    have q4 := h9.four
    have KD0 := h9.act P (by have := HN.out; omega) (by have := HN.out; omega) (by omega) k i a b s A' ks c' akw (by omega) ai ab8
    rw [hnk] at KD0
    have P' := P.act k i a b s ks aa
    obtain ⟨S', hS'⟩ : ∃ x, S.act k i a b s ks = x := ⟨_, rfl⟩
    rw [hS'] at KD0 P'
    have KD := Asd.mk KD0
    have HP := Asd.mk P'
    have HZ := Asd.mk hzm
    clear KD0 P' P h9 g1 akw ai aa ak8 ab8 hzm hnk hS'
    go_wp2_with (first | refine wpList_store_row rfl 35 _ _ rfl wr.heap.size (actV k i a b s A' nk c') rfl rfl 35 _ z9z iA rfl oA ?_ | refine wpList_load_row rfl 31 _ rfl bm rfl 31 _ (0, 0) _ y0 Try.underlying31 rfl i0 ?_ | refine wpList_load_row rfl 35 _ rfl wr.heap.size rfl 35 _ (0, 0) _ z9 Try.underlying35 rfl iA ?_ | fail)
    refine KD.out.mono ?_
    rintro e V4 ⟨mv', rfl, h4⟩
    clear KD y0 i0 o0 iA oA f5 z9 z9z a0 a1 a2 a3 a4 a5
    have h5 := h4.sub (Y := [(bm, .cells mv 31 (0, 0))]) (fun y hy => by simp only [List.mem_cons, List.not_mem_nil, or_false] at hy ⊢; exact .inr hy)
    clear h4
    obtain ⟨hb10, z10, z10z⟩ := box_new (V := V4) zM mv' 31
    have hm4 := heap_lt (h5.at List.mem_cons_self)
    have h6 := h5.add hb10 (Nat.le_refl _) z10
    have y6 := h6.at (b := bm) (List.mem_cons_of_mem _ List.mem_cons_self)
    have i1 := h5.info
    have o1 := h5.one
    have q5 : zM.size = mv'.size := h5.four.symm
    have q6 : mv.size = mv'.size := q4.trans h5.four.symm
    have h7 := (h6.sub (Y := [(bm, .cells mv 31 (0, 0))]) (fun y hy => by simp only [List.mem_cons, List.not_mem_nil, or_false] at hy ⊢; exact .inr hy)).row mv' (fun x hx => absurd hx (by simp))
    have y7 := h7.at (b := bm) List.mem_cons_self
    have KS := Asd.mk (h7.same (by rw [HP.out.len]; have := HN.out; omega) (by have := HP.out.wl; omega))
    have H7 := Asd.mk h7
    clear h5 h6 h7 hb10
    go_wp2_with (first | refine wpList_store_row rfl 31 _ _ rfl V4.heap.size mv' rfl rfl 31 _ z10z i1 q5 o1 ?_ | refine wpList_load_row rfl 31 _ rfl V4.heap.size rfl 31 _ (0, 0) _ z10 Try.underlying31 rfl i1 ?_ | refine wpList_store_row rfl 31 _ _ rfl bm mv' rfl rfl 31 _ y6 i1 q6 o1 ?_ | refine Cel.wpList_load_row_w rfl 31 _ rfl bm rfl 31 _ (0, 0) _ y7 Try.underlying31 rfl i1 ?_ | fail)
    refine KS.out.mono ?_
    rintro e V8 ⟨rfl, hb8⟩
    have HN8 := Asd.mk (show LY w p N bm (j + 1) V8 from ⟨S', mv', HP.out, H7.out.step hb8⟩)
    clear KS H7 HP hb8 y6 y7 z10 z10z i1 o1
    go_wp2
    go_roundw
    case rel => exact ⟨j + 1, by go_num, by omega, HN8⟩
    case measure => simp [intOf]; omega
theorem plays_walk (n : Int) (A : Option Addr) (c : Nat) (l : List A12) (w : World) (h1 : Acts A l w) (m1 : l.length ≤ 9223372036854775807) :
    Calls Try.prog 3 #[.int .i64 n, .slice A l.length c] w fun e w' => e = .returned (.bool true) ∧ Below w.heap.size w w' := by
  by_cases h : (40 < n ∧ n ≤ 4096) ∨ 60 < l.length
  · exact plays_early n A l.length c w m1 h
  have h2 : l.length ≤ 60 := Nat.le_of_not_lt (fun e => h (.inr e))
  by_cases a : n < 1 ∨ 4096 < n
  · exact plays_bad n A l.length c w h2 a
  have a1 : ¬ n < 1 := fun e => a (.inl e)
  have a2 : ¬ (4096 < n) := fun e => a (.inr e)
  have a3 : ¬ (40 < n) := fun e => h (.inl ⟨e, by omega⟩)
  obtain ⟨N, rfl⟩ := Int.eq_ofNat_of_zero_le (show 0 ≤ n by omega)
  exact plays_main N A c l w h1 h2 (by omega) (by omega)
end Go.Proofs.Ytknbhgodhmcemaa.Dk
