/- Texts of the seat, as far as the row needs them. -/
import Derived.Below
import Derived.BigQuiet
import Derived.ChangeArms
import Derived.ChangeSlices
import Derived.DataReads
import Derived.Deep.CutBlock
import Derived.Deep.DeepCutAuto
import Derived.Deep.DeepFit
import Derived.Deep.Light
import Derived.Deep.LoopGhost
import Derived.Deep.QuietTactic
import Derived.Deep.RegionHeld3
import Derived.Ground.Names2Prog
import Derived.LaidMore
import Derived.Laws.AppendOwn
import Derived.Laws.BitsAllLaws
import Derived.Laws.BitsLemmas
import Derived.Laws.CopyOwn
import Derived.Laws.Externs
import Derived.Laws.IdiomCopy
import Derived.Laws.IdiomStrings
import Derived.Laws.OwnMore
import Derived.Laws.ResultCell
import Derived.Laws.Rows
import Derived.Laws.StructEq
import Derived.Laws.Tables
import Derived.Lib.AppendStr
import Derived.Lib.FrozenHead2
import Derived.Lib.OthersKept
import Derived.Lib.RepeatB
import Derived.Lib.TrimByte
import Derived.Lib.UnsafeStr
import Derived.LoopIn
import Derived.LoopNIn
import Derived.Maps.Own
import Derived.Maps.OwnOps
import Derived.Maps.OwnSet
import Derived.Maps.Views
import Derived.OrdersHeld
import Derived.Outline
import Derived.OwnWalk
import Derived.OwnWalkIn
import Derived.ProofKit
import Derived.RangeFuncBound
import Derived.RangeFuncCalls
import Derived.RangeFuncLeaves
import Derived.RangeFuncNested
import Derived.Shelf.Abstract
import Derived.Shelf.Bits.Mul64
import Derived.Shelf.RegionOpen
import Derived.Shelf.Slices.Clone
import Derived.Shelf.Small.Strs
import Derived.Shelf.Small.Utf8
import Derived.Shelf.Strings.Builder1
import Derived.Shelf.Strings.Builder2
import Derived.Shelf.Strings.BuilderF
import Derived.Shelf.Strings.BuilderK
import Derived.Shelf.Strings.Prefix
import Derived.Shelf.Strings.Repeat
import Derived.Shelf.Strings.Search1
import Derived.Shelf.Strings.Trim
import Derived.Shelf.Unicode.DecodeSlow
import Derived.SliceStrings
import Derived.StillTailTactics
import Derived.TacticsInMore
import Derived.Test.YtknbhgodhmcemaaDoorProg
import Derived.Test.YtknbhgodhmcemaaDoorRows
import Derived.WalkKit
import Derived.WalkMore
import Derived.WideShapes
import Derived.Test.YtknbhgodhmcemaaDoorQVaultRots0
import Derived.Test.YtknbhgodhmcemaaDoorQVaultRots1
import Derived.Test.YtknbhgodhmcemaaDoorQVaultRots2
import Derived.Test.YtknbhgodhmcemaaDoorQVaultRots3
set_option linter.unusedVariables false
set_option linter.unusedSimpArgs false
namespace Go.Proofs.YtknbhgodhmcemaaDoor.Va
set_option linter.unusedSimpArgs false
set_option linter.unusedVariables false
set_option maxRecDepth 100000
open Go.RowKit Go.Shelf Go.Proofs.YtknbhgodhmcemaaDoor.Own Go.Proofs.YtknbhgodhmcemaaDoor.Cel Go.Proofs.YtknbhgodhmcemaaDoor.Dk Go.Proofs.YtknbhgodhmcemaaDoor.Seg
open Go.Proofs.YtknbhgodhmcemaaDoor.Lg (DY Full box_new)
open Go.Proofs.YtknbhgodhmcemaaDoor.So (summedL np np_size newS wrS)
variable {w V : World} {p b : Nat} {S : DS} {X Y : List (Nat × Obj)} {v : Value} {xs : List ByteArray} {old : Array Value} {ty : TypeId}
theorem store_cell {P : Program} {ops : Array Oper} {rest : List Oper} {o : Oper} {a : Act} {w : World} {Q : Exit → Act → World → Prop} (hgd : o.guard = none) (ty : TypeId) (x y : Operand) (ho : o.op = .store ty x y)
    (g k : Nat) (u : Value) (hx : a.eval x = .pointer (some ⟨g, k, none⟩)) (hy : a.eval y = u) (hu : u.cells = #[u]) (h1 : u.oneCell' = true)
    (t : TypeId) (cur : Array Value) (hg : w.heap[g]? = some (.cells cur t (0, 0))) (hi : (P.info? ty).map (·.size) = some 1)
    (hold : k + 1 ≤ cur.size) (cs : Array Value) (hc : spl cur k [u] = cs) (W : World) (hW : w.setRow g cs = W)
    (h : wpList P ops Q rest (a.put o.dst undef) W) : wpList P ops Q (o :: rest) a w := by
  subst hc
  subst hW
  have hr : (storeVar ty ⟨g, k, none⟩ u).run P w = .ok () (w.setRow g (spl cur k [u])) := by
    have := run_storeCells_seg (P := P) g k t [u] 0 cur w hg (by simpa using hold) (fun v hv => by simp only [List.mem_singleton] at hv; subst hv; exact h1)
    cases hq : P.info? ty with
    | none => simp [hq] at hi
    | some i =>
      have hs : 1 = i.size := by simp [hq] at hi; omega
      simp [storeVar, sizeOf, typeInfo, hq, hu, ← hs, this]
  exact wpList_plain hgd fun K hK => by
    unfold Oper.wp execOp
    simp only [ho, hx, hy, Instr.storeAt, Instr.sureAddr, Sem.run_bind, Sem.run_pure, Result.andThen_ok, hr]
    exact hK _ _ h
theorem fin (h : DY w p S Y v xs V) (hm : (b, .cells old ty (0, 0)) ∈ Y) (hX : ∀ x ∈ X, x ∈ Y) (hw : w.heap.size ≤ b) (cs : Array Value) (hY : ∀ x ∈ X, x.1 ≠ b) : DY w p S X v xs (V.setRow b cs) :=
  ((h.sub (Y := (b, .cells old ty (0, 0)) :: X) (fun x hx => by
    rcases List.mem_cons.1 hx with rfl | hx
    · exact hm
    · exact hX x hx)).row hw cs hY).sub (fun x hx => List.mem_cons_of_mem _ hx)
set_option maxHeartbeats 8000000 in
theorem settle_calls {N k : Nat} (h : DY w p S X v xs V) (n sl fr room g nx : Nat) (st : Bool) (t : ByteArray) (hok : So.Ok S N (k + 1 + np (summedL t.data.toList).length)) (hF : Full S) (hn : 1 ≤ n) (hsl : sl ≤ 1) (hl : 2 * n < N) (hN : N ≤ 900) (hfit : t.size + 4 ≤ 110 * n) (hgen : genS S n + 1 < 18446744073709551615) :
    Calls Tryd.prog 37 #[.agg (vaultV n sl fr room g nx st), .pointer (some ⟨p, 0, none⟩), .string t] V fun e V' =>
      e = .returned (.tuple #[.agg (setS S n sl fr room g nx st t).2.1, .int .i64 (setS S n sl fr room g nx st t).2.2]) ∧ DY w p (setS S n sl fr room g nx st t).1 X v xs V' := by
  have hlt := lt_of h
  have hw := h.bel.size
  have hlen := hok.len
  have hnp := np_size t
  have h2 := boxes h (vaultV n sl fr room g nx st) zVault 74
  obtain ⟨R, hR⟩ : ∃ R, setS S n sl fr room g nx st t = R := ⟨_, rfl⟩
  rw [hR]
  unfold setS at hR
  have hG : genS S n = max (newS S.read 0 n) (newS S.read n n) := rfl
  obtain ⟨G, hGG⟩ : ∃ G, genS S n = G := ⟨_, rfl⟩
  rw [hGG] at hR hgen hG
  have K1 := fun (V' : World) (h' : DY w p S ((V.heap.size + 1, .cells zVault 74 (0, 0)) :: (V.heap.size, .cells (vaultV n sl fr room g nx st) 74 (0, 0)) :: X) v xs V') => So.DY.snew h' 0 n hn (by omega) (by omega) hF
  have HK2 := Aside0.mk (fun (V' : World) (h' : DY w p S ((V.heap.size + 1, .cells zVault 74 (0, 0)) :: (V.heap.size, .cells (vaultV n sl fr room g nx st) 74 (0, 0)) :: X) v xs V') => So.DY.snew h' n n hn (by omega) (by omega) hF)
  obtain ⟨g0, hg0⟩ : ∃ g0, newS S.read 0 n = g0 := ⟨_, rfl⟩
  obtain ⟨g1, hg1⟩ : ∃ g1, newS S.read n n = g1 := ⟨_, rfl⟩
  rw [hg0] at K1 hG
  rw [hg1] at HK2 hG
  have HK1 := Aside0.mk K1
  have z3 := h2.at (b := V.heap.size) (List.mem_cons_of_mem _ List.mem_cons_self)
  have c30 : ((V.alloc (.cells (vaultV n sl fr room g nx st) 74)).alloc (.cells zVault 74)).cell? ⟨V.heap.size, 0, none⟩ = some (.int .i64 (n : Nat)) := cell_of_row _ _ 0 _ _ _ z3
  have HLT := Aside0.mk (And.intro hlt hw)
  have H := Aside0.mk h2
  have HR := Aside0.mk hR
  have HG := Aside0.mk hG
  have HOK := Aside0.mk hok
  have HF := Aside0.mk hF
  have HLEN := Aside0.mk hlen
  clear h h2 hR hG hGG hg0 hg1 hok hF hlt hw K1 z3 hlen
  go_enter Tryd.func37, Tryd.ntmps37
  go_wp2_with fail
  refine wp_region_held_drew (S := fun V' => DY w p S ((V.heap.size + 1, .cells zVault 74 (0, 0)) :: (V.heap.size, .cells (vaultV n sl fr room g nx st) 74 (0, 0)) :: X) v xs V') (by kernel_rfl) (H.out.step ((Below.refl _ _).drew)) (fun hH => ?_)
  refine take_at (i := 0) (some 13) (.pointer (some ⟨p, 0, none⟩)) rfl rfl (by kernel_rfl) (by kernel_rfl) (by kernel_rfl) (fun _ _ _ h => h) (Or.inl ⟨by rfl, fun w hSw => by go_simp⟩) hH ?_
  try simp only [Act.put, List.setIfInBounds_toArray, List.set_cons_zero, List.set_cons_succ]
  refine take_at (i := 1) (some 14) (.pointer (some ⟨V.heap.size, 0, none⟩)) rfl rfl (by kernel_rfl) (by kernel_rfl) (by kernel_rfl) (fun _ _ _ h => h) (Or.inl ⟨by rfl, fun w hSw => by go_simp⟩) hH ?_
  try simp only [Act.put, List.setIfInBounds_toArray, List.set_cons_zero, List.set_cons_succ]
  refine take_at (i := 2) (some 15) (.int .i64 (n : Nat)) rfl rfl (by kernel_rfl) (by kernel_rfl) (by kernel_rfl) (fun _ _ _ h => h) (Or.inl ⟨by rfl, fun w hSw => by have e2 : w.cell? ⟨V.heap.size, 0, none⟩ = some (.int .i64 (n : Nat)) := cell_of_row w V.heap.size 0 _ _ _ (hSw.at (b := V.heap.size) (List.mem_cons_of_mem _ List.mem_cons_self)); go_simp⟩) hH ?_
  try simp only [Act.put, List.setIfInBounds_toArray, List.set_cons_zero, List.set_cons_succ]
  refine take_at (i := 4) (some 17) (.pointer (some ⟨p, 0, none⟩)) rfl rfl (by kernel_rfl) (by kernel_rfl) (by kernel_rfl) (fun _ _ _ h => h) (Or.inl ⟨by rfl, fun w hSw => by go_simp⟩) hH ?_
  try simp only [Act.put, List.setIfInBounds_toArray, List.set_cons_zero, List.set_cons_succ]
  refine take_at (i := 5) (some 18) (.pointer (some ⟨V.heap.size, 0, none⟩)) rfl rfl (by kernel_rfl) (by kernel_rfl) (by kernel_rfl) (fun _ _ _ h => h) (Or.inl ⟨by rfl, fun w hSw => by go_simp⟩) hH ?_
  try simp only [Act.put, List.setIfInBounds_toArray, List.set_cons_zero, List.set_cons_succ]
  refine take_at (i := 6) (some 19) (.int .i64 (n : Nat)) rfl rfl (by kernel_rfl) (by kernel_rfl) (by kernel_rfl) (fun _ _ _ h => h) (Or.inl ⟨by rfl, fun w hSw => by have e2 : w.cell? ⟨V.heap.size, 0, none⟩ = some (.int .i64 (n : Nat)) := cell_of_row w V.heap.size 0 _ _ _ (hSw.at (b := V.heap.size) (List.mem_cons_of_mem _ List.mem_cons_self)); go_simp⟩) hH ?_
  try simp only [Act.put, List.setIfInBounds_toArray, List.set_cons_zero, List.set_cons_succ]
  refine take_at (i := 7) (some 20) (.pointer (some ⟨V.heap.size, 0, none⟩)) rfl rfl (by kernel_rfl) (by kernel_rfl) (by kernel_rfl) (fun _ _ _ h => h) (Or.inl ⟨by rfl, fun w hSw => by go_simp⟩) hH ?_
  try simp only [Act.put, List.setIfInBounds_toArray, List.set_cons_zero, List.set_cons_succ]
  refine take_at (i := 8) (some 21) (.int .i64 (n : Nat)) rfl rfl (by kernel_rfl) (by kernel_rfl) (by kernel_rfl) (fun _ _ _ h => h) (Or.inl ⟨by rfl, fun w hSw => by have e2 : w.cell? ⟨V.heap.size, 0, none⟩ = some (.int .i64 (n : Nat)) := cell_of_row w V.heap.size 0 _ _ _ (hSw.at (b := V.heap.size) (List.mem_cons_of_mem _ List.mem_cons_self)); go_simp⟩) hH ?_
  try simp only [Act.put, List.setIfInBounds_toArray, List.set_cons_zero, List.set_cons_succ]
  refine wpAnyH_ready (rs := [3]) (by kernel_rfl) (by simp) (AllReadyH.cons rfl (fun K hK => ?_) AllReadyH.nil)
  go_simp
  refine (HK1.out _ hH).mono ?_
  rintro e V4 ⟨rfl, hb4⟩
  refine hK.out _ _ (hH.step hb4) (fun hH4 => ?_)
  clear hK K hb4
  try simp only [Act.put, List.setIfInBounds_toArray, List.set_cons_zero, List.set_cons_succ]
  refine wpAnyH_ready (rs := [9]) (by kernel_rfl) (by simp) (AllReadyH.cons rfl (fun K hK => ?_) AllReadyH.nil)
  go_simp
  refine (HK2.out _ hH4).mono ?_
  rintro e V5 ⟨rfl, hb5⟩
  refine hK.out _ _ (hH4.step hb5) (fun hH5 => ?_)
  clear hK K hb5
  try simp only [Act.put, List.setIfInBounds_toArray, List.set_cons_zero, List.set_cons_succ]
  have H5 := Aside0.mk hH5
  have hmx : max (g0 : Int) (g1 : Int) = (G : Int) := by have := HG.out; omega
  clear hH hH4
  refine wpAnyH_ready (rs := [10]) (by kernel_rfl) (by simp) (AllReadyH.cons rfl (fun K hK => ?_) AllReadyH.nil)
  go_simp
  refine hK.out _ _ hH5 (fun hH6 => ?_)
  clear hK K hH6
  try simp only [Act.put, List.setIfInBounds_toArray, List.set_cons_zero, List.set_cons_succ]
  refine wpAnyH_ready (rs := [11]) (by kernel_rfl) (by simp) (AllReadyH.cons rfl (fun K hK => ?_) AllReadyH.nil)
  go_simp
  refine hK.out _ _ hH5 (fun hH6 => ?_)
  clear hK K hH6 hH5
  refine wpAnyH_done (by kernel_rfl) ?_ _
  try simp only [Act.put, List.setIfInBounds_toArray, List.set_cons_zero, List.set_cons_succ]
  try simp only [hmx]
  have z3 := H5.out.at (b := V.heap.size) (List.mem_cons_of_mem _ List.mem_cons_self)
  have z6 := H5.out.at (b := V.heap.size + 1) List.mem_cons_self
  have c30' : V5.cell? ⟨V.heap.size, 0, none⟩ = some (.int .i64 (n : Nat)) := cell_of_row _ _ 0 _ _ _ z3
  have c31 : V5.cell? ⟨V.heap.size, 1, none⟩ = some (.int .i64 (sl : Nat)) := cell_of_row _ _ 1 _ _ _ z3
  obtain ⟨o, ho⟩ : ∃ o, 1 - sl = o := ⟨_, rfl⟩
  have e1s : (1 : Int) - (sl : Int) = (o : Int) := by omega
  have d1 : decide (110 * (n : Int) - 4 < (t.size : Int)) = false := decide_eq_false (by omega)
  have d2 : ((G : Int) == 18446744073709551615) = false := by simp; omega
  clear hmx c30
  obtain ⟨hb, z10, z10z⟩ := box_new (V := V5) zVault (vaultV n sl fr room g nx st) 74
  have f36 : ((V5.alloc (.cells zVault 74)).setRow V5.heap.size (vaultV n sl fr room g nx st)).frozen? ⟨V5.heap.size, 6, none⟩ = false := frozen_of_row _ _ 6 _ _ z10
  have c36 : ((V5.alloc (.cells zVault 74)).setRow V5.heap.size (vaultV n sl fr room g nx st)).cell? ⟨V5.heap.size, 6, none⟩ = some (.bool st) := cell_of_row _ _ 6 _ _ _ z10
  have H6 := Aside0.mk (H5.out.add (hb.setCell (p := ⟨V5.heap.size, 6, none⟩) (Nat.le_refl _) (.bool true)) (Nat.le_refl _) (show _ = some (.cells (vaultV n sl fr room g nx true) 74 (0, 0)) from heap_setCell_same _ V5.heap.size 6 _ _ (.bool true) z10))
  have y3 := H6.out.at (b := V.heap.size) (List.mem_cons_of_mem _ (List.mem_cons_of_mem _ List.mem_cons_self))
  have y30 : (((V5.alloc (.cells zVault 74)).setRow V5.heap.size (vaultV n sl fr room g nx st)).setCell ⟨V5.heap.size, 6, none⟩ (.bool true)).cell? ⟨V.heap.size, 0, none⟩ = some (.int .i64 (n : Nat)) := cell_of_row _ _ 0 _ _ _ y3
  have hlt3 : V.heap.size < V5.heap.size := lt_of H5.out _ (List.mem_cons_of_mem _ List.mem_cons_self)
  have hne : V5.heap.size ≠ V.heap.size := by omega
  have hne2 : V.heap.size ≠ V5.heap.size := by omega
  have on2 : o * n + n ≤ 2 * n := by
    have : o ≤ 1 := by omega
    rcases (show o = 0 ∨ o = 1 by omega) with rfl | rfl <;> omega
  have KW := So.DY.swrite H6.out (o * n) n (G + 1) t hn (by rw [HLEN.out]; omega) (by rw [HLEN.out]; omega) (by omega) (by omega) hfit (by rw [HLEN.out]; exact ⟨HOK.out.ok, HOK.out.len, HOK.out.arm, by have := HOK.out.waits; omega, HOK.out.ops0, by have := HOK.out.ops; omega⟩)
  have hr := HR.out
  rw [ho] at hr
  obtain ⟨mm, wt⟩ := So.wrS_spec (o * n) (G + 1) (summedL t.data.toList) (np (summedL t.data.toList).length) 0 S (by rw [HLEN.out]; omega)
  have ok1 := So.wr_ok wt HOK.out (by omega)
  obtain ⟨⟨S1, q1⟩, hW⟩ : ∃ R1, wrS (o * n) (G + 1) (summedL t.data.toList) (np (summedL t.data.toList).length) 0 S = R1 := ⟨_, rfl⟩
  rw [hW] at KW hr ok1
  dsimp only at KW hr ok1
  have HOK1 := Aside0.mk ok1
  have HRR := Aside0.mk hr
  clear hW wt ok1 hr HR
  rw [Int.natCast_mul, show ((G + 1 : Nat) : Int) = (G : Int) + 1 by omega] at KW
  have hom : (o : Int) * (n : Int) ≤ 900 := by
    have : ((o * n : Nat) : Int) ≤ 900 := by omega
    rwa [Int.natCast_mul] at this
  have hom0 : (0 : Int) ≤ (o : Int) * (n : Int) := Int.mul_nonneg (by omega) (by omega)
  have iV := infoV n sl fr room g nx st
  have oV := vaultV_one n sl fr room g nx st
  clear hb
  go_wp2_with (first | refine wpList_load_row rfl 74 _ rfl V.heap.size rfl 74 _ (0, 0) _ z3 Tryd.underlying74 rfl iV ?_ | refine wpList_store_row rfl 74 _ _ rfl V5.heap.size (vaultV n sl fr room g nx st) rfl rfl 74 _ z10z iV rfl oV ?_ | fail)
  refine KW.mono ?_
  rintro e V7 ⟨rfl, h7⟩
  have s7 : ∀ x ∈ X, x.1 ≠ V.heap.size + 1 := fun x hx => by have := HLT.out.1 x hx; omega
  have s8 : ∀ x ∈ X, x.1 ≠ V.heap.size := fun x hx => by have := HLT.out.1 x hx; omega
  have hw6 : w.heap.size ≤ V.heap.size + 1 := by have := HLT.out.2; omega
  have S7 := Aside0.mk (And.intro s7 (And.intro s8 hw6))
  have hrr := HRR.out
  have iV1 := infoV n sl fr room g nx true
  have oV1 := vaultV_one n sl fr room g nx true
  clear KW y3 y30 z10 z10z f36 c36 z3 z6 c30' c31 s7 s8 hw6 HRR H5 H6 iV oV
  by_cases hq : q1 = 0
  rotate_left
  · obtain rfl : R = (S1, vaultV n sl fr room g nx true, q1) := hrr.symm.trans (if_pos hq)
    have eq1 : (q1 != 0) = true := by simpa using hq
    have y10 := h7.at (b := V5.heap.size) List.mem_cons_self
    have y6 := h7.at (b := V.heap.size + 1) (List.mem_cons_of_mem _ List.mem_cons_self)
    have HZ := Aside0.mk (fin h7 (List.mem_cons_of_mem _ List.mem_cons_self) (fun x hx => List.mem_cons_of_mem _ (List.mem_cons_of_mem _ (List.mem_cons_of_mem _ hx))) S7.out.2.2 (vaultV n sl fr room g nx true) S7.out.1)
    clear hq hrr h7
    go_wp2_with (first | refine wpList_load_row rfl 74 _ rfl V5.heap.size rfl 74 _ (0, 0) _ y10 Tryd.underlying74 rfl iV1 ?_ | refine wpList_store_row rfl 74 _ _ rfl (V.heap.size + 1) (vaultV n sl fr room g nx true) rfl rfl 74 _ y6 iV1 rfl oV1 ?_ | fail)
    exact bodyPost_ret (Cel.end_cell rfl _ _ _ _ _ y6 rfl Tryd.underlying74 rfl (iV1)) rfl ⟨rfl, HZ.out⟩

  obtain rfl : q1 = 0 := hq
  rw [if_neg (fun x => x rfl)] at hrr
  have K8 := So.DY.dsync h7 HOK1.out.ok (by have := HOK1.out.arm; omega) (by have := HOK1.out.waits; omega) HOK1.out.ops0 (by have := HOK1.out.ops; omega)
  obtain ⟨⟨S2, q2⟩, hSY⟩ : ∃ R2, S1.sync = R2 := ⟨_, rfl⟩
  rw [hSY] at K8 hrr
  dsimp only at K8 hrr
  have K8' := Aside0.mk K8
  have HRR := Aside0.mk hrr
  clear hSY K8 h7 hrr
  go_wp2_with fail
  refine K8'.out.mono ?_
  rintro e V8 ⟨rfl, h8⟩
  have hrr := HRR.out
  clear K8' HRR
  by_cases hq : q2 = 0
  rotate_left
  · obtain rfl : R = (S2, vaultV n sl fr room g nx true, q2) := hrr.symm.trans (if_pos hq)
    have eq1 : (q2 != 0) = true := by simpa using hq
    have y10 := h8.at (b := V5.heap.size) List.mem_cons_self
    have y6 := h8.at (b := V.heap.size + 1) (List.mem_cons_of_mem _ List.mem_cons_self)
    have HZ := Aside0.mk (fin h8 (List.mem_cons_of_mem _ List.mem_cons_self) (fun x hx => List.mem_cons_of_mem _ (List.mem_cons_of_mem _ (List.mem_cons_of_mem _ hx))) S7.out.2.2 (vaultV n sl fr room g nx true) S7.out.1)
    clear hq hrr h8
    go_wp2_with (first | refine wpList_load_row rfl 74 _ rfl V5.heap.size rfl 74 _ (0, 0) _ y10 Tryd.underlying74 rfl iV1 ?_ | refine wpList_store_row rfl 74 _ _ rfl (V.heap.size + 1) (vaultV n sl fr room g nx true) rfl rfl 74 _ y6 iV1 rfl oV1 ?_ | fail)
    exact bodyPost_ret (Cel.end_cell rfl _ _ _ _ _ y6 rfl Tryd.underlying74 rfl (iV1)) rfl ⟨rfl, HZ.out⟩

  obtain rfl : q2 = 0 := hq
  obtain rfl : R = (S2, vaultV n o fr room (G + 1) 0 false, 0) := hrr.symm.trans (if_neg (fun x => x rfl))
  have hs := h8.sub (Y := (V.heap.size, .cells (vaultV n sl fr room g nx st) 74 (0, 0)) :: (V.heap.size + 1, .cells zVault 74 (0, 0)) :: X) (fun x hx => by simp only [List.mem_cons] at hx ⊢; rcases hx with h | h | h <;> simp [h])
  have hYY : ∀ x ∈ ((V.heap.size + 1, .cells zVault 74 (0, 0)) :: X : List (Nat × Obj)), x.1 ≠ V.heap.size := fun x hx => by
    rcases List.mem_cons.1 hx with rfl | hx
    · show V.heap.size + 1 ≠ V.heap.size; omega
    · exact S7.out.2.1 x hx
  have A0 := Aside0.mk (hs.at List.mem_cons_self)
  have k0 := hs.row HLT.out.2 (vaultV n o fr room g nx st) hYY
  obtain ⟨W1, hW1⟩ : ∃ W1, V8.setRow V.heap.size (vaultV n o fr room g nx st) = W1 := ⟨_, rfl⟩
  rw [hW1] at k0
  have A1 := Aside0.mk (And.intro hW1 (k0.at List.mem_cons_self))
  have k1 := k0.row HLT.out.2 (vaultV n o fr room g nx false) hYY
  obtain ⟨W2, hW2⟩ : ∃ W2, W1.setRow V.heap.size (vaultV n o fr room g nx false) = W2 := ⟨_, rfl⟩
  rw [hW2] at k1
  have A2 := Aside0.mk (And.intro hW2 (k1.at List.mem_cons_self))
  have k2 := k1.row HLT.out.2 (vaultV n o fr room (G + 1) nx false) hYY
  obtain ⟨W3, hW3⟩ : ∃ W3, W2.setRow V.heap.size (vaultV n o fr room (G + 1) nx false) = W3 := ⟨_, rfl⟩
  rw [hW3] at k2
  have A3 := Aside0.mk (And.intro hW3 (k2.at List.mem_cons_self))
  have k3 := k2.row HLT.out.2 (vaultV n o fr room (G + 1) 0 false) hYY
  obtain ⟨W4, hW4⟩ : ∃ W4, W3.setRow V.heap.size (vaultV n o fr room (G + 1) 0 false) = W4 := ⟨_, rfl⟩
  rw [hW4] at k3
  have A4 := Aside0.mk (And.intro hW4 (k3.at List.mem_cons_self))
  have y6 := k3.at (b := V.heap.size + 1) (List.mem_cons_of_mem _ List.mem_cons_self)
  have A6 := Aside0.mk y6
  have HZ := Aside0.mk (fin k3 (List.mem_cons_of_mem _ List.mem_cons_self) (fun x hx => List.mem_cons_of_mem _ (List.mem_cons_of_mem _ hx)) S7.out.2.2 (vaultV n o fr room (G + 1) 0 false) S7.out.1)
  have I2 := Aside0.mk (And.intro (infoV n o fr room (G + 1) 0 false) (vaultV_one n o fr room (G + 1) 0 false))
  have I3 := Aside0.mk (show (Tryd.prog.info? 3).map (·.size) = some 1 by kernel_rfl)
  have I4 := Aside0.mk (show (Tryd.prog.info? 4).map (·.size) = some 1 by kernel_rfl)
  have I29 := Aside0.mk (show (Tryd.prog.info? 29).map (·.size) = some 1 by kernel_rfl)
  have Q0 := Aside0.mk (show spl (vaultV n sl fr room g nx st) 1 [.int .i64 (o : Nat)] = vaultV n o fr room g nx st from rfl)
  have Q1 := Aside0.mk (show spl (vaultV n o fr room g nx st) 6 [.bool false] = vaultV n o fr room g nx false from rfl)
  have Q2 := Aside0.mk (show spl (vaultV n o fr room g nx false) 4 [.int .u64 ((G : Int) + 1)] = vaultV n o fr room (G + 1) nx false from rfl)
  have Q3 := Aside0.mk (show spl (vaultV n o fr room (G + 1) nx false) 5 [.int .i64 0] = vaultV n o fr room (G + 1) 0 false from rfl)
  clear hs hYY k0 k1 k2 k3 h8 hrr iV1 oV1 d1 d2 hom hom0 on2 hlt3 hne hne2 hnp hW1 hW2 hW3 hW4 y6
  go_wp2_with (first | refine store_cell rfl 3 _ _ rfl V.heap.size 1 (.int .i64 (o : Nat)) rfl rfl rfl rfl 74 _ A0.out I3.out (Nat.le_of_ble_eq_true rfl) _ Q0.out W1 A1.out.1 ?_ | refine store_cell rfl 4 _ _ rfl V.heap.size 6 (.bool false) rfl rfl rfl rfl 74 _ A1.out.2 I4.out (Nat.le_of_ble_eq_true rfl) _ Q1.out W2 A2.out.1 ?_ | refine store_cell rfl 29 _ _ rfl V.heap.size 4 (.int .u64 ((G : Int) + 1)) rfl rfl rfl rfl 74 _ A2.out.2 I29.out (Nat.le_of_ble_eq_true rfl) _ Q2.out W3 A3.out.1 ?_ | refine store_cell rfl 3 _ _ rfl V.heap.size 5 (.int .i64 0) rfl rfl rfl rfl 74 _ A3.out.2 I3.out (Nat.le_of_ble_eq_true rfl) _ Q3.out W4 A4.out.1 ?_ | refine wpList_load_row rfl 74 _ rfl V.heap.size rfl 74 _ (0, 0) _ A4.out.2 Tryd.underlying74 rfl I2.out.1 ?_ | refine wpList_store_row rfl 74 _ _ rfl (V.heap.size + 1) (vaultV n o fr room (G + 1) 0 false) rfl rfl 74 _ A6.out I2.out.1 rfl I2.out.2 ?_ | fail)
  exact bodyPost_ret (Cel.end_cell rfl _ _ _ _ _ A6.out rfl Tryd.underlying74 rfl I2.out.1) rfl ⟨rfl, HZ.out⟩
end Go.Proofs.YtknbhgodhmcemaaDoor.Va
namespace Go.Proofs.YtknbhgodhmcemaaDoor.Va
set_option linter.unusedSimpArgs false
set_option linter.unusedVariables false
set_option maxRecDepth 100000
open Go.RowKit Go.Shelf Go.Proofs.YtknbhgodhmcemaaDoor.Own Go.Proofs.YtknbhgodhmcemaaDoor.Cel Go.Proofs.YtknbhgodhmcemaaDoor.Dk Go.Proofs.YtknbhgodhmcemaaDoor.Seg
open Go.Proofs.YtknbhgodhmcemaaDoor.Lg (box_new logV zLog replay_calls repl)
open Go.Proofs.YtknbhgodhmcemaaDoor.So (readGo wholeS)
theorem whole_lt (l : List UInt8) {g : Nat} (h : g < 18446744073709551616) : (wholeS l g).2.1 < 18446744073709551616 := by
  unfold wholeS
  split
  · exact (by decide : 0 < 18446744073709551616)
  · split
    · exact h
    · exact (by decide : 0 < 18446744073709551616)
theorem readGo_lt (rd : List ByteArray) (fr : Nat) : ∀ (n i next gen : Nat) (out : List UInt8), gen < 18446744073709551616 → (readGo rd fr n i next gen out).2.1 < 18446744073709551616
  | 0, _, _, _, _, _ => (by decide : 0 < 18446744073709551616)
  | n + 1, i, next, gen, out, h => by
    have hg : (if i = 0 then (Sl.openS (rd.getD (fr + i) ByteArray.empty)).1.g else gen) < 18446744073709551616 := by
      split
      · exact (Sl.open_back _).2.1
      · exact h
    rw [readGo]
    generalize (if i = 0 then (Sl.openS (rd.getD (fr + i) ByteArray.empty)).1.g else gen) = gg at hg ⊢
    split
    · exact readGo_lt rd fr n _ _ _ _ h
    · split
      · exact (by decide : 0 < 18446744073709551616)
      · split
        · exact whole_lt _ hg
        · exact readGo_lt rd fr n _ _ _ _ hg
theorem newest_lt (rd : List ByteArray) (n : Nat) : (newestS rd n).2.1 < 18446744073709551616 := by
  unfold newestS
  split
  · exact readGo_lt rd _ _ _ _ _ _ (by decide)
  · split
    · exact readGo_lt rd _ _ _ _ _ _ (by decide)
    · exact (by decide : 0 < 18446744073709551616)
theorem results_cell_tmp3 {fn : Func} {q u u2 u3 : Tmp} {ty : TypeId} (h : fn.results = #[.cell q ty, .tmp u, .tmp u2, .tmp u3]) (tmps : Array Value) (P : Program) (w : World) :
    (results fn tmps).run P w =
      ((asAddr (tmps.getD q undef)).run P w).andThen fun a w₁ => ((loadVar ty a).run P w₁).andThen fun v w₂ => .ok (.tuple #[v, tmps.getD u undef, tmps.getD u2 undef, tmps.getD u3 undef]) w₂ := by
  simp only [results, h]
  simp [Sem.run_bind, Result.andThen]
theorem end_cell4 {P : Program} {fn : Func} {q u u2 u3 : Tmp} {ty : TypeId} {d : TypeDesc} (h : fn.results = #[.cell q ty, .tmp u, .tmp u2, .tmp u3]) (tmps : Array Value) (U : World) (b : Nat) (cells old : Array Value) (hZ : U.heap[b]? = some (.cells old ty (0, 0)))
    (hp : tmps.getD q undef = .pointer (some ⟨b, 0, none⟩)) (hu : P.underlying ty = some d) (hd : (match d with | .struct _ | .array _ _ => true | _ => false) = true) (hi : (P.info? ty).map (·.size) = some cells.size) :
    (results fn tmps).run P (U.setRow b cells) = .ok (.tuple #[.agg cells, tmps.getD u undef, tmps.getD u2 undef, tmps.getD u3 undef]) (U.setRow b cells) := by
  have hR := setRow_heap U b old cells ty (0, 0) hZ
  rw [results_cell_tmp3 h, hp]
  simp [asAddr, run_loadVar_row _ _ ty ty _ (0, 0) _ hR hu hd hi]
theorem oneZ : zVault.all (·.oneCell') = true := by simp [Value.oneCell']
variable {B p : Nat} {S : DS} {F : Nat → Prop} {W V V' : World}
def OP (B p : Nat) (S : DS) (F : Nat → Prop) (W V : World) : Prop := DK B p S F V ∧ Below W.heap.size W V ∧ V.heap[W.heap.size]? = some (.cells zVault 74 (0, 0))
theorem OP.step (h : OP B p S F W V) (hb : Below V.heap.size V V') : OP B p S F W V' := ⟨h.1.below hb, h.2.1.trans (hb.mono h.2.1.size), Own.keep h.2.2 hb⟩
theorem OP.done (h : OP B p S F W V) (cs : Array Value) : Below W.heap.size W (V.setRow W.heap.size cs) := below_setRow h.2.1 (g := W.heap.size) (Nat.le_refl _) cs
theorem OP.start (h : DK B p S F W) : OP B p S F W (W.alloc (.cells zVault 74)) :=
  ⟨h.below ((Below.refl _ _).alloc (Nat.le_refl _) _), (Below.refl _ _).alloc (Nat.le_refl _) _, heap_alloc_new W _⟩
theorem infoZ : (Tryd.prog.info? 74).map (·.size) = some zVault.size := by
  show _ = some 7
  kernel_rfl
set_option maxHeartbeats 4000000 in
theorem vopen_calls (h : DK B p S F W) (n : Nat) (hn : 1 ≤ n) (hl : 2 * n < S.lasts.length) (hN : S.lasts.length ≤ 900) (hsz : ∀ j, (S.read.getD j ByteArray.empty).size ≤ 1000) :
    Calls Tryd.prog 35 #[.pointer (some ⟨p, 0, none⟩), .int .i64 (n : Nat)] W fun e W' =>
      ∃ u, e = .returned (.tuple #[.agg (opnS S n).1, .string (opnS S n).2.1, u, .int .i64 (opnS S n).2.2.2]) ∧ W'.ownsRow W.heap.size 9 1 u (opnS S n).2.2.1.length (strs (opnS S n).2.2.1) ∧ Below W.heap.size W W' := by
  have H := Aside0.mk (OP.start h)
  have hlt := newest_lt S.read n
  obtain ⟨R, hR⟩ : ∃ R, opnS S n = R := ⟨_, rfl⟩
  rw [hR]
  have KM := Aside0.mk (fun V (hv : OP B p S F W V) => may_calls hv.1 n hn hl (by omega))
  have KN := Aside0.mk (fun V (hv : OP B p S F W V) => newest_calls hv.1 n hn hl hN hsz)
  have KS := Aside0.mk (fun V (hv : OP B p S F W V) (g : Nat) (b : Bool) => sound_calls hv.1 n g b (by omega) hN hsz)
  have KZ := Aside0.mk (fun V (hv : OP B p S F W V) => size_calls hv.1)
  have KR := Aside0.mk (fun V (hv : OP B p S F W V) (g : Nat) (hg : g < 18446744073709551616) => replay_calls hv.1 (2 * n) (S.lasts.length - 2 * n) g (by omega) (by omega) (by omega) hg hsz)
  unfold opnS at hR
  obtain ⟨⟨k, g, t, ok⟩, hnw⟩ : ∃ R, newestS S.read n = R := ⟨_, rfl⟩
  rw [hnw] at KN hR hlt
  dsimp only at KN hR hlt
  obtain ⟨N, hNN⟩ : ∃ N, S.lasts.length = N := ⟨_, rfl⟩
  rw [hNN] at hR KS KZ KR hl hN
  obtain ⟨q, hq⟩ : ∃ q, soundS S.read n g ok N = q := ⟨_, rfl⟩
  rw [hq] at hR
  have KS2 := Aside0.mk (fun V hv => KS.out V hv g ok)
  rw [hq] at KS2
  have KR2 := Aside0.mk (fun V hv => KR.out V hv g hlt)
  obtain ⟨rs, hrs⟩ : ∃ rs, repl S.read (2 * n) g (N - 2 * n) 0 = rs := ⟨_, rfl⟩
  rw [hrs] at hR KR2
  rw [show ((2 * n : Nat) : Int) = 2 * (n : Int) by omega, show ((N - 2 * n : Nat) : Int) = (N : Int) - 2 * (n : Int) by omega] at KR2
  have HR := Aside0.mk hR
  have n1 : (n : Int) ≤ 900 := by omega
  have n0 : (0 : Int) ≤ (n : Int) := by omega
  have n2 : 2 * (n : Int) ≤ (N : Int) := by omega
  have n3 : (N : Int) ≤ 900 := by omega
  clear h hnw hNN hq hrs KS KR hR hsz hn hl hN hlt
  go_enter Tryd.func35, Tryd.ntmps35
  go_wp2_with fail
  refine (KM.out _ H.out).mono ?_
  rintro e w1 ⟨rfl, rfl⟩
  clear KM
  go_wp2_with fail
  refine (KN.out _ H.out).mono ?_
  rintro e V ⟨rfl, hb⟩
  replace H := Aside0.mk (H.out.step hb)
  clear KN hb
  go_wp2_with fail
  refine (KS2.out _ H.out).mono ?_
  rintro e V ⟨rfl, hb⟩
  replace H := Aside0.mk (H.out.step hb)
  clear KS2 hb
  have hR := HR.out
  clear HR
  have z4 := H.out.2.2
  have iZ := infoZ
  have oZ := oneZ
  by_cases hq : q = 0
  rotate_left
  · have e1 : (q != 0) = true := by simpa using hq
    obtain rfl : R = (zVault, ⟨#[]⟩, [], q) := hR.symm.trans (if_pos hq)
    clear hR hq
    go_wp2_with (first | refine wpList_store_row rfl 74 _ _ rfl W.heap.size zVault rfl rfl 74 _ z4 iZ rfl oZ ?_ | fail)
    refine bodyPost_ret (end_cell4 rfl _ _ _ zVault _ z4 rfl Tryd.underlying74 rfl iZ) rfl ?_
    exact ⟨_, rfl, ⟨by simp [strs], .inl ⟨rfl, rfl⟩⟩, H.out.done _⟩
  subst hq
  have e1 : ((0 : Int) != 0) = false := rfl
  rw [if_neg (fun x => x rfl)] at hR
  subst hR
  go_wp2_with fail
  refine (KZ.out _ H.out).mono ?_
  rintro e w1 ⟨rfl, rfl⟩
  clear KZ z4
  go_wp2_with fail
  have hsz4 : W.heap.size < V.heap.size := (Array.getElem?_eq_some_iff.1 H.out.2.2).1
  refine (KR2.out _ H.out).mono ?_
  rintro e V2 ⟨u, rfl, hrow, hb⟩
  replace H := Aside0.mk (H.out.step hb)
  clear hb KR2
  obtain ⟨m, hm⟩ : ∃ m, rs.length = m := ⟨_, rfl⟩
  have HM := Aside0.mk hm
  rw [hm] at hrow ⊢
  clear hm
  generalize hfr : 2 * n = fr at *
  have HFR := Aside0.mk hfr
  clear hfr
  generalize hrm : N - fr = rm at *
  have HRM := Aside0.mk hrm
  clear hrm
  obtain ⟨hb, z13, z13z⟩ := box_new (V := V2) zLog (logV fr rm g m) 31
  replace H := Aside0.mk (H.out.step hb)
  have z4 := H.out.2.2
  have iL := Lg.infoLV fr rm g m
  have oL := Lg.logV_one fr rm g m
  have z13' : ((V2.alloc (.cells zLog 31)).setRow V2.heap.size (logV fr rm g m)).heap[V2.heap.size]? = some (.cells #[.int .i64 (fr : Nat), .int .i64 (rm : Nat), .int .u64 (g : Nat), .int .i64 (m : Nat)] 31 (0, 0)) := z13
  have iL' : (Tryd.prog.info? 31).map (·.size) = some (#[.int .i64 (fr : Nat), .int .i64 (rm : Nat), .int .u64 (g : Nat), .int .i64 (m : Nat)] : Array Value).size := iL
  have iV := infoV n k fr rm g m true
  have oV := vaultV_one n k fr rm g m true
  have HF := Aside0.mk (show ((V2.alloc (.cells zLog 31)).setRow V2.heap.size (logV fr rm g m)).setRow W.heap.size (vaultV n k fr rm g m true) |>.ownsRow W.heap.size 9 1 u m (strs rs) from
    owns_mono (owns_block (owns_keep hrow hb) (fun q e => setRow_other _ W.heap.size q _ (fun e2 => by have := (hrow.lt q e).1; omega))) (Nat.le_of_lt hsz4))
  clear hb hrow
  go_wp2_with (first | refine wpList_store_row rfl 31 _ _ rfl V2.heap.size (logV fr rm g m) rfl rfl 31 _ z13z iL rfl oL ?_ | refine wpList_load_row rfl 31 _ rfl V2.heap.size rfl 31 _ (0, 0) _ z13' Tryd.underlying31 rfl iL' ?_ | refine wpList_store_row rfl 74 _ _ rfl W.heap.size (vaultV n k fr rm g m true) rfl rfl 74 _ z4 iV rfl oV ?_ | fail)
  refine bodyPost_ret (end_cell4 rfl _ _ _ (vaultV n k fr rm g m true) _ z4 rfl Tryd.underlying74 rfl iV) rfl ?_
  have hm := HM.out
  subst hm
  have hm := HRM.out
  subst hm
  have hm := HFR.out
  subst hm
  exact ⟨_, rfl, HF.out, H.out.done _⟩
end Go.Proofs.YtknbhgodhmcemaaDoor.Va
namespace Go.Proofs.YtknbhgodhmcemaaDoor.Va
set_option linter.unusedSimpArgs false
set_option linter.unusedVariables false
set_option maxRecDepth 100000
open Go.RowKit Go.Shelf Go.Proofs.YtknbhgodhmcemaaDoor.Own Go.Proofs.YtknbhgodhmcemaaDoor.Cel Go.Proofs.YtknbhgodhmcemaaDoor.Dk Go.Proofs.YtknbhgodhmcemaaDoor.Seg
open Go.Proofs.YtknbhgodhmcemaaDoor.Lg (DY DY.start Full box_new getD_size appS sa sb sec sec_open sec_rec dead_rec repl RowS)
open Go.Proofs.YtknbhgodhmcemaaDoor.So (readS np np_size psec psec_open summedL readS_whole blank_open)
variable {w V : World} {p : Nat} {S : DS} {X : List (Nat × Obj)} {v : Value} {xs : List ByteArray}
theorem DY.vopen (h : DY w p S X v xs V) (n : Nat) (hn : 1 ≤ n) (hl : 2 * n < S.lasts.length) (hN : S.lasts.length ≤ 900) (hF : Full S) :
    Calls Tryd.prog 35 #[.pointer (some ⟨p, 0, none⟩), .int .i64 (n : Nat)] V fun e V' =>
      ∃ u, e = .returned (.tuple #[.agg (opnS S n).1, .string (opnS S n).2.1, u, .int .i64 (opnS S n).2.2.2]) ∧ V'.ownsRow V.heap.size 9 1 u (opnS S n).2.2.1.length (strs (opnS S n).2.2.1) ∧ Below V.heap.size V V' := by
  obtain ⟨F, d⟩ := h.dk
  exact vopen_calls d n hn hl hN (getD_size _ 1000 (fun s hs => by rw [hF.read s hs]; omega))
theorem append_stuck (n sl fr room g nx : Nat) (q : Value) (d : ByteArray) (V : World) :
    Calls Tryd.prog 36 #[.agg (vaultV n sl fr room g nx true), q, .string d] V fun e V' => e = .returned (.tuple #[.agg (vaultV n sl fr room g nx true), .int .i64 15]) ∧ Below V.heap.size V V' := by
  have z3 : ((V.alloc (.cells (vaultV n sl fr room g nx true) 74)).alloc (.cells zVault 74)).heap[V.heap.size]? = some (.cells (vaultV n sl fr room g nx true) 74 (0, 0)) :=
    Own.keep (heap_alloc_new V _) ((Below.refl _ _).alloc (Nat.le_refl _) _)
  have z6 : ((V.alloc (.cells (vaultV n sl fr room g nx true) 74)).alloc (.cells zVault 74)).heap[V.heap.size + 1]? = some (.cells zVault 74 (0, 0)) := by
    have z := heap_alloc_new (V.alloc (.cells (vaultV n sl fr room g nx true) 74)) (.cells zVault 74)
    simpa using z
  have c36 : ((V.alloc (.cells (vaultV n sl fr room g nx true) 74)).alloc (.cells zVault 74)).cell? ⟨V.heap.size, 6, none⟩ = some (.bool true) := cell_of_row _ _ 6 _ _ _ z3
  have HB := Aside0.mk (below_setRow (((Below.refl V.heap.size V).alloc (Nat.le_refl _) (.cells (vaultV n sl fr room g nx true) 74)).alloc (by simp) (.cells zVault 74)) (g := V.heap.size + 1) (by omega) (vaultV n sl fr room g nx true))
  have iV := infoV n sl fr room g nx true
  have oV := vaultV_one n sl fr room g nx true
  go_enter Tryd.func36, Tryd.ntmps36
  go_wp2_with (first | refine wpList_load_row rfl 74 _ rfl V.heap.size rfl 74 _ (0, 0) _ z3 Tryd.underlying74 rfl iV ?_ | refine wpList_store_row rfl 74 _ _ rfl (V.heap.size + 1) (vaultV n sl fr room g nx true) rfl rfl 74 _ z6 iV rfl oV ?_ | fail)
  exact bodyPost_ret (Cel.end_cell rfl _ _ _ _ _ z6 rfl Tryd.underlying74 rfl iV) rfl ⟨rfl, HB.out⟩
theorem crash_read {S : DS} (h : S.waits = []) (kp : Nat → Bool) : (S.crash kp).read = S.read ∧ (S.crash kp).lasts = S.lasts := by
  have e : (S.crash kp).lasts = S.lasts := by show applyW S.lasts (keptW kp 0 S.waits) = _; rw [h]; rfl
  refine ⟨?_, e⟩
  show applyW (S.crash kp).lasts [] = applyW S.lasts S.waits
  rw [e, h]
theorem aw_plain {S2 : DS} (m : Made ⟨List.replicate 4 (sect 0), [], 0, 0⟩ S2 4 (10 + 1 + np (summedL sa.data.toList).length) 1 0 sa) : opnS S2 1 = (vaultV 1 0 2 2 1 0 true, sa, [], 0) ∧ genS S2 1 = 1 ∧
    ∃ S3 S4, setS S2 1 0 2 2 1 0 true sa = (S3, vaultV 1 1 2 2 2 0 false, 0) ∧ So.Calm S3 4 10 ∧ appS S3 2 2 2 0 sb = (S4, 1, 0) ∧ So.Calm S4 4 8 ∧ S4.waits = [] ∧ ∀ kp, opnS (S4.crash kp) 1 = (vaultV 1 1 2 2 2 1 true, sa, [sb], 0) := by
  have hnp : np (summedL sa.data.toList).length = 1 := np_size sa
  obtain ⟨hall, _, ho⟩ := made_open (n := 1) m (by decide) (by decide) (by decide) (by decide)
  obtain ⟨hgs, S3, e3, c3, w3, t3, o3, _⟩ := made_settle (n := 1) (t' := sa) m (by decide) (by decide) (by decide) (by decide) (by decide)
  obtain ⟨S4, e4, c4, w4, r4⟩ := app_calm (k := 8) (fr := 2) (room := 2) (nx := 0) (g := 2) (d := sb) c3 (by decide) (by decide) (by decide)
  refine ⟨ho, hgs, S3, S4, e3, c3, e4, c4, w4, fun kp => ?_⟩
  rw [hnp] at hall t3 o3
  obtain ⟨rr, rl⟩ := crash_read w4 kp
  have q0 : S4.read.getD 0 ByteArray.empty = psec 1 (summedL sa.data.toList) 0 := by
    rw [r4 0, if_neg (by decide), o3 0 (by omega)]
    exact (hall 0 (by decide)).elim (fun x => by have := x.2; omega) (·.2)
  have q1 : S4.read.getD 1 ByteArray.empty = psec 2 (summedL sa.data.toList) 0 := by
    rw [r4 1, if_neg (by decide)]
    exact t3 0 (by decide)
  have q2 : S4.read.getD 2 ByteArray.empty = sec 2 0 sb := by rw [r4 2, if_pos rfl]
  have q3 : S4.read.getD 3 ByteArray.empty = sect 0 := by
    rw [r4 3, if_neg (by decide), o3 3 (by omega)]
    exact (hall 3 (by decide)).elim (·.1) (fun x => by have := x.1; omega)
  have h0 : readS S4.read (0 * 1) 1 = (sa, 1, true) := readS_whole S4.read (0 * 1) 1 1 sa.data.toList (by decide) (by omega) (by omega) (fun j hj => by
    obtain rfl : j = 0 := by omega
    exact q0)
  have h1 : readS S4.read (1 * 1) 1 = (sa, 2, true) := readS_whole S4.read (1 * 1) 1 2 sa.data.toList (by decide) (by omega) (by omega) (fun j hj => by
    obtain rfl : j = 0 := by omega
    exact q1)
  have hnw : newestS S4.read 1 = (1, 2, sa, true) := newest_snd h1 (fun _ => by rw [h0]; decide)
  have hs : soundS S4.read 1 2 true 4 = 0 := sound_ok ⟨0, by decide, by rw [q0, psec_open 1 _ 0 (by decide) (by decide)]⟩ (fun i hi => by
    rcases (show i = 0 ∨ i = 1 ∨ i = 2 ∨ i = 3 by omega) with rfl | rfl | rfl | rfl
    · rw [q0, psec_open 1 _ 0 (by decide) (by decide)]; exact ⟨.inl rfl, fun x => absurd x (by decide)⟩
    · rw [q1, psec_open 2 _ 0 (by decide) (by decide)]; exact ⟨.inl rfl, fun x => absurd x (by decide)⟩
    · rw [q2, sec_open 2 0 sb (by decide) (by decide) (by decide)]; exact ⟨.inl rfl, fun _ _ => Nat.le_refl _⟩
    · rw [q3]; exact ⟨.inr blank_16, fun _ x => absurd x blank_open⟩)
  have hr : repl S4.read 2 2 2 0 = [sb] := by
    have q2' : S4.read.getD (2 + 0) ByteArray.empty = sec 2 0 sb := q2
    have q3' : S4.read.getD (2 + (0 + 1)) ByteArray.empty = sect 0 := q3
    rw [repl, q2', sec_rec 2 0 sb (by decide) (by decide) (by decide), if_pos rfl, sec_open 2 0 sb (by decide) (by decide) (by decide), repl, q3', dead_rec (Lg.dead_blank 2)]; rfl
  unfold opnS
  rw [rr, rl, c4.ok.len, hnw]
  dsimp only
  rw [hs, if_neg (fun x => x rfl), show 2 * 1 = 2 from rfl, show 4 - 2 = 2 from rfl, hr]
  rfl
set_option maxHeartbeats 8000000 in
theorem awake16_calls (w : World) : Calls Tryd.prog 33 #[] w fun e w' => e = .returned (.bool true) ∧ Below w.heap.size w w' := by
  have KN := Aside0.mk (new_good 4 w (by omega) (by omega))
  rw [show ((4 : Nat) : Int) = 4 by rfl] at KN
  have hnp : np (summedL sa.data.toList).length = 1 := np_size sa
  have HNP := Aside0.mk hnp
  clear hnp
  go_enter Tryd.func33, Tryd.ntmps33
  go_wp2_with fail
  refine KN.out.mono ?_
  rintro x w1 ⟨p, F, rfl, d, b⟩
  have H := Aside0.mk (show DY w p ⟨List.replicate 4 (sect 0), [], 0, 0⟩ [] (.slice none 0 0) [] w1 from DY.start d b)
  clear d b KN
  obtain ⟨S2, m, KF⟩ := format_calls (k := 10 + 1 + np (summedL sa.data.toList).length) H.out 1 sa (So.Calm.fresh 4 _ (by rw [HNP.out]; decide)) (by decide) (by decide) (by decide) (by decide) (fun i hi => by rw [fresh_get 4 i hi]; exact look_blank)
  obtain ⟨ho, hgs, S3, S4, e3, c3, e4, c4, w4, h5⟩ := aw_plain m
  have HKF := Aside0.mk KF
  have HM := Aside0.mk m.calm
  have HO := Aside0.mk ho
  have H3 := Aside0.mk (And.intro e3 c3)
  have H4 := Aside0.mk (And.intro e4 c4)
  have H5 := Aside0.mk h5
  have HGS := Aside0.mk hgs
  clear KF m ho e3 c3 e4 c4 w4 h5 H hgs
  go_wp2_with fail
  refine HKF.out.mono ?_
  rintro x w2 ⟨rfl, h⟩
  have H := Aside0.mk h
  clear h HKF
  have KO := DY.vopen H.out 1 (by decide) (by rw [HM.out.ok.len]; decide) (by rw [HM.out.ok.len]; decide) HM.out.full
  rw [HO.out] at KO
  dsimp only at KO
  have HKO := Aside0.mk KO
  clear KO HO
  go_wp2_with fail
  refine HKO.out.mono ?_
  rintro x V1 ⟨u1, rfl, _, hb⟩
  replace H := Aside0.mk (H.out.step hb)
  clear hb HKO
  obtain ⟨hb, z3, z3z⟩ := box_new (V := V1) zVault (vaultV 1 0 2 2 1 0 true) 74
  have HB := Aside0.mk (H.out.add hb (Nat.le_refl _) z3)
  have HB3 := Aside0.mk (show w.heap.size ≤ V1.heap.size from H.out.bel.size)
  clear hb H
  have i0 := infoV 1 0 2 2 1 0 true
  have q0 := vaultV_one 1 0 2 2 1 0 true
  go_wp2_with (first | refine wpList_store_row rfl 74 _ _ rfl V1.heap.size (vaultV 1 0 2 2 1 0 true) rfl rfl 74 _ z3z i0 rfl q0 ?_ | refine wpList_load_row rfl 74 _ rfl V1.heap.size rfl 74 _ (0, 0) _ z3 Tryd.underlying74 rfl i0 ?_ | fail)
  change Calls _ _ _ ((V1.alloc (.cells zVault 74)).setRow V1.heap.size (vaultV 1 0 2 2 1 0 true)) _
  clear z3 z3z
  generalize (V1.alloc (.cells zVault 74)).setRow V1.heap.size (vaultV 1 0 2 2 1 0 true) = V2 at HB ⊢
  generalize V1.heap.size = b3 at HB HB3 ⊢
  refine (append_stuck 1 0 2 2 1 0 _ ⟨#[98]⟩ V2).mono ?_
  rintro x V3 ⟨rfl, hb⟩
  replace HB := Aside0.mk (HB.out.step hb)
  clear hb
  obtain ⟨hb, z7, z7z⟩ := box_new (V := V3) zVault (vaultV 1 0 2 2 1 0 true) 74
  replace HB := Aside0.mk (HB.out.step hb)
  clear hb z7
  have z3 := HB.out.at List.mem_cons_self
  have KS := Aside0.mk (settle_calls (k := 10) HB.out 1 0 2 2 1 0 true sa HM.out.ok HM.out.full (by decide) (by decide) (by decide) (by decide) (by decide) (by rw [HGS.out]; decide))
  rw [H3.out.1] at KS
  dsimp only at KS
  go_wp2_with (first | refine wpList_store_row rfl 74 _ _ rfl V3.heap.size (vaultV 1 0 2 2 1 0 true) rfl rfl 74 _ z7z i0 rfl q0 ?_ | refine wpList_load_row rfl 74 _ rfl b3 rfl 74 _ (0, 0) _ z3 Tryd.underlying74 rfl i0 ?_ | fail)
  refine KS.out.mono ?_
  rintro x V4 ⟨rfl, h⟩
  clear KS z3 z7z
  have z3 := h.at List.mem_cons_self
  have h2 := h.row HB3.out (vaultV 1 1 2 2 2 0 false) (fun x hx => absurd hx (by simp))
  replace HB := Aside0.mk h2
  have z4 := h2.at List.mem_cons_self
  have i1 := infoV 1 1 2 2 2 0 false
  have q1 := vaultV_one 1 1 2 2 2 0 false
  have KA := Aside0.mk (append_calls h2 1 1 2 2 2 0 sb (by decide) (by rw [H3.out.2.ok.len]; decide) (by rw [H3.out.2.ok.len]; decide) (by decide) (by decide) H3.out.2.ok.ok (by have := H3.out.2.ok.arm; omega) (by have := H3.out.2.ok.waits; omega) H3.out.2.ok.ops0 (by have := H3.out.2.ok.ops; omega))
  rw [H4.out.1] at KA
  dsimp only at KA
  clear h h2
  go_wp2_with (first | refine wpList_store_row rfl 74 _ _ rfl b3 (vaultV 1 1 2 2 2 0 false) rfl rfl 74 _ z3 i1 rfl q1 ?_ | refine wpList_load_row rfl 74 _ rfl b3 rfl 74 _ (0, 0) _ z4 Tryd.underlying74 rfl i1 ?_ | fail)
  refine KA.out.mono ?_
  rintro x V5 ⟨rfl, h⟩
  clear KA z3 z4 HB
  obtain ⟨hb, z7, z7z⟩ := box_new (V := V5) zVault (vaultV 1 1 2 2 2 1 false) 74
  have H := Aside0.mk ((h.step hb).sub (Y := []) (fun x hx => absurd hx (by simp)))
  clear hb z7 h
  have i2 := infoV 1 1 2 2 2 1 false
  have q2 := vaultV_one 1 1 2 2 2 1 false
  have KC := Aside0.mk (H.out.crash H4.out.2.ok.ok (by have := H4.out.2.ok.waits; omega) none 0 [] (fun i hi => absurd hi (by simp)) (by decide))
  go_wp2_with (first | refine wpList_store_row rfl 74 _ _ rfl V5.heap.size (vaultV 1 1 2 2 2 1 false) rfl rfl 74 _ z7z i2 rfl q2 ?_ | fail)
  refine KC.out.mono ?_
  rintro x V6 ⟨rfl, h⟩
  replace H := Aside0.mk h
  clear KC z7z h
  have KO := DY.vopen H.out 1 (by decide) (by rw [Lg.crash_len, H4.out.2.ok.len]; decide) (by rw [Lg.crash_len, H4.out.2.ok.len]; decide) (H4.out.2.full.crash _)
  rw [H5.out] at KO
  dsimp only at KO
  have HKO := Aside0.mk KO
  clear KO
  go_wp2_with fail
  refine HKO.out.mono ?_
  rintro x V7 ⟨u7, rfl, hrow, hb⟩
  replace H := Aside0.mk (H.out.step hb)
  clear hb HKO
  obtain ⟨A7, c7, rfl⟩ := owns_slice hrow
  have HX := Aside0.mk (RowS.owns hrow rfl)
  clear hrow
  obtain ⟨hb, z7, z7z⟩ := box_new (V := V7) zVault (vaultV 1 1 2 2 2 1 true) 74
  replace H := Aside0.mk (H.out.step hb)
  replace HX := Aside0.mk (HX.out.below hb)
  have i3 := infoV 1 1 2 2 2 1 true
  have q3 := vaultV_one 1 1 2 2 2 1 true
  clear hb z7
  go_wp2_with (first | refine wpList_store_row rfl 74 _ _ rfl V7.heap.size (vaultV 1 1 2 2 2 1 true) rfl rfl 74 _ z7z i3 rfl q3 ?_ | fail)
  change Calls _ _ _ ((V7.alloc (.cells zVault 74)).setRow V7.heap.size (vaultV 1 1 2 2 2 1 true)) _
  clear z7z
  generalize (V7.alloc (.cells zVault 74)).setRow V7.heap.size (vaultV 1 1 2 2 2 1 true) = V8 at H HX ⊢
  refine (Lg.awake14_calls _).mono ?_
  rintro x V9 ⟨rfl, hb⟩
  replace H := Aside0.mk (H.out.step hb)
  replace HX := Aside0.mk (HX.out.below hb)
  clear hb
  go_wp2_with fail
  refine (So.awake15_calls _).mono ?_
  rintro x V10 ⟨rfl, hb⟩
  replace H := Aside0.mk (H.out.step hb)
  replace HX := Aside0.mk (HX.out.below hb)
  clear hb
  obtain ⟨g1, o1, rfl, k0⟩ := HX.out 0 (by decide)
  have k0' : V10.cell? ⟨g1, o1, none⟩ = some (.string ⟨#[98]⟩) := k0
  clear k0 HX
  have hsa : sa.toList = [97] := by rw [ByteArray.toList_eq]; rfl
  go_wp2
  go_ret
  exact ⟨by first | rfl | decide, H.out.bel⟩
end Go.Proofs.YtknbhgodhmcemaaDoor.Va
namespace Go.Proofs.YtknbhgodhmcemaaDoor.Va
set_option linter.unusedSimpArgs false
set_option linter.unusedVariables false
set_option maxRecDepth 100000
open Go.RowKit Go.Shelf Go.Proofs.YtknbhgodhmcemaaDoor.Own Go.Proofs.YtknbhgodhmcemaaDoor.Cel Go.Proofs.YtknbhgodhmcemaaDoor.Dk Go.Proofs.YtknbhgodhmcemaaDoor.Seg
open Go.Proofs.YtknbhgodhmcemaaDoor.Lg (DY DY.start Full box_new appS RowS)
open Go.Proofs.YtknbhgodhmcemaaDoor.So (np np_size summedL)
variable {w V : World} {p : Nat} {S : DS} {X : List (Nat × Obj)} {v : Value} {xs : List ByteArray}
theorem DY.drot (h : DY w p S X v xs V) (i j : Int) (x : Nat) (hx : x < 256) (hF : Full S) (hi1 : i ≤ 9223372036854775807) :
    Calls Tryd.prog 25 #[.pointer (some ⟨p, 0, none⟩), .int .i64 i, .int .i64 j, .int .u8 (x : Nat)] V fun e V' => e = .returned (.tuple #[]) ∧ DY w p (S.rot i j x) X v xs V' :=
  h.did (Q := fun e => e = .returned (.tuple #[])) (fun F hd => rot_calls hd i j x hx hF.1 hi1)
structure VR (S : DS) (j : Nat) : Prop where
  calm : So.Calm S 10 (2 * (5 - j) + 4)
  waits : S.waits = []
  all : ∀ q, q < 10 → S.read.getD q ByteArray.empty = sect 0 ∨ Tight (S.read.getD q ByteArray.empty)
theorem VR.app {j : Nat} (h : VR S j) (hj : j < 5) (d : ByteArray) (hd : d.size ≤ 110) : ∃ S', appS S 4 6 2 j d = (S', j + 1, 0) ∧ VR S' (j + 1) := by
  obtain ⟨S', e, c, w, r⟩ := app_calm (k := 2 * (5 - (j + 1)) + 4) (fr := 4) (room := 6) (nx := j) (g := 2) (d := d) (by rw [show 2 * (5 - (j + 1)) + 4 + 2 = 2 * (5 - j) + 4 by omega]; exact h.calm) (by decide) (by omega) hd
  refine ⟨S', e, c, w, fun q hq => ?_⟩
  rw [r q]
  split
  · exact .inr (tight_sec _ _ _ hd)
  · exact h.all q hq
theorem VR.rot {j : Nat} (h : VR S j) (i a b : Nat) (hi : i < 10) (ha : a < 128) (hb : b ≠ 0) (hb2 : b < 256) :
    (S.rot (i : Int) (a : Int) b).lasts.length = 10 ∧ Full (S.rot (i : Int) (a : Int) b) ∧ (S.read.getD i ByteArray.empty ≠ sect 0 → (opnS (S.rot (i : Int) (a : Int) b) 2).2.2.2 = 8) := by
  have hl := h.calm.ok.len
  have hr : S.read = S.lasts := by rw [DS.read, h.waits]; rfl
  have e : S.rot (i : Int) (a : Int) b = { S with lasts := S.lasts.set i (turnS (S.lasts.getD i ByteArray.empty) a b) } := by
    unfold DS.rot
    rw [if_pos ⟨⟨by omega, by omega⟩, by omega, by omega⟩, Int.toNat_natCast, Int.toNat_natCast]
  rw [e]
  have hl2 : (S.lasts.set i (turnS (S.lasts.getD i ByteArray.empty) a b)).length = 10 := by rw [List.length_set]; exact hl
  refine ⟨hl2, ⟨fun s hs => ?_, h.calm.full.2⟩, fun hne => ?_⟩
  · rcases List.mem_or_eq_of_mem_set hs with hs | rfl
    · exact h.calm.full.1 s hs
    · rw [turnS_size, List.getD_eq_getElem?_getD, List.getElem?_eq_getElem (by omega)]
      exact h.calm.full.1 _ (List.getElem_mem _)
  · have ht : Tight (S.lasts.getD i ByteArray.empty) := by
      have := h.all i hi
      rw [hr] at this hne
      exact this.resolve_left hne
    have hrd : ({ S with lasts := S.lasts.set i (turnS (S.lasts.getD i ByteArray.empty) a b) } : DS).read.getD i ByteArray.empty = turnS (S.lasts.getD i ByteArray.empty) a b := by
      show (applyW (S.lasts.set i (turnS (S.lasts.getD i ByteArray.empty) a b)) S.waits).getD i ByteArray.empty = _
      rw [h.waits]
      show (S.lasts.set i (turnS (S.lasts.getD i ByteArray.empty) a b)).getD i ByteArray.empty = _
      rw [List.getD_eq_getElem?_getD, List.getElem?_set_self (by omega)]; rfl
    have hk : lookR (({ S with lasts := S.lasts.set i (turnS (S.lasts.getD i ByteArray.empty) a b) } : DS).read.getD i ByteArray.empty) = true := by
      rw [hrd]; exact tight_turn ht a b ha hb hb2
    unfold opnS
    have hs := fun g o => sound_rot (n := 2) (gen := g) (whole := o) (N := 10) hi hk
    rw [show ({ S with lasts := S.lasts.set i (turnS (S.lasts.getD i ByteArray.empty) a b) } : DS).lasts.length = 10 from hl2]
    rw [hs, if_pos (by decide)]
theorem str_eq {x y : ByteArray} (h : x = y) : (x.toList == y.toList) = true := by subst h; simp
set_option maxHeartbeats 8000000 in
theorem rots_walk (t : ByteArray) (A : Option Addr) (c : Nat) (ss : List ByteArray) (a i b : Nat) (w : World) (h1 : RowS A ss w) (m1 : ss.length ≤ 9223372036854775807) (ha : a < 256) (hi : i < 256) (hb : b < 256) :
    Calls Tryd.prog 8 #[.string t, .slice A ss.length c, .int .u8 (a : Nat), .int .u8 (i : Nat), .int .u8 (b : Nat)] w fun e w' => e = .returned (.bool true) ∧ Below w.heap.size w w' := by
  obtain ⟨n1, hn1⟩ : ∃ n, ss.length = n := ⟨_, rfl⟩
  rw [hn1] at m1 ⊢
  have H1 := Aside0.mk h1
  have N1 := Aside0.mk hn1
  clear h1 hn1
  by_cases q1 : 200 < t.size
  · have t1 : decide (200 < (t.size : Int)) = true := decide_eq_true (by omega)
    have t1' : decide (200 < t.size) = true := decide_eq_true q1
    clear q1
    go_enter Tryd.func8, Tryd.ntmps8
    go_wp2_with fail
    refine (awake16_calls _).mono ?_
    rintro x w3 ⟨rfl, hb⟩
    have HB := Aside0.mk hb
    clear hb
    go_wp2
    go_ret
    exact ⟨rfl, HB.out⟩
  have t1 : decide (200 < (t.size : Int)) = false := decide_eq_false (by omega)
  have t1' : decide (200 < t.size) = false := decide_eq_false q1
  by_cases q2 : 5 < n1
  · have t2 : decide (5 < (n1 : Int)) = true := decide_eq_true (by omega)
    have t2' : decide (5 < n1) = true := decide_eq_true q2
    clear q1 q2
    go_enter Tryd.func8, Tryd.ntmps8
    go_wp2_with fail
    refine (awake16_calls _).mono ?_
    rintro x w3 ⟨rfl, hb⟩
    have HB := Aside0.mk hb
    clear hb
    go_wp2
    go_ret
    exact ⟨rfl, HB.out⟩
  have t2 : decide (5 < (n1 : Int)) = false := decide_eq_false (by omega)
  have t2' : decide (5 < n1) = false := decide_eq_false q2
  by_cases q3 : b = 0
  · subst q3
    clear q1 q2
    go_enter Tryd.func8, Tryd.ntmps8
    go_wp2_with fail
    refine (awake16_calls _).mono ?_
    rintro x w3 ⟨rfl, hb⟩
    have HB := Aside0.mk hb
    clear hb
    go_wp2
    go_ret
    exact ⟨rfl, HB.out⟩
  have t3 : ((b : Int) == 0) = false := by simpa using q3
  have l1 : n1 ≤ 5 := by omega
  have ht : t.size + 4 ≤ 110 * 2 := by omega
  have HQ := Aside0.mk (And.intro q3 hb)
  have KN := Aside0.mk (new_good 10 w (by omega) (by omega))
  rw [show ((10 : Nat) : Int) = 10 by rfl] at KN
  have hnp : np (summedL t.data.toList).length ≤ 2 := by have := np_size t; omega
  have HNP := Aside0.mk (And.intro hnp ht)
  obtain ⟨r, hr⟩ : ∃ r, i % 10 = r := ⟨_, rfl⟩
  obtain ⟨m, hm⟩ : ∃ m, a % 128 = m := ⟨_, rfl⟩
  have er : (i : Int) % 10 = (r : Int) := by omega
  have em : (a : Int) % 128 = (m : Int) := by omega
  have hr2 : r < 10 := by omega
  have hm2 : m < 128 := by omega
  have HRM := Aside0.mk (And.intro hr2 hm2)
  clear q1 q2 q3 hnp ht hr hm hb m1
  go_enter Tryd.func8, Tryd.ntmps8
  go_wp2_with fail
  refine KN.out.mono ?_
  rintro x w1 ⟨p, F, rfl, d, bl⟩
  have H := Aside0.mk (show DY w p ⟨List.replicate 10 (sect 0), [], 0, 0⟩ [] (.slice none 0 0) [] w1 from DY.start d bl)
  clear d bl KN
  obtain ⟨S2, mk, KF⟩ := format_calls (k := 14 + 1 + np (summedL t.data.toList).length) H.out 2 t (So.Calm.fresh 10 _ (by have := HNP.out.1; omega)) (by decide) (by decide) (by decide) HNP.out.2 (fun i hi => by rw [fresh_get 10 i hi]; exact look_blank)
  obtain ⟨_, _, ho⟩ := made_open (n := 2) mk (by decide) (by decide) (by decide) HNP.out.2
  obtain ⟨hgs, S3, e3, c3, w3, _, _, a3⟩ := made_settle (n := 2) (t' := t) mk (by decide) (by decide) (by decide) HNP.out.2 HNP.out.2
  have HKF := Aside0.mk KF
  have HM := Aside0.mk mk.calm
  have HO := Aside0.mk (show opnS S2 2 = (vaultV 2 0 4 6 1 0 true, t, [], 0) from ho)
  have H3 := Aside0.mk (And.intro (show setS S2 2 0 4 6 1 0 true t = (S3, vaultV 2 1 4 6 2 0 false, 0) from e3) (show VR S3 0 from ⟨c3, w3, a3⟩))
  have HGS := Aside0.mk hgs
  clear KF mk ho e3 c3 w3 a3 H hgs
  go_wp2_with fail
  refine HKF.out.mono ?_
  rintro x w2 ⟨rfl, h⟩
  have H := Aside0.mk h
  clear h HKF
  have KO := DY.vopen H.out 2 (by decide) (by rw [HM.out.ok.len]; decide) (by rw [HM.out.ok.len]; decide) HM.out.full
  rw [HO.out] at KO
  dsimp only at KO
  have HKO := Aside0.mk KO
  clear KO HO
  go_wp2_with fail
  refine HKO.out.mono ?_
  rintro x V1 ⟨u1, rfl, _, hb⟩
  replace H := Aside0.mk (H.out.step hb)
  clear hb HKO
  obtain ⟨hb, z3, z3z⟩ := box_new (V := V1) zVault (vaultV 2 0 4 6 1 0 true) 74
  have HB := Aside0.mk (H.out.add hb (Nat.le_refl _) z3)
  have HB3 := Aside0.mk (show w.heap.size ≤ V1.heap.size from H.out.bel.size)
  clear hb H
  have i0 := infoV 2 0 4 6 1 0 true
  have q0 := vaultV_one 2 0 4 6 1 0 true
  have KS := Aside0.mk (settle_calls (k := 14) HB.out 2 0 4 6 1 0 true t HM.out.ok HM.out.full (by decide) (by decide) (by decide) (by decide) HNP.out.2 (by rw [HGS.out]; decide))
  rw [H3.out.1] at KS
  dsimp only at KS
  go_wp2_with (first | refine wpList_store_row rfl 74 _ _ rfl V1.heap.size (vaultV 2 0 4 6 1 0 true) rfl rfl 74 _ z3z i0 rfl q0 ?_ | refine wpList_load_row rfl 74 _ rfl V1.heap.size rfl 74 _ (0, 0) _ z3 Tryd.underlying74 rfl i0 ?_ | fail)
  refine KS.out.mono ?_
  rintro x V4 ⟨rfl, h⟩
  clear KS z3 z3z HB
  generalize V1.heap.size = b3 at h HB3 ⊢
  have z3 := h.at List.mem_cons_self
  have h2 := h.row HB3.out (vaultV 2 1 4 6 2 0 false) (fun x hx => absurd hx (by simp))
  have i1 := infoV 2 1 4 6 2 0 false
  have q1 := vaultV_one 2 1 4 6 2 0 false
  have H0 := Aside0.mk (show ∃ S, VR S 0 ∧ DY w p S [(b3, .cells (vaultV 2 1 4 6 2 0 false) 74 (0, 0))] (.slice none 0 0) [] (V4.setRow b3 (vaultV 2 1 4 6 2 0 false)) from ⟨S3, H3.out.2, h2⟩)
  clear h h2 H3 HM HGS
  go_wp2_with (first | refine wpList_store_row rfl 74 _ _ rfl b3 (vaultV 2 1 4 6 2 0 false) rfl rfl 74 _ z3 i1 rfl q1 ?_ | fail)
  clear z3 i0 q0 i1 q1
  obtain ⟨i0, hi0, hz0, hz1, hz2⟩ := info_parts infoS
  go_loopw [66] (fun iv W => ∃ (j : Nat), iv = .int .i64 j ∧ j ≤ n1 ∧ Aside0 (∃ S, VR S j ∧ DY w p S [(b3, .cells (vaultV 2 1 4 6 2 j false) 74 (0, 0))] (.slice none 0 0) [] W)) (fun iv _ => n1 - (intOf iv).toNat)
  case atStart => exact ⟨0, rfl, by omega, H0⟩
  case round =>
    obtain ⟨j, rfl, hj, HS⟩ := hrel
    clear H0
    by_cases hlt : j < n1
    · have hj1 : (j : Int) < (n1 : Int) := by omega
      have hjl : j < ss.length := by rw [N1.out]; exact hlt
      obtain ⟨S, hv, hd⟩ := HS.out
      obtain ⟨bb, oo, rfl, hc⟩ := (H1.out.far (Nat.le_refl _) hd.bel) j hjl
      obtain ⟨d, hd8⟩ : ∃ d, ss[j]'hjl = d := ⟨_, rfl⟩
      rw [hd8] at hc
      clear hjl hd8 HS
      by_cases hdl : 110 < d.size
      · have e1 : decide (110 < (d.size : Int)) = true := decide_eq_true (by omega)
        have e1' : decide (110 < d.size) = true := decide_eq_true hdl
        have HD := Aside0.mk hd
        clear hv hd hdl
        go_wp2_with fail
        refine (awake16_calls _).mono ?_
        rintro x V4 ⟨rfl, hb⟩
        have HE := Aside0.mk (HD.out.step hb)
        clear hb HD
        go_wp2
        go_ret
        exact ⟨rfl, HE.out.bel⟩
      have e1 : decide (110 < (d.size : Int)) = false := decide_eq_false (by omega)
      have e1' : decide (110 < d.size) = false := decide_eq_false hdl
      obtain ⟨S', e, hv'⟩ := hv.app (by omega) d (by omega)
      have KA := append_calls hd 2 1 4 6 2 j d (by decide) (by rw [hv.calm.ok.len]; decide) (by rw [hv.calm.ok.len]; decide) (by omega) (by decide) hv.calm.ok.ok (by have := hv.calm.ok.arm; omega) (by have := hv.calm.ok.waits; omega) hv.calm.ok.ops0 (by have := hv.calm.ok.ops; omega)
      rw [e] at KA
      dsimp only at KA
      have HKA := Aside0.mk KA
      have HV := Aside0.mk hv'
      have z3 := hd.at List.mem_cons_self
      have i1 := infoV 2 1 4 6 2 j false
      have i2 := infoV 2 1 4 6 2 (j + 1) false
      have q2 := vaultV_one 2 1 4 6 2 (j + 1) false
      clear e KA hv hv' hd
      go_wp2_with (first | refine wpList_load_row rfl 74 _ rfl b3 rfl 74 _ (0, 0) _ z3 Tryd.underlying74 rfl i1 ?_ | fail)
      refine HKA.out.mono ?_
      rintro x V5 ⟨rfl, h⟩
      clear HKA z3
      have z3 := h.at List.mem_cons_self
      have h2 := h.row HB3.out (vaultV 2 1 4 6 2 (j + 1) false) (fun x hx => absurd hx (by simp))
      have HN := Aside0.mk (show ∃ S, VR S (j + 1) ∧ DY w p S [(b3, .cells (vaultV 2 1 4 6 2 (j + 1) false) 74 (0, 0))] (.slice none 0 0) [] _ from ⟨S', HV.out, h2⟩)
      clear h h2 HV
      go_wp2_with (first | refine wpList_store_row rfl 74 _ _ rfl b3 (vaultV 2 1 4 6 2 (j + 1) false) rfl rfl 74 _ z3 i2 rfl q2 ?_ | fail)
      clear z3 i1 i2 q2
      go_roundw
      case rel => exact ⟨j + 1, by go_num, by omega, HN⟩
      case measure => simp [intOf]; omega
    · obtain rfl : j = n1 := by omega
      obtain ⟨S, hv, hd⟩ := HS.out
      have H := Aside0.mk hd
      have HV := Aside0.mk hv
      obtain ⟨r1, r2, r3⟩ := hv.rot r m b HRM.out.1 HRM.out.2 HQ.out.1 HQ.out.2
      obtain ⟨s, hs⟩ : ∃ s, S.read.getD r ByteArray.empty = s := ⟨_, rfl⟩
      rw [hs] at r3
      have R := Aside0.mk (And.intro r1 (And.intro r2 r3))
      have er2 : S.readAt (r : Int) = (S.read.getD r ByteArray.empty, 0) := by
        unfold DS.readAt
        rw [if_pos ⟨by omega, by have := hv.calm.ok.len; have := HRM.out.1; omega⟩, Int.toNat_natCast]
      rw [hs] at er2
      have KR := Aside0.mk (So.DY.dread hd (r : Int))
      rw [er2] at KR
      clear HS hd hv r1 r2 r3 er2 hlt hs
      go_wp2_with fail
      refine KR.out.mono ?_
      rintro x V5 ⟨rfl, rfl⟩
      clear KR
      have KT := Aside0.mk (DY.drot H.out (r : Int) (m : Int) b HQ.out.2 HV.out.calm.full (by have := HRM.out.1; omega))
      go_wp2_with fail
      refine KT.out.mono ?_
      rintro x V6 ⟨rfl, h⟩
      replace H := Aside0.mk h
      clear h KT
      have KO := Aside0.mk (DY.vopen H.out 2 (by decide) (by rw [R.out.1]; decide) (by rw [R.out.1]; decide) R.out.2.1)
      have R3 := Aside0.mk R.out.2.2
      obtain ⟨⟨vv, tt, rs, q⟩, hO⟩ : ∃ R, opnS (S.rot (r : Int) (m : Int) b) 2 = R := ⟨_, rfl⟩
      rw [hO] at KO R3
      dsimp only at KO R3
      clear hO R HV
      go_wp2_with fail
      refine KO.out.mono ?_
      rintro x V7 ⟨u, rfl, _, hb⟩
      replace H := Aside0.mk (H.out.step hb)
      clear hb KO
      go_wp2_with fail
      refine (awake16_calls _).mono ?_
      rintro x V8 ⟨rfl, hb⟩
      replace H := Aside0.mk (H.out.step hb)
      clear hb
      by_cases hq : q = 8
      · have e8 : (q == 8) = true := by simpa using hq
        clear hq
        go_wp2
        go_ret
        exact ⟨rfl, H.out.bel⟩
      · have e8 : (q == 8) = false := by simpa using hq
        have hs0 : s = sect 0 := Decidable.byContradiction (fun x => hq (R3.out x))
        have ess := str_eq hs0
        clear hq R3 hs0
        go_wp2_with fail
        refine (rblank_calls _).mono ?_
        rintro x V9 ⟨rfl, hb⟩
        replace H := Aside0.mk (H.out.step hb)
        clear hb
        go_wp2
        go_ret
        exact ⟨rfl, H.out.bel⟩
end Go.Proofs.YtknbhgodhmcemaaDoor.Va
namespace Go.Proofs.YtknbhgodhmcemaaDoor.Lg
set_option linter.unusedVariables false
set_option maxRecDepth 100000
open Go.RowKit Go.Proofs.YtknbhgodhmcemaaDoor.Own Go.Proofs.YtknbhgodhmcemaaDoor.Cel
theorem plain_addr {W : World} {a : Addr} {v : Value} (h : W.cell? (a.add 0) = some v) : ∃ b o, a = ⟨b, o, none⟩ := by
  have h1 := World.cell?_spot h
  obtain ⟨b, o, spot⟩ := a
  have : spot = none := by simpa [Addr.add] using h1
  subst this
  exact ⟨b, o, rfl⟩
theorem open_ss {H : Type} {enc : TypeId × Value → H} {W : World} {base : Nat} {spare : Nat → Bool} {held : Bool} {r : Reach} {b0 : Nat} {v : Value} {d : DataW H} {ps : List MemPlace}
    (hv : Value.okWide Tryd.prog W r b0 22 v) (h : DataW.Trod enc Tryd.prog W base spare held 22 v d ps) :
    ∃ A c ss, v = .slice A ss.length c ∧ RowS A ss W ∧ ss.length ≤ 9223372036854775807 := by
  obtain ⟨a, len, cap, rfl⟩ := Go.WideShapes.okWide_slice Tryd.underlying22 hv
  obtain ⟨fuel, hf⟩ := h
  have hcz : Tryd.prog.cellsOf 9 = 1 := by kernel_rfl
  rcases Go.ChangeShapes.open_strings Tryd.underlying22 Tryd.underlying9 hcz hf with ⟨hc, _⟩ | ⟨a', len', cap', ss, hc, _, hlc, hcm, hzl, _, hcell, hsz⟩
  · simp [Value.cells] at hc
    obtain ⟨rfl, rfl, rfl⟩ := hc
    exact ⟨none, 0, [], rfl, fun j hj => absurd hj (by simp), by simp⟩
  · simp [Value.cells] at hc
    obtain ⟨rfl, rfl, rfl⟩ := hc
    have hle : len ≤ ss.length := by rw [hzl]; split <;> omega
    refine ⟨some a', cap, ss.take len, ?_, fun j hj => ?_, ?_⟩
    · rw [List.length_take, Nat.min_eq_left hle]
    · rw [List.length_take, Nat.min_eq_left hle] at hj
      obtain ⟨b, o, rfl⟩ := plain_addr (hcell 0 (by omega))
      have hc := hcell j (by omega)
      rw [Seg.addr_add] at hc
      refine ⟨b, o, rfl, hc.trans ?_⟩
      rw [List.getElem_take, List.getD_eq_getElem?_getD, List.getElem?_eq_getElem (by omega)]; rfl
    · rw [List.length_take]
      have : cap ≤ maxLen := hcm
      unfold maxLen at this
      omega
end Go.Proofs.YtknbhgodhmcemaaDoor.Lg
namespace Go.Proofs.YtknbhgodhmcemaaDoor
open Go.RowKit
mutual
def flat : DataW Unit → List Value
  | .lit (.int k n) => [.int k n]
  | .agg parts => flats parts
  | _ => []
def flats : List (DataW Unit) → List Value
  | [] => []
  | d :: r => flat d ++ flats r
end
def layObj (d : DataW Unit) : Obj → Obj
  | .cells _ t fr => .cells (flat d).toArray t fr
  | o => o
noncomputable def laidWorld (os : Os) : World :=
  let w0 := World.holding Tryd.prog os ⟨#[], #[], []⟩
  { w0 with heap := (w0.heap.modify 1 (layObj Rows.laid_unicode_utf8_first)).modify 2 (layObj Rows.laid_unicode_utf8_acceptRanges) }
end Go.Proofs.YtknbhgodhmcemaaDoor
