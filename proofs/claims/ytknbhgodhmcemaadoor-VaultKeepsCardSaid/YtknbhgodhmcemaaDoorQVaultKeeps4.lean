/- Texts of the seat, as far as the row needs them. -/
import Derived.Below
import Derived.BigQuiet
import Derived.Deep.CutBlock
import Derived.Deep.DeepCutAuto
import Derived.Deep.DeepFit
import Derived.Deep.Light
import Derived.Deep.LoopGhost
import Derived.Deep.QuietTactic
import Derived.Deep.RegionHeld3
import Derived.Ground.Names2Prog
import Derived.Laws.AppendOwn
import Derived.Laws.BitsAllLaws
import Derived.Laws.BitsLemmas
import Derived.Laws.CopyOwn
import Derived.Laws.Externs
import Derived.Laws.IdiomCopy
import Derived.Laws.IdiomStrings
import Derived.Laws.OwnMore
import Derived.Laws.ResultCell
import Derived.Laws.Rows
import Derived.Laws.StructEq
import Derived.Laws.Tables
import Derived.Lib.AppendStr
import Derived.Lib.FrozenHead2
import Derived.Lib.OthersKept
import Derived.Lib.RepeatB
import Derived.Lib.TrimByte
import Derived.Lib.UnsafeStr
import Derived.LoopIn
import Derived.LoopNIn
import Derived.Maps.Own
import Derived.Maps.OwnOps
import Derived.Maps.OwnSet
import Derived.Maps.Views
import Derived.OrdersHeld
import Derived.Outline
import Derived.OwnWalk
import Derived.OwnWalkIn
import Derived.RangeFuncBound
import Derived.RangeFuncCalls
import Derived.RangeFuncLeaves
import Derived.RangeFuncNested
import Derived.Shelf.Abstract
import Derived.Shelf.Bits.Mul64
import Derived.Shelf.RegionOpen
import Derived.Shelf.Slices.Clone
import Derived.Shelf.Small.Strs
import Derived.Shelf.Small.Utf8
import Derived.Shelf.Strings.Builder1
import Derived.Shelf.Strings.Builder2
import Derived.Shelf.Strings.BuilderF
import Derived.Shelf.Strings.BuilderK
import Derived.Shelf.Strings.Prefix
import Derived.Shelf.Strings.Repeat
import Derived.Shelf.Strings.Search1
import Derived.Shelf.Strings.Trim
import Derived.Shelf.Unicode.DecodeSlow
import Derived.StillTailTactics
import Derived.TacticsInMore
import Derived.Test.YtknbhgodhmcemaaDoorProg
import Derived.WalkKit
import Derived.WalkMore
import Derived.Test.YtknbhgodhmcemaaDoorQVaultKeeps0
import Derived.Test.YtknbhgodhmcemaaDoorQVaultKeeps1
import Derived.Test.YtknbhgodhmcemaaDoorQVaultKeeps2
import Derived.Test.YtknbhgodhmcemaaDoorQVaultKeeps3
set_option linter.unusedVariables false
set_option linter.unusedSimpArgs false
namespace Go.Proofs.YtknbhgodhmcemaaDoor.Va
set_option linter.unusedSimpArgs false
set_option linter.unusedVariables false
set_option maxRecDepth 100000
open Go.RowKit Go.Shelf Go.Proofs.YtknbhgodhmcemaaDoor.Own Go.Proofs.YtknbhgodhmcemaaDoor.Cel Go.Proofs.YtknbhgodhmcemaaDoor.Dk Go.Proofs.YtknbhgodhmcemaaDoor.Seg
open Go.Proofs.YtknbhgodhmcemaaDoor.Lg (DY Full box_new)
open Go.Proofs.YtknbhgodhmcemaaDoor.So (summedL np np_size newS wrS)
variable {w V : World} {p b : Nat} {S : DS} {X Y : List (Nat × Obj)} {v : Value} {xs : List ByteArray} {old : Array Value} {ty : TypeId}
theorem setc (h : DY w p S ((b, .cells old ty (0, 0)) :: X) v xs V) (hw : w.heap.size ≤ b) (j : Nat) (u : Value) (cs : Array Value) (hc : old.setIfInBounds j u = cs) (hY : ∀ x ∈ X, x.1 ≠ b) :
    DY w p S ((b, .cells cs ty (0, 0)) :: X) v xs (V.setCell ⟨b, j, none⟩ u) := by
  subst hc
  obtain ⟨F, d, b0, hx, r, n⟩ := h
  obtain ⟨a1, a2, a3⟩ := hx _ List.mem_cons_self
  have so : ∀ k, k ≠ b → (V.setCell ⟨b, j, none⟩ u).heap[k]? = V.heap[k]? := fun k hk => set_other V ⟨b, j, none⟩ u k hk
  refine ⟨F, d.keep (fun k hk => so k (fun e => a2 (e ▸ hk))), b0.setCell (p := ⟨b, j, none⟩) hw u, fun x hq => ?_, owns_block r (fun g e => so g (fun e2 => a3 (e2 ▸ e))), n⟩
  rcases List.mem_cons.1 hq with rfl | hq
  · exact ⟨heap_setCell_same V b j old _ u a1, a2, a3⟩
  · obtain ⟨c1, c2, c3⟩ := hx x (List.mem_cons_of_mem _ hq)
    exact ⟨(so x.1 (hY x hq)).trans c1, c2, c3⟩
theorem store_cell {P : Program} {ops : Array Oper} {rest : List Oper} {o : Oper} {a : Act} {w : World} {Q : Exit → Act → World → Prop} (hgd : o.guard = none) (ty : TypeId) (x y : Operand) (ho : o.op = .store ty x y)
    (g k : Nat) (u : Value) (hx : a.eval x = .pointer (some ⟨g, k, none⟩)) (hy : a.eval y = u) (hu : u.cells = #[u]) (h1 : u.oneCell' = true)
    (t : TypeId) (cur : Array Value) (hg : w.heap[g]? = some (.cells cur t (0, 0))) (hi : (P.info? ty).map (·.size) = some 1)
    (hold : k + 1 ≤ cur.size) (cs : Array Value) (hc : spl cur k [u] = cs) (W : World) (hW : w.setRow g cs = W)
    (h : wpList P ops Q rest (a.put o.dst undef) W) : wpList P ops Q (o :: rest) a w := by
  subst hc
  subst hW
  have hr : (storeVar ty ⟨g, k, none⟩ u).run P w = .ok () (w.setRow g (spl cur k [u])) := by
    have := run_storeCells_seg (P := P) g k t [u] 0 cur w hg (by simpa using hold) (fun v hv => by simp only [List.mem_singleton] at hv; subst hv; exact h1)
    cases hq : P.info? ty with
    | none => simp [hq] at hi
    | some i =>
      have hs : 1 = i.size := by simp [hq] at hi; omega
      simp [storeVar, sizeOf, typeInfo, hq, hu, ← hs, this]
  exact wpList_plain hgd fun K hK => by
    unfold Oper.wp execOp
    simp only [ho, hx, hy, Instr.storeAt, Instr.sureAddr, Sem.run_bind, Sem.run_pure, Result.andThen_ok, hr]
    exact hK _ _ h
theorem fin (h : DY w p S Y v xs V) (hm : (b, .cells old ty (0, 0)) ∈ Y) (hX : ∀ x ∈ X, x ∈ Y) (hw : w.heap.size ≤ b) (cs : Array Value) (hY : ∀ x ∈ X, x.1 ≠ b) : DY w p S X v xs (V.setRow b cs) :=
  ((h.sub (Y := (b, .cells old ty (0, 0)) :: X) (fun x hx => by
    rcases List.mem_cons.1 hx with rfl | hx
    · exact hm
    · exact hX x hx)).row hw cs hY).sub (fun x hx => List.mem_cons_of_mem _ hx)
set_option maxHeartbeats 8000000 in
theorem settle_calls {N k : Nat} (h : DY w p S X v xs V) (n sl fr room g nx : Nat) (st : Bool) (t : ByteArray) (hok : So.Ok S N (k + 1 + np (summedL t.data.toList).length)) (hF : Full S) (hn : 1 ≤ n) (hsl : sl ≤ 1) (hl : 2 * n < N) (hN : N ≤ 900) (hfit : t.size + 4 ≤ 110 * n) (hgen : genS S n + 1 < 18446744073709551615) :
    Calls Tryd.prog 37 #[.agg (vaultV n sl fr room g nx st), .pointer (some ⟨p, 0, none⟩), .string t] V fun e V' =>
      e = .returned (.tuple #[.agg (setS S n sl fr room g nx st t).2.1, .int .i64 (setS S n sl fr room g nx st t).2.2]) ∧ DY w p (setS S n sl fr room g nx st t).1 X v xs V' := by
  have hlt := lt_of h
  have hw := h.bel.size
  have hlen := hok.len
  have hnp := np_size t
  have h2 := boxes h (vaultV n sl fr room g nx st) zVault 74
  obtain ⟨R, hR⟩ : ∃ R, setS S n sl fr room g nx st t = R := ⟨_, rfl⟩
  rw [hR]
  unfold setS at hR
  have hG : genS S n = max (newS S.read 0 n) (newS S.read n n) := rfl
  obtain ⟨G, hGG⟩ : ∃ G, genS S n = G := ⟨_, rfl⟩
  rw [hGG] at hR hgen hG
  have K1 := fun (V' : World) (h' : DY w p S ((V.heap.size + 1, .cells zVault 74 (0, 0)) :: (V.heap.size, .cells (vaultV n sl fr room g nx st) 74 (0, 0)) :: X) v xs V') => So.DY.snew h' 0 n hn (by omega) (by omega) hF
  have HK2 := Aside0.mk (fun (V' : World) (h' : DY w p S ((V.heap.size + 1, .cells zVault 74 (0, 0)) :: (V.heap.size, .cells (vaultV n sl fr room g nx st) 74 (0, 0)) :: X) v xs V') => So.DY.snew h' n n hn (by omega) (by omega) hF)
  obtain ⟨g0, hg0⟩ : ∃ g0, newS S.read 0 n = g0 := ⟨_, rfl⟩
  obtain ⟨g1, hg1⟩ : ∃ g1, newS S.read n n = g1 := ⟨_, rfl⟩
  rw [hg0] at K1 hG
  rw [hg1] at HK2 hG
  have HK1 := Aside0.mk K1
  have z3 := h2.at (b := V.heap.size) (List.mem_cons_of_mem _ List.mem_cons_self)
  have c30 : ((V.alloc (.cells (vaultV n sl fr room g nx st) 74)).alloc (.cells zVault 74)).cell? ⟨V.heap.size, 0, none⟩ = some (.int .i64 (n : Nat)) := cell_of_row _ _ 0 _ _ _ z3
  have HLT := Aside0.mk (And.intro hlt hw)
  have H := Aside0.mk h2
  have HR := Aside0.mk hR
  have HG := Aside0.mk hG
  have HOK := Aside0.mk hok
  have HF := Aside0.mk hF
  have HLEN := Aside0.mk hlen
  clear h h2 hR hG hGG hg0 hg1 hok hF hlt hw K1 z3 hlen
  go_enter Tryd.func37, Tryd.ntmps37
  go_wp2_with fail
  refine wp_region_held_drew (S := fun V' => DY w p S ((V.heap.size + 1, .cells zVault 74 (0, 0)) :: (V.heap.size, .cells (vaultV n sl fr room g nx st) 74 (0, 0)) :: X) v xs V') (by kernel_rfl) (H.out.step ((Below.refl _ _).drew)) (fun hH => ?_)
  refine take_at (i := 0) (some 13) (.pointer (some ⟨p, 0, none⟩)) rfl rfl (by kernel_rfl) (by kernel_rfl) (by kernel_rfl) (fun _ _ _ h => h) (Or.inl ⟨by rfl, fun w hSw => by go_simp⟩) hH ?_
  try simp only [Act.put, List.setIfInBounds_toArray, List.set_cons_zero, List.set_cons_succ]
  refine take_at (i := 1) (some 14) (.pointer (some ⟨V.heap.size, 0, none⟩)) rfl rfl (by kernel_rfl) (by kernel_rfl) (by kernel_rfl) (fun _ _ _ h => h) (Or.inl ⟨by rfl, fun w hSw => by go_simp⟩) hH ?_
  try simp only [Act.put, List.setIfInBounds_toArray, List.set_cons_zero, List.set_cons_succ]
  refine take_at (i := 2) (some 15) (.int .i64 (n : Nat)) rfl rfl (by kernel_rfl) (by kernel_rfl) (by kernel_rfl) (fun _ _ _ h => h) (Or.inl ⟨by rfl, fun w hSw => by have e2 : w.cell? ⟨V.heap.size, 0, none⟩ = some (.int .i64 (n : Nat)) := cell_of_row w V.heap.size 0 _ _ _ (hSw.at (b := V.heap.size) (List.mem_cons_of_mem _ List.mem_cons_self)); go_simp⟩) hH ?_
  try simp only [Act.put, List.setIfInBounds_toArray, List.set_cons_zero, List.set_cons_succ]
  refine take_at (i := 4) (some 17) (.pointer (some ⟨p, 0, none⟩)) rfl rfl (by kernel_rfl) (by kernel_rfl) (by kernel_rfl) (fun _ _ _ h => h) (Or.inl ⟨by rfl, fun w hSw => by go_simp⟩) hH ?_
  try simp only [Act.put, List.setIfInBounds_toArray, List.set_cons_zero, List.set_cons_succ]
  refine take_at (i := 5) (some 18) (.pointer (some ⟨V.heap.size, 0, none⟩)) rfl rfl (by kernel_rfl) (by kernel_rfl) (by kernel_rfl) (fun _ _ _ h => h) (Or.inl ⟨by rfl, fun w hSw => by go_simp⟩) hH ?_
  try simp only [Act.put, List.setIfInBounds_toArray, List.set_cons_zero, List.set_cons_succ]
  refine take_at (i := 6) (some 19) (.int .i64 (n : Nat)) rfl rfl (by kernel_rfl) (by kernel_rfl) (by kernel_rfl) (fun _ _ _ h => h) (Or.inl ⟨by rfl, fun w hSw => by have e2 : w.cell? ⟨V.heap.size, 0, none⟩ = some (.int .i64 (n : Nat)) := cell_of_row w V.heap.size 0 _ _ _ (hSw.at (b := V.heap.size) (List.mem_cons_of_mem _ List.mem_cons_self)); go_simp⟩) hH ?_
  try simp only [Act.put, List.setIfInBounds_toArray, List.set_cons_zero, List.set_cons_succ]
  refine take_at (i := 7) (some 20) (.pointer (some ⟨V.heap.size, 0, none⟩)) rfl rfl (by kernel_rfl) (by kernel_rfl) (by kernel_rfl) (fun _ _ _ h => h) (Or.inl ⟨by rfl, fun w hSw => by go_simp⟩) hH ?_
  try simp only [Act.put, List.setIfInBounds_toArray, List.set_cons_zero, List.set_cons_succ]
  refine take_at (i := 8) (some 21) (.int .i64 (n : Nat)) rfl rfl (by kernel_rfl) (by kernel_rfl) (by kernel_rfl) (fun _ _ _ h => h) (Or.inl ⟨by rfl, fun w hSw => by have e2 : w.cell? ⟨V.heap.size, 0, none⟩ = some (.int .i64 (n : Nat)) := cell_of_row w V.heap.size 0 _ _ _ (hSw.at (b := V.heap.size) (List.mem_cons_of_mem _ List.mem_cons_self)); go_simp⟩) hH ?_
  try simp only [Act.put, List.setIfInBounds_toArray, List.set_cons_zero, List.set_cons_succ]
  refine wpAnyH_ready (rs := [3]) (by kernel_rfl) (by simp) (AllReadyH.cons rfl (fun K hK => ?_) AllReadyH.nil)
  go_simp
  refine (HK1.out _ hH).mono ?_
  rintro e V4 ⟨rfl, hb4⟩
  refine hK.out _ _ (hH.step hb4) (fun hH4 => ?_)
  clear hK K hb4
  try simp only [Act.put, List.setIfInBounds_toArray, List.set_cons_zero, List.set_cons_succ]
  refine wpAnyH_ready (rs := [9]) (by kernel_rfl) (by simp) (AllReadyH.cons rfl (fun K hK => ?_) AllReadyH.nil)
  go_simp
  refine (HK2.out _ hH4).mono ?_
  rintro e V5 ⟨rfl, hb5⟩
  refine hK.out _ _ (hH4.step hb5) (fun hH5 => ?_)
  clear hK K hb5
  try simp only [Act.put, List.setIfInBounds_toArray, List.set_cons_zero, List.set_cons_succ]
  have H5 := Aside0.mk hH5
  have hmx : max (g0 : Int) (g1 : Int) = (G : Int) := by have := HG.out; omega
  clear hH hH4
  refine wpAnyH_ready (rs := [10]) (by kernel_rfl) (by simp) (AllReadyH.cons rfl (fun K hK => ?_) AllReadyH.nil)
  go_simp
  refine hK.out _ _ hH5 (fun hH6 => ?_)
  clear hK K hH6
  try simp only [Act.put, List.setIfInBounds_toArray, List.set_cons_zero, List.set_cons_succ]
  refine wpAnyH_ready (rs := [11]) (by kernel_rfl) (by simp) (AllReadyH.cons rfl (fun K hK => ?_) AllReadyH.nil)
  go_simp
  refine hK.out _ _ hH5 (fun hH6 => ?_)
  clear hK K hH6 hH5
  refine wpAnyH_done (by kernel_rfl) ?_ _
  try simp only [Act.put, List.setIfInBounds_toArray, List.set_cons_zero, List.set_cons_succ]
  try simp only [hmx]
  have z3 := H5.out.at (b := V.heap.size) (List.mem_cons_of_mem _ List.mem_cons_self)
  have z6 := H5.out.at (b := V.heap.size + 1) List.mem_cons_self
  have c30' : V5.cell? ⟨V.heap.size, 0, none⟩ = some (.int .i64 (n : Nat)) := cell_of_row _ _ 0 _ _ _ z3
  have c31 : V5.cell? ⟨V.heap.size, 1, none⟩ = some (.int .i64 (sl : Nat)) := cell_of_row _ _ 1 _ _ _ z3
  obtain ⟨o, ho⟩ : ∃ o, 1 - sl = o := ⟨_, rfl⟩
  have e1s : (1 : Int) - (sl : Int) = (o : Int) := by omega
  have d1 : decide (110 * (n : Int) - 4 < (t.size : Int)) = false := decide_eq_false (by omega)
  have d2 : ((G : Int) == 18446744073709551615) = false := by simp; omega
  clear hmx c30
  obtain ⟨hb, z10, z10z⟩ := box_new (V := V5) zVault (vaultV n sl fr room g nx st) 74
  have f36 : ((V5.alloc (.cells zVault 74)).setRow V5.heap.size (vaultV n sl fr room g nx st)).frozen? ⟨V5.heap.size, 6, none⟩ = false := frozen_of_row _ _ 6 _ _ z10
  have c36 : ((V5.alloc (.cells zVault 74)).setRow V5.heap.size (vaultV n sl fr room g nx st)).cell? ⟨V5.heap.size, 6, none⟩ = some (.bool st) := cell_of_row _ _ 6 _ _ _ z10
  have H6 := Aside0.mk (H5.out.add (hb.setCell (p := ⟨V5.heap.size, 6, none⟩) (Nat.le_refl _) (.bool true)) (Nat.le_refl _) (show _ = some (.cells (vaultV n sl fr room g nx true) 74 (0, 0)) from heap_setCell_same _ V5.heap.size 6 _ _ (.bool true) z10))
  have y3 := H6.out.at (b := V.heap.size) (List.mem_cons_of_mem _ (List.mem_cons_of_mem _ List.mem_cons_self))
  have y30 : (((V5.alloc (.cells zVault 74)).setRow V5.heap.size (vaultV n sl fr room g nx st)).setCell ⟨V5.heap.size, 6, none⟩ (.bool true)).cell? ⟨V.heap.size, 0, none⟩ = some (.int .i64 (n : Nat)) := cell_of_row _ _ 0 _ _ _ y3
  have hlt3 : V.heap.size < V5.heap.size := lt_of H5.out _ (List.mem_cons_of_mem _ List.mem_cons_self)
  have hne : V5.heap.size ≠ V.heap.size := by omega
  have hne2 : V.heap.size ≠ V5.heap.size := by omega
  have on2 : o * n + n ≤ 2 * n := by
    have : o ≤ 1 := by omega
    rcases (show o = 0 ∨ o = 1 by omega) with rfl | rfl <;> omega
  have KW := So.DY.swrite H6.out (o * n) n (G + 1) t hn (by rw [HLEN.out]; omega) (by rw [HLEN.out]; omega) (by omega) (by omega) hfit (by rw [HLEN.out]; exact ⟨HOK.out.ok, HOK.out.len, HOK.out.arm, by have := HOK.out.waits; omega, HOK.out.ops0, by have := HOK.out.ops; omega⟩)
  have hr := HR.out
  rw [ho] at hr
  obtain ⟨mm, wt⟩ := So.wrS_spec (o * n) (G + 1) (summedL t.data.toList) (np (summedL t.data.toList).length) 0 S (by rw [HLEN.out]; omega)
  have ok1 := So.wr_ok wt HOK.out (by omega)
  obtain ⟨⟨S1, q1⟩, hW⟩ : ∃ R1, wrS (o * n) (G + 1) (summedL t.data.toList) (np (summedL t.data.toList).length) 0 S = R1 := ⟨_, rfl⟩
  rw [hW] at KW hr ok1
  dsimp only at KW hr ok1
  have HOK1 := Aside0.mk ok1
  have HRR := Aside0.mk hr
  clear hW wt ok1 hr HR
  rw [Int.natCast_mul, show ((G + 1 : Nat) : Int) = (G : Int) + 1 by omega] at KW
  have hom : (o : Int) * (n : Int) ≤ 900 := by
    have : ((o * n : Nat) : Int) ≤ 900 := by omega
    rwa [Int.natCast_mul] at this
  have hom0 : (0 : Int) ≤ (o : Int) * (n : Int) := Int.mul_nonneg (by omega) (by omega)
  have iV := infoV n sl fr room g nx st
  have oV := vaultV_one n sl fr room g nx st
  clear hb
  go_wp2_with (first | refine wpList_load_row rfl 74 _ rfl V.heap.size rfl 74 _ (0, 0) _ z3 Tryd.underlying74 rfl iV ?_ | refine wpList_store_row rfl 74 _ _ rfl V5.heap.size (vaultV n sl fr room g nx st) rfl rfl 74 _ z10z iV rfl oV ?_ | fail)
  refine KW.mono ?_
  rintro e V7 ⟨rfl, h7⟩
  have s7 : ∀ x ∈ X, x.1 ≠ V.heap.size + 1 := fun x hx => by have := HLT.out.1 x hx; omega
  have s8 : ∀ x ∈ X, x.1 ≠ V.heap.size := fun x hx => by have := HLT.out.1 x hx; omega
  have hw6 : w.heap.size ≤ V.heap.size + 1 := by have := HLT.out.2; omega
  have S7 := Aside0.mk (And.intro s7 (And.intro s8 hw6))
  have hrr := HRR.out
  have iV1 := infoV n sl fr room g nx true
  have oV1 := vaultV_one n sl fr room g nx true
  clear KW y3 y30 z10 z10z f36 c36 z3 z6 c30' c31 s7 s8 hw6 HRR H5 H6 iV oV
  by_cases hq : q1 = 0
  rotate_left
  · obtain rfl : R = (S1, vaultV n sl fr room g nx true, q1) := hrr.symm.trans (if_pos hq)
    have eq1 : (q1 != 0) = true := by simpa using hq
    have y10 := h7.at (b := V5.heap.size) List.mem_cons_self
    have y6 := h7.at (b := V.heap.size + 1) (List.mem_cons_of_mem _ List.mem_cons_self)
    have HZ := Aside0.mk (fin h7 (List.mem_cons_of_mem _ List.mem_cons_self) (fun x hx => List.mem_cons_of_mem _ (List.mem_cons_of_mem _ (List.mem_cons_of_mem _ hx))) S7.out.2.2 (vaultV n sl fr room g nx true) S7.out.1)
    clear hq hrr h7
    go_wp2_with (first | refine wpList_load_row rfl 74 _ rfl V5.heap.size rfl 74 _ (0, 0) _ y10 Tryd.underlying74 rfl iV1 ?_ | refine wpList_store_row rfl 74 _ _ rfl (V.heap.size + 1) (vaultV n sl fr room g nx true) rfl rfl 74 _ y6 iV1 rfl oV1 ?_ | fail)
    exact bodyPost_ret (Cel.end_cell rfl _ _ _ _ _ y6 rfl Tryd.underlying74 rfl (iV1)) rfl ⟨rfl, HZ.out⟩

  obtain rfl : q1 = 0 := hq
  rw [if_neg (fun x => x rfl)] at hrr
  have K8 := So.DY.dsync h7 HOK1.out.ok (by have := HOK1.out.arm; omega) (by have := HOK1.out.waits; omega) HOK1.out.ops0 (by have := HOK1.out.ops; omega)
  obtain ⟨⟨S2, q2⟩, hSY⟩ : ∃ R2, S1.sync = R2 := ⟨_, rfl⟩
  rw [hSY] at K8 hrr
  dsimp only at K8 hrr
  have K8' := Aside0.mk K8
  have HRR := Aside0.mk hrr
  clear hSY K8 h7 hrr
  go_wp2_with fail
  refine K8'.out.mono ?_
  rintro e V8 ⟨rfl, h8⟩
  have hrr := HRR.out
  clear K8' HRR
  by_cases hq : q2 = 0
  rotate_left
  · obtain rfl : R = (S2, vaultV n sl fr room g nx true, q2) := hrr.symm.trans (if_pos hq)
    have eq1 : (q2 != 0) = true := by simpa using hq
    have y10 := h8.at (b := V5.heap.size) List.mem_cons_self
    have y6 := h8.at (b := V.heap.size + 1) (List.mem_cons_of_mem _ List.mem_cons_self)
    have HZ := Aside0.mk (fin h8 (List.mem_cons_of_mem _ List.mem_cons_self) (fun x hx => List.mem_cons_of_mem _ (List.mem_cons_of_mem _ (List.mem_cons_of_mem _ hx))) S7.out.2.2 (vaultV n sl fr room g nx true) S7.out.1)
    clear hq hrr h8
    go_wp2_with (first | refine wpList_load_row rfl 74 _ rfl V5.heap.size rfl 74 _ (0, 0) _ y10 Tryd.underlying74 rfl iV1 ?_ | refine wpList_store_row rfl 74 _ _ rfl (V.heap.size + 1) (vaultV n sl fr room g nx true) rfl rfl 74 _ y6 iV1 rfl oV1 ?_ | fail)
    exact bodyPost_ret (Cel.end_cell rfl _ _ _ _ _ y6 rfl Tryd.underlying74 rfl (iV1)) rfl ⟨rfl, HZ.out⟩

  obtain rfl : q2 = 0 := hq
  obtain rfl : R = (S2, vaultV n o fr room (G + 1) 0 false, 0) := hrr.symm.trans (if_neg (fun x => x rfl))
  have hs := h8.sub (Y := (V.heap.size, .cells (vaultV n sl fr room g nx st) 74 (0, 0)) :: (V.heap.size + 1, .cells zVault 74 (0, 0)) :: X) (fun x hx => by simp only [List.mem_cons] at hx ⊢; rcases hx with h | h | h <;> simp [h])
  have hYY : ∀ x ∈ ((V.heap.size + 1, .cells zVault 74 (0, 0)) :: X : List (Nat × Obj)), x.1 ≠ V.heap.size := fun x hx => by
    rcases List.mem_cons.1 hx with rfl | hx
    · show V.heap.size + 1 ≠ V.heap.size; omega
    · exact S7.out.2.1 x hx
  have A0 := Aside0.mk (hs.at List.mem_cons_self)
  have k0 := hs.row HLT.out.2 (vaultV n o fr room g nx st) hYY
  obtain ⟨W1, hW1⟩ : ∃ W1, V8.setRow V.heap.size (vaultV n o fr room g nx st) = W1 := ⟨_, rfl⟩
  rw [hW1] at k0
  have A1 := Aside0.mk (And.intro hW1 (k0.at List.mem_cons_self))
  have k1 := k0.row HLT.out.2 (vaultV n o fr room g nx false) hYY
  obtain ⟨W2, hW2⟩ : ∃ W2, W1.setRow V.heap.size (vaultV n o fr room g nx false) = W2 := ⟨_, rfl⟩
  rw [hW2] at k1
  have A2 := Aside0.mk (And.intro hW2 (k1.at List.mem_cons_self))
  have k2 := k1.row HLT.out.2 (vaultV n o fr room (G + 1) nx false) hYY
  obtain ⟨W3, hW3⟩ : ∃ W3, W2.setRow V.heap.size (vaultV n o fr room (G + 1) nx false) = W3 := ⟨_, rfl⟩
  rw [hW3] at k2
  have A3 := Aside0.mk (And.intro hW3 (k2.at List.mem_cons_self))
  have k3 := k2.row HLT.out.2 (vaultV n o fr room (G + 1) 0 false) hYY
  obtain ⟨W4, hW4⟩ : ∃ W4, W3.setRow V.heap.size (vaultV n o fr room (G + 1) 0 false) = W4 := ⟨_, rfl⟩
  rw [hW4] at k3
  have A4 := Aside0.mk (And.intro hW4 (k3.at List.mem_cons_self))
  have y6 := k3.at (b := V.heap.size + 1) (List.mem_cons_of_mem _ List.mem_cons_self)
  have A6 := Aside0.mk y6
  have HZ := Aside0.mk (fin k3 (List.mem_cons_of_mem _ List.mem_cons_self) (fun x hx => List.mem_cons_of_mem _ (List.mem_cons_of_mem _ hx)) S7.out.2.2 (vaultV n o fr room (G + 1) 0 false) S7.out.1)
  have I2 := Aside0.mk (And.intro (infoV n o fr room (G + 1) 0 false) (vaultV_one n o fr room (G + 1) 0 false))
  have I3 := Aside0.mk (show (Tryd.prog.info? 3).map (·.size) = some 1 by kernel_rfl)
  have I4 := Aside0.mk (show (Tryd.prog.info? 4).map (·.size) = some 1 by kernel_rfl)
  have I29 := Aside0.mk (show (Tryd.prog.info? 29).map (·.size) = some 1 by kernel_rfl)
  have Q0 := Aside0.mk (show spl (vaultV n sl fr room g nx st) 1 [.int .i64 (o : Nat)] = vaultV n o fr room g nx st from rfl)
  have Q1 := Aside0.mk (show spl (vaultV n o fr room g nx st) 6 [.bool false] = vaultV n o fr room g nx false from rfl)
  have Q2 := Aside0.mk (show spl (vaultV n o fr room g nx false) 4 [.int .u64 ((G : Int) + 1)] = vaultV n o fr room (G + 1) nx false from rfl)
  have Q3 := Aside0.mk (show spl (vaultV n o fr room (G + 1) nx false) 5 [.int .i64 0] = vaultV n o fr room (G + 1) 0 false from rfl)
  clear hs hYY k0 k1 k2 k3 h8 hrr iV1 oV1 d1 d2 hom hom0 on2 hlt3 hne hne2 hnp hW1 hW2 hW3 hW4 y6
  go_wp2_with (first | refine store_cell rfl 3 _ _ rfl V.heap.size 1 (.int .i64 (o : Nat)) rfl rfl rfl rfl 74 _ A0.out I3.out (Nat.le_of_ble_eq_true rfl) _ Q0.out W1 A1.out.1 ?_ | refine store_cell rfl 4 _ _ rfl V.heap.size 6 (.bool false) rfl rfl rfl rfl 74 _ A1.out.2 I4.out (Nat.le_of_ble_eq_true rfl) _ Q1.out W2 A2.out.1 ?_ | refine store_cell rfl 29 _ _ rfl V.heap.size 4 (.int .u64 ((G : Int) + 1)) rfl rfl rfl rfl 74 _ A2.out.2 I29.out (Nat.le_of_ble_eq_true rfl) _ Q2.out W3 A3.out.1 ?_ | refine store_cell rfl 3 _ _ rfl V.heap.size 5 (.int .i64 0) rfl rfl rfl rfl 74 _ A3.out.2 I3.out (Nat.le_of_ble_eq_true rfl) _ Q3.out W4 A4.out.1 ?_ | refine wpList_load_row rfl 74 _ rfl V.heap.size rfl 74 _ (0, 0) _ A4.out.2 Tryd.underlying74 rfl I2.out.1 ?_ | refine wpList_store_row rfl 74 _ _ rfl (V.heap.size + 1) (vaultV n o fr room (G + 1) 0 false) rfl rfl 74 _ A6.out I2.out.1 rfl I2.out.2 ?_ | fail)
  exact bodyPost_ret (Cel.end_cell rfl _ _ _ _ _ A6.out rfl Tryd.underlying74 rfl I2.out.1) rfl ⟨rfl, HZ.out⟩
end Go.Proofs.YtknbhgodhmcemaaDoor.Va
namespace Go.Proofs.YtknbhgodhmcemaaDoor.Va
set_option linter.unusedSimpArgs false
set_option linter.unusedVariables false
set_option maxRecDepth 100000
open Go.RowKit Go.Shelf Go.Proofs.YtknbhgodhmcemaaDoor.Own Go.Proofs.YtknbhgodhmcemaaDoor.Cel Go.Proofs.YtknbhgodhmcemaaDoor.Dk Go.Proofs.YtknbhgodhmcemaaDoor.Seg
open Go.Proofs.YtknbhgodhmcemaaDoor.Lg (box_new logV zLog replay_calls repl)
open Go.Proofs.YtknbhgodhmcemaaDoor.So (readGo wholeS)
theorem whole_lt (l : List UInt8) {g : Nat} (h : g < 18446744073709551616) : (wholeS l g).2.1 < 18446744073709551616 := by
  unfold wholeS
  split
  · exact (by decide : 0 < 18446744073709551616)
  · split
    · exact h
    · exact (by decide : 0 < 18446744073709551616)
theorem readGo_lt (rd : List ByteArray) (fr : Nat) : ∀ (n i next gen : Nat) (out : List UInt8), gen < 18446744073709551616 → (readGo rd fr n i next gen out).2.1 < 18446744073709551616
  | 0, _, _, _, _, _ => (by decide : 0 < 18446744073709551616)
  | n + 1, i, next, gen, out, h => by
    have hg : (if i = 0 then (Sl.openS (rd.getD (fr + i) ByteArray.empty)).1.g else gen) < 18446744073709551616 := by
      split
      · exact (Sl.open_back _).2.1
      · exact h
    rw [readGo]
    generalize (if i = 0 then (Sl.openS (rd.getD (fr + i) ByteArray.empty)).1.g else gen) = gg at hg ⊢
    split
    · exact readGo_lt rd fr n _ _ _ _ h
    · split
      · exact (by decide : 0 < 18446744073709551616)
      · split
        · exact whole_lt _ hg
        · exact readGo_lt rd fr n _ _ _ _ hg
theorem newest_lt (rd : List ByteArray) (n : Nat) : (newestS rd n).2.1 < 18446744073709551616 := by
  unfold newestS
  split
  · exact readGo_lt rd _ _ _ _ _ _ (by decide)
  · split
    · exact readGo_lt rd _ _ _ _ _ _ (by decide)
    · exact (by decide : 0 < 18446744073709551616)
theorem results_cell_tmp3 {fn : Func} {q u u2 u3 : Tmp} {ty : TypeId} (h : fn.results = #[.cell q ty, .tmp u, .tmp u2, .tmp u3]) (tmps : Array Value) (P : Program) (w : World) :
    (results fn tmps).run P w =
      ((asAddr (tmps.getD q undef)).run P w).andThen fun a w₁ => ((loadVar ty a).run P w₁).andThen fun v w₂ => .ok (.tuple #[v, tmps.getD u undef, tmps.getD u2 undef, tmps.getD u3 undef]) w₂ := by
  simp only [results, h]
  simp [Sem.run_bind, Result.andThen]
theorem end_cell4 {P : Program} {fn : Func} {q u u2 u3 : Tmp} {ty : TypeId} {d : TypeDesc} (h : fn.results = #[.cell q ty, .tmp u, .tmp u2, .tmp u3]) (tmps : Array Value) (U : World) (b : Nat) (cells old : Array Value) (hZ : U.heap[b]? = some (.cells old ty (0, 0)))
    (hp : tmps.getD q undef = .pointer (some ⟨b, 0, none⟩)) (hu : P.underlying ty = some d) (hd : (match d with | .struct _ | .array _ _ => true | _ => false) = true) (hi : (P.info? ty).map (·.size) = some cells.size) :
    (results fn tmps).run P (U.setRow b cells) = .ok (.tuple #[.agg cells, tmps.getD u undef, tmps.getD u2 undef, tmps.getD u3 undef]) (U.setRow b cells) := by
  have hR := setRow_heap U b old cells ty (0, 0) hZ
  rw [results_cell_tmp3 h, hp]
  simp [asAddr, run_loadVar_row _ _ ty ty _ (0, 0) _ hR hu hd hi]
theorem oneZ : zVault.all (·.oneCell') = true := by simp [Value.oneCell']
variable {B p : Nat} {S : DS} {F : Nat → Prop} {W V V' : World}
def OP (B p : Nat) (S : DS) (F : Nat → Prop) (W V : World) : Prop := DK B p S F V ∧ Below W.heap.size W V ∧ V.heap[W.heap.size]? = some (.cells zVault 74 (0, 0))
theorem OP.step (h : OP B p S F W V) (hb : Below V.heap.size V V') : OP B p S F W V' := ⟨h.1.below hb, h.2.1.trans (hb.mono h.2.1.size), Own.keep h.2.2 hb⟩
theorem OP.done (h : OP B p S F W V) (cs : Array Value) : Below W.heap.size W (V.setRow W.heap.size cs) := below_setRow h.2.1 (g := W.heap.size) (Nat.le_refl _) cs
theorem OP.start (h : DK B p S F W) : OP B p S F W (W.alloc (.cells zVault 74)) :=
  ⟨h.below ((Below.refl _ _).alloc (Nat.le_refl _) _), (Below.refl _ _).alloc (Nat.le_refl _) _, heap_alloc_new W _⟩
theorem infoZ : (Tryd.prog.info? 74).map (·.size) = some zVault.size := by
  show _ = some 7
  kernel_rfl
set_option maxHeartbeats 4000000 in
theorem vopen_calls (h : DK B p S F W) (n : Nat) (hn : 1 ≤ n) (hl : 2 * n < S.lasts.length) (hN : S.lasts.length ≤ 900) (hsz : ∀ j, (S.read.getD j ByteArray.empty).size ≤ 1000) :
    Calls Tryd.prog 35 #[.pointer (some ⟨p, 0, none⟩), .int .i64 (n : Nat)] W fun e W' =>
      ∃ u, e = .returned (.tuple #[.agg (opnS S n).1, .string (opnS S n).2.1, u, .int .i64 (opnS S n).2.2.2]) ∧ W'.ownsRow W.heap.size 9 1 u (opnS S n).2.2.1.length (strs (opnS S n).2.2.1) ∧ Below W.heap.size W W' := by
  have H := Aside0.mk (OP.start h)
  have hlt := newest_lt S.read n
  obtain ⟨R, hR⟩ : ∃ R, opnS S n = R := ⟨_, rfl⟩
  rw [hR]
  have KM := Aside0.mk (fun V (hv : OP B p S F W V) => may_calls hv.1 n hn hl (by omega))
  have KN := Aside0.mk (fun V (hv : OP B p S F W V) => newest_calls hv.1 n hn hl hN hsz)
  have KS := Aside0.mk (fun V (hv : OP B p S F W V) (g : Nat) (b : Bool) => sound_calls hv.1 n g b (by omega) hN hsz)
  have KZ := Aside0.mk (fun V (hv : OP B p S F W V) => size_calls hv.1)
  have KR := Aside0.mk (fun V (hv : OP B p S F W V) (g : Nat) (hg : g < 18446744073709551616) => replay_calls hv.1 (2 * n) (S.lasts.length - 2 * n) g (by omega) (by omega) (by omega) hg hsz)
  unfold opnS at hR
  obtain ⟨⟨k, g, t, ok⟩, hnw⟩ : ∃ R, newestS S.read n = R := ⟨_, rfl⟩
  rw [hnw] at KN hR hlt
  dsimp only at KN hR hlt
  obtain ⟨N, hNN⟩ : ∃ N, S.lasts.length = N := ⟨_, rfl⟩
  rw [hNN] at hR KS KZ KR hl hN
  obtain ⟨q, hq⟩ : ∃ q, soundS S.read n g ok N = q := ⟨_, rfl⟩
  rw [hq] at hR
  have KS2 := Aside0.mk (fun V hv => KS.out V hv g ok)
  rw [hq] at KS2
  have KR2 := Aside0.mk (fun V hv => KR.out V hv g hlt)
  obtain ⟨rs, hrs⟩ : ∃ rs, repl S.read (2 * n) g (N - 2 * n) 0 = rs := ⟨_, rfl⟩
  rw [hrs] at hR KR2
  rw [show ((2 * n : Nat) : Int) = 2 * (n : Int) by omega, show ((N - 2 * n : Nat) : Int) = (N : Int) - 2 * (n : Int) by omega] at KR2
  have HR := Aside0.mk hR
  have n1 : (n : Int) ≤ 900 := by omega
  have n0 : (0 : Int) ≤ (n : Int) := by omega
  have n2 : 2 * (n : Int) ≤ (N : Int) := by omega
  have n3 : (N : Int) ≤ 900 := by omega
  clear h hnw hNN hq hrs KS KR hR hsz hn hl hN hlt
  go_enter Tryd.func35, Tryd.ntmps35
  go_wp2_with fail
  refine (KM.out _ H.out).mono ?_
  rintro e w1 ⟨rfl, rfl⟩
  clear KM
  go_wp2_with fail
  refine (KN.out _ H.out).mono ?_
  rintro e V ⟨rfl, hb⟩
  replace H := Aside0.mk (H.out.step hb)
  clear KN hb
  go_wp2_with fail
  refine (KS2.out _ H.out).mono ?_
  rintro e V ⟨rfl, hb⟩
  replace H := Aside0.mk (H.out.step hb)
  clear KS2 hb
  have hR := HR.out
  clear HR
  have z4 := H.out.2.2
  have iZ := infoZ
  have oZ := oneZ
  by_cases hq : q = 0
  rotate_left
  · have e1 : (q != 0) = true := by simpa using hq
    obtain rfl : R = (zVault, ⟨#[]⟩, [], q) := hR.symm.trans (if_pos hq)
    clear hR hq
    go_wp2_with (first | refine wpList_store_row rfl 74 _ _ rfl W.heap.size zVault rfl rfl 74 _ z4 iZ rfl oZ ?_ | fail)
    refine bodyPost_ret (end_cell4 rfl _ _ _ zVault _ z4 rfl Tryd.underlying74 rfl iZ) rfl ?_
    exact ⟨_, rfl, ⟨by simp [strs], .inl ⟨rfl, rfl⟩⟩, H.out.done _⟩
  subst hq
  have e1 : ((0 : Int) != 0) = false := rfl
  rw [if_neg (fun x => x rfl)] at hR
  subst hR
  go_wp2_with fail
  refine (KZ.out _ H.out).mono ?_
  rintro e w1 ⟨rfl, rfl⟩
  clear KZ z4
  go_wp2_with fail
  have hsz4 : W.heap.size < V.heap.size := (Array.getElem?_eq_some_iff.1 H.out.2.2).1
  refine (KR2.out _ H.out).mono ?_
  rintro e V2 ⟨u, rfl, hrow, hb⟩
  replace H := Aside0.mk (H.out.step hb)
  clear hb KR2
  obtain ⟨m, hm⟩ : ∃ m, rs.length = m := ⟨_, rfl⟩
  have HM := Aside0.mk hm
  rw [hm] at hrow ⊢
  clear hm
  generalize hfr : 2 * n = fr at *
  have HFR := Aside0.mk hfr
  clear hfr
  generalize hrm : N - fr = rm at *
  have HRM := Aside0.mk hrm
  clear hrm
  obtain ⟨hb, z13, z13z⟩ := box_new (V := V2) zLog (logV fr rm g m) 31
  replace H := Aside0.mk (H.out.step hb)
  have z4 := H.out.2.2
  have iL := Lg.infoLV fr rm g m
  have oL := Lg.logV_one fr rm g m
  have z13' : ((V2.alloc (.cells zLog 31)).setRow V2.heap.size (logV fr rm g m)).heap[V2.heap.size]? = some (.cells #[.int .i64 (fr : Nat), .int .i64 (rm : Nat), .int .u64 (g : Nat), .int .i64 (m : Nat)] 31 (0, 0)) := z13
  have iL' : (Tryd.prog.info? 31).map (·.size) = some (#[.int .i64 (fr : Nat), .int .i64 (rm : Nat), .int .u64 (g : Nat), .int .i64 (m : Nat)] : Array Value).size := iL
  have iV := infoV n k fr rm g m true
  have oV := vaultV_one n k fr rm g m true
  have HF := Aside0.mk (show ((V2.alloc (.cells zLog 31)).setRow V2.heap.size (logV fr rm g m)).setRow W.heap.size (vaultV n k fr rm g m true) |>.ownsRow W.heap.size 9 1 u m (strs rs) from
    owns_mono (owns_block (owns_keep hrow hb) (fun q e => setRow_other _ W.heap.size q _ (fun e2 => by have := (hrow.lt q e).1; omega))) (Nat.le_of_lt hsz4))
  clear hb hrow
  go_wp2_with (first | refine wpList_store_row rfl 31 _ _ rfl V2.heap.size (logV fr rm g m) rfl rfl 31 _ z13z iL rfl oL ?_ | refine wpList_load_row rfl 31 _ rfl V2.heap.size rfl 31 _ (0, 0) _ z13' Tryd.underlying31 rfl iL' ?_ | refine wpList_store_row rfl 74 _ _ rfl W.heap.size (vaultV n k fr rm g m true) rfl rfl 74 _ z4 iV rfl oV ?_ | fail)
  refine bodyPost_ret (end_cell4 rfl _ _ _ (vaultV n k fr rm g m true) _ z4 rfl Tryd.underlying74 rfl iV) rfl ?_
  have hm := HM.out
  subst hm
  have hm := HRM.out
  subst hm
  have hm := HFR.out
  subst hm
  exact ⟨_, rfl, HF.out, H.out.done _⟩
end Go.Proofs.YtknbhgodhmcemaaDoor.Va
namespace Go.Proofs.YtknbhgodhmcemaaDoor.Va
set_option linter.unusedSimpArgs false
set_option linter.unusedVariables false
set_option maxRecDepth 100000
open Go.RowKit Go.Shelf Go.Proofs.YtknbhgodhmcemaaDoor.Own Go.Proofs.YtknbhgodhmcemaaDoor.Cel Go.Proofs.YtknbhgodhmcemaaDoor.Dk Go.Proofs.YtknbhgodhmcemaaDoor.Seg
open Go.Proofs.YtknbhgodhmcemaaDoor.Lg (DY DY.start Full box_new getD_size appS sa sb sec sec_open sec_rec dead_rec repl RowS)
open Go.Proofs.YtknbhgodhmcemaaDoor.So (readS np np_size psec psec_open summedL readS_whole blank_open)
variable {w V : World} {p : Nat} {S : DS} {X : List (Nat × Obj)} {v : Value} {xs : List ByteArray}
theorem DY.vopen (h : DY w p S X v xs V) (n : Nat) (hn : 1 ≤ n) (hl : 2 * n < S.lasts.length) (hN : S.lasts.length ≤ 900) (hF : Full S) :
    Calls Tryd.prog 35 #[.pointer (some ⟨p, 0, none⟩), .int .i64 (n : Nat)] V fun e V' =>
      ∃ u, e = .returned (.tuple #[.agg (opnS S n).1, .string (opnS S n).2.1, u, .int .i64 (opnS S n).2.2.2]) ∧ V'.ownsRow V.heap.size 9 1 u (opnS S n).2.2.1.length (strs (opnS S n).2.2.1) ∧ Below V.heap.size V V' := by
  obtain ⟨F, d⟩ := h.dk
  exact vopen_calls d n hn hl hN (getD_size _ 1000 (fun s hs => by rw [hF.read s hs]; omega))
theorem append_stuck (n sl fr room g nx : Nat) (q : Value) (d : ByteArray) (V : World) :
    Calls Tryd.prog 36 #[.agg (vaultV n sl fr room g nx true), q, .string d] V fun e V' => e = .returned (.tuple #[.agg (vaultV n sl fr room g nx true), .int .i64 15]) ∧ Below V.heap.size V V' := by
  have z3 : ((V.alloc (.cells (vaultV n sl fr room g nx true) 74)).alloc (.cells zVault 74)).heap[V.heap.size]? = some (.cells (vaultV n sl fr room g nx true) 74 (0, 0)) :=
    Own.keep (heap_alloc_new V _) ((Below.refl _ _).alloc (Nat.le_refl _) _)
  have z6 : ((V.alloc (.cells (vaultV n sl fr room g nx true) 74)).alloc (.cells zVault 74)).heap[V.heap.size + 1]? = some (.cells zVault 74 (0, 0)) := by
    have z := heap_alloc_new (V.alloc (.cells (vaultV n sl fr room g nx true) 74)) (.cells zVault 74)
    simpa using z
  have c36 : ((V.alloc (.cells (vaultV n sl fr room g nx true) 74)).alloc (.cells zVault 74)).cell? ⟨V.heap.size, 6, none⟩ = some (.bool true) := cell_of_row _ _ 6 _ _ _ z3
  have HB := Aside0.mk (below_setRow (((Below.refl V.heap.size V).alloc (Nat.le_refl _) (.cells (vaultV n sl fr room g nx true) 74)).alloc (by simp) (.cells zVault 74)) (g := V.heap.size + 1) (by omega) (vaultV n sl fr room g nx true))
  have iV := infoV n sl fr room g nx true
  have oV := vaultV_one n sl fr room g nx true
  go_enter Tryd.func36, Tryd.ntmps36
  go_wp2_with (first | refine wpList_load_row rfl 74 _ rfl V.heap.size rfl 74 _ (0, 0) _ z3 Tryd.underlying74 rfl iV ?_ | refine wpList_store_row rfl 74 _ _ rfl (V.heap.size + 1) (vaultV n sl fr room g nx true) rfl rfl 74 _ z6 iV rfl oV ?_ | fail)
  exact bodyPost_ret (Cel.end_cell rfl _ _ _ _ _ z6 rfl Tryd.underlying74 rfl iV) rfl ⟨rfl, HB.out⟩
theorem crash_read {S : DS} (h : S.waits = []) (kp : Nat → Bool) : (S.crash kp).read = S.read ∧ (S.crash kp).lasts = S.lasts := by
  have e : (S.crash kp).lasts = S.lasts := by show applyW S.lasts (keptW kp 0 S.waits) = _; rw [h]; rfl
  refine ⟨?_, e⟩
  show applyW (S.crash kp).lasts [] = applyW S.lasts S.waits
  rw [e, h]
theorem aw_plain {S2 : DS} (m : Made ⟨List.replicate 4 (sect 0), [], 0, 0⟩ S2 4 (10 + 1 + np (summedL sa.data.toList).length) 1 0 sa) : opnS S2 1 = (vaultV 1 0 2 2 1 0 true, sa, [], 0) ∧ genS S2 1 = 1 ∧
    ∃ S3 S4, setS S2 1 0 2 2 1 0 true sa = (S3, vaultV 1 1 2 2 2 0 false, 0) ∧ So.Calm S3 4 10 ∧ appS S3 2 2 2 0 sb = (S4, 1, 0) ∧ So.Calm S4 4 8 ∧ S4.waits = [] ∧ ∀ kp, opnS (S4.crash kp) 1 = (vaultV 1 1 2 2 2 1 true, sa, [sb], 0) := by
  have hnp : np (summedL sa.data.toList).length = 1 := np_size sa
  obtain ⟨hall, _, ho⟩ := made_open (n := 1) m (by decide) (by decide) (by decide) (by decide)
  obtain ⟨hgs, S3, e3, c3, w3, t3, o3, _⟩ := made_settle (n := 1) (t' := sa) m (by decide) (by decide) (by decide) (by decide) (by decide)
  obtain ⟨S4, e4, c4, w4, r4⟩ := app_calm (k := 8) (fr := 2) (room := 2) (nx := 0) (g := 2) (d := sb) c3 (by decide) (by decide) (by decide)
  refine ⟨ho, hgs, S3, S4, e3, c3, e4, c4, w4, fun kp => ?_⟩
  rw [hnp] at hall t3 o3
  obtain ⟨rr, rl⟩ := crash_read w4 kp
  have q0 : S4.read.getD 0 ByteArray.empty = psec 1 (summedL sa.data.toList) 0 := by
    rw [r4 0, if_neg (by decide), o3 0 (by omega)]
    exact (hall 0 (by decide)).elim (fun x => by have := x.2; omega) (·.2)
  have q1 : S4.read.getD 1 ByteArray.empty = psec 2 (summedL sa.data.toList) 0 := by
    rw [r4 1, if_neg (by decide)]
    exact t3 0 (by decide)
  have q2 : S4.read.getD 2 ByteArray.empty = sec 2 0 sb := by rw [r4 2, if_pos rfl]
  have q3 : S4.read.getD 3 ByteArray.empty = sect 0 := by
    rw [r4 3, if_neg (by decide), o3 3 (by omega)]
    exact (hall 3 (by decide)).elim (·.1) (fun x => by have := x.1; omega)
  have h0 : readS S4.read (0 * 1) 1 = (sa, 1, true) := readS_whole S4.read (0 * 1) 1 1 sa.data.toList (by decide) (by omega) (by omega) (fun j hj => by
    obtain rfl : j = 0 := by omega
    exact q0)
  have h1 : readS S4.read (1 * 1) 1 = (sa, 2, true) := readS_whole S4.read (1 * 1) 1 2 sa.data.toList (by decide) (by omega) (by omega) (fun j hj => by
    obtain rfl : j = 0 := by omega
    exact q1)
  have hnw : newestS S4.read 1 = (1, 2, sa, true) := newest_snd h1 (fun _ => by rw [h0]; decide)
  have hs : soundS S4.read 1 2 true 4 = 0 := sound_ok ⟨0, by decide, by rw [q0, psec_open 1 _ 0 (by decide) (by decide)]⟩ (fun i hi => by
    rcases (show i = 0 ∨ i = 1 ∨ i = 2 ∨ i = 3 by omega) with rfl | rfl | rfl | rfl
    · rw [q0, psec_open 1 _ 0 (by decide) (by decide)]; exact ⟨.inl rfl, fun x => absurd x (by decide)⟩
    · rw [q1, psec_open 2 _ 0 (by decide) (by decide)]; exact ⟨.inl rfl, fun x => absurd x (by decide)⟩
    · rw [q2, sec_open 2 0 sb (by decide) (by decide) (by decide)]; exact ⟨.inl rfl, fun _ _ => Nat.le_refl _⟩
    · rw [q3]; exact ⟨.inr blank_16, fun _ x => absurd x blank_open⟩)
  have hr : repl S4.read 2 2 2 0 = [sb] := by
    have q2' : S4.read.getD (2 + 0) ByteArray.empty = sec 2 0 sb := q2
    have q3' : S4.read.getD (2 + (0 + 1)) ByteArray.empty = sect 0 := q3
    rw [repl, q2', sec_rec 2 0 sb (by decide) (by decide) (by decide), if_pos rfl, sec_open 2 0 sb (by decide) (by decide) (by decide), repl, q3', dead_rec (Lg.dead_blank 2)]; rfl
  unfold opnS
  rw [rr, rl, c4.ok.len, hnw]
  dsimp only
  rw [hs, if_neg (fun x => x rfl), show 2 * 1 = 2 from rfl, show 4 - 2 = 2 from rfl, hr]
  rfl
set_option maxHeartbeats 8000000 in
theorem awake16_calls (w : World) : Calls Tryd.prog 33 #[] w fun e w' => e = .returned (.bool true) ∧ Below w.heap.size w w' := by
  have KN := Aside0.mk (new_good 4 w (by omega) (by omega))
  rw [show ((4 : Nat) : Int) = 4 by rfl] at KN
  have hnp : np (summedL sa.data.toList).length = 1 := np_size sa
  have HNP := Aside0.mk hnp
  clear hnp
  go_enter Tryd.func33, Tryd.ntmps33
  go_wp2_with fail
  refine KN.out.mono ?_
  rintro x w1 ⟨p, F, rfl, d, b⟩
  have H := Aside0.mk (show DY w p ⟨List.replicate 4 (sect 0), [], 0, 0⟩ [] (.slice none 0 0) [] w1 from DY.start d b)
  clear d b KN
  obtain ⟨S2, m, KF⟩ := format_calls (k := 10 + 1 + np (summedL sa.data.toList).length) H.out 1 sa (So.Calm.fresh 4 _ (by rw [HNP.out]; decide)) (by decide) (by decide) (by decide) (by decide) (fun i hi => by rw [fresh_get 4 i hi]; exact look_blank)
  obtain ⟨ho, hgs, S3, S4, e3, c3, e4, c4, w4, h5⟩ := aw_plain m
  have HKF := Aside0.mk KF
  have HM := Aside0.mk m.calm
  have HO := Aside0.mk ho
  have H3 := Aside0.mk (And.intro e3 c3)
  have H4 := Aside0.mk (And.intro e4 c4)
  have H5 := Aside0.mk h5
  have HGS := Aside0.mk hgs
  clear KF m ho e3 c3 e4 c4 w4 h5 H hgs
  go_wp2_with fail
  refine HKF.out.mono ?_
  rintro x w2 ⟨rfl, h⟩
  have H := Aside0.mk h
  clear h HKF
  have KO := DY.vopen H.out 1 (by decide) (by rw [HM.out.ok.len]; decide) (by rw [HM.out.ok.len]; decide) HM.out.full
  rw [HO.out] at KO
  dsimp only at KO
  have HKO := Aside0.mk KO
  clear KO HO
  go_wp2_with fail
  refine HKO.out.mono ?_
  rintro x V1 ⟨u1, rfl, _, hb⟩
  replace H := Aside0.mk (H.out.step hb)
  clear hb HKO
  obtain ⟨hb, z3, z3z⟩ := box_new (V := V1) zVault (vaultV 1 0 2 2 1 0 true) 74
  have HB := Aside0.mk (H.out.add hb (Nat.le_refl _) z3)
  have HB3 := Aside0.mk (show w.heap.size ≤ V1.heap.size from H.out.bel.size)
  clear hb H
  have i0 := infoV 1 0 2 2 1 0 true
  have q0 := vaultV_one 1 0 2 2 1 0 true
  go_wp2_with (first | refine wpList_store_row rfl 74 _ _ rfl V1.heap.size (vaultV 1 0 2 2 1 0 true) rfl rfl 74 _ z3z i0 rfl q0 ?_ | refine wpList_load_row rfl 74 _ rfl V1.heap.size rfl 74 _ (0, 0) _ z3 Tryd.underlying74 rfl i0 ?_ | fail)
  change Calls _ _ _ ((V1.alloc (.cells zVault 74)).setRow V1.heap.size (vaultV 1 0 2 2 1 0 true)) _
  clear z3 z3z
  generalize (V1.alloc (.cells zVault 74)).setRow V1.heap.size (vaultV 1 0 2 2 1 0 true) = V2 at HB ⊢
  generalize V1.heap.size = b3 at HB HB3 ⊢
  refine (append_stuck 1 0 2 2 1 0 _ ⟨#[98]⟩ V2).mono ?_
  rintro x V3 ⟨rfl, hb⟩
  replace HB := Aside0.mk (HB.out.step hb)
  clear hb
  obtain ⟨hb, z7, z7z⟩ := box_new (V := V3) zVault (vaultV 1 0 2 2 1 0 true) 74
  replace HB := Aside0.mk (HB.out.step hb)
  clear hb z7
  have z3 := HB.out.at List.mem_cons_self
  have KS := Aside0.mk (settle_calls (k := 10) HB.out 1 0 2 2 1 0 true sa HM.out.ok HM.out.full (by decide) (by decide) (by decide) (by decide) (by decide) (by rw [HGS.out]; decide))
  rw [H3.out.1] at KS
  dsimp only at KS
  go_wp2_with (first | refine wpList_store_row rfl 74 _ _ rfl V3.heap.size (vaultV 1 0 2 2 1 0 true) rfl rfl 74 _ z7z i0 rfl q0 ?_ | refine wpList_load_row rfl 74 _ rfl b3 rfl 74 _ (0, 0) _ z3 Tryd.underlying74 rfl i0 ?_ | fail)
  refine KS.out.mono ?_
  rintro x V4 ⟨rfl, h⟩
  clear KS z3 z7z
  have z3 := h.at List.mem_cons_self
  have h2 := h.row HB3.out (vaultV 1 1 2 2 2 0 false) (fun x hx => absurd hx (by simp))
  replace HB := Aside0.mk h2
  have z4 := h2.at List.mem_cons_self
  have i1 := infoV 1 1 2 2 2 0 false
  have q1 := vaultV_one 1 1 2 2 2 0 false
  have KA := Aside0.mk (append_calls h2 1 1 2 2 2 0 sb (by decide) (by rw [H3.out.2.ok.len]; decide) (by rw [H3.out.2.ok.len]; decide) (by decide) (by decide) H3.out.2.ok.ok (by have := H3.out.2.ok.arm; omega) (by have := H3.out.2.ok.waits; omega) H3.out.2.ok.ops0 (by have := H3.out.2.ok.ops; omega))
  rw [H4.out.1] at KA
  dsimp only at KA
  clear h h2
  go_wp2_with (first | refine wpList_store_row rfl 74 _ _ rfl b3 (vaultV 1 1 2 2 2 0 false) rfl rfl 74 _ z3 i1 rfl q1 ?_ | refine wpList_load_row rfl 74 _ rfl b3 rfl 74 _ (0, 0) _ z4 Tryd.underlying74 rfl i1 ?_ | fail)
  refine KA.out.mono ?_
  rintro x V5 ⟨rfl, h⟩
  clear KA z3 z4 HB
  obtain ⟨hb, z7, z7z⟩ := box_new (V := V5) zVault (vaultV 1 1 2 2 2 1 false) 74
  have H := Aside0.mk ((h.step hb).sub (Y := []) (fun x hx => absurd hx (by simp)))
  clear hb z7 h
  have i2 := infoV 1 1 2 2 2 1 false
  have q2 := vaultV_one 1 1 2 2 2 1 false
  have KC := Aside0.mk (H.out.crash H4.out.2.ok.ok (by have := H4.out.2.ok.waits; omega) none 0 [] (fun i hi => absurd hi (by simp)) (by decide))
  go_wp2_with (first | refine wpList_store_row rfl 74 _ _ rfl V5.heap.size (vaultV 1 1 2 2 2 1 false) rfl rfl 74 _ z7z i2 rfl q2 ?_ | fail)
  refine KC.out.mono ?_
  rintro x V6 ⟨rfl, h⟩
  replace H := Aside0.mk h
  clear KC z7z h
  have KO := DY.vopen H.out 1 (by decide) (by rw [Lg.crash_len, H4.out.2.ok.len]; decide) (by rw [Lg.crash_len, H4.out.2.ok.len]; decide) (H4.out.2.full.crash _)
  rw [H5.out] at KO
  dsimp only at KO
  have HKO := Aside0.mk KO
  clear KO
  go_wp2_with fail
  refine HKO.out.mono ?_
  rintro x V7 ⟨u7, rfl, hrow, hb⟩
  replace H := Aside0.mk (H.out.step hb)
  clear hb HKO
  obtain ⟨A7, c7, rfl⟩ := owns_slice hrow
  have HX := Aside0.mk (RowS.owns hrow rfl)
  clear hrow
  obtain ⟨hb, z7, z7z⟩ := box_new (V := V7) zVault (vaultV 1 1 2 2 2 1 true) 74
  replace H := Aside0.mk (H.out.step hb)
  replace HX := Aside0.mk (HX.out.below hb)
  have i3 := infoV 1 1 2 2 2 1 true
  have q3 := vaultV_one 1 1 2 2 2 1 true
  clear hb z7
  go_wp2_with (first | refine wpList_store_row rfl 74 _ _ rfl V7.heap.size (vaultV 1 1 2 2 2 1 true) rfl rfl 74 _ z7z i3 rfl q3 ?_ | fail)
  change Calls _ _ _ ((V7.alloc (.cells zVault 74)).setRow V7.heap.size (vaultV 1 1 2 2 2 1 true)) _
  clear z7z
  generalize (V7.alloc (.cells zVault 74)).setRow V7.heap.size (vaultV 1 1 2 2 2 1 true) = V8 at H HX ⊢
  refine (Lg.awake14_calls _).mono ?_
  rintro x V9 ⟨rfl, hb⟩
  replace H := Aside0.mk (H.out.step hb)
  replace HX := Aside0.mk (HX.out.below hb)
  clear hb
  go_wp2_with fail
  refine (So.awake15_calls _).mono ?_
  rintro x V10 ⟨rfl, hb⟩
  replace H := Aside0.mk (H.out.step hb)
  replace HX := Aside0.mk (HX.out.below hb)
  clear hb
  obtain ⟨g1, o1, rfl, k0⟩ := HX.out 0 (by decide)
  have k0' : V10.cell? ⟨g1, o1, none⟩ = some (.string ⟨#[98]⟩) := k0
  clear k0 HX
  have hsa : sa.toList = [97] := by rw [ByteArray.toList_eq]; rfl
  go_wp2
  go_ret
  exact ⟨by first | rfl | decide, H.out.bel⟩
end Go.Proofs.YtknbhgodhmcemaaDoor.Va
namespace Go.Proofs.YtknbhgodhmcemaaDoor.Va
set_option linter.unusedSimpArgs false
set_option linter.unusedVariables false
set_option maxRecDepth 100000
open Go.Proofs.YtknbhgodhmcemaaDoor.Dk
open Go.Proofs.YtknbhgodhmcemaaDoor.Sl (openS)
open Go.Proofs.YtknbhgodhmcemaaDoor.Lg (Full dead dead_rec repl LK crash_len)
open Go.Proofs.YtknbhgodhmcemaaDoor.So (readS readGo readGo_gap badR wholeS newS newGo newest_ge psec psec_open psec_size pk np np_size summedL readS_whole readS_mixed ws ws_mem applyW_ws applyW_get)
def two (a b : ByteArray) : ByteArray × Nat × Bool :=
  if (openS a).2 ≠ 0 ∨ badR 0 0 (openS a).1.g (openS a).1 = true then (⟨#[]⟩, 0, false)
  else if (openS a).1.k = 3 then wholeS ([] ++ (openS a).1.d.data.toList) (openS a).1.g
  else if (openS b).2 ≠ 0 ∨ badR 1 1 (openS a).1.g (openS b).1 = true then (⟨#[]⟩, 0, false)
  else if (openS b).1.k = 3 then wholeS ([] ++ (openS a).1.d.data.toList ++ (openS b).1.d.data.toList) (openS a).1.g else (⟨#[]⟩, 0, false)
theorem readS_two (rd : List ByteArray) (fr : Nat) : readS rd fr 2 = two (rd.getD (fr + 0) ByteArray.empty) (rd.getD (fr + 1) ByteArray.empty) := by
  obtain ⟨a, ha⟩ : ∃ a, rd.getD (fr + 0) ByteArray.empty = a := ⟨_, rfl⟩
  obtain ⟨b, hb⟩ : ∃ b, rd.getD (fr + 1) ByteArray.empty = b := ⟨_, rfl⟩
  unfold readS two
  rw [ha, hb, show (2 : Nat) = 1 + 1 from rfl, readGo, ha]
  by_cases h0 : (openS a).2 ≠ 0
  · rw [if_pos h0, if_pos (.inl h0)]
    exact readGo_gap rd fr 1 (0 + 1) 0 0 [] (by omega)
  rw [if_neg h0, if_pos rfl]
  by_cases h1 : badR 0 0 (openS a).1.g (openS a).1 = true
  · rw [if_pos h1, if_pos (.inr h1)]
  have c1 : ¬ ((openS a).2 ≠ 0 ∨ badR 0 0 (openS a).1.g (openS a).1 = true) := fun x => x.elim h0 h1
  rw [if_neg c1, if_neg h1]
  by_cases h2 : (openS a).1.k = 3
  · rw [if_pos h2, if_pos h2]
  rw [if_neg h2, if_neg h2, show (1 : Nat) = 0 + 1 from rfl, readGo, show fr + (0 + (0 + 1)) = fr + 1 from rfl, hb]
  by_cases h3 : (openS b).2 ≠ 0
  · rw [if_pos h3, if_pos (.inl h3)]; rfl
  have eg : (if (0 + (0 + 1) : Nat) = 0 then (openS b).1.g else (openS a).1.g) = (openS a).1.g := if_neg (by decide)
  rw [if_neg h3, eg]
  by_cases h4 : badR (0 + (0 + 1)) (0 + (0 + 1)) (openS a).1.g (openS b).1 = true
  · rw [if_pos h4, if_pos (.inr h4)]
  have c2 : ¬ ((openS b).2 ≠ 0 ∨ badR 1 1 (openS a).1.g (openS b).1 = true) := fun x => x.elim h3 h4
  rw [if_neg c2, if_neg h4]
  by_cases h5 : (openS b).1.k = 3
  · rw [if_pos h5, if_pos h5]
  · rw [if_neg h5, if_neg h5]; rfl
theorem whole_gen {l : List UInt8} {g : Nat} (h : (wholeS l g).2.2 = true) : (wholeS l g).2.1 = g := by
  unfold wholeS at h ⊢
  split
  · rename_i c; rw [if_pos c] at h; cases h
  · rename_i c
    rw [if_neg c] at h
    split
    · rfl
    · rename_i c2; rw [if_neg c2] at h; cases h
theorem bad_gen {i n g : Nat} {r : Sl.Rec} (h : ¬ badR i n g r = true) : r.g = g := by
  unfold badR at h
  by_cases e : r.g = g
  · exact e
  · exact absurd (decide_eq_true (.inr (.inl e))) h
theorem two_whole {a b : ByteArray} (h : (two a b).2.2 = true) : (openS a).2 = 0 ∧ (two a b).2.1 = (openS a).1.g ∧
    (((openS a).1.k = 3 ∧ ∀ b', two a b' = two a b) ∨ ((openS a).1.k ≠ 3 ∧ (openS b).2 = 0 ∧ (openS b).1.g = (openS a).1.g)) := by
  unfold two at h
  by_cases c : (openS a).2 ≠ 0 ∨ badR 0 0 (openS a).1.g (openS a).1 = true
  · rw [if_pos c] at h; cases h
  rw [if_neg c] at h
  have c0 : (openS a).2 = 0 := Decidable.not_not.1 (fun x => c (.inl x))
  by_cases k3 : (openS a).1.k = 3
  · rw [if_pos k3] at h
    refine ⟨c0, ?_, .inl ⟨k3, fun b' => ?_⟩⟩
    · unfold two; rw [if_neg c, if_pos k3]; exact whole_gen h
    · unfold two; rw [if_neg c, if_neg c, if_pos k3, if_pos k3]
  rw [if_neg k3] at h
  by_cases c2 : (openS b).2 ≠ 0 ∨ badR 1 1 (openS a).1.g (openS b).1 = true
  · rw [if_pos c2] at h; cases h
  rw [if_neg c2] at h
  have e0 : (openS b).2 = 0 := Decidable.not_not.1 (fun x => c2 (.inl x))
  have e1 := bad_gen (fun x => c2 (.inr x))
  by_cases k4 : (openS b).1.k = 3
  · rw [if_pos k4] at h
    refine ⟨c0, ?_, .inr ⟨k3, e0, e1⟩⟩
    unfold two; rw [if_neg c, if_neg k3, if_neg c2, if_pos k4]; exact whole_gen h
  · rw [if_neg k4] at h; cases h
abbrev Tr := Nat × ByteArray
def tsec (x : Tr) (j : Nat) : ByteArray := psec x.1 (summedL x.2.data.toList) j
def tnp (x : Tr) : Nat := np (summedL x.2.data.toList).length
theorem tnp_size (x : Tr) : tnp x = (x.2.size + 113) / 110 := np_size x.2
theorem tsec_open (x : Tr) (j : Nat) (hg : x.1 < 18446744073709551616) (hj : j < 100) : (openS (tsec x j)).2 = 0 ∧ (openS (tsec x j)).1.g = x.1 ∧ (openS (tsec x j)).1.k = pk (summedL x.2.data.toList).length j := by
  unfold tsec
  rw [psec_open x.1 _ j hg (by omega)]
  exact ⟨rfl, rfl, rfl⟩
theorem pk_cases (n i : Nat) : pk n i = 2 ∨ pk n i = 3 := by
  unfold pk; split
  · exact .inr rfl
  · exact .inl rfl
theorem other_read {g : Nat} {tr : List Tr} {old : Nat → ByteArray} {a b : ByteArray} (ha : a = old 0 ∨ ∃ x ∈ tr, 0 < tnp x ∧ a = tsec x 0) (hb : b = old 1 ∨ ∃ x ∈ tr, 1 < tnp x ∧ b = tsec x 1)
    (hold : (two (old 0) (old 1)).2.2 = true → (two (old 0) (old 1)).2.1 < g)
    (hg : ∀ x ∈ tr, x.1 < 18446744073709551616 ∧ x.2.size + 4 ≤ 220 ∧ ∀ j, j < 2 → (openS (old j)).2 = 0 → (openS (old j)).1.g < x.1) (hd : ∀ x ∈ tr, ∀ y ∈ tr, x.1 = y.1 → x = y)
    (hw : (two a b).2.2 = true) : (two a b).2.1 < g ∨ ∃ x ∈ tr, two a b = (x.2, x.1, true) ∧ ∀ j, j < tnp x → (if j = 0 then a else b) = tsec x j := by
  obtain ⟨o1, o2, o3⟩ := two_whole hw
  rcases ha with rfl | ⟨x, hx, hx0, rfl⟩
  · refine .inl ?_
    rcases o3 with ⟨_, k2⟩ | ⟨_, k2, k3⟩
    · rw [← k2 (old 1)] at hw ⊢
      exact hold hw
    · rcases hb with rfl | ⟨y, hy, _, rfl⟩
      · exact hold hw
      · obtain ⟨p1, _, p3⟩ := hg y hy
        obtain ⟨_, q2, _⟩ := tsec_open y 1 p1 (by decide)
        have := p3 0 (by decide) o1
        omega
  · refine .inr ⟨x, hx, ?_⟩
    obtain ⟨x1, x2, x3⟩ := hg x hx
    obtain ⟨t1, t2, t3⟩ := tsec_open x 0 x1 (by decide)
    have hnp := tnp_size x
    have hm : ∀ j, j < np (summedL x.2.data.toList).length → [tsec x 0, b].getD (0 + j) ByteArray.empty = psec x.1 (summedL x.2.data.toList) j ∨ (openS ([tsec x 0, b].getD (0 + j) ByteArray.empty)).2 ≠ 0 ∨ (openS ([tsec x 0, b].getD (0 + j) ByteArray.empty)).1.g ≠ x.1 := fun j hj => by
      have hj2 : j < 2 := by have : j < tnp x := hj
                             omega
      rcases (show j = 0 ∨ j = 1 by omega) with rfl | rfl
      · exact .inl rfl
      · show b = tsec x 1 ∨ (openS b).2 ≠ 0 ∨ (openS b).1.g ≠ x.1
        rcases hb with rfl | ⟨y, hy, hy1, rfl⟩
        · by_cases e : (openS (old 1)).2 = 0
          · have := x3 1 (by decide) e
            exact .inr (.inr (by omega))
          · exact .inr (.inl e)
        · by_cases e : y.1 = x.1
          · rw [hd y hy x hx e]; exact .inl rfl
          · obtain ⟨_, q2, _⟩ := tsec_open y 1 (hg y hy).1 (by decide)
            exact .inr (.inr (by omega))
    have hr : readS [tsec x 0, b] 0 2 = two (tsec x 0) b := readS_two [tsec x 0, b] 0
    rcases readS_mixed [tsec x 0, b] 0 2 x.1 x.2.data.toList x1 (by have : np (summedL x.2.data.toList).length = (x.2.size + 113) / 110 := np_size x.2
                                                                    omega) rfl hm with e | e
    · rw [hr] at e; rw [e] at hw; cases hw
    · rw [hr] at e
      refine ⟨e, fun j hj => ?_⟩
      rcases (show j = 0 ∨ j = 1 by omega) with rfl | rfl
      · rfl
      · show b = tsec x 1
        have kk : (openS (tsec x 0)).1.k ≠ 3 := by
          rw [t3, pk, if_neg (by show ¬ (0 + 1 = tnp x); omega)]; decide
        rcases o3 with ⟨k1, _⟩ | ⟨_, k2, k3⟩
        · exact absurd k1 kk
        · rcases hb with rfl | ⟨y, hy, hy1, rfl⟩
          · have := x3 1 (by decide) k2
            omega
          · obtain ⟨_, q2, _⟩ := tsec_open y 1 (hg y hy).1 (by decide)
            rw [hd y hy x hx (by omega)]
structure Sec (sl g M : Nat) (tr : List Tr) (old : Nat → ByteArray) (q : Nat) (s : ByteArray) : Prop where
  sane : (openS s).2 = 0 ∨ (openS s).2 = 16
  log : 4 ≤ q → (openS s).2 = 0 → (openS s).1.g ≤ g
  slot : q < 4 → (openS s).2 = 0 → ((openS s).1.k = 2 ∨ (openS s).1.k = 3) ∧ (openS s).1.g ≤ M
  other : ∀ j, j < 2 → q = (1 - sl) * 2 + j → s = old j ∨ ∃ x ∈ tr, j < tnp x ∧ s = tsec x j
structure VJ (sl g : Nat) (t : ByteArray) (tr : List Tr) (old : Nat → ByteArray) (M : Nat) (S : DS) : Prop where
  hsl : sl ≤ 1
  len : S.lasts.length = 10
  ok : S.ok
  full : Full S
  fit : t.size + 4 ≤ 220
  small : M < 1000000
  gM : g ≤ M
  newest : genS S 2 = M
  L : ∀ q, q < 10 → Sec sl g M tr old q (S.lasts.getD q ByteArray.empty)
  W : ∀ x ∈ S.waits, Sec sl g M tr old x.1 x.2
  cur : ∀ j, j < tnp (g, t) → S.lasts.getD (sl * 2 + j) ByteArray.empty = tsec (g, t) j
  curw : ∀ x ∈ S.waits, x.1 ≠ sl * 2 ∧ x.1 ≠ sl * 2 + 1
  tries : ∀ x ∈ tr, g < x.1 ∧ x.1 ≤ M ∧ x.2.size + 4 ≤ 220 ∧ ∀ j, j < 2 → (openS (old j)).2 = 0 → (openS (old j)).1.g < x.1
  one : ∀ x ∈ tr, ∀ y ∈ tr, x.1 = y.1 → x = y
  oldw : (two (old 0) (old 1)).2.2 = true → (two (old 0) (old 1)).2.1 < g
  oldM : ∀ j, j < 2 → (openS (old j)).2 = 0 → (openS (old j)).1.g ≤ M
def Logs (S : DS) (g : Nat) (all : List ByteArray) (sure : Nat) : Prop := ∀ kp, ∃ m, sure ≤ m ∧ m ≤ all.length ∧ repl (S.crash kp).read 4 g 6 0 = all.take m
variable {sl g M : Nat} {t : ByteArray} {tr : List Tr} {old : Nat → ByteArray} {S S' : DS} {all : List ByteArray} {sure : Nat}
theorem VJ.same (h : VJ sl g t tr old M S) (h1 : S'.lasts = S.lasts) (h2 : S'.waits = S.waits) : VJ sl g t tr old M S' := by
  obtain ⟨l, w, a, o⟩ := S
  obtain ⟨l', w', a', o'⟩ := S'
  dsimp only at h1 h2
  subst h1
  subst h2
  exact ⟨h.hsl, h.len, h.ok, h.full, h.fit, h.small, h.gM, h.newest, h.L, h.W, h.cur, h.curw, h.tries, h.one, h.oldw, h.oldM⟩
theorem Logs.same (h : Logs S g all sure) (h1 : S'.lasts = S.lasts) (h2 : S'.waits = S.waits) : Logs S' g all sure := by
  obtain ⟨l, w, a, o⟩ := S
  obtain ⟨l', w', a', o'⟩ := S'
  dsimp only at h1 h2
  subst h1
  subst h2
  exact h
theorem VJ.sec (h : VJ sl g t tr old M S) (us : List Wt) (hu : ∀ x ∈ us, x ∈ S.waits) (q : Nat) (hq : q < 10) : Sec sl g M tr old q ((applyW S.lasts us).getD q ByteArray.empty) := by
  rcases applyW_get q ByteArray.empty us S.lasts with e | ⟨x, hx, rfl, e⟩
  · rw [e]; exact h.L q hq
  · rw [e]; exact h.W x (hu x hx)
theorem VJ.np2 (h : VJ sl g t tr old M S) : tnp (g, t) ≤ 2 ∧ 1 ≤ tnp (g, t) := by
  have := h.fit
  have e := tnp_size (g, t)
  dsimp only at e
  omega
theorem VJ.curs (h : VJ sl g t tr old M S) (us : List Wt) (hu : ∀ x ∈ us, x ∈ S.waits) (j : Nat) (hj : j < tnp (g, t)) : (applyW S.lasts us).getD (sl * 2 + j) ByteArray.empty = tsec (g, t) j := by
  have h2 := h.np2
  rcases applyW_get (sl * 2 + j) ByteArray.empty us S.lasts with e | ⟨x, hx, e1, e⟩
  · rw [e]; exact h.cur j hj
  · obtain ⟨c1, c2⟩ := h.curw x (hu x hx)
    omega
theorem newGo_congr {rd rd' : List ByteArray} {fr : Nat} : ∀ (n i most : Nat), (∀ j, i ≤ j → j < i + n → rd'.getD (fr + j) ByteArray.empty = rd.getD (fr + j) ByteArray.empty) → newGo rd' fr n i most = newGo rd fr n i most
  | 0, _, _, _ => rfl
  | n + 1, i, most, H => by
    rw [newGo, newGo, H i (Nat.le_refl _) (by omega)]
    split
    · exact newGo_congr n (i + 1) most (fun j a b => H j (by omega) (by omega))
    · exact newGo_congr n (i + 1) _ (fun j a b => H j (by omega) (by omega))
theorem genS_congr (H : ∀ q, q < 4 → S'.read.getD q ByteArray.empty = S.read.getD q ByteArray.empty) : genS S' 2 = genS S 2 := by
  unfold genS
  rw [show newS S'.read 0 2 = newS S.read 0 2 from newGo_congr 2 0 0 (fun j _ b => H (0 + j) (by omega)), show newS S'.read 2 2 = newS S.read 2 2 from newGo_congr 2 0 0 (fun j _ b => H (2 + j) (by omega))]
theorem genS_le (H : ∀ q, q < 4 → (openS (S.read.getD q ByteArray.empty)).2 = 0 → (openS (S.read.getD q ByteArray.empty)).1.g ≤ M) : genS S 2 ≤ M :=
  Nat.max_le.2 ⟨newS_le (fun j hj => H (0 + j) (by omega)), newS_le (fun j hj => H (2 + j) (by omega))⟩
theorem repl_congr {rd rd' : List ByteArray} {fr : Nat} : ∀ (n i : Nat), (∀ j, i ≤ j → j < i + n → rd'.getD (fr + j) ByteArray.empty = rd.getD (fr + j) ByteArray.empty) → repl rd' fr g n i = repl rd fr g n i
  | 0, _, _ => rfl
  | n + 1, i, H => by
    rw [repl, repl, H i (Nat.le_refl _) (by omega), repl_congr n (i + 1) (fun j a b => H j (by omega) (by omega))]
theorem VJ.put (h : VJ sl g t tr old M S) (us : List Wt) (h1 : S'.lasts = S.lasts) (h2 : S'.waits = S.waits ++ us) (hu : ∀ x ∈ us, 4 ≤ x.1 ∧ x.1 < 10 ∧ x.2.size = 128 ∧ Sec sl g M tr old x.1 x.2) : VJ sl g t tr old M S' := by
  have hs := h.hsl
  refine ⟨h.hsl, by rw [h1]; exact h.len, fun x hx => ?_, ⟨by rw [h1]; exact h.full.1, fun x hx => ?_⟩, h.fit, h.small, h.gM, ?_, by rw [h1]; exact h.L, fun x hx => ?_, by rw [h1]; exact h.cur, fun x hx => ?_, h.tries, h.one, h.oldw, h.oldM⟩
  · rw [h2] at hx
    rw [h1]
    rcases List.mem_append.1 hx with hx | hx
    · exact h.ok x hx
    · rw [h.len]; exact (hu x hx).2.1
  · rw [h2] at hx
    rcases List.mem_append.1 hx with hx | hx
    · exact h.full.2 x hx
    · exact (hu x hx).2.2.1
  · refine Eq.trans (genS_congr (fun q hq => ?_)) h.newest
    rw [DS.read, h1, h2, applyW_append]
    rcases applyW_get q ByteArray.empty us (applyW S.lasts S.waits) with e | ⟨x, hx, e, _⟩
    · rw [e]; rfl
    · have := (hu x hx).1; omega
  · rw [h2] at hx
    rcases List.mem_append.1 hx with hx | hx
    · exact h.W x hx
    · exact (hu x hx).2.2.2
  · rw [h2] at hx
    rcases List.mem_append.1 hx with hx | hx
    · exact h.curw x hx
    · have := (hu x hx).1; omega
theorem VJ.settle (h : VJ sl g t tr old M S) (h1 : S'.lasts = S.read) (h2 : S'.waits = []) : VJ sl g t tr old M S' := by
  have hr : S'.read = S.read := by rw [DS.read, h2, h1]; rfl
  refine ⟨h.hsl, by rw [h1, DS.read_len]; exact h.len, fun x hx => absurd hx (by rw [h2]; simp), ⟨by rw [h1]; exact h.full.read, fun x hx => absurd hx (by rw [h2]; simp)⟩, h.fit, h.small, h.gM, ?_, ?_, fun x hx => absurd hx (by rw [h2]; simp), ?_, fun x hx => absurd hx (by rw [h2]; simp), h.tries, h.one, h.oldw, h.oldM⟩
  · refine Eq.trans (genS_congr (fun q hq => by rw [hr])) h.newest
  · rw [h1]; exact h.sec S.waits (fun _ hx => hx)
  · rw [h1]; exact h.curs S.waits (fun _ hx => hx)
theorem VJ.tried (h : VJ sl g t tr old M S) (x : ByteArray) (m : Nat) (hx : x.size + 4 ≤ 220) (hm : 1 ≤ m) (hmn : m ≤ tnp (M + 1, x)) (hM : M + 1 < 1000000) (h1 : S'.lasts = S.lasts) (h2 : S'.waits = S.waits ++ ws ((1 - sl) * 2) (M + 1) (summedL x.data.toList) 0 m) :
    VJ sl g t ((M + 1, x) :: tr) old (M + 1) S' := by
  have hs := h.hsl
  have hn2 : tnp (M + 1, x) ≤ 2 := by have e := tnp_size (M + 1, x); dsimp only at e; omega
  have up : ∀ q s, Sec sl g M tr old q s → Sec sl g (M + 1) ((M + 1, x) :: tr) old q s := fun q s k => ⟨k.sane, k.log, fun a b => ⟨(k.slot a b).1, Nat.le_succ_of_le (k.slot a b).2⟩, fun j hj e => (k.other j hj e).imp id (fun ⟨y, hy, e2⟩ => ⟨y, List.mem_cons_of_mem _ hy, e2⟩)⟩
  have nw : ∀ j, j < m → Sec sl g (M + 1) ((M + 1, x) :: tr) old ((1 - sl) * 2 + j) (tsec (M + 1, x) j) := fun j hj => by
    obtain ⟨t1, t2, t3⟩ := tsec_open (M + 1, x) j (by dsimp only; omega) (by omega)
    refine ⟨.inl t1, fun e => by omega, fun _ _ => ⟨by rw [t3]; exact pk_cases _ _, by rw [t2]; exact Nat.le_refl _⟩, fun k hk e => .inr ⟨(M + 1, x), List.mem_cons_self, ?_⟩⟩
    obtain rfl : j = k := by omega
    exact ⟨by omega, rfl⟩
  have hmw : ∀ y ∈ ws ((1 - sl) * 2) (M + 1) (summedL x.data.toList) 0 m, ∃ j, j < m ∧ y = ((1 - sl) * 2 + j, tsec (M + 1, x) j) := fun y hy => by
    obtain ⟨j, _, j2, e⟩ := ws_mem hy
    exact ⟨j, by omega, e⟩
  have hrd : ∀ q, S'.read.getD q ByteArray.empty = if (1 - sl) * 2 + 0 ≤ q ∧ q < (1 - sl) * 2 + 0 + m then psec (M + 1) (summedL x.data.toList) (q - (1 - sl) * 2) else S.read.getD q ByteArray.empty := fun q => by
    rw [DS.read, h1, h2, applyW_append, applyW_ws _ _ _ q _ _ 0 _ (by rw [applyW_len, h.len]; omega)]
    rfl
  have old0 := fun j (hj : j < 2) => h.L ((1 - sl) * 2 + j) (by omega)
  refine ⟨h.hsl, by rw [h1]; exact h.len, fun y hy => ?_, ⟨by rw [h1]; exact h.full.1, fun y hy => ?_⟩, h.fit, hM, Nat.le_succ_of_le h.gM, ?_, fun q hq => by rw [h1]; exact up _ _ (h.L q hq), fun y hy => ?_, by rw [h1]; exact h.cur, fun y hy => ?_, fun y hy => ?_, fun y hy z hz e => ?_, h.oldw, fun j hj ho => Nat.le_succ_of_le (h.oldM j hj ho)⟩
  · rw [h2] at hy
    rw [h1]
    rcases List.mem_append.1 hy with hy | hy
    · exact h.ok y hy
    · obtain ⟨j, hj, rfl⟩ := hmw y hy
      rw [h.len]; show (1 - sl) * 2 + j < 10; omega
  · rw [h2] at hy
    rcases List.mem_append.1 hy with hy | hy
    · exact h.full.2 y hy
    · obtain ⟨j, hj, rfl⟩ := hmw y hy
      exact psec_size _ _ _
  · apply Nat.le_antisymm
    · refine genS_le (fun q hq ho => ?_)
      rw [hrd] at ho ⊢
      by_cases c : (1 - sl) * 2 + 0 ≤ q ∧ q < (1 - sl) * 2 + 0 + m
      · rw [if_pos c] at ho ⊢
        rw [psec_open (M + 1) _ _ (by omega) (by omega)]; exact Nat.le_refl _
      · rw [if_neg c] at ho ⊢
        have := ((h.sec S.waits (fun _ hx => hx) q (by omega)).slot hq ho).2
        exact Nat.le_succ_of_le this
    · have e : S'.read.getD ((1 - sl) * 2 + 0) ByteArray.empty = psec (M + 1) (summedL x.data.toList) 0 := by
        rw [hrd, if_pos ⟨by omega, by omega⟩, show (1 - sl) * 2 + 0 - (1 - sl) * 2 = 0 by omega]
      have := newest_ge (rd := S'.read) (fr := (1 - sl) * 2) (room := 2) (by decide) (by omega) e
      unfold genS
      rcases (show sl = 0 ∨ sl = 1 by omega) with rfl | rfl
      · exact Nat.le_trans this (Nat.le_max_right _ _)
      · exact Nat.le_trans this (Nat.le_max_left _ _)
  · rw [h2] at hy
    rcases List.mem_append.1 hy with hy | hy
    · exact up _ _ (h.W y hy)
    · obtain ⟨j, hj, rfl⟩ := hmw y hy
      exact nw j hj
  · rw [h2] at hy
    rcases List.mem_append.1 hy with hy | hy
    · exact h.curw y hy
    · obtain ⟨j, hj, rfl⟩ := hmw y hy
      show (1 - sl) * 2 + j ≠ sl * 2 ∧ (1 - sl) * 2 + j ≠ sl * 2 + 1
      omega
  · rcases List.mem_cons.1 hy with rfl | hy
    · refine ⟨Nat.lt_succ_of_le h.gM, Nat.le_refl _, hx, fun j hj ho => ?_⟩
      exact Nat.lt_succ_of_le (h.oldM j hj ho)
    · obtain ⟨a1, a2, a3, a4⟩ := h.tries y hy
      exact ⟨a1, Nat.le_succ_of_le a2, a3, a4⟩
  · rcases List.mem_cons.1 hy with rfl | hy <;> rcases List.mem_cons.1 hz with rfl | hz
    · rfl
    · have := (h.tries z hz).2.1
      dsimp only at e; omega
    · have := (h.tries y hy).2.1
      dsimp only at e; omega
    · exact h.one y hy z hz e
theorem VJ.settled {x : ByteArray} (h : VJ sl g t tr old (M + 1) S) (hg : g ≤ M) (hx : x.size + 4 ≤ 220) (hw : ∀ j, j < tnp (M + 1, x) → S.read.getD ((1 - sl) * 2 + j) ByteArray.empty = tsec (M + 1, x) j) (h1 : S'.lasts = S.read) (h2 : S'.waits = []) :
    VJ (1 - sl) (M + 1) x [] (fun j => S.read.getD (sl * 2 + j) ByteArray.empty) (M + 1) S' := by
  have hs := h.hsl
  have hr : S'.read = S.read := by rw [DS.read, h2, h1]; rfl
  have hn := h.np2
  have hsec := h.sec S.waits (fun _ hx => hx)
  have hcur := h.curs S.waits (fun _ hx => hx)
  have hsm := h.small
  refine ⟨by omega, by rw [h1, DS.read_len]; exact h.len, fun x hx => absurd hx (by rw [h2]; simp), ⟨by rw [h1]; exact h.full.read, fun x hx => absurd hx (by rw [h2]; simp)⟩, hx, h.small, Nat.le_refl _, ?_, fun q hq => ?_, fun x hx => absurd hx (by rw [h2]; simp), fun j hj => ?_, fun x hx => absurd hx (by rw [h2]; simp), fun x hx => absurd hx (by simp), fun x hx => absurd hx (by simp), fun ho => ?_, fun j hj ho => ?_⟩
  · exact Eq.trans (genS_congr (fun q hq => by rw [hr])) h.newest
  · rw [h1]
    have k := hsec q hq
    refine ⟨k.sane, fun a b => Nat.le_trans (k.log a b) (by omega), k.slot, fun j hj e => .inl ?_⟩
    rw [show q = sl * 2 + j by omega]
  · rw [h1]; exact hw j hj
  · have enp : tnp (g, t) = np (summedL t.data.toList).length := rfl
    have e : readS S.read (sl * 2) 2 = (t, g, true) := readS_whole S.read (sl * 2) 2 g t.data.toList (by omega) (by omega) (by omega) hcur
    rw [readS_two] at e
    show (two (S.read.getD (sl * 2 + 0) ByteArray.empty) (S.read.getD (sl * 2 + 1) ByteArray.empty)).2.1 < M + 1
    rw [e]; exact Nat.lt_succ_of_le hg
  · exact ((hsec (sl * 2 + j) (by omega)).slot (by omega) ho).2
theorem VJ.nolog (h : VJ sl g t tr old M S) {g' : Nat} (hg : g < g') (us : List Wt) (hu : ∀ x ∈ us, x ∈ S.waits) (j : Nat) (hj : j < 6) : dead g' ((applyW S.lasts us).getD (4 + j) ByteArray.empty) := fun hd => by
  have := (h.sec us hu (4 + j) (by omega)).log (by omega) hd.1
  have e := hd.2.2
  omega
theorem VJ.lk (h : VJ sl g t tr old M S) {g' : Nat} (hg : g < g') (hw : S.waits = []) : LK 4 6 g' [] 0 S := by
  refine ⟨by rw [h.len]; decide, by simp, by simp, fun j hj => absurd hj (by simp), h.ok, fun x hx => absurd hx (by rw [hw]; simp), fun j hj => absurd hj (by omega), fun j hj => .inl ?_, fun j hj => absurd hj (by simp)⟩
  exact h.nolog hg [] (fun x hx => absurd hx (by simp)) j hj
theorem repl_len (rd : List ByteArray) (fr g : Nat) : ∀ (n i : Nat), (repl rd fr g n i).length ≤ n
  | 0, _ => Nat.le_refl _
  | n + 1, i => by
    rw [repl]
    split
    · have := repl_len rd fr g n (i + 1)
      rw [List.length_cons]; omega
    · exact Nat.zero_le _
theorem newest_pick {rd : List ByteArray} {k g : Nat} {t : ByteArray} (hk : k ≤ 1) (me : readS rd (k * 2) 2 = (t, g, true)) (lt : (readS rd ((1 - k) * 2) 2).2.2 = true → (readS rd ((1 - k) * 2) 2).2.1 < g) : newestS rd 2 = (k, g, t, true) := by
  rcases (show k = 0 ∨ k = 1 by omega) with rfl | rfl
  · exact newest_fst me (fun x => Nat.le_of_lt (lt x))
  · exact newest_snd me lt
theorem genS_all {q : Nat} (hq : q < 4) (ho : (openS (S.read.getD q ByteArray.empty)).2 = 0) (hk : (openS (S.read.getD q ByteArray.empty)).1.k = 2 ∨ (openS (S.read.getD q ByteArray.empty)).1.k = 3) : (openS (S.read.getD q ByteArray.empty)).1.g ≤ genS S 2 := by
  unfold genS
  by_cases c : q < 2
  · have := So.newGo_all S.read 0 2 0 0 q (by omega) (by omega) (by rw [Nat.zero_add]; exact ho) (by rw [Nat.zero_add]; exact hk)
    rw [Nat.zero_add] at this
    exact Nat.le_trans this (Nat.le_max_left _ _)
  · have := So.newGo_all S.read 2 2 0 0 (q - 2) (by omega) (by omega) (by rw [show 2 + (q - 2) = q by omega]; exact ho) (by rw [show 2 + (q - 2) = q by omega]; exact hk)
    rw [show 2 + (q - 2) = q by omega] at this
    exact Nat.le_trans this (Nat.le_max_right _ _)
theorem reopen {k g' : Nat} {t' : ByteArray} (hw : S.waits = []) (len : S.lasts.length = 10) (full : Full S) (hk : k ≤ 1) (fit : t'.size + 4 ≤ 220) (hM : M < 1000000) (hg : g' ≤ M)
    (sane : ∀ q, q < 10 → (openS (S.read.getD q ByteArray.empty)).2 = 0 ∨ (openS (S.read.getD q ByteArray.empty)).2 = 16) (log : ∀ q, 4 ≤ q → q < 10 → (openS (S.read.getD q ByteArray.empty)).2 = 0 → (openS (S.read.getD q ByteArray.empty)).1.g ≤ g')
    (slot : ∀ q, q < 4 → (openS (S.read.getD q ByteArray.empty)).2 = 0 → ((openS (S.read.getD q ByteArray.empty)).1.k = 2 ∨ (openS (S.read.getD q ByteArray.empty)).1.k = 3) ∧ (openS (S.read.getD q ByteArray.empty)).1.g ≤ M)
    (cur : ∀ j, j < tnp (g', t') → S.read.getD (k * 2 + j) ByteArray.empty = tsec (g', t') j)
    (lt : (two (S.read.getD ((1 - k) * 2 + 0) ByteArray.empty) (S.read.getD ((1 - k) * 2 + 1) ByteArray.empty)).2.2 = true → (two (S.read.getD ((1 - k) * 2 + 0) ByteArray.empty) (S.read.getD ((1 - k) * 2 + 1) ByteArray.empty)).2.1 < g') :
    opnS S 2 = (vaultV 2 k 4 6 g' (repl S.read 4 g' 6 0).length true, t', repl S.read 4 g' 6 0, 0) ∧ genS S 2 ≤ M ∧ VJ k g' t' [] (fun j => S.read.getD ((1 - k) * 2 + j) ByteArray.empty) (genS S 2) S ∧ Logs S g' (repl S.read 4 g' 6 0) (repl S.read 4 g' 6 0).length := by
  have hnp : tnp (g', t') ≤ 2 ∧ 1 ≤ tnp (g', t') := by
    have e := tnp_size (g', t')
    dsimp only at e
    omega
  have enp : tnp (g', t') = np (summedL t'.data.toList).length := rfl
  have hrl : S.read = S.lasts := by rw [DS.read, hw]; rfl
  have me : readS S.read (k * 2) 2 = (t', g', true) := readS_whole S.read (k * 2) 2 g' t'.data.toList (by omega) (by omega) (by omega) cur
  have hnw := newest_pick hk me (by rw [readS_two]; exact lt)
  have t0 := tsec_open (g', t') 0 (by dsimp only; omega) (by decide)
  have c0 := cur 0 (by omega)
  have hs : soundS S.read 2 g' true 10 = 0 := sound_ok ⟨k * 2 + 0, by omega, by rw [c0]; exact t0.1⟩ (fun i hi => ⟨sane i hi, fun h4 ho => log i h4 hi ho⟩)
  have hM' : genS S 2 ≤ M := genS_le (fun q hq ho => (slot q hq ho).2)
  refine ⟨?_, hM', ⟨hk, len, fun x hx => absurd hx (by rw [hw]; simp), full, fit, by omega, ?_, rfl, fun q hq => ?_, fun x hx => absurd hx (by rw [hw]; simp), fun j hj => ?_, fun x hx => absurd hx (by rw [hw]; simp), fun x hx => absurd hx (by simp), fun x hx => absurd hx (by simp), lt, fun j hj ho => ?_⟩, fun kp => ⟨_, Nat.le_refl _, Nat.le_refl _, ?_⟩⟩
  · unfold opnS
    rw [len, hnw]
    dsimp only
    rw [hs, if_neg (fun x => x rfl)]
  · have := genS_all (S := S) (q := k * 2 + 0) (by omega) (by rw [c0]; exact t0.1) (by rw [c0, t0.2.2]; exact pk_cases _ _)
    rw [c0, t0.2.1] at this
    exact this
  · rw [← hrl]
    refine ⟨sane q hq, fun h4 ho => log q h4 hq ho, fun h4 ho => ⟨(slot q h4 ho).1, genS_all h4 ho (slot q h4 ho).1⟩, fun j hj e => .inl (by rw [e])⟩
  · rw [← hrl]; exact cur j hj
  · exact genS_all (by omega) ho (slot _ (by omega) ho).1
  · rw [List.take_length]
    refine repl_congr 6 0 (fun j _ hj => ?_)
    have : (S.crash kp).read = S.lasts := by
      show applyW (applyW S.lasts (keptW kp 0 S.waits)) [] = S.lasts
      rw [hw]; rfl
    rw [this, hrl]
theorem VJ.opened (h : VJ sl g t tr old M S) (hl : Logs S g all sure) (kp : Nat → Bool) :
    ∃ k g' t' recs old' M', opnS (S.crash kp) 2 = (vaultV 2 k 4 6 g' recs.length true, t', recs, 0) ∧ M' ≤ M ∧ VJ k g' t' [] old' M' (S.crash kp) ∧ Logs (S.crash kp) g' recs recs.length ∧ recs.length ≤ 6 ∧
      ((t' = t ∧ sure ≤ recs.length ∧ recs.length ≤ all.length ∧ recs = all.take recs.length) ∨ (recs = [] ∧ ∃ x ∈ tr, t' = x.2)) := by
  have hs := h.hsl
  have hn := h.np2
  have hsm := h.small
  have hgM := h.gM
  have hub : ∀ x ∈ keptW kp 0 S.waits, x ∈ S.waits := Lg.keptW_sub kp 0 S.waits
  have hsec : ∀ q, q < 10 → Sec sl g M tr old q ((S.crash kp).read.getD q ByteArray.empty) := h.sec _ hub
  have hcur : ∀ j, j < tnp (g, t) → (S.crash kp).read.getD (sl * 2 + j) ByteArray.empty = tsec (g, t) j := h.curs _ hub
  obtain ⟨m, m1, m2, m3⟩ := hl kp
  obtain ⟨S1, hS1⟩ : ∃ S1, S.crash kp = S1 := ⟨_, rfl⟩
  have hw : S1.waits = [] := by rw [← hS1]; rfl
  have hlen : S1.lasts.length = 10 := by rw [← hS1, crash_len]; exact h.len
  have hfull : Full S1 := by rw [← hS1]; exact h.full.crash kp
  rw [hS1] at hsec hcur m3
  rw [hS1]
  clear hS1
  have hoth := other_read (g := g) (tr := tr) (old := old) ((hsec ((1 - sl) * 2 + 0) (by omega)).other 0 (by decide) rfl) ((hsec ((1 - sl) * 2 + 1) (by omega)).other 1 (by decide) rfl) h.oldw (fun x hx => by
    obtain ⟨a1, a2, a3, a4⟩ := h.tries x hx
    exact ⟨by omega, a3, a4⟩) h.one
  have hme : two (S1.read.getD (sl * 2 + 0) ByteArray.empty) (S1.read.getD (sl * 2 + 1) ByteArray.empty) = (t, g, true) := by
    have enp : tnp (g, t) = np (summedL t.data.toList).length := rfl
    rw [← readS_two]
    exact readS_whole S1.read (sl * 2) 2 g t.data.toList (by omega) (by omega) (by omega) hcur
  by_cases c : ∃ x ∈ tr, two (S1.read.getD ((1 - sl) * 2 + 0) ByteArray.empty) (S1.read.getD ((1 - sl) * 2 + 1) ByteArray.empty) = (x.2, x.1, true)
  · obtain ⟨y, hy, ey⟩ := c
    obtain ⟨x, hx, e1, e2⟩ := (hoth (by rw [ey])).resolve_left (fun q => by
      rw [ey] at q
      have := (h.tries y hy).1
      exact absurd q (by show ¬ y.1 < g; omega))
    obtain ⟨a1, a2, a3, _⟩ := h.tries x hx
    obtain ⟨b1, b2, b3, b4⟩ := reopen (k := 1 - sl) (g' := x.1) (t' := x.2) (M := M) hw hlen hfull (by omega) a3 hsm a2 (fun q hq => (hsec q hq).sane) (fun q h4 hq ho => Nat.le_trans ((hsec q hq).log h4 ho) (Nat.le_of_lt a1)) (fun q hq => (hsec q (by omega)).slot hq)
      (fun j hj => by
        have hj' : j < tnp x := hj
        have hnp := tnp_size x
        have := e2 j hj'
        rcases (show j = 0 ∨ j = 1 by omega) with rfl | rfl
        · exact this
        · exact this)
      (by rw [show 1 - (1 - sl) = sl by omega, hme]; exact fun _ => a1)
    have hrep : repl S1.read 4 x.1 6 0 = [] := by
      have hd : dead x.1 (S1.read.getD (4 + 0) ByteArray.empty) := fun hd => by
        have := (hsec (4 + 0) (by decide)).log (by decide) hd.1
        have e := hd.2.2
        omega
      rw [repl, dead_rec hd]; rfl
    rw [hrep] at b1 b4
    exact ⟨1 - sl, x.1, x.2, [], _, _, b1, b2, b3, b4, by simp, .inr ⟨rfl, x, hx, rfl⟩⟩
  · obtain ⟨b1, b2, b3, b4⟩ := reopen (k := sl) (g' := g) (t' := t) (M := M) hw hlen hfull hs h.fit hsm hgM (fun q hq => (hsec q hq).sane) (fun q h4 hq ho => (hsec q hq).log h4 ho) (fun q hq => (hsec q (by omega)).slot hq) hcur
      (fun hwh => (hoth hwh).elim id (fun ⟨x, hx, e, _⟩ => absurd ⟨x, hx, e⟩ c))
    have hrl : (repl S1.read 4 g 6 0).length = m := by rw [m3, List.length_take]; omega
    refine ⟨sl, g, t, repl S1.read 4 g 6 0, _, _, b1, b2, b3, b4, repl_len _ _ _ _ _, .inl ⟨rfl, by omega, by omega, ?_⟩⟩
    rw [hrl]; exact m3
end Go.Proofs.YtknbhgodhmcemaaDoor.Va
namespace Go.Proofs.YtknbhgodhmcemaaDoor.Va
set_option linter.unusedSimpArgs false
set_option linter.unusedVariables false
set_option maxRecDepth 100000
open Go.RowKit Go.Proofs.YtknbhgodhmcemaaDoor.Own Go.Proofs.YtknbhgodhmcemaaDoor.Cel Go.Proofs.YtknbhgodhmcemaaDoor.Dk
open Go.Proofs.YtknbhgodhmcemaaDoor.Lg (RowS below_drewN0 str_ne)
set_option maxHeartbeats 2000000 in
theorem texts_calls (A1 A2 : Option Addr) (c1 c2 : Nat) (s1 s2 : List ByteArray) (V : World) (h1 : RowS A1 s1 V) (h2 : RowS A2 s2 V) (m1 : s1.length ≤ 9223372036854775807) (m2 : s2.length ≤ 9223372036854775807) :
    Calls Tryd.prog 78 #[.slice A1 s1.length c1, .slice A2 s2.length c2] V fun e V' => e = .returned (.bool (decide (s1 = s2))) ∧ Below V.heap.size V V' := by
  obtain ⟨R, hR⟩ : ∃ R, decide (s1 = s2) = R := ⟨_, rfl⟩
  rw [hR]
  obtain ⟨n1, hn1⟩ : ∃ n, s1.length = n := ⟨_, rfl⟩
  obtain ⟨n2, hn2⟩ : ∃ n, s2.length = n := ⟨_, rfl⟩
  rw [hn1] at m1 ⊢
  rw [hn2] at m2 ⊢
  by_cases hl : n1 = n2
  rotate_left
  · obtain rfl : R = false := by rw [← hR]; exact decide_eq_false (fun e => hl (by rw [← hn1, ← hn2, e]))
    have e1 : ((n1 : Int) != (n2 : Int)) = true := by simp; omega
    clear hR hn1 hn2 hl h1 h2
    go_enter Tryd.func78, Tryd.ntmps78
    go_wp2
    go_ret
    exact ⟨rfl, Below.refl _ _⟩
  subst hl
  have e1 : ((n1 : Int) != (n1 : Int)) = false := by simp
  have H1 := Aside0.mk h1
  have H2 := Aside0.mk h2
  have N1 := Aside0.mk hn1
  have N2 := Aside0.mk hn2
  have HR := Aside0.mk hR
  have H0 := Aside0.mk (And.intro (Below.refl V.heap.size V) (show ∀ i, i < 0 → s1[i]? = s2[i]? from fun i hi => by omega))
  clear h1 h2 hn1 hn2 hR
  go_enter Tryd.func78, Tryd.ntmps78
  go_wp2_with fail
  go_loopw [13] (fun iv W => ∃ (j : Nat), iv = .int .i64 j ∧ j ≤ n1 ∧ Aside0 (Below V.heap.size V W ∧ ∀ i, i < j → s1[i]? = s2[i]?)) (fun iv _ => n1 - (intOf iv).toNat)
  case atStart => exact ⟨0, rfl, by omega, H0⟩
  case round =>
    obtain ⟨j, rfl, hj, HS⟩ := hrel
    clear H0
    by_cases hlt : j < n1
    · have hj1 : (j : Int) < (n1 : Int) := by omega
      have l1 : j < s1.length := by rw [N1.out]; exact hlt
      have l2 : j < s2.length := by rw [N2.out]; exact hlt
      obtain ⟨b1, o1, rfl, k1⟩ := (H1.out.far (Nat.le_refl _) HS.out.1) j l1
      obtain ⟨b2, o2, rfl, k2⟩ := (H2.out.far (Nat.le_refl _) HS.out.1) j l2
      obtain ⟨x, hx⟩ : ∃ x, s1[j] = x := ⟨_, rfl⟩
      obtain ⟨y, hy⟩ : ∃ y, s2[j] = y := ⟨_, rfl⟩
      rw [hx] at k1
      rw [hy] at k2
      by_cases hxy : x = y
      · have HN := Aside0.mk (show ∀ i, i < j + 1 → s1[i]? = s2[i]? from fun i hi => by
          by_cases e : i = j
          · subst e
            rw [List.getElem?_eq_getElem l1, List.getElem?_eq_getElem l2, hx, hy, hxy]
          · exact HS.out.2 i (by omega))
        have HB := Aside0.mk HS.out.1
        subst hxy
        clear HS l1 l2 hx hy
        go_wp2_with fail
        go_quiet (fail)
        go_wp2
        go_roundw
        case rel => exact ⟨j + 1, by go_num, by omega, ⟨below_drewN0 HB.out _, HN.out⟩⟩
        case measure => simp [intOf]; omega
      · obtain rfl : R = false := by
          rw [← HR.out]
          refine decide_eq_false (fun e => hxy ?_)
          rw [← hx, ← hy]
          subst e; rfl
        have HB := Aside0.mk HS.out.1
        have ene := str_ne hxy
        clear HS l1 l2 hx hy HR
        go_wp2_with fail
        go_quiet (fail)
        go_wp2
        go_ret
        exact ⟨rfl, below_drewN0 HB.out _⟩
    · obtain rfl : j = n1 := by omega
      obtain rfl : R = true := by
        rw [← HR.out]
        refine decide_eq_true (List.ext_getElem? (fun i => ?_))
        by_cases hi : i < j
        · exact HS.out.2 i hi
        · rw [List.getElem?_eq_none (by rw [N1.out]; omega), List.getElem?_eq_none (by rw [N2.out]; omega)]
      have HB := Aside0.mk HS.out.1
      clear HS HR
      go_wp2
      go_ret
      exact ⟨rfl, HB.out⟩
end Go.Proofs.YtknbhgodhmcemaaDoor.Va
namespace Go.Proofs.YtknbhgodhmcemaaDoor.Va
set_option linter.unusedSimpArgs false
set_option linter.unusedVariables false
set_option maxRecDepth 100000
open Go.RowKit Go.Shelf Go.Proofs.YtknbhgodhmcemaaDoor.Own Go.Proofs.YtknbhgodhmcemaaDoor.Cel Go.Proofs.YtknbhgodhmcemaaDoor.Dk Go.Proofs.YtknbhgodhmcemaaDoor.Seg
open Go.Proofs.YtknbhgodhmcemaaDoor.Lg (RowS str_ne box_new)
structure En where
  t : ByteArray
  v : Value
  all : List ByteArray
  sure : Nat
def En.cells (x : En) : List Value := [.string x.t, x.v, .int .i64 (x.sure : Nat)]
def ecells : List En → List Value
  | [] => []
  | x :: r => .string x.t :: x.v :: .int .i64 (x.sure : Nat) :: ecells r
theorem ecells_len : ∀ l : List En, (ecells l).length = l.length * 3
  | [] => rfl
  | x :: r => by rw [ecells, List.length_cons, List.length_cons, List.length_cons, ecells_len r, List.length_cons]; omega
theorem ecells_append : ∀ a b : List En, ecells (a ++ b) = ecells a ++ ecells b
  | [], _ => rfl
  | x :: r, b => by rw [List.cons_append, ecells, ecells, ecells_append r b]; rfl
theorem ecells_get : ∀ (l : List En) (j : Nat) (h : j < l.length) (k : Nat) (u : Value), (l[j]'h).cells[k]? = some u → (ecells l)[j * 3 + k]? = some u
  | x :: r, 0, _, k, u, e => by
    rcases k with _ | _ | _ | k
    · exact e
    · exact e
    · exact e
    · simp [En.cells] at e
  | x :: r, j + 1, h, k, u, e => by
    have := ecells_get r j (by simpa using h) k u (by simpa using e)
    rw [ecells, show (j + 1) * 3 + k = (j * 3 + k) + 1 + 1 + 1 by omega]
    simpa using this
def En.reads (x : En) (V : World) : Prop := (x.v = .slice none 0 0 ∧ x.all = []) ∨ ∃ g c, x.v = .slice (some ⟨g, 0, none⟩) x.all.length c ∧ x.all.length ≤ c ∧ RowS (some ⟨g, 0, none⟩) x.all V ∧ x.all.length ≤ 1000000
theorem En.reads.below {x : En} {V V' : World} (h : x.reads V) (hb : Below V.heap.size V V') : x.reads V' := by
  rcases h with h | ⟨g, c, e, k, r, l⟩
  · exact .inl h
  · exact .inr ⟨g, c, e, k, r.below hb, l⟩
abbrev zE : Array Value := #[.string ⟨#[]⟩, .slice none 0 0, .int .i64 0]
def En.fit (x : En) (t : ByteArray) (rs : List ByteArray) : Prop := x.t = t ∧ x.sure ≤ rs.length ∧ rs.length ≤ x.all.length ∧ rs = x.all.take rs.length
theorem infoE : (Tryd.prog.info? 78).map (·.size) = some 3 := by kernel_rfl
set_option maxHeartbeats 8000000 in
theorem fits_calls (mb mc : Nat) (es : List En) (cur : Array Value) (t : ByteArray) (A : Option Addr) (c : Nat) (rs : List ByteArray) (V : World) (hz : V.heap[mb]? = some (.cells cur 78 (0, 0)))
    (hc : ∀ (k : Nat) (u : Value), (ecells es)[k]? = some u → cur[k]? = some u) (hr : ∀ x ∈ es, x.reads V) (hrs : RowS A rs V) (hl : rs.length ≤ 1000000) (hn : es.length ≤ 1000000) (hcap : es.length ≤ mc) (hf : ∃ x ∈ es, x.fit t rs) :
    Calls Tryd.prog 38 #[.slice (some ⟨mb, 0, none⟩) es.length mc, .string t, .slice A rs.length c] V fun e V' => e = .returned (.bool true) ∧ Below V.heap.size V V' := by
  obtain ⟨n, hnn⟩ : ∃ n, es.length = n := ⟨_, rfl⟩
  obtain ⟨R, hRR⟩ : ∃ R, rs.length = R := ⟨_, rfl⟩
  rw [hnn] at hn hcap ⊢
  rw [hRR] at hl ⊢
  have HN := Aside0.mk hnn
  have HR := Aside0.mk hRR
  have HZ := Aside0.mk (And.intro hz hc)
  have HE := Aside0.mk hr
  have HS := Aside0.mk hrs
  have H0 := Aside0.mk (show Below V.heap.size V V ∧ ∃ j, ∃ h : j < es.length, 0 ≤ j ∧ (es[j]'h).fit t rs from ⟨Below.refl _ _, by
    obtain ⟨x, hx, hf⟩ := hf
    obtain ⟨j, hj, rfl⟩ := List.getElem_of_mem hx
    exact ⟨j, hj, Nat.zero_le _, hf⟩⟩)
  clear hz hc hr hrs hf hnn hRR
  go_enter Tryd.func38, Tryd.ntmps38
  go_wp2_with fail
  go_loopw [11] (fun iv W => ∃ (j : Nat), iv = .int .i64 j ∧ j ≤ n ∧ Aside0 (Below V.heap.size V W ∧ ∃ k, ∃ h : k < es.length, j ≤ k ∧ (es[k]'h).fit t rs)) (fun iv _ => n - (intOf iv).toNat)
  case atStart => exact ⟨0, rfl, by omega, H0⟩
  case round =>
    obtain ⟨j, rfl, hj, HI⟩ := hrel
    clear H0
    have hlt : j < n := by
      obtain ⟨k, hk, hjk, _⟩ := HI.out.2
      have := HN.out
      omega
    have hj1 : (j : Int) < (n : Int) := by omega
    have hjl : j < es.length := by rw [HN.out]; exact hlt
    obtain ⟨x, hx⟩ : ∃ x, es[j]'hjl = x := ⟨_, rfl⟩
    have hb := HI.out.1
    have ev := (HE.out x (by rw [← hx]; exact List.getElem_mem _))
    have hmb : mb < V.heap.size := (Array.getElem?_eq_some_iff.1 HZ.out.1).1
    have z := (hb.block mb hmb).trans HZ.out.1
    have hseg : ∀ k u, x.cells[k]? = some u → cur[j * 3 + k]? = some u := fun k u e => HZ.out.2 _ _ (ecells_get es j hjl k u (by rw [hx]; exact e))
    obtain ⟨xt, xv, xall, xsure⟩ := x
    dsimp only [En.reads] at ev
    -- PRINTED
    have NX := Aside0.mk (show ¬ En.fit ⟨xt, xv, xall, xsure⟩ t rs → j + 1 ≤ n ∧ ∃ k, ∃ h : k < es.length, j + 1 ≤ k ∧ (es[k]'h).fit t rs from fun hnf => by
      obtain ⟨k, hk, hjk, hfk⟩ := HI.out.2
      have hne : k ≠ j := fun e => by subst e; rw [hx] at hfk; exact hnf hfk
      exact ⟨by omega, k, hk, by omega, hfk⟩)
    clear HI hx hlt
    rcases ev with ⟨rfl, rfl⟩ | ⟨g, c', rfl, hcc, hrow, hal⟩
    · by_cases h1 : xt = t
      rotate_left
      · have e1 := str_ne h1
        have HN2 := Aside0.mk (NX.out (fun hfit => h1 hfit.1))
        have hseg2 : ∀ (k : Nat) (u : Value), ([.string xt, .slice none 0 0, .int .i64 (xsure : Nat)] : List Value)[k]? = some u → cur[j * 3 + k]? = some u := hseg
        obtain ⟨hb8, z8, z8z⟩ := box_new (V := wr) zE #[.string xt, .slice none 0 0, .int .i64 (xsure : Nat)] 78
        have d0 : ((wr.alloc (.cells zE 78)).setRow wr.heap.size #[.string xt, .slice none 0 0, .int .i64 (xsure : Nat)]).cell? ⟨wr.heap.size, 0, none⟩ = some (.string xt) := cell_of_row _ _ 0 _ _ _ z8
        have d1 : ((wr.alloc (.cells zE 78)).setRow wr.heap.size #[.string xt, .slice none 0 0, .int .i64 (xsure : Nat)]).cell? ⟨wr.heap.size, 1, none⟩ = some (.slice none 0 0) := cell_of_row _ _ 1 _ _ _ z8
        have d2 : ((wr.alloc (.cells zE 78)).setRow wr.heap.size #[.string xt, .slice none 0 0, .int .i64 (xsure : Nat)]).cell? ⟨wr.heap.size, 2, none⟩ = some (.int .i64 (xsure : Nat)) := cell_of_row _ _ 2 _ _ _ z8
        have HB := Aside0.mk (hb.trans (hb8.mono hb.size))
        have iE : (Tryd.prog.info? 78).map (·.size) = some (#[.string xt, .slice none 0 0, .int .i64 (xsure : Nat)] : Array Value).size := infoE
        have iEl : (Tryd.prog.info? 78).map (·.size) = some ([.string xt, .slice none 0 0, .int .i64 (xsure : Nat)] : List Value).length := infoE
        have oE : (#[.string xt, .slice none 0 0, .int .i64 (xsure : Nat)] : Array Value).all (·.oneCell') = true := by simp [Value.oneCell']
        clear hb hseg hb8 z8
        clear NX
        go_wp2_with (first | refine wpList_load_seg rfl 78 _ rfl mb (j * 3) rfl 78 _ (0, 0) [.string xt, .slice none 0 0, .int .i64 (xsure : Nat)] _ z hseg2 Tryd.underlying78 rfl iEl ?_ | refine wpList_store_row rfl 78 _ _ rfl wr.heap.size #[.string xt, .slice none 0 0, .int .i64 (xsure : Nat)] rfl rfl 78 _ z8z iE rfl oE ?_ | fail)
        go_roundw
        case rel => exact ⟨j + 1, by go_num, HN2.out.1, HB.out, HN2.out.2⟩
        case measure => simp [intOf]; omega
      subst h1
      by_cases h2 : xsure ≤ R
      rotate_left
      · have e2 : decide ((xsure : Int) ≤ (R : Int)) = false := decide_eq_false (by omega)
        have e2' : decide (xsure ≤ R) = false := decide_eq_false h2
        have HN2 := Aside0.mk (NX.out (fun hfit => h2 (by have := hfit.2.1; rw [HR.out] at this; exact this)))
        have hseg2 : ∀ (k : Nat) (u : Value), ([.string xt, .slice none 0 0, .int .i64 (xsure : Nat)] : List Value)[k]? = some u → cur[j * 3 + k]? = some u := hseg
        obtain ⟨hb8, z8, z8z⟩ := box_new (V := wr) zE #[.string xt, .slice none 0 0, .int .i64 (xsure : Nat)] 78
        have d0 : ((wr.alloc (.cells zE 78)).setRow wr.heap.size #[.string xt, .slice none 0 0, .int .i64 (xsure : Nat)]).cell? ⟨wr.heap.size, 0, none⟩ = some (.string xt) := cell_of_row _ _ 0 _ _ _ z8
        have d1 : ((wr.alloc (.cells zE 78)).setRow wr.heap.size #[.string xt, .slice none 0 0, .int .i64 (xsure : Nat)]).cell? ⟨wr.heap.size, 1, none⟩ = some (.slice none 0 0) := cell_of_row _ _ 1 _ _ _ z8
        have d2 : ((wr.alloc (.cells zE 78)).setRow wr.heap.size #[.string xt, .slice none 0 0, .int .i64 (xsure : Nat)]).cell? ⟨wr.heap.size, 2, none⟩ = some (.int .i64 (xsure : Nat)) := cell_of_row _ _ 2 _ _ _ z8
        have HB := Aside0.mk (hb.trans (hb8.mono hb.size))
        have iE : (Tryd.prog.info? 78).map (·.size) = some (#[.string xt, .slice none 0 0, .int .i64 (xsure : Nat)] : Array Value).size := infoE
        have iEl : (Tryd.prog.info? 78).map (·.size) = some ([.string xt, .slice none 0 0, .int .i64 (xsure : Nat)] : List Value).length := infoE
        have oE : (#[.string xt, .slice none 0 0, .int .i64 (xsure : Nat)] : Array Value).all (·.oneCell') = true := by simp [Value.oneCell']
        clear hb hseg hb8 z8
        clear NX
        go_wp2_with (first | refine wpList_load_seg rfl 78 _ rfl mb (j * 3) rfl 78 _ (0, 0) [.string xt, .slice none 0 0, .int .i64 (xsure : Nat)] _ z hseg2 Tryd.underlying78 rfl iEl ?_ | refine wpList_store_row rfl 78 _ _ rfl wr.heap.size #[.string xt, .slice none 0 0, .int .i64 (xsure : Nat)] rfl rfl 78 _ z8z iE rfl oE ?_ | fail)
        go_roundw
        case rel => exact ⟨j + 1, by go_num, HN2.out.1, HB.out, HN2.out.2⟩
        case measure => simp [intOf]; omega
      have e2 : decide ((xsure : Int) ≤ (R : Int)) = true := decide_eq_true (by omega)
      have e2' : decide (xsure ≤ R) = true := decide_eq_true h2
      by_cases h3 : R ≤ 0
      rotate_left
      · have e3 : decide ((R : Int) ≤ (0 : Int)) = false := decide_eq_false (by omega)
        have e3' : decide (R ≤ 0) = false := decide_eq_false h3
        have HN2 := Aside0.mk (NX.out (fun hfit => h3 (by have := hfit.2.2.1; rw [HR.out] at this; exact this)))
        have hseg2 : ∀ (k : Nat) (u : Value), ([.string xt, .slice none 0 0, .int .i64 (xsure : Nat)] : List Value)[k]? = some u → cur[j * 3 + k]? = some u := hseg
        obtain ⟨hb8, z8, z8z⟩ := box_new (V := wr) zE #[.string xt, .slice none 0 0, .int .i64 (xsure : Nat)] 78
        have d0 : ((wr.alloc (.cells zE 78)).setRow wr.heap.size #[.string xt, .slice none 0 0, .int .i64 (xsure : Nat)]).cell? ⟨wr.heap.size, 0, none⟩ = some (.string xt) := cell_of_row _ _ 0 _ _ _ z8
        have d1 : ((wr.alloc (.cells zE 78)).setRow wr.heap.size #[.string xt, .slice none 0 0, .int .i64 (xsure : Nat)]).cell? ⟨wr.heap.size, 1, none⟩ = some (.slice none 0 0) := cell_of_row _ _ 1 _ _ _ z8
        have d2 : ((wr.alloc (.cells zE 78)).setRow wr.heap.size #[.string xt, .slice none 0 0, .int .i64 (xsure : Nat)]).cell? ⟨wr.heap.size, 2, none⟩ = some (.int .i64 (xsure : Nat)) := cell_of_row _ _ 2 _ _ _ z8
        have HB := Aside0.mk (hb.trans (hb8.mono hb.size))
        have iE : (Tryd.prog.info? 78).map (·.size) = some (#[.string xt, .slice none 0 0, .int .i64 (xsure : Nat)] : Array Value).size := infoE
        have iEl : (Tryd.prog.info? 78).map (·.size) = some ([.string xt, .slice none 0 0, .int .i64 (xsure : Nat)] : List Value).length := infoE
        have oE : (#[.string xt, .slice none 0 0, .int .i64 (xsure : Nat)] : Array Value).all (·.oneCell') = true := by simp [Value.oneCell']
        clear hb hseg hb8 z8
        clear NX
        go_wp2_with (first | refine wpList_load_seg rfl 78 _ rfl mb (j * 3) rfl 78 _ (0, 0) [.string xt, .slice none 0 0, .int .i64 (xsure : Nat)] _ z hseg2 Tryd.underlying78 rfl iEl ?_ | refine wpList_store_row rfl 78 _ _ rfl wr.heap.size #[.string xt, .slice none 0 0, .int .i64 (xsure : Nat)] rfl rfl 78 _ z8z iE rfl oE ?_ | fail)
        go_roundw
        case rel => exact ⟨j + 1, by go_num, HN2.out.1, HB.out, HN2.out.2⟩
        case measure => simp [intOf]; omega
      have e3 : decide ((R : Int) ≤ (0 : Int)) = true := decide_eq_true (by omega)
      have e3' : decide (R ≤ 0) = true := decide_eq_true h3
      obtain rfl : R = 0 := by omega
      obtain rfl : xsure = 0 := by omega
      have hr0 : rs = [] := List.length_eq_zero_iff.1 HR.out
      subst hr0
      have KT := Aside0.mk (fun W' => texts_calls A none c 0 [] [] W' (fun i hi => absurd hi (by simp)) (fun i hi => absurd hi (by simp)) (by decide) (by decide))
      rw [show decide (([] : List ByteArray) = []) = true from rfl] at KT
      have hseg2 : ∀ (k : Nat) (u : Value), ([.string xt, .slice none 0 0, .int .i64 0] : List Value)[k]? = some u → cur[j * 3 + k]? = some u := hseg
      obtain ⟨hb8, z8, z8z⟩ := box_new (V := wr) zE #[.string xt, .slice none 0 0, .int .i64 0] 78
      have d0 : ((wr.alloc (.cells zE 78)).setRow wr.heap.size #[.string xt, .slice none 0 0, .int .i64 0]).cell? ⟨wr.heap.size, 0, none⟩ = some (.string xt) := cell_of_row _ _ 0 _ _ _ z8
      have d1 : ((wr.alloc (.cells zE 78)).setRow wr.heap.size #[.string xt, .slice none 0 0, .int .i64 0]).cell? ⟨wr.heap.size, 1, none⟩ = some (.slice none 0 0) := cell_of_row _ _ 1 _ _ _ z8
      have d2 : ((wr.alloc (.cells zE 78)).setRow wr.heap.size #[.string xt, .slice none 0 0, .int .i64 0]).cell? ⟨wr.heap.size, 2, none⟩ = some (.int .i64 0) := cell_of_row _ _ 2 _ _ _ z8
      have HB := Aside0.mk (hb.trans (hb8.mono hb.size))
      have iE : (Tryd.prog.info? 78).map (·.size) = some (#[.string xt, .slice none 0 0, .int .i64 0] : Array Value).size := infoE
      have iEl : (Tryd.prog.info? 78).map (·.size) = some ([.string xt, .slice none 0 0, .int .i64 0] : List Value).length := infoE
      have oE : (#[.string xt, .slice none 0 0, .int .i64 0] : Array Value).all (·.oneCell') = true := by simp [Value.oneCell']
      clear hb hseg hb8 z8
      clear h2 h3
      go_wp2_with (first | refine wpList_load_seg rfl 78 _ rfl mb (j * 3) rfl 78 _ (0, 0) [.string xt, .slice none 0 0, .int .i64 0] _ z hseg2 Tryd.underlying78 rfl iEl ?_ | refine wpList_store_row rfl 78 _ _ rfl wr.heap.size #[.string xt, .slice none 0 0, .int .i64 0] rfl rfl 78 _ z8z iE rfl oE ?_ | fail)
      refine (KT.out _).mono ?_
      rintro e V4 ⟨rfl, hb4⟩
      have HC := Aside0.mk (HB.out.trans (hb4.mono HB.out.size))
      clear hb4 KT
      go_wp2
      go_ret
      exact ⟨rfl, HC.out⟩
    · obtain ⟨q, hal2⟩ : ∃ q, xall.length = q := ⟨_, rfl⟩
      rw [hal2] at hcc hal hseg NX
      have hrow2 := hrow.far (Nat.le_refl _) hb
      have hrs2 := HS.out.far (Nat.le_refl _) hb
      by_cases h1 : xt = t
      rotate_left
      · have e1 := str_ne h1
        have HN2 := Aside0.mk (NX.out (fun hfit => h1 hfit.1))
        have hseg2 : ∀ (k : Nat) (u : Value), ([.string xt, .slice (some ⟨g, 0, none⟩) q c', .int .i64 (xsure : Nat)] : List Value)[k]? = some u → cur[j * 3 + k]? = some u := hseg
        obtain ⟨hb8, z8, z8z⟩ := box_new (V := wr) zE #[.string xt, .slice (some ⟨g, 0, none⟩) q c', .int .i64 (xsure : Nat)] 78
        have d0 : ((wr.alloc (.cells zE 78)).setRow wr.heap.size #[.string xt, .slice (some ⟨g, 0, none⟩) q c', .int .i64 (xsure : Nat)]).cell? ⟨wr.heap.size, 0, none⟩ = some (.string xt) := cell_of_row _ _ 0 _ _ _ z8
        have d1 : ((wr.alloc (.cells zE 78)).setRow wr.heap.size #[.string xt, .slice (some ⟨g, 0, none⟩) q c', .int .i64 (xsure : Nat)]).cell? ⟨wr.heap.size, 1, none⟩ = some (.slice (some ⟨g, 0, none⟩) q c') := cell_of_row _ _ 1 _ _ _ z8
        have d2 : ((wr.alloc (.cells zE 78)).setRow wr.heap.size #[.string xt, .slice (some ⟨g, 0, none⟩) q c', .int .i64 (xsure : Nat)]).cell? ⟨wr.heap.size, 2, none⟩ = some (.int .i64 (xsure : Nat)) := cell_of_row _ _ 2 _ _ _ z8
        have HB := Aside0.mk (hb.trans (hb8.mono hb.size))
        have iE : (Tryd.prog.info? 78).map (·.size) = some (#[.string xt, .slice (some ⟨g, 0, none⟩) q c', .int .i64 (xsure : Nat)] : Array Value).size := infoE
        have iEl : (Tryd.prog.info? 78).map (·.size) = some ([.string xt, .slice (some ⟨g, 0, none⟩) q c', .int .i64 (xsure : Nat)] : List Value).length := infoE
        have oE : (#[.string xt, .slice (some ⟨g, 0, none⟩) q c', .int .i64 (xsure : Nat)] : Array Value).all (·.oneCell') = true := by simp [Value.oneCell']
        clear hb hseg hb8 z8
        clear NX
        go_wp2_with (first | refine wpList_load_seg rfl 78 _ rfl mb (j * 3) rfl 78 _ (0, 0) [.string xt, .slice (some ⟨g, 0, none⟩) q c', .int .i64 (xsure : Nat)] _ z hseg2 Tryd.underlying78 rfl iEl ?_ | refine wpList_store_row rfl 78 _ _ rfl wr.heap.size #[.string xt, .slice (some ⟨g, 0, none⟩) q c', .int .i64 (xsure : Nat)] rfl rfl 78 _ z8z iE rfl oE ?_ | fail)
        go_roundw
        case rel => exact ⟨j + 1, by go_num, HN2.out.1, HB.out, HN2.out.2⟩
        case measure => simp [intOf]; omega
      subst h1
      by_cases h2 : xsure ≤ R
      rotate_left
      · have e2 : decide ((xsure : Int) ≤ (R : Int)) = false := decide_eq_false (by omega)
        have e2' : decide (xsure ≤ R) = false := decide_eq_false h2
        have HN2 := Aside0.mk (NX.out (fun hfit => h2 (by have := hfit.2.1; rw [HR.out] at this; exact this)))
        have hseg2 : ∀ (k : Nat) (u : Value), ([.string xt, .slice (some ⟨g, 0, none⟩) q c', .int .i64 (xsure : Nat)] : List Value)[k]? = some u → cur[j * 3 + k]? = some u := hseg
        obtain ⟨hb8, z8, z8z⟩ := box_new (V := wr) zE #[.string xt, .slice (some ⟨g, 0, none⟩) q c', .int .i64 (xsure : Nat)] 78
        have d0 : ((wr.alloc (.cells zE 78)).setRow wr.heap.size #[.string xt, .slice (some ⟨g, 0, none⟩) q c', .int .i64 (xsure : Nat)]).cell? ⟨wr.heap.size, 0, none⟩ = some (.string xt) := cell_of_row _ _ 0 _ _ _ z8
        have d1 : ((wr.alloc (.cells zE 78)).setRow wr.heap.size #[.string xt, .slice (some ⟨g, 0, none⟩) q c', .int .i64 (xsure : Nat)]).cell? ⟨wr.heap.size, 1, none⟩ = some (.slice (some ⟨g, 0, none⟩) q c') := cell_of_row _ _ 1 _ _ _ z8
        have d2 : ((wr.alloc (.cells zE 78)).setRow wr.heap.size #[.string xt, .slice (some ⟨g, 0, none⟩) q c', .int .i64 (xsure : Nat)]).cell? ⟨wr.heap.size, 2, none⟩ = some (.int .i64 (xsure : Nat)) := cell_of_row _ _ 2 _ _ _ z8
        have HB := Aside0.mk (hb.trans (hb8.mono hb.size))
        have iE : (Tryd.prog.info? 78).map (·.size) = some (#[.string xt, .slice (some ⟨g, 0, none⟩) q c', .int .i64 (xsure : Nat)] : Array Value).size := infoE
        have iEl : (Tryd.prog.info? 78).map (·.size) = some ([.string xt, .slice (some ⟨g, 0, none⟩) q c', .int .i64 (xsure : Nat)] : List Value).length := infoE
        have oE : (#[.string xt, .slice (some ⟨g, 0, none⟩) q c', .int .i64 (xsure : Nat)] : Array Value).all (·.oneCell') = true := by simp [Value.oneCell']
        clear hb hseg hb8 z8
        clear NX
        go_wp2_with (first | refine wpList_load_seg rfl 78 _ rfl mb (j * 3) rfl 78 _ (0, 0) [.string xt, .slice (some ⟨g, 0, none⟩) q c', .int .i64 (xsure : Nat)] _ z hseg2 Tryd.underlying78 rfl iEl ?_ | refine wpList_store_row rfl 78 _ _ rfl wr.heap.size #[.string xt, .slice (some ⟨g, 0, none⟩) q c', .int .i64 (xsure : Nat)] rfl rfl 78 _ z8z iE rfl oE ?_ | fail)
        go_roundw
        case rel => exact ⟨j + 1, by go_num, HN2.out.1, HB.out, HN2.out.2⟩
        case measure => simp [intOf]; omega
      have e2 : decide ((xsure : Int) ≤ (R : Int)) = true := decide_eq_true (by omega)
      have e2' : decide (xsure ≤ R) = true := decide_eq_true h2
      by_cases h3 : R ≤ q
      rotate_left
      · have e3 : decide ((R : Int) ≤ (q : Int)) = false := decide_eq_false (by omega)
        have e3' : decide (R ≤ q) = false := decide_eq_false h3
        have HN2 := Aside0.mk (NX.out (fun hfit => h3 (by have := hfit.2.2.1; rw [HR.out, hal2] at this; exact this)))
        have hseg2 : ∀ (k : Nat) (u : Value), ([.string xt, .slice (some ⟨g, 0, none⟩) q c', .int .i64 (xsure : Nat)] : List Value)[k]? = some u → cur[j * 3 + k]? = some u := hseg
        obtain ⟨hb8, z8, z8z⟩ := box_new (V := wr) zE #[.string xt, .slice (some ⟨g, 0, none⟩) q c', .int .i64 (xsure : Nat)] 78
        have d0 : ((wr.alloc (.cells zE 78)).setRow wr.heap.size #[.string xt, .slice (some ⟨g, 0, none⟩) q c', .int .i64 (xsure : Nat)]).cell? ⟨wr.heap.size, 0, none⟩ = some (.string xt) := cell_of_row _ _ 0 _ _ _ z8
        have d1 : ((wr.alloc (.cells zE 78)).setRow wr.heap.size #[.string xt, .slice (some ⟨g, 0, none⟩) q c', .int .i64 (xsure : Nat)]).cell? ⟨wr.heap.size, 1, none⟩ = some (.slice (some ⟨g, 0, none⟩) q c') := cell_of_row _ _ 1 _ _ _ z8
        have d2 : ((wr.alloc (.cells zE 78)).setRow wr.heap.size #[.string xt, .slice (some ⟨g, 0, none⟩) q c', .int .i64 (xsure : Nat)]).cell? ⟨wr.heap.size, 2, none⟩ = some (.int .i64 (xsure : Nat)) := cell_of_row _ _ 2 _ _ _ z8
        have HB := Aside0.mk (hb.trans (hb8.mono hb.size))
        have iE : (Tryd.prog.info? 78).map (·.size) = some (#[.string xt, .slice (some ⟨g, 0, none⟩) q c', .int .i64 (xsure : Nat)] : Array Value).size := infoE
        have iEl : (Tryd.prog.info? 78).map (·.size) = some ([.string xt, .slice (some ⟨g, 0, none⟩) q c', .int .i64 (xsure : Nat)] : List Value).length := infoE
        have oE : (#[.string xt, .slice (some ⟨g, 0, none⟩) q c', .int .i64 (xsure : Nat)] : Array Value).all (·.oneCell') = true := by simp [Value.oneCell']
        clear hb hseg hb8 z8
        clear NX
        go_wp2_with (first | refine wpList_load_seg rfl 78 _ rfl mb (j * 3) rfl 78 _ (0, 0) [.string xt, .slice (some ⟨g, 0, none⟩) q c', .int .i64 (xsure : Nat)] _ z hseg2 Tryd.underlying78 rfl iEl ?_ | refine wpList_store_row rfl 78 _ _ rfl wr.heap.size #[.string xt, .slice (some ⟨g, 0, none⟩) q c', .int .i64 (xsure : Nat)] rfl rfl 78 _ z8z iE rfl oE ?_ | fail)
        go_roundw
        case rel => exact ⟨j + 1, by go_num, HN2.out.1, HB.out, HN2.out.2⟩
        case measure => simp [intOf]; omega
      have e3 : decide ((R : Int) ≤ (q : Int)) = true := decide_eq_true (by omega)
      have e3' : decide (R ≤ q) = true := decide_eq_true h3
      have hrt : (xall.take R).length = R := by rw [List.length_take]; omega
      have KT := Aside0.mk (fun W' (hbb : Below wr.heap.size wr W') => texts_calls A (some ⟨g, 0, none⟩) c c' rs (xall.take R) W' (hrs2.far (Nat.le_refl _) hbb) ((hrow2.take R).far (Nat.le_refl _) hbb) (by rw [HR.out]; omega) (by rw [hrt]; omega))
      rw [hrt, HR.out] at KT
      have HB9 := Aside0.mk (show Below wr.heap.size wr ((wr.alloc (.cells zE 78)).setRow wr.heap.size #[.string xt, .slice (some ⟨g, 0, none⟩) q c', .int .i64 (xsure : Nat)]) from (box_new (V := wr) zE #[.string xt, .slice (some ⟨g, 0, none⟩) q c', .int .i64 (xsure : Nat)] 78).1)
      obtain ⟨bb, hbb⟩ : ∃ b, decide (rs = xall.take R) = b := ⟨_, rfl⟩
      rw [hbb] at KT
      have HBB := Aside0.mk hbb
      clear hbb hrt hrow2 hrs2
      have hseg2 : ∀ (k : Nat) (u : Value), ([.string xt, .slice (some ⟨g, 0, none⟩) q c', .int .i64 (xsure : Nat)] : List Value)[k]? = some u → cur[j * 3 + k]? = some u := hseg
      obtain ⟨hb8, z8, z8z⟩ := box_new (V := wr) zE #[.string xt, .slice (some ⟨g, 0, none⟩) q c', .int .i64 (xsure : Nat)] 78
      have d0 : ((wr.alloc (.cells zE 78)).setRow wr.heap.size #[.string xt, .slice (some ⟨g, 0, none⟩) q c', .int .i64 (xsure : Nat)]).cell? ⟨wr.heap.size, 0, none⟩ = some (.string xt) := cell_of_row _ _ 0 _ _ _ z8
      have d1 : ((wr.alloc (.cells zE 78)).setRow wr.heap.size #[.string xt, .slice (some ⟨g, 0, none⟩) q c', .int .i64 (xsure : Nat)]).cell? ⟨wr.heap.size, 1, none⟩ = some (.slice (some ⟨g, 0, none⟩) q c') := cell_of_row _ _ 1 _ _ _ z8
      have d2 : ((wr.alloc (.cells zE 78)).setRow wr.heap.size #[.string xt, .slice (some ⟨g, 0, none⟩) q c', .int .i64 (xsure : Nat)]).cell? ⟨wr.heap.size, 2, none⟩ = some (.int .i64 (xsure : Nat)) := cell_of_row _ _ 2 _ _ _ z8
      have HB := Aside0.mk (hb.trans (hb8.mono hb.size))
      have iE : (Tryd.prog.info? 78).map (·.size) = some (#[.string xt, .slice (some ⟨g, 0, none⟩) q c', .int .i64 (xsure : Nat)] : Array Value).size := infoE
      have iEl : (Tryd.prog.info? 78).map (·.size) = some ([.string xt, .slice (some ⟨g, 0, none⟩) q c', .int .i64 (xsure : Nat)] : List Value).length := infoE
      have oE : (#[.string xt, .slice (some ⟨g, 0, none⟩) q c', .int .i64 (xsure : Nat)] : Array Value).all (·.oneCell') = true := by simp [Value.oneCell']
      clear hb hseg hb8 z8
      have hrc : R ≤ c' := by omega
      clear h2 h3
      go_wp2_with (first | refine wpList_load_seg rfl 78 _ rfl mb (j * 3) rfl 78 _ (0, 0) [.string xt, .slice (some ⟨g, 0, none⟩) q c', .int .i64 (xsure : Nat)] _ z hseg2 Tryd.underlying78 rfl iEl ?_ | refine wpList_store_row rfl 78 _ _ rfl wr.heap.size #[.string xt, .slice (some ⟨g, 0, none⟩) q c', .int .i64 (xsure : Nat)] rfl rfl 78 _ z8z iE rfl oE ?_ | fail)
      refine (KT.out _ HB9.out).mono ?_
      rintro e V4 ⟨rfl, hb4⟩
      have HC := Aside0.mk (HB.out.trans (hb4.mono HB.out.size))
      clear hb4 KT
      cases bb with
      | true =>
        go_wp2
        go_ret
        exact ⟨rfl, HC.out⟩
      | false =>
        have HN2 := Aside0.mk (NX.out (fun hfit => of_decide_eq_false HBB.out (by have := hfit.2.2.2; rw [HR.out] at this; exact this)))
        clear NX
        go_wp2
        go_roundw
        case rel => exact ⟨j + 1, by go_num, HN2.out.1, HC.out, HN2.out.2⟩
        case measure => simp [intOf]; omega
end Go.Proofs.YtknbhgodhmcemaaDoor.Va
namespace Go.Proofs.YtknbhgodhmcemaaDoor.Va
set_option linter.unusedSimpArgs false
set_option linter.unusedVariables false
set_option maxRecDepth 100000
open Go.Proofs.YtknbhgodhmcemaaDoor.Dk
open Go.Proofs.YtknbhgodhmcemaaDoor.Lg (sec sec_open sec_size LK appS put_cases sync_cases fails_armed)
open Go.Proofs.YtknbhgodhmcemaaDoor.So (wrS np np_pos np_size summedL wrS_spec ws ws_mem applyW_ws applyW_get)
variable {sl g M k nx : Nat} {t : ByteArray} {tr : List Tr} {old : Nat → ByteArray} {S S' : DS} {all : List ByteArray} {sure : Nat}
theorem ok_arm {N : Nat} (h : So.Ok S N k) (a : Int) (ha : a ≤ 9223372036854775807) : So.Ok { S with armed := a } N k := ⟨h.ok, h.len, ha, h.waits, h.ops0, h.ops⟩
theorem ok_mono {N j : Nat} (h : So.Ok S N k) (hj : j ≤ k) : So.Ok S N j := ⟨h.ok, h.len, h.arm, by have := h.waits; omega, h.ops0, by have := h.ops; omega⟩
theorem ok_failed {N : Nat} (h : So.Ok S N k) : So.Ok S.fails.1 N k := by
  obtain ⟨l1, l2, l3⟩ := fails_lasts S
  have fa := (fails_armed S).2
  refine ⟨fun x hx => ?_, by rw [l1]; exact h.len, by have := h.arm; omega, by rw [l2]; exact h.waits, by rw [l3]; exact h.ops0, by rw [l3]; exact h.ops⟩
  rw [l1]; rw [l2] at hx; exact h.ok x hx
theorem ok_crash {N : Nat} (h : So.Ok S N k) (kp : Nat → Bool) : So.Ok (S.crash kp) N k :=
  ⟨fun x hx => absurd hx (by simp [DS.crash]), by rw [Lg.crash_len]; exact h.len, h.arm, by show 0 + k ≤ 900000; have := h.waits; omega, h.ops0, h.ops⟩
theorem ok_sync {N : Nat} (h : So.Ok S N (k + 1)) : So.Ok S.sync.1 N k := by
  rcases sync_cases S with ⟨e, _⟩ | ⟨e, _⟩
  · rw [e]; exact ok_mono (ok_failed h) (by omega)
  · rw [e]
    have c := ok_crash (ok_failed h) (fun _ => true)
    have := h.ops
    have := h.ops0
    exact ⟨c.ok, c.len, c.arm, by have := c.waits; show ([] : List Wt).length + k ≤ 900000; simp; have : S.fails.1.waits.length + (k + 1) ≤ 900000 := (ok_failed h).waits; omega, by show 0 ≤ S.ops + 1; omega, by show S.ops + 1 + (k : Int) ≤ 1000000000; omega⟩
theorem keptW_append (kp : Nat → Bool) : ∀ (a b : List Wt) (i : Nat), keptW kp i (a ++ b) = keptW kp i a ++ keptW kp (i + a.length) b
  | [], b, i => by simp [keptW]
  | x :: r, b, i => by
    rw [List.cons_append, keptW, keptW, keptW_append kp r b (i + 1), List.length_cons, show i + 1 + r.length = i + (r.length + 1) by omega]
    split
    · rw [List.cons_append]
    · rfl
theorem Logs.more (h : Logs S g all sure) (us : List Wt) (h1 : S'.lasts = S.lasts) (h2 : S'.waits = S.waits ++ us) (hu : ∀ x ∈ us, x.1 < 4) : Logs S' g all sure := fun kp => by
  obtain ⟨m, m1, m2, m3⟩ := h kp
  refine ⟨m, m1, m2, ?_⟩
  rw [← m3]
  refine repl_congr 6 0 (fun j _ hj => ?_)
  have e1 : (S'.crash kp).read = applyW (applyW S.lasts (keptW kp 0 S.waits)) (keptW kp (0 + S.waits.length) us) := by
    show applyW S'.lasts (keptW kp 0 S'.waits) = _
    rw [h1, h2, keptW_append, applyW_append]
  have e2 : (S.crash kp).read = applyW S.lasts (keptW kp 0 S.waits) := rfl
  rw [e1, e2]
  rcases applyW_get (4 + j) ByteArray.empty (keptW kp (0 + S.waits.length) us) (applyW S.lasts (keptW kp 0 S.waits)) with e | ⟨x, hx, e, _⟩
  · exact e
  · have := hu x (keptW_mem kp x us _ hx)
    omega
theorem Logs.of_lk (h : LK 4 6 g all sure S) (hg : g < 18446744073709551616) : Logs S g all sure := fun kp => by
  have := h.hn
  exact h.crashed hg (by omega) kp
theorem app_step (h : VJ sl g t tr old M S) (hk : LK 4 6 g all sure S) (hok : So.Ok S 10 (k + 2)) (d : ByteArray) (hd : d.size ≤ 110) :
    ∃ S' q all' sure', appS S 4 6 g all.length d = (S', all'.length, q) ∧ VJ sl g t tr old M S' ∧ LK 4 6 g all' sure' S' ∧ So.Ok S' 10 k ∧
      ((q ≠ 0 ∧ all' = all ∧ sure' = sure) ∨ (q ≠ 0 ∧ all' = all ++ [d] ∧ sure' = sure) ∨ (q = 0 ∧ all' = all ++ [d] ∧ sure' = all'.length)) := by
  have hsm := h.small
  have hgM := h.gM
  have hlen := h.len
  unfold appS
  by_cases c1 : 6 ≤ all.length
  · rw [if_pos c1]
    exact ⟨S, 9, all, sure, rfl, h, hk, ok_mono hok (by omega), .inl ⟨by decide, rfl, rfl⟩⟩
  rw [if_neg c1, if_neg (by omega)]
  rcases put_cases S (4 + all.length) (sec g all.length d) (by omega) (sec_size g all.length d hd) with ⟨e, _⟩ | ⟨e, _⟩
  · rw [e, if_pos (show (7 : Int) ≠ 0 by decide)]
    exact ⟨_, 7, all, sure, rfl, h.same (fails_lasts S).1 (fails_lasts S).2.1, hk.failed, ok_mono (ok_failed hok) (by omega), .inl ⟨by decide, rfl, rfl⟩⟩
  rw [e, if_neg (fun x => x rfl)]
  have o1 := hok.put (k := k + 1) (i := 4 + all.length) (s := sec g all.length d) (by omega) (sec_size g all.length d hd)
  rw [e] at o1
  dsimp only at o1 ⊢
  have l1 := hk.failed.put d hd (by omega) (S.ops + 1)
  have j1 : VJ sl g t tr old M { S.fails.1 with waits := S.waits ++ [(4 + all.length, sec g all.length d)], ops := S.ops + 1 } := by
    refine h.put [(4 + all.length, sec g all.length d)] (fails_lasts S).1 rfl (fun x hx => ?_)
    simp only [List.mem_singleton] at hx
    subst hx
    refine ⟨by dsimp only; omega, by dsimp only; omega, sec_size g _ d hd, ?_⟩
    have eo := sec_open g all.length d (by omega) (by omega) hd
    refine ⟨.inl (by rw [eo]), fun _ _ => by rw [eo]; exact Nat.le_refl _, fun q => by dsimp only at q; omega, fun j hj q => ?_⟩
    dsimp only at q
    have := h.hsl
    omega
  have ew : S.fails.1.waits = S.waits := (fails_lasts S).2.1
  rw [ew] at l1
  obtain ⟨S1, hS1⟩ : ∃ S1, ({ S.fails.1 with waits := S.waits ++ [(4 + all.length, sec g all.length d)], ops := S.ops + 1 } : DS) = S1 := ⟨_, rfl⟩
  rw [hS1] at o1 l1 j1 ⊢
  have o2 := ok_sync o1
  rcases sync_cases S1 with ⟨e2, _⟩ | ⟨e2, _⟩
  · rw [e2] at o2 ⊢
    refine ⟨_, 7, all ++ [d], sure, by rw [List.length_append]; rfl, j1.same (fails_lasts S1).1 (fails_lasts S1).2.1, l1.failed, o2, .inr (.inl ⟨by decide, rfl, rfl⟩)⟩
  · rw [e2] at o2 ⊢
    refine ⟨_, 0, all ++ [d], _, by rw [List.length_append]; rfl, j1.settle ?_ rfl, l1.failed.settle _, o2, .inr (.inr ⟨rfl, rfl, rfl⟩)⟩
    show applyW S1.fails.1.lasts (keptW (fun _ => true) 0 S1.fails.1.waits) = S1.read
    rw [(fails_lasts S1).1, (fails_lasts S1).2.1, keptW_all _ _ _ (fun _ _ _ => rfl)]; rfl
theorem set_step (h : VJ sl g t tr old M S) (hl : Logs S g all sure) (x : ByteArray) (hx : x.size ≤ 110) (hM : M + 1 < 1000000) (st : Bool) (hok : So.Ok S 10 (k + 1 + np (summedL x.data.toList).length)) :
    ∃ S' V' q, setS S 2 sl 4 6 g nx st x = (S', V', q) ∧ So.Ok S' 10 k ∧
      ((q ≠ 0 ∧ V' = vaultV 2 sl 4 6 g nx true ∧ ∃ tr' M', VJ sl g t tr' old M' S' ∧ M' ≤ M + 1 ∧ Logs S' g all sure ∧ ∀ y ∈ tr', y ∈ tr ∨ y.2 = x) ∨
       (q = 0 ∧ V' = vaultV 2 (1 - sl) 4 6 (M + 1) 0 false ∧ ∃ old', VJ (1 - sl) (M + 1) x [] old' (M + 1) S' ∧ LK 4 6 (M + 1) [] 0 S')) := by
  have hs := h.hsl
  have hlen := h.len
  have hgM := h.gM
  have hnp := np_size x
  have hpos := np_pos x.data.toList
  obtain ⟨m, w⟩ := wrS_spec ((1 - sl) * 2) (M + 1) (summedL x.data.toList) (np (summedL x.data.toList).length) 0 S (by omega)
  have o1 := So.wr_ok w hok (by omega)
  unfold setS
  rw [h.newest]
  obtain ⟨⟨S1, q1⟩, hW⟩ : ∃ R, wrS ((1 - sl) * 2) (M + 1) (summedL x.data.toList) (np (summedL x.data.toList).length) 0 S = R := ⟨_, rfl⟩
  rw [hW] at w o1 ⊢
  dsimp only at o1 ⊢
  have wl : S1.lasts = S.lasts := w.lasts
  have ww : S1.waits = S.waits ++ ws ((1 - sl) * 2) (M + 1) (summedL x.data.toList) 0 m := w.waits
  have hle := w.le
  have hu : ∀ y ∈ ws ((1 - sl) * 2) (M + 1) (summedL x.data.toList) 0 m, y.1 < 4 := fun y hy => by
    obtain ⟨j, _, j2, rfl⟩ := ws_mem hy
    show (1 - sl) * 2 + j < 4
    omega
  have hlg := hl.more _ wl ww hu
  have key : ∃ tr' M', VJ sl g t tr' old M' S1 ∧ M' ≤ M + 1 ∧ ∀ y ∈ tr', y ∈ tr ∨ y.2 = x := by
    by_cases hm : m = 0
    · subst hm
      exact ⟨tr, M, h.same wl (by rw [ww]; show S.waits ++ [] = S.waits; rw [List.append_nil]), by omega, fun y hy => .inl hy⟩
    · exact ⟨(M + 1, x) :: tr, M + 1, h.tried x m (by omega) (by omega) (show m ≤ tnp (M + 1, x) from hle) hM wl ww, Nat.le_refl _, fun y hy => (List.mem_cons.1 hy).elim (fun e => .inr (by rw [e])) .inl⟩
  by_cases hq1 : q1 ≠ 0
  · rw [if_pos hq1]
    obtain ⟨tr', M', k1, k2, k3⟩ := key
    exact ⟨S1, _, q1, rfl, ok_mono o1 (by omega), .inl ⟨hq1, rfl, tr', M', k1, k2, hlg, k3⟩⟩
  rw [if_neg hq1]
  have o2 := ok_sync o1
  rcases sync_cases S1 with ⟨e2, _⟩ | ⟨e2, _⟩
  · rw [e2] at o2 ⊢
    dsimp only at o2 ⊢
    rw [if_pos (show (7 : Int) ≠ 0 by decide)]
    obtain ⟨tr', M', k1, k2, k3⟩ := key
    exact ⟨_, _, 7, rfl, o2, .inl ⟨by decide, rfl, tr', M', k1.same (fails_lasts S1).1 (fails_lasts S1).2.1, k2, hlg.same (fails_lasts S1).1 (fails_lasts S1).2.1, k3⟩⟩
  · rw [e2] at o2 ⊢
    dsimp only at o2 ⊢
    rw [if_neg (fun y => y rfl)]
    have hmn : m = np (summedL x.data.toList).length := w.all (Decidable.not_not.1 hq1)
    subst hmn
    have jt := h.tried x (np (summedL x.data.toList).length) (by omega) (by omega) (Nat.le_refl _) hM wl ww
    have hrd : ∀ j, j < tnp (M + 1, x) → S1.read.getD ((1 - sl) * 2 + j) ByteArray.empty = tsec (M + 1, x) j := fun j hj => by
      have hj' : j < np (summedL x.data.toList).length := hj
      rw [DS.read, wl, ww, applyW_append, applyW_ws _ _ _ _ _ _ 0 _ (by rw [applyW_len]; omega), if_pos ⟨by omega, by omega⟩, Nat.add_sub_cancel_left]
      rfl
    obtain ⟨S2, hS2⟩ : ∃ S2, ({ S1.fails.1.crash (fun _ => true) with ops := S1.ops + 1 } : DS) = S2 := ⟨_, rfl⟩
    have e3 : S2.lasts = S1.read := by
      rw [← hS2]
      show applyW S1.fails.1.lasts (keptW (fun _ => true) 0 S1.fails.1.waits) = S1.read
      rw [(fails_lasts S1).1, (fails_lasts S1).2.1, keptW_all _ _ _ (fun _ _ _ => rfl)]; rfl
    have e4 : S2.waits = [] := by rw [← hS2]; rfl
    rw [hS2] at o2 ⊢
    exact ⟨S2, _, 0, rfl, o2, .inr ⟨rfl, rfl, _, jt.settled hgM (by omega) hrd e3 e4, (jt.settle e3 e4).lk (by omega) e4⟩⟩
end Go.Proofs.YtknbhgodhmcemaaDoor.Va
namespace Go.Proofs.YtknbhgodhmcemaaDoor.Va
set_option linter.unusedSimpArgs false
set_option linter.unusedVariables false
set_option maxRecDepth 100000
open Go.RowKit Go.Shelf Go.Proofs.YtknbhgodhmcemaaDoor.Own Go.Proofs.YtknbhgodhmcemaaDoor.Cel Go.Proofs.YtknbhgodhmcemaaDoor.Dk Go.Proofs.YtknbhgodhmcemaaDoor.Seg
open Go.Proofs.YtknbhgodhmcemaaDoor.Lg (DY LK)
open Go.Proofs.YtknbhgodhmcemaaDoor.So (np np_size summedL)
variable {w V : World} {p : Nat} {S : DS} {X : List (Nat × Obj)} {v : Value} {xs : List ByteArray} {sl g nx M k : Nat} {st : Bool} {t : ByteArray} {tr : List Tr} {old : Nat → ByteArray} {all : List ByteArray} {sure : Nat}
theorem app_any (hd : DY w p S X v xs V) (hv : VJ sl g t tr old M S) (hl : Logs S g all sure) (hk : st = false → LK 4 6 g all sure S ∧ nx = all.length) (hok : So.Ok S 10 (k + 2)) (d : ByteArray) (hd110 : d.size ≤ 110) (hal : all.length ≤ 6) (hsu : sure ≤ all.length) (hnx : nx ≤ 6) :
    ∃ S' nx' q all' sure', (Calls Tryd.prog 36 #[.agg (vaultV 2 sl 4 6 g nx st), .pointer (some ⟨p, 0, none⟩), .string d] V fun e V' => e = .returned (.tuple #[.agg (vaultV 2 sl 4 6 g nx' st), .int .i64 q]) ∧ DY w p S' X v xs V') ∧
      VJ sl g t tr old M S' ∧ Logs S' g all' sure' ∧ (st = false → LK 4 6 g all' sure' S' ∧ nx' = all'.length) ∧ So.Ok S' 10 k ∧ all'.length ≤ 6 ∧ sure' ≤ all'.length ∧ nx' ≤ 6 ∧
      ((q ≠ 0 ∧ nx' = nx ∧ all' = all ∧ sure' = sure) ∨ (nx' = nx + 1 ∧ all' = all ++ [d] ∧ ((q ≠ 0 ∧ sure' = sure) ∨ (q = 0 ∧ sure' = all'.length)))) := by
  have hg := hv.gM
  have hsm := hv.small
  cases st with
  | true =>
    exact ⟨S, nx, 15, all, sure, (append_stuck 2 sl 4 6 g nx _ d V).mono fun e V' ⟨e1, e2⟩ => ⟨e1, hd.step e2⟩, hv, hl, (fun e => by cases e), ok_mono hok (by omega), hal, hsu, hnx, .inl ⟨by decide, rfl, rfl, rfl⟩⟩
  | false =>
    obtain ⟨hlk, rfl⟩ := hk rfl
    obtain ⟨S', q, all', sure', e, v1, l1, o1, cs⟩ := app_step hv hlk hok d hd110
    have KA := append_calls hd 2 sl 4 6 g all.length d (by decide) (by rw [hv.len]; decide) (by rw [hv.len]; decide) hnx (by omega) hv.ok (by have := hok.arm; omega) (by have := hok.waits; omega) hok.ops0 (by have := hok.ops; omega)
    rw [e] at KA
    dsimp only at KA
    have hn6 := l1.hn
    have hs6 := l1.hs
    refine ⟨S', all'.length, q, all', sure', KA, v1, Logs.of_lk l1 (by omega), fun _ => ⟨l1, rfl⟩, o1, hn6, hs6, hn6, ?_⟩
    rcases cs with ⟨c1, rfl, rfl⟩ | ⟨c1, rfl, rfl⟩ | ⟨c1, rfl, rfl⟩
    · exact .inl ⟨c1, rfl, rfl, rfl⟩
    · exact .inr ⟨by rw [List.length_append]; rfl, rfl, .inl ⟨c1, rfl⟩⟩
    · exact .inr ⟨by rw [List.length_append]; rfl, rfl, .inr ⟨c1, rfl⟩⟩
theorem set_any (hd : DY w p S X v xs V) (hv : VJ sl g t tr old M S) (hl : Logs S g all sure) (hok : So.Ok S 10 (k + 3)) (x : ByteArray) (hx : x.size ≤ 110) (hM : M ≤ 1000) :
    ∃ S' V' q, (Calls Tryd.prog 37 #[.agg (vaultV 2 sl 4 6 g nx st), .pointer (some ⟨p, 0, none⟩), .string x] V fun e W => e = .returned (.tuple #[.agg V', .int .i64 q]) ∧ DY w p S' X v xs W) ∧ So.Ok S' 10 k ∧
      ((q ≠ 0 ∧ V' = vaultV 2 sl 4 6 g nx true ∧ ∃ tr' M', VJ sl g t tr' old M' S' ∧ M' ≤ M + 1 ∧ Logs S' g all sure ∧ ∀ y ∈ tr', y ∈ tr ∨ y.2 = x) ∨
       (q = 0 ∧ V' = vaultV 2 (1 - sl) 4 6 (M + 1) 0 false ∧ ∃ old', VJ (1 - sl) (M + 1) x [] old' (M + 1) S' ∧ LK 4 6 (M + 1) [] 0 S')) := by
  have hnp := np_size x
  have ok2 : So.Ok S 10 (k + 1 + np (summedL x.data.toList).length) := ok_mono hok (by omega)
  obtain ⟨S', V', q, e, o, cs⟩ := set_step (nx := nx) hv hl x hx (by omega) st ok2
  have KS := settle_calls hd 2 sl 4 6 g nx st x ok2 hv.full (by decide) hv.hsl (by decide) (by decide) (by omega) (by rw [hv.newest]; omega)
  rw [e] at KS
  dsimp only at KS
  exact ⟨S', V', q, KS, o, cs⟩
end Go.Proofs.YtknbhgodhmcemaaDoor.Va
namespace Go.Proofs.YtknbhgodhmcemaaDoor.Va
set_option linter.unusedSimpArgs false
set_option linter.unusedVariables false
set_option maxRecDepth 100000
open Go.RowKit Go.Shelf Go.Proofs.YtknbhgodhmcemaaDoor.Own Go.Proofs.YtknbhgodhmcemaaDoor.Cel Go.Proofs.YtknbhgodhmcemaaDoor.Dk Go.Proofs.YtknbhgodhmcemaaDoor.Seg
open Go.Proofs.YtknbhgodhmcemaaDoor.Lg (DY repl RowS ArgK LK)
open Go.Proofs.YtknbhgodhmcemaaDoor.So (np np_size summedL)
structure A16 where
  k : Int
  t : ByteArray
  n : Int
  b : Int
  A : Option Addr
  c : Nat
  ks : List Bool
def Acts (A : Option Addr) (l : List A16) (V : World) : Prop := ∀ j (h : j < l.length), ∃ b o, A = some ⟨b, o, none⟩ ∧
  V.cell? ⟨b, o + j * 5, none⟩ = some (.int .u8 (l[j]'h).k) ∧ V.cell? ⟨b, o + j * 5 + 1, none⟩ = some (.string (l[j]'h).t) ∧ V.cell? ⟨b, o + j * 5 + 2, none⟩ = some (.int .i64 (l[j]'h).n) ∧
  V.cell? ⟨b, o + j * 5 + 3, none⟩ = some (.int .u8 (l[j]'h).b) ∧ V.cell? ⟨b, o + j * 5 + 4, none⟩ = some (.slice (l[j]'h).A (l[j]'h).ks.length (l[j]'h).c) ∧
  ArgK (l[j]'h).A (l[j]'h).ks V ∧ (l[j]'h).ks.length ≤ 9223372036854775807 ∧ (l[j]'h).n ≤ 9223372036854775807
theorem ArgK.far {A : Option Addr} {ks : List Bool} {V V' : World} {B : Nat} (h : ArgK A ks V) (hs : V.heap.size ≤ B) (hb : Below B V V') : ArgK A ks V' := fun i hi => by
  obtain ⟨b, o, e, hc⟩ := h i hi
  have hlt : b < V.heap.size := World.block_lt_of_cell? V _ hc
  exact ⟨b, o, e, (World.cell?_of_block (hb.block b (by omega))).trans hc⟩
theorem Acts.far {A : Option Addr} {l : List A16} {V V' : World} {B : Nat} (h : Acts A l V) (hs : V.heap.size ≤ B) (hb : Below B V V') : Acts A l V' := fun j hj => by
  obtain ⟨b, o, e, h0, h1, h2, h3, h4, h5, h6⟩ := h j hj
  have hlt : b < V.heap.size := World.block_lt_of_cell? V _ h0
  have far : ∀ (q : Nat) (u : Value), V.cell? ⟨b, q, none⟩ = some u → V'.cell? ⟨b, q, none⟩ = some u := fun q u hq => (World.cell?_of_block (hb.block b (by omega))).trans hq
  exact ⟨b, o, e, far _ _ h0, far _ _ h1, far _ _ h2, far _ _ h3, far _ _ h4, ArgK.far h5 hs hb, h6⟩
theorem Acts.keep {A : Option Addr} {l : List A16} {V : World} (h : Acts A l V) (j : Nat) (hj : j < l.length) : ArgK (l[j]'hj).A (l[j]'hj).ks V := by
  obtain ⟨_, _, _, _, _, _, _, _, a, _⟩ := h j hj
  exact a
def sT : ByteArray := ⟨#[116]⟩
theorem keeps_init {S2 : DS} {k : Nat} {a o : Int} (m : Made ⟨List.replicate 10 (sect 0), [], a, o⟩ S2 10 k 1 0 sT) :
    opnS S2 2 = (vaultV 2 0 4 6 1 0 true, sT, [], 0) ∧ ∃ old M, M ≤ 1 ∧ VJ 0 1 sT [] old M S2 ∧ Logs S2 1 [] 0 := by
  obtain ⟨hall, h0, ho⟩ := made_open (n := 2) m (by decide) (by decide) (by decide) (by decide)
  have hnp : np (summedL sT.data.toList).length = 1 := np_size sT
  rw [hnp] at hall
  have hop : ∀ q, q < 10 → (S2.read.getD q ByteArray.empty = sect 0 ∧ 1 ≤ q) ∨ (q = 0 ∧ S2.read.getD q ByteArray.empty = tsec (1, sT) 0) := fun q hq => by
    rcases hall q hq with h | ⟨h1, h2⟩
    · exact .inl h
    · obtain rfl : q = 0 := by omega
      exact .inr ⟨rfl, h2⟩
  obtain ⟨t1, t2, t3⟩ := tsec_open (1, sT) 0 (by decide) (by decide)
  have tn : tnp (1, sT) = 1 := hnp
  obtain ⟨b1, b2, b3, b4⟩ := reopen (S := S2) (k := 0) (g' := 1) (t' := sT) (M := 1) m.waits m.calm.ok.len m.calm.full (by decide) (by decide) (by decide) (Nat.le_refl _)
    (fun q hq => (hop q hq).elim (fun e => by rw [e.1]; exact .inr blank_16) (fun e => by rw [e.2]; exact .inl t1))
    (fun q h4 hq ho => (hop q hq).elim (fun e => by rw [e.1] at ho; exact absurd ho So.blank_open) (fun e => by omega))
    (fun q hq ho => (hop q (by omega)).elim (fun e => by rw [e.1] at ho; exact absurd ho So.blank_open) (fun e => by rw [e.2, t2, t3]; exact ⟨pk_cases _ _, Nat.le_refl _⟩))
    (fun j hj => by
      obtain rfl : j = 0 := by omega
      exact (hop 0 (by decide)).elim (fun e => by have := e.2; omega) (fun e => e.2))
    (fun hw => by
      have := (two_whole hw).1
      rw [(hop 2 (by decide)).elim (fun e => e.1) (fun e => by have := e.1; omega)] at this
      exact absurd this So.blank_open)
  have hr : repl S2.read 4 1 6 0 = [] := by
    have e4 : S2.read.getD (4 + 0) ByteArray.empty = sect 0 := (hop 4 (by decide)).elim (fun e => e.1) (fun e => by have := e.1; omega)
    rw [repl, e4, Lg.dead_rec (Lg.dead_blank 1)]; rfl
  rw [hr] at b4
  exact ⟨ho, _, _, b2, b3, b4⟩
def one (t : ByteArray) : En := ⟨t, .slice none 0 0, [], 0⟩
def KV (w : World) (p b5 i : Nat) (mv : Value) (W : World) : Prop :=
  ∃ (sl g nx : Nat) (st : Bool) (x : En) (ts : List ByteArray) (tr : List Tr) (old : Nat → ByteArray) (M : Nat) (S : DS) (mb mc : Nat) (cur : Array Value),
    mv = .slice (some ⟨mb, 0, none⟩) (ts.length + 1) mc ∧
    DY w p S [(b5, .cells (vaultV 2 sl 4 6 g nx st) 74 (0, 0)), (mb, .cells cur 78 (0, 0))] x.v x.all W ∧
    cur.size = mc * 3 ∧ ts.length + 1 ≤ mc ∧ mc ≤ maxLen ∧ cur.toList.take ((ts.length + 1) * 3) = ecells (x :: ts.map one) ∧
    b5 ≠ mb ∧ w.heap.size ≤ b5 ∧ w.heap.size ≤ mb ∧
    VJ sl g x.t tr old M S ∧ Logs S g x.all x.sure ∧ (st = false → LK 4 6 g x.all x.sure S ∧ nx = x.all.length) ∧
    (∀ y ∈ tr, y.2 ∈ ts) ∧ M ≤ i + 2 ∧ ts.length ≤ i ∧ x.all.length ≤ 6 ∧ x.sure ≤ x.all.length ∧ nx ≤ 6 ∧ So.Ok S 10 (900 - 10 * i)
variable {w V V' : World} {p b5 i : Nat} {sl g nx M : Nat} {st : Bool} {x : En} {tr : List Tr} {old : Nat → ByteArray} {S : DS}
theorem KV.fresh (hd : DY w p S [(b5, .cells (vaultV 2 sl 4 6 g nx st) 74 (0, 0))] x.v x.all V) (cs : Array Value) (hcs : cs = #[.string x.t, x.v, .int .i64 (x.sure : Nat)]) (h5 : w.heap.size ≤ b5) (hv : VJ sl g x.t tr old M S) (hl : Logs S g x.all x.sure)
    (hlk : st = false → LK 4 6 g x.all x.sure S ∧ nx = x.all.length) (htr : ∀ y ∈ tr, y.2 ∈ ([] : List ByteArray)) (hM : M ≤ i + 2) (hal : x.all.length ≤ 6) (hsu : x.sure ≤ x.all.length) (hnx : nx ≤ 6) (hok : So.Ok S 10 (900 - 10 * i)) :
    KV w p b5 i (.slice (some ⟨V.heap.size, 0, none⟩) 1 1) (V.alloc (.cells cs 78)) := by
  subst hcs
  have hlt : b5 < V.heap.size := (Array.getElem?_eq_some_iff.1 (hd.at List.mem_cons_self)).1
  have hw := hd.bel.size
  have h2 := hd.add ((Below.refl V.heap.size V).alloc (Nat.le_refl _) (.cells #[.string x.t, x.v, .int .i64 (x.sure : Nat)] 78)) (Nat.le_refl _) (heap_alloc_new V _)
  exact ⟨sl, g, nx, st, x, [], tr, old, M, S, V.heap.size, 1, _, rfl, h2.sub (fun y hy => by simp only [List.mem_cons, List.not_mem_nil, or_false] at hy ⊢; exact hy.symm), rfl, Nat.le_refl _, by decide, rfl, by omega, h5, hw, hv, hl, hlk, htr, hM, Nat.zero_le _, hal, hsu, hnx, hok⟩
theorem KV.again {B mb mc : Nat} {ts : List ByteArray} {cur : Array Value} {X : List (Nat × Obj)} (hd : DY w p S X x.v x.all V) (hX : (b5, .cells (vaultV 2 sl 4 6 g nx st) 74 (0, 0)) ∈ X ∧ (mb, .cells cur 78 (0, 0)) ∈ X)
    (HL : b5 < B ∧ mb < B ∧ b5 ≠ mb ∧ w.heap.size ≤ b5 ∧ w.heap.size ≤ mb) (HC : cur.size = mc * 3 ∧ ts.length + 1 ≤ mc ∧ mc ≤ maxLen ∧ cur.toList.take ((ts.length + 1) * 3) = ecells (x :: ts.map one))
    (HV : VJ sl g x.t tr old M S ∧ Logs S g x.all x.sure ∧ (st = false → LK 4 6 g x.all x.sure S ∧ nx = x.all.length) ∧ ∀ y ∈ tr, y.2 ∈ ts)
    (HS : M ≤ i + 2 ∧ ts.length ≤ i ∧ x.all.length ≤ 6 ∧ x.sure ≤ x.all.length ∧ nx ≤ 6 ∧ So.Ok S 10 (900 - 10 * i)) : KV w p b5 i (.slice (some ⟨mb, 0, none⟩) (ts.length + 1) mc) V :=
  ⟨sl, g, nx, st, x, ts, tr, old, M, S, mb, mc, cur, rfl, hd.sub (fun y hy => by
    simp only [List.mem_cons, List.not_mem_nil, or_false] at hy
    rcases hy with rfl | rfl
    · exact hX.1
    · exact hX.2), HC.1, HC.2.1, HC.2.2.1, HC.2.2.2, HL.2.2.1, HL.2.2.2.1, HL.2.2.2.2, HV.1, HV.2.1, HV.2.2.1, HV.2.2.2, HS.1, HS.2.1, HS.2.2.1, HS.2.2.2.1, HS.2.2.2.2.1, HS.2.2.2.2.2⟩
theorem hs_mono {ts : List ByteArray} (HS : M ≤ i + 2 ∧ ts.length ≤ i ∧ x.all.length ≤ 6 ∧ x.sure ≤ x.all.length ∧ nx ≤ 6 ∧ So.Ok S 10 (900 - 10 * i)) : M ≤ i + 1 + 2 ∧ ts.length ≤ i + 1 ∧ x.all.length ≤ 6 ∧ x.sure ≤ x.all.length ∧ nx ≤ 6 ∧ So.Ok S 10 (900 - 10 * (i + 1)) :=
  ⟨by omega, by omega, HS.2.2.1, HS.2.2.2.1, HS.2.2.2.2.1, ok_mono HS.2.2.2.2.2 (by omega)⟩
theorem hc_all {cur : Array Value} {N : Nat} {es : List En} {x : En} (h : cur.toList.take N = ecells (x :: es)) (v' : Value) (all' : List ByteArray) : (cur.setIfInBounds 1 v').toList.take N = ecells (⟨x.t, v', all', x.sure⟩ :: es) := by
  rw [Array.toList_setIfInBounds, List.take_set, h]; rfl
theorem hc_sure {cur : Array Value} {N : Nat} {es : List En} {x : En} (h : cur.toList.take N = ecells (x :: es)) (k : Nat) : (cur.setIfInBounds 2 (.int .i64 (k : Nat))).toList.take N = ecells (⟨x.t, x.v, x.all, k⟩ :: es) := by
  rw [Array.toList_setIfInBounds, List.take_set, h]; rfl
theorem hc_at {cur : Array Value} {N : Nat} {es : List En} {x : En} (h : cur.toList.take N = ecells (x :: es)) (k : Nat) (u : Value) (hu : x.cells[k]? = some u) : cur[k]? = some u := by
  have e : (ecells (x :: es))[k]? = some u := by have := ecells_get (x :: es) 0 (by simp) k u hu; simpa using this
  rw [← h, List.getElem?_take] at e
  split at e
  · rw [← Array.getElem?_toList]; exact e
  · cases e
theorem hc_every {cur : Array Value} {N : Nat} {l : List Value} (h : cur.toList.take N = l) (k : Nat) (u : Value) (hu : l[k]? = some u) : cur[k]? = some u := by
  rw [← h, List.getElem?_take] at hu
  split at hu
  · rw [← Array.getElem?_toList]; exact hu
  · cases hu
theorem app_row (V : World) (base : Nat) (v : Value) (xs : List ByteArray) (hown : V.ownsRow base 9 1 v xs.length (strs xs)) (hb : base ≤ V.heap.size) (hl : xs.length ≤ 1000) (b : Nat) (d : ByteArray) (hz : V.heap[b]? = some (.cells #[.string d] 9 (0, 0))) :
    ∃ v' V', (Builtin.append_ #[22, 22] 22 #[v, .slice (some ⟨b, 0, none⟩) 1 1]).run Tryd.prog V = .ok v' V' ∧ V'.ownsRow base 9 1 v' (xs.length + 1) (strs xs ++ strs [d]) ∧ V.grownBy V' v.ownBlock ∧ ∀ q, v'.ownBlock = some q → v.ownBlock = some q ∨ V.heap.size ≤ q := by
  obtain ⟨i0, hi0, hz0, hz1, hz2⟩ := info_parts infoS
  have hn : ∀ (j : Nat) (u : Value), (strs [d])[j]? = some u → V.cell? ((⟨b, 0, none⟩ : Addr).add j) = some u := fun j u hj => by
    rcases j with _ | j
    · have e : (strs [d])[0]? = some (.string d) := rfl
      rw [e] at hj
      injection hj with hj
      subst hj
      exact cell_of_row V b 0 _ _ _ hz
    · simp [strs] at hj
  obtain ⟨v', V', hr, ho, hg, _⟩ := run_append_own (P := Tryd.prog) V base 22 22 9 i0 _ 1 _ Tryd.underlying22 hi0 hz0 hz1 hz2 rfl (by decide) v xs.length (strs xs) hown ⟨b, 0, none⟩ 1 1 (strs [d]) rfl hn (strs_one [d]) (by unfold maxLen; omega) (by omega) hb
  exact ⟨v', V', hr, ho, hg, Lg.append_where (P := Tryd.prog) V base 22 22 9 i0 _ 1 _ Tryd.underlying22 hi0 hz0 hz1 hz2 rfl v xs.length (strs xs) hown ⟨b, 0, none⟩ 1 1 (strs [d]) rfl hn (strs_one [d]) (by decide) (by unfold maxLen; omega) (by omega) hr⟩
theorem DY.swap {X : List (Nat × Obj)} {v u : Value} {xs rs : List ByteArray} (h : DY w p S X v xs V) (hb : Below V.heap.size V V') (hr : V'.ownsRow V.heap.size 9 1 u rs.length (strs rs)) : DY w p S X u rs V' := by
  have h2 := h.step hb
  obtain ⟨F, d, b, hx, r, n⟩ := h
  obtain ⟨_, _, b', _, _, _⟩ := h2
  refine ⟨F, d.below hb, b', fun y hy => ?_, owns_mono hr b.size, fun k hk hf => ?_⟩
  · obtain ⟨a1, a2, a3⟩ := hx y hy
    have hlt : y.1 < V.heap.size := (Array.getElem?_eq_some_iff.1 a1).1
    exact ⟨Own.keep a1 hb, a2, fun e => by have := (hr.lt y.1 e).1; omega⟩
  · have := (hr.lt k hk).1
    have := (d.lt hf).2
    omega
theorem DY.none {X : List (Nat × Obj)} {v : Value} {xs : List ByteArray} (h : DY w p S X v xs V) : DY w p S X (.slice none 0 0) [] V := by
  obtain ⟨F, d, b, hx, r, n⟩ := h
  exact ⟨F, d, b, fun y hy => ⟨(hx y hy).1, (hx y hy).2.1, by simp [Value.ownBlock]⟩, World.ownsRow_nil _ _ _ _, fun k e => absurd e (by simp [Value.ownBlock])⟩
theorem DY.reads {X : List (Nat × Obj)} {x : En} (h : DY w p S X x.v x.all V) (hl : x.all.length ≤ 6) : x.reads V := by
  obtain ⟨F, d, b, hx, r, n⟩ := h
  rcases r.2 with ⟨e, h0⟩ | ⟨gg, cap, cur, e, _, _, hn, _, _, _⟩
  · exact .inl ⟨e, List.length_eq_zero_iff.1 h0⟩
  · refine .inr ⟨gg, cap, e, hn, ?_, by omega⟩
    have r2 := r
    rw [e] at r2
    exact RowS.owns r2 rfl
theorem row_reads {base : Nat} {u : Value} {rs : List ByteArray} (r : V.ownsRow base 9 1 u rs.length (strs rs)) : ∃ A c, u = .slice A rs.length c ∧ RowS A rs V := by
  obtain ⟨A, c, rfl⟩ := owns_slice r
  exact ⟨A, c, rfl, RowS.owns r rfl⟩
theorem infoEz : (Tryd.prog.info? 78).map (fun i => (i.zero, i.size, i.bytes)) = some (some (.agg zE), 3, 48) := by kernel_rfl
theorem may_append {mb mc : Nat} {ts : List ByteArray} {cur : Array Value} {X : List (Nat × Obj)} (hd : DY w p S ((mb, .cells cur 78 (0, 0)) :: X) x.v x.all V) (hX : ∀ y ∈ X, y.1 ≠ mb) (hw : w.heap.size ≤ mb)
    (HC : cur.size = mc * 3 ∧ ts.length + 1 ≤ mc ∧ mc ≤ maxLen ∧ cur.toList.take ((ts.length + 1) * 3) = ecells (x :: ts.map one)) (hts : ts.length ≤ 1000) (b : Nat) (d : ByteArray) (hz : V.heap[b]? = some (.cells #[.string d, .slice none 0 0, .int .i64 0] 78 (0, 0))) :
    ∃ mb' mc' cur' V', (Builtin.append_ #[79, 79] 79 #[.slice (some ⟨mb, 0, none⟩) (ts.length + 1) mc, .slice (some ⟨b, 0, none⟩) 1 1]).run Tryd.prog V = .ok (.slice (some ⟨mb', 0, none⟩) (ts.length + 1 + 1) mc') V' ∧
      DY w p S ((mb', .cells cur' 78 (0, 0)) :: X) x.v x.all V' ∧ (mb' = mb ∨ V.heap.size ≤ mb') ∧ (cur'.size = mc' * 3 ∧ (ts ++ [d]).length + 1 ≤ mc' ∧ mc' ≤ maxLen ∧ cur'.toList.take (((ts ++ [d]).length + 1) * 3) = ecells (x :: (ts ++ [d]).map one)) := by
  obtain ⟨i0, hi0, hz0, hz1, hz2⟩ := info_parts infoEz
  have hbw := hd.bel.size
  have hat := hd.at List.mem_cons_self
  have hlt : mb < V.heap.size := (Array.getElem?_eq_some_iff.1 hat).1
  have hel : (ecells (x :: ts.map one)).length = (ts.length + 1) * 3 := by rw [ecells_len, List.length_cons, List.length_map]
  have own : V.ownsRow w.heap.size 78 3 (.slice (some ⟨mb, 0, none⟩) (ts.length + 1) mc) (ts.length + 1) (ecells (x :: ts.map one)) :=
    ⟨hel, .inr ⟨mb, mc, cur, rfl, hw, hat, HC.2.1, HC.2.2.1, HC.1, HC.2.2.2⟩⟩
  have hn : ∀ (j : Nat) (u : Value), (ecells [one d])[j]? = some u → V.cell? ((⟨b, 0, none⟩ : Addr).add j) = some u := fun j u hj => by
    rw [addr_add, Nat.zero_add]
    refine (cell_of_row V b j _ _ _ hz).trans ?_
    have e : ecells [one d] = (#[.string d, .slice none 0 0, .int .i64 0] : Array Value).toList := rfl
    rw [e] at hj
    rw [← Array.getElem?_toList]; exact hj
  have h1 : ∀ u ∈ ecells [one d], u.oneCell' = true := fun u hu => by
    have e : ecells [one d] = [.string d, .slice none 0 0, .int .i64 0] := rfl
    rw [e] at hu
    simp only [List.mem_cons, List.not_mem_nil, or_false] at hu
    rcases hu with rfl | rfl | rfl <;> rfl
  obtain ⟨v', V', hr, ho, hg, _⟩ := run_append_own (P := Tryd.prog) V w.heap.size 79 79 78 i0 _ 3 _ Tryd.underlying79 hi0 hz0 hz1 hz2 rfl (by decide) _ (ts.length + 1) _ own ⟨b, 0, none⟩ 1 1 (ecells [one d]) rfl hn h1 (by unfold maxLen; omega) (by omega) hbw
  have hf := Lg.append_where (P := Tryd.prog) V w.heap.size 79 79 78 i0 _ 3 _ Tryd.underlying79 hi0 hz0 hz1 hz2 rfl _ (ts.length + 1) _ own ⟨b, 0, none⟩ 1 1 (ecells [one d]) rfl hn h1 (by decide) (by unfold maxLen; omega) (by omega) hr
  rcases ho.2 with ⟨_, e⟩ | ⟨mb', mc', cur', rfl, hg0, hg1, hg2, hg3, hg4, hg5⟩
  · omega
  have hwh : mb' = mb ∨ V.heap.size ≤ mb' := (hf mb' rfl).imp (fun e => by simp [Value.ownBlock] at e; exact e.symm) id
  refine ⟨mb', mc', cur', V', hr, ?_, hwh, hg4, by rw [List.length_append]; exact hg2, hg3, ?_⟩
  · obtain ⟨F, dk, bl, hx, r, nn⟩ := hd
    obtain ⟨m1, m2, m3⟩ := hx _ List.mem_cons_self
    dsimp only at m2 m3
    have blk : ∀ k, k < V.heap.size → k ≠ mb → V'.heap[k]? = V.heap[k]? := fun k hk hne => hg.block k hk (fun e => hne (by simp [Value.ownBlock] at e; exact e))
    refine ⟨F, dk.keep (fun k hk => blk k (dk.lt hk).2 (fun e => m2 (e ▸ hk))), bl.grown hg bl.size (fun q e => by simp [Value.ownBlock] at e; omega), fun y hy => ?_, owns_block r (fun k e => blk k (r.lt k e).2 (fun e2 => m3 (e2 ▸ e))), nn⟩
    rcases List.mem_cons.1 hy with rfl | hy
    · refine ⟨hg1, fun hk => ?_, fun e => ?_⟩
      · rcases hwh with e | e
        · exact m2 (e ▸ hk)
        · have h1 : mb' < V.heap.size := (dk.lt hk).2
          omega
      · rcases hwh with e2 | e2
        · exact m3 (e2 ▸ e)
        · have h1 : mb' < V.heap.size := (r.lt mb' e).2
          omega
    · obtain ⟨a1, a2, a3⟩ := hx y (List.mem_cons_of_mem _ hy)
      exact ⟨(blk y.1 (Array.getElem?_eq_some_iff.1 a1).1 (hX y hy)).trans a1, a2, a3⟩
  · rw [List.length_append, List.map_append, ← List.cons_append, ecells_append]
    exact hg5
theorem wp_append_run {P : Program} {o : Oper} {a : Act} {w : World} {K : Act → World → Prop} {Q : Exit → Act → World → Prop} (s x : Operand) (t : TypeId) (ho : o.op = .call { callee := .builtin .append, args := #[s, x], argTypes := #[t, t] })
    (v y : Value) (hs : a.eval s = v) (hx : a.eval x = y) {v' : Value} {w' : World} (hr : (Builtin.append_ #[t, t] o.type #[v, y]).run P w = .ok v' w') (h : K (a.put o.dst v') w') : o.wp P a w K Q := by
  unfold Oper.wp execOp
  simp only [ho, resolve, invoke, builtin, Sem.run_bind, Sem.run_pure, Result.andThen_ok, List.map_toArray, List.map_cons, List.map_nil, hs, hx, hr]
  exact h
theorem wpList_append_run {P : Program} {ops : Array Oper} {rest : List Oper} {o : Oper} {a : Act} {w : World} {Q : Exit → Act → World → Prop} (hgd : o.guard = none) (s x : Operand) (t : TypeId) (ho : o.op = .call { callee := .builtin .append, args := #[s, x], argTypes := #[t, t] })
    (v y : Value) (hs : a.eval s = v) (hx : a.eval x = y) {v' : Value} {w' : World} (hr : (Builtin.append_ #[t, t] o.type #[v, y]).run P w = .ok v' w') (h : wpList P ops Q rest (a.put o.dst v') w') : wpList P ops Q (o :: rest) a w :=
  wpList_plain hgd fun K hK => wp_append_run s x t ho v y hs hx hr (hK _ _ h)
abbrev zA : Array Value := #[.int .u8 0, .string ⟨#[]⟩, .int .i64 0, .int .u8 0, .slice none 0 0]
theorem infoA : (Tryd.prog.info? 81).map (·.size) = some 5 := by kernel_rfl
end Go.Proofs.YtknbhgodhmcemaaDoor.Va
