/- Texts of the seat, as far as the row needs them. -/
import Derived.Below
import Derived.BigQuiet
import Derived.Deep.CutBlock
import Derived.Deep.DeepCutAuto
import Derived.Deep.DeepFit
import Derived.Deep.Light
import Derived.Deep.LoopGhost
import Derived.Deep.QuietTactic
import Derived.Deep.RegionHeld3
import Derived.Ground.Names2Prog
import Derived.Laws.AppendOwn
import Derived.Laws.BitsAllLaws
import Derived.Laws.BitsLemmas
import Derived.Laws.CopyOwn
import Derived.Laws.Externs
import Derived.Laws.IdiomCopy
import Derived.Laws.IdiomStrings
import Derived.Laws.OwnMore
import Derived.Laws.ResultCell
import Derived.Laws.Rows
import Derived.Laws.StructEq
import Derived.Laws.Tables
import Derived.Lib.AppendStr
import Derived.Lib.FrozenHead2
import Derived.Lib.OthersKept
import Derived.Lib.RepeatB
import Derived.Lib.TrimByte
import Derived.Lib.UnsafeStr
import Derived.LoopIn
import Derived.LoopNIn
import Derived.Maps.Own
import Derived.Maps.OwnOps
import Derived.Maps.OwnSet
import Derived.Maps.Views
import Derived.OrdersHeld
import Derived.Outline
import Derived.OwnWalk
import Derived.OwnWalkIn
import Derived.RangeFuncBound
import Derived.RangeFuncCalls
import Derived.RangeFuncLeaves
import Derived.RangeFuncNested
import Derived.Shelf.Abstract
import Derived.Shelf.Bits.Mul64
import Derived.Shelf.RegionOpen
import Derived.Shelf.Slices.Clone
import Derived.Shelf.Small.Strs
import Derived.Shelf.Small.Utf8
import Derived.Shelf.Strings.AsciiSet
import Derived.Shelf.Strings.Builder1
import Derived.Shelf.Strings.Builder2
import Derived.Shelf.Strings.Builder2Cap
import Derived.Shelf.Strings.BuilderCap
import Derived.Shelf.Strings.BuilderF
import Derived.Shelf.Strings.BuilderK
import Derived.Shelf.Strings.Prefix
import Derived.Shelf.Strings.Repeat
import Derived.Shelf.Strings.Runes
import Derived.Shelf.Strings.Search1
import Derived.Shelf.Strings.Trim
import Derived.Shelf.Unicode.DecodeSlow
import Derived.StillTailTactics
import Derived.TacticsInMore
import Derived.Test.YtknbhgodhmcemaaDoorProg
import Derived.WalkKit
import Derived.WalkMore
import Derived.Test.YtknbhgodhmcemaaDoorQSlotPlays0
import Derived.Test.YtknbhgodhmcemaaDoorQSlotPlays1
import Derived.Test.YtknbhgodhmcemaaDoorQSlotPlays2
import Derived.Test.YtknbhgodhmcemaaDoorQSlotPlays3
set_option linter.unusedVariables false
set_option linter.unusedSimpArgs false
namespace Go.Proofs.YtknbhgodhmcemaaDoor.Dk
set_option linter.unusedSimpArgs false
set_option linter.unusedVariables false
set_option maxRecDepth 100000
open Go.RowKit Go.Proofs.YtknbhgodhmcemaaDoor.Own Go.Proofs.YtknbhgodhmcemaaDoor.Cel
set_option maxHeartbeats 8000000 in
theorem rrot_no {G : Nat → Prop} {lv wv : Value} {S : DS} {V : World} (h : RK G lv wv S V) (i j : Int) (x : Nat) (hl : S.lasts.length ≤ 100000) (hno : ¬ ((0 ≤ i ∧ i < (S.lasts.length : Int)) ∧ 0 ≤ j ∧ j < 128)) :
    Calls Tryd.prog 26 #[.agg (mvV lv wv S), .int .i64 i, .int .i64 j, .int .u8 (x : Nat)] V fun e V' => ∃ mv', e = .returned (.agg mv') ∧ Rid G mv' S V V' := by
  obtain ⟨Al, cl, rfl, hlc⟩ := h.lcell
  obtain ⟨nl, hnl⟩ : ∃ n, S.lasts.length = n := ⟨_, rfl⟩
  have hwo := owns_cell1 h.2.1
  have hb := ((Below.refl V.heap.size V).alloc (Nat.le_refl _) (.cells (mvV (.slice Al S.lasts.length cl) wv S) 50)).alloc (by simp) (.cells zM 50)
  have z3 : ((V.alloc (.cells (mvV (.slice Al S.lasts.length cl) wv S) 50)).alloc (.cells zM 50)).heap[V.heap.size]? = some (.cells (mvV (.slice Al S.lasts.length cl) wv S) 50 (0, 0)) := Own.keep (heap_alloc_new V _) ((Below.refl _ _).alloc (Nat.le_refl _) _)
  have z6 : ((V.alloc (.cells (mvV (.slice Al S.lasts.length cl) wv S) 50)).alloc (.cells zM 50)).heap[V.heap.size + 1]? = some (.cells zM 50 (0, 0)) := by
    have := heap_alloc_new (V.alloc (.cells (mvV (.slice Al S.lasts.length cl) wv S) 50)) (.cells zM 50)
    simpa using this
  have k0 : ((V.alloc (.cells (mvV (.slice Al S.lasts.length cl) wv S) 50)).alloc (.cells zM 50)).cell? ⟨V.heap.size, 0, none⟩ = some (.slice Al S.lasts.length cl) := cell_of_row _ _ 0 _ _ _ z3
  have iM := infoMS (.slice Al S.lasts.length cl) wv S
  have oM := mvV_one (.slice Al S.lasts.length cl) wv S rfl hwo
  have QUIT := Asd.mk (show ∀ (cs : Array Value), Rid G (mvV (.slice Al S.lasts.length cl) wv S) S V (((V.alloc (.cells (mvV (.slice Al S.lasts.length cl) wv S) 50)).alloc (.cells zM 50)).setRow (V.heap.size + 1) cs) from fun cs =>
    ⟨G, ⟨_, _, rfl, h.below (below_setRow hb (by omega) cs)⟩, below_setRow hb (by omega) cs, fun k hk => .inl hk⟩)
  rw [hnl] at hl iM oM z3 z6 k0 QUIT hno ⊢
  clear h hlc hb hnl hwo
  by_cases a1 : i < 0
  · have t0 : decide (i < 0) = true := decide_eq_true a1
    clear hno a1
    go_enter Tryd.func26, Tryd.ntmps26
    go_wp2_with (first | refine wpList_load_row rfl 50 _ rfl V.heap.size rfl 50 _ (0, 0) _ z3 Tryd.underlying50 rfl iM ?_ | refine wpList_store_row rfl 50 _ _ rfl (V.heap.size + 1) (mvV (.slice Al nl cl) wv S) rfl rfl 50 _ z6 iM rfl oM ?_ | fail)
    exact bodyPost_ret (end_cell0 rfl _ _ _ _ _ z6 rfl Tryd.underlying50 rfl iM) rfl ⟨_, rfl, QUIT.out _⟩
  have t0 : decide (i < 0) = false := decide_eq_false a1
  by_cases a2 : (nl : Int) ≤ i
  · have t1 : decide ((nl : Int) ≤ i) = true := decide_eq_true a2
    clear hno a1 a2
    go_enter Tryd.func26, Tryd.ntmps26
    go_wp2_with (first | refine wpList_load_row rfl 50 _ rfl V.heap.size rfl 50 _ (0, 0) _ z3 Tryd.underlying50 rfl iM ?_ | refine wpList_store_row rfl 50 _ _ rfl (V.heap.size + 1) (mvV (.slice Al nl cl) wv S) rfl rfl 50 _ z6 iM rfl oM ?_ | fail)
    exact bodyPost_ret (end_cell0 rfl _ _ _ _ _ z6 rfl Tryd.underlying50 rfl iM) rfl ⟨_, rfl, QUIT.out _⟩
  have t1 : decide ((nl : Int) ≤ i) = false := decide_eq_false a2
  by_cases a3 : j < 0
  · have t2 : decide (j < 0) = true := decide_eq_true a3
    clear hno a1 a2 a3
    go_enter Tryd.func26, Tryd.ntmps26
    go_wp2_with (first | refine wpList_load_row rfl 50 _ rfl V.heap.size rfl 50 _ (0, 0) _ z3 Tryd.underlying50 rfl iM ?_ | refine wpList_store_row rfl 50 _ _ rfl (V.heap.size + 1) (mvV (.slice Al nl cl) wv S) rfl rfl 50 _ z6 iM rfl oM ?_ | fail)
    exact bodyPost_ret (end_cell0 rfl _ _ _ _ _ z6 rfl Tryd.underlying50 rfl iM) rfl ⟨_, rfl, QUIT.out _⟩
  have t2 : decide (j < 0) = false := decide_eq_false a3
  have t3 : decide (128 ≤ j) = true := decide_eq_true (by omega)
  clear hno a1 a2 a3
  go_enter Tryd.func26, Tryd.ntmps26
  go_wp2_with (first | refine wpList_load_row rfl 50 _ rfl V.heap.size rfl 50 _ (0, 0) _ z3 Tryd.underlying50 rfl iM ?_ | refine wpList_store_row rfl 50 _ _ rfl (V.heap.size + 1) (mvV (.slice Al nl cl) wv S) rfl rfl 50 _ z6 iM rfl oM ?_ | fail)
  exact bodyPost_ret (end_cell0 rfl _ _ _ _ _ z6 rfl Tryd.underlying50 rfl iM) rfl ⟨_, rfl, QUIT.out _⟩
theorem SR.keep {W W' : World} {b : Nat} {l : List UInt8} (h : SR W b l) (e : W'.heap[b]? = W.heap[b]?) : SR W' b l := by
  obtain ⟨cur, lo, hi, h1, h2, h3⟩ := h
  exact ⟨cur, lo, hi, e.trans h1, h2, h3⟩
set_option maxHeartbeats 8000000 in
theorem rrot_yes {G : Nat → Prop} {lv wv : Value} {S : DS} {V : World} (h : RK G lv wv S V) (q a x : Nat) (hl : S.lasts.length ≤ 100000) (hq : q < S.lasts.length) (ha : a < 128) (hx : x < 256) (hsz : ∀ s ∈ S.lasts, s.size = 128) :
    Calls Tryd.prog 26 #[.agg (mvV lv wv S), .int .i64 (q : Nat), .int .i64 (a : Nat), .int .u8 (x : Nat)] V fun e V' => ∃ mv', e = .returned (.agg mv') ∧ Rid G mv' { S with lasts := S.lasts.set q (turnS (S.lasts.getD q ByteArray.empty) a x) } V V' := by
  obtain ⟨Al, cl, rfl, hlc⟩ := h.lcell
  obtain ⟨nl, hnl⟩ : ∃ n, S.lasts.length = n := ⟨_, rfl⟩
  have hwo := owns_cell1 h.2.1
  obtain ⟨gl, rfl, hc0⟩ := hlc q hq
  obtain ⟨s, hs⟩ : ∃ s, S.lasts[q]'hq = s := ⟨_, rfl⟩
  have hgd : S.lasts.getD q ByteArray.empty = s := by rw [List.getD_eq_getElem?_getD, List.getElem?_eq_getElem hq, hs]; rfl
  have hs128 : s.size = 128 := hsz s (by rw [← hs]; exact List.getElem_mem _)
  rw [hs] at hc0
  rw [hgd]
  have hb := ((Below.refl V.heap.size V).alloc (Nat.le_refl _) (.cells (mvV (.slice (some ⟨gl, 0, none⟩) S.lasts.length cl) wv S) 50)).alloc (by simp) (.cells zM 50)
  have z4 : ((V.alloc (.cells (mvV (.slice (some ⟨gl, 0, none⟩) S.lasts.length cl) wv S) 50)).alloc (.cells zM 50)).heap[V.heap.size]? = some (.cells (mvV (.slice (some ⟨gl, 0, none⟩) S.lasts.length cl) wv S) 50 (0, 0)) := Own.keep (heap_alloc_new V _) ((Below.refl _ _).alloc (Nat.le_refl _) _)
  have z8 : ((V.alloc (.cells (mvV (.slice (some ⟨gl, 0, none⟩) S.lasts.length cl) wv S) 50)).alloc (.cells zM 50)).heap[V.heap.size + 1]? = some (.cells zM 50 (0, 0)) := by
    have := heap_alloc_new (V.alloc (.cells (mvV (.slice (some ⟨gl, 0, none⟩) S.lasts.length cl) wv S) 50)) (.cells zM 50)
    simpa using this
  obtain ⟨W0, hW0⟩ : ∃ W0, (V.alloc (.cells (mvV (.slice (some ⟨gl, 0, none⟩) S.lasts.length cl) wv S) 50)).alloc (.cells zM 50) = W0 := ⟨_, rfl⟩
  rw [hW0] at hb z4 z8
  have hs0 : W0.heap.size = V.heap.size + 1 + 1 := by rw [← hW0]; simp
  have kq : W0.cell? ⟨gl, q, none⟩ = some (.string s) := (World.cell?_of_block (hb.block gl (World.block_lt_of_cell? V _ hc0))).trans hc0
  have k40 : W0.cell? ⟨V.heap.size, 0, none⟩ = some (.slice (some ⟨gl, 0, none⟩) S.lasts.length cl) := cell_of_row _ _ 0 _ _ _ z4
  obtain ⟨W1, cp, hcv, hb1, hsr⟩ := str_row s W0
  have hll : s.data.toList.length = s.size := by rw [Array.length_toList]; rfl
  have hcl := hsr.cell a (by rw [hll, hs128]; exact ha)
  have hfz := hsr.frozen a (by rw [hll, hs128]; exact ha)
  obtain ⟨y, hy⟩ : ∃ y, (s.data.toList.getD a 0).toNat = y := ⟨_, rfl⟩
  have hy8 : y < 256 := by rw [← hy]; exact (s.data.toList.getD a 0).toNat_lt
  have hxor := u8_xor_nat y x hy8 hx
  have hxl : y ^^^ x < 256 := Nat.xor_lt_two_pow (n := 8) hy8 hx
  have hv : (UInt8.ofNat (y ^^^ x)).toNat = y ^^^ x := by rw [UInt8.toNat_ofNat']; exact Nat.mod_eq_of_lt hxl
  have hput := hsr.put a (UInt8.ofNat (y ^^^ x))
  rw [hv] at hput
  have hz : (⟨(s.data.toList.set a (UInt8.ofNat (y ^^^ x))).toArray⟩ : ByteArray) = turnS s a x := by rw [turnS, hy]
  rw [hy] at hcl
  obtain ⟨zz, hzz⟩ : ∃ z, y ^^^ x = z := ⟨_, rfl⟩
  rw [hzz] at hxor hput hz
  rw [hs0] at hcv hcl hfz hput
  have bS := hb1.setCell (p := ⟨V.heap.size + 1 + 1, a, none⟩) (by show W0.heap.size ≤ V.heap.size + 1 + 1; omega) (.int .u8 (zz : Nat))
  obtain ⟨W2, hW2⟩ : ∃ W2, W1.setCell ⟨V.heap.size + 1 + 1, a, none⟩ (.int .u8 (zz : Nat)) = W2 := ⟨_, rfl⟩
  rw [hW2] at bS hput
  have bA := bS.alloc bS.size (.cells #[] 9)
  have own6 : (W2.alloc (.cells #[] 9)).ownsRow V.heap.size 9 1 (.slice (some ⟨W2.heap.size, 0, none⟩) 0 0) 0 [] :=
    ⟨rfl, .inr ⟨W2.heap.size, 0, #[], rfl, by have := bS.size; omega, heap_alloc_new W2 _, Nat.le_refl _, by decide, rfl, rfl⟩⟩
  obtain ⟨g, cap, V1, hr, ho, hg, hf⟩ := sapp (W2.alloc (.cells #[] 9)) V.heap.size _ 0 [] own6 (by have := bA.size; omega) _ S.lasts (owns_keep h.1 (hb.trans (bA.mono hb.size))) (by omega) (by omega)
  have hsr2 : W2.heap.size < (W2.alloc (.cells #[] 9)).heap.size := by simp
  have hb9 : V.heap.size + 1 + 1 < W2.heap.size := by
    obtain ⟨cur, lo, hi, e, _⟩ := hput
    exact (Array.getElem?_eq_some_iff.1 e).1
  have bB := bA.grown hg (by have := bA.size; omega) (fun p e => by simp [Value.ownBlock] at e; omega)
  have hgV : W2.heap.size ≤ g := by
    rcases hf with e | e
    · simp [Value.ownBlock] at e; omega
    · omega
  rw [Nat.zero_add, List.nil_append] at ho
  rw [Nat.zero_add] at hr
  have z4b := (bB.block V.heap.size (by omega)).trans z4
  have z8b := (bB.block (V.heap.size + 1) (by omega)).trans z8
  have kA : (W2.alloc (.cells #[] 9)).cell? ⟨V.heap.size, 0, none⟩ = some (.slice (some ⟨gl, 0, none⟩) S.lasts.length cl) := cell_of_row _ _ 0 _ _ _ ((bA.block V.heap.size (by omega)).trans z4)
  have kB : V1.cell? ⟨V.heap.size, 0, none⟩ = some (.slice (some ⟨gl, 0, none⟩) S.lasts.length cl) := cell_of_row _ _ 0 _ _ _ z4b
  have fB : V1.frozen? ⟨V.heap.size, 0, none⟩ = false := frozen_of_row _ _ 0 _ _ z4b
  have z4c := heap_setCell_same V1 V.heap.size 0 _ _ (.slice (some ⟨g, 0, none⟩) S.lasts.length cap) z4b
  have srV : SR V1 (V.heap.size + 1 + 1) (s.data.toList.set a (UInt8.ofNat zz)) := by
    refine hput.keep ((hg.block (V.heap.size + 1 + 1) (by omega) (fun e => ?_)).trans (Below.heap_alloc W2 _ _ hb9))
    simp [Value.ownBlock] at e; omega
  have hstr := (srV.keep (W' := V1.setCell ⟨V.heap.size, 0, none⟩ (.slice (some ⟨g, 0, none⟩) S.lasts.length cap)) (set_other _ _ _ _ (by show V.heap.size + 1 + 1 ≠ V.heap.size; omega))).string (c := cp)
  rw [hz, List.length_set, hll, hs128] at hstr
  have hoW : (V1.setCell ⟨V.heap.size, 0, none⟩ (.slice (some ⟨g, 0, none⟩) S.lasts.length cap)).ownsRow V.heap.size 9 1 (.slice (some ⟨g, 0, none⟩) S.lasts.length cap) S.lasts.length (strs S.lasts) :=
    owns_block ho (fun k e => set_other _ _ _ _ (by simp [Value.ownBlock] at e; show k ≠ V.heap.size; omega))
  have kC : (V1.setCell ⟨V.heap.size, 0, none⟩ (.slice (some ⟨g, 0, none⟩) S.lasts.length cap)).cell? ⟨V.heap.size, 0, none⟩ = some (.slice (some ⟨g, 0, none⟩) S.lasts.length cap) := cell_of_row _ _ 0 _ _ _ z4c
  have cg : (V1.setCell ⟨V.heap.size, 0, none⟩ (.slice (some ⟨g, 0, none⟩) S.lasts.length cap)).cell? ⟨g, q, none⟩ = some (.string s) := by
    have hc := hoW.cells (g := g) rfl q _ (strs_get S.lasts q hq)
    rw [Seg.addr_add, Nat.zero_add, hs] at hc; exact hc
  have fg : (V1.setCell ⟨V.heap.size, 0, none⟩ (.slice (some ⟨g, 0, none⟩) S.lasts.length cap)).frozen? ⟨g, q, none⟩ = false := hoW.frozenAt q
  have ho5 := hoW.stored q (.string (turnS s a x))
  rw [strs_set] at ho5
  have hb9w : W1.heap.size = W2.heap.size := by rw [← hW2]; simp
  have z4d : ((V1.setCell ⟨V.heap.size, 0, none⟩ (.slice (some ⟨g, 0, none⟩) S.lasts.length cap)).setCell ⟨g, q, none⟩ (.string (turnS s a x))).heap[V.heap.size]? = some (.cells (mvV (.slice (some ⟨g, 0, none⟩) S.lasts.length cap) wv S) 50 (0, 0)) := (set_other _ _ _ _ (by show V.heap.size ≠ g; omega)).trans z4c
  have z8d : ((V1.setCell ⟨V.heap.size, 0, none⟩ (.slice (some ⟨g, 0, none⟩) S.lasts.length cap)).setCell ⟨g, q, none⟩ (.string (turnS s a x))).heap[V.heap.size + 1]? = some (.cells zM 50 (0, 0)) := (set_other _ _ _ _ (by show V.heap.size + 1 ≠ g; omega)).trans ((set_other _ _ _ _ (by show V.heap.size + 1 ≠ V.heap.size; omega)).trans z8b)
  have i2 := infoMS (.slice (some ⟨g, 0, none⟩) S.lasts.length cap) wv S
  have o2 := mvV_one (.slice (some ⟨g, 0, none⟩) S.lasts.length cap) wv S rfl hwo
  have HBE := Asd.mk (((hb.trans (bB.mono hb.size)).setCell (p := ⟨V.heap.size, 0, none⟩) (Nat.le_refl _) (.slice (some ⟨g, 0, none⟩) S.lasts.length cap)).setCell (p := ⟨g, q, none⟩) (by show V.heap.size ≤ g; omega) (.string (turnS s a x)))
  have HO5 := Asd.mk (And.intro ho5.1 (show V.heap.size + 1 < g by omega))
  have HRK := Asd.mk h
  obtain ⟨T, hT⟩ : ∃ T, turnS s a x = T := ⟨_, rfl⟩
  rw [hT] at HBE HO5 z4d z8d hstr ⊢
  subst hW2
  subst hW0
  rw [hs128] at hcv
  rw [← hb9w] at hr
  have R1 := Asd.mk hr
  rw [hnl] at hl hq z4 kq k40 kA kB z4d z8d i2 o2 kC cg fg hstr HBE HO5 R1 hcv ⊢
  have NL := Asd.mk hnl
  have hq1 : (q : Int) < (nl : Int) := by omega
  have ha1 : (a : Int) < 128 := by omega
  have q0 : decide ((q : Int) < 0) = false := decide_eq_false (by omega)
  have q1 : decide ((nl : Int) ≤ (q : Int)) = false := decide_eq_false (by omega)
  have q1' : decide (nl ≤ q) = false := decide_eq_false (by omega)
  have q2 : decide ((a : Int) < 0) = false := decide_eq_false (by omega)
  have q3 : decide (128 ≤ (a : Int)) = false := decide_eq_false (by omega)
  have q3' : decide (128 ≤ a) = false := decide_eq_false (by omega)
  clear h hwo hc0 hs hgd hs128 hb z8 hs0 hb1 hsr hll hy hy8 hxl hv hput hz hzz bS bA own6 hr ho hg hf hsr2 hb9 bB hgV z4b z8b z4c srV hoW ho5 hT hnl hlc hsz hb9w
  go_enter Tryd.func26, Tryd.ntmps26
  go_wp2_with (first | refine append_known rfl _ _ 22 rfl _ _ rfl rfl R1.out ?_ | refine wpList_load_row rfl 50 _ rfl V.heap.size rfl 50 _ (0, 0) _ z4d Tryd.underlying50 rfl i2 ?_ | refine wpList_store_row rfl 50 _ _ rfl (V.heap.size + 1) (mvV (.slice (some ⟨g, 0, none⟩) nl cap) wv S) rfl rfl 50 _ z8d i2 rfl o2 ?_ | fail)
  have hgV := HO5.out.2
  have bE := below_setRow HBE.out (g := V.heap.size + 1) (by omega) (mvV (.slice (some ⟨g, 0, none⟩) nl cap) wv S)
  refine bodyPost_ret (end_cell0 rfl _ _ _ _ _ z8d rfl Tryd.underlying50 rfl i2) rfl ⟨_, rfl, (fun k => k = g ∨ G k), ⟨.slice (some ⟨g, 0, none⟩) nl cap, wv, rfl, ?_, owns_keep HRK.out.2.1 bE, fun k hk => ?_, HRK.out.2.2.2⟩, bE, fun k hk => hk.elim (fun e => .inr (by omega)) .inl⟩
  · show World.ownsRow _ 0 9 1 (.slice (some ⟨g, 0, none⟩) nl cap) (S.lasts.set q T).length (strs (S.lasts.set q T))
    rw [List.length_set, NL.out]
    refine owns_mono (owns_block HO5.out.1 (fun k e => ?_)) (Nat.zero_le _)
    simp [Value.ownBlock] at e
    rw [setRow_other _ _ _ _ (by omega)]
  · rcases hk with e | e
    · simp [Value.ownBlock] at e; exact .inl e.symm
    · exact .inr (HRK.out.2.2.1 k (.inr e))
theorem rrot_calls {G : Nat → Prop} {lv wv : Value} {S : DS} {V : World} (h : RK G lv wv S V) (i j : Int) (x : Nat) (hl : S.lasts.length ≤ 100000) (hx : x < 256) (hsz : ∀ s ∈ S.lasts, s.size = 128) :
    Calls Tryd.prog 26 #[.agg (mvV lv wv S), .int .i64 i, .int .i64 j, .int .u8 (x : Nat)] V fun e V' => ∃ mv', e = .returned (.agg mv') ∧ Rid G mv' (S.rot i j x) V V' := by
  by_cases c : (0 ≤ i ∧ i < (S.lasts.length : Int)) ∧ 0 ≤ j ∧ j < 128
  · obtain ⟨q, rfl⟩ := Int.eq_ofNat_of_zero_le c.1.1
    obtain ⟨a, rfl⟩ := Int.eq_ofNat_of_zero_le c.2.1
    have e : S.rot (q : Int) (a : Int) x = { S with lasts := S.lasts.set q (turnS (S.lasts.getD q ByteArray.empty) a x) } := by unfold DS.rot; rw [if_pos c, Int.toNat_natCast, Int.toNat_natCast]
    rw [e]
    exact rrot_yes h q a x hl (by omega) (by omega) hx hsz
  · have e : S.rot i j x = S := by unfold DS.rot; rw [if_neg c]
    rw [e]
    exact rrot_no h i j x hl c
end Go.Proofs.YtknbhgodhmcemaaDoor.Dk
namespace Go.Proofs.YtknbhgodhmcemaaDoor.Dk
set_option linter.unusedSimpArgs false
set_option linter.unusedVariables false
set_option maxRecDepth 100000
open Go.RowKit Go.Proofs.YtknbhgodhmcemaaDoor.Own Go.Proofs.YtknbhgodhmcemaaDoor.Cel
theorem infoBl : (Tryd.prog.info? 4).map (fun i => (i.zero, i.size, i.bytes)) = some (some (.bool false), 1, 1) := by kernel_rfl
def bls (l : List Bool) : List Value := l.map .bool
theorem makeBl (V : World) (n : Nat) (hn : n ≤ 1000000) : ∃ V', (Instr.makeSlice 23 (.int .i64 (n : Nat)) (.int .i64 (n : Nat))).run Tryd.prog V = .ok (.slice (some ⟨V.heap.size, 0, none⟩) n n) V' ∧ Below V.heap.size V V' ∧ V'.ownsRow V.heap.size 4 1 (.slice (some ⟨V.heap.size, 0, none⟩) n n) n (bls (List.replicate n false)) := by
  obtain ⟨i0, hi, hz0, hz1, hz2⟩ := info_parts infoBl
  obtain ⟨w1, hm, ho, hg⟩ := run_makeSlice_full (P := Tryd.prog) V V.heap.size 23 4 i0 (.bool false) 1 Tryd.underlying23 hi hz0 hz1 .i64 .i64 n (by omega) (by rw [hz2]; omega) (by unfold maxLen; omega) (Nat.le_refl _)
  refine ⟨w1, hm, (Below.refl _ _).grown hg (Nat.le_refl _) (fun k h => by cases h), ?_⟩
  have e : (madeCells (Value.bool false).cells (n * 1)).toList = bls (List.replicate n false) := by
    rw [show (madeCells (Value.bool false).cells (n * 1)).toList = List.replicate (n * 1) (.bool false) from toList_madeCells_one _ _, Nat.mul_one, bls, List.map_replicate]
  rw [← e]; exact ho
theorem bls_set (l : List Bool) (j : Nat) (b : Bool) : (bls l).set j (.bool b) = bls (l.set j b) := by rw [bls, bls, List.map_set]
theorem half_set (n j : Nat) (hj : j < n) : (List.replicate j true ++ List.replicate (n - j) false).set j true = List.replicate (j + 1) true ++ List.replicate (n - (j + 1)) false := by
  rw [List.set_append_right _ _ (by simp), List.length_replicate, Nat.sub_self]
  obtain ⟨m, hm⟩ : ∃ m, n - j = m + 1 := ⟨n - j - 1, by omega⟩
  rw [hm, List.replicate_succ, List.set_cons_zero, List.replicate_succ', List.append_assoc, show n - (j + 1) = m by omega]
  rfl
theorem crash_all (S : DS) : S.crash (fun j => (List.replicate S.waits.length true).getD j false) = S.crash (fun _ => true) := by
  unfold DS.crash
  rw [keptW_all _ _ _ (fun j _ h2 => by rw [List.getD_eq_getElem?_getD, List.getElem?_replicate, if_pos (by omega)]; rfl), keptW_all _ _ _ (fun _ _ _ => rfl)]
end Go.Proofs.YtknbhgodhmcemaaDoor.Dk
namespace Go.Proofs.YtknbhgodhmcemaaDoor.Dk
set_option linter.unusedSimpArgs false
set_option linter.unusedVariables false
set_option maxRecDepth 100000
open Go.RowKit Go.Proofs.YtknbhgodhmcemaaDoor.Own Go.Proofs.YtknbhgodhmcemaaDoor.Cel
theorem sync_bad {S : DS} (h : S.fails.2 = true) : S.sync = (S.fails.1, 7) := by unfold DS.sync; rw [if_pos h]
theorem sync_ok {S : DS} (h : S.fails.2 = false) : S.sync = ({ S.fails.1.crash (fun _ => true) with ops := S.ops + 1 }, 0) := by unfold DS.sync; rw [if_neg (by rw [h]; decide)]
set_option maxHeartbeats 8000000 in
theorem rsync_bad {G : Nat → Prop} {lv wv : Value} {S : DS} {V : World} (h : RK G lv wv S V) (hw : S.waits.length ≤ 1000000) (ha : S.armed ≤ 9223372036854775807) (hbad : S.fails.2 = true) :
    Calls Tryd.prog 23 #[.agg (mvV lv wv S)] V fun e V' => ∃ mv', e = .returned (.tuple #[.agg mv', .int .i64 (S.sync).2]) ∧ Rid G mv' (S.sync).1 V V' := by
  have hlo := owns_cell1 h.1
  have hwo := owns_cell1 h.2.1
  rw [sync_bad hbad]
  have hb := ((Below.refl V.heap.size V).alloc (Nat.le_refl _) (.cells (mvV lv wv S) 50)).alloc (by simp) (.cells zM 50)
  have z3 : ((V.alloc (.cells (mvV lv wv S) 50)).alloc (.cells zM 50)).heap[V.heap.size]? = some (.cells (mvV lv wv S) 50 (0, 0)) := Own.keep (heap_alloc_new V _) ((Below.refl _ _).alloc (Nat.le_refl _) _)
  have z6 : ((V.alloc (.cells (mvV lv wv S) 50)).alloc (.cells zM 50)).heap[V.heap.size + 1]? = some (.cells zM 50 (0, 0)) := by
    have := heap_alloc_new (V.alloc (.cells (mvV lv wv S) 50)) (.cells zM 50)
    simpa using this
  have KC := Asd.mk (count_calls lv wv S ((V.alloc (.cells (mvV lv wv S) 50)).alloc (.cells zM 50)) ha hlo hwo)
  have iM := infoMS lv wv S
  have HB := Asd.mk hb
  have HRK := Asd.mk h.failed
  rw [hbad] at KC
  obtain ⟨S1, hS1⟩ : ∃ S1, S.fails.1 = S1 := ⟨_, rfl⟩
  rw [hS1] at KC HRK ⊢
  have Z := Asd.mk (And.intro z3 z6)
  have i1 := infoMS lv wv S1
  have o1 := mvV_one lv wv S1 hlo hwo
  clear hS1 hbad hlo hwo h hb ha hw
  go_enter Tryd.func23, Tryd.ntmps23
  go_wp2_with (first | refine wpList_load_row rfl 50 _ rfl V.heap.size rfl 50 _ (0, 0) _ z3 Tryd.underlying50 rfl iM ?_ | fail)
  refine KC.out.mono ?_
  rintro e W1 ⟨rfl, hb1⟩
  have z3 := Own.keep Z.out.1 hb1
  have z6 := Own.keep Z.out.2 hb1
  have HB1 := Asd.mk (HB.out.trans (hb1.mono HB.out.size))
  have z3b := setRow_heap W1 V.heap.size _ (mvV lv wv S1) 50 (0, 0) z3
  have z6b : (W1.setRow V.heap.size (mvV lv wv S1)).heap[V.heap.size + 1]? = some (.cells zM 50 (0, 0)) := (setRow_other W1 V.heap.size (V.heap.size + 1) _ (by omega)).trans z6
  have HB2 := Asd.mk (below_setRow HB1.out (g := V.heap.size) (Nat.le_refl _) (mvV lv wv S1))
  clear KC hb1 Z
  go_wp2_with (first | refine wpList_store_row rfl 50 _ _ rfl V.heap.size (mvV lv wv S1) rfl rfl 50 _ z3 i1 rfl o1 ?_ | refine wpList_load_row rfl 50 _ rfl V.heap.size rfl 50 _ (0, 0) _ z3b Tryd.underlying50 rfl i1 ?_ | refine wpList_store_row rfl 50 _ _ rfl (V.heap.size + 1) (mvV lv wv S1) rfl rfl 50 _ z6b i1 rfl o1 ?_ | fail)
  refine bodyPost_ret (Cel.end_cell rfl _ _ _ _ _ z6b rfl Tryd.underlying50 rfl i1) rfl ⟨_, rfl, G, ⟨_, _, rfl, ?_⟩, ?_, fun k hk => .inl hk⟩
  · exact HRK.out.below (below_setRow HB2.out (by omega) _)
  · exact below_setRow HB2.out (by omega) _
theorem owns_lt {V : World} {B n : Nat} {e : TypeId} {sz : Nat} {v : Value} {xs : List Value} (h : V.ownsRow B e sz v n xs) (q : Nat) (hq : v.ownBlock = some q) : q < V.heap.size := by
  rcases h.2 with ⟨rfl, _⟩ | ⟨g, _, _, rfl, _, hg, _⟩
  · simp [Value.ownBlock] at hq
  · simp [Value.ownBlock] at hq
    subst hq
    exact (Array.getElem?_eq_some_iff.1 hg).1
theorem RK.tight {G : Nat → Prop} {lv wv : Value} {S : DS} {V : World} (h : RK G lv wv S V) : RK (fun q => G q ∧ q < V.heap.size) lv wv S V :=
  ⟨h.1, h.2.1, fun k hk => ⟨h.2.2.1 k hk, hk.elim (owns_lt h.1 k) (owns_lt h.2.1 k)⟩, h.2.2.2⟩
theorem RK.keep {G : Nat → Prop} {lv wv : Value} {S : DS} {V V' : World} (h : RK G lv wv S V) (hk : ∀ k, G k → V'.heap[k]? = V.heap[k]?) : RK G lv wv S V' :=
  ⟨owns_block h.1 (fun k e => hk k (h.2.2.1 k (.inl e))), owns_block h.2.1 (fun k e => hk k (h.2.2.1 k (.inr e))), h.2.2.1, h.2.2.2⟩
def SY (W2 : World) (nw k : Nat) (W : World) : Prop :=
  Below W2.heap.size W2 W ∧ W.ownsRow W2.heap.size 4 1 (.slice (some ⟨W2.heap.size, 0, none⟩) nw nw) nw (bls (List.replicate k true ++ List.replicate (nw - k) false))
set_option maxHeartbeats 8000000 in
theorem rsync_ok {G : Nat → Prop} {lv wv : Value} {S : DS} {V : World} (h : RK G lv wv S V) (hok : S.ok) (hl0 : 0 < S.lasts.length) (hl : S.lasts.length ≤ 100000) (hw : S.waits.length ≤ 1000000) (ha : S.armed ≤ 9223372036854775807) (ho0 : 0 ≤ S.ops) (ho : S.ops ≤ 4611686018427387904) (hbad : S.fails.2 = false) :
    Calls Tryd.prog 23 #[.agg (mvV lv wv S)] V fun e V' => ∃ mv', e = .returned (.tuple #[.agg mv', .int .i64 (S.sync).2]) ∧ Rid G mv' (S.sync).1 V V' := by
  have hlo := owns_cell1 h.1
  have hwo := owns_cell1 h.2.1
  obtain ⟨Aw, cw, rfl, hwc⟩ := h.wcell
  rw [sync_ok hbad]
  have hb := ((Below.refl V.heap.size V).alloc (Nat.le_refl _) (.cells (mvV lv (.slice Aw S.waits.length cw) S) 50)).alloc (by simp) (.cells zM 50)
  have z3 : ((V.alloc (.cells (mvV lv (.slice Aw S.waits.length cw) S) 50)).alloc (.cells zM 50)).heap[V.heap.size]? = some (.cells (mvV lv (.slice Aw S.waits.length cw) S) 50 (0, 0)) := Own.keep (heap_alloc_new V _) ((Below.refl _ _).alloc (Nat.le_refl _) _)
  have z6 : ((V.alloc (.cells (mvV lv (.slice Aw S.waits.length cw) S) 50)).alloc (.cells zM 50)).heap[V.heap.size + 1]? = some (.cells zM 50 (0, 0)) := by
    have := heap_alloc_new (V.alloc (.cells (mvV lv (.slice Aw S.waits.length cw) S) 50)) (.cells zM 50)
    simpa using this
  have KC := Asd.mk (count_calls lv (.slice Aw S.waits.length cw) S ((V.alloc (.cells (mvV lv (.slice Aw S.waits.length cw) S) 50)).alloc (.cells zM 50)) ha hlo hwo)
  have iM := infoMS lv (.slice Aw S.waits.length cw) S
  have HB := Asd.mk hb
  have HRK := Asd.mk h.failed.tight
  rw [hbad] at KC
  obtain ⟨S1, hS1⟩ : ∃ S1, S.fails.1 = S1 := ⟨_, rfl⟩
  have ew : S1.waits = S.waits := by rw [← hS1]; exact (fails_lasts S).2.1
  have el : S1.lasts = S.lasts := by rw [← hS1]; exact (fails_lasts S).1
  have eo : S1.ops = S.ops := by rw [← hS1]; exact (fails_lasts S).2.2
  rw [hS1] at KC HRK ⊢
  obtain ⟨nw, hnw⟩ : ∃ n, S.waits.length = n := ⟨_, rfl⟩
  have HOK := Asd.mk (show S1.ok from fun x hx => by rw [el]; exact hok x (by rw [← ew]; exact hx))
  have HL := Asd.mk (show 0 < S1.lasts.length ∧ S1.lasts.length ≤ 100000 ∧ S1.waits.length = nw from ⟨by rw [el]; exact hl0, by rw [el]; exact hl, by rw [ew]; exact hnw⟩)
  rw [hnw] at hw z3 z6 KC iM HB HRK ⊢
  have Z := Asd.mk (And.intro z3 z6)
  have i1 := infoMS lv (.slice Aw nw cw) S1
  have o1 := mvV_one lv (.slice Aw nw cw) S1 hlo rfl
  clear hS1 hbad hlo hwo h hb ha hnw hwc hok hl0 hl ew el
  have EO := Asd.mk eo
  clear eo
  go_enter Tryd.func23, Tryd.ntmps23
  go_wp2_with (first | refine wpList_load_row rfl 50 _ rfl V.heap.size rfl 50 _ (0, 0) _ z3 Tryd.underlying50 rfl iM ?_ | fail)
  refine KC.out.mono ?_
  rintro e W1 ⟨rfl, hb1⟩
  have z3 := Own.keep Z.out.1 hb1
  have z6 := Own.keep Z.out.2 hb1
  have HB1 := Asd.mk (HB.out.trans (hb1.mono HB.out.size))
  have z3b := setRow_heap W1 V.heap.size _ (mvV lv (.slice Aw nw cw) S1) 50 (0, 0) z3
  have z6b : (W1.setRow V.heap.size (mvV lv (.slice Aw nw cw) S1)).heap[V.heap.size + 1]? = some (.cells zM 50 (0, 0)) := (setRow_other W1 V.heap.size (V.heap.size + 1) _ (by omega)).trans z6
  have HB2 := Asd.mk (below_setRow HB1.out (g := V.heap.size) (Nat.le_refl _) (mvV lv (.slice Aw nw cw) S1))
  have hsz1 : V.heap.size + 1 < W1.heap.size := (Array.getElem?_eq_some_iff.1 z6).1
  have kw : (W1.setRow V.heap.size (mvV lv (.slice Aw nw cw) S1)).cell? ⟨V.heap.size, 1, none⟩ = some (.slice Aw nw cw) := cell_of_row _ _ 1 _ _ _ z3b
  clear KC hb1 Z
  have esz : (W1.setRow V.heap.size (mvV lv (.slice Aw nw cw) S1)).heap.size = W1.heap.size := by simp [World.setRow]
  obtain ⟨V2, hmk, hbm, hom⟩ := makeBl (W1.setRow V.heap.size (mvV lv (.slice Aw nw cw) S1)) nw hw
  have H0 := Asd.mk (show SY (W1.setRow V.heap.size (mvV lv (.slice Aw nw cw) S1)) nw 0 V2 from ⟨hbm, hom⟩)
  rw [esz] at hmk
  clear hbm hom
  go_wp2_with (first | refine wpList_store_row rfl 50 _ _ rfl V.heap.size (mvV lv (.slice Aw nw cw) S1) rfl rfl 50 _ z3 i1 rfl o1 ?_ | fail)
  go_loopw [6] (fun iv W => ∃ (k : Nat), iv = .int .i64 k ∧ k ≤ nw ∧ Asd (SY (W1.setRow V.heap.size (mvV lv (.slice Aw nw cw) S1)) nw k W)) (fun iv _ => nw - (intOf iv).toNat)
  case atStart => exact ⟨0, rfl, by omega, H0⟩
  case round =>
    obtain ⟨k, rfl, hk, HI⟩ := hrel
    clear H0 hmk kw
    by_cases hlt : k < nw
    · have hk1 : (k : Int) < (nw : Int) := by omega
      have hst := HI.out.2.stored k (.bool true)
      rw [bls_set, half_set nw k hlt] at hst
      have HN := Asd.mk (show SY (W1.setRow V.heap.size (mvV lv (.slice Aw nw cw) S1)) nw (k + 1) (wr.setCell ⟨(W1.setRow V.heap.size (mvV lv (.slice Aw nw cw) S1)).heap.size, k, none⟩ (.bool true)) from
        ⟨HI.out.1.setCell (p := ⟨(W1.setRow V.heap.size (mvV lv (.slice Aw nw cw) S1)).heap.size, k, none⟩) (Nat.le_refl _) _, hst.1⟩)
      have cg := HI.out.2.cells (g := (W1.setRow V.heap.size (mvV lv (.slice Aw nw cw) S1)).heap.size) rfl k (.bool false) (by rw [bls, List.getElem?_map, List.getElem?_append_right (by simp), List.length_replicate, Nat.sub_self, List.getElem?_replicate, if_pos (by omega)]; rfl)
      rw [Seg.addr_add, Nat.zero_add] at cg
      have fg := HI.out.2.frozenAt k
      rw [esz] at HN cg fg
      clear hst z3 z6 z3b z6b
      go_wp2
      go_roundw
      case rel => exact ⟨k + 1, by go_num, by omega, HN⟩
      case measure => simp [intOf]; omega
    · obtain rfl : k = nw := by omega
      have z3c := (HI.out.1.block V.heap.size (by rw [esz]; omega)).trans z3b
      have z6c := (HI.out.1.block (V.heap.size + 1) (by rw [esz]; omega)).trans z6b
      have hBW := Asd.mk (HB2.out.trans (HI.out.1.mono HB2.out.size))
      have hrk := HRK.out.below hBW.out
      have hkA : KArg (some ⟨W1.heap.size, 0, none⟩) (List.replicate k true) wr := fun j hj => ⟨W1.heap.size, 0, rfl, by
        have hj' : j < k := by simpa using hj
        have cg := HI.out.2.cells (g := (W1.setRow V.heap.size (mvV lv (.slice Aw k cw) S1)).heap.size) rfl j (.bool true) (by rw [bls, List.getElem?_map, List.getElem?_append_left (by simpa using hj), List.getElem?_replicate, if_pos hj']; rfl)
        rw [Seg.addr_add, Nat.zero_add, esz] at cg
        rw [Nat.zero_add, cg, List.getElem_replicate]⟩
      have KR := Asd.mk (rcrash_calls hrk HOK.out HL.out.1 HL.out.2.1 (by rw [HL.out.2.2]; exact hw) (some ⟨W1.heap.size, 0, none⟩) k (List.replicate k true) hkA (by simpa using hw))
      rw [List.length_replicate] at KR
      clear hrk hkA z3 z6 z3b z6b i1 o1
      have i1 := infoMS lv (.slice Aw k cw) S1
      have hlt' : ¬ ((k : Int) < (k : Int)) := by omega
      go_wp2_with (first | refine wpList_load_row rfl 50 _ rfl V.heap.size rfl 50 _ (0, 0) _ z3c Tryd.underlying50 rfl i1 ?_ | fail)
      refine KR.out.mono ?_
      rintro e W3 ⟨mv', rfl, G1, ⟨lv', wv', rfl, hr1⟩, hb3, hG1⟩
      have hca : S1.crash (fun j => (List.replicate k true).getD j false) = S1.crash (fun _ => true) := by
        have := crash_all S1
        rwa [HL.out.2.2] at this
      rw [hca] at hr1 ⊢
      have ec : (S1.crash (fun _ => true)).ops = S.ops := EO.out
      obtain ⟨S2, hS2⟩ : ∃ s, S1.crash (fun _ => true) = s := ⟨_, rfl⟩
      rw [hS2] at hr1 ec ⊢
      have HS2 := Asd.mk hS2
      have z3d := Own.keep z3c hb3
      have z6d := Own.keep z6c hb3
      have lo' := owns_cell1 hr1.1
      have wo' := owns_cell1 hr1.2.1
      have i2 := infoMS lv' wv' S2
      have o2 := mvV_one lv' wv' S2 lo' wo'
      have i3 := infoMS lv' wv' { S2 with ops := S.ops + 1 }
      have o3 := mvV_one lv' wv' { S2 with ops := S.ops + 1 } lo' wo'
      have z3e := setRow_heap W3 V.heap.size _ (mvV lv' wv' S2) 50 (0, 0) z3d
      have z6e : (W3.setRow V.heap.size (mvV lv' wv' S2)).heap[V.heap.size + 1]? = some (.cells zM 50 (0, 0)) := (setRow_other W3 V.heap.size (V.heap.size + 1) _ (by omega)).trans z6d
      have k33 : (W3.setRow V.heap.size (mvV lv' wv' S2)).cell? ⟨V.heap.size, 3, none⟩ = some (.int .i64 S2.ops) := cell_of_row _ _ 3 _ _ _ z3e
      rw [ec] at k33
      have fz33 : (W3.setRow V.heap.size (mvV lv' wv' S2)).frozen? ⟨V.heap.size, 3, none⟩ = false := frozen_of_row _ _ 3 _ _ z3e
      have z3f : ((W3.setRow V.heap.size (mvV lv' wv' S2)).setCell ⟨V.heap.size, 3, none⟩ (.int .i64 (S.ops + 1))).heap[V.heap.size]? = some (.cells (mvV lv' wv' { S2 with ops := S.ops + 1 }) 50 (0, 0)) := heap_setCell_same _ V.heap.size 3 _ _ (.int .i64 (S.ops + 1)) z3e
      have z6f : ((W3.setRow V.heap.size (mvV lv' wv' S2)).setCell ⟨V.heap.size, 3, none⟩ (.int .i64 (S.ops + 1))).heap[V.heap.size + 1]? = some (.cells zM 50 (0, 0)) := by
        rw [set_other _ _ _ _ (by show V.heap.size + 1 ≠ V.heap.size; omega)]; exact z6e
      have BE := Asd.mk (below_setRow ((below_setRow (hBW.out.trans (hb3.mono hBW.out.size)) (g := V.heap.size) (Nat.le_refl _) (mvV lv' wv' S2)).setCell (p := ⟨V.heap.size, 3, none⟩) (Nat.le_refl _) (.int .i64 (S.ops + 1))) (g := V.heap.size + 1) (by omega) (mvV lv' wv' { S2 with ops := S.ops + 1 }))
      have hwr := HI.out.1.size
      rw [esz] at hwr
      have HG := Asd.mk (show ∀ q, G1 q → (G q ∧ q < V.heap.size) ∨ V.heap.size + 1 < q from fun q hq => (hG1 q hq).imp id (fun e => by omega))
      have RKE := Asd.mk (show RK G1 lv' wv' { S2 with ops := S.ops + 1 } (((W3.setRow V.heap.size (mvV lv' wv' S2)).setCell ⟨V.heap.size, 3, none⟩ (.int .i64 (S.ops + 1))).setRow (V.heap.size + 1) (mvV lv' wv' { S2 with ops := S.ops + 1 })) from
        RK.keep (S := { S2 with ops := S.ops + 1 }) (V := W3) hr1 (fun q hq => by
          have hne : q ≠ V.heap.size ∧ q ≠ V.heap.size + 1 := by rcases HG.out q hq with e | e <;> omega
          rw [setRow_other _ _ _ _ hne.2, set_other _ _ _ _ (by show q ≠ V.heap.size; exact hne.1), setRow_other _ _ _ _ hne.1]))
      have hbnd : S.ops + 1 ≤ 9223372036854775807 := by omega
      clear KR hr1 hb3 hG1 hca EO lo' wo' hwr z3c z6c i1 ec hS2 z6d hBW HI
      go_wp2_with (first | refine wpList_store_row rfl 50 _ _ rfl V.heap.size (mvV lv' wv' S2) rfl rfl 50 _ z3d i2 rfl o2 ?_ | refine wpList_load_row rfl 50 _ rfl V.heap.size rfl 50 _ (0, 0) _ z3f Tryd.underlying50 rfl i3 ?_ | refine wpList_store_row rfl 50 _ _ rfl (V.heap.size + 1) (mvV lv' wv' { S2 with ops := S.ops + 1 }) rfl rfl 50 _ z6f i3 rfl o3 ?_ | fail)
      have hs2 := HS2.out
      subst hs2
      exact bodyPost_ret (Cel.end_cell rfl _ _ _ _ _ z6f rfl Tryd.underlying50 rfl i3) rfl ⟨_, rfl, G1, ⟨_, _, rfl, RKE.out⟩, BE.out, fun q hq => (HG.out q hq).imp (fun e => e.1) (fun e => by omega)⟩
theorem rsync_calls {G : Nat → Prop} {lv wv : Value} {S : DS} {V : World} (h : RK G lv wv S V) (hok : S.ok) (hl0 : 0 < S.lasts.length) (hl : S.lasts.length ≤ 100000) (hw : S.waits.length ≤ 1000000) (ha : S.armed ≤ 9223372036854775807) (ho0 : 0 ≤ S.ops) (ho : S.ops ≤ 4611686018427387904) :
    Calls Tryd.prog 23 #[.agg (mvV lv wv S)] V fun e V' => ∃ mv', e = .returned (.tuple #[.agg mv', .int .i64 (S.sync).2]) ∧ Rid G mv' (S.sync).1 V V' := by
  cases hbad : S.fails.2 with
  | true => exact rsync_bad h hw ha hbad
  | false => exact rsync_ok h hok hl0 hl hw ha ho0 ho hbad
end Go.Proofs.YtknbhgodhmcemaaDoor.Dk
namespace Go.Proofs.YtknbhgodhmcemaaDoor.Dk
set_option linter.unusedSimpArgs false
set_option linter.unusedVariables false
set_option maxRecDepth 100000
open Go.RowKit Go.Proofs.YtknbhgodhmcemaaDoor.Own Go.Proofs.YtknbhgodhmcemaaDoor.Cel
abbrev bornN (k : Nat) : DS := ⟨List.replicate k (sect 0), [], 0, 0⟩
theorem owns_ge {V : World} {B n : Nat} {e : TypeId} {sz : Nat} {v : Value} {xs : List Value} (h : V.ownsRow B e sz v n xs) (q : Nat) (hq : v.ownBlock = some q) : B ≤ q := by
  rcases h.2 with ⟨rfl, _⟩ | ⟨g, _, _, rfl, hg, _⟩
  · simp [Value.ownBlock] at hq
  · simp [Value.ownBlock] at hq
    omega
theorem wp_append_run {P : Program} {o : Oper} {a : Act} {w : World} {K : Act → World → Prop} {Q : Exit → Act → World → Prop} (s x : Operand) (t : TypeId) (ho : o.op = .call { callee := .builtin .append, args := #[s, x], argTypes := #[t, t] })
    (v y : Value) (hs : a.eval s = v) (hx : a.eval x = y) {v' : Value} {w' : World} (hr : (Builtin.append_ #[t, t] o.type #[v, y]).run P w = .ok v' w') (h : K (a.put o.dst v') w') : o.wp P a w K Q := by
  unfold Oper.wp execOp
  simp only [ho, resolve, invoke, builtin, Sem.run_bind, Sem.run_pure, Result.andThen_ok, List.map_toArray, List.map_cons, List.map_nil, hs, hx, hr]
  exact h
def NR (V : World) (k : Nat) (W : World) : Prop :=
  ∃ A c, Below V.heap.size V W ∧ W.heap[V.heap.size]? = some (.cells zM 50 (0, 0)) ∧ W.heap[V.heap.size + 1]? = some (.cells (mvV (.slice A k c) (.slice none 0 0) (bornN k)) 50 (0, 0)) ∧
    W.ownsRow (V.heap.size + 2) 9 1 (.slice A k c) k (strs (List.replicate k (sect 0)))
set_option maxHeartbeats 8000000 in
theorem rnew_calls (V : World) (n : Nat) (hn : n ≤ 4096) :
    Calls Tryd.prog 21 #[.int .i64 (n : Nat)] V fun e V' => ∃ mv', e = .returned (.agg mv') ∧ Rid (fun _ => False) mv' (bornN n) V V' := by
  have bA := ((Below.refl V.heap.size V).alloc (Nat.le_refl _) (.cells zM 50)).alloc (by simp) (.cells zM 50)
  have z0 : ((V.alloc (.cells zM 50)).alloc (.cells zM 50)).heap[V.heap.size]? = some (.cells zM 50 (0, 0)) := Own.keep (heap_alloc_new V _) ((Below.refl _ _).alloc (Nat.le_refl _) _)
  have z1 : ((V.alloc (.cells zM 50)).alloc (.cells zM 50)).heap[V.heap.size + 1]? = some (.cells zM 50 (0, 0)) := by
    have := heap_alloc_new (V.alloc (.cells zM 50)) (.cells zM 50)
    simpa using this
  have H0 := Asd.mk (show NR V 0 ((V.alloc (.cells zM 50)).alloc (.cells zM 50)) from ⟨none, 0, bA, z0, z1, World.ownsRow_nil _ _ _ _⟩)
  clear z0 z1 bA
  go_enter Tryd.func21, Tryd.ntmps21
  go_wp2
  go_loopw [4] (fun iv W => ∃ (k : Nat), iv = .int .i64 k ∧ k ≤ n ∧ Asd (NR V k W)) (fun iv _ => n - (intOf iv).toNat)
  case atStart => exact ⟨0, rfl, by omega, H0⟩
  case round =>
    obtain ⟨k, rfl, hk, HI⟩ := hrel
    clear H0
    obtain ⟨A, c, hb, zr, z, hown⟩ := HI.out
    by_cases hlt : k < n
    · have hk1 : (k : Int) < (n : Int) := by omega
      have hs2 : V.heap.size + 1 < wr.heap.size := (Array.getElem?_eq_some_iff.1 z).1
      go_wp2_with fail
      have k0 : wr.cell? ⟨V.heap.size + 1, 0, none⟩ = some (.slice A k c) := cell_of_row _ _ 0 _ _ _ z
      have k0d : wr.drew.cell? ⟨V.heap.size + 1, 0, none⟩ = some (.slice A k c) := k0
      refine wp_region_held_drew (S := fun _ => True) (by kernel_rfl) trivial (fun hH => ?_)
      refine take_at (i := 0) (some 10) (.pointer (some ⟨V.heap.size + 1, 0, none⟩)) rfl rfl (by kernel_rfl) (by kernel_rfl) (by kernel_rfl) (fun _ _ _ h => h) (Or.inl ⟨by rfl, fun w' hSw => by go_simp⟩) hH ?_
      try simp only [Act.put, List.setIfInBounds_toArray, List.set_cons_zero, List.set_cons_succ]
      refine wpAnyH_ready (rs := [1, 2]) (by kernel_rfl) (by simp) (AllReadyH.cons rfl (fun K hK => ?_) (AllReadyH.cons rfl (fun K hK => ?_) AllReadyH.nil))
      · go_simp
        refine hK.out _ _ trivial (fun hH => ?_)
        clear hK K
        try simp only [Act.put, List.setIfInBounds_toArray, List.set_cons_zero, List.set_cons_succ]
        refine wpAnyH_ready (rs := [2]) (by kernel_rfl) (by simp) (AllReadyH.cons rfl (fun K hK => ?_) AllReadyH.nil)
        go_simp
        go_at_call 40
        refine (rblank_calls _).mono ?_
        rintro e W1 ⟨rfl, hb1⟩
        have z1 : W1.heap[V.heap.size + 1]? = some (.cells (mvV (.slice A k c) (.slice none 0 0) (bornN k)) 50 (0, 0)) := Own.keep (show wr.drew.heap[V.heap.size + 1]? = some (.cells (mvV (.slice A k c) (.slice none 0 0) (bornN k)) 50 (0, 0)) from z) hb1
        have zr1 : W1.heap[V.heap.size]? = some (.cells zM 50 (0, 0)) := (hb1.block V.heap.size (by show V.heap.size < wr.heap.size; omega)).trans zr
        have hbd : Below V.heap.size V wr.drew := hb.drew
        have hbV := hbd.trans (hb1.mono hbd.size)
        have hown1 : W1.ownsRow (V.heap.size + 2) 9 1 (.slice A k c) k (strs (List.replicate k (sect 0))) := owns_keep (show wr.drew.ownsRow (V.heap.size + 2) 9 1 (.slice A k c) k (strs (List.replicate k (sect 0))) from hown) hb1
        have hszW : V.heap.size + 1 < W1.heap.size := (Array.getElem?_eq_some_iff.1 z1).1
        have bA := (Below.refl W1.heap.size W1).alloc (Nat.le_refl _) (.cells #[.string (sect 0)] 9)
        obtain ⟨g, cap, V7, hr, ho, hgr, hf⟩ := sapp (W1.alloc (.cells #[.string (sect 0)] 9)) (V.heap.size + 2) _ k _ (owns_keep hown1 bA) (by have := bA.size; omega) (.slice (some ⟨W1.heap.size, 0, none⟩) 1 1) [sect 0] ⟨rfl, .inr ⟨W1.heap.size, 1, _, rfl, Nat.zero_le _, heap_alloc_new W1 _, Nat.le_refl _, by decide, rfl, rfl⟩⟩ (by decide) (by show k + 1 ≤ 2000000; omega)
        have hge := owns_ge hown1
        have z7 := (hgr.block (V.heap.size + 1) (by have := bA.size; omega) (fun e => by have := hge _ e.symm; omega)).trans (Own.keep z1 bA)
        have zr7 := (hgr.block V.heap.size (by have := bA.size; omega) (fun e => by have := hge _ e.symm; omega)).trans ((bA.block V.heap.size (by omega)).trans zr1)
        have hb7 := (hbV.trans (bA.mono hbV.size)).grown hgr (by have := bA.size; have := hbV.size; omega) (fun p e => by have := hge _ e; omega)
        have kf7 : V7.frozen? ⟨V.heap.size + 1, 0, none⟩ = false := frozen_of_row _ _ 0 _ _ z7
        have kc7 : V7.cell? ⟨V.heap.size + 1, 0, none⟩ = some (.slice A k c) := cell_of_row _ _ 0 _ _ _ z7
        have er : strs (List.replicate k (sect 0)) ++ strs [sect 0] = strs (List.replicate (k + 1) (sect 0)) := by rw [← strs_append, ← List.replicate_succ']
        rw [er] at ho
        have hgg := owns_ge ho g rfl
        have HN := Asd.mk (show NR V (k + 1) (V7.setCell ⟨V.heap.size + 1, 0, none⟩ (.slice (some ⟨g, 0, none⟩) (k + 1) cap)) from
          ⟨some ⟨g, 0, none⟩, cap, hb7.setCell (p := ⟨V.heap.size + 1, 0, none⟩) (by show V.heap.size ≤ V.heap.size + 1; omega) _, (set_other _ _ _ _ (by show V.heap.size ≠ V.heap.size + 1; omega)).trans zr7, heap_setCell_same V7 (V.heap.size + 1) 0 _ _ _ z7, owns_block ho (fun q e => set_other _ _ _ _ (by have := owns_ge ho q e; show q ≠ V.heap.size + 1; omega))⟩)
        have z8 := heap_setCell_same V7 (V.heap.size + 1) 0 _ _ (.slice (some ⟨g, 0, none⟩) (k + 1) cap) z7
        have kW1 : W1.cell? ⟨V.heap.size + 1, 0, none⟩ = some (.slice A k c) := cell_of_row _ _ 0 _ _ _ z1
        have kWA : (W1.alloc (.cells #[.string (sect 0)] 9)).cell? ⟨V.heap.size + 1, 0, none⟩ = some (.slice A k c) := cell_of_row _ _ 0 _ _ _ (Own.keep z1 bA)
        refine hK.out _ _ trivial (fun hH => ?_)
        clear hK K
        try simp only [Act.put, List.setIfInBounds_toArray, List.set_cons_zero, List.set_cons_succ]
        refine wpAnyH_ready (rs := [3]) (by kernel_rfl) (by simp) (AllReadyH.cons rfl (fun K hK => ?_) AllReadyH.nil)
        go_simp
        refine hK.out _ _ trivial (fun hH => ?_)
        clear hK K
        try simp only [Act.put, List.setIfInBounds_toArray, List.set_cons_zero, List.set_cons_succ]
        refine wpAnyH_ready (rs := [4]) (by kernel_rfl) (by simp) (AllReadyH.cons rfl (fun K hK => ?_) AllReadyH.nil)
        refine wp_append_run (.tmp 11) (.tmp 13) 22 rfl _ _ rfl rfl hr ?_
        refine hK.out _ _ trivial (fun hH => ?_)
        clear hK K
        try simp only [Act.put, List.setIfInBounds_toArray, List.set_cons_zero, List.set_cons_succ]
        refine take_at (i := 5) (some 15) (.pointer (some ⟨V.heap.size + 1, 0, none⟩)) rfl rfl (by kernel_rfl) (by kernel_rfl) (by kernel_rfl) (fun _ _ _ h => h) (Or.inl ⟨by rfl, fun w' hSw => by go_simp⟩) hH ?_
        try simp only [Act.put, List.setIfInBounds_toArray, List.set_cons_zero, List.set_cons_succ]
        refine wpAnyH_ready (rs := [6]) (by kernel_rfl) (by simp) (AllReadyH.cons rfl (fun K hK => ?_) AllReadyH.nil)
        go_simp
        refine hK.out _ _ trivial (fun hH => ?_)
        clear hK K hH
        refine wpAnyH_done (by kernel_rfl) ?_ _
        try simp only [Act.put, List.setIfInBounds_toArray, List.set_cons_zero, List.set_cons_succ]
        clear kW1 kWA z7 zr7 z8 kf7 kc7 ho hr hf hgr
        go_wp2
        go_roundw
        case rel => exact ⟨k + 1, by go_num, by omega, HN⟩
        case measure => simp [intOf]; omega
      · go_simp
        go_at_call 40
        refine (rblank_calls _).mono ?_
        rintro e W1 ⟨rfl, hb1⟩
        have z1 : W1.heap[V.heap.size + 1]? = some (.cells (mvV (.slice A k c) (.slice none 0 0) (bornN k)) 50 (0, 0)) := Own.keep (show wr.drew.heap[V.heap.size + 1]? = some (.cells (mvV (.slice A k c) (.slice none 0 0) (bornN k)) 50 (0, 0)) from z) hb1
        have zr1 : W1.heap[V.heap.size]? = some (.cells zM 50 (0, 0)) := (hb1.block V.heap.size (by show V.heap.size < wr.heap.size; omega)).trans zr
        have hbd : Below V.heap.size V wr.drew := hb.drew
        have hbV := hbd.trans (hb1.mono hbd.size)
        have hown1 : W1.ownsRow (V.heap.size + 2) 9 1 (.slice A k c) k (strs (List.replicate k (sect 0))) := owns_keep (show wr.drew.ownsRow (V.heap.size + 2) 9 1 (.slice A k c) k (strs (List.replicate k (sect 0))) from hown) hb1
        have hszW : V.heap.size + 1 < W1.heap.size := (Array.getElem?_eq_some_iff.1 z1).1
        have bA := (Below.refl W1.heap.size W1).alloc (Nat.le_refl _) (.cells #[.string (sect 0)] 9)
        obtain ⟨g, cap, V7, hr, ho, hgr, hf⟩ := sapp (W1.alloc (.cells #[.string (sect 0)] 9)) (V.heap.size + 2) _ k _ (owns_keep hown1 bA) (by have := bA.size; omega) (.slice (some ⟨W1.heap.size, 0, none⟩) 1 1) [sect 0] ⟨rfl, .inr ⟨W1.heap.size, 1, _, rfl, Nat.zero_le _, heap_alloc_new W1 _, Nat.le_refl _, by decide, rfl, rfl⟩⟩ (by decide) (by show k + 1 ≤ 2000000; omega)
        have hge := owns_ge hown1
        have z7 := (hgr.block (V.heap.size + 1) (by have := bA.size; omega) (fun e => by have := hge _ e.symm; omega)).trans (Own.keep z1 bA)
        have zr7 := (hgr.block V.heap.size (by have := bA.size; omega) (fun e => by have := hge _ e.symm; omega)).trans ((bA.block V.heap.size (by omega)).trans zr1)
        have hb7 := (hbV.trans (bA.mono hbV.size)).grown hgr (by have := bA.size; have := hbV.size; omega) (fun p e => by have := hge _ e; omega)
        have kf7 : V7.frozen? ⟨V.heap.size + 1, 0, none⟩ = false := frozen_of_row _ _ 0 _ _ z7
        have kc7 : V7.cell? ⟨V.heap.size + 1, 0, none⟩ = some (.slice A k c) := cell_of_row _ _ 0 _ _ _ z7
        have er : strs (List.replicate k (sect 0)) ++ strs [sect 0] = strs (List.replicate (k + 1) (sect 0)) := by rw [← strs_append, ← List.replicate_succ']
        rw [er] at ho
        have hgg := owns_ge ho g rfl
        have HN := Asd.mk (show NR V (k + 1) (V7.setCell ⟨V.heap.size + 1, 0, none⟩ (.slice (some ⟨g, 0, none⟩) (k + 1) cap)) from
          ⟨some ⟨g, 0, none⟩, cap, hb7.setCell (p := ⟨V.heap.size + 1, 0, none⟩) (by show V.heap.size ≤ V.heap.size + 1; omega) _, (set_other _ _ _ _ (by show V.heap.size ≠ V.heap.size + 1; omega)).trans zr7, heap_setCell_same V7 (V.heap.size + 1) 0 _ _ _ z7, owns_block ho (fun q e => set_other _ _ _ _ (by have := owns_ge ho q e; show q ≠ V.heap.size + 1; omega))⟩)
        have z8 := heap_setCell_same V7 (V.heap.size + 1) 0 _ _ (.slice (some ⟨g, 0, none⟩) (k + 1) cap) z7
        have kW1 : W1.cell? ⟨V.heap.size + 1, 0, none⟩ = some (.slice A k c) := cell_of_row _ _ 0 _ _ _ z1
        have kWA : (W1.alloc (.cells #[.string (sect 0)] 9)).cell? ⟨V.heap.size + 1, 0, none⟩ = some (.slice A k c) := cell_of_row _ _ 0 _ _ _ (Own.keep z1 bA)
        refine hK.out _ _ trivial (fun hH => ?_)
        clear hK K
        try simp only [Act.put, List.setIfInBounds_toArray, List.set_cons_zero, List.set_cons_succ]
        refine wpAnyH_ready (rs := [1, 3]) (by kernel_rfl) (by simp) (AllReadyH.cons rfl (fun K hK => ?_) (AllReadyH.cons rfl (fun K hK => ?_) AllReadyH.nil))
        · go_simp
          refine hK.out _ _ trivial (fun hH => ?_)
          clear hK K
          try simp only [Act.put, List.setIfInBounds_toArray, List.set_cons_zero, List.set_cons_succ]
          refine wpAnyH_ready (rs := [3]) (by kernel_rfl) (by simp) (AllReadyH.cons rfl (fun K hK => ?_) AllReadyH.nil)
          go_simp
          refine hK.out _ _ trivial (fun hH => ?_)
          clear hK K
          try simp only [Act.put, List.setIfInBounds_toArray, List.set_cons_zero, List.set_cons_succ]
          refine wpAnyH_ready (rs := [4]) (by kernel_rfl) (by simp) (AllReadyH.cons rfl (fun K hK => ?_) AllReadyH.nil)
          refine wp_append_run (.tmp 11) (.tmp 13) 22 rfl _ _ rfl rfl hr ?_
          refine hK.out _ _ trivial (fun hH => ?_)
          clear hK K
          try simp only [Act.put, List.setIfInBounds_toArray, List.set_cons_zero, List.set_cons_succ]
          refine take_at (i := 5) (some 15) (.pointer (some ⟨V.heap.size + 1, 0, none⟩)) rfl rfl (by kernel_rfl) (by kernel_rfl) (by kernel_rfl) (fun _ _ _ h => h) (Or.inl ⟨by rfl, fun w' hSw => by go_simp⟩) hH ?_
          try simp only [Act.put, List.setIfInBounds_toArray, List.set_cons_zero, List.set_cons_succ]
          refine wpAnyH_ready (rs := [6]) (by kernel_rfl) (by simp) (AllReadyH.cons rfl (fun K hK => ?_) AllReadyH.nil)
          go_simp
          refine hK.out _ _ trivial (fun hH => ?_)
          clear hK K hH
          refine wpAnyH_done (by kernel_rfl) ?_ _
          try simp only [Act.put, List.setIfInBounds_toArray, List.set_cons_zero, List.set_cons_succ]
          clear kW1 kWA z7 zr7 z8 kf7 kc7 ho hr hf hgr
          go_wp2
          go_roundw
          case rel => exact ⟨k + 1, by go_num, by omega, HN⟩
          case measure => simp [intOf]; omega
        · go_simp
          refine hK.out _ _ trivial (fun hH => ?_)
          clear hK K
          try simp only [Act.put, List.setIfInBounds_toArray, List.set_cons_zero, List.set_cons_succ]
          refine wpAnyH_ready (rs := [1]) (by kernel_rfl) (by simp) (AllReadyH.cons rfl (fun K hK => ?_) AllReadyH.nil)
          go_simp
          refine hK.out _ _ trivial (fun hH => ?_)
          clear hK K
          try simp only [Act.put, List.setIfInBounds_toArray, List.set_cons_zero, List.set_cons_succ]
          refine wpAnyH_ready (rs := [4]) (by kernel_rfl) (by simp) (AllReadyH.cons rfl (fun K hK => ?_) AllReadyH.nil)
          refine wp_append_run (.tmp 11) (.tmp 13) 22 rfl _ _ rfl rfl hr ?_
          refine hK.out _ _ trivial (fun hH => ?_)
          clear hK K
          try simp only [Act.put, List.setIfInBounds_toArray, List.set_cons_zero, List.set_cons_succ]
          refine take_at (i := 5) (some 15) (.pointer (some ⟨V.heap.size + 1, 0, none⟩)) rfl rfl (by kernel_rfl) (by kernel_rfl) (by kernel_rfl) (fun _ _ _ h => h) (Or.inl ⟨by rfl, fun w' hSw => by go_simp⟩) hH ?_
          try simp only [Act.put, List.setIfInBounds_toArray, List.set_cons_zero, List.set_cons_succ]
          refine wpAnyH_ready (rs := [6]) (by kernel_rfl) (by simp) (AllReadyH.cons rfl (fun K hK => ?_) AllReadyH.nil)
          go_simp
          refine hK.out _ _ trivial (fun hH => ?_)
          clear hK K hH
          refine wpAnyH_done (by kernel_rfl) ?_ _
          try simp only [Act.put, List.setIfInBounds_toArray, List.set_cons_zero, List.set_cons_succ]
          clear kW1 kWA z7 zr7 z8 kf7 kc7 ho hr hf hgr
          go_wp2
          go_roundw
          case rel => exact ⟨k + 1, by go_num, by omega, HN⟩
          case measure => simp [intOf]; omega
    · obtain rfl : k = n := by omega
      have i0 := infoMS (.slice A k c) (.slice none 0 0) (bornN k)
      have o0 := mvV_one (.slice A k c) (.slice none 0 0) (bornN k) rfl rfl
      go_wp2_with (first | refine wpList_load_row rfl 50 _ rfl (V.heap.size + 1) rfl 50 _ (0, 0) _ z Tryd.underlying50 rfl i0 ?_ | refine wpList_store_row rfl 50 _ _ rfl V.heap.size (mvV (.slice A k c) (.slice none 0 0) (bornN k)) rfl rfl 50 _ zr i0 rfl o0 ?_ | fail)
      have bE := below_setRow hb (g := V.heap.size) (Nat.le_refl _) (mvV (.slice A k c) (.slice none 0 0) (bornN k))
      refine bodyPost_ret (end_cell0 rfl _ _ _ _ _ zr rfl Tryd.underlying50 rfl i0) rfl ⟨_, rfl, (fun q => V.heap.size ≤ q), ⟨.slice A k c, .slice none 0 0, rfl, ?_, World.ownsRow_nil _ _ _ _, fun q hq => ?_, fun _ => rfl⟩, bE, fun q hq => .inr hq⟩
      · show World.ownsRow _ 0 9 1 (.slice A k c) (List.replicate k (sect 0)).length (strs (List.replicate k (sect 0)))
        rw [List.length_replicate]
        refine owns_mono (owns_block hown (fun q e => ?_)) (Nat.zero_le _)
        have := owns_ge hown q e
        exact setRow_other _ _ _ _ (by omega)
      · rcases hq with e | e
        · have := owns_ge hown q e; show V.heap.size ≤ q; omega
        · simp [Value.ownBlock] at e
end Go.Proofs.YtknbhgodhmcemaaDoor.Dk
namespace Go.Proofs.YtknbhgodhmcemaaDoor.Dk
set_option linter.unusedSimpArgs false
set_option linter.unusedVariables false
set_option maxRecDepth 100000
open Go.RowKit Go.Proofs.YtknbhgodhmcemaaDoor.Own Go.Proofs.YtknbhgodhmcemaaDoor.Cel
theorem setRow_size (W : World) (b : Nat) (cs : Array Value) : (W.setRow b cs).heap.size = W.heap.size := by simp [World.setRow]
theorem applyW_all (n : Nat) : ∀ (ws : List Wt) (l : List ByteArray), (∀ s ∈ l, s.size = n) → (∀ x ∈ ws, x.2.size = n) → ∀ s ∈ applyW l ws, s.size = n
  | [], l, h, _ => h
  | x :: r, l, h, hw => applyW_all n r (l.set x.1 x.2) (fun s hs => by
      rcases List.mem_or_eq_of_mem_set hs with hs | rfl
      · exact h s hs
      · exact hw x (by simp)) (fun y hy => hw y (by simp [hy]))
structure PI (n k : Nat) (S : DS) : Prop where
  len : S.lasts.length = n
  ok : S.ok
  l128 : ∀ s ∈ S.lasts, s.size = 128
  w128 : ∀ x ∈ S.waits, x.2.size = 128
  wl : S.waits.length ≤ k
  o0 : 0 ≤ S.ops
  o1 : S.ops ≤ (k : Int)
  ar : S.armed ≤ 9223372036854775807
theorem PI.mono {n k k' : Nat} {S : DS} (h : PI n k S) (hk : k ≤ k') : PI n k' S := ⟨h.len, h.ok, h.l128, h.w128, Nat.le_trans h.wl hk, h.o0, by have := h.o1; omega, h.ar⟩
theorem PI.arm {n k : Nat} {S : DS} (h : PI n k S) (a : Int) (ha : a ≤ 9223372036854775807) : PI n k { S with armed := a } := ⟨h.len, h.ok, h.l128, h.w128, h.wl, h.o0, h.o1, ha⟩
theorem PI.failed {n k : Nat} {S : DS} (h : PI n k S) : PI n k S.fails.1 := by
  unfold DS.fails
  split
  · exact h
  · exact h.arm _ (by have := h.ar; omega)
theorem PI.crash {n k : Nat} {S : DS} (h : PI n k S) (kp : Nat → Bool) : PI n k (S.crash kp) :=
  ⟨(applyW_len _ _).trans h.len, fun x hx => absurd hx (by simp [DS.crash]), applyW_all 128 _ _ h.l128 (fun x hx => h.w128 x (keptW_mem kp x _ _ hx)), fun x hx => absurd hx (by simp [DS.crash]), Nat.zero_le _, h.o0, h.o1, h.ar⟩
theorem PI.ops {n k : Nat} {S : DS} (h : PI n k S) (o : Int) (h0 : 0 ≤ o) (h1 : o ≤ ((k + 1 : Nat) : Int)) : PI n (k + 1) { S with ops := o } := ⟨h.len, h.ok, h.l128, h.w128, Nat.le_succ_of_le h.wl, h0, h1, h.ar⟩
theorem PI.sync {n k : Nat} {S : DS} (h : PI n k S) : PI n (k + 1) S.sync.1 := by
  unfold DS.sync
  split
  · exact h.failed.mono (Nat.le_succ _)
  · exact (h.failed.crash _).ops _ (by have := h.o0; omega) (by have := h.o1; omega)
theorem PI.put {n k : Nat} {S : DS} (h : PI n k S) (i : Int) (s : ByteArray) : PI n (k + 1) (S.put i s).1 := by
  unfold DS.put
  split
  · exact h.mono (Nat.le_succ _)
  · split
    · exact h.mono (Nat.le_succ _)
    · split
      · exact h.failed.mono (Nat.le_succ _)
      · rename_i hi hs hf
        have hi' : 0 ≤ i ∧ i < (S.lasts.length : Int) := Classical.not_not.1 hi
        have hf' := h.failed
        refine ⟨hf'.len, fun x hx => ?_, hf'.l128, fun x hx => ?_, ?_, ?_, ?_, hf'.ar⟩
        · rcases List.mem_append.1 hx with hx | hx
          · exact (show x.1 < S.fails.1.lasts.length by rw [(fails_lasts S).1]; exact h.ok x hx)
          · simp only [List.mem_singleton] at hx
            subst hx
            show i.toNat < S.fails.1.lasts.length
            rw [(fails_lasts S).1]; omega
        · rcases List.mem_append.1 hx with hx | hx
          · exact h.w128 x hx
          · simp only [List.mem_singleton] at hx
            subst hx
            exact Classical.not_not.1 hs
        · show (S.waits ++ [(i.toNat, s)]).length ≤ _
          rw [List.length_append]; have := h.wl; simp; exact this
        · show 0 ≤ S.ops + 1
          have := h.o0; omega
        · show S.ops + 1 ≤ _
          have := h.o1; omega
theorem PI.rot {n k : Nat} {S : DS} (h : PI n k S) (i j : Int) (x : Nat) : PI n k (S.rot i j x) := by
  unfold DS.rot
  split
  · rename_i hi
    refine ⟨(List.length_set).trans h.len, fun y hy => ?_, fun s hs => ?_, h.w128, h.wl, h.o0, h.o1, h.ar⟩
    · show y.1 < (S.lasts.set _ _).length
      rw [List.length_set]; exact h.ok y hy
    · rcases List.mem_or_eq_of_mem_set hs with hs | rfl
      · exact h.l128 s hs
      · rw [turnS_size]
        have : i.toNat < S.lasts.length := by omega
        rw [List.getD_eq_getElem?_getD, List.getElem?_eq_getElem this]
        exact h.l128 _ (List.getElem_mem this)
  · exact h
theorem PI.born (n : Nat) : PI n 0 (bornN n) :=
  ⟨List.length_replicate, fun x hx => absurd hx (by simp), fun s hs => by rw [(List.mem_replicate.1 hs).2]; exact sect_size 0, fun x hx => absurd hx (by simp), Nat.le_refl _, Int.le_refl _, Int.le_refl _, by show (0 : Int) ≤ _; decide⟩
end Go.Proofs.YtknbhgodhmcemaaDoor.Dk
namespace Go.Proofs.YtknbhgodhmcemaaDoor.Dk
set_option linter.unusedSimpArgs false
set_option linter.unusedVariables false
set_option maxRecDepth 100000
open Go.RowKit Go.Proofs.YtknbhgodhmcemaaDoor.Own Go.Proofs.YtknbhgodhmcemaaDoor.Cel
variable {w V V' : World} {p : Nat} {S S' T T' : DS} {mv : Array Value} {X : List (Nat × Obj)}
def PY (w : World) (p : Nat) (S T : DS) (mv : Array Value) (X : List (Nat × Obj)) (V : World) : Prop :=
  ∃ F G lv wv, DK w.heap.size p S F V ∧ Below w.heap.size w V ∧ mv = mvV lv wv T ∧ RK G lv wv T V ∧ (∀ k, G k → k < V.heap.size ∧ ¬ F k ∧ ∀ x ∈ X, x.1 ≠ k) ∧ ∀ x ∈ X, V.heap[x.1]? = some x.2 ∧ ¬ F x.1 ∧ w.heap.size ≤ x.1
theorem PY.bel (h : PY w p S T mv X V) : Below w.heap.size w V := by
  obtain ⟨F, G, lv, wv, d, b, _⟩ := h
  exact b
theorem PY.at (h : PY w p S T mv X V) {b : Nat} {o : Obj} (hm : (b, o) ∈ X) : V.heap[b]? = some o := by
  obtain ⟨F, G, lv, wv, d, bl, e, r, g, x⟩ := h
  exact (x _ hm).1
theorem PY.info (h : PY w p S T mv X V) : (Tryd.prog.info? 50).map (·.size) = some mv.size := by
  obtain ⟨F, G, lv, wv, d, bl, rfl, r, g, x⟩ := h
  exact infoMS lv wv T
theorem PY.one (h : PY w p S T mv X V) : mv.all (·.oneCell') = true := by
  obtain ⟨F, G, lv, wv, d, bl, rfl, r, g, x⟩ := h
  exact mvV_one lv wv T (owns_cell1 r.1) (owns_cell1 r.2.1)
theorem PY.four (h : PY w p S T mv X V) : mv.size = 4 := by
  obtain ⟨F, G, lv, wv, d, bl, rfl, r, g, x⟩ := h
  rfl
theorem PY.sub (h : PY w p S T mv X V) {Y : List (Nat × Obj)} (hs : ∀ x ∈ Y, x ∈ X) : PY w p S T mv Y V := by
  obtain ⟨F, G, lv, wv, d, bl, e, r, g, x⟩ := h
  exact ⟨F, G, lv, wv, d, bl, e, r, fun k hk => ⟨(g k hk).1, (g k hk).2.1, fun y hy => (g k hk).2.2 y (hs y hy)⟩, fun y hy => x y (hs y hy)⟩
theorem heap_lt {V : World} {b : Nat} {o : Obj} (h : V.heap[b]? = some o) : b < V.heap.size := (Array.getElem?_eq_some_iff.1 h).1
theorem PY.step (h : PY w p S T mv X V) (hb : Below V.heap.size V V') : PY w p S T mv X V' := by
  obtain ⟨F, G, lv, wv, d, bl, e, r, g, x⟩ := h
  exact ⟨F, G, lv, wv, d.below hb, bl.trans (hb.mono bl.size), e, r.below hb, fun k hk => ⟨Nat.lt_of_lt_of_le (g k hk).1 hb.size, (g k hk).2⟩, fun y hy => ⟨Own.keep (x y hy).1 hb, (x y hy).2⟩⟩
theorem PY.add (h : PY w p S T mv X V) {b : Nat} {o : Obj} (hb : Below V.heap.size V V') (hn : V.heap.size ≤ b) (ho : V'.heap[b]? = some o) : PY w p S T mv ((b, o) :: X) V' := by
  obtain ⟨F, G, lv, wv, d, bl, e, r, g, x⟩ := h
  refine ⟨F, G, lv, wv, d.below hb, bl.trans (hb.mono bl.size), e, r.below hb, fun k hk => ⟨Nat.lt_of_lt_of_le (g k hk).1 hb.size, (g k hk).2.1, fun y hy => ?_⟩, fun y hy => ?_⟩
  · rcases List.mem_cons.1 hy with rfl | hy
    · have := (g k hk).1; show b ≠ k; omega
    · exact (g k hk).2.2 y hy
  · rcases List.mem_cons.1 hy with rfl | hy
    · exact ⟨ho, fun q => by have := (d.lt q).2; omega, Nat.le_trans bl.size hn⟩
    · exact ⟨Own.keep (x y hy).1 hb, (x y hy).2⟩
theorem PY.did (h : PY w p S T mv X V) {f : FuncId} {args : Array Value} {Q : Ending → Prop} (hc : ∀ F, DK w.heap.size p S F V → Calls Tryd.prog f args V fun e V' => Q e ∧ Did w.heap.size p S' F V V') :
    Calls Tryd.prog f args V fun e V' => Q e ∧ PY w p S' T mv X V' := by
  obtain ⟨F, G, lv, wv, d, bl, e, r, g, x⟩ := h
  refine (hc F d).mono ?_
  rintro e' W' ⟨q, F2, d2, o, f2⟩
  refine ⟨q, F2, G, lv, wv, d2, bl.trans (o.below (fun k hk => (d.lt hk).1) bl.size), e, r.keep (fun k hk => o.block k (g k hk).1 (g k hk).2.1), fun k hk => ⟨Nat.lt_of_lt_of_le (g k hk).1 o.size, fun y => ?_, (g k hk).2.2⟩, fun y hy => ⟨(o.block y.1 (heap_lt (x y hy).1) (x y hy).2.1).trans (x y hy).1, fun q => ?_, (x y hy).2.2⟩⟩
  · rcases f2 k y with z | z
    · exact (g k hk).2.1 z
    · have := (g k hk).1; omega
  · rcases f2 _ q with z | z
    · exact (x y hy).2.1 z
    · have := heap_lt (x y hy).1; omega
theorem PY.ref (h : PY w p S T mv X V) {f : FuncId} {args : Array Value} {R : Array Value → Ending} (hc : ∀ G lv wv, mv = mvV lv wv T → RK G lv wv T V → Calls Tryd.prog f args V fun e V' => ∃ mv', e = R mv' ∧ Rid G mv' T' V V') :
    Calls Tryd.prog f args V fun e V' => ∃ mv', e = R mv' ∧ PY w p S T' mv' X V' := by
  obtain ⟨F, G, lv, wv, d, bl, e, r, g, x⟩ := h
  refine (hc G lv wv e r).mono ?_
  rintro e' W' ⟨mv', rfl, G', ⟨lv', wv', rfl, r'⟩, hb, g'⟩
  refine ⟨_, rfl, F, (fun q => G' q ∧ q < W'.heap.size), lv', wv', d.below hb, bl.trans (hb.mono bl.size), rfl, r'.tight, fun k hk => ⟨hk.2, fun y => ?_, fun y hy => ?_⟩, fun y hy => ⟨Own.keep (x y hy).1 hb, (x y hy).2⟩⟩
  · rcases g' k hk.1 with z | z
    · exact (g k z).2.1 y
    · have := (d.lt y).2; omega
  · rcases g' k hk.1 with z | z
    · exact (g k z).2.2 y hy
    · have := heap_lt (x y hy).1; omega
theorem PY.row {b : Nat} {old : Array Value} {t : TypeId} (h : PY w p S T mv ((b, .cells old t (0, 0)) :: X) V) (cs : Array Value) (hY : ∀ x ∈ X, x.1 ≠ b) : PY w p S T mv ((b, .cells cs t (0, 0)) :: X) (V.setRow b cs) := by
  obtain ⟨F, G, lv, wv, d, bl, e, r, g, x⟩ := h
  have hb := x _ List.mem_cons_self
  refine ⟨F, G, lv, wv, d.keep (fun k hk => setRow_other V b k cs (fun y => hb.2.1 (y ▸ hk))), bl.trans ((below_setRow (Below.refl V.heap.size V |>.mono bl.size) (g := b) hb.2.2 cs)), e, r.keep (fun k hk => setRow_other V b k cs (fun y => (g k hk).2.2 _ List.mem_cons_self y.symm)), fun k hk => ⟨by rw [setRow_size]; exact (g k hk).1, (g k hk).2.1, fun y hy => ?_⟩, fun y hy => ?_⟩
  · rcases List.mem_cons.1 hy with rfl | hy
    · exact (g k hk).2.2 (b, .cells old t (0, 0)) List.mem_cons_self
    · exact (g k hk).2.2 y (List.mem_cons_of_mem _ hy)
  · rcases List.mem_cons.1 hy with rfl | hy
    · exact ⟨setRow_heap V b _ cs t _ hb.1, hb.2⟩
    · exact ⟨(setRow_other V b y.1 cs (hY y hy)).trans (x y (List.mem_cons_of_mem _ hy)).1, (x y (List.mem_cons_of_mem _ hy)).2⟩
theorem PY.armed {b : Nat} (h : PY w p S T mv ((b, .cells mv 50 (0, 0)) :: X) V) (n : Int) (hY : ∀ x ∈ X, x.1 ≠ b) :
    ∃ mv', PY w p S { T with armed := n } mv' ((b, .cells mv' 50 (0, 0)) :: X) (V.setCell ⟨b, 2, none⟩ (.int .i64 n)) := by
  obtain ⟨F, G, lv, wv, d, bl, rfl, r, g, x⟩ := h
  have hb := x _ List.mem_cons_self
  have z0 : (V.setCell ⟨b, 2, none⟩ (.int .i64 n)).heap[b]? = some (.cells (mvV lv wv { T with armed := n }) 50 (0, 0)) := heap_setCell_same V b 2 _ _ (.int .i64 n) hb.1
  refine ⟨mvV lv wv { T with armed := n }, F, G, lv, wv, d.keep (fun k hk => set_other _ _ _ _ (fun (y : k = b) => hb.2.1 (y ▸ hk))), bl.setCell (p := ⟨b, 2, none⟩) hb.2.2 _, rfl, r.keep (fun k hk => set_other _ _ _ _ (fun (y : k = b) => (g k hk).2.2 _ List.mem_cons_self y.symm)), fun k hk => ⟨by simpa using (g k hk).1, (g k hk).2.1, fun y hy => ?_⟩, fun y hy => ?_⟩
  · rcases List.mem_cons.1 hy with rfl | hy
    · exact (g k hk).2.2 (b, .cells (mvV lv wv T) 50 (0, 0)) List.mem_cons_self
    · exact (g k hk).2.2 y (List.mem_cons_of_mem _ hy)
  · rcases List.mem_cons.1 hy with rfl | hy
    · exact ⟨z0, hb.2⟩
    · exact ⟨(set_other _ _ _ _ (hY y hy)).trans (x y (List.mem_cons_of_mem _ hy)).1, (x y (List.mem_cons_of_mem _ hy)).2⟩
theorem PY.same (h : PY w p S S mv X V) (hl : S.lasts.length ≤ 100000) (hw : S.waits.length ≤ 1000000) :
    Calls Tryd.prog 30 #[.pointer (some ⟨p, 0, none⟩), .agg mv] V fun e V' => e = .returned (.bool true) ∧ Below V.heap.size V V' := by
  obtain ⟨F, G, lv, wv, d, bl, rfl, r, g, x⟩ := h
  exact same_calls d r hl hw
theorem PY.start {F : Nat → Prop} (d : DK w.heap.size p S F V) (bl : Below w.heap.size w V) (hr : Rid (fun _ => False) mv T V V') : PY w p S T mv [] V' := by
  obtain ⟨G', ⟨lv', wv', rfl, r'⟩, hb, g'⟩ := hr
  refine ⟨F, (fun q => G' q ∧ q < V'.heap.size), lv', wv', d.below hb, bl.trans (hb.mono bl.size), rfl, r'.tight, fun k hk => ⟨hk.2, fun y => ?_, fun y hy => absurd hy (by simp)⟩, fun y hy => absurd hy (by simp)⟩
  rcases g' k hk.1 with z | z
  · exact z
  · have := (d.lt y).2; omega
theorem KArg.keepAt {A : Option Addr} {ks : List Bool} {F : Nat → Prop} (h : KArg A ks w) (hb : Below w.heap.size w V) (d : DK w.heap.size p S F V) : KeepAt F A ks V := fun i hi => by
  obtain ⟨b, o, e, hc⟩ := h i hi
  have hlt : b < w.heap.size := World.block_lt_of_cell? w _ hc
  exact ⟨o + i, b, o, e, rfl, fun y => by have := (d.lt y).1; omega, (World.cell?_of_block (hb.block b hlt)).trans hc⟩
end Go.Proofs.YtknbhgodhmcemaaDoor.Dk
namespace Go.Proofs.YtknbhgodhmcemaaDoor.So
set_option linter.unusedSimpArgs false
set_option linter.unusedVariables false
set_option maxRecDepth 100000
open Go.RowKit Go.Proofs.YtknbhgodhmcemaaDoor.Own Go.Proofs.YtknbhgodhmcemaaDoor.Cel Go.Proofs.YtknbhgodhmcemaaDoor.Dk
theorem box_new {V : World} (zc cs : Array Value) (t : TypeId) : Below V.heap.size V ((V.alloc (.cells zc t)).setRow V.heap.size cs) ∧ ((V.alloc (.cells zc t)).setRow V.heap.size cs).heap[V.heap.size]? = some (.cells cs t (0, 0)) ∧ (V.alloc (.cells zc t)).heap[V.heap.size]? = some (.cells zc t (0, 0)) :=
  ⟨below_setRow ((Below.refl V.heap.size V).alloc (Nat.le_refl _) (.cells zc t)) (g := V.heap.size) (Nat.le_refl _) cs, setRow_heap _ _ _ cs t (0, 0) (heap_alloc_new V _), heap_alloc_new V _⟩
structure QW (V : World) (G0 : Nat → Prop) (v : Value) (n : Nat) (xs : List Value) (mc mv : Array Value) (T : DS) (W : World) : Prop where
  m : W.heap[V.heap.size]? = some (.cells mc 50 (0, 0))
  z : W.heap[V.heap.size + 1]? = some (.cells zM 50 (0, 0))
  bel : Below V.heap.size V W
  own : W.ownsRow (V.heap.size + 2) 119 4 v n xs
  both : ∃ G lv wv, mv = mvV lv wv T ∧ RK G lv wv T W ∧ ∀ k, G k → ((G0 k ∧ k < V.heap.size) ∨ V.heap.size + 2 ≤ k) ∧ k < W.heap.size
theorem QW.start {V : World} {G0 : Nat → Prop} {lv wv : Value} {S : DS} (h : RK G0 lv wv S V) : QW V G0 (.slice none 0 0) 0 [] (mvV lv wv S) (mvV lv wv S) S ((V.alloc (.cells (mvV lv wv S) 50)).alloc (.cells zM 50)) := by
  have hb := ((Below.refl V.heap.size V).alloc (Nat.le_refl _) (.cells (mvV lv wv S) 50)).alloc (by simp) (.cells zM 50)
  refine ⟨Own.keep (heap_alloc_new V _) ((Below.refl _ _).alloc (Nat.le_refl _) _), ?_, hb, World.ownsRow_nil _ _ _ _, (fun q => G0 q ∧ q < V.heap.size), lv, wv, rfl, h.tight.below hb, fun k hk => ⟨.inl hk, Nat.lt_of_lt_of_le hk.2 hb.size⟩⟩
  have := heap_alloc_new (V.alloc (.cells (mvV lv wv S) 50)) (.cells zM 50)
  simpa using this
variable {V W W' : World} {G0 : Nat → Prop} {v : Value} {n : Nat} {xs : List Value} {mc mv : Array Value} {T T' : DS}
theorem QW.size (h : QW V G0 v n xs mc mv T W) : V.heap.size + 2 ≤ W.heap.size := heap_lt h.z
theorem QW.info (h : QW V G0 v n xs mc mv T W) : (Tryd.prog.info? 50).map (·.size) = some mv.size := by
  obtain ⟨G, lv, wv, rfl, _⟩ := h.both
  exact infoMS lv wv T
theorem QW.four (h : QW V G0 v n xs mc mv T W) : mv.size = 4 := by
  obtain ⟨G, lv, wv, rfl, _⟩ := h.both
  rfl
theorem QW.one (h : QW V G0 v n xs mc mv T W) : mv.all (·.oneCell') = true := by
  obtain ⟨G, lv, wv, rfl, r, _⟩ := h.both
  exact mvV_one lv wv T (owns_cell1 r.1) (owns_cell1 r.2.1)
theorem QW.step (h : QW V G0 v n xs mc mv T W) (hb : Below W.heap.size W W') : QW V G0 v n xs mc mv T W' := by
  obtain ⟨G, lv, wv, e, r, g⟩ := h.both
  exact ⟨Own.keep h.m hb, Own.keep h.z hb, h.bel.trans (hb.mono h.bel.size), owns_keep h.own hb, G, lv, wv, e, r.below hb, fun k hk => ⟨(g k hk).1, Nat.lt_of_lt_of_le (g k hk).2 hb.size⟩⟩
theorem QW.rows (h : QW V G0 v n xs mc mv T W) (hb : Below W.heap.size W W') {v' : Value} {n' : Nat} {xs' : List Value} (ho : W'.ownsRow W.heap.size 119 4 v' n' xs') : QW V G0 v' n' xs' mc mv T W' := by
  have h2 := h.step hb
  exact ⟨h2.m, h2.z, h2.bel, owns_mono ho h.size, h2.both⟩
theorem QW.ref (h : QW V G0 v n xs mc mv T W) {f : FuncId} {args : Array Value} {R : Array Value → Ending} (hc : ∀ G lv wv, mv = mvV lv wv T → RK G lv wv T W → Calls Tryd.prog f args W fun e W' => ∃ mv', e = R mv' ∧ Rid G mv' T' W W') :
    Calls Tryd.prog f args W fun e W' => ∃ mv', e = R mv' ∧ QW V G0 v n xs mc mv' T' W' := by
  obtain ⟨G, lv, wv, e, r, g⟩ := h.both
  refine (hc G lv wv e r).mono ?_
  rintro e' W' ⟨mv', rfl, G', ⟨lv', wv', rfl, r'⟩, hb, g'⟩
  have h2 := h.step hb
  have hs := h.size
  refine ⟨_, rfl, h2.m, h2.z, h2.bel, h2.own, (fun q => G' q ∧ q < W'.heap.size), lv', wv', rfl, r'.tight, fun k hk => ⟨?_, hk.2⟩⟩
  rcases g' k hk.1 with x | x
  · exact (g k x).1
  · exact .inr (by omega)
theorem QW.keeps (h : QW V G0 v n xs mc mv T W) : ∀ k, v.ownBlock = some k → V.heap.size + 2 ≤ k := fun k e => (h.own.lt k e).1
theorem QW.put (h : QW V G0 v n xs mc mv T W) : QW V G0 v n xs mv mv T (W.setRow V.heap.size mv) := by
  obtain ⟨G, lv, wv, e, r, g⟩ := h.both
  refine ⟨setRow_heap W _ _ mv _ _ h.m, (setRow_other W V.heap.size (V.heap.size + 1) mv (by omega)).trans h.z, below_setRow h.bel (Nat.le_refl _) mv, owns_block h.own (fun k e => setRow_other W _ k mv (by have := h.keeps k e; omega)), G, lv, wv, e, r.keep (fun k hk => setRow_other W _ k mv (fun x => ?_)), fun k hk => by rw [setRow_size]; exact g k hk⟩
  rcases (g k hk).1 with y | y
  · have := y.2; omega
  · omega
theorem QW.done (h : QW V G0 v n xs mc mv T W) : Rid G0 mv T V (W.setRow (V.heap.size + 1) mv) := by
  obtain ⟨G, lv, wv, e, r, g⟩ := h.both
  refine ⟨G, ⟨lv, wv, e, r.keep (fun k hk => setRow_other W _ k mv (fun x => ?_))⟩, below_setRow h.bel (by omega) mv, fun k hk => ?_⟩
  · rcases (g k hk).1 with y | y
    · have := y.2; omega
    · omega
  · rcases (g k hk).1 with y | y
    · exact .inl y.1
    · exact .inr (by omega)
theorem rput_at {S S' : DS} (h : QW V G0 v n xs mc mv S W) (i : Int) (s : ByteArray) {q : Int} (hP : S.put i s = (S', q)) (hl : S.lasts.length ≤ 100000) (hw : S.waits.length ≤ 1000000) (ha : S.armed ≤ 9223372036854775807) (ho0 : 0 ≤ S.ops) (ho : S.ops ≤ 4611686018427387904) :
    Calls Tryd.prog 29 #[.agg mv, .int .i64 i, .string s] W fun e W' => ∃ mv', e = .returned (.tuple #[.agg mv', .int .i64 q]) ∧ QW V G0 v n xs mc mv' S' W' :=
  h.ref (R := fun m => .returned (.tuple #[.agg m, .int .i64 q])) (fun G lv wv e r => by
    have := rput_calls r i s hl hw ha ho0 ho
    rw [hP] at this
    rw [e]; exact this)
set_option maxHeartbeats 8000000 in
theorem rwrite_no {G : Nat → Prop} {lv wv : Value} {S : DS} (h : RK G lv wv S V) (hl : S.lasts.length ≤ 100000) (fr room : Int) (g : Nat) (t : ByteArray) (hn : ¬ mayP S.lasts.length fr room) :
    Calls Tryd.prog 22 #[.agg (mvV lv wv S), .int .i64 fr, .int .i64 room, .int .u64 (g : Nat), .string t] V fun e V' => ∃ mv', e = .returned (.tuple #[.agg mv', .int .i64 5]) ∧ Rid G mv' S V V' := by
  have h0 := QW.start h
  obtain ⟨G1, lv1, wv1, e1, r1, _⟩ := h0.both
  have KM := rmay_calls r1 hl fr room
  rw [← e1, decide_eq_false hn] at KM
  obtain ⟨mv, hmv⟩ : ∃ mv, mvV lv wv S = mv := ⟨_, rfl⟩
  rw [hmv] at KM h0 ⊢
  have y0 := h0.m
  have i0 := h0.info
  have K := Asd.mk KM
  have H := Asd.mk h0
  clear h hl hn KM hmv h0 e1 r1
  go_enter Tryd.func22, Tryd.ntmps22
  go_wp2_with (first | refine wpList_load_row rfl 50 _ rfl V.heap.size rfl 50 _ (0, 0) _ y0 Tryd.underlying50 rfl i0 ?_ | fail)
  refine K.out.mono ?_
  rintro e w1 ⟨rfl, hb⟩
  have h1 := H.out.step hb
  have y1 := h1.m
  have y2 := h1.z
  have o0 := h1.one
  have q2 : zM.size = mv.size := h1.four.symm
  have H1 := Asd.mk h1.done
  clear K H hb h1 y0
  go_wp2_with (first | refine wpList_load_row rfl 50 _ rfl V.heap.size rfl 50 _ (0, 0) _ y1 Tryd.underlying50 rfl i0 ?_ | refine wpList_store_row rfl 50 _ _ rfl (V.heap.size + 1) mv rfl rfl 50 _ y2 i0 q2 o0 ?_ | fail)
  exact bodyPost_ret (Cel.end_cell rfl _ _ _ _ _ y2 rfl Tryd.underlying50 rfl i0) rfl ⟨_, rfl, H1.out⟩
set_option maxHeartbeats 8000000 in
theorem rwrite_long {G : Nat → Prop} {lv wv : Value} {S : DS} (h : RK G lv wv S V) (hl : S.lasts.length ≤ 5000) (fr room g : Nat) (t : ByteArray) (hr : 1 ≤ room) (hl2 : fr + room ≤ S.lasts.length) (ht : t.size ≤ 90000) (hlong : 110 * room < t.size + 4) :
    Calls Tryd.prog 22 #[.agg (mvV lv wv S), .int .i64 (fr : Nat), .int .i64 (room : Nat), .int .u64 (g : Nat), .string t] V fun e V' => ∃ mv', e = .returned (.tuple #[.agg mv', .int .i64 11]) ∧ Rid G mv' S V V' := by
  have h0 := QW.start h
  obtain ⟨G1, lv1, wv1, e1, r1, _⟩ := h0.both
  have KM := rmay_calls r1 (by omega) fr room
  rw [← e1, decide_eq_true (show mayP S.lasts.length fr room from ⟨by omega, by omega, by omega, by omega⟩)] at KM
  obtain ⟨mv, hmv⟩ : ∃ mv, mvV lv wv S = mv := ⟨_, rfl⟩
  rw [hmv] at KM h0 ⊢
  have y0 := h0.m
  have i0 := h0.info
  have K := Asd.mk KM
  have H := Asd.mk h0
  have d1 : decide (110 * (room : Int) < (t.size : Int) + 4) = true := decide_eq_true (by omega)
  have hr5 : room ≤ 5000 := by omega
  clear h hl hl2 KM hmv h0 e1 r1 hlong hr
  go_enter Tryd.func22, Tryd.ntmps22
  go_wp2_with (first | refine wpList_load_row rfl 50 _ rfl V.heap.size rfl 50 _ (0, 0) _ y0 Tryd.underlying50 rfl i0 ?_ | fail)
  refine K.out.mono ?_
  rintro e w1 ⟨rfl, hb⟩
  have h1 := H.out.step hb
  have y1 := h1.m
  have y2 := h1.z
  have o0 := h1.one
  have q2 : zM.size = mv.size := h1.four.symm
  have H1 := Asd.mk h1.done
  clear K H hb h1 y0
  go_wp2_with (first | refine wpList_load_row rfl 50 _ rfl V.heap.size rfl 50 _ (0, 0) _ y1 Tryd.underlying50 rfl i0 ?_ | refine wpList_store_row rfl 50 _ _ rfl (V.heap.size + 1) mv rfl rfl 50 _ y2 i0 q2 o0 ?_ | fail)
  exact bodyPost_ret (Cel.end_cell rfl _ _ _ _ _ y2 rfl Tryd.underlying50 rfl i0) rfl ⟨_, rfl, H1.out⟩
end Go.Proofs.YtknbhgodhmcemaaDoor.So
namespace Go.Proofs.YtknbhgodhmcemaaDoor.So
set_option linter.unusedSimpArgs false
set_option linter.unusedVariables false
set_option maxRecDepth 100000
open Go.RowKit Go.Proofs.YtknbhgodhmcemaaDoor.Own Go.Proofs.YtknbhgodhmcemaaDoor.Cel Go.Proofs.YtknbhgodhmcemaaDoor.Dk
open Go.Proofs.YtknbhgodhmcemaaDoor.Sl (openS recV recV_one infoQ ropen_calls)
def NW (V : World) (mv : Array Value) (W : World) : Prop := Below V.heap.size V W ∧ W.heap[V.heap.size]? = some (.cells mv 50 (0, 0))
theorem NW.step {V W W' : World} {mv : Array Value} (h : NW V mv W) (hb : Below W.heap.size W W') : NW V mv W' := ⟨h.1.trans (hb.mono h.1.size), Own.keep h.2 hb⟩
theorem NW.start (V : World) (mv : Array Value) : NW V mv (V.alloc (.cells mv 50)) := ⟨(Below.refl V.heap.size V).alloc (Nat.le_refl _) _, heap_alloc_new V _⟩
abbrev zR : Array Value := #[.int .u8 0, .int .u64 0, .int .u32 0, .string ⟨#[]⟩]
theorem readAt_in {S : DS} {i : Nat} (h : i < S.lasts.length) : S.readAt (i : Int) = (S.read.getD i ByteArray.empty, 0) := by
  unfold DS.readAt
  rw [if_pos ⟨by omega, by omega⟩, Int.toNat_natCast]
structure RdOk (V : World) (mv : Array Value) (S : DS) (fr room : Nat) : Prop where
  may : ∀ W, Below V.heap.size V W → Calls Tryd.prog 58 #[.agg mv, .int .i64 (fr : Nat), .int .i64 (room : Nat)] W fun e W' => e = .returned (.bool true) ∧ Below W.heap.size W W'
  read : ∀ W, Below V.heap.size V W → ∀ i : Nat, i < room → Calls Tryd.prog 71 #[.agg mv, .int .i64 ((fr : Int) + (i : Int))] W fun e W' => e = .returned (.tuple #[.string (S.read.getD (fr + i) ByteArray.empty), .int .i64 0]) ∧ Below W.heap.size W W'
  info : (Tryd.prog.info? 50).map (·.size) = some mv.size
  small : ∀ j, (S.read.getD j ByteArray.empty).size ≤ 1000
theorem RdOk.mk' {G : Nat → Prop} {lv wv : Value} {S : DS} {V : World} (h : RK G lv wv S V) (fr room : Nat) (hr : 1 ≤ room) (hl : fr + room ≤ S.lasts.length) (hN : S.lasts.length ≤ 5000) (hw : S.waits.length ≤ 1000000) (hsz : ∀ j, (S.read.getD j ByteArray.empty).size ≤ 1000) : RdOk V (mvV lv wv S) S fr room := by
  refine ⟨fun W hb => ?_, fun W hb i hi => ?_, infoMS lv wv S, hsz⟩
  · have := rmay_calls (h.below hb) (by omega) fr room
    rw [decide_eq_true (show mayP S.lasts.length fr room from ⟨by omega, by omega, by omega, by omega⟩)] at this
    exact this
  · have := rread_calls (h.below hb) ((fr + i : Nat) : Int) (by omega) hw
    rw [readAt_in (by omega), show ((fr + i : Nat) : Int) = (fr : Int) + (i : Int) by omega] at this
    exact this
set_option maxHeartbeats 8000000 in
theorem rnew_no {G : Nat → Prop} {lv wv : Value} {S : DS} {V : World} (h : RK G lv wv S V) (hl : S.lasts.length ≤ 100000) (fr room : Int) (hn : ¬ mayP S.lasts.length fr room) :
    Calls Tryd.prog 32 #[.agg (mvV lv wv S), .int .i64 fr, .int .i64 room] V fun e V' => e = .returned (.int .u64 0) ∧ Below V.heap.size V V' := by
  have h0 := NW.start V (mvV lv wv S)
  have KM := rmay_calls (h.below h0.1) hl fr room
  rw [decide_eq_false hn] at KM
  have K := Asd.mk KM
  have i0 := infoMS lv wv S
  have y0 := h0.2
  have H := Asd.mk h0
  obtain ⟨mv, hmv⟩ : ∃ mv, mvV lv wv S = mv := ⟨_, rfl⟩
  rw [hmv] at K i0 y0 H ⊢
  clear h hl hn KM h0 hmv
  go_enter Tryd.func32, Tryd.ntmps32
  go_wp2_with fail
  go_loopw [7, 8] (fun mo iv W => mo = .int .u64 0 ∧ iv = .int .i64 0 ∧ W = V.alloc (.cells mv 50)) (fun _ _ _ => 0)
  case atStart => exact ⟨rfl, rfl, rfl⟩
  case round =>
    obtain ⟨rfl, rfl, rfl⟩ := hrel
    go_wp2_with (first | refine wpList_load_row rfl 50 _ rfl V.heap.size rfl 50 _ (0, 0) _ y0 Tryd.underlying50 rfl i0 ?_ | fail)
    refine K.out.mono ?_
    rintro e w1 ⟨rfl, hb⟩
    have HE := Asd.mk (H.out.step hb)
    clear K H hb y0 i0
    go_wp2
    go_ret
    exact ⟨rfl, HE.out.1⟩
set_option maxHeartbeats 16000000 in
theorem rnew_good {V : World} {mv : Array Value} {S : DS} {fr room : Nat} (h : RdOk V mv S fr room) (hr : fr + room ≤ 5000) :
    Calls Tryd.prog 32 #[.agg mv, .int .i64 (fr : Nat), .int .i64 (room : Nat)] V fun e V' => e = .returned (.int .u64 (newS S.read fr room : Nat)) ∧ Below V.heap.size V V' := by
  obtain ⟨R, hR⟩ : ∃ R, newS S.read fr room = R := ⟨_, rfl⟩
  rw [hR]
  have H0 := Asd.mk (show NW V mv (V.alloc (.cells mv 50)) ∧ newGo S.read fr (room - 0) 0 0 = R from ⟨NW.start V mv, hR⟩)
  have i0 := h.info
  have HK := Asd.mk h
  clear hR h
  go_enter Tryd.func32, Tryd.ntmps32
  go_wp2_with fail
  go_loopw [7, 8] (fun mo iv W => ∃ (i most : Nat), mo = .int .u64 (most : Nat) ∧ iv = .int .i64 i ∧ i ≤ room ∧ Asd (NW V mv W ∧ newGo S.read fr (room - i) i most = R)) (fun _ iv _ => room - (intOf iv).toNat)
  case atStart => exact ⟨0, 0, rfl, rfl, by omega, H0⟩
  case round =>
    obtain ⟨i, most, rfl, rfl, hi, HS⟩ := hrel
    clear H0
    have y0 := HS.out.1.2
    have KM := Asd.mk (HK.out.may _ HS.out.1.1)
    by_cases hlt : i < room
    rotate_left
    · have hki : room - i = 0 := by omega
      have hRR : R = most := by have := HS.out.2; rw [hki, newGo] at this; exact this.symm
      obtain rfl : i = room := by omega
      subst hRR
      have H1 := Asd.mk HS.out.1
      clear HS hlt hi hki
      go_wp2_with (first | refine wpList_load_row rfl 50 _ rfl V.heap.size rfl 50 _ (0, 0) _ y0 Tryd.underlying50 rfl i0 ?_ | fail)
      refine KM.out.mono ?_
      rintro e w1 ⟨rfl, hb⟩
      have HE := Asd.mk (H1.out.step hb)
      clear KM H1 hb y0
      go_wp2
      go_ret
      exact ⟨rfl, HE.out.1⟩
    have hi1 : (i : Int) < (room : Int) := by omega
    have KR0 := fun (W : World) (hb : Below V.heap.size V W) => HK.out.read W hb i hlt
    have hs1 := HK.out.small (fr + i)
    have hgo : newGo S.read fr (room - i) i most = newGo S.read fr ((room - (i + 1)) + 1) i most := by rw [show room - i = (room - (i + 1)) + 1 by omega]
    have hR2 := HS.out.2
    rw [hgo, newGo] at hR2
    obtain ⟨x, hx⟩ : ∃ x, S.read.getD (fr + i) ByteArray.empty = x := ⟨_, rfl⟩
    rw [hx] at KR0 hs1 hR2
    have KO0 := fun (W : World) => ropen_calls x W hs1
    obtain ⟨o, ho⟩ : ∃ o, openS x = o := ⟨_, rfl⟩
    rw [ho] at KO0 hR2
    obtain ⟨⟨k, g, ix, d⟩, q⟩ := o
    dsimp only at KO0 hR2
    have KR := Asd.mk KR0
    have KO := Asd.mk KO0
    have HR2 := Asd.mk hR2
    have H1 := Asd.mk HS.out.1
    clear KR0 KO0 hs1 hgo hR2 hx ho HS
    go_wp2_with (first | refine wpList_load_row rfl 50 _ rfl V.heap.size rfl 50 _ (0, 0) _ y0 Tryd.underlying50 rfl i0 ?_ | fail)
    refine KM.out.mono ?_
    rintro e w1 ⟨rfl, hb⟩
    have h2 := H1.out.step hb
    have KR1 := Asd.mk (KR.out _ h2.1)
    have y1 := h2.2
    have H2 := Asd.mk h2
    clear KM H1 hb y0 h2 KR
    go_wp2_with (first | refine wpList_load_row rfl 50 _ rfl V.heap.size rfl 50 _ (0, 0) _ y1 Tryd.underlying50 rfl i0 ?_ | fail)
    refine KR1.out.mono ?_
    rintro e w2 ⟨rfl, hb⟩
    have H3 := Asd.mk (H2.out.step hb)
    clear KR1 H2 hb y1
    go_wp2_with fail
    refine (KO.out _).mono ?_
    rintro e w3 ⟨rfl, hb⟩
    have h4 := H3.out.step hb
    clear KO H3 hb
    obtain ⟨hb11, z11, z11z⟩ := box_new (V := w3) zR (recV ⟨k, g, ix, d⟩) 119
    have H5 := Asd.mk (h4.step hb11)
    have iR : (Tryd.prog.info? 119).map (·.size) = some (recV ⟨k, g, ix, d⟩).size := infoQ
    have oR := recV_one ⟨k, g, ix, d⟩
    have f0 : ((w3.alloc (.cells zR 119)).setRow w3.heap.size (recV ⟨k, g, ix, d⟩)).cell? ⟨w3.heap.size, 0, none⟩ = some (.int .u8 (k : Nat)) := cell_of_row _ _ 0 _ _ _ z11
    have f1 : ((w3.alloc (.cells zR 119)).setRow w3.heap.size (recV ⟨k, g, ix, d⟩)).cell? ⟨w3.heap.size, 1, none⟩ = some (.int .u64 (g : Nat)) := cell_of_row _ _ 1 _ _ _ z11
    clear h4 hb11 z11
    by_cases hq : q = 0
    rotate_left
    · have t0 : (q == 0) = false := by simpa using hq
      have HX := Asd.mk (show NW V mv ((w3.alloc (.cells zR 119)).setRow w3.heap.size (recV ⟨k, g, ix, d⟩)) ∧ newGo S.read fr (room - (i + 1)) (i + 1) most = R from ⟨H5.out, by have := HR2.out; rw [if_pos hq] at this; exact this⟩)
      clear HR2 H5
      go_upto_region 7 with (first | refine wpList_store_row rfl 119 _ _ rfl w3.heap.size (recV ⟨k, g, ix, d⟩) rfl rfl 119 _ z11z iR rfl oR ?_ | fail)
      go_wp2
      go_roundw
      case rel => exact ⟨i + 1, most, by rfl, by go_num, by omega, HX⟩
      case measure => simp [intOf]; omega
    subst hq
    have t0 : ((0 : Int) == 0) = true := by rfl
    by_cases h2 : k = 2
    · have t2 : ((k : Int) == 2) = true := by rw [h2]; rfl
      have t2' : (k == 2) = true := by rw [h2]; rfl
      by_cases hg : most < g
      · have t4 : decide ((most : Int) < (g : Int)) = true := decide_eq_true (by omega)
        have t4' : decide (most < g) = true := decide_eq_true hg
        have hm : max most g = g := by omega
        have HX := Asd.mk (show NW V mv ((w3.alloc (.cells zR 119)).setRow w3.heap.size (recV ⟨k, g, ix, d⟩)) ∧ newGo S.read fr (room - (i + 1)) (i + 1) g = R from ⟨H5.out, by have := HR2.out; rw [if_neg (fun e => e rfl), if_pos (.inl h2), hm] at this; exact this⟩)
        clear HR2 H5 h2 hm
        go_upto_region 7 with (first | refine wpList_store_row rfl 119 _ _ rfl w3.heap.size (recV ⟨k, g, ix, d⟩) rfl rfl 119 _ z11z iR rfl oR ?_ | fail)
        go_wp2
        go_roundw
        case rel => exact ⟨i + 1, g, by rfl, by go_num, by omega, HX⟩
        case measure => simp [intOf]; omega
      · have t4 : decide ((most : Int) < (g : Int)) = false := decide_eq_false (by omega)
        have t4' : decide (most < g) = false := decide_eq_false hg
        have hm : max most g = most := by omega
        have HX := Asd.mk (show NW V mv ((w3.alloc (.cells zR 119)).setRow w3.heap.size (recV ⟨k, g, ix, d⟩)) ∧ newGo S.read fr (room - (i + 1)) (i + 1) most = R from ⟨H5.out, by have := HR2.out; rw [if_neg (fun e => e rfl), if_pos (.inl h2), hm] at this; exact this⟩)
        clear HR2 H5 h2 hm
        go_upto_region 7 with (first | refine wpList_store_row rfl 119 _ _ rfl w3.heap.size (recV ⟨k, g, ix, d⟩) rfl rfl 119 _ z11z iR rfl oR ?_ | fail)
        go_wp2
        go_roundw
        case rel => exact ⟨i + 1, most, by rfl, by go_num, by omega, HX⟩
        case measure => simp [intOf]; omega
    have t2 : ((k : Int) == 2) = false := by simp; omega
    have t2' : (k == 2) = false := by simp; omega
    by_cases h3 : k = 3
    · have t3 : ((k : Int) == 3) = true := by rw [h3]; rfl
      have t3' : (k == 3) = true := by rw [h3]; rfl
      by_cases hg : most < g
      · have t4 : decide ((most : Int) < (g : Int)) = true := decide_eq_true (by omega)
        have t4' : decide (most < g) = true := decide_eq_true hg
        have hm : max most g = g := by omega
        have HX := Asd.mk (show NW V mv ((w3.alloc (.cells zR 119)).setRow w3.heap.size (recV ⟨k, g, ix, d⟩)) ∧ newGo S.read fr (room - (i + 1)) (i + 1) g = R from ⟨H5.out, by have := HR2.out; rw [if_neg (fun e => e rfl), if_pos (.inr h3), hm] at this; exact this⟩)
        clear HR2 H5 h3 hm
        go_upto_region 7 with (first | refine wpList_store_row rfl 119 _ _ rfl w3.heap.size (recV ⟨k, g, ix, d⟩) rfl rfl 119 _ z11z iR rfl oR ?_ | fail)
        go_wp2
        go_roundw
        case rel => exact ⟨i + 1, g, by rfl, by go_num, by omega, HX⟩
        case measure => simp [intOf]; omega
      · have t4 : decide ((most : Int) < (g : Int)) = false := decide_eq_false (by omega)
        have t4' : decide (most < g) = false := decide_eq_false hg
        have hm : max most g = most := by omega
        have HX := Asd.mk (show NW V mv ((w3.alloc (.cells zR 119)).setRow w3.heap.size (recV ⟨k, g, ix, d⟩)) ∧ newGo S.read fr (room - (i + 1)) (i + 1) most = R from ⟨H5.out, by have := HR2.out; rw [if_neg (fun e => e rfl), if_pos (.inr h3), hm] at this; exact this⟩)
        clear HR2 H5 h3 hm
        go_upto_region 7 with (first | refine wpList_store_row rfl 119 _ _ rfl w3.heap.size (recV ⟨k, g, ix, d⟩) rfl rfl 119 _ z11z iR rfl oR ?_ | fail)
        go_wp2
        go_roundw
        case rel => exact ⟨i + 1, most, by rfl, by go_num, by omega, HX⟩
        case measure => simp [intOf]; omega
    have t3 : ((k : Int) == 3) = false := by simp; omega
    have t3' : (k == 3) = false := by simp; omega
    have HX := Asd.mk (show NW V mv ((w3.alloc (.cells zR 119)).setRow w3.heap.size (recV ⟨k, g, ix, d⟩)) ∧ newGo S.read fr (room - (i + 1)) (i + 1) most = R from ⟨H5.out, by have := HR2.out; rw [if_neg (fun e => e rfl), if_neg (fun e => e.elim h2 h3)] at this; exact this⟩)
    clear HR2 H5
    go_upto_region 7 with (first | refine wpList_store_row rfl 119 _ _ rfl w3.heap.size (recV ⟨k, g, ix, d⟩) rfl rfl 119 _ z11z iR rfl oR ?_ | fail)
    go_wp2
    go_roundw
    case rel => exact ⟨i + 1, most, by rfl, by go_num, by omega, HX⟩
    case measure => simp [intOf]; omega
end Go.Proofs.YtknbhgodhmcemaaDoor.So
namespace Go.Proofs.YtknbhgodhmcemaaDoor.So
open Go.Proofs.YtknbhgodhmcemaaDoor.Lg (str_ne)
set_option linter.unusedSimpArgs false
set_option linter.unusedVariables false
set_option maxRecDepth 100000
open Go.RowKit Go.Proofs.YtknbhgodhmcemaaDoor.Own Go.Proofs.YtknbhgodhmcemaaDoor.Cel Go.Proofs.YtknbhgodhmcemaaDoor.Dk
open Go.Proofs.YtknbhgodhmcemaaDoor.Sl (openS recV recV_one infoQ ropen_calls)
set_option maxHeartbeats 8000000 in
theorem rread_no {G : Nat → Prop} {lv wv : Value} {S : DS} {V : World} (h : RK G lv wv S V) (hl : S.lasts.length ≤ 100000) (fr room : Int) (hn : ¬ mayP S.lasts.length fr room) :
    Calls Tryd.prog 31 #[.agg (mvV lv wv S), .int .i64 fr, .int .i64 room] V fun e V' => e = .returned (.tuple #[.string ⟨#[]⟩, .int .u64 0, .bool false]) ∧ Below V.heap.size V V' := by
  have h0 := NW.start V (mvV lv wv S)
  have KM := rmay_calls (h.below h0.1) hl fr room
  rw [decide_eq_false hn] at KM
  have K := Asd.mk KM
  have i0 := infoMS lv wv S
  have y0 := h0.2
  have H := Asd.mk h0
  obtain ⟨mv, hmv⟩ : ∃ mv, mvV lv wv S = mv := ⟨_, rfl⟩
  rw [hmv] at K i0 y0 H ⊢
  clear h hl hn KM h0 hmv
  go_enter Tryd.func31, Tryd.ntmps31
  go_wp2_with (first | refine wpList_load_row rfl 50 _ rfl V.heap.size rfl 50 _ (0, 0) _ y0 Tryd.underlying50 rfl i0 ?_ | fail)
  refine K.out.mono ?_
  rintro e w1 ⟨rfl, hb⟩
  have HE := Asd.mk (H.out.step hb)
  clear K H hb y0 i0
  go_wp2
  go_ret3
  exact ⟨rfl, HE.out.1⟩
theorem cat_list (all : List UInt8) (d : ByteArray) : (⟨all.toArray⟩ : ByteArray) ++ d = ⟨(all ++ d.data.toList).toArray⟩ := by
  apply ByteArray.ext
  apply Array.toList_inj.1
  rw [ByteArray.data_append]
  simp
set_option maxHeartbeats 40000000 in
theorem rread_good {V : World} {mv : Array Value} {S : DS} {fr room : Nat} (h : RdOk V mv S fr room) (hr : fr + room ≤ 100) :
    Calls Tryd.prog 31 #[.agg mv, .int .i64 (fr : Nat), .int .i64 (room : Nat)] V fun e V' => e = .returned (.tuple #[.string (readS S.read fr room).1, .int .u64 ((readS S.read fr room).2.1 : Nat), .bool (readS S.read fr room).2.2]) ∧ Below V.heap.size V V' := by
  obtain ⟨R, hR⟩ : ∃ R, readS S.read fr room = R := ⟨_, rfl⟩
  rw [hR]
  have H0 := Asd.mk (show NW V mv (V.alloc (.cells mv 50)) ∧ rrGo S.read fr (room - 0) 0 0 [] = R ∧ ([] : List UInt8).length ≤ 110 * 0 from ⟨NW.start V mv, by rw [← hR]; exact rr_readS _ _ _, Nat.le_refl _⟩)
  have i0 := h.info
  have y0 := H0.out.1.2
  have KM := Asd.mk (h.may _ H0.out.1.1)
  have HK := Asd.mk h
  clear hR h
  go_enter Tryd.func31, Tryd.ntmps31
  go_wp2_with (first | refine wpList_load_row rfl 50 _ rfl V.heap.size rfl 50 _ (0, 0) _ y0 Tryd.underlying50 rfl i0 ?_ | fail)
  refine KM.out.mono ?_
  rintro e w0 ⟨rfl, hb⟩
  replace H0 := Asd.mk (And.intro (H0.out.1.step hb) H0.out.2)
  clear KM y0 hb
  go_wp2_with fail
  go_loopw [9, 10, 11] (fun av gv iv W => ∃ (i gen : Nat) (all : List UInt8), av = .string ⟨all.toArray⟩ ∧ gv = .int .u64 (gen : Nat) ∧ iv = .int .i64 i ∧ i ≤ room ∧ Asd (NW V mv W ∧ rrGo S.read fr (room - i) i gen all = R ∧ all.length ≤ 110 * i)) (fun _ _ iv _ => room - (intOf iv).toNat)
  case atStart => exact ⟨0, 0, [], rfl, rfl, rfl, by omega, H0⟩
  case round =>
    obtain ⟨i, gen, all, rfl, rfl, rfl, hi, HS⟩ := hrel
    clear H0
    have y0 := HS.out.1.2
    by_cases hlt : i < room
    rotate_left
    · have hki : room - i = 0 := by omega
      have hRR : R = (⟨#[]⟩, 0, false) := by have := HS.out.2.1; rw [hki, rrGo] at this; exact this.symm
      obtain rfl : i = room := by omega
      subst hRR
      have H1 := Asd.mk HS.out.1
      clear HS hlt hi hki
      go_wp2
      go_ret3
      exact ⟨rfl, H1.out.1⟩
    have hi1 : (i : Int) < (room : Int) := by omega
    have i32 : (i : Int) % 4294967296 = (i : Int) := by omega
    have KR0 := HK.out.read wr HS.out.1.1 i hlt
    have hs1 := HK.out.small (fr + i)
    have hgo : rrGo S.read fr (room - i) i gen all = rrGo S.read fr ((room - (i + 1)) + 1) i gen all := by rw [show room - i = (room - (i + 1)) + 1 by omega]
    have hR2 := HS.out.2.1
    rw [hgo, rrGo] at hR2
    have hd1 := openS_small (S.read.getD (fr + i) ByteArray.empty)
    obtain ⟨x, hx⟩ : ∃ x, S.read.getD (fr + i) ByteArray.empty = x := ⟨_, rfl⟩
    rw [hx] at KR0 hs1 hR2 hd1
    have KO0 := fun (W : World) => ropen_calls x W hs1
    obtain ⟨o, ho⟩ : ∃ o, openS x = o := ⟨_, rfl⟩
    rw [ho] at KO0 hR2 hd1
    obtain ⟨⟨k, g, ix, d⟩, q⟩ := o
    dsimp only at KO0 hR2 hd1
    have hdl : d.data.toList.length = d.size := by rw [Array.length_toList]; rfl
    have hlen : (all ++ d.data.toList).length ≤ 110 * (i + 1) := by rw [List.length_append, hdl]; have := HS.out.2.2; omega
    have he := cat_list all d
    obtain ⟨A2, hA2⟩ : ∃ A2, (⟨(all ++ d.data.toList).toArray⟩ : ByteArray) = A2 := ⟨_, rfl⟩
    rw [hA2] at he
    obtain ⟨A1, hA1⟩ : ∃ A1, (⟨all.toArray⟩ : ByteArray) = A1 := ⟨_, rfl⟩
    rw [hA1] at he ⊢
    have hz2 : A2.size = (all ++ d.data.toList).length := by rw [← hA2]; exact List.size_toArray
    have hcat : A1.size + d.size ≤ 9223372036854775807 := by
      have e : A1.size = all.length := by rw [← hA1]; exact List.size_toArray
      have := HS.out.2.2
      omega
    have hd2 : A2.data.toList = all ++ d.data.toList := by rw [← hA2]
    obtain ⟨al2, hal⟩ : ∃ l, all ++ d.data.toList = l := ⟨_, rfl⟩
    rw [hal] at hlen hR2 hA2 hz2 hd2
    have HL := Asd.mk (And.intro hlen (And.intro hA2 (And.intro hz2 hd2)))
    have KR := Asd.mk KR0
    have KO := Asd.mk KO0
    have H1 := Asd.mk HS.out.1
    clear KR0 KO0 hs1 hgo hx ho HS hdl hlen hA1 hal hA2 hz2 hd2 hd1
    go_wp2_with (first | refine wpList_load_row rfl 50 _ rfl V.heap.size rfl 50 _ (0, 0) _ y0 Tryd.underlying50 rfl i0 ?_ | fail)
    refine KR.out.mono ?_
    rintro e w2 ⟨rfl, hb⟩
    have H3 := Asd.mk (H1.out.step hb)
    clear KR H1 hb y0
    go_wp2_with fail
    refine (KO.out _).mono ?_
    rintro e w3 ⟨rfl, hb⟩
    have h4 := H3.out.step hb
    clear KO H3 hb
    obtain ⟨hb11, z11, z11z⟩ := box_new (V := w3) zR (recV ⟨k, g, ix, d⟩) 119
    have H5 := Asd.mk (h4.step hb11)
    have iR : (Tryd.prog.info? 119).map (·.size) = some (recV ⟨k, g, ix, d⟩).size := infoQ
    have oR := recV_one ⟨k, g, ix, d⟩
    have f0 : ((w3.alloc (.cells zR 119)).setRow w3.heap.size (recV ⟨k, g, ix, d⟩)).cell? ⟨w3.heap.size, 0, none⟩ = some (.int .u8 (k : Nat)) := cell_of_row _ _ 0 _ _ _ z11
    have f1 : ((w3.alloc (.cells zR 119)).setRow w3.heap.size (recV ⟨k, g, ix, d⟩)).cell? ⟨w3.heap.size, 1, none⟩ = some (.int .u64 (g : Nat)) := cell_of_row _ _ 1 _ _ _ z11
    have f2 : ((w3.alloc (.cells zR 119)).setRow w3.heap.size (recV ⟨k, g, ix, d⟩)).cell? ⟨w3.heap.size, 2, none⟩ = some (.int .u32 (ix : Nat)) := cell_of_row _ _ 2 _ _ _ z11
    have f3 : ((w3.alloc (.cells zR 119)).setRow w3.heap.size (recV ⟨k, g, ix, d⟩)).cell? ⟨w3.heap.size, 3, none⟩ = some (.string d) := cell_of_row _ _ 3 _ _ _ z11
    clear h4 hb11 z11
    have HR2 := Asd.mk hR2
    clear hR2
    by_cases z : i = 0
    · have tz : ((i : Int) == 0) = true := by simp; omega
      have tz' : (i == 0) = true := by simp; omega
      have tzn : ((i : Int) != 0) = false := by simp; omega
      have tzm : (i != 0) = false := by simp; omega
      replace HR2 := Asd.mk (by have := HR2.out; rw [if_pos z] at this; exact this)
      clear z
      by_cases hq : q = 0
      rotate_left
      · have t0 : (q == 0) = false := by simpa using hq
        have t0n : (q != 0) = true := by simpa using hq
        have hRR : R = (⟨#[]⟩, 0, false) := by have := HR2.out; rw [if_pos (.inl hq)] at this; exact this.symm
        subst hRR
        clear HR2 hq
        go_upto_region 10 with (first | refine wpList_store_row rfl 119 _ _ rfl w3.heap.size (recV ⟨k, g, ix, d⟩) rfl rfl 119 _ z11z iR rfl oR ?_ | fail)
        go_wp2
        go_ret3
        exact ⟨rfl, H5.out.1⟩
      have t0 : (q == 0) = true := by rw [hq]; rfl
      have t0n : (q != 0) = false := by rw [hq]; rfl
      by_cases hx : ix = i
      rotate_left
      · have tx : ((ix : Int) == (i : Int)) = false := by simp; omega
        have tx' : (ix == (i)) = false := by simp; omega
        have txn : ((ix : Int) != (i : Int)) = true := by simp; omega
        have txm : (ix != (i)) = true := by simp; omega
        have hRR : R = (⟨#[]⟩, 0, false) := by have := HR2.out; rw [if_pos (.inr (.inr hx))] at this; exact this.symm
        subst hRR
        clear HR2 hq hx
        go_upto_region 10 with (first | refine wpList_store_row rfl 119 _ _ rfl w3.heap.size (recV ⟨k, g, ix, d⟩) rfl rfl 119 _ z11z iR rfl oR ?_ | fail)
        go_wp2
        go_ret3
        exact ⟨rfl, H5.out.1⟩
      have tx : ((ix : Int) == (i : Int)) = true := by simp; omega
      have tx' : (ix == (i)) = true := by simp; omega
      have txn : ((ix : Int) != (i : Int)) = false := by simp; omega
      have txm : (ix != (i)) = false := by simp; omega
      replace HR2 := Asd.mk (by have := HR2.out; rw [if_neg (fun e => e.elim (fun e => e hq) (fun e => e.elim (fun e => e rfl) (fun e => e hx)))] at this; exact this)
      clear hq hx
      by_cases h2 : k = 2
      · have t2 : ((k : Int) == 2) = true := by simp; omega
        have t2' : (k == 2) = true := by simp; omega
        have t2n : ((k : Int) != 2) = false := by simp; omega
        have t2m : (k != 2) = false := by simp; omega
        by_cases hd : d.size = 110
        · have td : ((d.size : Int) == 110) = true := by simp; omega
          have td' : (d.size == 110) = true := by simp; omega
          have tdn : ((d.size : Int) != 110) = false := by simp; omega
          have tdm : (d.size != 110) = false := by simp; omega
          have HX := Asd.mk (show NW V mv ((w3.alloc (.cells zR 119)).setRow w3.heap.size (recV ⟨k, g, ix, d⟩)) ∧ rrGo S.read fr (room - (i + 1)) (i + 1) g al2 = R ∧ al2.length ≤ 110 * (i + 1) from ⟨H5.out, by have := HR2.out; rw [if_pos ⟨h2, hd⟩] at this; exact this, HL.out.1⟩)
          clear HR2 H5 h2 hd
          go_upto_region 10 with (first | refine wpList_store_row rfl 119 _ _ rfl w3.heap.size (recV ⟨k, g, ix, d⟩) rfl rfl 119 _ z11z iR rfl oR ?_ | fail)
          go_wp2
          go_roundw
          case rel => exact ⟨i + 1, g, al2, by rw [HL.out.2.1], rfl, by go_num, by omega, HX⟩
          case measure => simp [intOf]; omega
        · have td : ((d.size : Int) == 110) = false := by simp; omega
          have td' : (d.size == 110) = false := by simp; omega
          have tdn : ((d.size : Int) != 110) = true := by simp; omega
          have tdm : (d.size != 110) = true := by simp; omega
          have t3 : ((k : Int) == 3) = false := by simp; omega
          have t3' : (k == 3) = false := by simp; omega
          have t3n : ((k : Int) != 3) = true := by simp; omega
          have t3m : (k != 3) = true := by simp; omega
          have hRR : R = (⟨#[]⟩, 0, false) := by have := HR2.out; rw [if_neg (fun e => hd e.2), if_pos (.inl (by omega))] at this; exact this.symm
          subst hRR
          clear HR2 h2 hd
          go_upto_region 10 with (first | refine wpList_store_row rfl 119 _ _ rfl w3.heap.size (recV ⟨k, g, ix, d⟩) rfl rfl 119 _ z11z iR rfl oR ?_ | fail)
          go_wp2
          go_ret3
          exact ⟨rfl, H5.out.1⟩
      have t2 : ((k : Int) == 2) = false := by simp; omega
      have t2' : (k == 2) = false := by simp; omega
      have t2n : ((k : Int) != 2) = true := by simp; omega
      have t2m : (k != 2) = true := by simp; omega
      replace HR2 := Asd.mk (by have := HR2.out; rw [if_neg (fun e => h2 e.1)] at this; exact this)
      clear h2
      by_cases h3 : k = 3
      rotate_left
      · have t3 : ((k : Int) == 3) = false := by simp; omega
        have t3' : (k == 3) = false := by simp; omega
        have t3n : ((k : Int) != 3) = true := by simp; omega
        have t3m : (k != 3) = true := by simp; omega
        have hRR : R = (⟨#[]⟩, 0, false) := by have := HR2.out; rw [if_pos (.inl h3)] at this; exact this.symm
        subst hRR
        clear HR2 h3
        go_upto_region 10 with (first | refine wpList_store_row rfl 119 _ _ rfl w3.heap.size (recV ⟨k, g, ix, d⟩) rfl rfl 119 _ z11z iR rfl oR ?_ | fail)
        go_wp2
        go_ret3
        exact ⟨rfl, H5.out.1⟩
      have t3 : ((k : Int) == 3) = true := by simp; omega
      have t3' : (k == 3) = true := by simp; omega
      have t3n : ((k : Int) != 3) = false := by simp; omega
      have t3m : (k != 3) = false := by simp; omega
      by_cases h4 : al2.length < 4
      · have t4 : decide ((A2.size : Int) < 4) = true := decide_eq_true (by have := HL.out.2.2.1; omega)
        have t4' : decide (A2.size < 4) = true := decide_eq_true (by have := HL.out.2.2.1; omega)
        have hRR : R = (⟨#[]⟩, 0, false) := by have := HR2.out; rw [if_pos (.inr h4)] at this; exact this.symm
        subst hRR
        clear HR2 h3 h4
        go_upto_region 10 with (first | refine wpList_store_row rfl 119 _ _ rfl w3.heap.size (recV ⟨k, g, ix, d⟩) rfl rfl 119 _ z11z iR rfl oR ?_ | fail)
        go_wp2
        go_ret3
        exact ⟨rfl, H5.out.1⟩
      have t4 : decide ((A2.size : Int) < 4) = false := decide_eq_false (by have := HL.out.2.2.1; omega)
      have t4' : decide (A2.size < 4) = false := decide_eq_false (by have := HL.out.2.2.1; omega)
      obtain ⟨m, hm⟩ : ∃ m, A2.size - 4 = m := ⟨_, rfl⟩
      have d1 : ((A2.size : Int) - 4) = (m : Int) := by have := HL.out.2.2.1; omega
      have d3 : (m : Int) ≤ (A2.size : Int) := by omega
      have d2 : (0 : Int) ≤ (m : Int) := by omega
      have d5 : m ≤ 100000 := by have := HL.out.1; have := HL.out.2.2.1; omega
      have hte : (A2.extract 0 m).data.toList = al2.take (al2.length - 4) := by rw [Sl.ext_toList, List.drop_zero, HL.out.2.2.2, ← hm, HL.out.2.2.1]
      have hts : (A2.extract 0 m).size ≤ 90000 := by rw [ByteArray.size_extract]; have := HL.out.1; have := HL.out.2.2.1; omega
      have KP := Asd.mk (fun V => rparts_calls (A2.extract 0 m) g V hts)
      have KS := Asd.mk (fun V => rsummed_calls (A2.extract 0 m) V (by omega))
      replace HR2 := Asd.mk (by have := HR2.out; rw [if_neg (fun e => e.elim (fun e => e h3) h4)] at this; exact this)
      have HTX := Asd.mk (show (⟨(al2.take (al2.length - 4)).toArray⟩ : ByteArray) = A2.extract 0 m by rw [← hte])
      rw [hte] at KP KS
      obtain ⟨nv, hnv⟩ : ∃ n, np (summedL (al2.take (al2.length - 4))).length = n := ⟨_, rfl⟩
      obtain ⟨T, hT⟩ : ∃ T, (⟨(summedL (al2.take (al2.length - 4))).toArray⟩ : ByteArray) = T := ⟨_, rfl⟩
      rw [hnv] at KP
      rw [hT] at KS
      have HNV := Asd.mk (And.intro hnv hT)
      have HH4 := Asd.mk h4
      clear h3 h4 hte hts hm hnv hT
      go_upto_region 10 with (first | refine wpList_store_row rfl 119 _ _ rfl w3.heap.size (recV ⟨k, g, ix, d⟩) rfl rfl 119 _ z11z iR rfl oR ?_ | fail)
      go_wp2_with fail
      refine (KP.out _).mono ?_
      rintro e w6 ⟨v, rfl, hb, hown⟩
      obtain ⟨Av, cv, rfl⟩ := owns_slice hown
      have H6 := Asd.mk (H5.out.step hb)
      clear KP H5 hb hown f0 f1 f2 f3 z11z iR oR
      go_wp2_with fail
      refine (KS.out _).mono ?_
      rintro e w7 ⟨rfl, hb⟩
      have H7 := Asd.mk (H6.out.step hb)
      clear KS H6 hb
      by_cases h5 : summedL (al2.take (al2.length - 4)) = al2
      rotate_left
      · have ene : (T.toList == A2.toList) = false := by rw [← HNV.out.2]; exact str_ne (fun e => h5 ((congrArg (fun z : ByteArray => z.data.toList) e).trans HL.out.2.2.2))
        have enn : (T.toList != A2.toList) = true := by rw [bne, ene]; rfl
        have hRR : R = (⟨#[]⟩, 0, false) := by have := HR2.out; rw [if_pos (.inl h5)] at this; exact this.symm
        subst hRR
        clear HR2 h5 HNV HTX
        go_wp2
        go_ret3
        exact ⟨rfl, H7.out.1⟩
      have eT : T = A2 := by rw [← HNV.out.2, ← HL.out.2.1, h5]
      have ene : (T.toList == A2.toList) = true := by rw [eT]; simp
      have enn : (T.toList != A2.toList) = false := by rw [bne, ene]; rfl
      have hnp : np al2.length = nv := by rw [← HNV.out.1, h5]
      replace HR2 := Asd.mk (by have := HR2.out; rw [hnp] at this; exact this)
      clear eT hnp
      by_cases h6 : nv = i + 1
      rotate_left
      · have t6 : ((nv : Int) == (i : Int) + 1) = false := by simp; omega
        have t6' : (nv == (i) + 1) = false := by simp; omega
        have t6n : ((nv : Int) != (i : Int) + 1) = true := by simp; omega
        have t6m : (nv != (i) + 1) = true := by simp; omega
        have hRR : R = (⟨#[]⟩, 0, false) := by have := HR2.out; rw [if_pos (.inr h6)] at this; exact this.symm
        subst hRR
        clear HR2 h5 h6 HNV HTX
        go_wp2
        go_ret3
        exact ⟨rfl, H7.out.1⟩
      have t6 : ((nv : Int) == (i : Int) + 1) = true := by simp; omega
      have t6' : (nv == (i) + 1) = true := by simp; omega
      have t6n : ((nv : Int) != (i : Int) + 1) = false := by simp; omega
      have t6m : (nv != (i) + 1) = false := by simp; omega
      have hRR : R = (A2.extract 0 m, g, true) := by have := HR2.out; rw [if_neg (fun e => e.elim (fun e => e h5) (fun e => e h6)), HTX.out] at this; exact this.symm
      subst hRR
      clear HR2 h5 h6 HNV HTX
      go_wp2
      go_ret3
      exact ⟨rfl, H7.out.1⟩
    have tz : ((i : Int) == 0) = false := by simp; omega
    have tz' : (i == 0) = false := by simp; omega
    have tzn : ((i : Int) != 0) = true := by simp; omega
    have tzm : (i != 0) = true := by simp; omega
    replace HR2 := Asd.mk (by have := HR2.out; rw [if_neg z] at this; exact this)
    clear z
    by_cases hq : q = 0
    rotate_left
    · have t0 : (q == 0) = false := by simpa using hq
      have t0n : (q != 0) = true := by simpa using hq
      have hRR : R = (⟨#[]⟩, 0, false) := by have := HR2.out; rw [if_pos (.inl hq)] at this; exact this.symm
      subst hRR
      clear HR2 hq
      go_upto_region 10 with (first | refine wpList_store_row rfl 119 _ _ rfl w3.heap.size (recV ⟨k, g, ix, d⟩) rfl rfl 119 _ z11z iR rfl oR ?_ | fail)
      go_wp2
      go_ret3
      exact ⟨rfl, H5.out.1⟩
    have t0 : (q == 0) = true := by rw [hq]; rfl
    have t0n : (q != 0) = false := by rw [hq]; rfl
    by_cases hg : g = gen
    rotate_left
    · have tg : ((g : Int) == (gen : Int)) = false := by simp; omega
      have tg' : (g == (gen)) = false := by simp; omega
      have tgn : ((g : Int) != (gen : Int)) = true := by simp; omega
      have tgm : (g != (gen)) = true := by simp; omega
      have hRR : R = (⟨#[]⟩, 0, false) := by have := HR2.out; rw [if_pos (.inr (.inl hg))] at this; exact this.symm
      subst hRR
      clear HR2 hq hg
      go_upto_region 10 with (first | refine wpList_store_row rfl 119 _ _ rfl w3.heap.size (recV ⟨k, g, ix, d⟩) rfl rfl 119 _ z11z iR rfl oR ?_ | fail)
      go_wp2
      go_ret3
      exact ⟨rfl, H5.out.1⟩
    have tg : ((g : Int) == (gen : Int)) = true := by simp; omega
    have tg' : (g == (gen)) = true := by simp; omega
    have tgn : ((g : Int) != (gen : Int)) = false := by simp; omega
    have tgm : (g != (gen)) = false := by simp; omega
    by_cases hx : ix = i
    rotate_left
    · have tx : ((ix : Int) == (i : Int)) = false := by simp; omega
      have tx' : (ix == (i)) = false := by simp; omega
      have txn : ((ix : Int) != (i : Int)) = true := by simp; omega
      have txm : (ix != (i)) = true := by simp; omega
      have hRR : R = (⟨#[]⟩, 0, false) := by have := HR2.out; rw [if_pos (.inr (.inr hx))] at this; exact this.symm
      subst hRR
      clear HR2 hq hx hg
      go_upto_region 10 with (first | refine wpList_store_row rfl 119 _ _ rfl w3.heap.size (recV ⟨k, g, ix, d⟩) rfl rfl 119 _ z11z iR rfl oR ?_ | fail)
      go_wp2
      go_ret3
      exact ⟨rfl, H5.out.1⟩
    have tx : ((ix : Int) == (i : Int)) = true := by simp; omega
    have tx' : (ix == (i)) = true := by simp; omega
    have txn : ((ix : Int) != (i : Int)) = false := by simp; omega
    have txm : (ix != (i)) = false := by simp; omega
    replace HR2 := Asd.mk (by have := HR2.out; rw [if_neg (fun e => e.elim (fun e => e hq) (fun e => e.elim (fun e => e hg) (fun e => e hx)))] at this; exact this)
    clear hq hx hg
    by_cases h2 : k = 2
    · have t2 : ((k : Int) == 2) = true := by simp; omega
      have t2' : (k == 2) = true := by simp; omega
      have t2n : ((k : Int) != 2) = false := by simp; omega
      have t2m : (k != 2) = false := by simp; omega
      by_cases hd : d.size = 110
      · have td : ((d.size : Int) == 110) = true := by simp; omega
        have td' : (d.size == 110) = true := by simp; omega
        have tdn : ((d.size : Int) != 110) = false := by simp; omega
        have tdm : (d.size != 110) = false := by simp; omega
        have HX := Asd.mk (show NW V mv ((w3.alloc (.cells zR 119)).setRow w3.heap.size (recV ⟨k, g, ix, d⟩)) ∧ rrGo S.read fr (room - (i + 1)) (i + 1) gen al2 = R ∧ al2.length ≤ 110 * (i + 1) from ⟨H5.out, by have := HR2.out; rw [if_pos ⟨h2, hd⟩] at this; exact this, HL.out.1⟩)
        clear HR2 H5 h2 hd
        go_upto_region 10 with (first | refine wpList_store_row rfl 119 _ _ rfl w3.heap.size (recV ⟨k, g, ix, d⟩) rfl rfl 119 _ z11z iR rfl oR ?_ | fail)
        go_wp2
        go_roundw
        case rel => exact ⟨i + 1, gen, al2, by rw [HL.out.2.1], rfl, by go_num, by omega, HX⟩
        case measure => simp [intOf]; omega
      · have td : ((d.size : Int) == 110) = false := by simp; omega
        have td' : (d.size == 110) = false := by simp; omega
        have tdn : ((d.size : Int) != 110) = true := by simp; omega
        have tdm : (d.size != 110) = true := by simp; omega
        have t3 : ((k : Int) == 3) = false := by simp; omega
        have t3' : (k == 3) = false := by simp; omega
        have t3n : ((k : Int) != 3) = true := by simp; omega
        have t3m : (k != 3) = true := by simp; omega
        have hRR : R = (⟨#[]⟩, 0, false) := by have := HR2.out; rw [if_neg (fun e => hd e.2), if_pos (.inl (by omega))] at this; exact this.symm
        subst hRR
        clear HR2 h2 hd
        go_upto_region 10 with (first | refine wpList_store_row rfl 119 _ _ rfl w3.heap.size (recV ⟨k, g, ix, d⟩) rfl rfl 119 _ z11z iR rfl oR ?_ | fail)
        go_wp2
        go_ret3
        exact ⟨rfl, H5.out.1⟩
    have t2 : ((k : Int) == 2) = false := by simp; omega
    have t2' : (k == 2) = false := by simp; omega
    have t2n : ((k : Int) != 2) = true := by simp; omega
    have t2m : (k != 2) = true := by simp; omega
    replace HR2 := Asd.mk (by have := HR2.out; rw [if_neg (fun e => h2 e.1)] at this; exact this)
    clear h2
    by_cases h3 : k = 3
    rotate_left
    · have t3 : ((k : Int) == 3) = false := by simp; omega
      have t3' : (k == 3) = false := by simp; omega
      have t3n : ((k : Int) != 3) = true := by simp; omega
      have t3m : (k != 3) = true := by simp; omega
      have hRR : R = (⟨#[]⟩, 0, false) := by have := HR2.out; rw [if_pos (.inl h3)] at this; exact this.symm
      subst hRR
      clear HR2 h3
      go_upto_region 10 with (first | refine wpList_store_row rfl 119 _ _ rfl w3.heap.size (recV ⟨k, g, ix, d⟩) rfl rfl 119 _ z11z iR rfl oR ?_ | fail)
      go_wp2
      go_ret3
      exact ⟨rfl, H5.out.1⟩
    have t3 : ((k : Int) == 3) = true := by simp; omega
    have t3' : (k == 3) = true := by simp; omega
    have t3n : ((k : Int) != 3) = false := by simp; omega
    have t3m : (k != 3) = false := by simp; omega
    by_cases h4 : al2.length < 4
    · have t4 : decide ((A2.size : Int) < 4) = true := decide_eq_true (by have := HL.out.2.2.1; omega)
      have t4' : decide (A2.size < 4) = true := decide_eq_true (by have := HL.out.2.2.1; omega)
      have hRR : R = (⟨#[]⟩, 0, false) := by have := HR2.out; rw [if_pos (.inr h4)] at this; exact this.symm
      subst hRR
      clear HR2 h3 h4
      go_upto_region 10 with (first | refine wpList_store_row rfl 119 _ _ rfl w3.heap.size (recV ⟨k, g, ix, d⟩) rfl rfl 119 _ z11z iR rfl oR ?_ | fail)
      go_wp2
      go_ret3
      exact ⟨rfl, H5.out.1⟩
    have t4 : decide ((A2.size : Int) < 4) = false := decide_eq_false (by have := HL.out.2.2.1; omega)
    have t4' : decide (A2.size < 4) = false := decide_eq_false (by have := HL.out.2.2.1; omega)
    obtain ⟨m, hm⟩ : ∃ m, A2.size - 4 = m := ⟨_, rfl⟩
    have d1 : ((A2.size : Int) - 4) = (m : Int) := by have := HL.out.2.2.1; omega
    have d3 : (m : Int) ≤ (A2.size : Int) := by omega
    have d2 : (0 : Int) ≤ (m : Int) := by omega
    have d5 : m ≤ 100000 := by have := HL.out.1; have := HL.out.2.2.1; omega
    have hte : (A2.extract 0 m).data.toList = al2.take (al2.length - 4) := by rw [Sl.ext_toList, List.drop_zero, HL.out.2.2.2, ← hm, HL.out.2.2.1]
    have hts : (A2.extract 0 m).size ≤ 90000 := by rw [ByteArray.size_extract]; have := HL.out.1; have := HL.out.2.2.1; omega
    have KP := Asd.mk (fun V => rparts_calls (A2.extract 0 m) gen V hts)
    have KS := Asd.mk (fun V => rsummed_calls (A2.extract 0 m) V (by omega))
    replace HR2 := Asd.mk (by have := HR2.out; rw [if_neg (fun e => e.elim (fun e => e h3) h4)] at this; exact this)
    have HTX := Asd.mk (show (⟨(al2.take (al2.length - 4)).toArray⟩ : ByteArray) = A2.extract 0 m by rw [← hte])
    rw [hte] at KP KS
    obtain ⟨nv, hnv⟩ : ∃ n, np (summedL (al2.take (al2.length - 4))).length = n := ⟨_, rfl⟩
    obtain ⟨T, hT⟩ : ∃ T, (⟨(summedL (al2.take (al2.length - 4))).toArray⟩ : ByteArray) = T := ⟨_, rfl⟩
    rw [hnv] at KP
    rw [hT] at KS
    have HNV := Asd.mk (And.intro hnv hT)
    have HH4 := Asd.mk h4
    clear h3 h4 hte hts hm hnv hT
    go_upto_region 10 with (first | refine wpList_store_row rfl 119 _ _ rfl w3.heap.size (recV ⟨k, g, ix, d⟩) rfl rfl 119 _ z11z iR rfl oR ?_ | fail)
    go_wp2_with fail
    refine (KP.out _).mono ?_
    rintro e w6 ⟨v, rfl, hb, hown⟩
    obtain ⟨Av, cv, rfl⟩ := owns_slice hown
    have H6 := Asd.mk (H5.out.step hb)
    clear KP H5 hb hown f0 f1 f2 f3 z11z iR oR
    go_wp2_with fail
    refine (KS.out _).mono ?_
    rintro e w7 ⟨rfl, hb⟩
    have H7 := Asd.mk (H6.out.step hb)
    clear KS H6 hb
    by_cases h5 : summedL (al2.take (al2.length - 4)) = al2
    rotate_left
    · have ene : (T.toList == A2.toList) = false := by rw [← HNV.out.2]; exact str_ne (fun e => h5 ((congrArg (fun z : ByteArray => z.data.toList) e).trans HL.out.2.2.2))
      have enn : (T.toList != A2.toList) = true := by rw [bne, ene]; rfl
      have hRR : R = (⟨#[]⟩, 0, false) := by have := HR2.out; rw [if_pos (.inl h5)] at this; exact this.symm
      subst hRR
      clear HR2 h5 HNV HTX
      go_wp2
      go_ret3
      exact ⟨rfl, H7.out.1⟩
    have eT : T = A2 := by rw [← HNV.out.2, ← HL.out.2.1, h5]
    have ene : (T.toList == A2.toList) = true := by rw [eT]; simp
    have enn : (T.toList != A2.toList) = false := by rw [bne, ene]; rfl
    have hnp : np al2.length = nv := by rw [← HNV.out.1, h5]
    replace HR2 := Asd.mk (by have := HR2.out; rw [hnp] at this; exact this)
    clear eT hnp
    by_cases h6 : nv = i + 1
    rotate_left
    · have t6 : ((nv : Int) == (i : Int) + 1) = false := by simp; omega
      have t6' : (nv == (i) + 1) = false := by simp; omega
      have t6n : ((nv : Int) != (i : Int) + 1) = true := by simp; omega
      have t6m : (nv != (i) + 1) = true := by simp; omega
      have hRR : R = (⟨#[]⟩, 0, false) := by have := HR2.out; rw [if_pos (.inr h6)] at this; exact this.symm
      subst hRR
      clear HR2 h5 h6 HNV HTX
      go_wp2
      go_ret3
      exact ⟨rfl, H7.out.1⟩
    have t6 : ((nv : Int) == (i : Int) + 1) = true := by simp; omega
    have t6' : (nv == (i) + 1) = true := by simp; omega
    have t6n : ((nv : Int) != (i : Int) + 1) = false := by simp; omega
    have t6m : (nv != (i) + 1) = false := by simp; omega
    have hRR : R = (A2.extract 0 m, gen, true) := by have := HR2.out; rw [if_neg (fun e => e.elim (fun e => e h5) (fun e => e h6)), HTX.out] at this; exact this.symm
    subst hRR
    clear HR2 h5 h6 HNV HTX
    go_wp2
    go_ret3
    exact ⟨rfl, H7.out.1⟩
end Go.Proofs.YtknbhgodhmcemaaDoor.So
