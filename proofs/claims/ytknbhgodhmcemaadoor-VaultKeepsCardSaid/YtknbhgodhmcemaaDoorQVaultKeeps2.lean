/- Texts of the seat, as far as the row needs them. -/
import Derived.Below
import Derived.BigQuiet
import Derived.Deep.CutBlock
import Derived.Deep.DeepCutAuto
import Derived.Deep.DeepFit
import Derived.Deep.Light
import Derived.Deep.LoopGhost
import Derived.Deep.QuietTactic
import Derived.Deep.RegionHeld3
import Derived.Ground.Names2Prog
import Derived.Laws.AppendOwn
import Derived.Laws.BitsAllLaws
import Derived.Laws.BitsLemmas
import Derived.Laws.CopyOwn
import Derived.Laws.Externs
import Derived.Laws.IdiomCopy
import Derived.Laws.IdiomStrings
import Derived.Laws.OwnMore
import Derived.Laws.ResultCell
import Derived.Laws.Rows
import Derived.Laws.StructEq
import Derived.Laws.Tables
import Derived.Lib.AppendStr
import Derived.Lib.FrozenHead2
import Derived.Lib.OthersKept
import Derived.Lib.RepeatB
import Derived.Lib.TrimByte
import Derived.Lib.UnsafeStr
import Derived.LoopIn
import Derived.LoopNIn
import Derived.Maps.Own
import Derived.Maps.OwnOps
import Derived.Maps.OwnSet
import Derived.Maps.Views
import Derived.OrdersHeld
import Derived.Outline
import Derived.OwnWalk
import Derived.OwnWalkIn
import Derived.RangeFuncBound
import Derived.RangeFuncCalls
import Derived.RangeFuncLeaves
import Derived.RangeFuncNested
import Derived.Shelf.Abstract
import Derived.Shelf.Bits.Mul64
import Derived.Shelf.RegionOpen
import Derived.Shelf.Slices.Clone
import Derived.Shelf.Small.Strs
import Derived.Shelf.Small.Utf8
import Derived.Shelf.Strings.Builder1
import Derived.Shelf.Strings.Builder2
import Derived.Shelf.Strings.BuilderF
import Derived.Shelf.Strings.BuilderK
import Derived.Shelf.Strings.Prefix
import Derived.Shelf.Strings.Repeat
import Derived.Shelf.Strings.Search1
import Derived.Shelf.Strings.Trim
import Derived.Shelf.Unicode.DecodeSlow
import Derived.StillTailTactics
import Derived.TacticsInMore
import Derived.Test.YtknbhgodhmcemaaDoorProg
import Derived.WalkKit
import Derived.WalkMore
import Derived.Test.YtknbhgodhmcemaaDoorQVaultKeeps0
import Derived.Test.YtknbhgodhmcemaaDoorQVaultKeeps1
set_option linter.unusedVariables false
set_option linter.unusedSimpArgs false
namespace Go.Proofs.YtknbhgodhmcemaaDoor.Lg
set_option linter.unusedSimpArgs false
set_option linter.unusedVariables false
set_option maxRecDepth 100000
open Go.RowKit Go.Proofs.YtknbhgodhmcemaaDoor.Own Go.Proofs.YtknbhgodhmcemaaDoor.Cel Go.Proofs.YtknbhgodhmcemaaDoor.Dk
open Go.Proofs.YtknbhgodhmcemaaDoor.Sl (closeS close_calls openS recV rc)
def appS (S : DS) (fr room g nx : Nat) (d : ByteArray) : DS × Nat × Int :=
  if room ≤ nx then (S, nx, 9) else if 110 < d.size then (S, nx, 11)
  else if (S.put ((fr + nx : Nat) : Int) (sec g nx d)).2 ≠ 0 then ((S.put ((fr + nx : Nat) : Int) (sec g nx d)).1, nx, (S.put ((fr + nx : Nat) : Int) (sec g nx d)).2)
  else ((S.put ((fr + nx : Nat) : Int) (sec g nx d)).1.sync.1, nx + 1, (S.put ((fr + nx : Nat) : Int) (sec g nx d)).1.sync.2)
def AB (B p : Nat) (F : Nat → Prop) (W : World) (b3 b6 : Nat) (S : DS) (x y : Array Value) (V : World) : Prop :=
  (∃ F', DK B p S F' V ∧ (∀ k, F' k → F k ∨ W.heap.size ≤ k) ∧ ¬ F' b3 ∧ ¬ F' b6) ∧ Only (Big F W) W V ∧ V.heap[b3]? = some (.cells x 31 (0, 0)) ∧ V.heap[b6]? = some (.cells y 31 (0, 0)) ∧ W.heap.size ≤ b3 ∧ W.heap.size ≤ b6 ∧ b3 ≠ b6
variable {B p : Nat} {S : DS} {F : Nat → Prop} {W V V' : World} {b3 b6 : Nat} {x y : Array Value}
theorem AB.z3 (h : AB B p F W b3 b6 S x y V) : V.heap[b3]? = some (.cells x 31 (0, 0)) := h.2.2.1
theorem AB.z6 (h : AB B p F W b3 b6 S x y V) : V.heap[b6]? = some (.cells y 31 (0, 0)) := h.2.2.2.1
theorem AB.lt3 (h : AB B p F W b3 b6 S x y V) : b3 < V.heap.size := (Array.getElem?_eq_some_iff.1 h.z3).1
theorem AB.lt6 (h : AB B p F W b3 b6 S x y V) : b6 < V.heap.size := (Array.getElem?_eq_some_iff.1 h.z6).1
theorem AB.cell (h : AB B p F W b3 b6 S x y V) (j : Nat) : V.cell? ⟨b3, j, none⟩ = x[j]? := cell_of_row _ _ j _ _ _ h.z3
theorem AB.frozen (h : AB B p F W b3 b6 S x y V) (j : Nat) : V.frozen? ⟨b3, j, none⟩ = false := frozen_of_row _ _ j _ _ h.z3
theorem AB.step (h : AB B p F W b3 b6 S x y V) (hb : Below V.heap.size V V') : AB B p F W b3 b6 S x y V' := by
  obtain ⟨⟨F', d, f, n3, n6⟩, o, z3, z6, l⟩ := h
  exact ⟨⟨F', d.below hb, f, n3, n6⟩, o.big_trans (only_below hb).big, keep z3 hb, keep z6 hb, l⟩
theorem only_row {G : Nat → Prop} {W V : World} {b : Nat} {cs : Array Value} (o : Only G W V) (hb : G b) : Only G W (V.setRow b cs) :=
  ⟨o.os, o.tape, o.output, by rw [show (V.setRow b cs).heap.size = V.heap.size by simp [World.setRow]]; exact o.size, fun k hk hn => (setRow_other V b k cs (fun e => hn (e ▸ hb))).trans (o.block k hk hn)⟩
theorem AB.put6 (h : AB B p F W b3 b6 S x y V) (cs : Array Value) : AB B p F W b3 b6 S x cs (V.setRow b6 cs) := by
  obtain ⟨⟨F', d, f, n3, n6⟩, o, z3, z6, l3, l6, ne⟩ := h
  exact ⟨⟨F', d.keep (fun k hk => setRow_other V b6 k cs (fun e => n6 (e ▸ hk))), f, n3, n6⟩, only_row o (.inr l6), (setRow_other V b6 b3 cs ne).trans z3, setRow_heap V b6 y cs _ (0, 0) z6, l3, l6, ne⟩
theorem AB.set3 (h : AB B p F W b3 b6 S x y V) (j : Nat) (u : Value) : AB B p F W b3 b6 S (x.setIfInBounds j u) y (V.setCell ⟨b3, j, none⟩ u) := by
  obtain ⟨⟨F', d, f, n3, n6⟩, o, z3, z6, l3, l6, ne⟩ := h
  have so : ∀ k, k ≠ b3 → (V.setCell ⟨b3, j, none⟩ u).heap[k]? = V.heap[k]? := fun k hk => set_other V _ _ k hk
  exact ⟨⟨F', d.keep (fun k hk => so k (fun e => n3 (e ▸ hk))), f, n3, n6⟩, o.big_trans (only_set (F := Big F W) ⟨b3, j, none⟩ u (.inr l3)), heap_setCell_same V b3 j _ _ u z3, (so b6 (fun e => ne e.symm)).trans z6, l3, l6, ne⟩
theorem AB.done (h : AB B p F W b3 b6 S x y V) : Did B p S F W V := by
  obtain ⟨⟨F', d, f, n3, n6⟩, o, z3, z6, l⟩ := h
  exact ⟨F', d, o.small, f⟩
theorem AB.new (h : DK B p S F W) (x y : Array Value) : AB B p F W W.heap.size (W.heap.size + 1) S x y ((W.alloc (.cells x 31)).alloc (.cells y 31)) := by
  have b1 : Below W.heap.size W ((W.alloc (.cells x 31)).alloc (.cells y 31)) := ((Below.refl _ _).alloc (Nat.le_refl _) _).alloc (by simp) _
  refine ⟨⟨F, h.below b1, fun k hk => .inl hk, fun hk => ?_, fun hk => ?_⟩, (only_below b1).big, keep (heap_alloc_new W _) ((Below.refl _ _).alloc (Nat.le_refl _) _), ?_, Nat.le_refl _, by omega, by omega⟩
  · have := (h.lt hk).2; omega
  · have := (h.lt hk).2; omega
  · have := heap_alloc_new (W.alloc (.cells x 31)) (.cells y 31)
    simpa using this
theorem AB.may (h : AB B p F W b3 b6 S x y V) (fr room g nx : Nat) (hr : 1 ≤ room) (hl : fr + room ≤ S.lasts.length) (hN : S.lasts.length ≤ 1000000) :
    Calls Tryd.prog 46 #[.agg (logV fr room g nx), .pointer (some ⟨p, 0, none⟩)] V fun e V' => e = .returned (.bool true) ∧ Below V.heap.size V V' := by
  obtain ⟨⟨F', d, _⟩, _⟩ := h
  exact may_calls d fr room g nx hr hl hN
theorem AB.write (h : AB B p F W b3 b6 S x y V) (ha : S.armed ≤ 9223372036854775807) (hn : S.waits.length ≤ 1000000) (ho0 : 0 ≤ S.ops) (ho : S.ops ≤ 4611686018427387904) (i : Int) (s : ByteArray) (hi0 : -9223372036854775808 ≤ i) (hi1 : i ≤ 9223372036854775807) :
    Calls Tryd.prog 28 #[.pointer (some ⟨p, 0, none⟩), .int .i64 i, .string s] V fun e V' => e = .returned (.int .i64 (S.put i s).2) ∧ AB B p F W b3 b6 (S.put i s).1 x y V' := by
  have h0 := h
  obtain ⟨⟨F', d, f, n3, n6⟩, o, z3, z6, l⟩ := h
  exact (write_calls d ha hn ho0 ho i s hi0 hi1).mono fun _ _ ⟨e, h⟩ => ⟨e, by
    have l3 := h0.lt3
    have l6 := h0.lt6
    obtain ⟨F2, d2, o2, f2⟩ := h
    refine ⟨⟨F2, d2, fun k hk => ?_, fun hk => ?_, fun hk => ?_⟩, o.trans o2 (fun k hk => .inl (f k hk)), (o2.block b3 l3 n3).trans z3, (o2.block b6 l6 n6).trans z6, l⟩
    · rcases f2 k hk with e | e
      · exact f k e
      · exact .inr (Nat.le_trans o.size e)
    · rcases f2 b3 hk with e | e
      · exact n3 e
      · omega
    · rcases f2 b6 hk with e | e
      · exact n6 e
      · omega⟩
theorem AB.sync (h : AB B p F W b3 b6 S x y V) (hok : S.ok) (ha : S.armed ≤ 9223372036854775807) (hn : S.waits.length ≤ 1000000) (ho0 : 0 ≤ S.ops) (ho : S.ops ≤ 4611686018427387904) :
    Calls Tryd.prog 18 #[.pointer (some ⟨p, 0, none⟩)] V fun e V' => e = .returned (.int .i64 S.sync.2) ∧ AB B p F W b3 b6 S.sync.1 x y V' := by
  have h0 := h
  obtain ⟨⟨F', d, f, n3, n6⟩, o, z3, z6, l⟩ := h
  exact (sync_calls d hok ha hn ho0 ho).mono fun _ _ ⟨e, h⟩ => ⟨e, by
    have l3 := h0.lt3
    have l6 := h0.lt6
    obtain ⟨F2, d2, o2, f2⟩ := h
    refine ⟨⟨F2, d2, fun k hk => ?_, fun hk => ?_, fun hk => ?_⟩, o.trans o2 (fun k hk => .inl (f k hk)), (o2.block b3 l3 n3).trans z3, (o2.block b6 l6 n6).trans z6, l⟩
    · rcases f2 k hk with e | e
      · exact f k e
      · exact .inr (Nat.le_trans o.size e)
    · rcases f2 b3 hk with e | e
      · exact n3 e
      · omega
    · rcases f2 b6 hk with e | e
      · exact n6 e
      · omega⟩
set_option maxHeartbeats 4000000 in
theorem append_calls (h : DK B p S F W) (fr room g nx : Nat) (d : ByteArray) (hr : 1 ≤ room) (hl : fr + room ≤ S.lasts.length) (hN : S.lasts.length ≤ 1000000) (hnx : nx ≤ room) (hg : g < 18446744073709551616)
    (hok : S.ok) (ha : S.armed ≤ 9223372036854775807) (hn : S.waits.length ≤ 999999) (ho0 : 0 ≤ S.ops) (ho : S.ops ≤ 4611686018427387903) :
    Calls Tryd.prog 13 #[.agg (logV fr room g nx), .pointer (some ⟨p, 0, none⟩), .string d] W fun e W' =>
      e = .returned (.tuple #[.agg (logV fr room g (appS S fr room g nx d).2.1), .int .i64 (appS S fr room g nx d).2.2]) ∧ Did B p (appS S fr room g nx d).1 F W W' := by
  have H := Aside0.mk (AB.new h (logV fr room g nx) #[.int .i64 0, .int .i64 0, .int .u64 0, .int .i64 0])
  have hi : (Tryd.prog.info? 31).map (·.size) = some (logV fr room g nx).size := infoL
  have hone := logV_one fr room g nx
  clear h
  obtain ⟨R, hR⟩ : ∃ R, appS S fr room g nx d = R := ⟨_, rfl⟩
  rw [hR]
  have d1 : decide ((nx : Int) < 0) = false := decide_eq_false (by omega)
  have d2 : decide ((room : Int) < (nx : Int)) = false := decide_eq_false (by omega)
  have d2' : decide (room < nx) = false := decide_eq_false (by omega)
  go_enter Tryd.func13, Tryd.ntmps13
  go_wp2_with (first | refine wpList_load_row rfl 31 _ rfl W.heap.size rfl 31 _ (0, 0) _ H.out.z3 Tryd.underlying31 rfl hi ?_ | fail)
  generalize (W.alloc (.cells (logV fr room g nx) 31)).alloc (.cells #[.int .i64 0, .int .i64 0, .int .u64 0, .int .i64 0] 31) = V0 at H ⊢
  refine (H.out.may fr room g nx hr hl hN).mono ?_
  rintro e V1 ⟨rfl, hb⟩
  replace H := Aside0.mk (H.out.step hb)
  clear hb
  have c3 : V1.cell? ⟨W.heap.size, 3, none⟩ = some (.int .i64 (nx : Nat)) := H.out.cell 3
  have c1 : V1.cell? ⟨W.heap.size, 1, none⟩ = some (.int .i64 (room : Nat)) := H.out.cell 1
  go_wp2_with (first | refine wpList_load_row rfl 31 _ rfl W.heap.size rfl 31 _ (0, 0) _ H.out.z3 Tryd.underlying31 rfl hi ?_ | fail)
  clear c3 c1
  refine (full_calls fr room g nx V1).mono ?_
  rintro e V2 ⟨rfl, hb⟩
  replace H := Aside0.mk (H.out.step hb)
  clear hb d1 d2 d2'
  by_cases hf : room ≤ nx
  · obtain rfl : R = (S, nx, 9) := by rw [← hR]; unfold appS; rw [if_pos hf]
    rw [decide_eq_true hf]
    clear hf hR
    go_wp2_with (first | refine wpList_load_row rfl 31 _ rfl W.heap.size rfl 31 _ (0, 0) _ H.out.z3 Tryd.underlying31 rfl hi ?_ | refine wpList_store_row rfl 31 _ _ rfl (W.heap.size + 1) (logV fr room g nx) rfl rfl 31 _ H.out.z6 hi rfl hone ?_ | fail)
    exact bodyPost_ret (Cel.end_cell rfl _ _ _ _ _ H.out.z6 rfl Tryd.underlying31 rfl hi) rfl ⟨rfl, (H.out.put6 _).done⟩
  rw [decide_eq_false hf]
  have KC := Aside0.mk (fun V => close_calls 1 g nx d V (by decide) hg (by omega))
  have c3 : V2.cell? ⟨W.heap.size, 3, none⟩ = some (.int .i64 (nx : Nat)) := H.out.cell 3
  have c2 : V2.cell? ⟨W.heap.size, 2, none⟩ = some (.int .u64 (g : Nat)) := H.out.cell 2
  go_wp2_with fail
  clear c3 c2
  refine (KC.out _).mono ?_
  rintro e V3 ⟨rfl, hb⟩
  replace H := Aside0.mk (H.out.step hb)
  clear hb KC
  by_cases hd : 110 < d.size
  · obtain rfl : R = (S, nx, 11) := by rw [← hR]; unfold appS; rw [if_neg hf, if_pos hd]
    have ec : closeS 1 g nx d = (⟨#[]⟩, 11) := by unfold closeS; rw [if_pos hd]
    rw [ec]
    clear ec hf hR hd
    go_wp2_with (first | refine wpList_load_row rfl 31 _ rfl W.heap.size rfl 31 _ (0, 0) _ H.out.z3 Tryd.underlying31 rfl hi ?_ | refine wpList_store_row rfl 31 _ _ rfl (W.heap.size + 1) (logV fr room g nx) rfl rfl 31 _ H.out.z6 hi rfl hone ?_ | fail)
    exact bodyPost_ret (Cel.end_cell rfl _ _ _ _ _ H.out.z6 rfl Tryd.underlying31 rfl hi) rfl ⟨rfl, (H.out.put6 _).done⟩
  have ec := sec_close g nx d (by omega)
  rw [ec]
  clear ec
  have c0 : V3.cell? ⟨W.heap.size, 0, none⟩ = some (.int .i64 (fr : Nat)) := H.out.cell 0
  have c3 : V3.cell? ⟨W.heap.size, 3, none⟩ = some (.int .i64 (nx : Nat)) := H.out.cell 3
  have hcast : ((fr + nx : Nat) : Int) = (fr : Int) + (nx : Int) := by omega
  have KW := Aside0.mk (H.out.write ha (by omega) ho0 (by omega) ((fr + nx : Nat) : Int) (sec g nx d) (by omega) (by omega))
  rw [hcast] at KW
  go_wp2_with fail
  clear c0 c3
  refine KW.out.mono ?_
  rintro e V4 ⟨rfl, h4⟩
  obtain ⟨Q, hQ⟩ : ∃ Q, S.put ((fr + nx : Nat) : Int) (sec g nx d) = Q := ⟨_, rfl⟩
  have hQ2 := hQ
  rw [hcast] at hQ2
  rw [hQ2] at h4 ⊢
  replace H := Aside0.mk h4
  clear h4 KW
  have hps := sec_size g nx d (by omega)
  by_cases hq : Q.2 = 0
  rotate_left
  · obtain rfl : R = (Q.1, nx, Q.2) := by rw [← hR]; unfold appS; rw [if_neg hf, if_neg hd, hQ, if_pos hq]
    obtain ⟨S1, q⟩ := Q
    have e0 : (q == 0) = false := by simpa using hq
    clear hf hR hd hQ hQ2 hq hps hcast
    dsimp only at H ⊢
    go_wp2_with (first | refine wpList_load_row rfl 31 _ rfl W.heap.size rfl 31 _ (0, 0) _ H.out.z3 Tryd.underlying31 rfl hi ?_ | refine wpList_store_row rfl 31 _ _ rfl (W.heap.size + 1) (logV fr room g nx) rfl rfl 31 _ H.out.z6 hi rfl hone ?_ | fail)
    exact bodyPost_ret (Cel.end_cell rfl _ _ _ _ _ H.out.z6 rfl Tryd.underlying31 rfl hi) rfl ⟨rfl, (H.out.put6 _).done⟩
  obtain rfl : R = (Q.1.sync.1, nx + 1, Q.1.sync.2) := by rw [← hR]; unfold appS; rw [if_neg hf, if_neg hd, hQ, if_neg (fun e => e hq)]
  have hP : Q.1.ok ∧ Q.1.armed ≤ 9223372036854775807 ∧ Q.1.waits.length ≤ 1000000 ∧ 0 ≤ Q.1.ops ∧ Q.1.ops ≤ 4611686018427387904 := by
    obtain ⟨l1, l2, l3⟩ := fails_lasts S
    rcases put_cases S (fr + nx) (sec g nx d) (by omega) hps with ⟨e, _⟩ | ⟨e, _⟩
    · rw [e] at hQ
      rw [← hQ] at hq
      exact absurd hq (show ¬ (7 : Int) = 0 by decide)
    · rw [e] at hQ
      rw [← hQ]
      refine ⟨fun x hx => ?_, Int.le_trans (fails_armed S).2 ha, ?_, ?_, ?_⟩
      · show x.1 < S.fails.1.lasts.length
        rw [l1]
        rcases List.mem_append.1 hx with hx | hx
        · exact hok x hx
        · simp only [List.mem_singleton] at hx
          subst hx
          show fr + nx < S.lasts.length
          omega
      · show (S.waits ++ [(fr + nx, sec g nx d)]).length ≤ 1000000
        rw [List.length_append]; show S.waits.length + 1 ≤ 1000000; omega
      · show 0 ≤ S.ops + 1; omega
      · show S.ops + 1 ≤ 4611686018427387904; omega
  obtain ⟨S1, q⟩ := Q
  dsimp only at H hP hq ⊢
  subst hq
  have HP := Aside0.mk hP
  clear hf hR hd hQ hQ2 hps hcast hP hok ha hn ho0 ho
  have c3 : V4.cell? ⟨W.heap.size, 3, none⟩ = some (.int .i64 (nx : Nat)) := H.out.cell 3
  have f3 : V4.frozen? ⟨W.heap.size, 3, none⟩ = false := H.out.frozen 3
  have HN := Aside0.mk (H.out.set3 3 (.int .i64 ((nx + 1 : Nat) : Int)))
  have hnx2 : ((nx + 1 : Nat) : Int) = (nx : Int) + 1 := by omega
  have e2 : (logV fr room g nx).setIfInBounds 3 (.int .i64 ((nx + 1 : Nat) : Int)) = logV fr room g (nx + 1) := rfl
  rw [e2, hnx2] at HN
  clear e2
  go_wp2_with fail
  clear c3 f3 H
  generalize V4.setCell ⟨W.heap.size, 3, none⟩ (.int .i64 ((nx : Int) + 1)) = V5 at HN ⊢
  refine wp_region_held_drew (S := fun V => V.heap[W.heap.size]? = some (.cells (logV fr room g (nx + 1)) 31 (0, 0))) (by kernel_rfl) HN.out.z3 (fun hH => ?_)
  refine take_at (i := 0) (some 64) (.agg (logV fr room g (nx + 1))) rfl rfl (by kernel_rfl) (by kernel_rfl) (by kernel_rfl) (fun _ _ _ h => h) (yieldsIf_load (by rfl) 31 (.tmp 3) rfl _ rfl _ (fun V hV => load_row hV Tryd.underlying31 rfl hi)) hH ?_
  refine take_at (i := 1) (some 65) (.pointer (some ⟨p, 0, none⟩)) rfl rfl (by kernel_rfl) (by kernel_rfl) (by kernel_rfl) (fun _ _ _ h => h) (Or.inl ⟨by rfl, fun w hSw => by go_simp⟩) hH ?_
  try simp only [Act.put, List.setIfInBounds_toArray, List.set_cons_zero, List.set_cons_succ]
  replace HN := Aside0.mk (HN.out.step ((Below.refl V5.heap.size V5).drew))
  refine wpAnyH_ready (rs := [2]) (by kernel_rfl) (by simp) (AllReadyH.cons rfl (fun K hK => ?_) AllReadyH.nil)
  go_simp
  refine (HN.out.sync HP.out.1 HP.out.2.1 HP.out.2.2.1 HP.out.2.2.2.1 HP.out.2.2.2.2).mono ?_
  rintro e V6 ⟨rfl, h6⟩
  refine hK.out _ _ h6.z3 (fun hH => ?_)
  clear hK K HN
  try simp only [Act.put, List.setIfInBounds_toArray, List.set_cons_zero, List.set_cons_succ]
  have hi2 : (Tryd.prog.info? 31).map (·.size) = some (logV fr room g (nx + 1)).size := infoL
  refine wpAnyH_ready (rs := [3]) (by kernel_rfl) (by simp) (AllReadyH.cons rfl (fun K hK => ?_) AllReadyH.nil)
  refine Cel.wp_store_none rfl 31 _ _ rfl (W.heap.size + 1) (logV fr room g (nx + 1)) rfl rfl 31 _ h6.z6 hi2 rfl (logV_one _ _ _ _) ?_
  have h7 := h6.put6 (logV fr room g (nx + 1))
  refine hK.out _ _ h7.z3 (fun hH => ?_)
  clear hK K
  refine take_at (i := 4) (some 7) (.int .i64 S1.sync.2) rfl rfl (by kernel_rfl) (by kernel_rfl) (by kernel_rfl) (fun _ _ _ h => h) (Or.inl ⟨by rfl, fun w hSw => by go_simp⟩) hH ?_
  refine wpAnyH_done (by kernel_rfl) ?_ _
  try simp only [Act.put, List.setIfInBounds_toArray, List.set_cons_zero, List.set_cons_succ]
  go_wp2
  exact bodyPost_ret (Cel.end_cell rfl _ _ _ _ _ h6.z6 rfl Tryd.underlying31 rfl hi2) rfl ⟨rfl, h7.done⟩
end Go.Proofs.YtknbhgodhmcemaaDoor.Lg
namespace Go.Proofs.YtknbhgodhmcemaaDoor.Sl
set_option linter.unusedSimpArgs false
set_option linter.unusedVariables false
set_option maxRecDepth 100000
open Go.RowKit
theorem low4 (b q : List UInt8) (hb : b.length = 124) : low (b ++ q) 124 4 = (q.getD 0 0).toNat + (q.getD 1 0).toNat * 256 + (q.getD 2 0).toNat * 65536 + (q.getD 3 0).toNat * 16777216 := by
  have g : ∀ i, (b ++ q).getD (124 + i) 0 = q.getD i 0 := fun i => by
    rw [List.getD_eq_getElem?_getD, List.getElem?_append_right (by omega), hb, List.getD_eq_getElem?_getD, Nat.add_sub_cancel_left]
  simp only [low, g]
  omega
theorem low_inj {b p q : List UInt8} (hb : b.length = 124) (hp : p.length = 4) (hq : q.length = 4) (h : low (b ++ p) 124 4 = low (b ++ q) 124 4) : p = q := by
  rw [low4 b p hb, low4 b q hb] at h
  match p, q, hp, hq with
  | [p0, p1, p2, p3], [q0, q1, q2, q3], _, _ =>
    simp only [List.getD_cons_zero, List.getD_cons_succ] at h
    have a0 := p0.toNat_lt; have a1 := p1.toNat_lt; have a2 := p2.toNat_lt; have a3 := p3.toNat_lt
    have b0 := q0.toNat_lt; have b1 := q1.toNat_lt; have b2 := q2.toNat_lt; have b3 := q3.toNat_lt
    have e0 : p0 = q0 := UInt8.toNat_inj.1 (by omega)
    have e1 : p1 = q1 := UInt8.toNat_inj.1 (by omega)
    have e2 : p2 = q2 := UInt8.toNat_inj.1 (by omega)
    have e3 : p3 = q3 := UInt8.toNat_inj.1 (by omega)
    rw [e0, e1, e2, e3]
theorem lb_low (b q : List UInt8) (hb : b.length = 124) (hq : q.length = 4) : lb (low (b ++ q) 124 4) 4 = q := by
  have hlt : low (b ++ q) 124 4 < 4294967296 := low_lt _ _ 4
  exact low_inj hb (lb_len _ _) hq (low_lb b hb _ hlt)
theorem val_inj : ∀ (n : Nat) (l m : List UInt8), l.length = n → m.length = n → val l = val m → l = m
  | 0, l, m, hl, hm, _ => by rw [List.length_eq_zero_iff.1 hl, List.length_eq_zero_iff.1 hm]
  | n + 1, l, m, hl, hm, h => by
    have el : l = l.take n ++ [l[n]'(by omega)] := by rw [← List.take_succ_eq_append_getElem, List.take_of_length_le (by omega)]
    have em : m = m.take n ++ [m[n]'(by omega)] := by rw [← List.take_succ_eq_append_getElem, List.take_of_length_le (by omega)]
    rw [el, em, val_snoc, val_snoc] at h
    have a := (l[n]'(by omega)).toNat_lt
    have b := (m[n]'(by omega)).toNat_lt
    have h1 : val (l.take n) = val (m.take n) := by omega
    have h2 : l[n]'(by omega) = m[n]'(by omega) := UInt8.toNat_inj.1 (by omega)
    have ih := val_inj n (l.take n) (m.take n) (by rw [List.length_take]; omega) (by rw [List.length_take]; omega) h1
    rw [el, em, ih, h2]
theorem val_be (l : List UInt8) : be (val l) l.length = l :=
  val_inj l.length _ _ (be_len _ _) rfl (be_val (val_lt l))
theorem seg_append (l : List UInt8) (a b c : Nat) (h1 : a ≤ b) (h2 : b ≤ c) : (l.take b).drop a ++ (l.take c).drop b = (l.take c).drop a := by
  rw [List.drop_take, List.drop_take, List.drop_take, show c - a = (b - a) + (c - b) by omega, List.take_add, List.drop_drop, show a + (b - a) = b by omega]
theorem seg_one (l : List UInt8) (j : Nat) (h : j < l.length) : (l.take (j + 1)).drop j = [l.getD j 0] := by
  rw [List.drop_take, show j + 1 - j = 1 by omega, List.drop_eq_getElem_cons h, List.getD_eq_getElem?_getD, List.getElem?_eq_getElem h]; rfl
theorem ext_toList (s : ByteArray) (a b : Nat) : (s.extract a b).data.toList = (s.data.toList.take b).drop a := by
  rw [ByteArray.data_extract, Array.toList_extract, List.drop_take]
theorem close_opened (s : ByteArray) (h1 : s.size = 128) (h3 : sumN (s.extract 0 124).data.toList = low s.data.toList 124 4) (h4 : (s.data.toList.getD 13 0).toNat ≤ 110)
    (h5 : blankB (s.extract (14 + (s.data.toList.getD 13 0).toNat) 124).data.toList = true) :
    closeS (s.data.toList.getD 0 0).toNat (val (s.extract 1 9).data.toList) (val (s.extract 9 13).data.toList) (s.extract 14 (14 + (s.data.toList.getD 13 0).toNat)) = (s, 0) := by
  obtain ⟨n, hn⟩ : ∃ n, (s.data.toList.getD 13 0).toNat = n := ⟨_, rfl⟩
  rw [hn] at h4 h5 ⊢
  obtain ⟨L, hL⟩ : ∃ L, s.data.toList = L := ⟨_, rfl⟩
  have hll : L.length = 128 := by rw [← hL, Array.length_toList]; exact h1
  have hds : (s.extract 14 (14 + n)).size = n := by rw [ByteArray.size_extract]; omega
  have hdl : (s.extract 14 (14 + n)).data.toList.length = n := by rw [Array.length_toList]; exact hds
  rw [close_ok _ _ _ _ (by rw [hds]; exact h4)]
  simp only [ext_toList, hL] at h3 h5 hdl ⊢
  rw [hL] at hn
  have hb : body (L.getD 0 0).toNat (val ((L.take 9).drop 1)) (val ((L.take 13).drop 9)) ((L.take (14 + n)).drop 14) = (L.take 124).drop 0 := by
    rw [body, head14, hdl]
    have a0 : be (L.getD 0 0).toNat 1 = (L.take 1).drop 0 := by rw [seg_one L 0 (by omega), be1]; simp
    have a1 : be (val ((L.take 9).drop 1)) 8 = (L.take 9).drop 1 := by
      have := val_be ((L.take 9).drop 1)
      rwa [show ((L.take 9).drop 1).length = 8 by rw [List.length_drop, List.length_take]; omega] at this
    have a2 : be (val ((L.take 13).drop 9)) 4 = (L.take 13).drop 9 := by
      have := val_be ((L.take 13).drop 9)
      rwa [show ((L.take 13).drop 9).length = 4 by rw [List.length_drop, List.length_take]; omega] at this
    have a3 : be n 1 = (L.take 14).drop 13 := by rw [seg_one L 13 (by omega), be1, ← hn]; simp
    have a4 : List.replicate (110 - n) 0 = (L.take 124).drop (14 + n) := by
      have := (blank_iff _).1 h5
      rw [this, List.length_drop, List.length_take, hll]; congr 1; omega
    rw [a0, a1, a2, a3, a4, seg_append _ _ _ _ (by omega) (by omega), seg_append _ _ _ _ (by omega) (by omega), seg_append _ _ _ _ (by omega) (by omega), seg_append _ _ _ _ (by omega) (by omega), seg_append _ _ _ _ (by omega) (by omega)]
  rw [sector, hb]
  have hq : lb (sumN ((L.take 124).drop 0)) 4 = L.drop 124 := by
    rw [h3]
    have := lb_low (L.take 124) (L.drop 124) (by rw [List.length_take]; omega) (by rw [List.length_drop]; omega)
    rwa [List.take_append_drop] at this
  rw [hq, List.drop_zero, List.take_append_drop, ← hL]
theorem open_back (s : ByteArray) : (openS s).1.k < 256 ∧ (openS s).1.g < 18446744073709551616 ∧ (openS s).1.i < 4294967296 ∧ ((openS s).2 = 0 → closeS (openS s).1.k (openS s).1.g (openS s).1.i (openS s).1.d = (s, 0)) := by
  have z : ∀ c : Int, c ≠ 0 → (Rec.zero, c).1.k < 256 ∧ (Rec.zero, c).1.g < 18446744073709551616 ∧ (Rec.zero, c).1.i < 4294967296 ∧ ((Rec.zero, c).2 = 0 → closeS (Rec.zero, c).1.k (Rec.zero, c).1.g (Rec.zero, c).1.i (Rec.zero, c).1.d = (s, 0)) :=
    fun c hc => ⟨by show (0 : Nat) < 256; decide, by show (0 : Nat) < 18446744073709551616; decide, by show (0 : Nat) < 4294967296; decide, fun e => absurd e hc⟩
  by_cases h1 : s.size = 128
  · cases h2 : blankB s.data.toList with
    | true => rw [openS_blank h1 h2]; exact z 16 (by decide)
    | false =>
      by_cases h3 : sumN (s.extract 0 124).data.toList = low s.data.toList 124 4
      · by_cases h4 : (s.data.toList.getD 13 0).toNat ≤ 110
        · cases h5 : blankB (s.extract (14 + (s.data.toList.getD 13 0).toNat) 124).data.toList with
          | false => rw [openS_form h1 h2 h3 (.inr h5)]; exact z 4 (by decide)
          | true =>
            rw [openS_ok h1 h2 h3 h4 h5]
            have v1 := val_lt (s.extract 1 9).data.toList
            have v2 := val_lt (s.extract 9 13).data.toList
            rw [show (s.extract 1 9).data.toList.length = 8 by rw [Array.length_toList]; show (s.extract 1 9).size = 8; rw [ByteArray.size_extract]; omega] at v1
            rw [show (s.extract 9 13).data.toList.length = 4 by rw [Array.length_toList]; show (s.extract 9 13).size = 4; rw [ByteArray.size_extract]; omega] at v2
            exact ⟨(s.data.toList.getD 0 0).toNat_lt, v1, v2, fun _ => close_opened s h1 h3 h4 h5⟩
        · rw [openS_form h1 h2 h3 (.inl (by omega))]; exact z 4 (by decide)
      · rw [openS_sum h1 h2 h3]; exact z 8 (by decide)
  · rw [openS_len h1]; exact z 4 (by decide)
end Go.Proofs.YtknbhgodhmcemaaDoor.Sl
namespace Go.Proofs.YtknbhgodhmcemaaDoor.Lg
set_option linter.unusedSimpArgs false
set_option linter.unusedVariables false
set_option maxRecDepth 100000
open Go.RowKit Go.Proofs.YtknbhgodhmcemaaDoor.Own Go.Proofs.YtknbhgodhmcemaaDoor.Cel Go.Proofs.YtknbhgodhmcemaaDoor.Dk
open Go.Proofs.YtknbhgodhmcemaaDoor.Sl (openS open_calls recV recV_one Rec)
abbrev zLog : Array Value := #[.int .i64 0, .int .i64 0, .int .u64 0, .int .i64 0]
def RP (B p : Nat) (S : DS) (F : Nat → Prop) (W : World) (x : Array Value) (v : Value) (acc : List ByteArray) (V : World) : Prop :=
  DK B p S F V ∧ Below W.heap.size W V ∧ V.heap[W.heap.size]? = some (.cells zLog 31 (0, 0)) ∧ V.heap[W.heap.size + 1]? = some (.cells x 31 (0, 0)) ∧ V.ownsRow (W.heap.size + 2) 9 1 v acc.length (strs acc)
variable {B p : Nat} {S : DS} {F : Nat → Prop} {W V V' : World} {x : Array Value} {v : Value} {acc : List ByteArray}
theorem RP.step (h : RP B p S F W x v acc V) (hb : Below V.heap.size V V') : RP B p S F W x v acc V' :=
  ⟨h.1.below hb, h.2.1.trans (hb.mono h.2.1.size), keep h.2.2.1 hb, keep h.2.2.2.1 hb, owns_keep h.2.2.2.2 hb⟩
theorem RP.z8 (h : RP B p S F W x v acc V) : V.heap[W.heap.size]? = some (.cells zLog 31 (0, 0)) := h.2.2.1
theorem RP.z11 (h : RP B p S F W x v acc V) : V.heap[W.heap.size + 1]? = some (.cells x 31 (0, 0)) := h.2.2.2.1
theorem RP.cell (h : RP B p S F W x v acc V) (j : Nat) : V.cell? ⟨W.heap.size + 1, j, none⟩ = x[j]? := cell_of_row _ _ j _ _ _ h.z11
theorem RP.frozen (h : RP B p S F W x v acc V) (j : Nat) : V.frozen? ⟨W.heap.size + 1, j, none⟩ = false := frozen_of_row _ _ j _ _ h.z11
theorem RP.size (h : RP B p S F W x v acc V) : W.heap.size + 2 ≤ V.heap.size := (Array.getElem?_eq_some_iff.1 h.z11).1
theorem RP.grown (h : RP B p S F W x v acc V) {v' : Value} {k : Nat} {s : ByteArray} (hg : V.grownBy V' v.ownBlock) (ho : V'.ownsRow (W.heap.size + 2) 9 1 v' k (strs acc ++ strs [s])) (hk : k = acc.length + 1) (hlt : ∀ q, F q → q < W.heap.size) : RP B p S F W x v' (acc ++ [s]) V' := by
  obtain ⟨d, b, z8, z11, r⟩ := h
  subst hk
  have hne : ∀ q, q < W.heap.size + 2 → some q ≠ v.ownBlock := fun q hq e => by have := (r.lt q e.symm).1; omega
  have hs : W.heap.size + 2 ≤ V.heap.size := (Array.getElem?_eq_some_iff.1 z11).1
  refine ⟨d.keep (fun q hq => hg.block q (d.lt hq).2 (hne q (by have := hlt q hq; omega))), b.grown hg b.size (fun q e => by have := (r.lt q e).1; omega), (hg.block _ (by omega) (hne _ (by omega))).trans z8, (hg.block _ (by omega) (hne _ (by omega))).trans z11, ?_⟩
  rw [List.length_append, strs_append]; exact ho
theorem RP.set (h : RP B p S F W x v acc V) (j : Nat) (u : Value) (hlt : ∀ q, F q → q < W.heap.size) : RP B p S F W (x.setIfInBounds j u) v acc (V.setCell ⟨W.heap.size + 1, j, none⟩ u) := by
  obtain ⟨d, b, z8, z11, r⟩ := h
  have so : ∀ k, k ≠ W.heap.size + 1 → (V.setCell ⟨W.heap.size + 1, j, none⟩ u).heap[k]? = V.heap[k]? := fun k hk => set_other V _ _ k hk
  exact ⟨d.keep (fun q hq => so q (by have := hlt q hq; omega)), b.setCell (p := ⟨W.heap.size + 1, j, none⟩) (by show W.heap.size ≤ W.heap.size + 1; omega) _, (so _ (by omega)).trans z8, heap_setCell_same V _ j _ _ u z11, owns_block r (fun g e => so g (by have := (r.lt g e).1; omega))⟩
theorem RP.new (h : DK B p S F W) (x : Array Value) : RP B p S F W x (.slice none 0 0) [] (((W.alloc (.cells zLog 31)).alloc (.cells zLog 31)).setRow (W.heap.size + 1) x) := by
  have b1 : Below W.heap.size W ((W.alloc (.cells zLog 31)).alloc (.cells zLog 31)) := ((Below.refl _ _).alloc (Nat.le_refl _) _).alloc (by simp) _
  have b2 := below_setRow b1 (g := W.heap.size + 1) (by omega) x
  have z := heap_alloc_new (W.alloc (.cells zLog 31)) (.cells zLog 31)
  rw [show (W.alloc (.cells zLog 31)).heap.size = W.heap.size + 1 by simp] at z
  refine ⟨h.below b2, b2, ?_, setRow_heap _ _ _ _ _ (0, 0) z, World.ownsRow_nil _ _ _ _⟩
  rw [setRow_other _ _ _ _ (by omega)]
  exact keep (heap_alloc_new W _) ((Below.refl _ _).alloc (Nat.le_refl _) _)
theorem RP.read (h : RP B p S F W x v acc V) (i : Int) : Calls Tryd.prog 39 #[.pointer (some ⟨p, 0, none⟩), .int .i64 i] V fun e V' => e = .returned (.tuple #[.string (S.readAt i).1, .int .i64 (S.readAt i).2]) ∧ V = V' := read_calls h.1 i
theorem infoLV (fr room g n : Nat) : (Tryd.prog.info? 31).map (·.size) = some (logV fr room g n).size := infoL
theorem results_cell_tmp2 {fn : Func} {q u u2 : Tmp} {ty : TypeId} (h : fn.results = #[.cell q ty, .tmp u, .tmp u2]) (tmps : Array Value) (P : Program) (w : World) :
    (results fn tmps).run P w =
      ((asAddr (tmps.getD q undef)).run P w).andThen fun a w₁ => ((loadVar ty a).run P w₁).andThen fun v w₂ => .ok (.tuple #[v, tmps.getD u undef, tmps.getD u2 undef]) w₂ := by
  simp only [results, h]
  simp [Sem.run_bind, Result.andThen]
theorem end_cell3 {P : Program} {fn : Func} {q u u2 : Tmp} {ty : TypeId} {d : TypeDesc} (h : fn.results = #[.cell q ty, .tmp u, .tmp u2]) (tmps : Array Value) (U : World) (b : Nat) (cells old : Array Value) (hZ : U.heap[b]? = some (.cells old ty (0, 0)))
    (hp : tmps.getD q undef = .pointer (some ⟨b, 0, none⟩)) (hu : P.underlying ty = some d) (hd : (match d with | .struct _ | .array _ _ => true | _ => false) = true) (hi : (P.info? ty).map (·.size) = some cells.size) :
    (results fn tmps).run P (U.setRow b cells) = .ok (.tuple #[.agg cells, tmps.getD u undef, tmps.getD u2 undef]) (U.setRow b cells) := by
  have hR := setRow_heap U b old cells ty (0, 0) hZ
  rw [results_cell_tmp2 h, hp]
  simp [asAddr, run_loadVar_row _ _ ty ty _ (0, 0) _ hR hu hd hi]
theorem RP.row8 (h : RP B p S F W x v acc V) (y : Array Value) : (V.setRow W.heap.size y).ownsRow W.heap.size 9 1 v acc.length (strs acc) := by
  refine owns_mono (owns_block h.2.2.2.2 (fun g e => setRow_other V W.heap.size g y (fun e2 => ?_))) (show W.heap.size ≤ W.heap.size + 2 by omega)
  have := (h.2.2.2.2.lt g e).1
  omega
theorem RP.bel8 (h : RP B p S F W x v acc V) (y : Array Value) : Below W.heap.size W (V.setRow W.heap.size y) := below_setRow h.2.1 (g := W.heap.size) (Nat.le_refl _) y
set_option maxHeartbeats 4000000 in
theorem replay_calls (h : DK B p S F W) (fr room g : Nat) (hr : 1 ≤ room) (hl : fr + room ≤ S.lasts.length) (hN : S.lasts.length ≤ 1000000) (hg : g < 18446744073709551616) (hsz : ∀ j, (S.read.getD j ByteArray.empty).size ≤ 1000) :
    Calls Tryd.prog 11 #[.pointer (some ⟨p, 0, none⟩), .int .i64 (fr : Nat), .int .i64 (room : Nat), .int .u64 (g : Nat)] W fun e W' =>
      ∃ v, e = .returned (.tuple #[.agg (logV fr room g (repl S.read fr g room 0).length), v, .int .i64 0]) ∧ W'.ownsRow W.heap.size 9 1 v (repl S.read fr g room 0).length (strs (repl S.read fr g room 0)) ∧ Below W.heap.size W W' := by
  have HLT := Aside0.mk (fun q (hq : F q) => (h.lt hq).2)
  have H := Aside0.mk (RP.new h (logV fr room g 0))
  have hi : (Tryd.prog.info? 31).map (·.size) = some (logV fr room g 0).size := infoL
  have hone := logV_one fr room g 0
  have z0 : ((W.alloc (.cells zLog 31)).alloc (.cells zLog 31)).heap[W.heap.size + 1]? = some (.cells zLog 31 (0, 0)) := by
    have z := heap_alloc_new (W.alloc (.cells zLog 31)) (.cells zLog 31)
    simpa using z
  clear h
  go_enter Tryd.func11, Tryd.ntmps11
  go_wp2
  go_step3
  go_wp2_with (first | refine wpList_store_row rfl 31 _ _ rfl (W.heap.size + 1) (logV fr room g 0) rfl rfl 31 _ z0 hi rfl hone ?_ | refine wpList_load_row rfl 31 _ rfl (W.heap.size + 1) rfl 31 _ (0, 0) _ H.out.z11 Tryd.underlying31 rfl hi ?_ | fail)
  change Calls _ _ _ (((W.alloc (.cells zLog 31)).alloc (.cells zLog 31)).setRow (W.heap.size + 1) (logV fr room g 0)) _
  clear z0
  generalize ((W.alloc (.cells zLog 31)).alloc (.cells zLog 31)).setRow (W.heap.size + 1) (logV fr room g 0) = V0 at H ⊢
  refine (may_calls H.out.1 fr room g 0 hr hl hN).mono ?_
  rintro e V1 ⟨rfl, hb⟩
  replace H := Aside0.mk (H.out.step hb)
  clear hb
  go_wp2
  go_step3
  go_wp2_with fail
  -- PRINTED
  have HSZ := Aside0.mk hsz
  have hi15 : (Tryd.prog.info? 64).map (·.size) = some 4 := Sl.infoR
  obtain ⟨i0, hi0, hz0, hz1, hz2⟩ := info_parts infoS
  go_loopw [12] (fun vv V => ∃ (acc : List ByteArray) (A : Option Addr) (n c : Nat), vv = .slice A n c ∧ n ≤ room ∧ Aside0 (acc.length = n ∧ RP B p S F W (logV fr room g n) vv acc V ∧ repl S.read fr g room 0 = acc ++ repl S.read fr g (room - n) n)) (fun vv _ => room - Sl.lenOf vv)
  case atStart => exact ⟨[], none, 0, 0, rfl, by omega, ⟨rfl, H.out, rfl⟩⟩
  case round =>
    obtain ⟨acc, A, n, c, rfl, hn, HS⟩ := hrel
    clear H
    have H := Aside0.mk HS.out.2.1
    have HA := Aside0.mk HS.out.1
    have HR := Aside0.mk HS.out.2.2
    clear HS
    have c3 : wr.cell? ⟨W.heap.size + 1, 3, none⟩ = some (.int .i64 (n : Nat)) := H.out.cell 3
    have c1 : wr.cell? ⟨W.heap.size + 1, 1, none⟩ = some (.int .i64 (room : Nat)) := H.out.cell 1
    have c0 : wr.cell? ⟨W.heap.size + 1, 0, none⟩ = some (.int .i64 (fr : Nat)) := H.out.cell 0
    by_cases hlt : n < room
    rotate_left
    · have hd : decide ((n : Int) < (room : Int)) = false := decide_eq_false (by omega)
      have hd' : decide (n < room) = false := decide_eq_false hlt
      obtain rfl : n = room := by omega
      have hE := HR.out
      rw [Nat.sub_self, repl, List.append_nil] at hE
      have hE2 := Aside0.mk hE
      clear hE HR hlt hn
      go_wp2_with (first | refine wpList_load_row rfl 31 _ rfl (W.heap.size + 1) rfl 31 _ (0, 0) _ H.out.z11 Tryd.underlying31 rfl (infoLV fr n g n) ?_ | refine wpList_store_row rfl 31 _ _ rfl W.heap.size (logV fr n g n) rfl rfl 31 _ H.out.z8 (infoLV fr n g n) rfl (logV_one fr n g n) ?_ | fail)
      try rw [Exit.noGoto_ret]
      refine bodyPost_ret (end_cell3 rfl _ _ _ (logV fr n g n) _ H.out.z8 rfl Tryd.underlying31 rfl (infoLV fr n g n)) rfl ?_
      rw [hE2.out, HA.out]
      exact ⟨_, rfl, by have hz := H.out.row8 (logV fr n g n); rw [HA.out] at hz; exact hz, H.out.bel8 _⟩

    have hlt2 : (n : Int) < (room : Int) := by omega
    have hcast : ((fr + n : Nat) : Int) = (fr : Int) + (n : Int) := by omega
    have er : S.readAt ((fr + n : Nat) : Int) = (S.read.getD (fr + n) ByteArray.empty, 0) := by
      unfold DS.readAt
      rw [if_pos ⟨by omega, by omega⟩, Int.toNat_natCast]
    have hsz1 := HSZ.out (fr + n)
    obtain ⟨s, hs⟩ : ∃ s, S.read.getD (fr + n) ByteArray.empty = s := ⟨_, rfl⟩
    rw [hs] at er hsz1
    rw [hcast] at er
    have HX := Aside0.mk hs
    have ER := Aside0.mk er
    have KO := Aside0.mk (fun V => open_calls s V hsz1)
    obtain ⟨⟨r, q⟩, ho⟩ : ∃ o, openS s = o := ⟨_, rfl⟩
    rw [ho] at KO
    change Aside0 (∀ V, Calls Tryd.prog 47 #[.string s] V fun e w' => e = .returned (.tuple #[.agg (recV r), .int .i64 q]) ∧ Below V.heap.size V w') at KO
    have HO := Aside0.mk ho
    have ri : r.i < 4294967296 := by have := (Sl.open_back s).2.2.1; rw [ho] at this; exact this
    have KR := Aside0.mk (H.out.read ((fr : Int) + (n : Int)))
    rw [ER.out] at KR
    have hone2 := recV_one r
    have HI2 := Aside0.mk (show (Tryd.prog.info? 64).map (·.size) = some (recV r).size from Sl.infoR)
    clear er hs ho hsz1 ER
    go_wp2_with fail
    refine KR.out.mono ?_
    rintro e w1 ⟨rfl, rfl⟩
    clear KR
    go_wp2_with fail
    refine (KO.out _).mono ?_
    rintro e V3 ⟨rfl, hb⟩
    replace H := Aside0.mk (H.out.step hb)
    clear hb KO c3 c1 c0
    have z15 : (V3.alloc (.cells #[.int .u8 0, .int .u64 0, .int .u32 0, .string ⟨#[]⟩] 64)).heap[V3.heap.size]? = some (.cells #[.int .u8 0, .int .u64 0, .int .u32 0, .string ⟨#[]⟩] 64 (0, 0)) := heap_alloc_new V3 _
    have HB := Aside0.mk (below_setRow ((Below.refl V3.heap.size V3).alloc (Nat.le_refl _) (.cells #[.int .u8 0, .int .u64 0, .int .u32 0, .string ⟨#[]⟩] 64)) (g := V3.heap.size) (Nat.le_refl _) (recV r))
    have Z := Aside0.mk (setRow_heap _ _ _ (recV r) _ (0, 0) z15)
    have HH := Aside0.mk (H.out.step HB.out)
    clear HB
    have c3 : ((V3.alloc (.cells #[.int .u8 0, .int .u64 0, .int .u32 0, .string ⟨#[]⟩] 64)).setRow V3.heap.size (recV r)).cell? ⟨W.heap.size + 1, 3, none⟩ = some (.int .i64 (n : Nat)) := HH.out.cell 3
    have r0 : ((V3.alloc (.cells #[.int .u8 0, .int .u64 0, .int .u32 0, .string ⟨#[]⟩] 64)).setRow V3.heap.size (recV r)).cell? ⟨V3.heap.size, 0, none⟩ = some (.int .u8 (r.k : Nat)) := cell_of_row _ _ 0 _ _ _ Z.out
    have r1 : ((V3.alloc (.cells #[.int .u8 0, .int .u64 0, .int .u32 0, .string ⟨#[]⟩] 64)).setRow V3.heap.size (recV r)).cell? ⟨V3.heap.size, 1, none⟩ = some (.int .u64 (r.g : Nat)) := cell_of_row _ _ 1 _ _ _ Z.out
    have r2 : ((V3.alloc (.cells #[.int .u8 0, .int .u64 0, .int .u32 0, .string ⟨#[]⟩] 64)).setRow V3.heap.size (recV r)).cell? ⟨V3.heap.size, 2, none⟩ = some (.int .u32 (r.i : Nat)) := cell_of_row _ _ 2 _ _ _ Z.out
    have r3 : ((V3.alloc (.cells #[.int .u8 0, .int .u64 0, .int .u32 0, .string ⟨#[]⟩] 64)).setRow V3.heap.size (recV r)).cell? ⟨V3.heap.size, 3, none⟩ = some (.string r.d) := cell_of_row _ _ 3 _ _ _ Z.out
    by_cases hq : q = 0
    rotate_left
    · have hnr : isRec g n s = false := decide_eq_false (fun e => by rw [HO.out] at e; exact hq e.1)
      have hE := HR.out
      rw [show room - n = (room - n - 1) + 1 by omega, repl, HX.out, hnr] at hE
      have hE2 := Aside0.mk (show (repl S.read fr g room 0) = acc by rw [hE]; simp)
      have hq' : (q == 0) = false := by simpa using hq
      clear hE hnr HR hq hlt hn hlt2 hcast HO HX H r0 r1 r2 r3 c3
      go_wp2_with (first | refine wpList_load_row rfl 31 _ rfl (W.heap.size + 1) rfl 31 _ (0, 0) _ HH.out.z11 Tryd.underlying31 rfl (infoLV fr room g n) ?_ | refine wpList_store_row rfl 31 _ _ rfl W.heap.size (logV fr room g n) rfl rfl 31 _ HH.out.z8 (infoLV fr room g n) rfl (logV_one fr room g n) ?_ | refine wpList_store_row rfl 64 _ _ rfl V3.heap.size (recV r) rfl rfl 64 _ z15 HI2.out rfl hone2 ?_ | fail)
      try rw [Exit.noGoto_ret]
      refine bodyPost_ret (end_cell3 rfl _ _ _ (logV fr room g n) _ HH.out.z8 rfl Tryd.underlying31 rfl (infoLV fr room g n)) rfl ?_
      rw [hE2.out, HA.out]
      exact ⟨_, rfl, by have hz := HH.out.row8 (logV fr room g n); rw [HA.out] at hz; exact hz, HH.out.bel8 _⟩

    subst hq
    have hq' : ((0 : Int) == 0) = true := rfl
    by_cases hrec : r.k = 1 ∧ r.g = g ∧ r.i = n
    rotate_left
    · have hnr : isRec g n s = false := decide_eq_false (fun e => by rw [HO.out] at e; exact hrec e.2)
      have hE := HR.out
      rw [show room - n = (room - n - 1) + 1 by omega, repl, HX.out, hnr] at hE
      have hE2 := Aside0.mk (show (repl S.read fr g room 0) = acc by rw [hE]; simp)
      clear hE hnr HR hlt hn hcast HO HX H
      by_cases hk : r.k = 1
      · by_cases hgg : r.g = g
        · have hii : r.i ≠ n := fun e => hrec ⟨hk, hgg, e⟩
          have b1 : ((r.k : Int) != 1) = false := by rw [hk]; rfl
          have b2 : ((r.g : Int) != (g : Int)) = false := by rw [hgg]; simp
          have b3 : ((r.i : Int) != (n : Int)) = true := by simp; omega
          clear hk hgg hii hrec
          go_wp2_with (first | refine wpList_load_row rfl 31 _ rfl (W.heap.size + 1) rfl 31 _ (0, 0) _ HH.out.z11 Tryd.underlying31 rfl (infoLV fr room g n) ?_ | refine wpList_store_row rfl 31 _ _ rfl W.heap.size (logV fr room g n) rfl rfl 31 _ HH.out.z8 (infoLV fr room g n) rfl (logV_one fr room g n) ?_ | refine wpList_store_row rfl 64 _ _ rfl V3.heap.size (recV r) rfl rfl 64 _ z15 HI2.out rfl hone2 ?_ | fail)
          try rw [Exit.noGoto_ret]
          refine bodyPost_ret (end_cell3 rfl _ _ _ (logV fr room g n) _ HH.out.z8 rfl Tryd.underlying31 rfl (infoLV fr room g n)) rfl ?_
          rw [hE2.out, HA.out]
          exact ⟨_, rfl, by have hz := HH.out.row8 (logV fr room g n); rw [HA.out] at hz; exact hz, HH.out.bel8 _⟩

        · have b1 : ((r.k : Int) != 1) = false := by rw [hk]; rfl
          have b2 : ((r.g : Int) != (g : Int)) = true := by simp; omega
          clear hk hgg hrec
          go_wp2_with (first | refine wpList_load_row rfl 31 _ rfl (W.heap.size + 1) rfl 31 _ (0, 0) _ HH.out.z11 Tryd.underlying31 rfl (infoLV fr room g n) ?_ | refine wpList_store_row rfl 31 _ _ rfl W.heap.size (logV fr room g n) rfl rfl 31 _ HH.out.z8 (infoLV fr room g n) rfl (logV_one fr room g n) ?_ | refine wpList_store_row rfl 64 _ _ rfl V3.heap.size (recV r) rfl rfl 64 _ z15 HI2.out rfl hone2 ?_ | fail)
          try rw [Exit.noGoto_ret]
          refine bodyPost_ret (end_cell3 rfl _ _ _ (logV fr room g n) _ HH.out.z8 rfl Tryd.underlying31 rfl (infoLV fr room g n)) rfl ?_
          rw [hE2.out, HA.out]
          exact ⟨_, rfl, by have hz := HH.out.row8 (logV fr room g n); rw [HA.out] at hz; exact hz, HH.out.bel8 _⟩

      · have b1 : ((r.k : Int) != 1) = true := by simp; omega
        clear hk hrec
        go_wp2_with (first | refine wpList_load_row rfl 31 _ rfl (W.heap.size + 1) rfl 31 _ (0, 0) _ HH.out.z11 Tryd.underlying31 rfl (infoLV fr room g n) ?_ | refine wpList_store_row rfl 31 _ _ rfl W.heap.size (logV fr room g n) rfl rfl 31 _ HH.out.z8 (infoLV fr room g n) rfl (logV_one fr room g n) ?_ | refine wpList_store_row rfl 64 _ _ rfl V3.heap.size (recV r) rfl rfl 64 _ z15 HI2.out rfl hone2 ?_ | fail)
        try rw [Exit.noGoto_ret]
        refine bodyPost_ret (end_cell3 rfl _ _ _ (logV fr room g n) _ HH.out.z8 rfl Tryd.underlying31 rfl (infoLV fr room g n)) rfl ?_
        rw [hE2.out, HA.out]
        exact ⟨_, rfl, by have hz := HH.out.row8 (logV fr room g n); rw [HA.out] at hz; exact hz, HH.out.bel8 _⟩

    have hyr : isRec g n s = true := decide_eq_true (by rw [HO.out]; exact ⟨rfl, hrec⟩)
    obtain ⟨hk, hgg, hii⟩ := hrec
    have hE := HR.out
    rw [show room - n = (room - (n + 1)) + 1 by omega, repl, HX.out, hyr, if_pos rfl, HO.out] at hE
    have hE2 := Aside0.mk (show repl S.read fr g room 0 = (acc ++ [r.d]) ++ repl S.read fr g (room - (n + 1)) (n + 1) by rw [hE, List.append_assoc]; rfl)
    have b1 : ((r.k : Int) != 1) = false := by rw [hk]; rfl
    have b2 : ((r.g : Int) != (g : Int)) = false := by rw [hgg]; simp
    have b3 : ((r.i : Int) != (n : Int)) = false := by rw [hii]; simp
    clear hE hyr HR hk hgg hii HO HX H
    have HAL := Aside0.mk (HH.out.step ((Below.refl _ _).alloc (Nat.le_refl _) (.cells #[.string r.d] 9)))
    have HC := Aside0.mk (show ∀ j u, (strs [r.d])[j]? = some u → (((V3.alloc (.cells #[.int .u8 0, .int .u64 0, .int .u32 0, .string ⟨#[]⟩] 64)).setRow V3.heap.size (recV r)).alloc (.cells #[.string r.d] 9)).cell? ((⟨V3.heap.size + 1, 0, none⟩ : Addr).add j) = some u by
      have e4 : ((V3.alloc (.cells #[.int .u8 0, .int .u64 0, .int .u32 0, .string ⟨#[]⟩] 64)).setRow V3.heap.size (recV r)).heap.size = V3.heap.size + 1 := by simp [World.setRow]
      rw [← e4]
      intro j u hj
      cases j with
      | zero => exact (cell_of_row _ ((V3.alloc (.cells #[.int .u8 0, .int .u64 0, .int .u32 0, .string ⟨#[]⟩] 64)).setRow V3.heap.size (recV r)).heap.size 0 _ _ _ (heap_alloc_new ((V3.alloc (.cells #[.int .u8 0, .int .u64 0, .int .u32 0, .string ⟨#[]⟩] 64)).setRow V3.heap.size (recV r)) _)).trans hj
      | succ j => simp [strs] at hj)
    have HOW := Aside0.mk (show (((V3.alloc (.cells #[.int .u8 0, .int .u64 0, .int .u32 0, .string ⟨#[]⟩] 64)).setRow V3.heap.size (recV r)).alloc (.cells #[.string r.d] 9)).ownsRow (W.heap.size + 2) 9 1 (.slice A n c) n (strs acc) by
      have := HAL.out.2.2.2.2
      rw [HA.out] at this
      exact this)
    go_wp2_with (first | refine wpList_store_row rfl 64 _ _ rfl V3.heap.size (recV r) rfl rfl 64 _ z15 HI2.out rfl hone2 ?_ | (at_builtin; go_loud (refine wpList_append_own _ rfl _ _ 22 rfl (W.heap.size + 2) 9 i0 (.string ⟨#[]⟩) 1 16 Tryd.underlying22 hi0 hz0 hz1 hz2 rfl (by decide) _ _ _ rfl HOW.out ⟨V3.heap.size + 1, 0, none⟩ 1 1 (strs [r.d]) rfl rfl HC.out (strs_one _) (by unfold maxLen; omega) (by omega) HAL.out.size ?_)) | fail)
    intro v' w8 ho2 hg2 _
    obtain ⟨A', c', rfl⟩ := owns_slice ho2
    have HG := HAL.out.grown hg2 ho2 (by rw [HA.out]) HLT.out
    have c3 : w8.cell? ⟨W.heap.size + 1, 3, none⟩ = some (.int .i64 (n : Nat)) := HG.cell 3
    have f3 : w8.frozen? ⟨W.heap.size + 1, 3, none⟩ = false := HG.frozen 3
    have HN := HG.set 3 (.int .i64 ((n + 1 : Nat) : Int)) HLT.out
    have e3 : (logV fr room g n).setIfInBounds 3 (.int .i64 ((n + 1 : Nat) : Int)) = logV fr room g (n + 1) := rfl
    rw [e3, show ((n + 1 : Nat) : Int) = (n : Int) + 1 by omega] at HN
    have hlen : (acc ++ [r.d]).length = n + 1 := by rw [List.length_append, HA.out]; rfl
    have HNN := Aside0.mk (And.intro hlen (And.intro HN hE2.out))
    clear ho2 hg2 HG HN hlen e3 HAL HC HOW hE2 HA HH Z r0 r1 r2 r3 b1 b2 b3 hi15 HI2 hone2 z15 ri
    go_wp2
    go_roundw
    case rel => exact ⟨acc ++ [r.d], A', n + 1, c', rfl, by omega, HNN⟩
    case measure => simp only [Sl.lenOf]; omega
end Go.Proofs.YtknbhgodhmcemaaDoor.Lg
namespace Go.Proofs.YtknbhgodhmcemaaDoor.Lg
set_option linter.unusedSimpArgs false
set_option linter.unusedVariables false
set_option maxRecDepth 100000
open Go.RowKit Go.Proofs.YtknbhgodhmcemaaDoor.Own Go.Proofs.YtknbhgodhmcemaaDoor.Cel Go.Proofs.YtknbhgodhmcemaaDoor.Dk
theorem append_where {P : Program} (w : World) (base : Nat) (t ty e : TypeId) (i : TypeInfo) (z : Value) (size bytes : Nat) (ht : P.underlying t = some (.slice e)) (hi : P.info? e = some i) (hz : i.zero = some z)
    (hsize : i.size = size) (hby : i.bytes = bytes) (hzs : z.cells.size = size) (v : Value) (n : Nat) (xs : List Value) (hown : w.ownsRow base e size v n xs)
    (a : Addr) (m c : Nat) (news : List Value) (hl : news.length = m * size) (hnews : ∀ j u, news[j]? = some u → w.cell? (a.add j) = some u) (h1 : ∀ u ∈ news, u.oneCell' = true) (hm : 0 < m)
    (h63 : n + m ≤ maxLen) (hbytes : (n + m) * bytes ≤ 140737488355328) {v' : Value} {w' : World} (hrun : (Builtin.append_ #[t, t] ty #[v, .slice (some a) m c]).run P w = .ok v' w') :
    ∀ q, v'.ownBlock = some q → v.ownBlock = some q ∨ w.heap.size ≤ q := by
  subst hsize
  subst hby
  have hsmall : n + m ≤ 9223372036854775807 := by simp only [maxLen] at h63; omega
  intro q hq
  have of : ∀ {x : Value} {W : World}, (Builtin.append_ #[t, t] ty #[v, .slice (some a) m c]).run P w = .ok x W → v' = x := fun h => by
    rw [hrun] at h
    injection h
  rcases hown.2 with ⟨rfl, rfl⟩ | ⟨g, cap, cur, rfl, hbg, hg, hnc, hcm, hcs, htake⟩
  · have hr := of (run_append_nil (P := P) w t ty e i z ht hi hz a m c news hl hnews (by omega) (by omega) (by have hb := hbytes; simp only [Nat.zero_add] at hb; omega))
    subst hr
    simp [Value.ownBlock] at hq
    exact .inr (by omega)
  · by_cases hroom : n + m ≤ cap
    · have hfit : n * i.size + news.length ≤ cur.size := by rw [hl, hcs, ← Nat.add_mul]; exact Nat.mul_le_mul_right _ hroom
      have hr := of (run_append_room (P := P) w t ty e i ht hi g n cap cur hg a m c news hl hnews h1 hroom hfit)
      subst hr
      exact .inl hq
    · have hr := of (run_append_grow (P := P) w t ty e i z ht hi hz ⟨g, 0, none⟩ n cap xs hown.1 (hown.cells (g := g) rfl) a m c news hl hnews (by omega) (by omega) (growslice_fits (by omega) hbytes))
      subst hr
      simp [Value.ownBlock] at hq
      exact .inr (by omega)
def RowS (A : Option Addr) (ss : List ByteArray) (V : World) : Prop := ∀ j (h : j < ss.length), ∃ b o, A = some ⟨b, o, none⟩ ∧ V.cell? ⟨b, o + j, none⟩ = some (.string (ss[j]'h))
theorem RowS.below {A : Option Addr} {ss : List ByteArray} {V V' : World} (h : RowS A ss V) (hb : Below V.heap.size V V') : RowS A ss V' := fun j hj => by
  obtain ⟨b, o, e, hc⟩ := h j hj
  exact ⟨b, o, e, (World.cell?_of_block (hb.block b (World.block_lt_of_cell? V _ hc))).trans hc⟩
theorem RowS.far {A : Option Addr} {ss : List ByteArray} {V V' : World} {B : Nat} (h : RowS A ss V) (hs : V.heap.size ≤ B) (hb : Below B V V') : RowS A ss V' := fun j hj => by
  obtain ⟨b, o, e, hc⟩ := h j hj
  have hlt : b < V.heap.size := World.block_lt_of_cell? V _ hc
  exact ⟨b, o, e, (World.cell?_of_block (hb.block b (by omega))).trans hc⟩
theorem RowS.take {A : Option Addr} {ss : List ByteArray} {V : World} (h : RowS A ss V) (n : Nat) : RowS A (ss.take n) V := fun j hj => by
  rw [List.length_take] at hj
  obtain ⟨b, o, e, hc⟩ := h j (by omega)
  exact ⟨b, o, e, hc.trans (by rw [List.getElem_take])⟩
theorem RowS.owns {V : World} {base n c : Nat} {A : Option Addr} {ss : List ByteArray} (h : V.ownsRow base 9 1 (.slice A n c) n (strs ss)) (hn : ss.length = n) : RowS A ss V := fun j hj => by
  rcases h.2 with ⟨e, h0⟩ | ⟨g, cap, cur, e, _⟩
  · omega
  · simp only [Value.slice.injEq] at e
    obtain ⟨rfl, _, rfl⟩ := e
    refine ⟨g, 0, rfl, ?_⟩
    have hc := h.cells (g := g) rfl j _ (strs_get ss j hj)
    rwa [Seg.addr_add] at hc
def DY (w : World) (p : Nat) (S : DS) (X : List (Nat × Obj)) (v : Value) (xs : List ByteArray) (V : World) : Prop :=
  ∃ F, DK w.heap.size p S F V ∧ Below w.heap.size w V ∧ (∀ x ∈ X, V.heap[x.1]? = some x.2 ∧ ¬ F x.1 ∧ v.ownBlock ≠ some x.1) ∧ V.ownsRow w.heap.size 9 1 v xs.length (strs xs) ∧ ∀ k, v.ownBlock = some k → ¬ F k
variable {w V V' : World} {p b : Nat} {t : TypeId} {old : Array Value} {S S' : DS} {X : List (Nat × Obj)} {v : Value} {xs : List ByteArray}
theorem DY.bel (h : DY w p S X v xs V) : Below w.heap.size w V := by obtain ⟨F, d, b, _⟩ := h; exact b
theorem DY.step (h : DY w p S X v xs V) (hb : Below V.heap.size V V') : DY w p S X v xs V' := by
  obtain ⟨F, d, b, hx, r, n⟩ := h
  exact ⟨F, d.below hb, b.trans (hb.mono b.size), fun x hm => ⟨keep (hx x hm).1 hb, (hx x hm).2⟩, owns_keep r hb, n⟩
theorem DY.did (h : DY w p S X v xs V) {f : FuncId} {args : Array Value} {Q : Ending → Prop} (hc : ∀ F, DK w.heap.size p S F V → Calls Tryd.prog f args V fun e V' => Q e ∧ Did w.heap.size p S' F V V') :
    Calls Tryd.prog f args V fun e V' => Q e ∧ DY w p S' X v xs V' := by
  have h0 := h
  obtain ⟨F, d, b, hx, r, n⟩ := h
  refine (hc F d).mono fun e V' ⟨q, hd⟩ => ⟨q, ?_⟩
  obtain ⟨F2, d2, o, f⟩ := hd
  refine ⟨F2, d2, b.trans (o.below (fun k hk => (d.lt hk).1) b.size), fun x hm => ?_, owns_block r (fun g e => o.block g (r.lt g e).2 (n g e)), fun k e hk => ?_⟩
  · obtain ⟨a1, a2, a3⟩ := hx x hm
    have hlt : x.1 < V.heap.size := (Array.getElem?_eq_some_iff.1 a1).1
    refine ⟨(o.block x.1 hlt a2).trans a1, fun hk => ?_, a3⟩
    rcases f x.1 hk with e | e
    · exact a2 e
    · omega
  · rcases f k hk with hk | hk
    · exact n k e hk
    · have := (r.lt k e).2
      omega
theorem DY.dk (h : DY w p S X v xs V) : ∃ F, DK w.heap.size p S F V := by obtain ⟨F, d, _⟩ := h; exact ⟨F, d⟩
theorem DY.at (h : DY w p S X v xs V) {b : Nat} {o : Obj} (hm : (b, o) ∈ X) : V.heap[b]? = some o := by obtain ⟨F, d, _, hx, _⟩ := h; exact (hx _ hm).1
theorem DY.sub (h : DY w p S X v xs V) {Y : List (Nat × Obj)} (hs : ∀ x ∈ Y, x ∈ X) : DY w p S Y v xs V := by
  obtain ⟨F, d, b, hx, r, n⟩ := h
  exact ⟨F, d, b, fun x hm => hx x (hs x hm), r, n⟩
theorem DY.add (h : DY w p S X v xs V) {b : Nat} {o : Obj} (hb : Below V.heap.size V V') (hn : V.heap.size ≤ b) (ho : V'.heap[b]? = some o) : DY w p S ((b, o) :: X) v xs V' := by
  have h2 := h.step hb
  obtain ⟨F, d, b0, hx, r, n⟩ := h
  obtain ⟨F', d', b', hx', r', n'⟩ := h2
  refine ⟨F, d.below hb, b', fun x hm => ?_, r', n⟩
  rcases List.mem_cons.1 hm with rfl | hm
  · exact ⟨ho, fun hk => by have := (d.lt hk).2; omega, fun e => by have := (r.lt b e).2; omega⟩
  · exact ⟨keep (hx x hm).1 hb, (hx x hm).2⟩
theorem DY.row (h : DY w p S ((b, .cells old t (0, 0)) :: X) v xs V) (hw : w.heap.size ≤ b) (cs : Array Value) (hY : ∀ x ∈ X, x.1 ≠ b) :
    DY w p S ((b, .cells cs t (0, 0)) :: X) v xs (V.setRow b cs) := by
  obtain ⟨F, d, b0, hx, r, n⟩ := h
  obtain ⟨a1, a2, a3⟩ := hx _ List.mem_cons_self
  refine ⟨F, d.keep (fun k hk => setRow_other V b k cs (fun e => a2 (e ▸ hk))), below_setRow b0 (g := b) hw cs, fun x hq => ?_, owns_block r (fun g e => setRow_other V b g cs (fun e2 => a3 (e2 ▸ e))), n⟩
  rcases List.mem_cons.1 hq with rfl | hq
  · exact ⟨setRow_heap V b old cs t (0, 0) a1, a2, a3⟩
  · obtain ⟨c1, c2, c3⟩ := hx x (List.mem_cons_of_mem _ hq)
    exact ⟨(setRow_other V b x.1 cs (hY x hq)).trans c1, c2, c3⟩
theorem DY.grown (h : DY w p S X v xs V) {v' : Value} {k : Nat} {s : ByteArray} (hg : V.grownBy V' v.ownBlock) (ho : V'.ownsRow w.heap.size 9 1 v' k (strs xs ++ strs [s])) (hk : k = xs.length + 1)
    (hf : ∀ q, v'.ownBlock = some q → v.ownBlock = some q ∨ V.heap.size ≤ q) : DY w p S X v' (xs ++ [s]) V' := by
  obtain ⟨F, d, b, hx, r, n⟩ := h
  subst hk
  have hlt : ∀ q, F q → q < V.heap.size := fun q hq => (d.lt hq).2
  refine ⟨F, d.keep (fun q hq => hg.block q (d.lt hq).2 (fun e => n q e.symm hq)), b.grown hg b.size (fun q e => (r.lt q e).1), fun x hm => ?_, by rw [List.length_append, strs_append]; exact ho, fun q e hq => ?_⟩
  · obtain ⟨a1, a2, a3⟩ := hx x hm
    have hl : x.1 < V.heap.size := (Array.getElem?_eq_some_iff.1 a1).1
    refine ⟨(hg.block x.1 hl (fun e => a3 e.symm)).trans a1, a2, fun e => ?_⟩
    rcases hf _ e with e | e
    · exact a3 e
    · omega
  · rcases hf q e with e | e
    · exact n q e hq
    · have := hlt q hq; omega
end Go.Proofs.YtknbhgodhmcemaaDoor.Lg
namespace Go.Proofs.YtknbhgodhmcemaaDoor.Lg
set_option linter.unusedSimpArgs false
set_option linter.unusedVariables false
set_option maxRecDepth 100000
open Go.RowKit Go.Proofs.YtknbhgodhmcemaaDoor.Own Go.Proofs.YtknbhgodhmcemaaDoor.Cel Go.Proofs.YtknbhgodhmcemaaDoor.Dk
theorem below_drewN0 {V W : World} {B : Nat} (h : Below B V W) (n : Nat) : Below B V (W.drewN n) := h.trans ⟨rfl, rfl, rfl, Nat.le_refl _, fun _ _ => rfl⟩
theorem str_ne {x y : ByteArray} (h : x ≠ y) : (x.toList == y.toList) = false := by
  rw [beq_eq_false_iff_ne, ByteArray.toList_eq, ByteArray.toList_eq]
  intro e
  exact h (ByteArray.ext (Array.toList_inj.1 e))
end Go.Proofs.YtknbhgodhmcemaaDoor.Lg
namespace Go.Proofs.YtknbhgodhmcemaaDoor.So
set_option linter.unusedSimpArgs false
set_option linter.unusedVariables false
open Go.Proofs.YtknbhgodhmcemaaDoor.Dk Go.Proofs.YtknbhgodhmcemaaDoor.Sl
def summedL (t : List UInt8) : List UInt8 := t ++ lb (sumN t) 4
theorem summedL_len (t : List UInt8) : (summedL t).length = t.length + 4 := by rw [summedL, List.length_append, lb_len]
def np (n : Nat) : Nat := (n + 109) / 110
def pdat (L : List UInt8) (i : Nat) : List UInt8 := (L.drop (110 * i)).take 110
def pk (n i : Nat) : Nat := if i + 1 = np n then 3 else 2
def psec (g : Nat) (L : List UInt8) (i : Nat) : ByteArray := ⟨(sector (pk L.length i) g i (pdat L i)).toArray⟩
theorem pk_lt (n i : Nat) : pk n i < 256 := by unfold pk; split <;> omega
theorem pdat_le (L : List UInt8) (i : Nat) : (pdat L i).length ≤ 110 := by rw [pdat, List.length_take]; omega
theorem pdat_len (L : List UInt8) (i : Nat) : (pdat L i).length = min 110 (L.length - 110 * i) := by rw [pdat, List.length_take, List.length_drop]
theorem psec_size (g : Nat) (L : List UInt8) (i : Nat) : (psec g L i).size = 128 := by
  show (sector (pk L.length i) g i (pdat L i)).toArray.size = 128
  rw [List.size_toArray]; exact sector_len _ _ _ _ (pdat_le L i)
theorem psec_open (g : Nat) (L : List UInt8) (i : Nat) (hg : g < 18446744073709551616) (hi : i < 4294967296) : openS (psec g L i) = (⟨pk L.length i, g, i, ⟨(pdat L i).toArray⟩⟩, 0) :=
  open_sector (pk L.length i) g i ⟨(pdat L i).toArray⟩ (pk_lt _ _) hg hi (by show (pdat L i).toArray.size ≤ 110; rw [List.size_toArray]; exact pdat_le L i)
theorem psec_close (g : Nat) (L : List UInt8) (i : Nat) : closeS (pk L.length i) g i ⟨(pdat L i).toArray⟩ = (psec g L i, 0) :=
  close_ok _ _ _ _ (by show (pdat L i).toArray.size ≤ 110; rw [List.size_toArray]; exact pdat_le L i)
def wholeS (l : List UInt8) (gen : Nat) : ByteArray × Nat × Bool :=
  if l.length < 4 then (⟨#[]⟩, 0, false) else if summedL (l.take (l.length - 4)) = l then (⟨(l.take (l.length - 4)).toArray⟩, gen, true) else (⟨#[]⟩, 0, false)
theorem wholeS_summed (t : List UInt8) (g : Nat) : wholeS (summedL t) g = (⟨t.toArray⟩, g, true) := by
  have e : (summedL t).take ((summedL t).length - 4) = t := by
    rw [summedL_len, Nat.add_sub_cancel, summedL, List.take_left]
  unfold wholeS
  rw [if_neg (by rw [summedL_len]; omega), e, if_pos rfl]
def badR (i next gen : Nat) (r : Rec) : Bool := decide (i ≠ next ∨ r.g ≠ gen ∨ r.i ≠ i ∨ (r.k ≠ 2 ∧ r.k ≠ 3) ∨ (r.k = 2 ∧ r.d.size ≠ 110) ∨ (0 < i ∧ r.d.size = 0))
def readGo (rd : List ByteArray) (fr : Nat) : Nat → Nat → Nat → Nat → List UInt8 → ByteArray × Nat × Bool
  | 0, _, _, _, _ => (⟨#[]⟩, 0, false)
  | n + 1, i, next, gen, out =>
    if (openS (rd.getD (fr + i) ByteArray.empty)).2 ≠ 0 then readGo rd fr n (i + 1) next gen out
    else if badR i next (if i = 0 then (openS (rd.getD (fr + i) ByteArray.empty)).1.g else gen) (openS (rd.getD (fr + i) ByteArray.empty)).1 then (⟨#[]⟩, 0, false)
    else if (openS (rd.getD (fr + i) ByteArray.empty)).1.k = 3 then wholeS (out ++ (openS (rd.getD (fr + i) ByteArray.empty)).1.d.data.toList) (if i = 0 then (openS (rd.getD (fr + i) ByteArray.empty)).1.g else gen)
    else readGo rd fr n (i + 1) (next + 1) (if i = 0 then (openS (rd.getD (fr + i) ByteArray.empty)).1.g else gen) (out ++ (openS (rd.getD (fr + i) ByteArray.empty)).1.d.data.toList)
def readS (rd : List ByteArray) (fr room : Nat) : ByteArray × Nat × Bool := readGo rd fr room 0 0 0 []
def newGo (rd : List ByteArray) (fr : Nat) : Nat → Nat → Nat → Nat
  | 0, _, most => most
  | n + 1, i, most =>
    if (openS (rd.getD (fr + i) ByteArray.empty)).2 ≠ 0 then newGo rd fr n (i + 1) most
    else newGo rd fr n (i + 1) (if (openS (rd.getD (fr + i) ByteArray.empty)).1.k = 2 ∨ (openS (rd.getD (fr + i) ByteArray.empty)).1.k = 3 then max most (openS (rd.getD (fr + i) ByteArray.empty)).1.g else most)
def newS (rd : List ByteArray) (fr room : Nat) : Nat := newGo rd fr room 0 0
theorem newGo_ge (rd : List ByteArray) (fr : Nat) : ∀ (n i most : Nat), most ≤ newGo rd fr n i most
  | 0, _, _ => Nat.le_refl _
  | n + 1, i, most => by
    rw [newGo]
    split
    · exact newGo_ge rd fr n _ _
    · refine Nat.le_trans ?_ (newGo_ge rd fr n _ _)
      split <;> omega
theorem newGo_all (rd : List ByteArray) (fr : Nat) : ∀ (n i most j : Nat), i ≤ j → j < i + n → (openS (rd.getD (fr + j) ByteArray.empty)).2 = 0 → ((openS (rd.getD (fr + j) ByteArray.empty)).1.k = 2 ∨ (openS (rd.getD (fr + j) ByteArray.empty)).1.k = 3) →
    (openS (rd.getD (fr + j) ByteArray.empty)).1.g ≤ newGo rd fr n i most
  | 0, i, most, j, h1, h2, _, _ => by omega
  | n + 1, i, most, j, h1, h2, h3, h4 => by
    rw [newGo]
    by_cases e : j = i
    · subst e
      rw [if_neg (fun x => x h3), if_pos h4]
      exact Nat.le_trans (Nat.le_max_right _ _) (newGo_ge rd fr n _ _)
    · split
      · exact newGo_all rd fr n (i + 1) most j (by omega) (by omega) h3 h4
      · exact newGo_all rd fr n (i + 1) _ j (by omega) (by omega) h3 h4
theorem readGo_gap (rd : List ByteArray) (fr : Nat) : ∀ (n i next gen : Nat) (out : List UInt8), next < i → readGo rd fr n i next gen out = (⟨#[]⟩, 0, false)
  | 0, _, _, _, _, _ => rfl
  | n + 1, i, next, gen, out, h => by
    rw [readGo]
    split
    · exact readGo_gap rd fr n (i + 1) next gen out (by omega)
    · rw [if_pos (by rw [badR]; exact decide_eq_true (.inl (by omega)))]
theorem readGo_mix (rd : List ByteArray) (fr g : Nat) (t : List UInt8) (hg : g < 18446744073709551616) (hk : np (summedL t).length ≤ 4294967295) :
    ∀ (n i gen : Nat), i < np (summedL t).length → (i = 0 → rd.getD (fr + i) ByteArray.empty = psec g (summedL t) i) → (0 < i → gen = g) →
    (∀ j, i ≤ j → j < i + n → j < np (summedL t).length → rd.getD (fr + j) ByteArray.empty = psec g (summedL t) j ∨ (openS (rd.getD (fr + j) ByteArray.empty)).2 ≠ 0 ∨ (openS (rd.getD (fr + j) ByteArray.empty)).1.g ≠ g) →
    (readGo rd fr n i i gen ((summedL t).take (110 * i)) = (⟨#[]⟩, 0, false) ∧ ((∀ j, i ≤ j → j < np (summedL t).length → rd.getD (fr + j) ByteArray.empty = psec g (summedL t) j) → i + n < np (summedL t).length)) ∨
    readGo rd fr n i i gen ((summedL t).take (110 * i)) = (⟨t.toArray⟩, g, true)
  | 0, i, gen, hi, h0, h1, H => .inl ⟨rfl, fun _ => by omega⟩
  | n + 1, i, gen, hi, h0, h1, H => by
    have hL := summedL_len t
    obtain ⟨L, hLL⟩ : ∃ L, summedL t = L := ⟨_, rfl⟩
    have hln : L.length = t.length + 4 := by rw [← hLL]; exact hL
    have hnp : 110 * i < L.length := by rw [hLL] at hi; unfold np at hi; omega
    by_cases e : rd.getD (fr + i) ByteArray.empty = psec g (summedL t) i
    · have ho := psec_open g (summedL t) i hg (by omega)
      rw [hLL] at ho e
      have hgen : (if i = 0 then g else gen) = g := by
        by_cases z : i = 0
        · rw [if_pos z]
        · rw [if_neg z]; exact h1 (by omega)
      have hsz : (⟨(pdat L i).toArray⟩ : ByteArray).size = (pdat L i).length := by show (pdat L i).toArray.size = _; rw [List.size_toArray]
      have hpl := pdat_len L i
      have hout : L.take (110 * i) ++ pdat L i = L.take (110 * (i + 1)) := by
        rw [pdat, show 110 * (i + 1) = 110 * i + 110 by omega, List.take_add]
      have hbad : badR i i g ⟨pk L.length i, g, i, ⟨(pdat L i).toArray⟩⟩ = false := by
        rw [badR]
        apply decide_eq_false
        rintro (x | x | x | x | x | x)
        · exact x rfl
        · exact x rfl
        · exact x rfl
        · simp only [pk] at x
          split at x
          · exact x.2 rfl
          · exact x.1 rfl
        · obtain ⟨x1, x2⟩ := x
          simp only [hsz] at x2
          simp only [pk] at x1
          split at x1
          · omega
          · rename_i hne
            rw [hLL] at hi
            unfold np at hne hi
            omega
        · obtain ⟨x1, x2⟩ := x
          simp only [hsz] at x2
          omega
      rw [readGo, e, ho]
      simp only [ne_eq, not_true_eq_false, if_false, hgen, hbad, Bool.false_eq_true]
      rw [hLL, hout]
      by_cases hlast : i + 1 = np L.length
      · refine .inr ?_
        have e3 : pk L.length i = 3 := by rw [pk, if_pos hlast]
        rw [e3, if_pos rfl, List.take_of_length_le (by unfold np at hlast; omega), ← hLL, wholeS_summed]
      · have e3 : pk L.length i = 2 := by rw [pk, if_neg hlast]
        rw [e3, if_neg (by decide)]
        rw [hLL] at hi
        rcases readGo_mix rd fr g t hg hk n (i + 1) g (by rw [hLL]; omega) (fun z => by omega) (fun _ => rfl) (fun j j1 j2 j3 => H j (by omega) (by omega) j3) with ⟨r1, r2⟩ | r
        · rw [hLL] at r1 r2
          exact .inl ⟨r1, fun A => by
            have := r2 (fun j j1 j2 => A j (by omega) j2)
            omega⟩
        · rw [hLL] at r
          exact .inr r
    · refine .inl ⟨?_, fun A => absurd (A i (Nat.le_refl _) hi) e⟩
      have hi0 : 0 < i := by
        rcases Nat.eq_zero_or_pos i with z | z
        · exact absurd (h0 z) e
        · exact z
      have hge := h1 hi0
      rw [readGo]
      by_cases ho : (openS (rd.getD (fr + i) ByteArray.empty)).2 ≠ 0
      · rw [if_pos ho]; exact readGo_gap rd fr n (i + 1) i gen _ (by omega)
      · rw [if_neg ho, if_pos]
        rcases H i (Nat.le_refl _) (by omega) hi with x | x | x
        · exact absurd x e
        · exact absurd x ho
        · rw [badR]
          exact decide_eq_true (.inr (.inl (by rw [if_neg (by omega), hge]; exact x)))
theorem np_pos (t : List UInt8) : 0 < np (summedL t).length := by rw [summedL_len]; unfold np; omega
theorem readS_whole (rd : List ByteArray) (fr room g : Nat) (t : List UInt8) (hg : g < 18446744073709551616) (hk : np (summedL t).length ≤ 4294967295) (hr : np (summedL t).length ≤ room)
    (H : ∀ j, j < np (summedL t).length → rd.getD (fr + j) ByteArray.empty = psec g (summedL t) j) :
    readS rd fr room = (⟨t.toArray⟩, g, true) := by
  rcases readGo_mix rd fr g t hg hk room 0 0 (np_pos t) (fun _ => H 0 (np_pos t)) (fun h => absurd h (by omega)) (fun j _ _ j3 => .inl (H j j3)) with ⟨_, r⟩ | r
  · have := r (fun j _ j2 => H j j2)
    omega
  · rw [Nat.mul_zero, List.take_zero] at r
    exact r
theorem readS_mixed (rd : List ByteArray) (fr room g : Nat) (t : List UInt8) (hg : g < 18446744073709551616) (hk : np (summedL t).length ≤ 4294967295)
    (H0 : rd.getD fr ByteArray.empty = psec g (summedL t) 0)
    (H : ∀ j, j < np (summedL t).length → rd.getD (fr + j) ByteArray.empty = psec g (summedL t) j ∨ (openS (rd.getD (fr + j) ByteArray.empty)).2 ≠ 0 ∨ (openS (rd.getD (fr + j) ByteArray.empty)).1.g ≠ g) :
    readS rd fr room = (⟨#[]⟩, 0, false) ∨ readS rd fr room = (⟨t.toArray⟩, g, true) := by
  rcases readGo_mix rd fr g t hg hk room 0 0 (np_pos t) (fun _ => H0) (fun h => absurd h (by omega)) (fun j _ _ j3 => H j j3) with ⟨r, _⟩ | r
  · rw [Nat.mul_zero, List.take_zero] at r
    exact .inl r
  · rw [Nat.mul_zero, List.take_zero] at r
    exact .inr r
end Go.Proofs.YtknbhgodhmcemaaDoor.So
namespace Go.Proofs.YtknbhgodhmcemaaDoor.So
set_option linter.unusedSimpArgs false
set_option linter.unusedVariables false
open Go.Proofs.YtknbhgodhmcemaaDoor.Dk Go.Proofs.YtknbhgodhmcemaaDoor.Sl
open Go.Proofs.YtknbhgodhmcemaaDoor.Lg (put_cases fails_armed)
def wrS (fr g : Nat) (L : List UInt8) : Nat → Nat → DS → DS × Int
  | 0, _, S => (S, 0)
  | n + 1, i, S => if (S.put ((fr + i : Nat) : Int) (psec g L i)).2 ≠ 0 then S.put ((fr + i : Nat) : Int) (psec g L i) else wrS fr g L n (i + 1) (S.put ((fr + i : Nat) : Int) (psec g L i)).1
def ws (fr g : Nat) (L : List UInt8) (i m : Nat) : List Wt := (List.range' i m).map (fun j => (fr + j, psec g L j))
theorem ws_succ (fr g : Nat) (L : List UInt8) (i m : Nat) : ws fr g L i (m + 1) = (fr + i, psec g L i) :: ws fr g L (i + 1) m := by
  unfold ws; rw [List.range'_succ]; rfl
theorem ws_mem {fr g : Nat} {L : List UInt8} {i m : Nat} {x : Wt} (h : x ∈ ws fr g L i m) : ∃ j, i ≤ j ∧ j < i + m ∧ x = (fr + j, psec g L j) := by
  unfold ws at h
  obtain ⟨j, hj, rfl⟩ := List.mem_map.1 h
  rw [List.mem_range'_1] at hj
  exact ⟨j, hj.1, hj.2, rfl⟩
structure Wrote (fr g : Nat) (L : List UInt8) (i n : Nat) (S : DS) (R : DS × Int) (m : Nat) : Prop where
  le : m ≤ n
  lasts : R.1.lasts = S.lasts
  waits : R.1.waits = S.waits ++ ws fr g L i m
  all : R.2 = 0 → m = n
  calm : S.armed ≤ 0 → R.2 = 0 ∧ R.1.armed = S.armed
  arm : R.1.armed ≤ S.armed
  ops : R.1.ops = S.ops + (m : Int)
theorem wrS_spec (fr g : Nat) (L : List UInt8) : ∀ (n i : Nat) (S : DS), fr + i + n ≤ S.lasts.length → ∃ m, Wrote fr g L i n S (wrS fr g L n i S) m
  | 0, i, S, h => ⟨0, Nat.le_refl _, rfl, by rw [wrS]; simp [ws], fun _ => rfl, fun _ => ⟨rfl, rfl⟩, Int.le_refl _, by rw [wrS]; simp⟩
  | n + 1, i, S, h => by
    obtain ⟨a1, a2⟩ := fails_armed S
    obtain ⟨l1, l2, l3⟩ := fails_lasts S
    rw [wrS]
    rcases put_cases S (fr + i) (psec g L i) (by omega) (psec_size g L i) with ⟨e, hf⟩ | ⟨e, hf⟩
    · rw [e, if_pos (show (7 : Int) ≠ 0 by decide)]
      refine ⟨0, by omega, l1, by rw [l2]; simp [ws], fun h => absurd h (show ¬ (7 : Int) = 0 by decide), fun h => ?_, a2, by rw [l3]; simp⟩
      rw [a1 h] at hf
      cases hf
    · rw [e, if_neg (fun x => x rfl)]
      obtain ⟨m, w⟩ := wrS_spec fr g L n (i + 1) { S.fails.1 with waits := S.waits ++ [(fr + i, psec g L i)], ops := S.ops + 1 } (by show fr + (i + 1) + n ≤ S.fails.1.lasts.length; rw [l1]; omega)
      refine ⟨m + 1, by have := w.le; omega, w.lasts.trans l1, ?_, fun h => by rw [w.all h], fun h => ?_, Int.le_trans w.arm a2, ?_⟩
      · rw [w.waits, ws_succ]
        show S.waits ++ [(fr + i, psec g L i)] ++ _ = _
        rw [List.append_assoc]; rfl
      · have e2 : S.fails.1.armed = S.armed := by rw [a1 h]
        obtain ⟨q1, q2⟩ := w.calm (by show S.fails.1.armed ≤ 0; rw [e2]; exact h)
        exact ⟨q1, q2.trans e2⟩
      · rw [w.ops]
        show S.ops + 1 + (m : Int) = _
        omega
theorem Wrote.ok {fr g : Nat} {L : List UInt8} {i n m : Nat} {S : DS} {R : DS × Int} (w : Wrote fr g L i n S R m) (h : S.ok) (hn : fr + i + n ≤ S.lasts.length) : R.1.ok := by
  intro x hx
  rw [w.waits] at hx
  rw [w.lasts]
  rcases List.mem_append.1 hx with hx | hx
  · exact h x hx
  · obtain ⟨j, j1, j2, rfl⟩ := ws_mem hx
    have := w.le
    show fr + j < _
    omega
theorem applyW_ws (fr g : Nat) (L : List UInt8) (k : Nat) (e : ByteArray) : ∀ (m i : Nat) (l : List ByteArray), fr + i + m ≤ l.length →
    (applyW l (ws fr g L i m)).getD k e = if fr + i ≤ k ∧ k < fr + i + m then psec g L (k - fr) else l.getD k e
  | 0, i, l, h => by rw [if_neg (by omega)]; simp [ws, applyW]
  | m + 1, i, l, h => by
    rw [ws_succ, applyW, applyW_ws fr g L k e m (i + 1) _ (by rw [List.length_set]; omega)]
    by_cases h1 : fr + (i + 1) ≤ k ∧ k < fr + (i + 1) + m
    · rw [if_pos h1, if_pos (by omega)]
    · rw [if_neg h1]
      by_cases h2 : k = fr + i
      · subst h2
        rw [if_pos (by omega), List.getD_eq_getElem?_getD, List.getElem?_set_self (by omega), Nat.add_sub_cancel_left]; rfl
      · rw [if_neg (by omega), List.getD_eq_getElem?_getD, List.getElem?_set_ne (fun x => h2 x.symm), ← List.getD_eq_getElem?_getD]
end Go.Proofs.YtknbhgodhmcemaaDoor.So
namespace Go.Proofs.YtknbhgodhmcemaaDoor.So
set_option linter.unusedSimpArgs false
set_option linter.unusedVariables false
set_option maxRecDepth 100000
open Go.RowKit Go.Proofs.YtknbhgodhmcemaaDoor.Own Go.Proofs.YtknbhgodhmcemaaDoor.Cel Go.Proofs.YtknbhgodhmcemaaDoor.Dk
open Go.Proofs.YtknbhgodhmcemaaDoor.Sl (sum_calls sumN sumN_lt lb)
open Go.Proofs.YtknbhgodhmcemaaDoor.Lg (below_drewN0 str_ne)
variable {B p : Nat} {S : DS} {F : Nat → Prop} {W : World}
set_option maxHeartbeats 1000000 in
theorem may_calls (h : DK B p S F W) (fr room : Nat) (hr : 1 ≤ room) (hl : fr + room ≤ S.lasts.length) (hN : S.lasts.length ≤ 1000000) :
    Calls Tryd.prog 50 #[.pointer (some ⟨p, 0, none⟩), .int .i64 (fr : Nat), .int .i64 (room : Nat)] W fun e W' => e = .returned (.bool true) ∧ W = W' := by
  have KS := Aside0.mk (size_calls h)
  obtain ⟨n, hn⟩ : ∃ n, S.lasts.length = n := ⟨_, rfl⟩
  rw [hn] at KS hl hN
  have d1 : (0 : Int) ≤ (fr : Int) := by omega
  have d2 : (1 : Int) ≤ (room : Int) := by omega
  have d3 : (fr : Int) < (n : Int) := by omega
  have d4 : (room : Int) ≤ (n : Int) - (fr : Int) := by omega
  clear h hn
  go_enter Tryd.func50, Tryd.ntmps50
  go_wp2_with fail
  refine KS.out.mono ?_
  rintro e w1 ⟨rfl, rfl⟩
  go_wp2_with fail
  refine KS.out.mono ?_
  rintro e w1 ⟨rfl, rfl⟩
  go_wp2
  go_ret
  exact ⟨rfl, rfl⟩
set_option maxHeartbeats 1000000 in
theorem summed_calls (s : ByteArray) (w : World) (hs : s.size ≤ 1000000) :
    Calls Tryd.prog 51 #[.string s] w fun e w' => e = .returned (.string ⟨(summedL s.data.toList).toArray⟩) ∧ Below w.heap.size w w' := by
  have KS := Aside0.mk (fun V => sum_calls s V (by omega))
  go_enter Tryd.func51, Tryd.ntmps51
  go_wp2_with fail
  refine (KS.out _).mono ?_
  rintro e w' ⟨rfl, rfl⟩
  have hx := sumN_lt s.data.toList
  obtain ⟨x, hxe⟩ : ∃ x, sumN s.data.toList = x := ⟨_, rfl⟩
  have HX := Aside0.mk hxe
  rw [hxe] at hx ⊢
  clear KS hxe
  have hc : ∀ j v, [Value.int .u8 ((x : Int) % 256), .int .u8 ((x : Int) / 256 % 256), .int .u8 ((x : Int) / 65536 % 256), .int .u8 ((x : Int) / 16777216)][j]? = some v → (w.alloc (.cells #[.int .u8 ((x : Int) % 256), .int .u8 ((x : Int) / 256 % 256), .int .u8 ((x : Int) / 65536 % 256), .int .u8 ((x : Int) / 16777216)] 5)).cell? ⟨w.heap.size, j, none⟩ = some v := fun j v hv =>
    (cell_of_row _ w.heap.size j _ _ _ (heap_alloc_new w _)).trans (by simpa using hv)
  have b0 : (x : Int) % 256 = (((UInt8.ofNat x).toNat : Nat) : Int) := by rw [UInt8.toNat_ofNat']; omega
  have b1 : (x : Int) / 256 % 256 = (((UInt8.ofNat (x / 256)).toNat : Nat) : Int) := by rw [UInt8.toNat_ofNat']; omega
  have b2 : (x : Int) / 65536 % 256 = (((UInt8.ofNat (x / 65536)).toNat : Nat) : Int) := by rw [UInt8.toNat_ofNat']; omega
  have b3 : (x : Int) / 16777216 = (((UInt8.ofNat (x / 16777216)).toNat : Nat) : Int) := by rw [UInt8.toNat_ofNat']; omega
  have hlb : lb x 4 = [UInt8.ofNat x, UInt8.ofNat (x / 256), UInt8.ofNat (x / 65536), UInt8.ofNat (x / 16777216)] := by simp [lb]
  have hstr := run_convert_bytes_back (P := Tryd.prog) (w.alloc (.cells #[.int .u8 ((x : Int) % 256), .int .u8 ((x : Int) / 256 % 256), .int .u8 ((x : Int) / 65536 % 256), .int .u8 ((x : Int) / 16777216)] 5)) 103 9 5 ⟨w.heap.size, 0, none⟩ 4 (lb x 4) rfl rfl rfl (fun j hj => by
    rw [Seg.addr_add, Nat.zero_add]
    have hj4 : j < 4 := by rw [Sl.lb_len] at hj; exact hj
    simp only [hlb]
    match j, hj4 with
    | 0, _ => rw [hc 0 _ rfl, b0]; rfl
    | 1, _ => rw [hc 1 _ rfl, b1]; rfl
    | 2, _ => rw [hc 2 _ rfl, b2]; rfl
    | 3, _ => rw [hc 3 _ rfl, b3]; rfl)
  rw [Sl.lb_len] at hstr
  have HS := Aside0.mk (show (⟨(summedL s.data.toList).toArray⟩ : ByteArray) = s ++ ⟨(lb x 4).toArray⟩ by
    rw [summedL, HX.out]
    apply ByteArray.ext
    simp [ByteArray.data_append])
  have hcat : s.size + (lb x 4).length ≤ 9223372036854775807 := by rw [Sl.lb_len]; omega
  clear hc b0 b1 b2 b3 hlb HX
  go_wp2_with fail
  go_ret
  exact ⟨by rw [HS.out]; rfl, (Below.refl _ _).alloc (Nat.le_refl _) _⟩
theorem wholeS_short {l : List UInt8} {g : Nat} (h : l.length < 4) : wholeS l g = (⟨#[]⟩, 0, false) := by unfold wholeS; rw [if_pos h]
theorem wholeS_bad {l : List UInt8} {g : Nat} (h : ¬ l.length < 4) (h2 : summedL (l.take (l.length - 4)) ≠ l) : wholeS l g = (⟨#[]⟩, 0, false) := by unfold wholeS; rw [if_neg h, if_neg h2]
theorem wholeS_ok {l : List UInt8} {g : Nat} (h : ¬ l.length < 4) (h2 : summedL (l.take (l.length - 4)) = l) : wholeS l g = (⟨(l.take (l.length - 4)).toArray⟩, g, true) := by unfold wholeS; rw [if_neg h, if_pos h2]
set_option maxHeartbeats 1000000 in
theorem whole_calls (s : ByteArray) (g : Nat) (w : World) (hs : s.size ≤ 1000000) :
    Calls Tryd.prog 56 #[.string s, .int .u64 (g : Nat)] w fun e w' => e = .returned (.tuple #[.string (wholeS s.data.toList g).1, .int .u64 ((wholeS s.data.toList g).2.1 : Nat), .bool (wholeS s.data.toList g).2.2]) ∧ Below w.heap.size w w' := by
  have hl : s.data.toList.length = s.size := by rw [Array.length_toList]; rfl
  by_cases h4 : s.size < 4
  · rw [wholeS_short (by rw [hl]; exact h4)]
    have d1 : (s.size : Int) - 4 < 0 := by omega
    go_enter Tryd.func56, Tryd.ntmps56
    go_wp2
    go_ret3
    exact ⟨rfl, Below.refl _ _⟩
  obtain ⟨n, hn⟩ : ∃ n, s.size - 4 = n := ⟨_, rfl⟩
  have hsz : s.size = n + 4 := by omega
  have d1 : ((s.size : Int) - 4) = (n : Int) := by omega
  have d2 : decide ((n : Int) < 0) = false := decide_eq_false (by omega)
  have d3 : (n : Int) ≤ (s.size : Int) := by omega
  have hte : (s.extract 0 n).data.toList = s.data.toList.take (s.data.toList.length - 4) := by rw [Sl.ext_toList, List.drop_zero, hl, hn]
  have KS := Aside0.mk (fun V => summed_calls (s.extract 0 n) V (by rw [ByteArray.size_extract]; omega))
  rw [hte] at KS
  by_cases hq : summedL (s.data.toList.take (s.data.toList.length - 4)) = s.data.toList
  · rw [wholeS_ok (by rw [hl]; exact h4) hq]
    rw [hq] at KS
    have HE := Aside0.mk (show (⟨(s.data.toList.take (s.data.toList.length - 4)).toArray⟩ : ByteArray) = s.extract 0 n by rw [← hte])
    rw [HE.out]
    clear hl h4 hn hte hq HE
    go_enter Tryd.func56, Tryd.ntmps56
    go_wp2_with fail
    refine (KS.out _).mono ?_
    rintro e w1 ⟨rfl, hb⟩
    have HB := Aside0.mk hb
    clear hb KS
    go_wp2
    go_ret3
    exact ⟨rfl, HB.out⟩
  · rw [wholeS_bad (by rw [hl]; exact h4) hq]
    have ene : ((⟨(summedL (s.data.toList.take (s.data.toList.length - 4))).toArray⟩ : ByteArray).toList == s.toList) = false := str_ne (fun e => hq (congrArg (fun z : ByteArray => z.data.toList) e))
    obtain ⟨T, hT⟩ : ∃ T, (⟨(summedL (s.data.toList.take (s.data.toList.length - 4))).toArray⟩ : ByteArray) = T := ⟨_, rfl⟩
    rw [hT] at KS ene
    clear hl h4 hn hte hq hT
    go_enter Tryd.func56, Tryd.ntmps56
    go_wp2_with fail
    refine (KS.out _).mono ?_
    rintro e w1 ⟨rfl, hb⟩
    have HB := Aside0.mk hb
    clear hb KS
    go_wp2
    go_ret3
    exact ⟨rfl, HB.out⟩
end Go.Proofs.YtknbhgodhmcemaaDoor.So
namespace Go.Proofs.YtknbhgodhmcemaaDoor.Lg
set_option linter.unusedSimpArgs false
set_option linter.unusedVariables false
open Go.Proofs.YtknbhgodhmcemaaDoor.Dk
structure Sm (S : DS) (n k : Nat) : Prop where
  arm : S.armed ≤ 1000000
  waits : S.waits.length ≤ n
  ops0 : 0 ≤ S.ops
  ops : S.ops ≤ (k : Int)
theorem sync_cases (S : DS) : (S.sync = (S.fails.1, 7) ∧ S.fails.2 = true) ∨ (S.sync = ({ S.fails.1.crash (fun _ => true) with ops := S.ops + 1 }, 0) ∧ S.fails.2 = false) := by
  unfold DS.sync
  cases h : S.fails.2 with
  | true => exact .inl ⟨if_pos rfl, rfl⟩
  | false => exact .inr ⟨if_neg (by decide), rfl⟩
def Full (S : DS) : Prop := (∀ s ∈ S.lasts, s.size = 128) ∧ ∀ x ∈ S.waits, x.2.size = 128
theorem applyW_full : ∀ (ws : List Wt) (l : List ByteArray), (∀ s ∈ l, s.size = 128) → (∀ x ∈ ws, x.2.size = 128) → ∀ s ∈ applyW l ws, s.size = 128
  | [], l, h, _ => h
  | x :: r, l, h, hw => by
    rw [applyW]
    refine applyW_full r _ (fun s hs => ?_) (fun y hy => hw y (List.mem_cons_of_mem _ hy))
    rcases List.mem_or_eq_of_mem_set hs with hs | rfl
    · exact h s hs
    · exact hw x List.mem_cons_self
theorem Full.read {S : DS} (h : Full S) : ∀ s ∈ S.read, s.size = 128 := applyW_full _ _ h.1 h.2
theorem Full.crash {S : DS} (h : Full S) (kp : Nat → Bool) : Full (S.crash kp) :=
  ⟨applyW_full _ _ h.1 (fun x hx => h.2 x (keptW_sub kp 0 S.waits x hx)), fun x (hx : x ∈ ([] : List Wt)) => absurd hx (by simp)⟩
theorem Full.arm {S : DS} (h : Full S) (a : Int) : Full { S with armed := a } := h
theorem Full.fresh (N : Nat) (a o : Int) : Full ⟨List.replicate N (sect 0), [], a, o⟩ :=
  ⟨fun s hs => by rw [List.eq_of_mem_replicate hs, sect_size], fun x (hx : x ∈ ([] : List Wt)) => absurd hx (by simp)⟩
theorem crash_len (S : DS) (kp : Nat → Bool) : (S.crash kp).lasts.length = S.lasts.length := applyW_len _ _
end Go.Proofs.YtknbhgodhmcemaaDoor.Lg
namespace Go.Proofs.YtknbhgodhmcemaaDoor.Lg
set_option linter.unusedSimpArgs false
set_option linter.unusedVariables false
set_option maxRecDepth 100000
open Go.RowKit Go.Proofs.YtknbhgodhmcemaaDoor.Own Go.Proofs.YtknbhgodhmcemaaDoor.Cel Go.Proofs.YtknbhgodhmcemaaDoor.Dk
theorem DY.start {w V : World} {p : Nat} {S : DS} {F : Nat → Prop} (d : DK w.heap.size p S F V) (b : Below w.heap.size w V) : DY w p S [] (.slice none 0 0) [] V :=
  ⟨F, d, b, fun x hx => absurd hx (by simp), World.ownsRow_nil _ _ _ _, fun k e => absurd e (by simp [Value.ownBlock])⟩
theorem DY.replay {w V : World} {p : Nat} {S : DS} {X : List (Nat × Obj)} {v : Value} {xs : List ByteArray} (h : DY w p S X v xs V) (fr room g : Nat) (hr : 1 ≤ room) (hl : fr + room ≤ S.lasts.length) (hN : S.lasts.length ≤ 1000000) (hg : g < 18446744073709551616) (hsz : ∀ j, (S.read.getD j ByteArray.empty).size ≤ 1000) :
    Calls Tryd.prog 11 #[.pointer (some ⟨p, 0, none⟩), .int .i64 (fr : Nat), .int .i64 (room : Nat), .int .u64 (g : Nat)] V fun e V' =>
      ∃ u, e = .returned (.tuple #[.agg (logV fr room g (repl S.read fr g room 0).length), u, .int .i64 0]) ∧ V'.ownsRow V.heap.size 9 1 u (repl S.read fr g room 0).length (strs (repl S.read fr g room 0)) ∧ Below V.heap.size V V' := by
  obtain ⟨F, d, _⟩ := h
  exact replay_calls d fr room g hr hl hN hg hsz
theorem DY.append {w V : World} {p : Nat} {S : DS} {X : List (Nat × Obj)} {v : Value} {xs : List ByteArray} (h : DY w p S X v xs V) (fr room g nx : Nat) (d : ByteArray) (hr : 1 ≤ room) (hl : fr + room ≤ S.lasts.length) (hN : S.lasts.length ≤ 1000000) (hnx : nx ≤ room) (hg : g < 18446744073709551616)
    (hok : S.ok) (ha : S.armed ≤ 9223372036854775807) (hn : S.waits.length ≤ 999999) (ho0 : 0 ≤ S.ops) (ho : S.ops ≤ 4611686018427387903) :
    Calls Tryd.prog 13 #[.agg (logV fr room g nx), .pointer (some ⟨p, 0, none⟩), .string d] V fun e V' =>
      e = .returned (.tuple #[.agg (logV fr room g (appS S fr room g nx d).2.1), .int .i64 (appS S fr room g nx d).2.2]) ∧ DY w p (appS S fr room g nx d).1 X v xs V' :=
  h.did (Q := fun e => e = .returned (.tuple #[.agg (logV fr room g (appS S fr room g nx d).2.1), .int .i64 (appS S fr room g nx d).2.2])) (fun F hd => append_calls hd fr room g nx d hr hl hN hnx hg hok ha hn ho0 ho)
theorem box_new {V : World} (zc cs : Array Value) (t : TypeId) : Below V.heap.size V ((V.alloc (.cells zc t)).setRow V.heap.size cs) ∧ ((V.alloc (.cells zc t)).setRow V.heap.size cs).heap[V.heap.size]? = some (.cells cs t (0, 0)) ∧ (V.alloc (.cells zc t)).heap[V.heap.size]? = some (.cells zc t (0, 0)) :=
  ⟨below_setRow ((Below.refl V.heap.size V).alloc (Nat.le_refl _) (.cells zc t)) (g := V.heap.size) (Nat.le_refl _) cs, setRow_heap _ _ _ cs t (0, 0) (heap_alloc_new V _), heap_alloc_new V _⟩
def sa : ByteArray := ⟨#[97]⟩
def sb : ByteArray := ⟨#[98]⟩
def D4 : DS := ⟨List.replicate 4 (sect 0), [], 0, 0⟩
def D4a : DS := ⟨(List.replicate 4 (sect 0)).set 1 (sec 7 0 sa), [], 0, 2⟩
def D4b : DS := ⟨((List.replicate 4 (sect 0)).set 1 (sec 7 0 sa)).set 2 (sec 7 1 sb), [], 0, 4⟩
theorem app_a : appS D4 1 3 7 0 sa = (D4a, 1, 0) := by
  have h1 : (D4.put ((1 + 0 : Nat) : Int) (sec 7 0 sa)) = (⟨List.replicate 4 (sect 0), [(1, sec 7 0 sa)], 0, 1⟩, 0) := put_ok ⟨by decide, by decide⟩ (sec_size 7 0 sa (by decide)) rfl
  unfold appS
  rw [if_neg (by decide), if_neg (by decide), h1, if_neg (by simp)]
  rfl
theorem app_b : appS D4a 1 3 7 1 sb = (D4b, 2, 0) := by
  have h1 : (D4a.put ((1 + 1 : Nat) : Int) (sec 7 1 sb)) = (⟨(List.replicate 4 (sect 0)).set 1 (sec 7 0 sa), [(2, sec 7 1 sb)], 0, 3⟩, 0) := put_ok ⟨by decide, by show ((1 + 1 : Nat) : Int) < (((List.replicate 4 (sect 0)).set 1 (sec 7 0 sa)).length : Int); rw [List.length_set, List.length_replicate]; decide⟩ (sec_size 7 1 sb (by decide)) rfl
  unfold appS
  rw [if_neg (by decide), if_neg (by decide), h1, if_neg (by simp)]
  rfl
theorem rep_0 : repl D4.read 1 7 3 0 = [] := by
  have e : D4.read.getD (1 + 0) ByteArray.empty = sect 0 := rfl
  rw [repl, e, dead_rec (dead_blank 7)]; rfl
theorem rep_2 : repl D4b.read 1 7 3 0 = [sa, sb] := by
  have e0 : D4b.read.getD (1 + 0) ByteArray.empty = sec 7 0 sa := rfl
  have e1 : D4b.read.getD (1 + (0 + 1)) ByteArray.empty = sec 7 1 sb := rfl
  have e2 : D4b.read.getD (1 + (0 + 1 + 1)) ByteArray.empty = sect 0 := rfl
  rw [repl, e0, sec_rec 7 0 sa (by decide) (by decide) (by decide), if_pos rfl, sec_open 7 0 sa (by decide) (by decide) (by decide), repl, e1, sec_rec 7 (0 + 1) sb (by decide) (by decide) (by decide), if_pos rfl, sec_open 7 1 sb (by decide) (by decide) (by decide), repl, e2, dead_rec (dead_blank 7)]
  rfl
theorem getD_size (l : List ByteArray) (k : Nat) (h : ∀ s ∈ l, s.size ≤ k) (j : Nat) : (l.getD j ByteArray.empty).size ≤ k := by
  rw [List.getD_eq_getElem?_getD]
  by_cases hj : j < l.length
  · rw [List.getElem?_eq_getElem hj]; exact h _ (List.getElem_mem hj)
  · rw [List.getElem?_eq_none (by omega)]; exact Nat.zero_le _
set_option maxHeartbeats 4000000 in
theorem awake14_calls (w : World) : Calls Tryd.prog 9 #[] w fun e w' => e = .returned (.bool true) ∧ Below w.heap.size w w' := by
  have KN := Aside0.mk (new_good 4 w (by omega) (by omega))
  rw [show ((4 : Nat) : Int) = 4 by rfl] at KN
  have hz : ∀ j, (D4.read.getD j ByteArray.empty).size ≤ 1000 := getD_size _ 1000 (fun s hs => by
    have : s = sect 0 := List.eq_of_mem_replicate (show s ∈ List.replicate 4 (sect 0) from hs)
    rw [this, sect_size]; omega)
  have hz2 : ∀ j, (D4b.read.getD j ByteArray.empty).size ≤ 1000 := getD_size _ 1000 (fun s hs => by
    have hs2 : s ∈ [sect 0, sec 7 0 sa, sec 7 1 sb, sect 0] := hs
    simp only [List.mem_cons, List.not_mem_nil, or_false] at hs2
    rcases hs2 with rfl | rfl | rfl | rfl
    · rw [sect_size]; omega
    · rw [sec_size 7 0 sa (by decide)]; omega
    · rw [sec_size 7 1 sb (by decide)]; omega
    · rw [sect_size]; omega)
  have HZ := Aside0.mk hz
  have HZ2 := Aside0.mk hz2
  have RE := Aside0.mk rep_0
  have RE2 := Aside0.mk rep_2
  have AA := Aside0.mk app_a
  have AB := Aside0.mk app_b
  clear hz hz2
  have i0 : (Tryd.prog.info? 31).map (·.size) = some (logV 1 3 7 0).size := infoL
  have i1 : (Tryd.prog.info? 31).map (·.size) = some (logV 1 3 7 1).size := infoL
  have i2 : (Tryd.prog.info? 31).map (·.size) = some (logV 1 3 7 2).size := infoL
  have q0 := logV_one 1 3 7 0
  have q1 := logV_one 1 3 7 1
  have q2 := logV_one 1 3 7 2
  go_enter Tryd.func9, Tryd.ntmps9
  go_wp2_with fail
  refine KN.out.mono ?_
  rintro x w1 ⟨p, F, rfl, d, b⟩
  have H := Aside0.mk (show DY w p D4 [] (.slice none 0 0) [] w1 from DY.start d b)
  clear d b KN
  go_wp2_with fail
  refine (H.out.replay 1 3 7 (by decide) (by decide) (by decide) (by decide) HZ.out).mono ?_
  rw [RE.out, List.length_nil]
  rintro x V1 ⟨u1, rfl, hrow, hb⟩
  replace H := Aside0.mk (H.out.step hb)
  clear hb hrow
  obtain ⟨hb, h3, h3z⟩ := box_new (V := V1) zLog (logV 1 3 7 0) 31
  have HB := Aside0.mk (H.out.add hb (Nat.le_refl _) h3)
  clear hb
  go_wp2_with (first | refine wpList_store_row rfl 31 _ _ rfl V1.heap.size (logV 1 3 7 0) rfl rfl 31 _ h3z i0 rfl q0 ?_ | refine wpList_load_row rfl 31 _ rfl V1.heap.size rfl 31 _ (0, 0) _ h3 Tryd.underlying31 rfl i0 ?_ | fail)
  have KA := HB.out.append 1 3 7 0 sa (by decide) (by decide) (by decide) (by decide) (by decide) (fun x hx => absurd hx (by simp [D4])) (by decide) (by decide) (by decide) (by decide)
  rw [AA.out] at KA
  dsimp only at KA
  have HB9 := Aside0.mk (show w.heap.size ≤ V1.heap.size from H.out.bel.size)
  refine KA.mono ?_
  rintro x V2 ⟨rfl, h2⟩
  clear KA H HB h3 h3z
  generalize V1.heap.size = b3 at h2 HB9 ⊢
  have z2 := h2.at List.mem_cons_self
  have h4 := h2.row HB9.out (logV 1 3 7 1) (fun x hx => absurd hx (by simp))
  have H := Aside0.mk h4
  have z4 := h4.at List.mem_cons_self
  clear h2 h4
  go_wp2_with (first | refine wpList_store_row rfl 31 _ _ rfl b3 (logV 1 3 7 1) rfl rfl 31 _ z2 i1 rfl q1 ?_ | refine wpList_load_row rfl 31 _ rfl b3 rfl 31 _ (0, 0) _ z4 Tryd.underlying31 rfl i1 ?_ | fail)
  clear z2
  have KA := H.out.append 1 3 7 1 sb (by decide) (by decide) (by decide) (by decide) (by decide) (fun x hx => absurd hx (by simp [D4a])) (by decide) (by decide) (by decide) (by decide)
  rw [AB.out] at KA
  dsimp only at KA
  refine KA.mono ?_
  rintro x V3 ⟨rfl, h5⟩
  replace H := Aside0.mk h5
  clear KA h5 z4
  obtain ⟨hb, h3, h3z⟩ := box_new (V := V3) zLog (logV 1 3 7 2) 31
  replace H := Aside0.mk (H.out.step hb)
  clear hb
  go_wp2_with (first | refine wpList_store_row rfl 31 _ _ rfl V3.heap.size (logV 1 3 7 2) rfl rfl 31 _ h3z i2 rfl q2 ?_ | fail)
  clear h3 h3z
  change Calls _ _ _ ((V3.alloc (.cells zLog 31)).setRow V3.heap.size (logV 1 3 7 2)) _
  generalize (V3.alloc (.cells zLog 31)).setRow V3.heap.size (logV 1 3 7 2) = V4 at H ⊢
  have KA := H.out.replay 1 3 7 (by decide) (by decide) (by decide) (by decide) HZ2.out
  rw [RE2.out, show ([sa, sb] : List ByteArray).length = 2 from rfl] at KA
  refine KA.mono ?_
  rintro x V5 ⟨u1, rfl, hrow, hb⟩
  replace H := Aside0.mk (H.out.step hb)
  clear hb KA
  obtain ⟨A5, c5, rfl⟩ := owns_slice hrow
  have hrs := RowS.owns hrow rfl
  clear hrow
  obtain ⟨hb, h3, h3z⟩ := box_new (V := V5) zLog (logV 1 3 7 2) 31
  replace H := Aside0.mk (H.out.step hb)
  have HX := Aside0.mk (And.intro (hrs.below hb) h3)
  clear hb hrs
  go_wp2_with (first | refine wpList_store_row rfl 31 _ _ rfl V5.heap.size (logV 1 3 7 2) rfl rfl 31 _ h3z i2 rfl q2 ?_ | fail)
  clear h3 h3z
  change Calls _ _ _ ((V5.alloc (.cells zLog 31)).setRow V5.heap.size (logV 1 3 7 2)) _
  generalize (V5.alloc (.cells zLog 31)).setRow V5.heap.size (logV 1 3 7 2) = V6 at H HX ⊢
  generalize V5.heap.size = b9 at HX ⊢
  refine (awake12_calls _).mono ?_
  rintro x V7 ⟨rfl, hb⟩
  replace H := Aside0.mk (H.out.step hb)
  replace HX := Aside0.mk (And.intro (HX.out.1.below hb) (keep HX.out.2 hb))
  clear hb
  go_wp2_with fail
  refine (Sl.awake_calls _).mono ?_
  rintro x V8 ⟨rfl, hb⟩
  replace H := Aside0.mk (H.out.step hb)
  replace HX := Aside0.mk (And.intro (HX.out.1.below hb) (keep HX.out.2 hb))
  clear hb
  have z9 := HX.out.2
  have c93 : V8.cell? ⟨b9, 3, none⟩ = some (.int .i64 2) := cell_of_row _ _ 3 _ _ _ z9
  obtain ⟨g1, o1, rfl, k0⟩ := HX.out.1 0 (by decide)
  obtain ⟨g2, o2, e2, k1⟩ := HX.out.1 1 (by decide)
  simp only [Option.some.injEq, Addr.mk.injEq, and_true] at e2
  obtain ⟨rfl, rfl⟩ := e2
  have k0' : V8.cell? ⟨g1, o1, none⟩ = some (.string ⟨#[97]⟩) := k0
  have k1' : V8.cell? ⟨g1, o1 + 1, none⟩ = some (.string ⟨#[98]⟩) := k1
  clear k0 k1 HX
  go_wp2_with (first | refine Cel.wpList_load_row_w rfl 31 _ rfl b9 rfl 31 _ (0, 0) _ z9 Tryd.underlying31 rfl i2 ?_ | fail)
  refine (full_calls 1 3 7 2 V8).mono ?_
  rintro x V9 ⟨rfl, hb⟩
  replace H := Aside0.mk (H.out.step hb)
  clear hb
  go_wp2
  go_ret
  exact ⟨by first | rfl | decide, H.out.bel⟩
end Go.Proofs.YtknbhgodhmcemaaDoor.Lg
namespace Go.Proofs.YtknbhgodhmcemaaDoor.So
set_option linter.unusedSimpArgs false
set_option linter.unusedVariables false
set_option maxRecDepth 100000
open Go.RowKit Go.Proofs.YtknbhgodhmcemaaDoor.Own Go.Proofs.YtknbhgodhmcemaaDoor.Cel Go.Proofs.YtknbhgodhmcemaaDoor.Dk
open Go.Proofs.YtknbhgodhmcemaaDoor.Sl (close_calls closeS rc recV recV_one)
open Go.Proofs.YtknbhgodhmcemaaDoor.Lg (below_drewN0 str_ne box_new)
def rst (L : List UInt8) (i : Nat) : ByteArray := ⟨(L.drop (110 * i)).toArray⟩
theorem rst_size (L : List UInt8) (i : Nat) : (rst L i).size = L.length - 110 * i := by
  show (L.drop (110 * i)).toArray.size = _; rw [List.size_toArray, List.length_drop]
theorem rst_head (L : List UInt8) (i m : Nat) (hm : m = min 110 (L.length - 110 * i)) : (rst L i).extract 0 m = ⟨(pdat L i).toArray⟩ := by
  apply ByteArray.ext
  apply Array.toList_inj.1
  rw [Sl.ext_toList, List.drop_zero]
  show (L.drop (110 * i)).take m = (L.drop (110 * i)).take 110
  by_cases h : 110 ≤ L.length - 110 * i
  · rw [show m = 110 by omega]
  · rw [List.take_of_length_le (by rw [List.length_drop]; omega), List.take_of_length_le (by rw [List.length_drop]; omega)]
theorem rst_tail (L : List UInt8) (i m : Nat) (hm : m = min 110 (L.length - 110 * i)) : (rst L i).extract m (rst L i).size = rst L (i + 1) := by
  apply ByteArray.ext
  apply Array.toList_inj.1
  rw [Sl.ext_toList, rst_size]
  show ((L.drop (110 * i)).take _).drop m = L.drop (110 * (i + 1))
  rw [List.take_of_length_le (by rw [List.length_drop]; omega), List.drop_drop]
  by_cases h : 110 ≤ L.length - 110 * i
  · rw [show m = 110 by omega, show 110 * (i + 1) = 110 * i + 110 by omega]
  · rw [List.drop_of_length_le (by omega), List.drop_of_length_le (by omega)]
theorem rst_empty (L : List UInt8) (i : Nat) : ((rst L i).toList == (⟨#[]⟩ : ByteArray).toList) = decide (L.length ≤ 110 * i) := by
  rw [ByteArray.toList_eq, ByteArray.toList_eq]
  show (L.drop (110 * i) == []) = _
  by_cases h : L.length ≤ 110 * i
  · rw [List.drop_of_length_le h, decide_eq_true h]; rfl
  · rw [decide_eq_false h, beq_eq_false_iff_ne]
    intro e
    have := congrArg List.length e
    rw [List.length_drop] at this
    simp at this
    omega
variable {B p : Nat} {S : DS} {F : Nat → Prop} {W V V' : World}
structure Ok (S : DS) (N k : Nat) : Prop where
  ok : S.ok
  len : S.lasts.length = N
  arm : S.armed ≤ 9223372036854775807
  waits : S.waits.length + k ≤ 900000
  ops0 : 0 ≤ S.ops
  ops : S.ops + (k : Int) ≤ 1000000000
theorem Ok.put {S : DS} {N k i : Nat} {s : ByteArray} (h : Ok S N (k + 1)) (hi : i < N) (hs : s.size = 128) : Ok (S.put (i : Int) s).1 N k := by
  obtain ⟨l1, l2, l3⟩ := fails_lasts S
  have fa := (Lg.fails_armed S).2
  have h1 := h.len
  have h2 := h.arm
  have h3 := h.waits
  have h4 := h.ops0
  have h5 := h.ops
  rcases Lg.put_cases S i s (by omega) hs with ⟨e, _⟩ | ⟨e, _⟩
  · rw [e]
    exact ⟨fails_ok h.ok, by show S.fails.1.lasts.length = N; rw [l1]; exact h1, by show S.fails.1.armed ≤ _; omega, by show S.fails.1.waits.length + k ≤ _; rw [l2]; omega, by show 0 ≤ S.fails.1.ops; rw [l3]; exact h4, by show S.fails.1.ops + _ ≤ _; rw [l3]; omega⟩
  · rw [e]
    refine ⟨fun x hx => ?_, by show S.fails.1.lasts.length = N; rw [l1]; exact h1, by show S.fails.1.armed ≤ _; omega, ?_, by show 0 ≤ S.ops + 1; omega, by show S.ops + 1 + _ ≤ _; omega⟩
    · show x.1 < S.fails.1.lasts.length
      rw [l1]
      rcases List.mem_append.1 hx with hx | hx
      · exact h.ok x hx
      · simp only [List.mem_singleton] at hx
        subst hx
        show i < _; omega
    · show (S.waits ++ [(i, s)]).length + k ≤ _
      rw [List.length_append]; show S.waits.length + 1 + k ≤ _; omega
theorem did_step {S' : DS} {F : Nat → Prop} (h : Did B p S' F W V) (hb : Below V.heap.size V V') : Did B p S' F W V' := by
  obtain ⟨F2, d, o, f⟩ := h
  exact ⟨F2, d.below hb, o.trans (only_below hb) (fun i hi => .inl hi), f⟩
theorem did_write {S' : DS} {F : Nat → Prop} (h : Did B p S' F W V) (ha : S'.armed ≤ 9223372036854775807) (hn : S'.waits.length ≤ 1000000) (ho0 : 0 ≤ S'.ops) (ho : S'.ops ≤ 4611686018427387904) (i : Int) (s : ByteArray) (hi0 : -9223372036854775808 ≤ i) (hi1 : i ≤ 9223372036854775807) :
    Calls Tryd.prog 28 #[.pointer (some ⟨p, 0, none⟩), .int .i64 i, .string s] V fun e V' => e = .returned (.int .i64 (S'.put i s).2) ∧ Did B p (S'.put i s).1 F W V' := by
  obtain ⟨F2, d, o, f⟩ := h
  exact (write_calls d ha hn ho0 ho i s hi0 hi1).mono fun e V' ⟨q, h2⟩ => ⟨q, Did.of o f h2⟩
set_option maxHeartbeats 8000000 in
theorem write_good (h : DK B p S F W) (fr room g : Nat) (t : ByteArray) (hr : 1 ≤ room) (hl : fr + room ≤ S.lasts.length) (hN : S.lasts.length ≤ 5000) (hg : g < 18446744073709551616) (ht : t.size ≤ 100000) (hfit : t.size + 4 ≤ 110 * room) (hok : Ok S S.lasts.length (np (summedL t.data.toList).length)) :
    Calls Tryd.prog 17 #[.pointer (some ⟨p, 0, none⟩), .int .i64 (fr : Nat), .int .i64 (room : Nat), .int .u64 (g : Nat), .string t] W fun e W' =>
      e = .returned (.int .i64 (wrS fr g (summedL t.data.toList) (np (summedL t.data.toList).length) 0 S).2) ∧ Did B p (wrS fr g (summedL t.data.toList) (np (summedL t.data.toList).length) 0 S).1 F W W' := by
  have KM := Aside0.mk (may_calls h fr room hr hl (by omega))
  have KS := Aside0.mk (fun V => summed_calls t V (by omega))
  have hL := summedL_len t.data.toList
  have htl : t.data.toList.length = t.size := by rw [Array.length_toList]; rfl
  obtain ⟨L, hLL⟩ : ∃ L, summedL t.data.toList = L := ⟨_, rfl⟩
  rw [hLL] at hL hok KS ⊢
  obtain ⟨R, hR⟩ : ∃ R, wrS fr g L (np L.length) 0 S = R := ⟨_, rfl⟩
  rw [hR]
  obtain ⟨k, hk⟩ : ∃ k, np L.length = k := ⟨_, rfl⟩
  rw [hk] at hok hR
  have hk1 : 110 * k < L.length + 110 := by unfold np at hk; omega
  have hk2 : L.length ≤ 110 * k := by unfold np at hk; omega
  have hkr : k ≤ room := by omega
  have HD := Aside0.mk (show Did B p S F W W ∧ wrS fr g L (k - 0) 0 S = R ∧ Ok S S.lasts.length (k - 0) from ⟨⟨F, h, Only.refl _ _, fun _ e => .inl e⟩, hR, hok⟩)
  obtain ⟨N, hNN⟩ : ∃ N, S.lasts.length = N := ⟨_, rfl⟩
  rw [hNN] at hl hN HD
  have e0 : (⟨L.toArray⟩ : ByteArray) = rst L 0 := rfl
  rw [e0] at KS
  have d1 : decide (110 * (room : Int) - 4 < (t.size : Int)) = false := decide_eq_false (by omega)
  clear h hok hR hLL hNN htl e0
  go_enter Tryd.func17, Tryd.ntmps17
  go_wp2_with fail
  refine KM.out.mono ?_
  rintro e w1 ⟨rfl, rfl⟩
  clear KM
  go_wp2_with fail
  refine (KS.out _).mono ?_
  rintro e V1 ⟨rfl, hb⟩
  replace HD := Aside0.mk (And.intro (did_step HD.out.1 hb) HD.out.2)
  clear hb KS
  go_wp2_with fail
  go_loopw [11, 12] (fun sv iv V => ∃ (i : Nat) (S1 : DS), sv = .string (rst L i) ∧ iv = .int .i64 i ∧ i ≤ k ∧ Aside0 (Did B p S1 F W V ∧ wrS fr g L (k - i) i S1 = R ∧ Ok S1 N (k - i))) (fun _ iv _ => k - (intOf iv).toNat)
  case atStart => exact ⟨0, S, rfl, rfl, by omega, HD⟩
  case round =>
    obtain ⟨i, S1, rfl, rfl, hi, HS⟩ := hrel
    clear HD
    have hem := rst_empty L i
    have hnil : (⟨#[]⟩ : ByteArray).toList = [] := by rw [ByteArray.toList_eq]
    rw [hnil] at hem
    by_cases hlt : i < k
    rotate_left
    · have hd := decide_eq_true (show L.length ≤ 110 * i by omega)
      rw [hd] at hem
      have hki : k - i = 0 := by omega
      have HQ := Aside0.mk (show R = (S1, 0) ∧ Did B p S1 F W wr from ⟨by have := HS.out.2.1; rw [hki, wrS] at this; exact this.symm, HS.out.1⟩)
      clear HS hd hki hlt hi
      generalize rst L i = sv at hem ⊢
      go_wp2
      go_ret
      exact ⟨by rw [HQ.out.1]; rfl, by rw [HQ.out.1]; exact HQ.out.2⟩
    have hnl : ¬ L.length ≤ 110 * i := by omega
    rw [decide_eq_false hnl] at hem
    have hrs := rst_size L i
    obtain ⟨m, hm⟩ : ∃ m, min 110 (L.length - 110 * i) = m := ⟨_, rfl⟩
    have hhd := rst_head L i m hm.symm
    have htl := rst_tail L i m hm.symm
    have hem2 := rst_empty L (i + 1)
    rw [hnil] at hem2
    obtain ⟨n, hn⟩ : ∃ n, (rst L i).size = n := ⟨_, rfl⟩
    rw [hn] at hrs htl
    have hD : (⟨(pdat L i).toArray⟩ : ByteArray).size = m := by show (pdat L i).toArray.size = m; rw [List.size_toArray, pdat_len, hm]
    obtain ⟨D, hDD⟩ : ∃ D, (⟨(pdat L i).toArray⟩ : ByteArray) = D := ⟨_, rfl⟩
    have hmin : min (n : Int) 110 = (m : Int) := by omega
    have hmn : m ≤ n := by omega
    have hcast : ((fr + i : Nat) : Int) = (fr : Int) + (i : Int) := by omega
    have hps := psec_close g L i
    rw [hDD] at hhd hD hps
    have KC := Aside0.mk (fun V => close_calls (pk L.length i) g i D V (pk_lt _ _) hg (by omega))
    rw [hps] at KC
    have HPS := Aside0.mk (psec_size g L i)
    have HW := Aside0.mk (show wrS fr g L (k - i) i S1 = if (S1.put ((fr + i : Nat) : Int) (psec g L i)).2 ≠ 0 then S1.put ((fr + i : Nat) : Int) (psec g L i) else wrS fr g L (k - (i + 1)) (i + 1) (S1.put ((fr + i : Nat) : Int) (psec g L i)).1 by
      rw [show k - i = (k - (i + 1)) + 1 by omega, wrS])
    have HO := HS.out.2.2
    have hR2 := HS.out.2.1
    rw [HW.out] at hR2
    have HRR := Aside0.mk hR2
    have HOK := Aside0.mk (Ok.put (i := fr + i) (s := psec g L i) (show Ok S1 N ((k - (i + 1)) + 1) by rw [show (k - (i + 1)) + 1 = k - i by omega]; exact HO) (by omega) HPS.out)
    have ob1 := HO.arm
    have ob2 := HO.waits
    have ob3 := HO.ops0
    have ob4 := HO.ops
    have HDD := Aside0.mk HS.out.1
    have z13z : (wr.alloc (.cells #[.int .u8 0, .int .u64 0, .int .u32 0, .string ⟨#[]⟩] 64)).heap[wr.heap.size]? = some (.cells #[.int .u8 0, .int .u64 0, .int .u32 0, .string ⟨#[]⟩] 64 (0, 0)) := heap_alloc_new wr _
    have hbB := below_setRow ((Below.refl wr.heap.size wr).alloc (Nat.le_refl _) (.cells #[.int .u8 0, .int .u64 0, .int .u32 0, .string ⟨#[]⟩] 64)) (g := wr.heap.size) (Nat.le_refl _) #[.int .u8 2, .int .u64 (g : Nat), .int .u32 (i : Nat), .string D]
    have z13 := setRow_heap _ _ _ #[.int .u8 2, .int .u64 (g : Nat), .int .u32 (i : Nat), .string D] _ (0, 0) z13z
    have c3 : ((wr.alloc (.cells #[.int .u8 0, .int .u64 0, .int .u32 0, .string ⟨#[]⟩] 64)).setRow wr.heap.size #[.int .u8 2, .int .u64 (g : Nat), .int .u32 (i : Nat), .string D]).cell? ⟨wr.heap.size, 3, none⟩ = some (.string D) := cell_of_row _ _ 3 _ _ _ z13
    have c0 : ((wr.alloc (.cells #[.int .u8 0, .int .u64 0, .int .u32 0, .string ⟨#[]⟩] 64)).setRow wr.heap.size #[.int .u8 2, .int .u64 (g : Nat), .int .u32 (i : Nat), .string D]).cell? ⟨wr.heap.size, 0, none⟩ = some (.int .u8 2) := cell_of_row _ _ 0 _ _ _ z13
    have f0 : ((wr.alloc (.cells #[.int .u8 0, .int .u64 0, .int .u32 0, .string ⟨#[]⟩] 64)).setRow wr.heap.size #[.int .u8 2, .int .u64 (g : Nat), .int .u32 (i : Nat), .string D]).frozen? ⟨wr.heap.size, 0, none⟩ = false := frozen_of_row _ _ 0 _ _ z13
    have hi2 : (Tryd.prog.info? 64).map (·.size) = some (#[.int .u8 2, .int .u64 (g : Nat), .int .u32 (i : Nat), .string D] : Array Value).size := Sl.infoR
    have ho2 : (#[.int .u8 2, .int .u64 (g : Nat), .int .u32 (i : Nat), .string D] : Array Value).all (·.oneCell') = true := recV_one ⟨2, g, i, D⟩
    have hi32 : ((i : Nat) : Int) % 4294967296 = (i : Int) := by omega
    have HI := Aside0.mk (show i + 1 ≤ k from hlt)
    by_cases hlast : i + 1 = k
    · have hpk : pk L.length i = 3 := by rw [pk, hk, if_pos hlast]
      rw [hpk] at KC
      rw [decide_eq_true (show L.length ≤ 110 * (i + 1) by omega)] at hem2
      clear HS HO hR2 HW hnl hrs hm hDD hps hk1 hk2 hpk
      generalize rst L i = sv at hem hhd htl hn ⊢
      generalize hrv : rst L (i + 1) = rv at htl hem2
      have HRV := Aside0.mk hrv
      clear hrv
      have z14 : (((wr.alloc (.cells #[.int .u8 0, .int .u64 0, .int .u32 0, .string ⟨#[]⟩] 64)).setRow wr.heap.size #[.int .u8 2, .int .u64 (g : Nat), .int .u32 (i : Nat), .string D]).setCell ⟨wr.heap.size, 0, none⟩ (.int .u8 3)).heap[wr.heap.size]? = some (.cells #[.int .u8 3, .int .u64 (g : Nat), .int .u32 (i : Nat), .string D] 64 (0, 0)) := heap_setCell_same _ _ 0 _ _ (.int .u8 3) z13
      have hi3 : (Tryd.prog.info? 64).map (·.size) = some (#[.int .u8 3, .int .u64 (g : Nat), .int .u32 (i : Nat), .string D] : Array Value).size := Sl.infoR
      have HD2 := Aside0.mk (did_step HDD.out (hbB.setCell (p := ⟨wr.heap.size, 0, none⟩) (Nat.le_refl _) (.int .u8 3)))
      clear HDD hbB
      go_wp2_with (first | refine wpList_store_row rfl 64 _ _ rfl wr.heap.size #[.int .u8 2, .int .u64 (g : Nat), .int .u32 (i : Nat), .string D] rfl rfl 64 _ z13z hi2 rfl ho2 ?_ | refine wpList_load_row rfl 64 _ rfl wr.heap.size rfl 64 _ (0, 0) _ z14 Tryd.underlying64 rfl hi3 ?_ | fail)
      clear hi2 ho2 hi3 z13 z13z c3 c0 f0
      refine (KC.out _).mono ?_
      rintro e V2 ⟨rfl, hb⟩
      have HD3 := Aside0.mk (did_step HD2.out hb)
      clear hb KC HD2
      have KW := Aside0.mk (did_write HD3.out (by omega) (by omega) ob3 (by omega) ((fr + i : Nat) : Int) (psec g L i) (by omega) (by omega))
      rw [hcast] at KW
      go_wp2_with fail
      refine KW.out.mono ?_
      rintro e V3 ⟨rfl, h3⟩
      obtain ⟨Q, hQ⟩ : ∃ Q, S1.put ((fr : Int) + (i : Int)) (psec g L i) = Q := ⟨_, rfl⟩
      have hRQ := HRR.out
      have hOK := HOK.out
      rw [hcast] at hRQ hOK
      rw [hQ] at h3 hRQ hOK ⊢
      clear KW HD3 HRR HOK
      by_cases hq : Q.2 = 0
      · have HN := Aside0.mk (show Did B p Q.1 F W V3 ∧ wrS fr g L (k - (i + 1)) (i + 1) Q.1 = R ∧ Ok Q.1 N (k - (i + 1)) from ⟨h3, by rw [if_neg (fun e => e hq)] at hRQ; exact hRQ, hOK⟩)
        rw [hq]
        clear h3 hRQ hOK hQ
        go_wp2
        go_roundw
        case rel => exact ⟨i + 1, Q.1, by rw [HRV.out], by go_num, HI.out, HN⟩
        case measure => have := HI.out; simp [intOf]; omega
      · have HN := Aside0.mk (show R = Q ∧ Did B p Q.1 F W V3 from ⟨by rw [if_pos hq] at hRQ; exact hRQ.symm, h3⟩)
        obtain ⟨S9, q⟩ := Q
        dsimp only at hq ⊢
        have hq' : (q == 0) = false := by simpa using hq
        clear h3 hRQ hOK hQ
        go_wp2
        go_ret
        exact ⟨by rw [HN.out.1]; rfl, by rw [HN.out.1]; exact HN.out.2⟩

    · have hpk : pk L.length i = 2 := by rw [pk, hk, if_neg hlast]
      rw [hpk] at KC
      rw [decide_eq_false (show ¬ L.length ≤ 110 * (i + 1) by unfold np at hk; omega)] at hem2
      clear HS HO hR2 HW hnl hrs hm hDD hps hk1 hk2 hpk
      generalize rst L i = sv at hem hhd htl hn ⊢
      generalize hrv : rst L (i + 1) = rv at htl hem2
      have HRV := Aside0.mk hrv
      clear hrv
      have hi3 : (Tryd.prog.info? 64).map (·.size) = some (#[.int .u8 2, .int .u64 (g : Nat), .int .u32 (i : Nat), .string D] : Array Value).size := Sl.infoR
      have HD2 := Aside0.mk (did_step HDD.out hbB)
      clear HDD hbB
      go_wp2_with (first | refine wpList_store_row rfl 64 _ _ rfl wr.heap.size #[.int .u8 2, .int .u64 (g : Nat), .int .u32 (i : Nat), .string D] rfl rfl 64 _ z13z hi2 rfl ho2 ?_ | refine wpList_load_row rfl 64 _ rfl wr.heap.size rfl 64 _ (0, 0) _ z13 Tryd.underlying64 rfl hi3 ?_ | fail)
      clear hi2 ho2 hi3 z13 z13z c3 c0 f0
      refine (KC.out _).mono ?_
      rintro e V2 ⟨rfl, hb⟩
      have HD3 := Aside0.mk (did_step HD2.out hb)
      clear hb KC HD2
      have KW := Aside0.mk (did_write HD3.out (by omega) (by omega) ob3 (by omega) ((fr + i : Nat) : Int) (psec g L i) (by omega) (by omega))
      rw [hcast] at KW
      go_wp2_with fail
      refine KW.out.mono ?_
      rintro e V3 ⟨rfl, h3⟩
      obtain ⟨Q, hQ⟩ : ∃ Q, S1.put ((fr : Int) + (i : Int)) (psec g L i) = Q := ⟨_, rfl⟩
      have hRQ := HRR.out
      have hOK := HOK.out
      rw [hcast] at hRQ hOK
      rw [hQ] at h3 hRQ hOK ⊢
      clear KW HD3 HRR HOK
      by_cases hq : Q.2 = 0
      · have HN := Aside0.mk (show Did B p Q.1 F W V3 ∧ wrS fr g L (k - (i + 1)) (i + 1) Q.1 = R ∧ Ok Q.1 N (k - (i + 1)) from ⟨h3, by rw [if_neg (fun e => e hq)] at hRQ; exact hRQ, hOK⟩)
        rw [hq]
        clear h3 hRQ hOK hQ
        go_wp2
        go_roundw
        case rel => exact ⟨i + 1, Q.1, by rw [HRV.out], by go_num, HI.out, HN⟩
        case measure => have := HI.out; simp [intOf]; omega
      · have HN := Aside0.mk (show R = Q ∧ Did B p Q.1 F W V3 from ⟨by rw [if_pos hq] at hRQ; exact hRQ.symm, h3⟩)
        obtain ⟨S9, q⟩ := Q
        dsimp only at hq ⊢
        have hq' : (q == 0) = false := by simpa using hq
        clear h3 hRQ hOK hQ
        go_wp2
        go_ret
        exact ⟨by rw [HN.out.1]; rfl, by rw [HN.out.1]; exact HN.out.2⟩
end Go.Proofs.YtknbhgodhmcemaaDoor.So
namespace Go.Proofs.YtknbhgodhmcemaaDoor.So
set_option linter.unusedSimpArgs false
set_option linter.unusedVariables false
set_option maxRecDepth 100000
open Go.RowKit Go.Shelf Go.Proofs.YtknbhgodhmcemaaDoor.Own Go.Proofs.YtknbhgodhmcemaaDoor.Cel Go.Proofs.YtknbhgodhmcemaaDoor.Dk
open Go.Proofs.YtknbhgodhmcemaaDoor.Sl (Rec openS open_calls recV recV_one)
attribute [local go_sem] Oper.semAt_some
section
variable {P : Program}
theorem in_store_row {F : Fence} {n : Nat} {ops : Array Oper} {rest : List Oper} {o : Oper} {a : Act} {w : World} {Q : Exit → Act → World → Prop} (hgd : o.guard = none) (ty : TypeId) (x y : Operand) (ho : o.op = .store ty x y)
    (g : Nat) (cells : Array Value) (hx : a.eval x = .pointer (some ⟨g, 0, none⟩)) (hy : a.eval y = .agg cells)
    (t : TypeId) (old : Array Value) (hg : w.heap[g]? = some (.cells old t (0, 0))) (hi : (P.info? ty).map (·.size) = some cells.size)
    (hold : old.size = cells.size) (h1 : cells.all (·.oneCell') = true)
    (h : wpListIn F n P ops Q rest (a.put o.dst undef) (w.setRow g cells)) : wpListIn F n P ops Q (o :: rest) a w := by
  refine wpListIn_plain hgd fun K hK => ?_
  unfold Oper.wpIn
  refine ⟨?_, ?_⟩
  · simp [Oper.about, ho]
  · rw [Oper.semAt_plain F _ _ (by rw [ho]; intro c hc'; cases hc')]
    unfold execOp
    simp only [ho, hx, hy, Instr.storeAt, Instr.sureAddr, Sem.run_bind, Sem.run_pure, Result.andThen_ok, run_storeVar_row w g t ty old cells hg hi hold h1]
    exact hK _ _ h
theorem in_load_row {F : Fence} {n : Nat} {ops : Array Oper} {rest : List Oper} {o : Oper} {a : Act} {w : World} {Q : Exit → Act → World → Prop} (hw : Region.wanted o (yielded ops a.tmps) = true) (ty : TypeId) (x : Operand) (ho : o.op = .load ty x)
    (g : Nat) (hx : a.eval x = .pointer (some ⟨g, 0, none⟩)) (t : TypeId) (cs : Array Value) (fr : Nat × Nat) (d : TypeDesc) (hg : w.heap[g]? = some (.cells cs t fr))
    (hu : P.underlying ty = some d) (hd : (match d with | .struct _ | .array _ _ => true | _ => false) = true) (hi : (P.info? ty).map (·.size) = some cs.size)
    (h : wpListIn F n P ops Q rest (a.put o.dst (.agg cs)) w) : wpListIn F n P ops Q (o :: rest) a w := by
  refine wpListIn_step fun K hK => ?_
  rw [if_pos hw]
  unfold Oper.wpIn
  refine ⟨?_, ?_⟩
  · simp [Oper.about, ho]
  · rw [Oper.semAt_plain F _ _ (by rw [ho]; intro c hc'; cases hc')]
    unfold execOp
    simp only [ho, hx, Instr.loadAt, Instr.sureAddr, Sem.run_bind, Sem.run_pure, Result.andThen_ok, run_loadVar_row w g t ty cs fr d hg hu hd hi]
    exact hK _ _ h
end
abbrev RX := { x : Nat × Rec // x.1 < 1000000 ∧ x.2.i < 4294967296 ∧ x.2.d.size ≤ 1000 }
def encX (x : RX) : Array Value := #[.int .i64 (x.1.1 : Nat), .agg (recV x.1.2)]
theorem openS_d (s : ByteArray) : (openS s).1.d.size ≤ 1000 := by
  by_cases h1 : s.size ≠ 128
  · rw [Sl.openS_len h1]; exact Nat.zero_le _
  have h1 : s.size = 128 := by omega
  by_cases h2 : Sl.blankB s.data.toList = true
  · rw [Sl.openS_blank h1 h2]; exact Nat.zero_le _
  have h2 : Sl.blankB s.data.toList = false := by simpa using h2
  by_cases h3 : Sl.sumN (s.extract 0 124).data.toList ≠ Sl.low s.data.toList 124 4
  · rw [Sl.openS_sum h1 h2 h3]; exact Nat.zero_le _
  have h3 : Sl.sumN (s.extract 0 124).data.toList = Sl.low s.data.toList 124 4 := Classical.not_not.1 h3
  by_cases h4 : (s.data.toList.getD 13 0).toNat > 110 ∨ Sl.blankB (s.extract (14 + (s.data.toList.getD 13 0).toNat) 124).data.toList = false
  · rw [Sl.openS_form h1 h2 h3 h4]; exact Nat.zero_le _
  · have h5 : (s.data.toList.getD 13 0).toNat ≤ 110 := by omega
    have h6 : Sl.blankB (s.extract (14 + (s.data.toList.getD 13 0).toNat) 124).data.toList = true := by
      cases h : Sl.blankB (s.extract (14 + (s.data.toList.getD 13 0).toNat) 124).data.toList with
      | true => rfl
      | false => exact absurd (.inr h) h4
    rw [Sl.openS_ok h1 h2 h3 h5 h6]
    show (s.extract 14 (14 + (s.data.toList.getD 13 0).toNat)).size ≤ 1000
    rw [ByteArray.size_extract]
    omega
def recsGo (rd : List ByteArray) (fr : Nat) : Nat → Nat → List RX
  | 0, _ => []
  | n + 1, i => if h : (openS (rd.getD (fr + i) ByteArray.empty)).2 = 0 ∧ i < 1000000 then ⟨(i, (openS (rd.getD (fr + i) ByteArray.empty)).1), h.2, (Sl.open_back _).2.2.1, openS_d _⟩ :: recsGo rd fr n (i + 1) else recsGo rd fr n (i + 1)
def KeepB (n0 c : Nat) (W W' : World) : Prop := Below n0 W W' ∧ ∀ k, c ≤ k → k < c + 3 → W'.heap[k]? = W.heap[k]?
theorem keepB_t {n0 c : Nat} {X Y Z : World} (h : KeepB n0 c X Y) (k : KeepB n0 c Y Z) : KeepB n0 c X Z := ⟨h.1.trans k.1, fun i h1 h2 => (k.2 i h1 h2).trans (h.2 i h1 h2)⟩
theorem keepB_b {n0 c : Nat} {w : World} (hn : n0 ≤ w.heap.size) (hc : c + 3 ≤ w.heap.size) (W : World) (l : Nat) (o o' : Obj) (hl : w.heap.size ≤ l) (h : W.heap[l]? = some o) (_ : o.isCells = false) (_ : o.isWalk = false) : KeepB n0 c W (W.putObj l o') :=
  ⟨belowK_b hn W l o o' hl h ‹_› ‹_›, fun k h1 h2 => World.putObj_heap_other (by omega)⟩
variable {B p : Nat} {S : DS} {F : Nat → Prop} {W : World}
structure IW (B p : Nat) (S : DS) (F : Nat → Prop) (n0 c fr room : Nat) (V : World) : Prop where
  dk : DK B p S F V
  f : ∀ k, F k → k < n0
  z0 : V.heap[c]? = some (.cells #[.pointer (some ⟨p, 0, none⟩)] 25 (0, 0))
  z1 : V.heap[c + 1]? = some (.cells #[.int .i64 (fr : Nat)] 3 (0, 0))
  z2 : V.heap[c + 2]? = some (.cells #[.int .i64 (room : Nat)] 3 (0, 0))
theorem IW.keep {n0 c fr room : Nat} {V V' : World} (h : IW B p S F n0 c fr room V) (k : KeepB n0 c V V') : IW B p S F n0 c fr room V' :=
  ⟨h.dk.keep (fun q hq => k.1.block q (h.f q hq)), h.f, (k.2 c (Nat.le_refl _) (by omega)).trans h.z0, (k.2 (c + 1) (by omega) (by omega)).trans h.z1, (k.2 (c + 2) (by omega) (by omega)).trans h.z2⟩
theorem IW.below {n0 c fr room : Nat} {V V' : World} (h : IW B p S F n0 c fr room V) (hb : Below V.heap.size V V') : IW B p S F n0 c fr room V' :=
  ⟨h.dk.below hb, h.f, Own.keep h.z0 hb, Own.keep h.z1 hb, Own.keep h.z2 hb⟩
set_option maxHeartbeats 4000000 in
theorem recs_stops (n : Nat) (hn : 2 ≤ n) {w0 : World} {n0 c fr room : Nat} (h : IW B p S F n0 c fr room w0) (hn0 : n0 ≤ c) (hl : fr + room ≤ S.lasts.length) (hN : S.lasts.length ≤ 5000) (hsz : ∀ j, (S.read.getD j ByteArray.empty).size ≤ 1000) :
    SeqStopsK Fence.wide n Tryd.prog 85 #[.pointer (some ⟨c + 2, 0, none⟩), .pointer (some ⟨c, 0, none⟩), .pointer (some ⟨c + 1, 0, none⟩)] encX (KeepB n0 c) (fun xs => xs = recsGo S.read fr room 0) (fun pre => pre <+: recsGo S.read fr room 0) (recsGo S.read fr room 0).length w0 := fun l J Jx W hW hJ hJx hY h0 => by
  refine callsIn_of_wp Tryd.func85 rfl trivial ?_ rfl
  simp only [Tryd.ntmps85, List.size_toArray, List.length_cons, List.length_nil, Nat.reduceAdd, Nat.reduceSub, Array.replicate_succ, Array.replicate_zero, List.push_toArray, List.append_toArray, List.nil_append, List.cons_append]
  have hIW := h.below hW
  have H := Aside0.mk hIW
  have c2 : W.cell? ⟨c + 2, 0, none⟩ = some (.int .i64 (room : Nat)) := cell_of_row _ _ 0 _ _ _ hIW.z2
  have H0 := Aside0.mk h0
  clear hIW h0
  have HSZ := Aside0.mk hsz
  have HY := Aside0.mk hY
  clear hY hsz
  gi_wp2
  gi_loopw [11] (fun iv V => ∃ (i : Nat) (pre : List RX), iv = .int .i64 i ∧ i ≤ room ∧ Aside0 (recsGo S.read fr room 0 = pre ++ recsGo S.read fr (room - i) i) ∧ Aside0 (J pre V ∧ IW B p S F n0 c fr room V ∧ W.heap.size ≤ V.heap.size)) (fun iv _ => room - (intOf iv).toNat)
  case atStart => exact ⟨0, [], rfl, by omega, ⟨rfl⟩, ⟨H0.out, H.out, Nat.le_refl _⟩⟩
  case round =>
    obtain ⟨i, pre, rfl, hi, HE, HS⟩ := hrel
    clear H H0 c2
    by_cases hlt : i < room
    rotate_left
    · obtain rfl : i = room := by omega
      have HQ := Aside0.mk (show pre = recsGo S.read fr i 0 ∧ J pre wr from ⟨by have := HE.out; rw [Nat.sub_self, recsGo, List.append_nil] at this; exact this.symm, HS.out.1⟩)
      clear HE HS hlt hi
      gi_wp2
      go_end0
      exact ⟨⟨_, rfl⟩, .inl ⟨pre, HQ.out.1, HQ.out.2⟩⟩
    have hi1 : (i : Int) < (room : Int) := by omega
    have c0 : wr.cell? ⟨c, 0, none⟩ = some (.pointer (some ⟨p, 0, none⟩)) := cell_of_row _ _ 0 _ _ _ HS.out.2.1.z0
    have c1 : wr.cell? ⟨c + 1, 0, none⟩ = some (.int .i64 (fr : Nat)) := cell_of_row _ _ 0 _ _ _ HS.out.2.1.z1
    have er : S.readAt ((fr + i : Nat) : Int) = (S.read.getD (fr + i) ByteArray.empty, 0) := by
      unfold DS.readAt
      rw [if_pos ⟨by omega, by omega⟩, Int.toNat_natCast]
    have hsz1 := HSZ.out (fr + i)
    obtain ⟨s, hs⟩ : ∃ s, S.read.getD (fr + i) ByteArray.empty = s := ⟨_, rfl⟩
    rw [hs, show ((fr + i : Nat) : Int) = (fr : Int) + (i : Int) by omega] at er
    rw [hs] at hsz1
    have KO := Aside0.mk (fun V => open_calls s V hsz1)
    obtain ⟨⟨r, q⟩, ho⟩ : ∃ o, openS s = o := ⟨_, rfl⟩
    rw [ho] at KO
    change Aside0 (∀ V, Calls Tryd.prog 47 #[.string s] V fun e w' => e = .returned (.tuple #[.agg (recV r), .int .i64 q]) ∧ Below V.heap.size V w') at KO
    have KR := read_calls HS.out.2.1.dk ((fr : Int) + (i : Int))
    rw [er] at KR
    have hXb : i < 1000000 ∧ r.i < 4294967296 ∧ r.d.size ≤ 1000 := ⟨by omega, by have := (Sl.open_back s).2.2.1; rw [ho] at this; exact this, by have := openS_d s; rw [ho] at this; exact this⟩
    obtain ⟨X, hX1⟩ : ∃ X : RX, X.1 = (i, r) := ⟨⟨(i, r), hXb⟩, rfl⟩
    have hstep : recsGo S.read fr (room - i) i = if q = 0 then X :: recsGo S.read fr (room - (i + 1)) (i + 1) else recsGo S.read fr (room - (i + 1)) (i + 1) := by
      have e : room - i = (room - (i + 1)) + 1 := by omega
      rw [e, recsGo]
      by_cases hq : q = 0
      · rw [dif_pos ⟨by rw [hs, ho]; exact hq, by omega⟩, if_pos hq]
        congr 1
        apply Subtype.ext
        rw [hX1]
        simp only [hs, ho]
      · rw [dif_neg (fun e => hq (by have := e.1; rw [hs, ho] at this; exact this)), if_neg hq]
    have HI2 := Aside0.mk (show (Tryd.prog.info? 64).map (·.size) = some (recV r).size from Sl.infoR)
    have hone2 := recV_one r
    have HH := Aside0.mk hstep
    have HX1 := Aside0.mk hX1
    clear er hs ho hsz1 hstep hX1 hXb
    gi_wp2
    refine ⟨trivial, fun _ => by omega, ?_⟩
    refine (callsIn_wide.2 KR).mono ?_
    rintro e w1 ⟨rfl, rfl⟩
    clear KR c0 c1
    gi_wp2
    refine ⟨trivial, fun _ => by omega, ?_⟩
    refine (callsIn_wide.2 (KO.out _)).mono ?_
    rintro e V3 ⟨rfl, hb⟩
    have z15 : (V3.alloc (.cells #[.int .u8 0, .int .u64 0, .int .u32 0, .string ⟨#[]⟩] 64)).heap[V3.heap.size]? = some (.cells #[.int .u8 0, .int .u64 0, .int .u32 0, .string ⟨#[]⟩] 64 (0, 0)) := heap_alloc_new V3 _
    have hb2 := hb.trans ((below_setRow ((Below.refl V3.heap.size V3).alloc (Nat.le_refl _) (.cells #[.int .u8 0, .int .u64 0, .int .u32 0, .string ⟨#[]⟩] 64)) (g := V3.heap.size) (Nat.le_refl _) (recV r)).mono hb.size)
    have Z15 := Aside0.mk (setRow_heap _ _ _ (recV r) _ (0, 0) z15)
    have HS2 := Aside0.mk (show J pre ((V3.alloc (.cells #[.int .u8 0, .int .u64 0, .int .u32 0, .string ⟨#[]⟩] 64)).setRow V3.heap.size (recV r)) ∧ IW B p S F n0 c fr room ((V3.alloc (.cells #[.int .u8 0, .int .u64 0, .int .u32 0, .string ⟨#[]⟩] 64)).setRow V3.heap.size (recV r)) ∧ W.heap.size ≤ ((V3.alloc (.cells #[.int .u8 0, .int .u64 0, .int .u32 0, .string ⟨#[]⟩] 64)).setRow V3.heap.size (recV r)).heap.size from ⟨hJ pre _ _ none HS.out.1 (grown_of_below hb2) (fun r e => by cases e), HS.out.2.1.below hb2, Nat.le_trans HS.out.2.2 hb2.size⟩)
    clear hb hb2 KO HS
    by_cases hq : q = 0
    rotate_left
    · have hq' : (q == 0) = false := by simpa using hq
      have HN := Aside0.mk (show recsGo S.read fr room 0 = pre ++ recsGo S.read fr (room - (i + 1)) (i + 1) by rw [HE.out, HH.out, if_neg hq])
      clear HE HH hq Z15
      gi_wp2_with (first | refine in_store_row rfl 64 _ _ rfl V3.heap.size (recV r) rfl rfl 64 _ z15 HI2.out rfl hone2 ?_ | fail)
      refine ⟨fun _ h => (by cases h), ?_⟩
      gi_wp2
      go_roundw
      case rel => exact ⟨i + 1, pre, by go_num, by omega, HN, HS2⟩
      case measure => simp [intOf]; omega
    subst hq
    have HN := Aside0.mk (show recsGo S.read fr room 0 = (pre ++ [X]) ++ recsGo S.read fr (room - (i + 1)) (i + 1) by rw [HE.out, HH.out, if_pos rfl, List.append_assoc]; rfl)
    have hlen : pre.length < (recsGo S.read fr room 0).length := by rw [HN.out]; simp
    obtain ⟨yfn, ytmps, yassign, ybody, hy, hR⟩ := HY.out pre X _ HS2.out.1 hlen
    rw [encX, HX1.out] at hy
    dsimp only at hy
    have HR := Aside0.mk hR
    have HPX := Aside0.mk (show pre ++ [X] <+: recsGo S.read fr room 0 from ⟨_, HN.out.symm⟩)
    clear HE HH hlen hR
    gi_wp2_with (first | refine in_store_row rfl 64 _ _ rfl V3.heap.size (recV r) rfl rfl 64 _ z15 HI2.out rfl hone2 ?_ | refine in_load_row rfl 64 _ rfl V3.heap.size rfl 64 _ (0, 0) _ Z15.out Tryd.underlying64 rfl HI2.out ?_ | fail)
    refine ⟨fun _ => by omega, ?_⟩
    refine HR.out.mono ?_
    rintro e W3 (⟨rfl, hJ3, hk3⟩ | ⟨rfl, hJx3⟩)
    · have HS3 := Aside0.mk (show J (pre ++ [X]) W3 ∧ IW B p S F n0 c fr room W3 ∧ W.heap.size ≤ W3.heap.size from ⟨hJ3, HS2.out.2.1.keep hk3, Nat.le_trans HS2.out.2.2 hk3.1.size⟩)
      clear hJ3 hk3 HS2 HR hy Z15 HPX
      gi_wp2
      go_roundw
      case rel => exact ⟨i + 1, pre ++ [X], by go_num, by omega, HN, HS3⟩
      case measure => simp [intOf]; omega
    · have HX3 := Aside0.mk hJx3
      clear hJx3 HS2 HR hy Z15
      gi_wp2
      refine bodyPost_ret (results_none rfl _ _ _) rfl ?_
      exact ⟨⟨_, rfl⟩, .inr ⟨pre ++ [X], HPX.out, HX3.out⟩⟩
end Go.Proofs.YtknbhgodhmcemaaDoor.So
namespace Go.Proofs.YtknbhgodhmcemaaDoor.So
set_option linter.unusedSimpArgs false
set_option linter.unusedVariables false
set_option maxRecDepth 100000
open Go.RowKit Go.Shelf Go.Proofs.YtknbhgodhmcemaaDoor.Own Go.Proofs.YtknbhgodhmcemaaDoor.Cel Go.Proofs.YtknbhgodhmcemaaDoor.Dk
open Go.Proofs.YtknbhgodhmcemaaDoor.Sl (Rec openS open_calls recV recV_one)
attribute [local go_sem] Oper.semAt_some
variable {B p : Nat} {S : DS} {F : Nat → Prop} {W : World}
theorem records_calls (p fr room : Nat) (V : World) :
    Calls Tryd.prog 54 #[.pointer (some ⟨p, 0, none⟩), .int .i64 (fr : Nat), .int .i64 (room : Nat)] V fun e V' =>
      e = .returned (.func (.func 85) #[] #[.pointer (some ⟨V.heap.size + 2, 0, none⟩), .pointer (some ⟨V.heap.size, 0, none⟩), .pointer (some ⟨V.heap.size + 1, 0, none⟩)]) ∧
      Below V.heap.size V V' ∧ V'.heap.size = V.heap.size + 3 ∧ V'.heap[V.heap.size]? = some (.cells #[.pointer (some ⟨p, 0, none⟩)] 25 (0, 0)) ∧ V'.heap[V.heap.size + 1]? = some (.cells #[.int .i64 (fr : Nat)] 3 (0, 0)) ∧ V'.heap[V.heap.size + 2]? = some (.cells #[.int .i64 (room : Nat)] 3 (0, 0)) := by
  have b1 := (Below.refl V.heap.size V).alloc (Nat.le_refl _) (.cells #[.pointer (some ⟨p, 0, none⟩)] 25)
  have b2 := b1.alloc (by simp) (.cells #[.int .i64 (fr : Nat)] 3)
  have b3 := b2.alloc (by simp; omega) (.cells #[.int .i64 (room : Nat)] 3)
  have s1 : (V.alloc (.cells #[.pointer (some ⟨p, 0, none⟩)] 25)).heap.size = V.heap.size + 1 := by simp
  have s2 : ((V.alloc (.cells #[.pointer (some ⟨p, 0, none⟩)] 25)).alloc (.cells #[.int .i64 (fr : Nat)] 3)).heap.size = V.heap.size + 2 := by simp
  have z0 := heap_alloc_new V (.cells #[.pointer (some ⟨p, 0, none⟩)] 25)
  have z1 := heap_alloc_new (V.alloc (.cells #[.pointer (some ⟨p, 0, none⟩)] 25)) (.cells #[.int .i64 (fr : Nat)] 3)
  have z2 := heap_alloc_new ((V.alloc (.cells #[.pointer (some ⟨p, 0, none⟩)] 25)).alloc (.cells #[.int .i64 (fr : Nat)] 3)) (.cells #[.int .i64 (room : Nat)] 3)
  rw [s1] at z1
  rw [s2] at z2
  have s3 : (((V.alloc (.cells #[.pointer (some ⟨p, 0, none⟩)] 25)).alloc (.cells #[.int .i64 (fr : Nat)] 3)).alloc (.cells #[.int .i64 (room : Nat)] 3)).heap.size = V.heap.size + 3 := by simp
  have y0 : ((V.alloc (.cells #[.pointer (some ⟨p, 0, none⟩)] 25)).alloc (.cells #[.int .i64 (fr : Nat)] 3)).heap[V.heap.size]? = some (.cells #[.pointer (some ⟨p, 0, none⟩)] 25 (0, 0)) := Own.keep z0 ((Below.refl _ _).alloc (Nat.le_refl _) _)
  have y0' : (((V.alloc (.cells #[.pointer (some ⟨p, 0, none⟩)] 25)).alloc (.cells #[.int .i64 (fr : Nat)] 3)).alloc (.cells #[.int .i64 (room : Nat)] 3)).heap[V.heap.size]? = some (.cells #[.pointer (some ⟨p, 0, none⟩)] 25 (0, 0)) := Own.keep y0 ((Below.refl _ _).alloc (Nat.le_refl _) _)
  have y1 : (((V.alloc (.cells #[.pointer (some ⟨p, 0, none⟩)] 25)).alloc (.cells #[.int .i64 (fr : Nat)] 3)).alloc (.cells #[.int .i64 (room : Nat)] 3)).heap[V.heap.size + 1]? = some (.cells #[.int .i64 (fr : Nat)] 3 (0, 0)) := Own.keep z1 ((Below.refl _ _).alloc (Nat.le_refl _) _)
  have H := Aside0.mk (And.intro b3 (And.intro s3 (And.intro y0' (And.intro y1 z2))))
  clear s3 y0 y0' y1
  clear b1 b2 b3 s1 s2 z0 z1 z2
  go_enter Tryd.func54, Tryd.ntmps54
  go_wp2
  go_ret
  exact ⟨rfl, H.out⟩
def nw (m : Nat) (x : RX) : Nat := if x.1.2.k = 2 ∨ x.1.2.k = 3 then max m x.1.2.g else m
def nwF (l : List RX) : Nat := l.foldl nw 0
theorem nwF_snoc (l : List RX) (x : RX) : nwF (l ++ [x]) = nw (nwF l) x := by simp [nwF]
theorem newGo_fold (rd : List ByteArray) (fr : Nat) : ∀ (n i m : Nat), i + n ≤ 1000000 → newGo rd fr n i m = (recsGo rd fr n i).foldl nw m
  | 0, i, m, _ => rfl
  | n + 1, i, m, h => by
    rw [newGo, recsGo]
    by_cases ho : (openS (rd.getD (fr + i) ByteArray.empty)).2 = 0
    · rw [if_neg (fun x => x ho), dif_pos ⟨ho, by omega⟩, List.foldl_cons, newGo_fold rd fr n (i + 1) _ (by omega)]
      rfl
    · rw [if_pos ho, dif_neg (fun x => ho x.1), newGo_fold rd fr n (i + 1) m (by omega)]
theorem own_row (b : Nat) (cs : Array Value) (t : TypeId) {β : Type} : Own (fun (_ : β) (V : World) => V.heap[b]? = some (.cells cs t (0, 0))) := fun s X Y row hs hg hrow =>
  (hg.block b (Array.getElem?_eq_some_iff.1 hs).1 (fun e => by
    obtain ⟨o, ho, hc⟩ := hrow b e.symm
    rw [hs] at ho
    cases ho
    cases hc)).trans hs
theorem own_rowf {β : Type} (b : Nat) (f : β → Array Value) (t : TypeId) : Own (fun (s : β) (V : World) => V.heap[b]? = some (.cells (f s) t (0, 0))) := fun s X Y row hs hg hrow =>
  (hg.block b (Array.getElem?_eq_some_iff.1 hs).1 (fun e => by
    obtain ⟨o, ho, hc⟩ := hrow b e.symm
    rw [hs] at ho
    cases ho
    cases hc)).trans hs
theorem own_size {β : Type} (B k : Nat) : OwnFrom B (fun (_ : β) (V : World) => k ≤ V.heap.size) := fun _ _ _ _ hs hg _ => Nat.le_trans hs hg.size
theorem keepsFrom_below {V V' : World} {B : Nat} (hb : Below V.heap.size V V') : KeepsFrom B V V' := ⟨hb.size, fun k o _ hk _ => (hb.block k (Array.getElem?_eq_some_iff.1 hk).1).trans hk⟩
theorem keepB_below {V V' : World} {n0 c : Nat} (hb : Below V.heap.size V V') (hn : n0 ≤ V.heap.size) (hc : c + 3 ≤ V.heap.size) : KeepB n0 c V V' := ⟨hb.mono hn, fun k h1 h2 => hb.block k (by omega)⟩
set_option maxHeartbeats 8000000 in
theorem newest_calls (h : DK B p S F W) (fr room : Nat) (hr : 1 ≤ room) (hl : fr + room ≤ S.lasts.length) (hN : S.lasts.length ≤ 5000) (hsz : ∀ j, (S.read.getD j ByteArray.empty).size ≤ 1000) :
    Calls Tryd.prog 20 #[.pointer (some ⟨p, 0, none⟩), .int .i64 (fr : Nat), .int .i64 (room : Nat)] W fun e W' => e = .returned (.int .u64 (newS S.read fr room : Nat)) ∧ Below W.heap.size W W' := by
  have KM := Aside0.mk (may_calls h fr room hr hl (by omega))
  have hB7 := (Below.refl W.heap.size W).alloc (Nat.le_refl _) (.cells #[.int .u64 0] 29)
  have z7 := heap_alloc_new W (.cells #[.int .u64 0] 29)
  have s7 : (W.alloc (.cells #[.int .u64 0] 29)).heap.size = W.heap.size + 1 := by simp
  refine (callsIn_wide (n := 8)).1 ?_
  refine callsIn_of_wp_marks Tryd.func20 rfl trivial ?_ rfl
  simp only [Tryd.ntmps20, List.size_toArray, List.length_cons, List.length_nil, Nat.reduceAdd, Nat.reduceSub, Array.replicate_succ, Array.replicate_zero, List.push_toArray, List.append_toArray, List.nil_append, List.cons_append]
  gi_wp2
  refine ⟨trivial, ?_⟩
  refine (callsIn_wide.2 KM.out).mono ?_
  rintro e w1 ⟨rfl, rfl⟩
  clear KM
  gi_wp2
  generalize W.alloc (.cells #[.int .u64 0] 29) = V7 at hB7 z7 s7 ⊢
  refine ⟨trivial, ?_⟩
  refine (callsIn_wide.2 (records_calls p fr room V7)).mono ?_
  rintro e V8 ⟨rfl, hb, s8, y0, y1, y2⟩
  have hIW : IW B p S F W.heap.size V7.heap.size fr room V8 := ⟨(h.below hB7).below hb, fun k hk => (h.lt hk).2, y0, y1, y2⟩
  have z8 : V8.heap[W.heap.size]? = some (.cells #[.int .u64 0] 29 (0, 0)) := Own.keep z7 hb
  have hB8 : Below W.heap.size W V8 := hB7.trans (hb.mono hB7.size)
  rw [s7] at hIW s8 ⊢
  clear y0 y1 y2 hb z7 hB7 s7 h
  gi_wp2
  refine wpIn_rangeFunc_ownH rfl (by omega) (gf := 85) (lb := #[.pointer (some ⟨W.heap.size + 1 + 2, 0, none⟩), .pointer (some ⟨W.heap.size + 1, 0, none⟩), .pointer (some ⟨W.heap.size + 1 + 1, 0, none⟩)]) rfl trivial (enters_of Tryd.func85 (by kernel_rfl) rfl)
    (recs_stops 7 (by omega) hIW (by omega) hl hN hsz) keepB_t (keepB_b (by omega) (by omega)) (Below.refl _ _) (fun _ => rfl)
    (fun pre V => V.heap[W.heap.size]? = some (.cells #[.int .u64 (nwF pre : Nat)] 29 (0, 0)) ∧ Below W.heap.size W V ∧ V8.heap.size ≤ V.heap.size)
    (fun _ _ _ => False)
    (OwnFrom.and (Own.from (own_rowf W.heap.size (fun pre => #[.int .u64 (nwF pre : Nat)]) 29) _) (OwnFrom.and (ownFrom_below (Nat.le_refl _) (by omega)) (own_size _ _)))
    (fun _ _ _ _ _ hs _ _ => hs)
    ⟨z8, hB8, Nat.le_refl _⟩
    (fun x a' V => ∃ Bx, W.heap.size + 4 ≤ Bx ∧ V.heap[Bx]? = some (.cells (recV x.1.2) 64 (0, 0)) ∧ a' = { tmps := #[.pointer (some ⟨p, 0, none⟩), .int .i64 (fr : Nat), .int .i64 (room : Nat), undef, undef, undef, .int .u64 0, .pointer (some ⟨W.heap.size, 0, none⟩), undef, .pointer (some ⟨Bx, 0, none⟩), .pointer (some ⟨p, 0, none⟩), .int .i64 (fr : Nat), .int .i64 (room : Nat), .bool true, .bool false, .pointer (some ⟨p, 0, none⟩), .int .i64 (fr : Nat), .int .i64 (room : Nat), .func (.func 85) #[] #[.pointer (some ⟨W.heap.size + 1 + 2, 0, none⟩), .pointer (some ⟨W.heap.size + 1, 0, none⟩), .pointer (some ⟨W.heap.size + 1 + 1, 0, none⟩)], .int .i64 (x.1.1 : Nat), .agg (recV x.1.2), undef, undef, undef, undef, undef, undef, undef, undef, undef, undef, undef, undef, undef], defers := [] })
    (fun x a' s X Y row hs hg hrow => by
      obtain ⟨Bx, h1, h2, h3⟩ := hs
      exact ⟨Bx, h1, own_row Bx _ _ () X Y row h2 hg (fun r e => (hrow r e).2), h3⟩)
    ?assign ?body ?done ?stop
  case assign =>
    intro l pre x V K hi hK
    have hb2 := below_setRow ((Below.refl V.heap.size V).alloc (Nat.le_refl _) (.cells #[.int .u8 0, .int .u64 0, .int .u32 0, .string ⟨#[]⟩] 64)) (g := V.heap.size) (Nat.le_refl _) (recV x.1.2)
    have z15 : (V.alloc (.cells #[.int .u8 0, .int .u64 0, .int .u32 0, .string ⟨#[]⟩] 64)).heap[V.heap.size]? = some (.cells #[.int .u8 0, .int .u64 0, .int .u32 0, .string ⟨#[]⟩] 64 (0, 0)) := heap_alloc_new V _
    have hi2 : (Tryd.prog.info? 64).map (·.size) = some (recV x.1.2).size := Sl.infoR
    have hone2 := recV_one x.1.2
    have hK2 := fun a' => hK a' _ (keepsFrom_below hb2) (keepB_below hb2 (by have := hi.2.2; omega) (by have := hi.2.2; omega)) ⟨Own.keep hi.1 hb2, hi.2.1.trans (hb2.mono hi.2.1.size), Nat.le_trans hi.2.2 hb2.size⟩
    have HK := Aside0.mk (fun a' (h : a' = _) => hK2 a' ⟨V.heap.size, by have := hi.2.2; omega, setRow_heap _ _ _ (recV x.1.2) _ (0, 0) z15, h⟩)
    clear hK hK2 hb2 hi
    simp only [encX]
    gi_wp2_with (first | refine in_store_row rfl 64 _ _ rfl V.heap.size (recV x.1.2) rfl rfl 64 _ z15 hi2 rfl hone2 ?_ | fail)
    exact HK.out _ rfl
  case body =>
    rintro l pre x a' V hl2 ⟨r, hr2⟩ ⟨z, hB, hsV⟩ ⟨Bx, hBx, bX, rfl⟩ hlt
    obtain ⟨⟨ix, rx⟩, hx1, hx2, hx3⟩ := x
    have c7 : V.cell? ⟨W.heap.size, 0, none⟩ = some (.int .u64 (nwF pre : Nat)) := cell_of_row _ _ 0 _ _ _ z
    have f7 : V.frozen? ⟨W.heap.size, 0, none⟩ = false := frozen_of_row _ _ 0 _ _ z
    have r0 : V.cell? ⟨Bx, 0, none⟩ = some (.int .u8 (rx.k : Nat)) := cell_of_row _ _ 0 _ _ _ bX
    have r1 : V.cell? ⟨Bx, 1, none⟩ = some (.int .u64 (rx.g : Nat)) := cell_of_row _ _ 1 _ _ _ bX
    by_cases hk : rx.k = 2 ∨ rx.k = 3
    · have hn : nwF (pre ++ [⟨(ix, rx), hx1, hx2, hx3⟩]) = max (nwF pre) rx.g := by rw [nwF_snoc, nw, if_pos hk]
      have HB := Aside0.mk hB
      have hmx : max ((nwF pre : Nat) : Int) (rx.g : Int) = ((max (nwF pre) rx.g : Nat) : Int) := by omega
      have HN := Aside0.mk (show (V.setCell ⟨W.heap.size, 0, none⟩ (.int .u64 ((max (nwF pre) rx.g : Nat) : Int))).heap[W.heap.size]? = some (.cells #[.int .u64 (nwF (pre ++ [⟨(ix, rx), hx1, hx2, hx3⟩]) : Nat)] 29 (0, 0)) ∧ Below W.heap.size W (V.setCell ⟨W.heap.size, 0, none⟩ (.int .u64 ((max (nwF pre) rx.g : Nat) : Int))) ∧ V8.heap.size ≤ (V.setCell ⟨W.heap.size, 0, none⟩ (.int .u64 ((max (nwF pre) rx.g : Nat) : Int))).heap.size from
        ⟨by rw [hn]; exact heap_setCell_same V _ 0 _ _ _ z, hB.setCell (p := ⟨W.heap.size, 0, none⟩) (Nat.le_refl _) _, by simpa [World.setCell] using hsV⟩)
      have HKB := Aside0.mk (show KeepB W.heap.size (W.heap.size + 1) V (V.setCell ⟨W.heap.size, 0, none⟩ (.int .u64 ((max (nwF pre) rx.g : Nat) : Int))) from ⟨(Below.refl _ V).setCell (p := ⟨W.heap.size, 0, none⟩) (Nat.le_refl _) _, fun k h1 h2 => set_other V _ _ k (by show k ≠ W.heap.size; omega)⟩)
      have HKF := Aside0.mk ((KeepsOthers.setCell V ⟨W.heap.size, 0, none⟩ (.int .u64 ((max (nwF pre) rx.g : Nat) : Int))).from V8.heap.size)
      rw [← hmx] at HN HKB HKF
      clear hn z hB hsV bX hmx
      by_cases hk2 : rx.k = 2
      · have e1 : ((rx.k : Int) == 2) = true := by rw [hk2]; rfl
        clear hk
        gi_wp2
        exact ⟨HKF.out, HKB.out, HN.out⟩
      · have e1 : ((rx.k : Int) == 2) = false := by simp; omega
        have e2 : ((rx.k : Int) == 3) = true := by simp; omega
        clear hk
        gi_wp2
        exact ⟨HKF.out, HKB.out, HN.out⟩
    · have hn : nwF (pre ++ [⟨(ix, rx), hx1, hx2, hx3⟩]) = nwF pre := by rw [nwF_snoc, nw, if_neg hk]
      have HN := Aside0.mk (show V.heap[W.heap.size]? = some (.cells #[.int .u64 (nwF (pre ++ [⟨(ix, rx), hx1, hx2, hx3⟩]) : Nat)] 29 (0, 0)) ∧ Below W.heap.size W V ∧ V8.heap.size ≤ V.heap.size from ⟨by rw [hn]; exact z, hB, hsV⟩)
      have e1 : ((rx.k : Int) == 2) = false := by simp; omega
      have e2 : ((rx.k : Int) == 3) = false := by simp; omega
      clear hn z hB hsV bX hk
      gi_wp2
      exact ⟨KeepsFrom.refl _ _, ⟨Below.refl _ _, fun _ _ _ => rfl⟩, HN.out⟩
  case done =>
    rintro D xs V hD rfl ⟨z, hB, hsV⟩ hK
    have c7 : V.cell? ⟨W.heap.size, 0, none⟩ = some (.int .u64 (nwF (recsGo S.read fr room 0) : Nat)) := cell_of_row _ _ 0 _ _ _ z
    have hE := Aside0.mk (show newS S.read fr room = nwF (recsGo S.read fr room 0) from newGo_fold S.read fr room 0 0 (by omega))
    gi_wp2
    refine ⟨by simp, .inl ⟨_, _, rfl, run_takeDeferred hK, ?_⟩⟩
    exact ⟨_, results_tmp rfl _ _ _, by rw [hE.out]; rfl, hB.trans (belowK_b (w := W) (Nat.le_refl _) V D _ _ (by omega) hK rfl rfl)⟩
  case stop =>
    rintro D c pre V _ _ h _
    exact h.elim
end Go.Proofs.YtknbhgodhmcemaaDoor.So
