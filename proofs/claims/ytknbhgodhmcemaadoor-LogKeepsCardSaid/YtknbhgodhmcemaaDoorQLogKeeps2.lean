/- Texts of the seat, as far as the row needs them. -/
import Derived.Below
import Derived.BigQuiet
import Derived.ChangeArms
import Derived.ChangeSlices
import Derived.DataReads
import Derived.Deep.CutBlock
import Derived.Deep.DeepCutAuto
import Derived.Deep.DeepFit
import Derived.Deep.Light
import Derived.Deep.LoopGhost
import Derived.Deep.QuietTactic
import Derived.Deep.RegionHeld3
import Derived.Ground.Names2Prog
import Derived.LaidMore
import Derived.Laws.AppendOwn
import Derived.Laws.BitsAllLaws
import Derived.Laws.BitsLemmas
import Derived.Laws.CopyOwn
import Derived.Laws.Externs
import Derived.Laws.IdiomCopy
import Derived.Laws.IdiomStrings
import Derived.Laws.OwnMore
import Derived.Laws.ResultCell
import Derived.Laws.Rows
import Derived.Laws.StructEq
import Derived.Laws.Tables
import Derived.Lib.AppendStr
import Derived.Lib.FrozenHead2
import Derived.Lib.OthersKept
import Derived.Lib.RepeatB
import Derived.Lib.TrimByte
import Derived.Lib.UnsafeStr
import Derived.Maps.Own
import Derived.Maps.OwnOps
import Derived.Maps.OwnSet
import Derived.Maps.Views
import Derived.OrdersHeld
import Derived.Outline
import Derived.OwnWalk
import Derived.ProofKit
import Derived.Shelf.Bits.Mul64
import Derived.Shelf.Slices.Clone
import Derived.Shelf.Small.Strs
import Derived.Shelf.Small.Utf8
import Derived.Shelf.Strings.AsciiSet
import Derived.Shelf.Strings.Builder1
import Derived.Shelf.Strings.Builder2
import Derived.Shelf.Strings.Builder2Cap
import Derived.Shelf.Strings.BuilderCap
import Derived.Shelf.Strings.BuilderF
import Derived.Shelf.Strings.BuilderK
import Derived.Shelf.Strings.Prefix
import Derived.Shelf.Strings.Repeat
import Derived.Shelf.Strings.Runes
import Derived.Shelf.Strings.Search1
import Derived.Shelf.Strings.Trim
import Derived.Shelf.Unicode.DecodeSlow
import Derived.SliceStrings
import Derived.StillTailTactics
import Derived.Test.YtknbhgodhmcemaaDoorProg
import Derived.Test.YtknbhgodhmcemaaDoorRows
import Derived.WalkKit
import Derived.WalkMore
import Derived.WideShapes
import Derived.Test.YtknbhgodhmcemaaDoorQLogKeeps0
import Derived.Test.YtknbhgodhmcemaaDoorQLogKeeps1
set_option linter.unusedVariables false
set_option linter.unusedSimpArgs false
namespace Go.Proofs.YtknbhgodhmcemaaDoor.Lg
set_option linter.unusedSimpArgs false
set_option linter.unusedVariables false
set_option maxRecDepth 100000
open Go.RowKit Go.Proofs.YtknbhgodhmcemaaDoor.Own Go.Proofs.YtknbhgodhmcemaaDoor.Cel Go.Proofs.YtknbhgodhmcemaaDoor.Dk
theorem DY.start {w V : World} {p : Nat} {S : DS} {F : Nat → Prop} (d : DK w.heap.size p S F V) (b : Below w.heap.size w V) : DY w p S [] (.slice none 0 0) [] V :=
  ⟨F, d, b, fun x hx => absurd hx (by simp), World.ownsRow_nil _ _ _ _, fun k e => absurd e (by simp [Value.ownBlock])⟩
theorem DY.replay {w V : World} {p : Nat} {S : DS} {X : List (Nat × Obj)} {v : Value} {xs : List ByteArray} (h : DY w p S X v xs V) (fr room g : Nat) (hr : 1 ≤ room) (hl : fr + room ≤ S.lasts.length) (hN : S.lasts.length ≤ 1000000) (hg : g < 18446744073709551616) (hsz : ∀ j, (S.read.getD j ByteArray.empty).size ≤ 1000) :
    Calls Tryd.prog 11 #[.pointer (some ⟨p, 0, none⟩), .int .i64 (fr : Nat), .int .i64 (room : Nat), .int .u64 (g : Nat)] V fun e V' =>
      ∃ u, e = .returned (.tuple #[.agg (logV fr room g (repl S.read fr g room 0).length), u, .int .i64 0]) ∧ V'.ownsRow V.heap.size 9 1 u (repl S.read fr g room 0).length (strs (repl S.read fr g room 0)) ∧ Below V.heap.size V V' := by
  obtain ⟨F, d, _⟩ := h
  exact replay_calls d fr room g hr hl hN hg hsz
theorem DY.append {w V : World} {p : Nat} {S : DS} {X : List (Nat × Obj)} {v : Value} {xs : List ByteArray} (h : DY w p S X v xs V) (fr room g nx : Nat) (d : ByteArray) (hr : 1 ≤ room) (hl : fr + room ≤ S.lasts.length) (hN : S.lasts.length ≤ 1000000) (hnx : nx ≤ room) (hg : g < 18446744073709551616)
    (hok : S.ok) (ha : S.armed ≤ 9223372036854775807) (hn : S.waits.length ≤ 999999) (ho0 : 0 ≤ S.ops) (ho : S.ops ≤ 4611686018427387903) :
    Calls Tryd.prog 13 #[.agg (logV fr room g nx), .pointer (some ⟨p, 0, none⟩), .string d] V fun e V' =>
      e = .returned (.tuple #[.agg (logV fr room g (appS S fr room g nx d).2.1), .int .i64 (appS S fr room g nx d).2.2]) ∧ DY w p (appS S fr room g nx d).1 X v xs V' :=
  h.did (Q := fun e => e = .returned (.tuple #[.agg (logV fr room g (appS S fr room g nx d).2.1), .int .i64 (appS S fr room g nx d).2.2])) (fun F hd => append_calls hd fr room g nx d hr hl hN hnx hg hok ha hn ho0 ho)
theorem box_new {V : World} (zc cs : Array Value) (t : TypeId) : Below V.heap.size V ((V.alloc (.cells zc t)).setRow V.heap.size cs) ∧ ((V.alloc (.cells zc t)).setRow V.heap.size cs).heap[V.heap.size]? = some (.cells cs t (0, 0)) ∧ (V.alloc (.cells zc t)).heap[V.heap.size]? = some (.cells zc t (0, 0)) :=
  ⟨below_setRow ((Below.refl V.heap.size V).alloc (Nat.le_refl _) (.cells zc t)) (g := V.heap.size) (Nat.le_refl _) cs, setRow_heap _ _ _ cs t (0, 0) (heap_alloc_new V _), heap_alloc_new V _⟩
def sa : ByteArray := ⟨#[97]⟩
def sb : ByteArray := ⟨#[98]⟩
def D4 : DS := ⟨List.replicate 4 (sect 0), [], 0, 0⟩
def D4a : DS := ⟨(List.replicate 4 (sect 0)).set 1 (sec 7 0 sa), [], 0, 2⟩
def D4b : DS := ⟨((List.replicate 4 (sect 0)).set 1 (sec 7 0 sa)).set 2 (sec 7 1 sb), [], 0, 4⟩
theorem app_a : appS D4 1 3 7 0 sa = (D4a, 1, 0) := by
  have h1 : (D4.put ((1 + 0 : Nat) : Int) (sec 7 0 sa)) = (⟨List.replicate 4 (sect 0), [(1, sec 7 0 sa)], 0, 1⟩, 0) := put_ok ⟨by decide, by decide⟩ (sec_size 7 0 sa (by decide)) rfl
  unfold appS
  rw [if_neg (by decide), if_neg (by decide), h1, if_neg (by simp)]
  rfl
theorem app_b : appS D4a 1 3 7 1 sb = (D4b, 2, 0) := by
  have h1 : (D4a.put ((1 + 1 : Nat) : Int) (sec 7 1 sb)) = (⟨(List.replicate 4 (sect 0)).set 1 (sec 7 0 sa), [(2, sec 7 1 sb)], 0, 3⟩, 0) := put_ok ⟨by decide, by show ((1 + 1 : Nat) : Int) < (((List.replicate 4 (sect 0)).set 1 (sec 7 0 sa)).length : Int); rw [List.length_set, List.length_replicate]; decide⟩ (sec_size 7 1 sb (by decide)) rfl
  unfold appS
  rw [if_neg (by decide), if_neg (by decide), h1, if_neg (by simp)]
  rfl
theorem rep_0 : repl D4.read 1 7 3 0 = [] := by
  have e : D4.read.getD (1 + 0) ByteArray.empty = sect 0 := rfl
  rw [repl, e, dead_rec (dead_blank 7)]; rfl
theorem rep_2 : repl D4b.read 1 7 3 0 = [sa, sb] := by
  have e0 : D4b.read.getD (1 + 0) ByteArray.empty = sec 7 0 sa := rfl
  have e1 : D4b.read.getD (1 + (0 + 1)) ByteArray.empty = sec 7 1 sb := rfl
  have e2 : D4b.read.getD (1 + (0 + 1 + 1)) ByteArray.empty = sect 0 := rfl
  rw [repl, e0, sec_rec 7 0 sa (by decide) (by decide) (by decide), if_pos rfl, sec_open 7 0 sa (by decide) (by decide) (by decide), repl, e1, sec_rec 7 (0 + 1) sb (by decide) (by decide) (by decide), if_pos rfl, sec_open 7 1 sb (by decide) (by decide) (by decide), repl, e2, dead_rec (dead_blank 7)]
  rfl
theorem getD_size (l : List ByteArray) (k : Nat) (h : ∀ s ∈ l, s.size ≤ k) (j : Nat) : (l.getD j ByteArray.empty).size ≤ k := by
  rw [List.getD_eq_getElem?_getD]
  by_cases hj : j < l.length
  · rw [List.getElem?_eq_getElem hj]; exact h _ (List.getElem_mem hj)
  · rw [List.getElem?_eq_none (by omega)]; exact Nat.zero_le _
set_option maxHeartbeats 4000000 in
theorem awake14_calls (w : World) : Calls Tryd.prog 9 #[] w fun e w' => e = .returned (.bool true) ∧ Below w.heap.size w w' := by
  have KN := Aside0.mk (new_good 4 w (by omega) (by omega))
  rw [show ((4 : Nat) : Int) = 4 by rfl] at KN
  have hz : ∀ j, (D4.read.getD j ByteArray.empty).size ≤ 1000 := getD_size _ 1000 (fun s hs => by
    have : s = sect 0 := List.eq_of_mem_replicate (show s ∈ List.replicate 4 (sect 0) from hs)
    rw [this, sect_size]; omega)
  have hz2 : ∀ j, (D4b.read.getD j ByteArray.empty).size ≤ 1000 := getD_size _ 1000 (fun s hs => by
    have hs2 : s ∈ [sect 0, sec 7 0 sa, sec 7 1 sb, sect 0] := hs
    simp only [List.mem_cons, List.not_mem_nil, or_false] at hs2
    rcases hs2 with rfl | rfl | rfl | rfl
    · rw [sect_size]; omega
    · rw [sec_size 7 0 sa (by decide)]; omega
    · rw [sec_size 7 1 sb (by decide)]; omega
    · rw [sect_size]; omega)
  have HZ := Aside0.mk hz
  have HZ2 := Aside0.mk hz2
  have RE := Aside0.mk rep_0
  have RE2 := Aside0.mk rep_2
  have AA := Aside0.mk app_a
  have AB := Aside0.mk app_b
  clear hz hz2
  have i0 : (Tryd.prog.info? 31).map (·.size) = some (logV 1 3 7 0).size := infoL
  have i1 : (Tryd.prog.info? 31).map (·.size) = some (logV 1 3 7 1).size := infoL
  have i2 : (Tryd.prog.info? 31).map (·.size) = some (logV 1 3 7 2).size := infoL
  have q0 := logV_one 1 3 7 0
  have q1 := logV_one 1 3 7 1
  have q2 := logV_one 1 3 7 2
  go_enter Tryd.func9, Tryd.ntmps9
  go_wp2_with fail
  refine KN.out.mono ?_
  rintro x w1 ⟨p, F, rfl, d, b⟩
  have H := Aside0.mk (show DY w p D4 [] (.slice none 0 0) [] w1 from DY.start d b)
  clear d b KN
  go_wp2_with fail
  refine (H.out.replay 1 3 7 (by decide) (by decide) (by decide) (by decide) HZ.out).mono ?_
  rw [RE.out, List.length_nil]
  rintro x V1 ⟨u1, rfl, hrow, hb⟩
  replace H := Aside0.mk (H.out.step hb)
  clear hb hrow
  obtain ⟨hb, h3, h3z⟩ := box_new (V := V1) zLog (logV 1 3 7 0) 31
  have HB := Aside0.mk (H.out.add hb (Nat.le_refl _) h3)
  clear hb
  go_wp2_with (first | refine wpList_store_row rfl 31 _ _ rfl V1.heap.size (logV 1 3 7 0) rfl rfl 31 _ h3z i0 rfl q0 ?_ | refine wpList_load_row rfl 31 _ rfl V1.heap.size rfl 31 _ (0, 0) _ h3 Tryd.underlying31 rfl i0 ?_ | fail)
  have KA := HB.out.append 1 3 7 0 sa (by decide) (by decide) (by decide) (by decide) (by decide) (fun x hx => absurd hx (by simp [D4])) (by decide) (by decide) (by decide) (by decide)
  rw [AA.out] at KA
  dsimp only at KA
  have HB9 := Aside0.mk (show w.heap.size ≤ V1.heap.size from H.out.bel.size)
  refine KA.mono ?_
  rintro x V2 ⟨rfl, h2⟩
  clear KA H HB h3 h3z
  generalize V1.heap.size = b3 at h2 HB9 ⊢
  have z2 := h2.at List.mem_cons_self
  have h4 := h2.row HB9.out (logV 1 3 7 1) (fun x hx => absurd hx (by simp))
  have H := Aside0.mk h4
  have z4 := h4.at List.mem_cons_self
  clear h2 h4
  go_wp2_with (first | refine wpList_store_row rfl 31 _ _ rfl b3 (logV 1 3 7 1) rfl rfl 31 _ z2 i1 rfl q1 ?_ | refine wpList_load_row rfl 31 _ rfl b3 rfl 31 _ (0, 0) _ z4 Tryd.underlying31 rfl i1 ?_ | fail)
  clear z2
  have KA := H.out.append 1 3 7 1 sb (by decide) (by decide) (by decide) (by decide) (by decide) (fun x hx => absurd hx (by simp [D4a])) (by decide) (by decide) (by decide) (by decide)
  rw [AB.out] at KA
  dsimp only at KA
  refine KA.mono ?_
  rintro x V3 ⟨rfl, h5⟩
  replace H := Aside0.mk h5
  clear KA h5 z4
  obtain ⟨hb, h3, h3z⟩ := box_new (V := V3) zLog (logV 1 3 7 2) 31
  replace H := Aside0.mk (H.out.step hb)
  clear hb
  go_wp2_with (first | refine wpList_store_row rfl 31 _ _ rfl V3.heap.size (logV 1 3 7 2) rfl rfl 31 _ h3z i2 rfl q2 ?_ | fail)
  clear h3 h3z
  change Calls _ _ _ ((V3.alloc (.cells zLog 31)).setRow V3.heap.size (logV 1 3 7 2)) _
  generalize (V3.alloc (.cells zLog 31)).setRow V3.heap.size (logV 1 3 7 2) = V4 at H ⊢
  have KA := H.out.replay 1 3 7 (by decide) (by decide) (by decide) (by decide) HZ2.out
  rw [RE2.out, show ([sa, sb] : List ByteArray).length = 2 from rfl] at KA
  refine KA.mono ?_
  rintro x V5 ⟨u1, rfl, hrow, hb⟩
  replace H := Aside0.mk (H.out.step hb)
  clear hb KA
  obtain ⟨A5, c5, rfl⟩ := owns_slice hrow
  have hrs := RowS.owns hrow rfl
  clear hrow
  obtain ⟨hb, h3, h3z⟩ := box_new (V := V5) zLog (logV 1 3 7 2) 31
  replace H := Aside0.mk (H.out.step hb)
  have HX := Aside0.mk (And.intro (hrs.below hb) h3)
  clear hb hrs
  go_wp2_with (first | refine wpList_store_row rfl 31 _ _ rfl V5.heap.size (logV 1 3 7 2) rfl rfl 31 _ h3z i2 rfl q2 ?_ | fail)
  clear h3 h3z
  change Calls _ _ _ ((V5.alloc (.cells zLog 31)).setRow V5.heap.size (logV 1 3 7 2)) _
  generalize (V5.alloc (.cells zLog 31)).setRow V5.heap.size (logV 1 3 7 2) = V6 at H HX ⊢
  generalize V5.heap.size = b9 at HX ⊢
  refine (awake12_calls _).mono ?_
  rintro x V7 ⟨rfl, hb⟩
  replace H := Aside0.mk (H.out.step hb)
  replace HX := Aside0.mk (And.intro (HX.out.1.below hb) (keep HX.out.2 hb))
  clear hb
  go_wp2_with fail
  refine (Sl.awake_calls _).mono ?_
  rintro x V8 ⟨rfl, hb⟩
  replace H := Aside0.mk (H.out.step hb)
  replace HX := Aside0.mk (And.intro (HX.out.1.below hb) (keep HX.out.2 hb))
  clear hb
  have z9 := HX.out.2
  have c93 : V8.cell? ⟨b9, 3, none⟩ = some (.int .i64 2) := cell_of_row _ _ 3 _ _ _ z9
  obtain ⟨g1, o1, rfl, k0⟩ := HX.out.1 0 (by decide)
  obtain ⟨g2, o2, e2, k1⟩ := HX.out.1 1 (by decide)
  simp only [Option.some.injEq, Addr.mk.injEq, and_true] at e2
  obtain ⟨rfl, rfl⟩ := e2
  have k0' : V8.cell? ⟨g1, o1, none⟩ = some (.string ⟨#[97]⟩) := k0
  have k1' : V8.cell? ⟨g1, o1 + 1, none⟩ = some (.string ⟨#[98]⟩) := k1
  clear k0 k1 HX
  go_wp2_with (first | refine Cel.wpList_load_row_w rfl 31 _ rfl b9 rfl 31 _ (0, 0) _ z9 Tryd.underlying31 rfl i2 ?_ | fail)
  refine (full_calls 1 3 7 2 V8).mono ?_
  rintro x V9 ⟨rfl, hb⟩
  replace H := Aside0.mk (H.out.step hb)
  clear hb
  go_wp2
  go_ret
  exact ⟨by first | rfl | decide, H.out.bel⟩
end Go.Proofs.YtknbhgodhmcemaaDoor.Lg
namespace Go.Proofs.YtknbhgodhmcemaaDoor.Lg
set_option linter.unusedSimpArgs false
set_option linter.unusedVariables false
open Go.Proofs.YtknbhgodhmcemaaDoor.Dk
structure Sm (S : DS) (n k : Nat) : Prop where
  arm : S.armed ≤ 1000000
  waits : S.waits.length ≤ n
  ops0 : 0 ≤ S.ops
  ops : S.ops ≤ (k : Int)
theorem sync_cases (S : DS) : (S.sync = (S.fails.1, 7) ∧ S.fails.2 = true) ∨ (S.sync = ({ S.fails.1.crash (fun _ => true) with ops := S.ops + 1 }, 0) ∧ S.fails.2 = false) := by
  unfold DS.sync
  cases h : S.fails.2 with
  | true => exact .inl ⟨if_pos rfl, rfl⟩
  | false => exact .inr ⟨if_neg (by decide), rfl⟩
theorem app_cases {fr room g : Nat} {all : List ByteArray} {sure : Nat} {S : DS} {n k : Nat} (h : LK fr room g all sure S) (b : Sm S n k) (hn : all.length = n) (hr : n < room) (d : ByteArray) (hd : d.size ≤ 110) :
    (∃ S', appS S fr room g n d = (S', n, 7) ∧ LK fr room g all sure S' ∧ Sm S' n k) ∨
    (∃ S', appS S fr room g n d = (S', n + 1, 7) ∧ LK fr room g (all ++ [d]) sure S' ∧ Sm S' (n + 1) (k + 2)) ∨
    (∃ S', appS S fr room g n d = (S', n + 1, 0) ∧ LK fr room g (all ++ [d]) (n + 1) S' ∧ Sm S' (n + 1) (k + 2)) := by
  obtain ⟨l1, l2, l3⟩ := fails_lasts S
  have fa := (fails_armed S).2
  have hl := h.hl
  have b1 := b.arm
  have b2 := b.waits
  have b3 := b.ops0
  have b4 := b.ops
  unfold appS
  rw [if_neg (by omega), if_neg (by omega)]
  rcases put_cases S (fr + n) (sec g n d) (by omega) (sec_size g n d hd) with ⟨e, _⟩ | ⟨e, _⟩
  · rw [e, if_pos (show (7 : Int) ≠ 0 by decide)]
    exact .inl ⟨_, rfl, h.failed, ⟨by show S.fails.1.armed ≤ 1000000; omega, by rw [l2]; exact b2, by rw [l3]; exact b3, by rw [l3]; exact b4⟩⟩
  · rw [e, if_neg (fun x => x rfl)]
    have hp := h.failed.put d hd (by omega) (S.ops + 1)
    rw [l2, hn] at hp
    obtain ⟨S1, hS1⟩ : ∃ S1, ({ S.fails.1 with waits := S.waits ++ [(fr + n, sec g n d)], ops := S.ops + 1 } : DS) = S1 := ⟨_, rfl⟩
    have c1 : Sm S1 (n + 1) (k + 1) := by
      rw [← hS1]
      refine ⟨?_, ?_, ?_, ?_⟩
      · show S.fails.1.armed ≤ 1000000; omega
      · show (S.waits ++ [(fr + n, sec g n d)]).length ≤ n + 1; rw [List.length_append]; show S.waits.length + 1 ≤ n + 1; omega
      · show 0 ≤ S.ops + 1; omega
      · show S.ops + 1 ≤ ((k + 1 : Nat) : Int); omega
    rw [hS1] at hp ⊢
    have hl2 : (all ++ [d]).length = n + 1 := by rw [List.length_append, hn]; rfl
    obtain ⟨m1, m2, m3⟩ := fails_lasts S1
    have fa1 := (fails_armed S1).2
    have d1 := c1.arm
    have d2 := c1.waits
    have d3 := c1.ops0
    have d4 := c1.ops
    rcases sync_cases S1 with ⟨e2, _⟩ | ⟨e2, _⟩
    · rw [e2]
      exact .inr (.inl ⟨_, rfl, hp.failed, ⟨by show S1.fails.1.armed ≤ 1000000; omega, by rw [m2]; exact d2, by rw [m3]; exact d3, by rw [m3]; omega⟩⟩)
    · rw [e2]
      refine .inr (.inr ⟨_, rfl, ?_, ⟨?_, ?_, ?_, ?_⟩⟩)
      · have := hp.failed.settle (S1.ops + 1)
        rw [hl2] at this
        exact this
      · show S1.fails.1.armed ≤ 1000000; omega
      · show ([] : List Wt).length ≤ n + 1; simp
      · show 0 ≤ S1.ops + 1; omega
      · show S1.ops + 1 ≤ ((k + 2 : Nat) : Int); omega
theorem LK.fresh (N fr room g : Nat) (hl : fr + room ≤ N) (a o : Int) : LK fr room g [] 0 ⟨List.replicate N (sect 0), [], a, o⟩ := by
  refine ⟨by simpa using hl, by simp, by simp, fun j hj => absurd hj (by simp), fun x (hx : x ∈ ([] : List Wt)) => absurd hx (by simp), fun x (hx : x ∈ ([] : List Wt)) => absurd hx (by simp), fun j hj => absurd hj (by omega), fun j hj => .inl ?_, fun j hj => absurd hj (by simp)⟩
  show dead g ((List.replicate N (sect 0)).getD (fr + j) ByteArray.empty)
  rw [List.getD_eq_getElem?_getD, List.getElem?_replicate, if_pos (by omega)]
  exact dead_blank g
def Full (S : DS) : Prop := (∀ s ∈ S.lasts, s.size = 128) ∧ ∀ x ∈ S.waits, x.2.size = 128
theorem applyW_full : ∀ (ws : List Wt) (l : List ByteArray), (∀ s ∈ l, s.size = 128) → (∀ x ∈ ws, x.2.size = 128) → ∀ s ∈ applyW l ws, s.size = 128
  | [], l, h, _ => h
  | x :: r, l, h, hw => by
    rw [applyW]
    refine applyW_full r _ (fun s hs => ?_) (fun y hy => hw y (List.mem_cons_of_mem _ hy))
    rcases List.mem_or_eq_of_mem_set hs with hs | rfl
    · exact h s hs
    · exact hw x List.mem_cons_self
theorem Full.read {S : DS} (h : Full S) : ∀ s ∈ S.read, s.size = 128 := applyW_full _ _ h.1 h.2
theorem Full.crash {S : DS} (h : Full S) (kp : Nat → Bool) : Full (S.crash kp) :=
  ⟨applyW_full _ _ h.1 (fun x hx => h.2 x (keptW_sub kp 0 S.waits x hx)), fun x (hx : x ∈ ([] : List Wt)) => absurd hx (by simp)⟩
theorem Full.failed {S : DS} (h : Full S) : Full S.fails.1 := by
  unfold DS.fails; split
  · exact h
  · exact h
theorem Full.sync {S : DS} (h : Full S) : Full S.sync.1 := by
  rcases sync_cases S with ⟨e, _⟩ | ⟨e, _⟩
  · rw [e]; exact h.failed
  · rw [e]; exact h.failed.crash _
theorem Full.put {S : DS} (h : Full S) (i : Nat) (s : ByteArray) (hi : i < S.lasts.length) (hs : s.size = 128) : Full (S.put (i : Int) s).1 := by
  rcases put_cases S i s hi hs with ⟨e, _⟩ | ⟨e, _⟩
  · rw [e]; exact h.failed
  · rw [e]
    refine ⟨h.failed.1, fun x hx => ?_⟩
    rcases List.mem_append.1 hx with hx | hx
    · exact h.2 x hx
    · simp only [List.mem_singleton] at hx
      subst hx; exact hs
theorem Full.app {S : DS} (h : Full S) (fr room g n : Nat) (d : ByteArray) (hl : fr + room ≤ S.lasts.length) : Full (appS S fr room g n d).1 := by
  unfold appS
  by_cases h1 : room ≤ n
  · rw [if_pos h1]; exact h
  · rw [if_neg h1]
    by_cases h2 : 110 < d.size
    · rw [if_pos h2]; exact h
    · rw [if_neg h2]
      have hp := h.put (fr + n) (sec g n d) (by omega) (sec_size g n d (by omega))
      by_cases h3 : (S.put ((fr + n : Nat) : Int) (sec g n d)).2 ≠ 0
      · rw [if_pos h3]; exact hp
      · rw [if_neg h3]; exact hp.sync
theorem Full.fresh (N : Nat) (a o : Int) : Full ⟨List.replicate N (sect 0), [], a, o⟩ :=
  ⟨fun s hs => by rw [List.eq_of_mem_replicate hs, sect_size], fun x (hx : x ∈ ([] : List Wt)) => absurd hx (by simp)⟩
theorem put_len (S : DS) (i : Nat) (s : ByteArray) (hi : i < S.lasts.length) (hs : s.size = 128) : (S.put (i : Int) s).1.lasts.length = S.lasts.length := by
  rcases put_cases S i s hi hs with ⟨e, _⟩ | ⟨e, _⟩
  · rw [e]; show S.fails.1.lasts.length = _; rw [(fails_lasts S).1]
  · rw [e]; show S.fails.1.lasts.length = _; rw [(fails_lasts S).1]
theorem crash_len (S : DS) (kp : Nat → Bool) : (S.crash kp).lasts.length = S.lasts.length := applyW_len _ _
theorem sync_len (S : DS) : S.sync.1.lasts.length = S.lasts.length := by
  rcases sync_cases S with ⟨e, _⟩ | ⟨e, _⟩
  · rw [e]; show S.fails.1.lasts.length = _; rw [(fails_lasts S).1]
  · rw [e]; show (S.fails.1.crash _).lasts.length = _; rw [crash_len, (fails_lasts S).1]
theorem app_lasts (S : DS) (fr room g n : Nat) (d : ByteArray) (hl : fr + room ≤ S.lasts.length) : (appS S fr room g n d).1.lasts.length = S.lasts.length := by
  unfold appS
  by_cases h1 : room ≤ n
  · rw [if_pos h1]
  · rw [if_neg h1]
    by_cases h2 : 110 < d.size
    · rw [if_pos h2]
    · rw [if_neg h2]
      have hp := put_len S (fr + n) (sec g n d) (by omega) (sec_size g n d (by omega))
      by_cases h3 : (S.put ((fr + n : Nat) : Int) (sec g n d)).2 ≠ 0
      · rw [if_pos h3]; exact hp
      · rw [if_neg h3]; exact (sync_len _).trans hp
end Go.Proofs.YtknbhgodhmcemaaDoor.Lg
namespace Go.Proofs.YtknbhgodhmcemaaDoor.Lg
set_option linter.unusedSimpArgs false
set_option linter.unusedVariables false
set_option maxRecDepth 100000
open Go.RowKit Go.Proofs.YtknbhgodhmcemaaDoor.Own Go.Proofs.YtknbhgodhmcemaaDoor.Cel Go.Proofs.YtknbhgodhmcemaaDoor.Dk
def ArgK (A : Option Addr) (ks : List Bool) (V : World) : Prop := ∀ i (h : i < ks.length), ∃ b o, A = some ⟨b, o, none⟩ ∧ V.cell? ⟨b, o + i, none⟩ = some (.bool (ks[i]'h))
theorem DY.crash {w V : World} {p : Nat} {S : DS} {X : List (Nat × Obj)} {v : Value} {xs : List ByteArray} (h : DY w p S X v xs V) (hok : S.ok) (hn : S.waits.length ≤ 1000000) (A : Option Addr) (c : Nat) (ks : List Bool) (hk : ArgK A ks w) (hl : ks.length ≤ 1000000) :
    Calls Tryd.prog 14 #[.pointer (some ⟨p, 0, none⟩), .slice A ks.length c] V fun e V' => e = .returned (.tuple #[]) ∧ DY w p (S.crash (fun j => ks.getD j false)) X v xs V' :=
  h.did (Q := fun e => e = .returned (.tuple #[])) (fun F hd => crash_calls hd hok hn A c ks (fun i hi => by
    obtain ⟨b, o, e, hc⟩ := hk i hi
    have hlt : b < w.heap.size := World.block_lt_of_cell? w _ hc
    exact ⟨o + i, b, o, e, rfl, fun hf => by have := (hd.lt hf).1; omega, (World.cell?_of_block (h.bel.block b hlt)).trans hc⟩) hl)
theorem DY.arm {w V : World} {p : Nat} {S : DS} {X : List (Nat × Obj)} {v : Value} {xs : List ByteArray} (h : DY w p S X v xs V) (n : Int) :
    Calls Tryd.prog 12 #[.pointer (some ⟨p, 0, none⟩), .int .i64 n] V fun e V' => e = .returned (.tuple #[]) ∧ DY w p { S with armed := n } X v xs V' :=
  h.did (Q := fun e => e = .returned (.tuple #[])) (fun F hd => (arm_calls hd n).mono fun _ _ ⟨e, h1, h2⟩ => ⟨e, F, h1, h2, fun _ e => .inl e⟩)
structure KS (w : World) (p b9 : Nat) (av : Value) (all : List ByteArray) (sure n k : Nat) (W : World) : Prop where
  len : all.length = n
  st : ∃ S, DY w p S [(b9, .cells (logV 0 21 5 n) 31 (0, 0))] av all W ∧ LK 0 21 5 all sure S ∧ Sm S n k ∧ Dk.DS.ok S ∧ Full S ∧ S.lasts.length = 21
  lt : w.heap.size ≤ b9
set_option maxHeartbeats 8000000 in
theorem keeps_walk (A1 A2 : Option Addr) (c1 c2 : Nat) (ss : List ByteArray) (a : Nat) (ks : List Bool) (w : World) (h1 : RowS A1 ss w) (h2 : ArgK A2 ks w) (m1 : ss.length ≤ 9223372036854775807) (m2 : ks.length ≤ 9223372036854775807) (ha : a < 256) :
    Calls Tryd.prog 3 #[.slice A1 ss.length c1, .int .u8 (a : Nat), .slice A2 ks.length c2] w fun e w' => e = .returned (.bool true) ∧ Below w.heap.size w w' := by
  obtain ⟨n1, hn1⟩ : ∃ n, ss.length = n := ⟨_, rfl⟩
  obtain ⟨n2, hn2⟩ : ∃ n, ks.length = n := ⟨_, rfl⟩
  rw [hn1] at m1 ⊢
  rw [hn2] at m2 ⊢
  have H1 := Aside0.mk h1
  have N1 := Aside0.mk hn1
  have H2 := Aside0.mk h2
  have N2 := Aside0.mk hn2
  clear h1 h2 hn1 hn2
  by_cases q1 : 20 < n1
  · have t1 : decide (20 < (n1 : Int)) = true := decide_eq_true (by omega)
    have t1' : decide (20 < n1) = true := decide_eq_true q1
    clear q1
    go_enter Tryd.func3, Tryd.ntmps3
    go_wp2_with fail
    refine (awake14_calls _).mono ?_
    rintro x w3 ⟨rfl, hb⟩
    have HB := Aside0.mk hb
    clear hb
    go_wp2
    go_ret
    exact ⟨rfl, HB.out⟩

  have t1 : decide (20 < (n1 : Int)) = false := decide_eq_false (by omega)
  have t1' : decide (20 < n1) = false := decide_eq_false q1
  by_cases q2 : 50 < n2
  · have t2 : decide (50 < (n2 : Int)) = true := decide_eq_true (by omega)
    have t2' : decide (50 < n2) = true := decide_eq_true q2
    clear q1 q2
    go_enter Tryd.func3, Tryd.ntmps3
    go_wp2_with fail
    refine (awake14_calls _).mono ?_
    rintro x w3 ⟨rfl, hb⟩
    have HB := Aside0.mk hb
    clear hb
    go_wp2
    go_ret
    exact ⟨rfl, HB.out⟩

  have t2 : decide (50 < (n2 : Int)) = false := decide_eq_false (by omega)
  have t2' : decide (50 < n2) = false := decide_eq_false q2
  have l1 : n1 ≤ 20 := by omega
  have l2 : n2 ≤ 50 := by omega
  have KN := Aside0.mk (new_good 21 w (by omega) (by omega))
  rw [show ((21 : Nat) : Int) = 21 by rfl] at KN
  have RZ := Aside0.mk (show repl (⟨List.replicate 21 (sect 0), [], 0, 0⟩ : DS).read 0 5 21 0 = [] by
    have e : (⟨List.replicate 21 (sect 0), [], 0, 0⟩ : DS).read.getD (0 + 0) ByteArray.empty = sect 0 := rfl
    rw [repl, e, dead_rec (dead_blank 5)]; rfl)
  have HZ := Aside0.mk (show ∀ j, ((⟨List.replicate 21 (sect 0), [], 0, 0⟩ : DS).read.getD j ByteArray.empty).size ≤ 1000 from getD_size _ 1000 (fun s hs => by rw [(Full.fresh 21 0 0).read s hs]; omega))
  clear q1 q2 m1 m2
  go_enter Tryd.func3, Tryd.ntmps3
  go_wp2_with fail
  refine KN.out.mono ?_
  rintro x w1 ⟨p, F, rfl, d, b⟩
  have H := Aside0.mk (DY.start d b)
  clear d b KN
  go_wp2_with fail
  have KA := H.out.replay 0 21 5 (by decide) (by simp) (by simp) (by decide) HZ.out
  rw [RZ.out, List.length_nil] at KA
  refine KA.mono ?_
  rintro x V1 ⟨u1, rfl, hrow, hb⟩
  replace H := Aside0.mk (H.out.step hb)
  clear hb hrow KA RZ HZ
  obtain ⟨hb, z9, z9z⟩ := box_new (V := V1) zLog (logV 0 21 5 0) 31
  have HB := Aside0.mk (H.out.add hb (Nat.le_refl _) z9)
  have HB9 := Aside0.mk (show w.heap.size ≤ V1.heap.size from H.out.bel.size)
  clear hb H z9
  go_wp2_with (first | refine wpList_store_row rfl 31 _ _ rfl V1.heap.size (logV 0 21 5 (0)) rfl rfl 31 _ z9z (infoLV 0 21 5 (0)) rfl (logV_one 0 21 5 (0)) ?_ | fail)
  clear z9z
  change Calls _ _ _ ((V1.alloc (.cells zLog 31)).setRow V1.heap.size (logV 0 21 5 0)) _
  generalize (V1.alloc (.cells zLog 31)).setRow V1.heap.size (logV 0 21 5 0) = V2 at HB ⊢
  generalize V1.heap.size = b9 at HB HB9 ⊢
  have ha1 : ((a : Int) % 50) % 18446744073709551616 = (a : Int) % 50 := by omega
  refine (HB.out.arm ((a : Int) % 50)).mono ?_
  rintro x V3 ⟨rfl, h3⟩
  have H0 := Aside0.mk (show KS w p b9 (.slice none 0 0) [] 0 0 0 V3 from ⟨rfl, ⟨_, h3, LK.fresh 21 0 21 5 (by omega) _ _, ⟨by show (a : Int) % 50 ≤ 1000000; omega, Nat.le_refl _, Int.le_refl _, by simp⟩, fun x (hx : x ∈ ([] : List Wt)) => absurd hx (by simp), Full.fresh 21 _ _, by simp⟩, HB9.out⟩)
  clear h3 HB ha1
  obtain ⟨i0, hi0, hz0, hz1, hz2⟩ := info_parts infoS
  go_wp2_with fail
  go_loopw [50, 12, 13] (fun iv sv av W => ∃ (i n sure c : Nat) (A : Option Addr) (all : List ByteArray), iv = .int .i64 i ∧ sv = .int .i64 sure ∧ av = .slice A n c ∧ i ≤ n1 ∧ n ≤ i ∧ sure ≤ n ∧ Aside0 (KS w p b9 av all sure n (2 * i) W)) (fun iv _ _ _ => n1 - (intOf iv).toNat)
  case atStart => exact ⟨0, 0, 0, 0, none, [], rfl, rfl, rfl, by omega, by omega, by omega, H0⟩
  case round =>
    obtain ⟨i, n, sure, c, A, all, rfl, rfl, rfl, hi, hni, hsn, HS⟩ := hrel
    clear H0
    by_cases hlt : i < n1
    · have hi1 : (i : Int) < (n1 : Int) := by omega
      have hil : i < ss.length := by rw [N1.out]; exact hlt
      obtain ⟨S, hd, hk, hs, hok, hfu, hl21⟩ := HS.out.st
      have HLEN := Aside0.mk HS.out.len
      have hn20 : n < 20 := by omega
      obtain ⟨bb, oo, rfl, hc⟩ := (H1.out.far (Nat.le_refl _) hd.bel) i hil
      obtain ⟨d, hd8⟩ : ∃ d, ss[i]'hil = d := ⟨_, rfl⟩
      rw [hd8] at hc
      clear hil hd8 HS
      by_cases hdl : 110 < d.size
      · have e1 : decide (110 < (d.size : Int)) = true := decide_eq_true (by omega)
        have e1' : decide (110 < d.size) = true := decide_eq_true hdl
        have HD := Aside0.mk hd
        clear hk hs hok hfu hl21 hd hdl
        go_wp2_with fail
        refine (awake14_calls _).mono ?_
        rintro x V4 ⟨rfl, hb⟩
        have HE := Aside0.mk (HD.out.step hb)
        clear hb HD
        go_wp2
        go_ret
        exact ⟨rfl, HE.out.bel⟩
      have e1 : decide (110 < (d.size : Int)) = false := decide_eq_false (by omega)
      have e1' : decide (110 < d.size) = false := decide_eq_false hdl
      have sb1 := hs.arm
      have sb2 := hs.waits
      have sb3 := hs.ops0
      have sb4 := hs.ops
      have hcast : ((n + 1 : Nat) : Int) = (n : Int) + 1 := by omega
      have fu2 := hfu.app 0 21 5 n d (by omega)
      rcases app_cases hk hs HLEN.out (by omega) d (by omega) with ⟨S', e, kk, ss2⟩ | ⟨S', e, kk, ss2⟩ | ⟨S', e, kk, ss2⟩
      · have ok2 : S'.ok := kk.ok
        have la2 : S'.lasts.length = 21 := by have := app_lasts S 0 21 5 n d (by omega); rw [e] at this; exact this.trans hl21
        rw [e] at fu2
        have KA := hd.append 0 21 5 n d (by decide) (by omega) (by omega) (by omega) (by decide) hok (by omega) (by omega) (by omega) (by omega)
        rw [e] at KA
        dsimp only at KA
        have z9 := hd.at List.mem_cons_self
        have hlt9 : b9 < wr.heap.size := (Array.getElem?_eq_some_iff.1 z9).1
        have HK := Aside0.mk (And.intro kk (And.intro ss2 (And.intro ok2 (And.intro fu2 la2))))
        clear e hk hs hok hfu kk ss2 ok2 fu2 la2
        go_wp2_with (first | refine wpList_load_row rfl 31 _ rfl b9 rfl 31 _ (0, 0) _ z9 Tryd.underlying31 rfl (infoLV 0 21 5 n) ?_ | fail)
        refine KA.mono ?_
        rintro x V4 ⟨rfl, h4⟩
        clear KA z9
        have hlt9' : b9 < V4.heap.size := (Array.getElem?_eq_some_iff.1 (h4.at List.mem_cons_self)).1
        obtain ⟨hb, z16, z16z⟩ := box_new (V := V4) zLog (logV 0 21 5 (n)) 31
        have h5 := h4.add hb (Nat.le_refl _) z16
        clear hb h4 hd
        have c16 : ((V4.alloc (.cells zLog 31)).setRow V4.heap.size (logV 0 21 5 (n))).cell? ⟨V4.heap.size, 3, none⟩ = some (.int .i64 ((n : Nat) : Int)) := cell_of_row _ _ 3 _ _ _ z16
        have z9 := h5.at (b := b9) (List.mem_cons_of_mem _ List.mem_cons_self)
        have c9 : ((V4.alloc (.cells zLog 31)).setRow V4.heap.size (logV 0 21 5 (n))).cell? ⟨b9, 3, none⟩ = some (.int .i64 (n : Int)) := cell_of_row _ _ 3 _ _ _ z9
        have h6 := (h5.sub (Y := [(b9, .cells (logV 0 21 5 n) 31 (0, 0)), (V4.heap.size, .cells (logV 0 21 5 n) 31 (0, 0))]) (fun x hx => by simp only [List.mem_cons, List.not_mem_nil, or_false] at hx ⊢; exact hx.symm)).row HB9.out (logV 0 21 5 n) (fun x hx => by simp only [List.mem_cons, List.not_mem_nil, or_false] at hx; subst hx; show V4.heap.size ≠ b9; omega)
        have HN := Aside0.mk (show KS w p b9 (.slice A n c) all sure n (2 * (i + 1)) _ from ⟨HLEN.out, ⟨_, h6.sub (fun x hx => by simp only [List.mem_cons, List.not_mem_nil, or_false] at hx ⊢; exact .inl hx), HK.out.1, ⟨HK.out.2.1.arm, HK.out.2.1.waits, HK.out.2.1.ops0, by have := HK.out.2.1.ops; omega⟩, HK.out.2.2.1, HK.out.2.2.2.1, HK.out.2.2.2.2⟩, HB9.out⟩)
        clear h5 h6 HK
        go_wp2_with (first | refine wpList_store_row rfl 31 _ _ rfl V4.heap.size (logV 0 21 5 (n)) rfl rfl 31 _ z16z (infoLV 0 21 5 (n)) rfl (logV_one 0 21 5 (n)) ?_ | refine wpList_load_row rfl 31 _ rfl V4.heap.size rfl 31 _ (0, 0) _ z16 Tryd.underlying31 rfl (infoLV 0 21 5 n) ?_ | refine wpList_store_row rfl 31 _ _ rfl b9 (logV 0 21 5 (n)) rfl rfl 31 _ z9 (infoLV 0 21 5 (n)) rfl (logV_one 0 21 5 (n)) ?_ | fail)
        go_roundw
        case rel => exact ⟨i + 1, n, sure, c, A, all, by go_num, rfl, rfl, by omega, by omega, by omega, HN⟩
        case measure => simp [intOf]; omega

      · have ok2 : S'.ok := kk.ok
        have la2 : S'.lasts.length = 21 := by have := app_lasts S 0 21 5 n d (by omega); rw [e] at this; exact this.trans hl21
        rw [e] at fu2
        have KA := hd.append 0 21 5 n d (by decide) (by omega) (by omega) (by omega) (by decide) hok (by omega) (by omega) (by omega) (by omega)
        rw [e] at KA
        dsimp only at KA
        have z9 := hd.at List.mem_cons_self
        have hlt9 : b9 < wr.heap.size := (Array.getElem?_eq_some_iff.1 z9).1
        have HK := Aside0.mk (And.intro kk (And.intro ss2 (And.intro ok2 (And.intro fu2 la2))))
        clear e hk hs hok hfu kk ss2 ok2 fu2 la2
        go_wp2_with (first | refine wpList_load_row rfl 31 _ rfl b9 rfl 31 _ (0, 0) _ z9 Tryd.underlying31 rfl (infoLV 0 21 5 n) ?_ | fail)
        refine KA.mono ?_
        rintro x V4 ⟨rfl, h4⟩
        clear KA z9
        have hlt9' : b9 < V4.heap.size := (Array.getElem?_eq_some_iff.1 (h4.at List.mem_cons_self)).1
        obtain ⟨hb, z16, z16z⟩ := box_new (V := V4) zLog (logV 0 21 5 (n + 1)) 31
        have h5 := h4.add hb (Nat.le_refl _) z16
        clear hb h4 hd
        have c16 : ((V4.alloc (.cells zLog 31)).setRow V4.heap.size (logV 0 21 5 (n + 1))).cell? ⟨V4.heap.size, 3, none⟩ = some (.int .i64 ((n + 1 : Nat) : Int)) := cell_of_row _ _ 3 _ _ _ z16
        have z9 := h5.at (b := b9) (List.mem_cons_of_mem _ List.mem_cons_self)
        have c9 : ((V4.alloc (.cells zLog 31)).setRow V4.heap.size (logV 0 21 5 (n + 1))).cell? ⟨b9, 3, none⟩ = some (.int .i64 (n : Int)) := cell_of_row _ _ 3 _ _ _ z9
        have HAL := Aside0.mk (h5.step ((Below.refl _ _).alloc (Nat.le_refl _) (.cells #[.string d] 9)))
        have HC := Aside0.mk (show ∀ j u, (strs [d])[j]? = some u → (((V4.alloc (.cells zLog 31)).setRow V4.heap.size (logV 0 21 5 (n + 1))).alloc (.cells #[.string d] 9)).cell? ((⟨V4.heap.size + 1, 0, none⟩ : Addr).add j) = some u by
          have e4 : ((V4.alloc (.cells zLog 31)).setRow V4.heap.size (logV 0 21 5 (n + 1))).heap.size = V4.heap.size + 1 := by simp [World.setRow]
          rw [← e4]
          intro j u hj
          cases j with
          | zero => exact (cell_of_row _ ((V4.alloc (.cells zLog 31)).setRow V4.heap.size (logV 0 21 5 (n + 1))).heap.size 0 _ _ _ (heap_alloc_new ((V4.alloc (.cells zLog 31)).setRow V4.heap.size (logV 0 21 5 (n + 1))) _)).trans hj
          | succ j => simp [strs] at hj)
        have HOW := Aside0.mk (show (((V4.alloc (.cells zLog 31)).setRow V4.heap.size (logV 0 21 5 (n + 1))).alloc (.cells #[.string d] 9)).ownsRow w.heap.size 9 1 (.slice A n c) n (strs all) by
          obtain ⟨F', d', b', x', r', n'⟩ := HAL.out
          rw [HLEN.out] at r'
          exact r')
        clear h5
        go_wp2_with (first | refine wpList_store_row rfl 31 _ _ rfl V4.heap.size (logV 0 21 5 (n + 1)) rfl rfl 31 _ z16z (infoLV 0 21 5 (n + 1)) rfl (logV_one 0 21 5 (n + 1)) ?_ | (at_builtin; go_loud (refine wpList_append_far rfl _ _ 22 rfl w.heap.size 9 i0 (.string ⟨#[]⟩) 1 16 Tryd.underlying22 hi0 hz0 hz1 hz2 rfl (by decide) _ _ _ rfl HOW.out ⟨V4.heap.size + 1, 0, none⟩ 1 1 (strs [d]) rfl rfl HC.out (strs_one _) (by decide) (by unfold maxLen; omega) (by omega) HAL.out.bel.size ?_)) | fail)
        intro v' V6 ho2 hg2 hfar
        obtain ⟨A', c', rfl⟩ := owns_slice ho2
        have es : (((V4.alloc (.cells zLog 31)).setRow V4.heap.size (logV 0 21 5 (n + 1))).alloc (.cells #[.string d] 9)).heap.size = V4.heap.size + 1 + 1 := by simp [World.setRow]
        have h6 := HAL.out.grown hg2 ho2 (by rw [HLEN.out]) (by rw [es]; exact hfar)
        clear es
        clear ho2 hg2 hfar HAL HC HOW z16 z16z z9 c16 c9
        have z16 := h6.at (b := V4.heap.size) List.mem_cons_self
        have z9 := h6.at (b := b9) (List.mem_cons_of_mem _ List.mem_cons_self)
        have h7 := (h6.sub (Y := [(b9, .cells (logV 0 21 5 n) 31 (0, 0)), (V4.heap.size, .cells (logV 0 21 5 (n + 1)) 31 (0, 0))]) (fun x hx => by simp only [List.mem_cons, List.not_mem_nil, or_false] at hx ⊢; exact hx.symm)).row HB9.out (logV 0 21 5 (n + 1)) (fun x hx => by simp only [List.mem_cons, List.not_mem_nil, or_false] at hx; subst hx; show V4.heap.size ≠ b9; omega)
        have HN := Aside0.mk (show KS w p b9 (.slice A' (n + 1) c') (all ++ [d]) (sure) (n + 1) (2 * (i + 1)) _ from ⟨by rw [List.length_append, HLEN.out]; rfl, ⟨_, h7.sub (fun x hx => by simp only [List.mem_cons, List.not_mem_nil, or_false] at hx ⊢; exact .inl hx), HK.out.1, ⟨HK.out.2.1.arm, HK.out.2.1.waits, HK.out.2.1.ops0, by have := HK.out.2.1.ops; omega⟩, HK.out.2.2.1, HK.out.2.2.2.1, HK.out.2.2.2.2⟩, HB9.out⟩)
        clear h6 h7 HK
        go_wp2_with (first | refine wpList_load_row rfl 31 _ rfl V4.heap.size rfl 31 _ (0, 0) _ z16 Tryd.underlying31 rfl (infoLV 0 21 5 (n + 1)) ?_ | refine wpList_store_row rfl 31 _ _ rfl b9 (logV 0 21 5 (n + 1)) rfl rfl 31 _ z9 (infoLV 0 21 5 (n + 1)) rfl (logV_one 0 21 5 (n + 1)) ?_ | fail)
        go_roundw
        case rel => exact ⟨i + 1, n + 1, sure, c', A', all ++ [d], by go_num, rfl, by first | rfl | go_num, by omega, by omega, by omega, HN⟩
        case measure => simp [intOf]; omega

      · have ok2 : S'.ok := kk.ok
        have la2 : S'.lasts.length = 21 := by have := app_lasts S 0 21 5 n d (by omega); rw [e] at this; exact this.trans hl21
        rw [e] at fu2
        have KA := hd.append 0 21 5 n d (by decide) (by omega) (by omega) (by omega) (by decide) hok (by omega) (by omega) (by omega) (by omega)
        rw [e] at KA
        dsimp only at KA
        have z9 := hd.at List.mem_cons_self
        have hlt9 : b9 < wr.heap.size := (Array.getElem?_eq_some_iff.1 z9).1
        have HK := Aside0.mk (And.intro kk (And.intro ss2 (And.intro ok2 (And.intro fu2 la2))))
        clear e hk hs hok hfu kk ss2 ok2 fu2 la2
        go_wp2_with (first | refine wpList_load_row rfl 31 _ rfl b9 rfl 31 _ (0, 0) _ z9 Tryd.underlying31 rfl (infoLV 0 21 5 n) ?_ | fail)
        refine KA.mono ?_
        rintro x V4 ⟨rfl, h4⟩
        clear KA z9
        have hlt9' : b9 < V4.heap.size := (Array.getElem?_eq_some_iff.1 (h4.at List.mem_cons_self)).1
        obtain ⟨hb, z16, z16z⟩ := box_new (V := V4) zLog (logV 0 21 5 (n + 1)) 31
        have h5 := h4.add hb (Nat.le_refl _) z16
        clear hb h4 hd
        have c16 : ((V4.alloc (.cells zLog 31)).setRow V4.heap.size (logV 0 21 5 (n + 1))).cell? ⟨V4.heap.size, 3, none⟩ = some (.int .i64 ((n + 1 : Nat) : Int)) := cell_of_row _ _ 3 _ _ _ z16
        have z9 := h5.at (b := b9) (List.mem_cons_of_mem _ List.mem_cons_self)
        have c9 : ((V4.alloc (.cells zLog 31)).setRow V4.heap.size (logV 0 21 5 (n + 1))).cell? ⟨b9, 3, none⟩ = some (.int .i64 (n : Int)) := cell_of_row _ _ 3 _ _ _ z9
        have HAL := Aside0.mk (h5.step ((Below.refl _ _).alloc (Nat.le_refl _) (.cells #[.string d] 9)))
        have HC := Aside0.mk (show ∀ j u, (strs [d])[j]? = some u → (((V4.alloc (.cells zLog 31)).setRow V4.heap.size (logV 0 21 5 (n + 1))).alloc (.cells #[.string d] 9)).cell? ((⟨V4.heap.size + 1, 0, none⟩ : Addr).add j) = some u by
          have e4 : ((V4.alloc (.cells zLog 31)).setRow V4.heap.size (logV 0 21 5 (n + 1))).heap.size = V4.heap.size + 1 := by simp [World.setRow]
          rw [← e4]
          intro j u hj
          cases j with
          | zero => exact (cell_of_row _ ((V4.alloc (.cells zLog 31)).setRow V4.heap.size (logV 0 21 5 (n + 1))).heap.size 0 _ _ _ (heap_alloc_new ((V4.alloc (.cells zLog 31)).setRow V4.heap.size (logV 0 21 5 (n + 1))) _)).trans hj
          | succ j => simp [strs] at hj)
        have HOW := Aside0.mk (show (((V4.alloc (.cells zLog 31)).setRow V4.heap.size (logV 0 21 5 (n + 1))).alloc (.cells #[.string d] 9)).ownsRow w.heap.size 9 1 (.slice A n c) n (strs all) by
          obtain ⟨F', d', b', x', r', n'⟩ := HAL.out
          rw [HLEN.out] at r'
          exact r')
        clear h5
        go_wp2_with (first | refine wpList_store_row rfl 31 _ _ rfl V4.heap.size (logV 0 21 5 (n + 1)) rfl rfl 31 _ z16z (infoLV 0 21 5 (n + 1)) rfl (logV_one 0 21 5 (n + 1)) ?_ | (at_builtin; go_loud (refine wpList_append_far rfl _ _ 22 rfl w.heap.size 9 i0 (.string ⟨#[]⟩) 1 16 Tryd.underlying22 hi0 hz0 hz1 hz2 rfl (by decide) _ _ _ rfl HOW.out ⟨V4.heap.size + 1, 0, none⟩ 1 1 (strs [d]) rfl rfl HC.out (strs_one _) (by decide) (by unfold maxLen; omega) (by omega) HAL.out.bel.size ?_)) | fail)
        intro v' V6 ho2 hg2 hfar
        obtain ⟨A', c', rfl⟩ := owns_slice ho2
        have es : (((V4.alloc (.cells zLog 31)).setRow V4.heap.size (logV 0 21 5 (n + 1))).alloc (.cells #[.string d] 9)).heap.size = V4.heap.size + 1 + 1 := by simp [World.setRow]
        have h6 := HAL.out.grown hg2 ho2 (by rw [HLEN.out]) (by rw [es]; exact hfar)
        clear es
        clear ho2 hg2 hfar HAL HC HOW z16 z16z z9 c16 c9
        have z16 := h6.at (b := V4.heap.size) List.mem_cons_self
        have z9 := h6.at (b := b9) (List.mem_cons_of_mem _ List.mem_cons_self)
        have h7 := (h6.sub (Y := [(b9, .cells (logV 0 21 5 n) 31 (0, 0)), (V4.heap.size, .cells (logV 0 21 5 (n + 1)) 31 (0, 0))]) (fun x hx => by simp only [List.mem_cons, List.not_mem_nil, or_false] at hx ⊢; exact hx.symm)).row HB9.out (logV 0 21 5 (n + 1)) (fun x hx => by simp only [List.mem_cons, List.not_mem_nil, or_false] at hx; subst hx; show V4.heap.size ≠ b9; omega)
        have HN := Aside0.mk (show KS w p b9 (.slice A' (n + 1) c') (all ++ [d]) (n + 1) (n + 1) (2 * (i + 1)) _ from ⟨by rw [List.length_append, HLEN.out]; rfl, ⟨_, h7.sub (fun x hx => by simp only [List.mem_cons, List.not_mem_nil, or_false] at hx ⊢; exact .inl hx), HK.out.1, ⟨HK.out.2.1.arm, HK.out.2.1.waits, HK.out.2.1.ops0, by have := HK.out.2.1.ops; omega⟩, HK.out.2.2.1, HK.out.2.2.2.1, HK.out.2.2.2.2⟩, HB9.out⟩)
        clear h6 h7 HK
        go_wp2_with (first | refine wpList_load_row rfl 31 _ rfl V4.heap.size rfl 31 _ (0, 0) _ z16 Tryd.underlying31 rfl (infoLV 0 21 5 (n + 1)) ?_ | refine wpList_store_row rfl 31 _ _ rfl b9 (logV 0 21 5 (n + 1)) rfl rfl 31 _ z9 (infoLV 0 21 5 (n + 1)) rfl (logV_one 0 21 5 (n + 1)) ?_ | fail)
        go_roundw
        case rel => exact ⟨i + 1, n + 1, n + 1, c', A', all ++ [d], by go_num, by go_num, by first | rfl | go_num, by omega, by omega, by omega, HN⟩
        case measure => simp [intOf]; omega

    · obtain rfl : i = n1 := by omega
      obtain ⟨S, hd, hk, hs, hok, hfu, hl21⟩ := HS.out.st
      have HLEN := Aside0.mk HS.out.len
      have KC := hd.crash hok (by have := hs.waits; omega) A2 c2 ks H2.out (by rw [N2.out]; omega)
      rw [N2.out] at KC
      obtain ⟨m, hm1, hm2, hm3⟩ := hk.crashed (by decide) (by rw [HLEN.out]; omega) (fun j => ks.getD j false)
      rw [HLEN.out] at hm2
      have hml : (all.take m).length = m := by rw [List.length_take, HLEN.out]; omega
      have HF := Aside0.mk (hfu.crash (fun j => ks.getD j false))
      have HL2 := Aside0.mk ((crash_len S (fun j => ks.getD j false)).trans hl21)
      have HM3 := Aside0.mk hm3
      have HML := Aside0.mk hml
      have hmc : m ≤ c := by
        obtain ⟨F', d', b', x', r', n'⟩ := hd
        rw [HLEN.out] at r'
        rcases r'.2 with ⟨e, e2⟩ | ⟨g, cap, cur, e, _, _, hnc, _⟩
        · omega
        · simp only [Value.slice.injEq] at e
          obtain ⟨_, _, rfl⟩ := e
          omega
      obtain ⟨S9, hS9⟩ : ∃ S9, S.crash (fun j => ks.getD j false) = S9 := ⟨_, rfl⟩
      rw [hS9] at KC HF HL2 HM3
      clear hd hk hs hok hfu hl21 HS hm3 hml hS9
      go_wp2_with fail
      refine KC.mono ?_
      rintro x V4 ⟨rfl, h4⟩
      clear KC
      have KA := h4.replay 0 21 5 (by decide) (by rw [HL2.out]; omega) (by rw [HL2.out]; omega) (by decide) (getD_size _ 1000 (fun s hs => by rw [HF.out.read s hs]; omega))
      rw [HM3.out, HML.out] at KA
      go_wp2_with fail
      refine KA.mono ?_
      rintro x V5 ⟨u5, rfl, hrow, hb⟩
      clear KA
      have H := Aside0.mk (h4.step hb)
      obtain ⟨A5, c5, rfl⟩ := owns_slice hrow
      have hrs := RowS.owns hrow HML.out
      clear hrow hb h4
      obtain ⟨hb, z18, z18z⟩ := box_new (V := V5) zLog (logV 0 21 5 m) 31
      replace H := Aside0.mk (H.out.step hb)
      have HR := Aside0.mk (hrs.below hb)
      have c18 : ((V5.alloc (.cells zLog 31)).setRow V5.heap.size (logV 0 21 5 m)).cell? ⟨V5.heap.size, 3, none⟩ = some (.int .i64 (m : Int)) := cell_of_row _ _ 3 _ _ _ z18
      have d1 : decide ((m : Int) < (sure : Int)) = false := decide_eq_false (by omega)
      have d1' : decide (m < sure) = false := decide_eq_false (by omega)
      have d2 : decide ((n : Int) < (m : Int)) = false := decide_eq_false (by omega)
      have d2' : decide (n < m) = false := decide_eq_false (by omega)
      clear hb hrs
      go_wp2_with (first | refine wpList_store_row rfl 31 _ _ rfl V5.heap.size (logV 0 21 5 (m)) rfl rfl 31 _ z18z (infoLV 0 21 5 (m)) rfl (logV_one 0 21 5 (m)) ?_ | fail)
      change Calls _ _ _ ((V5.alloc (.cells zLog 31)).setRow V5.heap.size (logV 0 21 5 m)) _
      clear c18 z18 z18z d1 d1' d2 d2'
      generalize (V5.alloc (.cells zLog 31)).setRow V5.heap.size (logV 0 21 5 m) = V6 at H HR ⊢
      refine (awake14_calls _).mono ?_
      rintro x V7 ⟨rfl, hb⟩
      replace H := Aside0.mk (H.out.step hb)
      replace HR := Aside0.mk (HR.out.below hb)
      clear hb
      have HA := Aside0.mk (show RowS A (all.take m) V7 by
        obtain ⟨F', d', b', x', r', n'⟩ := H.out
        rw [HLEN.out] at r'
        exact (RowS.owns r' HLEN.out).take m)
      have hmc' : (m : Int) ≤ (c : Int) := by omega
      go_wp2_with fail
      have KT := texts_calls A5 A c5 c (all.take m) (all.take m) V7 HR.out HA.out (by rw [HML.out]; omega) (by rw [HML.out]; omega)
      rw [HML.out, decide_eq_true (rfl : all.take m = all.take m)] at KT
      refine KT.mono ?_
      rintro x V8 ⟨rfl, hb⟩
      replace H := Aside0.mk (H.out.step hb)
      clear hb KT
      go_wp2
      go_ret
      exact ⟨rfl, H.out.bel⟩
end Go.Proofs.YtknbhgodhmcemaaDoor.Lg
namespace Go.Proofs.YtknbhgodhmcemaaDoor.Lg
set_option linter.unusedVariables false
set_option maxRecDepth 100000
open Go.RowKit Go.Proofs.YtknbhgodhmcemaaDoor.Own Go.Proofs.YtknbhgodhmcemaaDoor.Cel
theorem plain_addr {W : World} {a : Addr} {v : Value} (h : W.cell? (a.add 0) = some v) : ∃ b o, a = ⟨b, o, none⟩ := by
  have h1 := World.cell?_spot h
  obtain ⟨b, o, spot⟩ := a
  have : spot = none := by simpa [Addr.add] using h1
  subst this
  exact ⟨b, o, rfl⟩
theorem open_ss {H : Type} {enc : TypeId × Value → H} {W : World} {base : Nat} {spare : Nat → Bool} {held : Bool} {r : Reach} {b0 : Nat} {v : Value} {d : DataW H} {ps : List MemPlace}
    (hv : Value.okWide Tryd.prog W r b0 22 v) (h : DataW.Trod enc Tryd.prog W base spare held 22 v d ps) :
    ∃ A c ss, v = .slice A ss.length c ∧ RowS A ss W ∧ ss.length ≤ 9223372036854775807 := by
  obtain ⟨a, len, cap, rfl⟩ := Go.WideShapes.okWide_slice Tryd.underlying22 hv
  obtain ⟨fuel, hf⟩ := h
  have hcz : Tryd.prog.cellsOf 9 = 1 := by kernel_rfl
  rcases Go.ChangeShapes.open_strings Tryd.underlying22 Tryd.underlying9 hcz hf with ⟨hc, _⟩ | ⟨a', len', cap', ss, hc, _, hlc, hcm, hzl, _, hcell, hsz⟩
  · simp [Value.cells] at hc
    obtain ⟨rfl, rfl, rfl⟩ := hc
    exact ⟨none, 0, [], rfl, fun j hj => absurd hj (by simp), by simp⟩
  · simp [Value.cells] at hc
    obtain ⟨rfl, rfl, rfl⟩ := hc
    have hle : len ≤ ss.length := by rw [hzl]; split <;> omega
    refine ⟨some a', cap, ss.take len, ?_, fun j hj => ?_, ?_⟩
    · rw [List.length_take, Nat.min_eq_left hle]
    · rw [List.length_take, Nat.min_eq_left hle] at hj
      obtain ⟨b, o, rfl⟩ := plain_addr (hcell 0 (by omega))
      have hc := hcell j (by omega)
      rw [Seg.addr_add] at hc
      refine ⟨b, o, rfl, hc.trans ?_⟩
      rw [List.getElem_take, List.getD_eq_getElem?_getD, List.getElem?_eq_getElem (by omega)]; rfl
    · rw [List.length_take]
      have : cap ≤ maxLen := hcm
      unfold maxLen at this
      omega
theorem open_ks {H : Type} {enc : TypeId × Value → H} {W : World} {base : Nat} {spare : Nat → Bool} {held : Bool} {r : Reach} {b0 : Nat} {v : Value} {d : DataW H} {ps : List MemPlace}
    (hv : Value.okWide Tryd.prog W r b0 23 v) (h : DataW.Trod enc Tryd.prog W base spare held 23 v d ps) :
    ∃ A c ks, v = .slice A ks.length c ∧ ArgK A ks W ∧ ks.length ≤ 9223372036854775807 := by
  obtain ⟨a, len, cap, rfl⟩ := Go.WideShapes.okWide_slice Tryd.underlying23 hv
  obtain ⟨fuel, hf⟩ := h
  have hcz : Tryd.prog.cellsOf 4 = 1 := by kernel_rfl
  rcases DataW.trod_slice Tryd.underlying23 hf with ⟨hc, _⟩ | ⟨a', len', cap', elems, rest, n, _, hc, hx, hb, hl, hm, hlen, hel, hsp, hns⟩
  · simp [Value.cells] at hc
    obtain ⟨rfl, rfl, rfl⟩ := hc
    exact ⟨none, 0, [], rfl, fun j hj => absurd hj (by simp), by simp⟩
  · simp [Value.cells] at hc
    obtain ⟨rfl, rfl, rfl⟩ := hc
    have each : ∀ i, i < len → ∃ z, W.cell? (a'.add i) = some (.bool z) := fun i hi => by
      have h2 := hel i hi
      rw [List.getElem?_eq_getElem (by omega), hcz, Nat.mul_one, Option.bind_eq_some_iff] at h2
      obtain ⟨cs', hcs, hy⟩ := h2
      obtain ⟨z, rfl, _⟩ := DataW.trod_bool Tryd.underlying4 hy
      exact ⟨z, Go.ChangeShapes.cell_of_cells?_one hcs⟩
    refine ⟨some a', cap, (List.range len).map (fun i => match W.cell? (a'.add i) with | some (.bool z) => z | _ => false), by rw [List.length_map, List.length_range], fun j hj => ?_, ?_⟩
    · have hj2 : j < len := by simpa using hj
      obtain ⟨z0, hz0⟩ := each 0 (by omega)
      obtain ⟨b, o, rfl⟩ := plain_addr hz0
      obtain ⟨z, hz⟩ := each j hj2
      refine ⟨b, o, rfl, ?_⟩
      have hz' := hz
      rw [Seg.addr_add] at hz'
      rw [hz', List.getElem_map, List.getElem_range, hz]
    · rw [List.length_map, List.length_range]
      unfold maxLen at hm
      omega
end Go.Proofs.YtknbhgodhmcemaaDoor.Lg
namespace Go.Proofs.YtknbhgodhmcemaaDoor
open Go.RowKit
mutual
def flat : DataW Unit → List Value
  | .lit (.int k n) => [.int k n]
  | .agg parts => flats parts
  | _ => []
def flats : List (DataW Unit) → List Value
  | [] => []
  | d :: r => flat d ++ flats r
end
def layObj (d : DataW Unit) : Obj → Obj
  | .cells _ t fr => .cells (flat d).toArray t fr
  | o => o
noncomputable def laidWorld (os : Os) : World :=
  let w0 := World.holding Tryd.prog os ⟨#[], #[], []⟩
  { w0 with heap := (w0.heap.modify 1 (layObj Rows.laid_unicode_utf8_first)).modify 2 (layObj Rows.laid_unicode_utf8_acceptRanges) }
end Go.Proofs.YtknbhgodhmcemaaDoor
