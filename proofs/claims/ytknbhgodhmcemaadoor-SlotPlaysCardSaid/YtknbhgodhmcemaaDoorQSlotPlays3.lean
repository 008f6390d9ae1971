/- Texts of the seat, as far as the row needs them. -/
import Derived.Below
import Derived.BigQuiet
import Derived.Deep.CutBlock
import Derived.Deep.DeepCutAuto
import Derived.Deep.DeepFit
import Derived.Deep.Light
import Derived.Deep.LoopGhost
import Derived.Deep.QuietTactic
import Derived.Deep.RegionHeld3
import Derived.Ground.Names2Prog
import Derived.Laws.AppendOwn
import Derived.Laws.BitsAllLaws
import Derived.Laws.BitsLemmas
import Derived.Laws.CopyOwn
import Derived.Laws.Externs
import Derived.Laws.IdiomCopy
import Derived.Laws.IdiomStrings
import Derived.Laws.OwnMore
import Derived.Laws.ResultCell
import Derived.Laws.Rows
import Derived.Laws.StructEq
import Derived.Laws.Tables
import Derived.Lib.AppendStr
import Derived.Lib.FrozenHead2
import Derived.Lib.OthersKept
import Derived.Lib.RepeatB
import Derived.Lib.TrimByte
import Derived.Lib.UnsafeStr
import Derived.LoopIn
import Derived.LoopNIn
import Derived.Maps.Own
import Derived.Maps.OwnOps
import Derived.Maps.OwnSet
import Derived.Maps.Views
import Derived.OrdersHeld
import Derived.Outline
import Derived.OwnWalk
import Derived.OwnWalkIn
import Derived.RangeFuncBound
import Derived.RangeFuncCalls
import Derived.RangeFuncLeaves
import Derived.RangeFuncNested
import Derived.Shelf.Abstract
import Derived.Shelf.Bits.Mul64
import Derived.Shelf.RegionOpen
import Derived.Shelf.Slices.Clone
import Derived.Shelf.Small.Strs
import Derived.Shelf.Small.Utf8
import Derived.Shelf.Strings.AsciiSet
import Derived.Shelf.Strings.Builder1
import Derived.Shelf.Strings.Builder2
import Derived.Shelf.Strings.Builder2Cap
import Derived.Shelf.Strings.BuilderCap
import Derived.Shelf.Strings.BuilderF
import Derived.Shelf.Strings.BuilderK
import Derived.Shelf.Strings.Prefix
import Derived.Shelf.Strings.Repeat
import Derived.Shelf.Strings.Runes
import Derived.Shelf.Strings.Search1
import Derived.Shelf.Strings.Trim
import Derived.Shelf.Unicode.DecodeSlow
import Derived.StillTailTactics
import Derived.TacticsInMore
import Derived.Test.YtknbhgodhmcemaaDoorProg
import Derived.WalkKit
import Derived.WalkMore
import Derived.Test.YtknbhgodhmcemaaDoorQSlotPlays0
import Derived.Test.YtknbhgodhmcemaaDoorQSlotPlays1
import Derived.Test.YtknbhgodhmcemaaDoorQSlotPlays2
set_option linter.unusedVariables false
set_option linter.unusedSimpArgs false
namespace Go.Proofs.YtknbhgodhmcemaaDoor.So
set_option linter.unusedSimpArgs false
set_option linter.unusedVariables false
set_option maxRecDepth 100000
open Go.RowKit Go.Shelf Go.Proofs.YtknbhgodhmcemaaDoor.Own Go.Proofs.YtknbhgodhmcemaaDoor.Cel Go.Proofs.YtknbhgodhmcemaaDoor.Dk
open Go.Proofs.YtknbhgodhmcemaaDoor.Sl (Rec openS open_calls recV recV_one)
attribute [local go_sem] Oper.semAt_some
def gq (x : RX) (g : Nat) : Nat := if x.1.1 = 0 then x.1.2.g else g
def rdGo : List RX → Nat → Nat → List UInt8 → Option (ByteArray × Nat × Bool)
  | [], _, _, _ => none
  | x :: r, nx, g, out =>
    if badR x.1.1 nx (gq x g) x.1.2 then some (⟨#[]⟩, 0, false)
    else if x.1.2.k = 3 then some (wholeS (out ++ x.1.2.d.data.toList) (gq x g))
    else rdGo r (nx + 1) (gq x g) (out ++ x.1.2.d.data.toList)
def rdSt : List RX → Nat → Nat → List UInt8 → Nat × Nat × List UInt8
  | [], nx, g, out => (nx, g, out)
  | x :: r, nx, g, out => rdSt r (nx + 1) (gq x g) (out ++ x.1.2.d.data.toList)
theorem rdSt_snoc (x : RX) : ∀ (l : List RX) (nx g : Nat) (out : List UInt8), rdSt (l ++ [x]) nx g out = ((rdSt l nx g out).1 + 1, gq x (rdSt l nx g out).2.1, (rdSt l nx g out).2.2 ++ x.1.2.d.data.toList)
  | [], nx, g, out => rfl
  | y :: r, nx, g, out => by rw [List.cons_append, rdSt, rdSt_snoc x r]; rfl
theorem rdGo_snoc (x : RX) : ∀ (l : List RX) (nx g : Nat) (out : List UInt8), rdGo l nx g out = none → rdGo (l ++ [x]) nx g out = rdGo [x] (rdSt l nx g out).1 (rdSt l nx g out).2.1 (rdSt l nx g out).2.2
  | [], nx, g, out, _ => rfl
  | y :: r, nx, g, out, h => by
    rw [rdGo] at h
    rw [List.cons_append, rdGo]
    by_cases h1 : badR y.1.1 nx (gq y g) y.1.2 = true
    · rw [if_pos h1] at h; cases h
    · rw [if_neg h1] at h ⊢
      by_cases h2 : y.1.2.k = 3
      · rw [if_pos h2] at h; cases h
      · rw [if_neg h2] at h ⊢
        rw [rdGo_snoc x r _ _ _ h]; rfl
theorem rdGo_prefix (r : List RX) (R : ByteArray × Nat × Bool) : ∀ (l : List RX) (nx g : Nat) (out : List UInt8), rdGo l nx g out = some R → rdGo (l ++ r) nx g out = some R
  | [], nx, g, out, h => by cases h
  | y :: l, nx, g, out, h => by
    rw [rdGo] at h
    rw [List.cons_append, rdGo]
    by_cases h1 : badR y.1.1 nx (gq y g) y.1.2 = true
    · rw [if_pos h1] at h ⊢; exact h
    · rw [if_neg h1] at h ⊢
      by_cases h2 : y.1.2.k = 3
      · rw [if_pos h2] at h ⊢; exact h
      · rw [if_neg h2] at h ⊢
        exact rdGo_prefix r R l _ _ _ h
theorem rdSt_len : ∀ (l : List RX) (nx g : Nat) (out : List UInt8), (rdSt l nx g out).1 = nx + l.length ∧ (rdSt l nx g out).2.2.length ≤ out.length + 1000 * l.length
  | [], nx, g, out => ⟨rfl, by simp [rdSt]⟩
  | x :: r, nx, g, out => by
    obtain ⟨h1, h2⟩ := rdSt_len r (nx + 1) (gq x g) (out ++ x.1.2.d.data.toList)
    rw [rdSt, List.length_cons]
    have hd : x.1.2.d.data.toList.length = x.1.2.d.size := by rw [Array.length_toList]; rfl
    have := x.2.2.2
    rw [List.length_append, hd] at h2
    exact ⟨by omega, by omega⟩
theorem readGo_fold (rd : List ByteArray) (fr : Nat) : ∀ (n i nx g : Nat) (out : List UInt8), i + n ≤ 1000000 → readGo rd fr n i nx g out = (rdGo (recsGo rd fr n i) nx g out).getD (⟨#[]⟩, 0, false)
  | 0, i, nx, g, out, _ => rfl
  | n + 1, i, nx, g, out, h => by
    rw [readGo, recsGo]
    by_cases ho : (openS (rd.getD (fr + i) ByteArray.empty)).2 = 0
    · rw [if_neg (fun x => x ho), dif_pos ⟨ho, by omega⟩, rdGo]
      have hgq : ∀ hp, gq ⟨(i, (openS (rd.getD (fr + i) ByteArray.empty)).1), hp⟩ g = if i = 0 then (openS (rd.getD (fr + i) ByteArray.empty)).1.g else g := fun _ => rfl
      rw [hgq]
      obtain ⟨G, hG⟩ : ∃ G, (if i = 0 then (openS (rd.getD (fr + i) ByteArray.empty)).1.g else g) = G := ⟨_, rfl⟩
      rw [hG]
      by_cases h1 : badR i nx G (openS (rd.getD (fr + i) ByteArray.empty)).1 = true
      · rw [if_pos h1, if_pos h1]; rfl
      · rw [if_neg h1, if_neg h1]
        by_cases h2 : (openS (rd.getD (fr + i) ByteArray.empty)).1.k = 3
        · rw [if_pos h2, if_pos h2]; rfl
        · rw [if_neg h2, if_neg h2]
          exact readGo_fold rd fr n (i + 1) _ _ _ (by omega)
    · rw [if_pos ho, dif_neg (fun x => ho x.1), readGo_fold rd fr n (i + 1) _ _ _ (by omega)]
structure RI (p fr room : Nat) (W : World) (nx g : Nat) (out : List UInt8) (V : World) : Prop where
  z6 : V.heap[W.heap.size]? = some (.cells #[.string ⟨#[]⟩] 9 (0, 0))
  z7 : V.heap[W.heap.size + 1]? = some (.cells #[.int .u64 0] 29 (0, 0))
  z8 : V.heap[W.heap.size + 2]? = some (.cells #[.bool false] 4 (0, 0))
  bd : Lib.IsBuilderF 105 5 (W.heap.size + 3) (W.heap.size + 3) (Lib.byteCells out) V
  z10 : V.heap[W.heap.size + 4]? = some (.cells #[.int .i64 (nx : Nat)] 3 (0, 0))
  z11 : V.heap[W.heap.size + 5]? = some (.cells #[.int .u64 (g : Nat)] 29 (0, 0))
  y0 : V.heap[W.heap.size + 6]? = some (.cells #[.pointer (some ⟨p, 0, none⟩)] 25 (0, 0))
  y1 : V.heap[W.heap.size + 7]? = some (.cells #[.int .i64 (fr : Nat)] 3 (0, 0))
  y2 : V.heap[W.heap.size + 8]? = some (.cells #[.int .i64 (room : Nat)] 3 (0, 0))
  bel : Below W.heap.size W V
variable {p fr room : Nat} {W V V' : World} {nx g : Nat} {out : List UInt8}
theorem RI.size (h : RI p fr room W nx g out V) : W.heap.size + 9 ≤ V.heap.size := (Array.getElem?_eq_some_iff.1 h.y2).1
theorem builder_grown {T e : TypeId} {B b : Nat} {bs : List Value} {W W' : World} {row : Option Nat} (h : Lib.IsBuilderF T e B b bs W) (hg : W.grownBy W' row) (hr : ∀ r, row = some r → ∃ o : Obj, W.heap[r]? = some o ∧ o.isCells = false) : Lib.IsBuilderF T e B b bs W' := by
  have at_ : ∀ q, Lib.BuilderAtF T e B b q bs W → Lib.BuilderAtF T e B b q bs W' := fun q hq => by
    obtain ⟨hB, v, hv, hown, hne⟩ := hq
    refine ⟨hB, v, (hg.block b (Array.getElem?_eq_some_iff.1 hv).1 (fun e => ?_)).trans hv, hown.kept hg ?_, hne⟩
    · obtain ⟨o, ho, hc⟩ := hr b e.symm
      rw [hv] at ho
      cases ho
      cases hc
    · by_cases hn : v.ownBlock = none
      · exact .inl hn
      · refine .inr (fun e => ?_)
        obtain ⟨k, hk⟩ := Option.ne_none_iff_exists'.1 hn
        obtain ⟨o, ho, hc⟩ := hr k (by rw [← e, hk])
        rcases hown.2 with ⟨rfl, _⟩ | ⟨g', cap, cur, fz, rfl, _, hgg, _⟩
        · cases hk
        · simp [Value.ownBlock] at hk
          subst hk
          rw [hgg] at ho
          cases ho
          cases hc
  exact h.elim (fun x => .inl (at_ _ x)) (fun x => .inr (at_ _ x))
theorem RI.grown (h : RI p fr room W nx g out V) {row : Option Nat} (hg : V.grownBy V' row) (hr : ∀ r, row = some r → W.heap.size ≤ r ∧ ∃ o : Obj, V.heap[r]? = some o ∧ o.isCells = false) : RI p fr room W nx g out V' := by
  have k : ∀ {b : Nat} {cs : Array Value} {t : TypeId}, V.heap[b]? = some (.cells cs t (0, 0)) → V'.heap[b]? = some (.cells cs t (0, 0)) := fun {b cs t} hb =>
    (hg.block b (Array.getElem?_eq_some_iff.1 hb).1 (fun e => by
      obtain ⟨_, o, ho, hc⟩ := hr b e.symm
      rw [hb] at ho
      cases ho
      cases hc)).trans hb
  exact ⟨k h.z6, k h.z7, k h.z8, builder_grown h.bd hg (fun r e => (hr r e).2), k h.z10, k h.z11, k h.y0, k h.y1, k h.y2, h.bel.grown hg h.bel.size (fun r e => (hr r e).1)⟩
theorem RI.below (h : RI p fr room W nx g out V) (hb : Below V.heap.size V V') : RI p fr room W nx g out V' :=
  ⟨Own.keep h.z6 hb, Own.keep h.z7 hb, Own.keep h.z8 hb, Bld.builder_below h.bd hb, Own.keep h.z10 hb, Own.keep h.z11 hb, Own.keep h.y0 hb, Own.keep h.y1 hb, Own.keep h.y2 hb, h.bel.trans (hb.mono h.bel.size)⟩
def KX (W V V' : World) : Prop := KeepsFrom (W.heap.size + 9) V V' ∧ KeepB W.heap.size (W.heap.size + 6) V V'
theorem KX.refl (W V : World) : KX W V V := ⟨KeepsFrom.refl _ _, Below.refl _ _, fun _ _ _ => rfl⟩
theorem KX.trans {V1 V2 V3 : World} (h : KX W V1 V2) (k : KX W V2 V3) : KX W V1 V3 := ⟨h.1.trans k.1, keepB_t h.2 k.2⟩
theorem KX.set (k : Nat) (hk : k = 4 ∨ k = 5) (u : Value) (V : World) : KX W V (V.setCell ⟨W.heap.size + k, 0, none⟩ u) :=
  ⟨(KeepsOthers.setCell V ⟨W.heap.size + k, 0, none⟩ u).from _, (Below.refl _ V).setCell (p := ⟨W.heap.size + k, 0, none⟩) (by show W.heap.size ≤ W.heap.size + k; omega) u, fun q h1 h2 => set_other V _ _ q (by show q ≠ W.heap.size + k; omega)⟩
theorem builder_set {T e : TypeId} {b q : Nat} {bs : List Value} {V : World} {cs : Array Value} {t : TypeId} {u : Value} (h : Lib.IsBuilderF T e b b bs V) (hq : V.heap[q]? = some (.cells cs t (0, 0))) (h1 : t ≠ T) (h2 : t ≠ e) : Lib.IsBuilderF T e b b bs (V.setCell ⟨q, 0, none⟩ u) := by
  have hg : V.grownBy (V.setCell ⟨q, 0, none⟩ u) (some q) := ⟨rfl, rfl, rfl, by simp [World.setCell], fun k _ hk => set_other V _ _ k (fun e => hk (by rw [e]))⟩
  have at_ : ∀ z, Lib.BuilderAtF T e b b z bs V → Lib.BuilderAtF T e b b z bs (V.setCell ⟨q, 0, none⟩ u) := fun z hz => by
    obtain ⟨hB, v, hv, hown, hne⟩ := hz
    refine ⟨hB, v, (set_other V _ _ b (fun e => ?_)).trans hv, hown.kept hg ?_, hne⟩
    · have e2 : b = q := e
      rw [e2, hq] at hv
      simp only [Option.some.injEq, Obj.cells.injEq] at hv
      exact h1 hv.2.1
    · rcases hown.2 with ⟨rfl, _⟩ | ⟨g', cap, cur, fz, rfl, _, hgg, _⟩
      · exact .inl rfl
      · refine .inr (fun e => ?_)
        simp only [Value.ownBlock, Option.some.injEq] at e
        subst e
        rw [hq] at hgg
        simp only [Option.some.injEq, Obj.cells.injEq] at hgg
        exact h2 hgg.2.1
  exact h.elim (fun x => .inl (at_ _ x)) (fun x => .inr (at_ _ x))
theorem RI.next (h : RI p fr room W nx g out V) (nx' : Nat) : RI p fr room W nx' g out (V.setCell ⟨W.heap.size + 4, 0, none⟩ (.int .i64 (nx' : Nat))) := by
  have k : ∀ {b : Nat} {o : Obj}, b ≠ W.heap.size + 4 → V.heap[b]? = some o → (V.setCell ⟨W.heap.size + 4, 0, none⟩ (.int .i64 (nx' : Nat))).heap[b]? = some o := fun hn hb => (set_other V _ _ _ hn).trans hb
  exact ⟨k (by omega) h.z6, k (by omega) h.z7, k (by omega) h.z8, builder_set h.bd h.z10 (by decide) (by decide), heap_setCell_same V _ 0 _ _ _ h.z10, k (by omega) h.z11, k (by omega) h.y0, k (by omega) h.y1, k (by omega) h.y2, h.bel.setCell (p := ⟨W.heap.size + 4, 0, none⟩) (by show W.heap.size ≤ W.heap.size + 4; omega) _⟩
theorem RI.gen (h : RI p fr room W nx g out V) (g' : Nat) : RI p fr room W nx g' out (V.setCell ⟨W.heap.size + 5, 0, none⟩ (.int .u64 (g' : Nat))) := by
  have k : ∀ {b : Nat} {o : Obj}, b ≠ W.heap.size + 5 → V.heap[b]? = some o → (V.setCell ⟨W.heap.size + 5, 0, none⟩ (.int .u64 (g' : Nat))).heap[b]? = some o := fun hn hb => (set_other V _ _ _ hn).trans hb
  exact ⟨k (by omega) h.z6, k (by omega) h.z7, k (by omega) h.z8, builder_set h.bd h.z11 (by decide) (by decide), k (by omega) h.z10, heap_setCell_same V _ 0 _ _ _ h.z11, k (by omega) h.y0, k (by omega) h.y1, k (by omega) h.y2, h.bel.setCell (p := ⟨W.heap.size + 5, 0, none⟩) (by show W.heap.size ≤ W.heap.size + 5; omega) _⟩
theorem RI.write (h : RI p fr room W nx g out V) (s : ByteArray) (hl : out.length + s.size ≤ 100000000) :
    Calls Tryd.prog 55 #[.pointer (some ⟨W.heap.size + 3, 0, none⟩), .string s] V fun e V' => e = .returned (.tuple #[.int .i64 s.size, .nilIface]) ∧ RI p fr room W nx g (out ++ s.data.toList) V' ∧ KX W V V' ∧
      ∀ (b : Nat) (cs : Array Value), V.heap[b]? = some (.cells cs 64 (0, 0)) → V'.heap[b]? = some (.cells cs 64 (0, 0)) := by
  have hsz := h.size
  refine (Bld.writeString (W.heap.size + 3) (W.heap.size + 3) (Lib.byteCells out) s V h.bd (by rw [Lib.byteCells_length]; omega) (by omega)).mono ?_
  rintro e V' ⟨rfl, h2, hb, ho⟩
  rw [Lib.strCells_eq, ← Lib.byteCells_append] at h2
  have k : ∀ {b : Nat} {cs : Array Value} {t : TypeId}, t ≠ 5 → b ≠ W.heap.size + 3 → V.heap[b]? = some (.cells cs t (0, 0)) → V'.heap[b]? = some (.cells cs t (0, 0)) := fun {b cs t} ht hn hz =>
    ho b _ hz (fun e => hn (by simpa using e)) (fun c fz e => by simp only [Obj.cells.injEq] at e; exact ht e.2.1)
  have hne : ∀ {b : Nat} {cs : Array Value}, V.heap[b]? = some (.cells cs 64 (0, 0)) → b ≠ W.heap.size + 3 := fun {b cs} hz e => by
    subst e
    rcases h.bd with ⟨_, v, hv, _⟩ | ⟨_, v, hv, _⟩
    · rw [hz] at hv; simp at hv
    · rw [hz] at hv; simp at hv
  refine ⟨rfl, ⟨k (by decide) (by omega) h.z6, k (by decide) (by omega) h.z7, k (by decide) (by omega) h.z8, .inr h2, k (by decide) (by omega) h.z10, k (by decide) (by omega) h.z11, k (by decide) (by omega) h.y0, k (by decide) (by omega) h.y1, k (by decide) (by omega) h.y2, h.bel.trans (hb.mono (by omega))⟩,
    ⟨⟨hb.size, fun q o hq hz hc => ho q o hz (fun e => by have : q = W.heap.size + 3 := by simpa using e
                                                          omega) (fun c fz e => by subst e; cases hc)⟩, hb.mono (by omega), fun q h1 h3 => ?_⟩, fun b cs hz => k (by decide) (hne hz) hz⟩
  have : q = W.heap.size + 6 ∨ q = W.heap.size + 7 ∨ q = W.heap.size + 8 := by omega
  rcases this with rfl | rfl | rfl
  · rw [h.y0]; exact k (by decide) (by omega) h.y0
  · rw [h.y1]; exact k (by decide) (by omega) h.y1
  · rw [h.y2]; exact k (by decide) (by omega) h.y2
theorem RI.string (h : RI p fr room W nx g out V) :
    Calls Tryd.prog 57 #[.pointer (some ⟨W.heap.size + 3, 0, none⟩)] V fun e V' => e = .returned (.string ⟨out.toArray⟩) ∧ RI p fr room W nx g out V' ∧ KX W V V' := by
  have hsz := h.size
  refine (Tryd.Builder_String_any_k (W.heap.size + 3) (W.heap.size + 3) out V h.bd (by omega)).mono ?_
  rintro e V' ⟨rfl, h2, hb, ho⟩
  have k : ∀ {b : Nat} {cs : Array Value} {t : TypeId}, t ≠ 5 → b ≠ W.heap.size + 3 → V.heap[b]? = some (.cells cs t (0, 0)) → V'.heap[b]? = some (.cells cs t (0, 0)) := fun {b cs t} ht hn hz =>
    ho b _ hz (fun e => hn (by simpa using e)) (fun c fz e => by simp only [Obj.cells.injEq] at e; exact ht e.2.1)
  refine ⟨rfl, ⟨k (by decide) (by omega) h.z6, k (by decide) (by omega) h.z7, k (by decide) (by omega) h.z8, h2, k (by decide) (by omega) h.z10, k (by decide) (by omega) h.z11, k (by decide) (by omega) h.y0, k (by decide) (by omega) h.y1, k (by decide) (by omega) h.y2, h.bel.trans (hb.mono (by omega))⟩,
    ⟨⟨hb.size, fun q o hq hz hc => ho q o hz (fun e => by have : q = W.heap.size + 3 := by simpa using e
                                                          omega) (fun c fz e => by subst e; cases hc)⟩, hb.mono (by omega), fun q h1 h3 => ?_⟩⟩
  have : q = W.heap.size + 6 ∨ q = W.heap.size + 7 ∨ q = W.heap.size + 8 := by omega
  rcases this with rfl | rfl | rfl
  · rw [h.y0]; exact k (by decide) (by omega) h.y0
  · rw [h.y1]; exact k (by decide) (by omega) h.y1
  · rw [h.y2]; exact k (by decide) (by omega) h.y2
structure RR (W : World) (R : ByteArray × Nat × Bool) (V : World) : Prop where
  z6 : V.heap[W.heap.size]? = some (.cells #[.string R.1] 9 (0, 0))
  z7 : V.heap[W.heap.size + 1]? = some (.cells #[.int .u64 (R.2.1 : Nat)] 29 (0, 0))
  z8 : V.heap[W.heap.size + 2]? = some (.cells #[.bool R.2.2] 4 (0, 0))
  bel : Below W.heap.size W V
theorem rr_of {R : ByteArray × Nat × Bool} {x : Value} {y : Value} {z : Value} (z6 : V.heap[W.heap.size]? = some (.cells #[x] 9 (0, 0))) (z7 : V.heap[W.heap.size + 1]? = some (.cells #[y] 29 (0, 0))) (z8 : V.heap[W.heap.size + 2]? = some (.cells #[z] 4 (0, 0))) (bel : Below W.heap.size W V) :
    RR W R (((V.setCell ⟨W.heap.size, 0, none⟩ (.string R.1)).setCell ⟨W.heap.size + 1, 0, none⟩ (.int .u64 (R.2.1 : Nat))).setCell ⟨W.heap.size + 2, 0, none⟩ (.bool R.2.2)) ∧
    KeepsFrom (W.heap.size + 9) V (((V.setCell ⟨W.heap.size, 0, none⟩ (.string R.1)).setCell ⟨W.heap.size + 1, 0, none⟩ (.int .u64 (R.2.1 : Nat))).setCell ⟨W.heap.size + 2, 0, none⟩ (.bool R.2.2)) := by
  have o1 : ∀ k, k ≠ W.heap.size → (V.setCell ⟨W.heap.size, 0, none⟩ (.string R.1)).heap[k]? = V.heap[k]? := fun k hk => set_other V _ _ k hk
  have o2 : ∀ k, k ≠ W.heap.size + 1 → ((V.setCell ⟨W.heap.size, 0, none⟩ (.string R.1)).setCell ⟨W.heap.size + 1, 0, none⟩ (.int .u64 (R.2.1 : Nat))).heap[k]? = (V.setCell ⟨W.heap.size, 0, none⟩ (.string R.1)).heap[k]? := fun k hk => set_other _ _ _ k hk
  have o3 : ∀ k, k ≠ W.heap.size + 2 → (((V.setCell ⟨W.heap.size, 0, none⟩ (.string R.1)).setCell ⟨W.heap.size + 1, 0, none⟩ (.int .u64 (R.2.1 : Nat))).setCell ⟨W.heap.size + 2, 0, none⟩ (.bool R.2.2)).heap[k]? = ((V.setCell ⟨W.heap.size, 0, none⟩ (.string R.1)).setCell ⟨W.heap.size + 1, 0, none⟩ (.int .u64 (R.2.1 : Nat))).heap[k]? := fun k hk => set_other _ _ _ k hk
  refine ⟨⟨?_, ?_, ?_, ?_⟩, ?_⟩
  · rw [o3 _ (by omega), o2 _ (by omega)]; exact heap_setCell_same V _ 0 _ _ _ z6
  · rw [o3 _ (by omega)]; exact heap_setCell_same _ _ 0 _ _ _ ((o1 _ (by omega)).trans z7)
  · exact heap_setCell_same _ _ 0 _ _ _ ((o2 _ (by omega)).trans ((o1 _ (by omega)).trans z8))
  · exact ((bel.setCell (p := ⟨W.heap.size, 0, none⟩) (Nat.le_refl _) _).setCell (p := ⟨W.heap.size + 1, 0, none⟩) (by show W.heap.size ≤ W.heap.size + 1; omega) _).setCell (p := ⟨W.heap.size + 2, 0, none⟩) (by show W.heap.size ≤ W.heap.size + 2; omega) _
  · exact (((KeepsOthers.setCell _ _ _).trans (KeepsOthers.setCell _ _ _)).trans (KeepsOthers.setCell _ _ _)).from _
theorem recsGo_len (rd : List ByteArray) (fr : Nat) : ∀ (n i : Nat), (recsGo rd fr n i).length ≤ n
  | 0, _ => Nat.le_refl _
  | n + 1, i => by
    rw [recsGo]
    have := recsGo_len rd fr n (i + 1)
    by_cases ho : (openS (rd.getD (fr + i) ByteArray.empty)).2 = 0 ∧ i < 1000000
    · rw [dif_pos ho, List.length_cons]; omega
    · rw [dif_neg ho]; omega
theorem str_empty (d : ByteArray) : (d.toList == []) = decide (d.size = 0) := by
  rw [ByteArray.toList_eq]
  have hl : d.data.toList.length = d.size := by rw [Array.length_toList]; rfl
  by_cases h : d.size = 0
  · rw [decide_eq_true h, List.length_eq_zero_iff.1 (hl.trans h)]; rfl
  · rw [decide_eq_false h, beq_eq_false_iff_ne]
    intro e
    rw [e] at hl
    exact h hl.symm
theorem RR.grown {R : ByteArray × Nat × Bool} (h : RR W R V) {row : Option Nat} (hg : V.grownBy V' row) (hr : ∀ r, row = some r → W.heap.size ≤ r ∧ ∃ o : Obj, V.heap[r]? = some o ∧ o.isCells = false) : RR W R V' := by
  have k : ∀ {b : Nat} {cs : Array Value} {t : TypeId}, V.heap[b]? = some (.cells cs t (0, 0)) → V'.heap[b]? = some (.cells cs t (0, 0)) := fun {b cs t} hb =>
    (hg.block b (Array.getElem?_eq_some_iff.1 hb).1 (fun e => by
      obtain ⟨_, o, ho, hc⟩ := hr b e.symm
      rw [hb] at ho
      cases ho
      cases hc)).trans hb
  exact ⟨k h.z6, k h.z7, k h.z8, h.bel.grown hg h.bel.size (fun r e => (hr r e).1)⟩
theorem end_ccc (U : World) (tmps : Array Value) (n : Nat) (x y z : Value) (h6 : tmps.getD 6 undef = .pointer (some ⟨n, 0, none⟩)) (h7 : tmps.getD 7 undef = .pointer (some ⟨n + 1, 0, none⟩)) (h8 : tmps.getD 8 undef = .pointer (some ⟨n + 2, 0, none⟩))
    (c6 : U.cell? ⟨n, 0, none⟩ = some x) (c7 : U.cell? ⟨n + 1, 0, none⟩ = some y) (c8 : U.cell? ⟨n + 2, 0, none⟩ = some z) :
    (results Tryd.f19 tmps).run Tryd.prog U = .ok (.tuple #[x, y, z]) U := by
  have e6 : tmps[6]?.getD undef = .pointer (some ⟨n, 0, none⟩) := by simpa using h6
  have e7 : tmps[7]?.getD undef = .pointer (some ⟨n + 1, 0, none⟩) := by simpa using h7
  have e8 : tmps[8]?.getD undef = .pointer (some ⟨n + 2, 0, none⟩) := by simpa using h8
  simp [results, Tryd.f19, asAddr, loadVar, Tryd.underlying9, Tryd.underlying29, Tryd.underlying4, e6, e7, e8, c6, c7, c8]
end Go.Proofs.YtknbhgodhmcemaaDoor.So
namespace Go.Proofs.YtknbhgodhmcemaaDoor.Dk
set_option linter.unusedSimpArgs false
set_option linter.unusedVariables false
set_option maxRecDepth 100000
open Go.RowKit Go.Proofs.YtknbhgodhmcemaaDoor.Own Go.Proofs.YtknbhgodhmcemaaDoor.Cel
def SR (W : World) (b : Nat) (l : List UInt8) : Prop :=
  ∃ (cur : Array Value) (lo hi : Nat), W.heap[b]? = some (.cells cur 5 (lo, hi)) ∧ l.length ≤ lo ∧ cur.toList.take l.length = Lib.byteCells l
theorem SR.cell {W : World} {b : Nat} {l : List UInt8} (h : SR W b l) (j : Nat) (hj : j < l.length) : W.cell? ⟨b, j, none⟩ = some (.int .u8 ((l.getD j 0).toNat : Nat)) := by
  obtain ⟨cur, lo, hi, h1, h2, h3⟩ := h
  have e : W.cell? ⟨b, j, none⟩ = cur[j]? := by simp [World.cell?, h1]
  rw [e]
  have := congrArg (·[j]?) h3
  simp only [List.getElem?_take, hj, if_true] at this
  rw [Array.getElem?_toList] at this
  rw [this, Lib.byteCells, List.getElem?_map, List.getElem?_eq_getElem hj, Option.map_some, List.getD_eq_getElem?_getD, List.getElem?_eq_getElem hj]; rfl
theorem SR.frozen {W : World} {b : Nat} {l : List UInt8} (h : SR W b l) (j : Nat) (hj : j < l.length) : W.frozen? ⟨b, j, none⟩ = false := by
  obtain ⟨cur, lo, hi, h1, h2, h3⟩ := h
  simp [World.frozen?, h1]
  omega
theorem SR.put {W : World} {b : Nat} {l : List UInt8} (h : SR W b l) (j : Nat) (v : UInt8) : SR (W.setCell ⟨b, j, none⟩ (.int .u8 (v.toNat : Nat))) b (l.set j v) := by
  obtain ⟨cur, lo, hi, h1, h2, h3⟩ := h
  refine ⟨cur.setIfInBounds j (.int .u8 (v.toNat : Nat)), lo, hi, ?_, by rw [List.length_set]; exact h2, ?_⟩
  · simp [World.setCell, Array.getElem?_modify, h1]
  · rw [List.length_set, Array.toList_setIfInBounds, List.take_set, h3]
    simp [Lib.byteCells, List.map_set]
theorem SR.string {W : World} {b c : Nat} {l : List UInt8} (h : SR W b l) : (convert 103 9 (.slice (some ⟨b, 0, none⟩) l.length c)).run Tryd.prog W = .ok (.string ⟨l.toArray⟩) W :=
  run_convert_bytes_back (P := Tryd.prog) W 103 9 5 ⟨b, 0, none⟩ c l rfl rfl rfl (fun j hj => by
    have := h.cell j hj
    rw [List.getD_eq_getElem?_getD, List.getElem?_eq_getElem hj] at this
    cases j with
    | zero => exact this
    | succ j => simpa [Addr.add] using this)
theorem str_row (s : ByteArray) (w : World) : ∃ W c, (convert 9 103 (.string s)).run Tryd.prog w = .ok (.slice (some ⟨w.heap.size, 0, none⟩) s.size c) W ∧ Below w.heap.size w W ∧ SR W w.heap.size s.data.toList := by
  refine ⟨_, _, run_bytes_of_string (P := Tryd.prog) w 9 103 5 s rfl rfl rfl, ((Below.refl _ _).drew).alloc (Nat.le_refl _) _, _, _, _, heap_alloc_new w.drew _, ?_, ?_⟩
  · simp [bytesRow]
  · simp [bytesRow, Lib.byteCells]
def turnS (s : ByteArray) (j x : Nat) : ByteArray := ⟨(s.data.toList.set j (UInt8.ofNat ((s.data.toList.getD j 0).toNat ^^^ x))).toArray⟩
theorem turnS_size (s : ByteArray) (j x : Nat) : (turnS s j x).size = s.size := by
  show (s.data.toList.set j _).toArray.size = s.size
  rw [List.size_toArray, List.length_set, Array.length_toList]; rfl
theorem turned_calls (s : ByteArray) (j x : Nat) (w : World) (hj : j < s.size) (hx : x < 256) :
    Calls Tryd.prog 63 #[.string s, .int .i64 (j : Nat), .int .u8 (x : Nat)] w fun e w' => e = .returned (.string (turnS s j x)) ∧ Below w.heap.size w w' := by
  obtain ⟨W2, cp, hcv, hb2, hsr⟩ := str_row s w
  have hll : s.data.toList.length = s.size := by rw [Array.length_toList]; rfl
  obtain ⟨q1, hq1⟩ : ∃ q, w.heap.size = q := ⟨_, rfl⟩
  rw [hq1] at hcv hsr hb2 ⊢
  have hcl := hsr.cell j (by rw [hll]; exact hj)
  have hfz := hsr.frozen j (by rw [hll]; exact hj)
  obtain ⟨y, hy⟩ : ∃ y, (s.data.toList.getD j 0).toNat = y := ⟨_, rfl⟩
  have hy8 : y < 256 := by rw [← hy]; exact (s.data.toList.getD j 0).toNat_lt
  have hxor := u8_xor_nat y x hy8 hx
  have hxl : y ^^^ x < 256 := Nat.xor_lt_two_pow (n := 8) hy8 hx
  have hv : (UInt8.ofNat (y ^^^ x)).toNat = y ^^^ x := by rw [UInt8.toNat_ofNat']; exact Nat.mod_eq_of_lt hxl
  have hput := hsr.put j (UInt8.ofNat (y ^^^ x))
  rw [hv] at hput
  have hz : (⟨(s.data.toList.set j (UInt8.ofNat (y ^^^ x))).toArray⟩ : ByteArray) = turnS s j x := by rw [turnS, hy]
  have hstr := hput.string (c := cp)
  rw [hz, List.length_set, hll] at hstr
  have HB := Aside0.mk (hb2.setCell (p := ⟨q1, j, none⟩) (Nat.le_refl _) (.int .u8 ((y ^^^ x : Nat) : Int)))
  rw [hy] at hcl
  obtain ⟨n, hn⟩ : ∃ n, s.size = n := ⟨_, rfl⟩
  rw [hn] at hcv hstr hj
  have hj2 : (j : Int) < (n : Int) := by omega
  obtain ⟨z, hzz⟩ : ∃ z, y ^^^ x = z := ⟨_, rfl⟩
  rw [hzz] at hxor hstr HB
  obtain ⟨T, hT⟩ : ∃ T, turnS s j x = T := ⟨_, rfl⟩
  rw [hT] at hstr ⊢
  clear hsr hb2 hq1 hy hxl hv hput hz hn hzz hT hll
  go_enter Tryd.func63, Tryd.ntmps63
  go_wp2_with fail
  try rw [hstr]
  try go_wp2_with fail
  go_ret
  exact ⟨rfl, HB.out⟩
end Go.Proofs.YtknbhgodhmcemaaDoor.Dk
namespace Go.Proofs.YtknbhgodhmcemaaDoor.Dk
set_option linter.unusedSimpArgs false
set_option linter.unusedVariables false
set_option maxRecDepth 100000
open Go.RowKit Go.Proofs.YtknbhgodhmcemaaDoor.Own Go.Proofs.YtknbhgodhmcemaaDoor.Cel
variable {B p : Nat} {S : DS} {F : Nat → Prop} {W : World}
def DS.rot (S : DS) (i j : Int) (x : Nat) : DS :=
  if (0 ≤ i ∧ i < (S.lasts.length : Int)) ∧ 0 ≤ j ∧ j < 128 then { S with lasts := S.lasts.set i.toNat (turnS (S.lasts.getD i.toNat ByteArray.empty) j.toNat x) } else S
def SC (p lb rb M : Nat) (bc : Array Value) (V : World) : Prop :=
  V.heap[p]? = some (.cells bc 92 (0, 0)) ∧ (∃ cur, V.heap[lb]? = some (.cells cur 9 (0, 0)) ∧ M ≤ cur.size) ∧ ∃ cur, V.heap[rb]? = some (.cells cur 9 (0, 0)) ∧ M ≤ cur.size
set_option maxHeartbeats 2000000 in
theorem rot_calls (h : DK B p S F W) (i j : Int) (x : Nat) (hx : x < 256) (hsz : ∀ s ∈ S.lasts, s.size = 128) (hi1 : i ≤ 9223372036854775807) :
    Calls Tryd.prog 25 #[.pointer (some ⟨p, 0, none⟩), .int .i64 i, .int .i64 j, .int .u8 (x : Nat)] W fun e W' => e = .returned (.tuple #[]) ∧ Did B p (S.rot i j x) F W W' := by
  have KH := Aside0.mk (has_calls h i)
  have H0 := Aside0.mk h
  by_cases a : 0 ≤ i ∧ i < (S.lasts.length : Int)
  rotate_left
  · rw [show decide (0 ≤ i ∧ i < (S.lasts.length : Int)) = false from decide_eq_false a] at KH
    rw [show S.rot i j x = S by unfold DS.rot; rw [if_neg (fun e => a e.1)]]
    clear a h hi1 hsz
    go_enter Tryd.func25, Tryd.ntmps25
    go_wp2_with fail
    refine KH.out.mono ?_
    rintro e w1 ⟨rfl, rfl⟩
    go_wp2
    first | go_end0 | refine bodyPost_ret (results_none rfl _ _ _) rfl ?_
    exact ⟨rfl, F, H0.out, Only.refl _ _, fun _ e => .inl e⟩
  rw [show decide (0 ≤ i ∧ i < (S.lasts.length : Int)) = true from decide_eq_true a] at KH
  by_cases b : 0 ≤ j ∧ j < 128
  rotate_left
  · rw [show S.rot i j x = S by unfold DS.rot; rw [if_neg (fun e => b e.2)]]
    by_cases b1 : j < 0
    · clear a h hi1 hsz b
      go_enter Tryd.func25, Tryd.ntmps25
      go_wp2_with fail
      refine KH.out.mono ?_
      rintro e w1 ⟨rfl, rfl⟩
      go_wp2
      first | go_end0 | refine bodyPost_ret (results_none rfl _ _ _) rfl ?_
      exact ⟨rfl, F, H0.out, Only.refl _ _, fun _ e => .inl e⟩
    · have b2 : 128 ≤ j := by omega
      have t1 : decide (j < 0) = false := decide_eq_false b1
      clear a h hi1 hsz b b1
      go_enter Tryd.func25, Tryd.ntmps25
      go_wp2_with fail
      refine KH.out.mono ?_
      rintro e w1 ⟨rfl, rfl⟩
      go_wp2
      first | go_end0 | refine bodyPost_ret (results_none rfl _ _ _) rfl ?_
      exact ⟨rfl, F, H0.out, Only.refl _ _, fun _ e => .inl e⟩
  obtain ⟨i, rfl⟩ := Int.eq_ofNat_of_zero_le a.1
  obtain ⟨j, rfl⟩ := Int.eq_ofNat_of_zero_le b.1
  have hil : i < S.lasts.length := by have := a.2; omega
  have hj : j < 128 := by have := b.2; omega
  obtain ⟨y, hy⟩ : ∃ y, S.lasts[i]'hil = y := ⟨_, rfl⟩
  have hy8 : y.size = 128 := by rw [← hy]; exact hsz _ (List.getElem_mem hil)
  have hyd : S.lasts.getD i ByteArray.empty = y := by rw [List.getD_eq_getElem?_getD, List.getElem?_eq_getElem hil, hy]; rfl
  have hrot : S.rot (i : Int) (j : Int) x = { S with lasts := S.lasts.set i (turnS y j x) } := by
    unfold DS.rot
    rw [if_pos ⟨a, b⟩, Int.toNat_natCast, Int.toNat_natCast, hyd]
  rw [hrot]
  have KT := Aside0.mk (fun V => turned_calls y j x V (by rw [hy8]; exact hj) hx)
  obtain ⟨T, hT⟩ : ∃ T, turnS y j x = T := ⟨_, rfl⟩
  rw [hT] at KT ⊢
  obtain ⟨lb, lc, rb, rc, mb, wv, hd, hFP⟩ := h
  have cy : W.cell? ⟨lb, i, none⟩ = some (.string y) := by
    rw [hd.hl.cellAt i (by omega), strs_get _ _ hil, hy]
  obtain ⟨M, hM⟩ : ∃ m, S.lasts.length = m := ⟨_, rfl⟩
  have c0 := hd.box
  rw [hM] at c0 hil
  have hil2 : (i : Int) < (M : Int) := by omega
  have hj2 : (j : Int) < 128 := by omega
  have HD := Aside0.mk hd
  have HFP := Aside0.mk hFP
  have HM := Aside0.mk hM
  have hrows : (∃ cur, W.heap[lb]? = some (.cells cur 9 (0, 0)) ∧ M ≤ cur.size) ∧ ∃ cur, W.heap[rb]? = some (.cells cur 9 (0, 0)) ∧ M ≤ cur.size := by
    constructor
    · rcases hd.hl.2 with ⟨e, _⟩ | ⟨g', cap, cur, e, _, hg, hc1, _, hc3, _⟩
      · cases e
      · simp only [Value.slice.injEq, Option.some.injEq, Addr.mk.injEq] at e
        obtain ⟨⟨rfl, _⟩, _⟩ := e
        exact ⟨cur, hg, by omega⟩
    · rcases hd.hr.2 with ⟨e, _⟩ | ⟨g', cap, cur, e, _, hg, hc1, _, hc3, _⟩
      · cases e
      · simp only [Value.slice.injEq, Option.some.injEq, Addr.mk.injEq] at e
        obtain ⟨⟨rfl, _⟩, _⟩ := e
        exact ⟨cur, hg, by omega⟩
  have HS := Aside0.mk (show SC p lb rb M #[.slice (some ⟨lb, 0, none⟩) M lc, wv, .map (some mb), .int .i64 S.armed, .int .i64 S.ops, .slice (some ⟨rb, 0, none⟩) M rc] W from ⟨c0, hrows⟩)
  have HI1 := Aside0.mk hi1
  clear a b hsz hi1 hy hy8 hyd hrot hT hd hFP hM hrows c0
  go_enter Tryd.func25, Tryd.ntmps25
  go_wp2_with fail
  refine KH.out.mono ?_
  rintro e w1 ⟨rfl, rfl⟩
  go_wp2_with fail
  refine wp_region_held_drew (S := fun V => SC p lb rb M #[.slice (some ⟨lb, 0, none⟩) M lc, wv, .map (some mb), .int .i64 S.armed, .int .i64 S.ops, .slice (some ⟨rb, 0, none⟩) M rc] V) (by kernel_rfl) HS.out (fun hH => ?_)
  refine take_at (i := 0) (some 20) (.pointer (some ⟨p, 0, none⟩)) rfl rfl (by kernel_rfl) (by kernel_rfl) (by kernel_rfl) (fun _ _ _ h => h) (Or.inl ⟨by rfl, fun w hSw => by go_simp⟩) hH ?_
  refine take_at (i := 1) (some 21) (.pointer (some ⟨p, 0, none⟩)) rfl rfl (by kernel_rfl) (by kernel_rfl) (by kernel_rfl) (fun _ _ _ h => h) (Or.inl ⟨by rfl, fun w hSw => by go_simp⟩) hH ?_
  try simp only [Act.put, List.setIfInBounds_toArray, List.set_cons_zero, List.set_cons_succ]
  refine take_at (i := 2) (some 22) (.pointer (some ⟨p, 0, none⟩)) rfl rfl (by kernel_rfl) (by kernel_rfl) (by kernel_rfl) (fun _ _ _ h => h) (Or.inl ⟨by rfl, fun w hSw => by go_simp⟩) hH ?_
  refine take_at (i := 3) (some 23) (.slice (some ⟨lb, 0, none⟩) M lc) rfl rfl (by kernel_rfl) (by kernel_rfl) (by kernel_rfl) (fun _ _ _ h => h) (Or.inl ⟨by rfl, fun w hSw => by have e := cell_of_row w p 0 _ _ _ hSw.1; clear hSw; go_simp⟩) hH ?_
  try simp only [Act.put, List.setIfInBounds_toArray, List.set_cons_zero, List.set_cons_succ]
  refine take_at (i := 4) (some 24) (.int .i64 (i : Nat)) rfl rfl (by kernel_rfl) (by kernel_rfl) (by kernel_rfl) (fun _ _ _ h => h) (Or.inl ⟨by rfl, fun w hSw => by go_simp⟩) hH ?_
  refine take_at (i := 5) (some 25) (.pointer (some ⟨p, 0, none⟩)) rfl rfl (by kernel_rfl) (by kernel_rfl) (by kernel_rfl) (fun _ _ _ h => h) (Or.inl ⟨by rfl, fun w hSw => by go_simp⟩) hH ?_
  try simp only [Act.put, List.setIfInBounds_toArray, List.set_cons_zero, List.set_cons_succ]
  refine take_at (i := 6) (some 26) (.pointer (some ⟨p, 0, none⟩)) rfl rfl (by kernel_rfl) (by kernel_rfl) (by kernel_rfl) (fun _ _ _ h => h) (Or.inl ⟨by rfl, fun w hSw => by go_simp⟩) hH ?_
  refine take_at (i := 7) (some 27) (.pointer (some ⟨p, 0, none⟩)) rfl rfl (by kernel_rfl) (by kernel_rfl) (by kernel_rfl) (fun _ _ _ h => h) (Or.inl ⟨by rfl, fun w hSw => by go_simp⟩) hH ?_
  try simp only [Act.put, List.setIfInBounds_toArray, List.set_cons_zero, List.set_cons_succ]
  refine take_at (i := 8) (some 28) (.slice (some ⟨lb, 0, none⟩) M lc) rfl rfl (by kernel_rfl) (by kernel_rfl) (by kernel_rfl) (fun _ _ _ h => h) (Or.inl ⟨by rfl, fun w hSw => by have e := cell_of_row w p 0 _ _ _ hSw.1; clear hSw; go_simp⟩) hH ?_
  refine take_at (i := 9) (some 29) (.int .i64 (i : Nat)) rfl rfl (by kernel_rfl) (by kernel_rfl) (by kernel_rfl) (fun _ _ _ h => h) (Or.inl ⟨by rfl, fun w hSw => by go_simp⟩) hH ?_
  try simp only [Act.put, List.setIfInBounds_toArray, List.set_cons_zero, List.set_cons_succ]
  refine take_at (i := 10) (some 30) (.pointer (some ⟨lb, i, none⟩)) rfl rfl (by kernel_rfl) (by kernel_rfl) (by kernel_rfl) (fun _ _ _ h => h) (Or.inl ⟨by rfl, fun w hSw => by go_simp⟩) hH ?_
  refine take_at (i := 12) (some 32) (.int .i64 (j : Nat)) rfl rfl (by kernel_rfl) (by kernel_rfl) (by kernel_rfl) (fun _ _ _ h => h) (Or.inl ⟨by rfl, fun w hSw => by go_simp⟩) hH ?_
  refine take_at (i := 13) (some 33) (.int .u8 (x : Nat)) rfl rfl (by kernel_rfl) (by kernel_rfl) (by kernel_rfl) (fun _ _ _ h => h) (Or.inl ⟨by rfl, fun w hSw => by go_simp⟩) hH ?_
  try simp only [Act.put, List.setIfInBounds_toArray, List.set_cons_zero, List.set_cons_succ]
  have cy0 : W.drew.cell? ⟨lb, i, none⟩ = some (.string y) := cy
  have HD0 := Aside0.mk (And.intro (HD.out.keep (W' := W.drew) (fun _ _ => rfl)) ((only_below ((Below.refl _ W).drew)) : Only (Big F W) W W.drew))
  clear HD HS cy
  generalize W.drew = V0 at hH cy0 HD0 ⊢
  refine wpAnyH_ready (rs := [11]) (by kernel_rfl) (by simp) (AllReadyH.cons rfl (fun K hK => ?_) AllReadyH.nil)
  go_simp
  refine hK.out _ _ hH (fun hH => ?_)
  clear hK K cy0
  try simp only [Act.put, List.setIfInBounds_toArray, List.set_cons_zero, List.set_cons_succ]
  refine wpAnyH_ready (rs := [14]) (by kernel_rfl) (by simp) (AllReadyH.cons rfl (fun K hK => ?_) AllReadyH.nil)
  go_simp
  refine (KT.out _).mono ?_
  rintro e V1 ⟨rfl, hb⟩
  have HD1 := Aside0.mk (And.intro (HD0.out.1.below hb) (HD0.out.2.big_trans (only_below hb).big))
  have hH1 : SC p lb rb M #[.slice (some ⟨lb, 0, none⟩) M lc, wv, .map (some mb), .int .i64 S.armed, .int .i64 S.ops, .slice (some ⟨rb, 0, none⟩) M rc] V1 := by
    obtain ⟨h1, ⟨c1, h2, h3⟩, c2, h4, h5⟩ := hH
    exact ⟨Own.keep h1 hb, ⟨c1, Own.keep h2 hb, h3⟩, c2, Own.keep h4 hb, h5⟩
  refine hK.out _ _ hH1 (fun hH => ?_)
  clear hK K hb HD0 hH1
  try simp only [Act.put, List.setIfInBounds_toArray, List.set_cons_zero, List.set_cons_succ]
  refine take_at (i := 15) (some 35) (.pointer (some ⟨lb, i, none⟩)) rfl rfl (by kernel_rfl) (by kernel_rfl) (by kernel_rfl) (fun _ _ _ h => h) (Or.inl ⟨by rfl, fun w hSw => by go_simp⟩) hH ?_
  try simp only [Act.put, List.setIfInBounds_toArray, List.set_cons_zero, List.set_cons_succ]
  obtain ⟨hp, ⟨cur, hl, hls⟩, cr, hr, hrs⟩ := hH
  obtain ⟨u, hu⟩ : ∃ u, V1.cell? ⟨lb, i, none⟩ = some u := ⟨_, (cell_of_row V1 lb i _ _ _ hl).trans (Array.getElem?_eq_getElem (by omega))⟩
  have hfz : V1.frozen? ⟨lb, i, none⟩ = false := frozen_of_row V1 lb i _ _ hl
  have hnx := heap_setCell_same V1 lb i cur _ (.string T) hl
  have so : ∀ k, k ≠ lb → (V1.setCell ⟨lb, i, none⟩ (.string T)).heap[k]? = V1.heap[k]? := fun k hk => set_other _ _ _ _ hk
  have hS2 : SC p lb rb M #[.slice (some ⟨lb, 0, none⟩) M lc, wv, .map (some mb), .int .i64 S.armed, .int .i64 S.ops, .slice (some ⟨rb, 0, none⟩) M rc] (V1.setCell ⟨lb, i, none⟩ (.string T)) := ⟨(so p HD1.out.1.p_lb).trans hp, ⟨_, hnx, by simpa using hls⟩, cr, (so rb HD1.out.1.ne.symm).trans hr, hrs⟩
  refine wpAnyH_ready (rs := [16]) (by kernel_rfl) (by simp) (AllReadyH.cons rfl (fun K hK => ?_) AllReadyH.nil)
  clear so hnx hp hl hls hr hrs
  go_simp
  refine hK.out _ _ hS2 (fun hH => ?_)
  clear hK K hu hfz
  refine wpAnyH_done (by kernel_rfl) ?_ _
  try simp only [Act.put, List.setIfInBounds_toArray, List.set_cons_zero, List.set_cons_succ]
  have hd2 := HD1.out.1.setL i T
  have O2 := Aside0.mk (HD1.out.2.big_trans (only_set (F := F) ⟨lb, i, none⟩ (.string T) ((HFP.out lb).2 (.inr (.inr (.inl rfl))))).big)
  have HS2 := Aside0.mk hS2
  clear hS2 hH HD1
  generalize V1.setCell ⟨lb, i, none⟩ (.string T) = V2 at hd2 O2 HS2 ⊢
  have d2 := hd2.cell 2
  obtain ⟨nm, D, hown, hnm, hDD⟩ := hd2.mp
  have HI : (Lit.int .i64 (i : Int)).wf = true := by simp [Lit.wf, IntKind.min, IntKind.max, IntKind.signed, IntKind.bits]; have := HI1.out; omega
  obtain ⟨cc, hlook, hat, _⟩ := hown.lookup_int keyI Tryd.underlying89 Tryd.underlying3 (by kernel_rfl) (key := .int .i64 (i : Int)) (kl := .int .i64 (i : Int)) (Go.Maps.keyOf_int_mk Tryd.underlying3 HI)
  rw [hDD i] at hat
  obtain rfl : ((cnt i S.waits : Nat) : Int) = cc := by injection hat with e; injection e
  have HD2 := Aside0.mk hd2
  clear hat hown hnm hDD hd2 HI
  by_cases hc : cnt i S.waits = 0
  · have hlt2 : HD2.out.hl.1 = HD2.out.hl.1 := rfl
    have cT : V2.cell? ⟨lb, i, none⟩ = some (.string T) := by
      have hl2 : i < (S.lasts.set i T).length := by rw [List.length_set]; have := HM.out; omega
      rw [HD2.out.hl.cellAt i (by omega), strs_get _ _ hl2, List.getElem_set_self]
    have hE := Aside0.mk (show ({ S with lasts := S.lasts.set i T } : DS).read = S.read.set i T by
      show applyW (S.lasts.set i T) S.waits = _
      rw [applyW_set, if_pos hc]; rfl)
    rw [hc] at hlook
    clear hc hlt2
    go_wp2_with fail
    clear hlook d2
    refine wp_region_held_drew (S := fun V => SC p lb rb M #[.slice (some ⟨lb, 0, none⟩) M lc, wv, .map (some mb), .int .i64 S.armed, .int .i64 S.ops, .slice (some ⟨rb, 0, none⟩) M rc] V) (by kernel_rfl) HS2.out (fun hH => ?_)
    refine take_at (i := 0) (some 43) (.pointer (some ⟨p, 0, none⟩)) rfl rfl (by kernel_rfl) (by kernel_rfl) (by kernel_rfl) (fun _ _ _ h => h) (Or.inl ⟨by rfl, fun w hSw => by go_simp⟩) hH ?_
    refine take_at (i := 1) (some 44) (.pointer (some ⟨p, 0, none⟩)) rfl rfl (by kernel_rfl) (by kernel_rfl) (by kernel_rfl) (fun _ _ _ h => h) (Or.inl ⟨by rfl, fun w hSw => by go_simp⟩) hH ?_
    try simp only [Act.put, List.setIfInBounds_toArray, List.set_cons_zero, List.set_cons_succ]
    refine take_at (i := 2) (some 45) (.pointer (some ⟨p, 5, none⟩)) rfl rfl (by kernel_rfl) (by kernel_rfl) (by kernel_rfl) (fun _ _ _ h => h) (Or.inl ⟨by rfl, fun w hSw => by go_simp⟩) hH ?_
    refine take_at (i := 3) (some 46) (.slice (some ⟨rb, 0, none⟩) M rc) rfl rfl (by kernel_rfl) (by kernel_rfl) (by kernel_rfl) (fun _ _ _ h => h) (Or.inl ⟨by rfl, fun w hSw => by have e := cell_of_row w p 5 _ _ _ hSw.1; clear hSw; go_simp⟩) hH ?_
    try simp only [Act.put, List.setIfInBounds_toArray, List.set_cons_zero, List.set_cons_succ]
    refine take_at (i := 4) (some 47) (.int .i64 (i : Nat)) rfl rfl (by kernel_rfl) (by kernel_rfl) (by kernel_rfl) (fun _ _ _ h => h) (Or.inl ⟨by rfl, fun w hSw => by go_simp⟩) hH ?_
    refine take_at (i := 5) (some 48) (.pointer (some ⟨p, 0, none⟩)) rfl rfl (by kernel_rfl) (by kernel_rfl) (by kernel_rfl) (fun _ _ _ h => h) (Or.inl ⟨by rfl, fun w hSw => by go_simp⟩) hH ?_
    try simp only [Act.put, List.setIfInBounds_toArray, List.set_cons_zero, List.set_cons_succ]
    refine take_at (i := 6) (some 49) (.pointer (some ⟨p, 0, none⟩)) rfl rfl (by kernel_rfl) (by kernel_rfl) (by kernel_rfl) (fun _ _ _ h => h) (Or.inl ⟨by rfl, fun w hSw => by go_simp⟩) hH ?_
    refine take_at (i := 7) (some 50) (.pointer (some ⟨p, 0, none⟩)) rfl rfl (by kernel_rfl) (by kernel_rfl) (by kernel_rfl) (fun _ _ _ h => h) (Or.inl ⟨by rfl, fun w hSw => by go_simp⟩) hH ?_
    try simp only [Act.put, List.setIfInBounds_toArray, List.set_cons_zero, List.set_cons_succ]
    refine take_at (i := 8) (some 51) (.slice (some ⟨lb, 0, none⟩) M lc) rfl rfl (by kernel_rfl) (by kernel_rfl) (by kernel_rfl) (fun _ _ _ h => h) (Or.inl ⟨by rfl, fun w hSw => by have e := cell_of_row w p 0 _ _ _ hSw.1; clear hSw; go_simp⟩) hH ?_
    refine take_at (i := 9) (some 52) (.int .i64 (i : Nat)) rfl rfl (by kernel_rfl) (by kernel_rfl) (by kernel_rfl) (fun _ _ _ h => h) (Or.inl ⟨by rfl, fun w hSw => by go_simp⟩) hH ?_
    try simp only [Act.put, List.setIfInBounds_toArray, List.set_cons_zero, List.set_cons_succ]
    refine take_at (i := 10) (some 53) (.pointer (some ⟨lb, i, none⟩)) rfl rfl (by kernel_rfl) (by kernel_rfl) (by kernel_rfl) (fun _ _ _ h => h) (Or.inl ⟨by rfl, fun w hSw => by go_simp⟩) hH ?_
    have cy0 : V2.drew.cell? ⟨lb, i, none⟩ = some (.string T) := cT
    have HD0 := Aside0.mk (And.intro (HD2.out.keep (W' := V2.drew) (fun _ _ => rfl)) (O2.out.big_trans (only_below ((Below.refl _ V2).drew)).big))
    clear HD2 HS2 O2 cT
    generalize V2.drew = V3 at hH cy0 HD0 ⊢
    refine wpAnyH_ready (rs := [11]) (by kernel_rfl) (by simp) (AllReadyH.cons rfl (fun K hK => ?_) AllReadyH.nil)
    go_simp
    refine hK.out _ _ hH (fun hH => ?_)
    clear hK K cy0
    try simp only [Act.put, List.setIfInBounds_toArray, List.set_cons_zero, List.set_cons_succ]
    refine take_at (i := 12) (some 55) (.pointer (some ⟨rb, i, none⟩)) rfl rfl (by kernel_rfl) (by kernel_rfl) (by kernel_rfl) (fun _ _ _ h => h) (Or.inl ⟨by rfl, fun w hSw => by go_simp⟩) hH ?_
    try simp only [Act.put, List.setIfInBounds_toArray, List.set_cons_zero, List.set_cons_succ]
    obtain ⟨hp, ⟨cur, hl, hls⟩, cr, hr, hrs⟩ := hH
    obtain ⟨u, hu⟩ : ∃ u, V3.cell? ⟨rb, i, none⟩ = some u := ⟨_, (cell_of_row V3 rb i _ _ _ hr).trans (Array.getElem?_eq_getElem (by omega))⟩
    have hfz : V3.frozen? ⟨rb, i, none⟩ = false := frozen_of_row V3 rb i _ _ hr
    have hnx := heap_setCell_same V3 rb i cr _ (.string T) hr
    have so : ∀ k, k ≠ rb → (V3.setCell ⟨rb, i, none⟩ (.string T)).heap[k]? = V3.heap[k]? := fun k hk => set_other _ _ _ _ hk
    have hS3 : SC p lb rb M #[.slice (some ⟨lb, 0, none⟩) M lc, wv, .map (some mb), .int .i64 S.armed, .int .i64 S.ops, .slice (some ⟨rb, 0, none⟩) M rc] (V3.setCell ⟨rb, i, none⟩ (.string T)) := ⟨(so p HD0.out.1.p_rb).trans hp, ⟨cur, (so lb HD0.out.1.ne).trans hl, hls⟩, _, hnx, by simpa using hrs⟩
    refine wpAnyH_ready (rs := [13]) (by kernel_rfl) (by simp) (AllReadyH.cons rfl (fun K hK => ?_) AllReadyH.nil)
    clear so hnx hp hl hls hr hrs
    go_simp
    refine hK.out _ _ hS3 (fun hH => ?_)
    clear hK K hu hfz hS3 hH
    refine wpAnyH_done (by kernel_rfl) ?_ _
    try simp only [Act.put, List.setIfInBounds_toArray, List.set_cons_zero, List.set_cons_succ]
    have HN := Aside0.mk (And.intro (HD0.out.1.setR i T) (HD0.out.2.big_trans (only_set (F := F) ⟨rb, i, none⟩ (.string T) ((HFP.out rb).2 (.inr (.inr (.inr (.inl rfl)))))).big))
    clear HD0
    go_wp2
    go_end0
    refine ⟨rfl, F, ⟨lb, lc, rb, rc, mb, wv, ?_, HFP.out⟩, HN.out.2.small, fun _ e => .inl e⟩
    rw [hE.out]
    exact HN.out.1
  · have t1 : (((cnt i S.waits : Nat) : Int) == 0) = false := by simp; omega
    have hE := Aside0.mk (show ({ S with lasts := S.lasts.set i T } : DS).read = S.read by
      show applyW (S.lasts.set i T) S.waits = _
      rw [applyW_set, if_neg hc]; rfl)
    clear hc
    go_wp2
    go_end0
    refine ⟨rfl, F, ⟨lb, lc, rb, rc, mb, wv, ?_, HFP.out⟩, O2.out.small, fun _ e => .inl e⟩
    rw [hE.out]
    exact HD2.out
end Go.Proofs.YtknbhgodhmcemaaDoor.Dk
namespace Go.Proofs.YtknbhgodhmcemaaDoor.Dk
set_option linter.unusedSimpArgs false
set_option linter.unusedVariables false
set_option maxRecDepth 100000
open Go.RowKit Go.Proofs.YtknbhgodhmcemaaDoor.Own Go.Proofs.YtknbhgodhmcemaaDoor.Cel
def mvV (lv wv : Value) (S : DS) : Array Value := #[lv, wv, .int .i64 S.armed, .int .i64 S.ops]
def RK (G : Nat → Prop) (lv wv : Value) (S : DS) (V : World) : Prop :=
  V.ownsRow 0 9 1 lv S.lasts.length (strs S.lasts) ∧ V.ownsRow 0 123 2 wv S.waits.length (wcells S.waits) ∧ (∀ k, (lv.ownBlock = some k ∨ wv.ownBlock = some k) → G k) ∧ (S.waits = [] → wv = .slice none 0 0)
theorem RK.below {G : Nat → Prop} {lv wv : Value} {S : DS} {V V' : World} (h : RK G lv wv S V) (hb : Below V.heap.size V V') : RK G lv wv S V' :=
  ⟨owns_keep h.1 hb, owns_keep h.2.1 hb, h.2.2⟩
theorem infoM : (Tryd.prog.info? 50).map (·.size) = some 4 := by kernel_rfl
theorem mvV_one (lv wv : Value) (S : DS) (hl : lv.oneCell' = true) (hw : wv.oneCell' = true) : (mvV lv wv S).all (·.oneCell') = true := by
  rw [Array.all_eq_true_iff_forall_mem]
  intro v hv
  simp only [mvV, List.mem_toArray, List.mem_cons, List.not_mem_nil, or_false] at hv
  rcases hv with rfl | rfl | rfl | rfl
  · exact hl
  · exact hw
  · rfl
  · rfl
theorem count_none (lv wv : Value) (S : DS) (w : World) (h : S.armed ≤ 0) (hl : lv.oneCell' = true) (hw : wv.oneCell' = true) :
    Calls Tryd.prog 61 #[.agg (mvV lv wv S)] w fun e w' => e = .returned (.tuple #[.agg (mvV lv wv S), .bool false]) ∧ Below w.heap.size w w' := by
  have c2 : ((w.alloc (.cells (mvV lv wv S) 50)).alloc (.cells #[.slice none 0 0, .slice none 0 0, .int .i64 0, .int .i64 0] 50)).cell? ⟨w.heap.size, 2, none⟩ = some (.int .i64 S.armed) :=
    cell_of_row _ _ 2 _ _ _ (Own.keep (heap_alloc_new w _) ((Below.refl _ _).alloc (Nat.le_refl _) _))
  have z1 : ((w.alloc (.cells (mvV lv wv S) 50)).alloc (.cells #[.slice none 0 0, .slice none 0 0, .int .i64 0, .int .i64 0] 50)).heap[w.heap.size]? = some (.cells (mvV lv wv S) 50 (0, 0)) :=
    Own.keep (heap_alloc_new w _) ((Below.refl _ _).alloc (Nat.le_refl _) _)
  have z2 : ((w.alloc (.cells (mvV lv wv S) 50)).alloc (.cells #[.slice none 0 0, .slice none 0 0, .int .i64 0, .int .i64 0] 50)).heap[w.heap.size + 1]? = some (.cells #[.slice none 0 0, .slice none 0 0, .int .i64 0, .int .i64 0] 50 (0, 0)) := by
    have := heap_alloc_new (w.alloc (.cells (mvV lv wv S) 50)) (.cells #[.slice none 0 0, .slice none 0 0, .int .i64 0, .int .i64 0] 50)
    simpa using this
  have hi : (Tryd.prog.info? 50).map (·.size) = some (mvV lv wv S).size := infoM
  have ho : (mvV lv wv S).all (·.oneCell') = true := by
    rw [Array.all_eq_true_iff_forall_mem]
    intro v hv
    simp only [mvV, List.mem_toArray, List.mem_cons, List.not_mem_nil, or_false] at hv
    rcases hv with rfl | rfl | rfl | rfl
    · exact hl
    · exact hw
    · rfl
    · rfl
  go_enter Tryd.func61, Tryd.ntmps61
  go_wp2_with (first | refine wpList_load_row rfl 50 _ rfl w.heap.size rfl 50 _ (0, 0) _ z1 Tryd.underlying50 rfl hi ?_ | refine wpList_store_row rfl 50 _ _ rfl (w.heap.size + 1) (mvV lv wv S) rfl rfl 50 _ z2 hi rfl ho ?_ | fail)
  exact bodyPost_ret (Cel.end_cell rfl _ _ _ _ _ z2 rfl Tryd.underlying50 rfl hi) rfl ⟨rfl, below_setRow (((Below.refl _ _).alloc (Nat.le_refl _) _).alloc (by simp) _) (by omega) _⟩
theorem count_some (lv wv : Value) (S : DS) (w : World) (h : 0 < S.armed) (ha : S.armed ≤ 9223372036854775807) (hl : lv.oneCell' = true) (hw : wv.oneCell' = true) :
    Calls Tryd.prog 61 #[.agg (mvV lv wv S)] w fun e w' => e = .returned (.tuple #[.agg (mvV lv wv { S with armed := S.armed - 1 }), .bool (decide (S.armed - 1 = 0))]) ∧ Below w.heap.size w w' := by
  have z1 : ((w.alloc (.cells (mvV lv wv S) 50)).alloc (.cells #[.slice none 0 0, .slice none 0 0, .int .i64 0, .int .i64 0] 50)).heap[w.heap.size]? = some (.cells (mvV lv wv S) 50 (0, 0)) :=
    Own.keep (heap_alloc_new w _) ((Below.refl _ _).alloc (Nat.le_refl _) _)
  have c2 : ((w.alloc (.cells (mvV lv wv S) 50)).alloc (.cells #[.slice none 0 0, .slice none 0 0, .int .i64 0, .int .i64 0] 50)).cell? ⟨w.heap.size, 2, none⟩ = some (.int .i64 S.armed) := cell_of_row _ _ 2 _ _ _ z1
  have f2 : ((w.alloc (.cells (mvV lv wv S) 50)).alloc (.cells #[.slice none 0 0, .slice none 0 0, .int .i64 0, .int .i64 0] 50)).frozen? ⟨w.heap.size, 2, none⟩ = false := frozen_of_row _ _ 2 _ _ z1
  go_enter Tryd.func61, Tryd.ntmps61
  go_wp2_with fail
  have hx1' : ((w.alloc (.cells ((mvV lv wv S).setIfInBounds 2 (.int .i64 (S.armed - 1))) 50)).alloc (.cells #[.slice none 0 0, .slice none 0 0, .int .i64 0, .int .i64 0] 50)).heap[w.heap.size]? = some (.cells (mvV lv wv { S with armed := S.armed - 1 }) 50 (0, 0)) := Own.keep (heap_alloc_new w _) ((Below.refl _ _).alloc (Nat.le_refl _) _)
  have hx2 : ((w.alloc (.cells ((mvV lv wv S).setIfInBounds 2 (.int .i64 (S.armed - 1))) 50)).alloc (.cells #[.slice none 0 0, .slice none 0 0, .int .i64 0, .int .i64 0] 50)).heap[w.heap.size + 1]? = some (.cells #[.slice none 0 0, .slice none 0 0, .int .i64 0, .int .i64 0] 50 (0, 0)) := by
    have := heap_alloc_new (w.alloc (.cells ((mvV lv wv S).setIfInBounds 2 (.int .i64 (S.armed - 1))) 50)) (.cells #[.slice none 0 0, .slice none 0 0, .int .i64 0, .int .i64 0] 50)
    simpa using this
  have hb : Below w.heap.size w ((w.alloc (.cells ((mvV lv wv S).setIfInBounds 2 (.int .i64 (S.armed - 1))) 50)).alloc (.cells #[.slice none 0 0, .slice none 0 0, .int .i64 0, .int .i64 0] 50)) := ((Below.refl w.heap.size w).alloc (Nat.le_refl _) _).alloc (by simp) _
  clear z1 c2 f2
  generalize (w.alloc (.cells ((mvV lv wv S).setIfInBounds 2 (.int .i64 (S.armed - 1))) 50)).alloc (.cells #[.slice none 0 0, .slice none 0 0, .int .i64 0, .int .i64 0] 50) = W3 at hx1' hx2 hb ⊢
  have hi : (Tryd.prog.info? 50).map (·.size) = some (mvV lv wv { S with armed := S.armed - 1 }).size := infoM
  have ho := mvV_one lv wv { S with armed := S.armed - 1 } hl hw
  refine wp_region_held_drew (S := fun W => W.heap[w.heap.size]? = some (.cells (mvV lv wv { S with armed := S.armed - 1 }) 50 (0, 0)) ∧ Below w.heap.size w W) (by kernel_rfl) ⟨hx1', hb.drew⟩ (fun hH => ?_)
  refine take_at (i := 0) (some 12) (.agg (mvV lv wv { S with armed := S.armed - 1 })) rfl rfl (by kernel_rfl) (by kernel_rfl) (by kernel_rfl) (fun _ _ _ h => h) (yieldsIf_load (by rfl) 50 (.tmp 1) rfl (.pointer (some ⟨w.heap.size, 0, none⟩)) rfl _ (fun w' hw' => load_row hw'.1 Tryd.underlying50 rfl hi)) hH ?_
  try simp only [Act.put, List.setIfInBounds_toArray, List.set_cons_zero, List.set_cons_succ]
  refine take_at (i := 1) (some 13) (.pointer (some ⟨w.heap.size, 2, none⟩)) rfl rfl (by kernel_rfl) (by kernel_rfl) (by kernel_rfl) (fun _ _ _ h => h) (Or.inl ⟨by rfl, fun w hSw => by go_simp⟩) hH ?_
  try simp only [Act.put, List.setIfInBounds_toArray, List.set_cons_zero, List.set_cons_succ]
  refine take_at (i := 2) (some 14) (.int .i64 (S.armed - 1)) rfl rfl (by kernel_rfl) (by kernel_rfl) (by kernel_rfl) (fun _ _ _ h => h) (Or.inl ⟨by rfl, fun w' hSw => by have e2 : w'.cell? ⟨w.heap.size, 2, none⟩ = some (.int .i64 (S.armed - 1)) := cell_of_row w' w.heap.size 2 _ _ _ hSw.1; go_simp⟩) hH ?_
  try simp only [Act.put, List.setIfInBounds_toArray, List.set_cons_zero, List.set_cons_succ]
  refine take_at (i := 3) (some 15) (.bool (S.armed - 1 == 0)) rfl rfl (by kernel_rfl) (by kernel_rfl) (by kernel_rfl) (fun _ _ _ h => h) (Or.inl ⟨by rfl, fun w' hSw => by go_simp⟩) hH ?_
  try simp only [Act.put, List.setIfInBounds_toArray, List.set_cons_zero, List.set_cons_succ]
  refine wpAnyH_ready (rs := [4]) (by kernel_rfl) (by simp) (AllReadyH.cons rfl (fun K hK => ?_) AllReadyH.nil)
  refine Cel.wp_store_none rfl 50 _ _ rfl (w.heap.size + 1) (mvV lv wv { S with armed := S.armed - 1 }) rfl rfl 50 _ hx2 hi rfl ho ?_
  refine hK.out _ _ ⟨(setRow_other _ _ _ _ (by omega)).trans hH.1, below_setRow hH.2 (by omega) _⟩ (fun hH => ?_)
  clear hK K
  try simp only [Act.put, List.setIfInBounds_toArray, List.set_cons_zero, List.set_cons_succ]
  refine take_at (i := 5) (some 3) (.bool (S.armed - 1 == 0)) rfl rfl (by kernel_rfl) (by kernel_rfl) (by kernel_rfl) (fun _ _ _ h => h) (Or.inl ⟨by rfl, fun w' hSw => by go_simp⟩) hH ?_
  try simp only [Act.put, List.setIfInBounds_toArray, List.set_cons_zero, List.set_cons_succ]
  refine wpAnyH_done (by kernel_rfl) ?_ _
  try simp only [Act.put, List.setIfInBounds_toArray, List.set_cons_zero, List.set_cons_succ]
  go_wp2_with fail
  exact bodyPost_ret (Cel.end_cell rfl _ _ _ _ _ (show W3.drew.heap[w.heap.size + 1]? = _ from hx2) rfl Tryd.underlying50 rfl hi) rfl ⟨rfl, hH.2⟩
theorem count_calls (lv wv : Value) (S : DS) (w : World) (ha : S.armed ≤ 9223372036854775807) (hl : lv.oneCell' = true) (hw : wv.oneCell' = true) :
    Calls Tryd.prog 61 #[.agg (mvV lv wv S)] w fun e w' => e = .returned (.tuple #[.agg (mvV lv wv S.fails.1), .bool S.fails.2]) ∧ Below w.heap.size w w' := by
  by_cases h : S.armed ≤ 0
  · have e : S.fails = (S, false) := by unfold DS.fails; rw [if_pos h]
    rw [e]
    exact count_none lv wv S w h hl hw
  · have e : S.fails = ({ S with armed := S.armed - 1 }, decide (S.armed - 1 = 0)) := by unfold DS.fails; rw [if_neg h]
    rw [e]
    exact count_some lv wv S w (by omega) ha hl hw
end Go.Proofs.YtknbhgodhmcemaaDoor.Dk
namespace Go.Proofs.YtknbhgodhmcemaaDoor.Dk
set_option linter.unusedSimpArgs false
set_option linter.unusedVariables false
set_option maxRecDepth 100000
open Go.RowKit Go.Proofs.YtknbhgodhmcemaaDoor.Own Go.Proofs.YtknbhgodhmcemaaDoor.Cel
structure Asd (p : Prop) : Prop where mk :: (out : p)
theorem applyW_snoc_get (l : List ByteArray) (a : List Wt) (x : Wt) (b : List Wt) (hx : x.1 < l.length) (hb : cnt x.1 b = 0) : (applyW l (a ++ x :: b)).getD x.1 ByteArray.empty = x.2 := by
  rw [applyW_append, applyW, List.getD_eq_getElem?_getD, applyW_other b _ hb, List.getElem?_set_self (by rw [applyW_len]; exact hx)]
  rfl
theorem wcells_get : ∀ (l : List Wt) (j : Nat) (h : j < l.length), (wcells l)[j * 2]? = some (.int .i64 ((l[j]'h).1 : Nat)) ∧ (wcells l)[j * 2 + 1]? = some (.string (l[j]'h).2)
  | x :: r, 0, _ => ⟨rfl, rfl⟩
  | x :: r, j + 1, h => by
    obtain ⟨h1, h2⟩ := wcells_get r j (by simpa using h)
    rw [wcells, show (j + 1) * 2 = j * 2 + 1 + 1 by omega]
    exact ⟨by simpa using h1, by simpa using h2⟩
theorem RK.lcell {G : Nat → Prop} {lv wv : Value} {S : DS} {V : World} (h : RK G lv wv S V) : ∃ A c, lv = .slice A S.lasts.length c ∧ ∀ j (hj : j < S.lasts.length), ∃ b, A = some ⟨b, 0, none⟩ ∧ V.cell? ⟨b, j, none⟩ = some (.string (S.lasts[j]'hj)) := by
  rcases h.1.2 with ⟨e, h0⟩ | ⟨g, cap, cur, e, _⟩
  · exact ⟨none, 0, by rw [e, h0], fun j hj => by omega⟩
  · refine ⟨some ⟨g, 0, none⟩, cap, e, fun j hj => ⟨g, rfl, ?_⟩⟩
    have hc := h.1.cells (g := g) (by rw [e]; rfl) j _ (strs_get S.lasts j hj)
    rwa [Seg.addr_add, Nat.zero_add] at hc
theorem RK.wcell {G : Nat → Prop} {lv wv : Value} {S : DS} {V : World} (h : RK G lv wv S V) : ∃ A c, wv = .slice A S.waits.length c ∧ ∀ j (hj : j < S.waits.length), ∃ b, A = some ⟨b, 0, none⟩ ∧ V.cell? ⟨b, j * 2, none⟩ = some (.int .i64 ((S.waits[j]'hj).1 : Nat)) ∧ V.cell? ⟨b, j * 2 + 1, none⟩ = some (.string (S.waits[j]'hj).2) := by
  rcases h.2.1.2 with ⟨e, h0⟩ | ⟨g, cap, cur, e, _⟩
  · exact ⟨none, 0, by rw [e, h0], fun j hj => by omega⟩
  · refine ⟨some ⟨g, 0, none⟩, cap, e, fun j hj => ⟨g, rfl, ?_, ?_⟩⟩
    · have hc := h.2.1.cells (g := g) (by rw [e]; rfl) (j * 2) _ (wcells_get S.waits j hj).1
      rwa [Seg.addr_add, Nat.zero_add] at hc
    · have hc := h.2.1.cells (g := g) (by rw [e]; rfl) (j * 2 + 1) _ (wcells_get S.waits j hj).2
      rwa [Seg.addr_add, Nat.zero_add] at hc
def noneBehind (i k : Nat) (ws : List Wt) : Prop := cnt i (ws.drop k) = 0
theorem none_step {i k : Nat} {ws : List Wt} (h : noneBehind i (k + 1) ws) (hk : k < ws.length) (hne : (ws[k]'hk).1 ≠ i) : noneBehind i k ws := by
  unfold noneBehind at h ⊢
  rw [List.drop_eq_getElem_cons hk, cnt, if_neg hne, h]
theorem found {l : List ByteArray} {i k : Nat} {ws : List Wt} (h : noneBehind i (k + 1) ws) (hk : k < ws.length) (he : (ws[k]'hk).1 = i) (hi : i < l.length) : (applyW l ws).getD i ByteArray.empty = (ws[k]'hk).2 := by
  have e : ws = ws.take k ++ ws[k] :: ws.drop (k + 1) := by rw [List.getElem_cons_drop, List.take_append_drop]
  have := applyW_snoc_get l (ws.take k) ws[k] (ws.drop (k + 1)) (by rw [he]; exact hi) (by rw [he]; exact h)
  rw [← e, he] at this
  exact this
set_option maxHeartbeats 4000000 in
theorem rread_calls {G : Nat → Prop} {lv wv : Value} {S : DS} {V : World} (h : RK G lv wv S V) (i : Int) (hl : S.lasts.length ≤ 100000) (hw : S.waits.length ≤ 1000000) :
    Calls Tryd.prog 71 #[.agg (mvV lv wv S), .int .i64 i] V fun e V' => e = .returned (.tuple #[.string (S.readAt i).1, .int .i64 (S.readAt i).2]) ∧ Below V.heap.size V V' := by
  obtain ⟨Al, cl, rfl, hlc⟩ := h.lcell
  obtain ⟨Aw, cw, rfl, hwc⟩ := h.wcell
  obtain ⟨nl, hnl⟩ : ∃ n, S.lasts.length = n := ⟨_, rfl⟩
  obtain ⟨nw, hnw⟩ : ∃ n, S.waits.length = n := ⟨_, rfl⟩
  have hb := (Below.refl V.heap.size V).alloc (Nat.le_refl _) (.cells (mvV (.slice Al nl cl) (.slice Aw nw cw) S) 50)
  have z := heap_alloc_new V (.cells (mvV (.slice Al nl cl) (.slice Aw nw cw) S) 50)
  have k0 : (V.alloc (.cells (mvV (.slice Al nl cl) (.slice Aw nw cw) S) 50)).cell? ⟨V.heap.size, 0, none⟩ = some (.slice Al nl cl) := cell_of_row _ _ 0 _ _ _ z
  have k1 : (V.alloc (.cells (mvV (.slice Al nl cl) (.slice Aw nw cw) S) 50)).cell? ⟨V.heap.size, 1, none⟩ = some (.slice Aw nw cw) := cell_of_row _ _ 1 _ _ _ z
  have HB := Asd.mk hb
  have HLC := Asd.mk hlc
  have HWC := Asd.mk hwc
  rw [hnl] at hl ⊢
  rw [hnw] at hw ⊢
  have NL := Asd.mk hnl
  have NW := Asd.mk hnw
  clear h hlc hwc hnl hnw hb z
  by_cases a : 0 ≤ i ∧ i < (nl : Int)
  rotate_left
  · have e : S.readAt i = (⟨#[]⟩, 5) := by unfold DS.readAt; rw [NL.out, if_neg a]
    rw [e]
    by_cases a0 : i < 0
    · have t0 : decide (i < 0) = true := decide_eq_true a0
      clear a
      go_enter Tryd.func71, Tryd.ntmps71
      go_wp2
      go_ret2
      exact ⟨rfl, HB.out⟩
    · have t0 : decide (i < 0) = false := decide_eq_false a0
      have t1 : decide ((nl : Int) ≤ i) = true := decide_eq_true (by omega)
      clear a a0
      go_enter Tryd.func71, Tryd.ntmps71
      go_wp2
      go_ret2
      exact ⟨rfl, HB.out⟩
  obtain ⟨q, rfl⟩ := Int.eq_ofNat_of_zero_le a.1
  have hq : q < nl := by omega
  have e : S.readAt (q : Int) = (S.read.getD q ByteArray.empty, 0) := by unfold DS.readAt; rw [NL.out, if_pos a, Int.toNat_natCast]
  obtain ⟨R, hR⟩ : ∃ R, S.read.getD q ByteArray.empty = R := ⟨_, rfl⟩
  rw [e, hR]
  have HR := Asd.mk hR
  have t0 : decide ((q : Int) < 0) = false := decide_eq_false (by omega)
  have t1 : decide ((nl : Int) ≤ (q : Int)) = false := decide_eq_false (by omega)
  have H0 := Asd.mk (show noneBehind q nw S.waits from by unfold noneBehind; rw [← NW.out, List.drop_length]; rfl)
  clear e a hR
  go_enter Tryd.func71, Tryd.ntmps71
  go_wp2
  go_loopw [6] (fun iv W => ∃ (m : Nat), iv = .int .i64 ((m : Int) - 1) ∧ m ≤ nw ∧ W = V.alloc (.cells (mvV (.slice Al nl cl) (.slice Aw nw cw) S) 50) ∧ Asd (noneBehind q m S.waits)) (fun iv _ => (intOf iv + 1).toNat)
  case atStart => exact ⟨nw, rfl, by omega, rfl, H0⟩
  case round =>
    obtain ⟨m, rfl, hm, rfl, HM⟩ := hrel
    clear H0
    have far : ∀ (b o : Nat) (u : Value), V.cell? ⟨b, o, none⟩ = some u → (V.alloc (.cells (mvV (.slice Al nl cl) (.slice Aw nw cw) S) 50)).cell? ⟨b, o, none⟩ = some u := fun b o u hc => (World.cell?_of_block (HB.out.block b (World.block_lt_of_cell? V _ hc))).trans hc
    have FAR := Asd.mk far
    clear far
    by_cases h0 : m = 0
    · subst h0
      obtain ⟨b, rfl, hc⟩ := HLC.out q (by rw [NL.out]; exact hq)
      have hc2 := FAR.out b q _ hc
      have hres : S.lasts[q]'(by rw [NL.out]; exact hq) = R := by
        rw [← HR.out]
        have h1 : (applyW S.lasts S.waits)[q]? = S.lasts[q]? := applyW_other _ _ HM.out
        show _ = (applyW S.lasts S.waits).getD q ByteArray.empty
        rw [List.getD_eq_getElem?_getD, h1, List.getElem?_eq_getElem (by rw [NL.out]; exact hq)]; rfl
      rw [hres] at hc2
      have hq1 : (q : Int) < (nl : Int) := by omega
      clear hc hres HM FAR
      go_wp2
      go_ret2
      exact ⟨rfl, HB.out⟩
    · obtain ⟨k, rfl⟩ : ∃ k, m = k + 1 := ⟨m - 1, by omega⟩
      have hk : k < S.waits.length := by rw [NW.out]; omega
      obtain ⟨b, rfl, hc, hd⟩ := HWC.out k hk
      have hc2 := FAR.out b _ _ hc
      have hd2 := FAR.out b _ _ hd
      have ek : ((k + 1 : Nat) : Int) - 1 = (k : Int) := by omega
      have hk1 : (k : Int) < (nw : Int) := by omega
      rw [ek]
      obtain ⟨x, hx⟩ : ∃ x, S.waits[k]'hk = x := ⟨_, rfl⟩
      rw [hx] at hc2 hd2
      by_cases he : x.1 = q
      · have hres : x.2 = R := by
          rw [← HR.out, ← hx]
          exact (found HM.out hk (by rw [hx]; exact he) (by rw [NL.out]; exact hq)).symm
        rw [hres] at hd2
        rw [he] at hc2
        clear hc hd hres HM FAR hx ek
        go_wp2
        go_ret2
        exact ⟨rfl, HB.out⟩
      · have e2 : ((x.1 : Int) == (q : Int)) = false := by simp; omega
        have HN := Asd.mk (none_step HM.out hk (by rw [hx]; exact he))
        clear hc hd HM FAR hx ek he
        go_wp2
        go_roundw
        case rel => exact ⟨k, by go_num, by omega, trivial, HN⟩
        case measure => simp [intOf]
end Go.Proofs.YtknbhgodhmcemaaDoor.Dk
namespace Go.Proofs.YtknbhgodhmcemaaDoor.Dk
set_option linter.unusedSimpArgs false
set_option linter.unusedVariables false
set_option maxRecDepth 100000
open Go.RowKit Go.Proofs.YtknbhgodhmcemaaDoor.Own Go.Proofs.YtknbhgodhmcemaaDoor.Cel
theorem infoWr : (Tryd.prog.info? 123).map (fun i => (i.zero, i.size, i.bytes)) = some (some (.agg #[.int .i64 0, .string ⟨#[]⟩]), 2, 24) := by kernel_rfl
theorem append_far {P : Program} (w : World) (base : Nat) (t ty e : TypeId) (i : TypeInfo) (z : Value) (size bytes : Nat) (ht : P.underlying t = some (.slice e)) (hi : P.info? e = some i) (hz : i.zero = some z)
    (hsize : i.size = size) (hby : i.bytes = bytes) (hzs : z.cells.size = size) (v : Value) (n : Nat) (xs : List Value) (hown : w.ownsRow base e size v n xs)
    (a : Addr) (m c : Nat) (news : List Value) (hl : news.length = m * size) (hnews : ∀ j u, news[j]? = some u → w.cell? (a.add j) = some u) (h1 : ∀ u ∈ news, u.oneCell' = true) (hm : 0 < m)
    (h63 : n + m ≤ maxLen) (hbytes : (n + m) * bytes ≤ 140737488355328) {v' : Value} {w' : World} (hrun : (Builtin.append_ #[t, t] ty #[v, .slice (some a) m c]).run P w = .ok v' w') :
    ∀ q, v'.ownBlock = some q → v.ownBlock = some q ∨ w.heap.size ≤ q := by
  subst hsize
  subst hby
  have hsmall : n + m ≤ 9223372036854775807 := by simp only [maxLen] at h63; omega
  intro q hq
  have of : ∀ {x : Value} {W : World}, (Builtin.append_ #[t, t] ty #[v, .slice (some a) m c]).run P w = .ok x W → v' = x := fun h => by
    rw [hrun] at h
    injection h
  rcases hown.2 with ⟨rfl, rfl⟩ | ⟨g, cap, cur, rfl, hbg, hg, hnc, hcm, hcs, htake⟩
  · have hr := of (run_append_nil (P := P) w t ty e i z ht hi hz a m c news hl hnews (by omega) (by omega) (by have hb := hbytes; simp only [Nat.zero_add] at hb; omega))
    subst hr
    simp [Value.ownBlock] at hq
    exact .inr (by omega)
  · by_cases hroom : n + m ≤ cap
    · have hfit : n * i.size + news.length ≤ cur.size := by rw [hl, hcs, ← Nat.add_mul]; exact Nat.mul_le_mul_right _ hroom
      have hr := of (run_append_room (P := P) w t ty e i ht hi g n cap cur hg a m c news hl hnews h1 hroom hfit)
      subst hr
      exact .inl hq
    · have hr := of (run_append_grow (P := P) w t ty e i z ht hi hz ⟨g, 0, none⟩ n cap xs hown.1 (hown.cells (g := g) rfl) a m c news hl hnews (by omega) (by omega) (growslice_fits (by omega) hbytes))
      subst hr
      simp [Value.ownBlock] at hq
      exact .inr (by omega)
theorem wapp (V : World) (B : Nat) (v : Value) (n : Nat) (xs : List Value) (hown : V.ownsRow B 123 2 v n xs) (hB : B ≤ V.heap.size) (wv : Value) (ws : List Wt) (hw : V.ownsRow 0 123 2 wv ws.length (wcells ws)) (h0 : ws = [] → wv = .slice none 0 0) (hn : n + ws.length ≤ 2000000) :
    ∃ v' V', (Builtin.append_ #[48, 48] 48 #[v, wv]).run Tryd.prog V = .ok v' V' ∧ V'.ownsRow B 123 2 v' (n + ws.length) (xs ++ wcells ws) ∧ V.grownBy V' v.ownBlock ∧ ∀ q, v'.ownBlock = some q → v.ownBlock = some q ∨ V.heap.size ≤ q := by
  obtain ⟨i0, hi0, hz0, hz1, hz2⟩ := info_parts infoWr
  by_cases e : ws = []
  · subst e
    rw [h0 rfl]
    refine ⟨v, V, run_append_owned_none (P := Tryd.prog) V B 48 48 123 i0 2 Tryd.underlying48 hi0 v n xs hown, ?_, ⟨rfl, rfl, rfl, Nat.le_refl _, fun _ _ _ => rfl⟩, fun q hq => .inl hq⟩
    rw [show wcells [] = [] from rfl, List.append_nil]; exact hown
  · have hpos : 0 < ws.length := List.length_pos_iff.2 e
    rcases hw.2 with ⟨_, hz⟩ | ⟨g, cap, cur, rfl, _⟩
    · omega
    have hc : ∀ (j : Nat) (u : Value), (wcells ws)[j]? = some u → V.cell? ((⟨g, 0, none⟩ : Addr).add j) = some u := fun j u hj => hw.cells (g := g) rfl j u hj
    obtain ⟨v', V', hr, ho, hg, _⟩ := run_append_own (P := Tryd.prog) V B 48 48 123 i0 _ 2 _ Tryd.underlying48 hi0 hz0 hz1 hz2 rfl (by decide) v n xs hown ⟨g, 0, none⟩ ws.length cap (wcells ws) (wcells_len ws) hc (wcells_one ws) (by unfold maxLen; omega) (by omega) hB
    exact ⟨v', V', hr, ho, hg, append_far (P := Tryd.prog) V B 48 48 123 i0 _ 2 _ Tryd.underlying48 hi0 hz0 hz1 hz2 rfl v n xs hown ⟨g, 0, none⟩ ws.length cap (wcells ws) (wcells_len ws) hc (wcells_one ws) hpos (by unfold maxLen; omega) (by omega) hr⟩
theorem append_known {P : Program} {ops : Array Oper} {rest : List Oper} {o : Oper} {a : Act} {w : World} {Q : Exit → Act → World → Prop} (hgd : o.guard = none) (s x : Operand) (t : TypeId) (ho : o.op = .call { callee := .builtin .append, args := #[s, x], argTypes := #[t, t] })
    (v y : Value) (hs : a.eval s = v) (hx : a.eval x = y) {v' : Value} {w' : World} (hr : (Builtin.append_ #[t, t] o.type #[v, y]).run P w = .ok v' w') (h : wpList P ops Q rest (a.put o.dst v') w') : wpList P ops Q (o :: rest) a w :=
  wpList_plain hgd fun K hK => by
    unfold Oper.wp execOp
    simp only [ho, resolve, invoke, builtin, Sem.run_bind, Sem.run_pure, Result.andThen_ok, List.map_toArray, List.map_cons, List.map_nil, hs, hx, hr]
    exact hK _ _ h
theorem owns_cell1 {V : World} {B n : Nat} {e : TypeId} {sz : Nat} {v : Value} {xs : List Value} (h : V.ownsRow B e sz v n xs) : v.oneCell' = true := by
  rcases h.2 with ⟨rfl, _⟩ | ⟨_, _, _, rfl, _⟩ <;> rfl
abbrev zM : Array Value := #[.slice none 0 0, .slice none 0 0, .int .i64 0, .int .i64 0]
theorem infoMS (lv wv : Value) (S : DS) : (Tryd.prog.info? 50).map (·.size) = some (mvV lv wv S).size := infoM
def RD (G : Nat → Prop) (mv : Array Value) (S : DS) (V : World) : Prop := ∃ lv wv, mv = mvV lv wv S ∧ RK G lv wv S V
def Rid (G : Nat → Prop) (mv' : Array Value) (S' : DS) (V V' : World) : Prop := ∃ G', RD G' mv' S' V' ∧ Below V.heap.size V V' ∧ ∀ k, G' k → G k ∨ V.heap.size ≤ k
theorem RK.failed {G : Nat → Prop} {lv wv : Value} {S : DS} {V : World} (h : RK G lv wv S V) : RK G lv wv S.fails.1 V := by
  unfold DS.fails; split
  · exact h
  · exact h
set_option maxHeartbeats 8000000 in
theorem rput_calls {G : Nat → Prop} {lv wv : Value} {S : DS} {V : World} (h : RK G lv wv S V) (i : Int) (s : ByteArray) (hl : S.lasts.length ≤ 100000) (hw : S.waits.length ≤ 1000000) (ha : S.armed ≤ 9223372036854775807) (ho0 : 0 ≤ S.ops) (ho : S.ops ≤ 4611686018427387904) :
    Calls Tryd.prog 29 #[.agg (mvV lv wv S), .int .i64 i, .string s] V fun e V' => ∃ mv', e = .returned (.tuple #[.agg mv', .int .i64 (S.put i s).2]) ∧ Rid G mv' (S.put i s).1 V V' := by
  obtain ⟨Al, cl, rfl, hlc⟩ := h.lcell
  obtain ⟨nl, hnl⟩ : ∃ n, S.lasts.length = n := ⟨_, rfl⟩
  have hwo := owns_cell1 h.2.1
  have hb := ((Below.refl V.heap.size V).alloc (Nat.le_refl _) (.cells (mvV (.slice Al S.lasts.length cl) wv S) 50)).alloc (by simp) (.cells zM 50)
  have z3 : ((V.alloc (.cells (mvV (.slice Al S.lasts.length cl) wv S) 50)).alloc (.cells zM 50)).heap[V.heap.size]? = some (.cells (mvV (.slice Al S.lasts.length cl) wv S) 50 (0, 0)) := Own.keep (heap_alloc_new V _) ((Below.refl _ _).alloc (Nat.le_refl _) _)
  have z6 : ((V.alloc (.cells (mvV (.slice Al S.lasts.length cl) wv S) 50)).alloc (.cells zM 50)).heap[V.heap.size + 1]? = some (.cells zM 50 (0, 0)) := by
    have := heap_alloc_new (V.alloc (.cells (mvV (.slice Al S.lasts.length cl) wv S) 50)) (.cells zM 50)
    simpa using this
  have k0 : ((V.alloc (.cells (mvV (.slice Al S.lasts.length cl) wv S) 50)).alloc (.cells zM 50)).cell? ⟨V.heap.size, 0, none⟩ = some (.slice Al S.lasts.length cl) := cell_of_row _ _ 0 _ _ _ z3
  have iM := infoMS (.slice Al S.lasts.length cl) wv S
  have oM := mvV_one (.slice Al S.lasts.length cl) wv S rfl hwo
  have HB := Asd.mk hb
  have HR := Asd.mk h
  -- an answer that leaves the disk
  have HWO := Asd.mk hwo
  have QUIT := Asd.mk (show ∀ (cs : Array Value), Rid G (mvV (.slice Al S.lasts.length cl) wv S) S V (((V.alloc (.cells (mvV (.slice Al S.lasts.length cl) wv S) 50)).alloc (.cells zM 50)).setRow (V.heap.size + 1) cs) from fun cs =>
    ⟨G, ⟨_, _, rfl, h.below (below_setRow hb (by omega) cs)⟩, below_setRow hb (by omega) cs, fun k hk => .inl hk⟩)
  rw [hnl] at hl iM oM z3 z6 k0 QUIT HB ⊢
  have NL := Asd.mk hnl
  clear h hlc hb
  by_cases a : 0 ≤ i ∧ i < (nl : Int)
  rotate_left
  · have e : S.put i s = (S, 5) := put_no (by rw [NL.out]; exact a)
    rw [e]
    by_cases a0 : i < 0
    · have t0 : decide (i < 0) = true := decide_eq_true a0
      clear a
      go_enter Tryd.func29, Tryd.ntmps29
      go_wp2_with (first | refine wpList_load_row rfl 50 _ rfl V.heap.size rfl 50 _ (0, 0) _ z3 Tryd.underlying50 rfl iM ?_ | refine wpList_store_row rfl 50 _ _ rfl (V.heap.size + 1) (mvV (.slice Al nl cl) wv S) rfl rfl 50 _ z6 iM rfl oM ?_ | fail)
      exact bodyPost_ret (Cel.end_cell rfl _ _ _ _ _ z6 rfl Tryd.underlying50 rfl iM) rfl ⟨_, rfl, QUIT.out _⟩
    · have t0 : decide (i < 0) = false := decide_eq_false a0
      have t1 : decide ((nl : Int) ≤ i) = true := decide_eq_true (by omega)
      clear a a0
      go_enter Tryd.func29, Tryd.ntmps29
      go_wp2_with (first | refine wpList_load_row rfl 50 _ rfl V.heap.size rfl 50 _ (0, 0) _ z3 Tryd.underlying50 rfl iM ?_ | refine wpList_store_row rfl 50 _ _ rfl (V.heap.size + 1) (mvV (.slice Al nl cl) wv S) rfl rfl 50 _ z6 iM rfl oM ?_ | fail)
      exact bodyPost_ret (Cel.end_cell rfl _ _ _ _ _ z6 rfl Tryd.underlying50 rfl iM) rfl ⟨_, rfl, QUIT.out _⟩
  obtain ⟨q, rfl⟩ := Int.eq_ofNat_of_zero_le a.1
  have t0 : decide ((q : Int) < 0) = false := decide_eq_false (by omega)
  have hq : q < nl := by omega
  have t1 : decide ((nl : Int) ≤ (q : Int)) = false := decide_eq_false (by omega)
  have t1' : decide (nl ≤ q) = false := decide_eq_false (by omega)
  by_cases hs : s.size = 128
  rotate_left
  · have e : S.put (q : Int) s = (S, 4) := put_form (by rw [NL.out]; exact a) hs
    rw [e]
    have t2 : ((s.size : Int) != 128) = true := by simp; omega
    clear a hs
    go_enter Tryd.func29, Tryd.ntmps29
    go_wp2_with (first | refine wpList_load_row rfl 50 _ rfl V.heap.size rfl 50 _ (0, 0) _ z3 Tryd.underlying50 rfl iM ?_ | refine wpList_store_row rfl 50 _ _ rfl (V.heap.size + 1) (mvV (.slice Al nl cl) wv S) rfl rfl 50 _ z6 iM rfl oM ?_ | fail)
    exact bodyPost_ret (Cel.end_cell rfl _ _ _ _ _ z6 rfl Tryd.underlying50 rfl iM) rfl ⟨_, rfl, QUIT.out _⟩
  have t2 : ((s.size : Int) != 128) = false := by simp; omega
  have KC := Asd.mk (count_calls (.slice Al nl cl) wv S ((V.alloc (.cells (mvV (.slice Al nl cl) wv S) 50)).alloc (.cells zM 50)) ha rfl hwo)
  obtain ⟨P2, hP2⟩ : ∃ P2, S.put (q : Int) s = P2 := ⟨_, rfl⟩
  rw [hP2]
  have HP := Asd.mk hP2
  obtain ⟨S1, hS1⟩ : ∃ S1, S.fails.1 = S1 := ⟨_, rfl⟩
  obtain ⟨bad, hbad⟩ : ∃ b, S.fails.2 = b := ⟨_, rfl⟩
  have HS1 := Asd.mk hS1
  have HBD := Asd.mk hbad
  rw [hS1, hbad] at KC
  have HA := Asd.mk a
  have HSZ := Asd.mk hs
  have Z := Asd.mk (And.intro z3 z6)
  have i1 := infoMS (.slice Al nl cl) wv S1
  have o1 := mvV_one (.slice Al nl cl) wv S1 rfl hwo
  clear hP2 hS1 hbad a hs QUIT oM hwo
  go_enter Tryd.func29, Tryd.ntmps29
  go_wp2_with (first | refine wpList_load_row rfl 50 _ rfl V.heap.size rfl 50 _ (0, 0) _ z3 Tryd.underlying50 rfl iM ?_ | fail)
  refine KC.out.mono ?_
  rintro e W1 ⟨rfl, hb1⟩
  have z3 := Own.keep Z.out.1 hb1
  have z6 := Own.keep Z.out.2 hb1
  have HB1 := Asd.mk (HB.out.trans (hb1.mono HB.out.size))
  have hsz1 : V.heap.size + 1 < W1.heap.size := (Array.getElem?_eq_some_iff.1 z6).1
  have z3b := setRow_heap W1 V.heap.size _ (mvV (.slice Al nl cl) wv S1) 50 (0, 0) z3
  have z6b : (W1.setRow V.heap.size (mvV (.slice Al nl cl) wv S1)).heap[V.heap.size + 1]? = some (.cells zM 50 (0, 0)) := (setRow_other W1 V.heap.size (V.heap.size + 1) _ (by omega)).trans z6
  have HB2 := Asd.mk (below_setRow HB1.out (g := V.heap.size) (Nat.le_refl _) (mvV (.slice Al nl cl) wv S1))
  clear KC hb1 Z k0
  cases bad with
  | true =>
    have e : P2 = (S1, 7) := HP.out.symm.trans ((put_fails (by rw [NL.out]; exact HA.out) HSZ.out HBD.out).trans (by rw [HS1.out]))
    subst e
    have HRK := Asd.mk (HR.out.failed)
    rw [HS1.out] at HRK
    go_wp2_with (first | refine wpList_store_row rfl 50 _ _ rfl V.heap.size (mvV (.slice Al nl cl) wv S1) rfl rfl 50 _ z3 i1 rfl o1 ?_ | refine wpList_load_row rfl 50 _ rfl V.heap.size rfl 50 _ (0, 0) _ z3b Tryd.underlying50 rfl i1 ?_ | refine wpList_store_row rfl 50 _ _ rfl (V.heap.size + 1) (mvV (.slice Al nl cl) wv S1) rfl rfl 50 _ z6b i1 rfl o1 ?_ | fail)
    refine bodyPost_ret (Cel.end_cell rfl _ _ _ _ _ z6b rfl Tryd.underlying50 rfl i1) rfl ⟨_, rfl, G, ⟨_, _, by rw [← NL.out], ?_⟩, ?_, fun k hk => .inl hk⟩
    · exact HRK.out.below (below_setRow HB2.out (by omega) _)
    · exact below_setRow HB2.out (by omega) _
  | false =>
    have e : P2 = ({ S1 with waits := S.waits ++ [(q, s)], ops := S.ops + 1 }, 0) := HP.out.symm.trans ((put_ok (by rw [NL.out]; exact HA.out) HSZ.out HBD.out).trans (by rw [HS1.out, Int.toNat_natCast]))
    subst e
    have HRK := Asd.mk (HR.out.failed)
    rw [HS1.out] at HRK
    have ew : S1.waits = S.waits := by rw [← HS1.out]; exact (fails_lasts S).2.1
    have eo : S1.ops = S.ops := by rw [← HS1.out]; exact (fails_lasts S).2.2
    have hsz2 : V.heap.size + 1 < (W1.setRow V.heap.size (mvV (.slice Al nl cl) wv S1)).heap.size := (Array.getElem?_eq_some_iff.1 z6b).1
    obtain ⟨W2, hW2⟩ : ∃ W2, (W1.setRow V.heap.size (mvV (.slice Al nl cl) wv S1)) = W2 := ⟨_, rfl⟩
    rw [hW2] at z3b z6b HB2 hsz2
    have bA := (Below.refl W2.heap.size W2).alloc (Nat.le_refl _) (.cells #[] 123)
    have own8 : (W2.alloc (.cells #[] 123)).ownsRow V.heap.size 123 2 (.slice (some ⟨W2.heap.size, 0, none⟩) 0 0) 0 [] :=
      ⟨rfl, .inr ⟨W2.heap.size, 0, #[], rfl, by omega, heap_alloc_new W2 _, Nat.le_refl _, by decide, rfl, rfl⟩⟩
    obtain ⟨v1, V1, hr1, ho1, hg1, hf1⟩ := wapp (W2.alloc (.cells #[] 123)) V.heap.size _ 0 [] own8 (by have := bA.size; omega) wv S.waits (owns_keep HR.out.2.1 ((HB2.out.trans (bA.mono HB2.out.size)))) HR.out.2.2.2 (by omega)
    have bB := bA.grown hg1 (by have := bA.size; omega) (fun p e => by simp [Value.ownBlock] at e; omega)
    have bC := bB.alloc bB.size (.cells #[.int .i64 (q : Nat), .string s] 123)
    obtain ⟨v2, V2, hr2, ho2, hg2, hf2⟩ := wapp (V1.alloc (.cells #[.int .i64 (q : Nat), .string s] 123)) V.heap.size v1 _ _ (owns_keep ho1 ((Below.refl _ _).alloc (Nat.le_refl _) _)) (by have := bC.size; omega) (.slice (some ⟨V1.heap.size, 0, none⟩) 1 1) [(q, s)] ⟨rfl, .inr ⟨V1.heap.size, 1, _, rfl, Nat.zero_le _, heap_alloc_new V1 _, Nat.le_refl _, by decide, rfl, rfl⟩⟩ (fun e => by cases e) (by simp; omega)
    have hown1 : ∀ p, v1.ownBlock = some p → W2.heap.size ≤ p := fun p e => by
      rcases hf1 p e with h | h
      · simp [Value.ownBlock] at h; omega
      · have := bA.size; omega
    have bD := bC.grown hg2 bC.size hown1
    have hown2 : ∀ p, v2.ownBlock = some p → W2.heap.size ≤ p := fun p e => by
      rcases hf2 p e with h | h
      · exact hown1 p h
      · have := bC.size; omega
    obtain ⟨nn, hnn⟩ : ∃ nn, 0 + S.waits.length + [(q, s)].length = nn := ⟨_, rfl⟩
    rw [hnn] at ho2
    have HNN := Asd.mk hnn
    clear hnn
    obtain ⟨Av, cv, rfl⟩ := owns_slice ho2
    have z3c := (bD.block V.heap.size (by omega)).trans z3b
    have z6c := (bD.block (V.heap.size + 1) (by omega)).trans z6b
    have k31 : V2.cell? ⟨V.heap.size, 1, none⟩ = some wv := cell_of_row _ _ 1 _ _ _ z3c
    have fz31 : V2.frozen? ⟨V.heap.size, 1, none⟩ = false := frozen_of_row _ _ 1 _ _ z3c
    have z3d := heap_setCell_same V2 V.heap.size 1 _ _ (.slice Av nn cv) z3c
    have k33 : (V2.setCell ⟨V.heap.size, 1, none⟩ (.slice Av nn cv)).cell? ⟨V.heap.size, 3, none⟩ = some (.int .i64 S1.ops) := cell_of_row _ _ 3 _ _ _ z3d
    have fz33 : (V2.setCell ⟨V.heap.size, 1, none⟩ (.slice Av nn cv)).frozen? ⟨V.heap.size, 3, none⟩ = false := frozen_of_row _ _ 3 _ _ z3d
    rw [eo] at k33
    have z3e : ((V2.setCell ⟨V.heap.size, 1, none⟩ (.slice Av nn cv)).setCell ⟨V.heap.size, 3, none⟩ (.int .i64 (S.ops + 1))).heap[V.heap.size]? = some (.cells (mvV (.slice Al nl cl) (.slice Av nn cv) { S1 with waits := S.waits ++ [(q, s)], ops := S.ops + 1 }) 50 (0, 0)) := heap_setCell_same _ V.heap.size 3 _ _ (.int .i64 (S.ops + 1)) z3d
    have z6e : ((V2.setCell ⟨V.heap.size, 1, none⟩ (.slice Av nn cv)).setCell ⟨V.heap.size, 3, none⟩ (.int .i64 (S.ops + 1))).heap[V.heap.size + 1]? = some (.cells zM 50 (0, 0)) := by
      rw [set_other _ _ _ _ (by show V.heap.size + 1 ≠ V.heap.size; omega), set_other _ _ _ _ (by show V.heap.size + 1 ≠ V.heap.size; omega)]
      exact z6c
    have i2 := infoMS (.slice Al nl cl) (.slice Av nn cv) { S1 with waits := S.waits ++ [(q, s)], ops := S.ops + 1 }
    have o2 := mvV_one (.slice Al nl cl) (.slice Av nn cv) { S1 with waits := S.waits ++ [(q, s)], ops := S.ops + 1 } rfl (owns_cell1 ho2)
    have bE := Asd.mk ((((HB2.out.trans (bD.mono HB2.out.size)).setCell (p := ⟨V.heap.size, 1, none⟩) (Nat.le_refl _) (.slice Av nn cv)).setCell (p := ⟨V.heap.size, 3, none⟩) (Nat.le_refl _) (.int .i64 (S.ops + 1))))
    have hbnd : S.ops + 1 ≤ 9223372036854775807 := by omega
    have kA : (W2.alloc (.cells #[] 123)).cell? ⟨V.heap.size, 1, none⟩ = some wv := cell_of_row _ _ 1 _ _ _ (Own.keep z3b ((Below.refl _ _).alloc (Nat.le_refl _) _))
    subst hW2
    have esz : (W1.setRow V.heap.size (mvV (.slice Al nl cl) wv S1)).heap.size = W1.heap.size := by simp [World.setRow]
    rw [esz] at hr1
    clear esz
    have R1 := Asd.mk hr1
    have R2 := Asd.mk hr2
    have HO2 := Asd.mk (And.intro ho2 hown2)
    clear hr1 hr2 ho1 hg1 hf1 ho2 hg2 hf2 bA bB bC bD own8 hown1 hown2 z3c z6c z3d z3b z6b
    go_wp2_with (first | refine wpList_store_row rfl 50 _ _ rfl V.heap.size (mvV (.slice Al nl cl) wv S1) rfl rfl 50 _ z3 i1 rfl o1 ?_ | refine append_known rfl _ _ 48 rfl _ _ rfl rfl R1.out ?_ | refine append_known rfl _ _ 48 rfl _ _ rfl rfl R2.out ?_ | refine wpList_load_row rfl 50 _ rfl V.heap.size rfl 50 _ (0, 0) _ z3e Tryd.underlying50 rfl i2 ?_ | refine wpList_store_row rfl 50 _ _ rfl (V.heap.size + 1) (mvV (.slice Al nl cl) (.slice Av nn cv) { S1 with waits := S.waits ++ [(q, s)], ops := S.ops + 1 }) rfl rfl 50 _ z6e i2 rfl o2 ?_ | fail)
    have hown := HO2.out.2
    have HBB := below_setRow bE.out (g := V.heap.size + 1) (by omega) (mvV (.slice Al nl cl) (.slice Av nn cv) { S1 with waits := S.waits ++ [(q, s)], ops := S.ops + 1 })
    have hlen : nn = (S.waits ++ [(q, s)]).length := by rw [← HNN.out, List.length_append, Nat.zero_add]
    have hcl : [] ++ wcells S.waits ++ wcells [(q, s)] = wcells (S.waits ++ [(q, s)]) := by rw [List.nil_append, wcells_append]
    have hrk := HRK.out
    rw [NL.out] at hrk
    refine bodyPost_ret (Cel.end_cell rfl _ _ _ _ _ z6e rfl Tryd.underlying50 rfl i2) rfl ⟨_, rfl, (fun k => G k ∨ (Value.slice Av nn cv).ownBlock = some k), ⟨_, _, rfl, owns_keep hrk.1 HBB, ?_, fun k hk => hk.imp (fun e => hrk.2.2.1 k (.inl e)) id, fun e => absurd e (by simp)⟩, HBB, fun k hk => hk.imp id (fun e => by have := hown k e; omega)⟩
    show World.ownsRow _ 0 123 2 (.slice Av nn cv) (S.waits ++ [(q, s)]).length (wcells (S.waits ++ [(q, s)]))
    rw [← hcl, ← hlen]
    refine owns_mono (owns_block HO2.out.1 (fun k e => ?_)) (Nat.zero_le _)
    have h1 := hown k e
    rw [setRow_other _ _ _ _ (by omega), set_other _ _ _ _ (by show k ≠ V.heap.size; omega), set_other _ _ _ _ (by show k ≠ V.heap.size; omega)]
end Go.Proofs.YtknbhgodhmcemaaDoor.Dk
namespace Go.Proofs.YtknbhgodhmcemaaDoor.So
set_option linter.unusedSimpArgs false
set_option linter.unusedVariables false
set_option maxRecDepth 100000
open Go.RowKit Go.Proofs.YtknbhgodhmcemaaDoor.Own Go.Proofs.YtknbhgodhmcemaaDoor.Cel Go.Proofs.YtknbhgodhmcemaaDoor.Dk
abbrev mayP (n : Nat) (fr room : Int) : Prop := 0 ≤ fr ∧ fr < (n : Int) ∧ 1 ≤ room ∧ room ≤ (n : Int) - fr
theorem mayP_nat {n : Nat} {fr room : Int} (h : mayP n fr room) : ∃ f r : Nat, fr = f ∧ room = r ∧ 1 ≤ r ∧ f + r ≤ n := by
  obtain ⟨h1, h2, h3, h4⟩ := h
  obtain ⟨f, rfl⟩ := Int.eq_ofNat_of_zero_le h1
  obtain ⟨r, rfl⟩ := Int.eq_ofNat_of_zero_le (show 0 ≤ room by omega)
  exact ⟨f, r, rfl, rfl, by omega, by omega⟩
set_option maxHeartbeats 4000000 in
theorem rmay_calls {G : Nat → Prop} {lv wv : Value} {S : DS} {V : World} (h : RK G lv wv S V) (hl : S.lasts.length ≤ 100000) (fr room : Int) :
    Calls Tryd.prog 58 #[.agg (mvV lv wv S), .int .i64 fr, .int .i64 room] V fun e V' => e = .returned (.bool (decide (mayP S.lasts.length fr room))) ∧ Below V.heap.size V V' := by
  obtain ⟨Al, cl, rfl, _⟩ := h.lcell
  obtain ⟨nl, hnl⟩ : ∃ n, S.lasts.length = n := ⟨_, rfl⟩
  have HB := Asd.mk ((Below.refl V.heap.size V).alloc (Nat.le_refl _) (.cells (mvV (.slice Al S.lasts.length cl) wv S) 50))
  have k0 : (V.alloc (.cells (mvV (.slice Al S.lasts.length cl) wv S) 50)).cell? ⟨V.heap.size, 0, none⟩ = some (.slice Al S.lasts.length cl) := cell_of_row _ _ 0 _ _ _ (heap_alloc_new V _)
  rw [hnl] at hl k0 HB ⊢
  clear h hnl
  by_cases ha : 0 ≤ fr
  rotate_left
  · have ta : decide (0 ≤ fr) = false := decide_eq_false ha
    rw [show decide (mayP nl fr room) = false from decide_eq_false (fun e => ha e.1)]
    clear ha
    go_enter Tryd.func58, Tryd.ntmps58
    go_wp2
    go_ret
    exact ⟨rfl, HB.out⟩
  have ta : decide (0 ≤ fr) = true := decide_eq_true ha
  obtain ⟨f, rfl⟩ := Int.eq_ofNat_of_zero_le ha
  by_cases hb : (f : Int) < (nl : Int)
  rotate_left
  · have tb : decide ((f : Int) < (nl : Int)) = false := decide_eq_false hb
    have tb' : decide (f < nl) = false := decide_eq_false (by omega)
    rw [show decide (mayP nl f room) = false from decide_eq_false (fun e => hb e.2.1)]
    clear hb
    go_enter Tryd.func58, Tryd.ntmps58
    go_wp2
    go_ret
    exact ⟨rfl, HB.out⟩
  have tb : decide ((f : Int) < (nl : Int)) = true := decide_eq_true hb
  have tb' : decide (f < nl) = true := decide_eq_true (by omega)
  by_cases hc : 1 ≤ room
  rotate_left
  · have tc : decide (1 ≤ room) = false := decide_eq_false hc
    rw [show decide (mayP nl f room) = false from decide_eq_false (fun e => hc e.2.2.1)]
    clear hc
    go_enter Tryd.func58, Tryd.ntmps58
    go_wp2
    go_ret
    exact ⟨rfl, HB.out⟩
  have tc : decide (1 ≤ room) = true := decide_eq_true hc
  by_cases hd : room ≤ (nl : Int) - (f : Int)
  rotate_left
  · have td : decide (room ≤ (nl : Int) - (f : Int)) = false := decide_eq_false hd
    rw [show decide (mayP nl f room) = false from decide_eq_false (fun e => hd e.2.2.2)]
    clear hd
    go_enter Tryd.func58, Tryd.ntmps58
    go_wp2
    go_ret
    exact ⟨rfl, HB.out⟩
  have td : decide (room ≤ (nl : Int) - (f : Int)) = true := decide_eq_true hd
  rw [show decide (mayP nl f room) = true from decide_eq_true ⟨ha, hb, hc, hd⟩]
  go_enter Tryd.func58, Tryd.ntmps58
  go_wp2
  go_ret
  exact ⟨rfl, HB.out⟩
variable {B p : Nat} {S : DS} {F : Nat → Prop} {W : World}
set_option maxHeartbeats 4000000 in
theorem may_gen (h : DK B p S F W) (hl : S.lasts.length ≤ 100000) (fr room : Int) :
    Calls Tryd.prog 50 #[.pointer (some ⟨p, 0, none⟩), .int .i64 fr, .int .i64 room] W fun e W' => e = .returned (.bool (decide (mayP S.lasts.length fr room))) ∧ W = W' := by
  have KS := Asd.mk (size_calls h)
  obtain ⟨nl, hnl⟩ : ∃ n, S.lasts.length = n := ⟨_, rfl⟩
  rw [hnl] at hl KS ⊢
  clear h hnl
  by_cases ha : 0 ≤ fr
  rotate_left
  · have ta : decide (0 ≤ fr) = false := decide_eq_false ha
    rw [show decide (mayP nl fr room) = false from decide_eq_false (fun e => ha e.1)]
    clear ha
    go_enter Tryd.func50, Tryd.ntmps50
    go_wp2
    go_ret
    exact ⟨rfl, rfl⟩
  have ta : decide (0 ≤ fr) = true := decide_eq_true ha
  obtain ⟨f, rfl⟩ := Int.eq_ofNat_of_zero_le ha
  by_cases hc : 1 ≤ room
  rotate_left
  · have tc : decide (1 ≤ room) = false := decide_eq_false hc
    rw [show decide (mayP nl f room) = false from decide_eq_false (fun e => hc e.2.2.1)]
    clear hc
    go_enter Tryd.func50, Tryd.ntmps50
    go_wp2
    go_ret
    exact ⟨rfl, rfl⟩
  have tc : decide (1 ≤ room) = true := decide_eq_true hc
  by_cases hb : (f : Int) < (nl : Int)
  rotate_left
  · have tb : decide ((f : Int) < (nl : Int)) = false := decide_eq_false hb
    have tb' : decide (f < nl) = false := decide_eq_false (by omega)
    rw [show decide (mayP nl f room) = false from decide_eq_false (fun e => hb e.2.1)]
    clear hb
    go_enter Tryd.func50, Tryd.ntmps50
    go_wp2_with fail
    refine KS.out.mono ?_
    rintro e w1 ⟨rfl, rfl⟩
    go_wp2
    go_ret
    exact ⟨rfl, rfl⟩
  have tb : decide ((f : Int) < (nl : Int)) = true := decide_eq_true hb
  have tb' : decide (f < nl) = true := decide_eq_true (by omega)
  by_cases hd : room ≤ (nl : Int) - (f : Int)
  rotate_left
  · have td : decide (room ≤ (nl : Int) - (f : Int)) = false := decide_eq_false hd
    rw [show decide (mayP nl f room) = false from decide_eq_false (fun e => hd e.2.2.2)]
    clear hd
    go_enter Tryd.func50, Tryd.ntmps50
    go_wp2_with fail
    refine KS.out.mono ?_
    rintro e w1 ⟨rfl, rfl⟩
    go_wp2_with fail
    refine KS.out.mono ?_
    rintro e w1 ⟨rfl, rfl⟩
    go_wp2
    go_ret
    exact ⟨rfl, rfl⟩
  have td : decide (room ≤ (nl : Int) - (f : Int)) = true := decide_eq_true hd
  rw [show decide (mayP nl f room) = true from decide_eq_true ⟨ha, hb, hc, hd⟩]
  go_enter Tryd.func50, Tryd.ntmps50
  go_wp2_with fail
  refine KS.out.mono ?_
  rintro e w1 ⟨rfl, rfl⟩
  go_wp2_with fail
  refine KS.out.mono ?_
  rintro e w1 ⟨rfl, rfl⟩
  go_wp2
  go_ret
  exact ⟨rfl, rfl⟩
set_option maxHeartbeats 4000000 in
theorem swrite_no (h : DK B p S F W) (hl : S.lasts.length ≤ 100000) (fr room : Int) (g : Nat) (t : ByteArray) (hn : ¬ mayP S.lasts.length fr room) :
    Calls Tryd.prog 17 #[.pointer (some ⟨p, 0, none⟩), .int .i64 fr, .int .i64 room, .int .u64 (g : Nat), .string t] W fun e W' => e = .returned (.int .i64 5) ∧ W = W' := by
  have KM := may_gen h hl fr room
  rw [decide_eq_false hn] at KM
  have K := Asd.mk KM
  clear h hl hn KM
  go_enter Tryd.func17, Tryd.ntmps17
  go_wp2_with fail
  refine K.out.mono ?_
  rintro e w1 ⟨rfl, rfl⟩
  go_wp2
  go_ret
  exact ⟨rfl, rfl⟩
set_option maxHeartbeats 4000000 in
theorem snew_no (h : DK B p S F W) (hl : S.lasts.length ≤ 100000) (fr room : Int) (hn : ¬ mayP S.lasts.length fr room) :
    Calls Tryd.prog 20 #[.pointer (some ⟨p, 0, none⟩), .int .i64 fr, .int .i64 room] W fun e W' => e = .returned (.int .u64 0) ∧ Below W.heap.size W W' := by
  have KM := may_gen h hl fr room
  rw [decide_eq_false hn] at KM
  have K := Asd.mk KM
  clear h hl hn KM
  go_enter Tryd.func20, Tryd.ntmps20
  go_wp2_with fail
  refine K.out.mono ?_
  rintro e w1 ⟨rfl, rfl⟩
  go_wp2
  go_ret
  exact ⟨rfl, Below.refl _ _⟩
end Go.Proofs.YtknbhgodhmcemaaDoor.So
namespace Go.Proofs.YtknbhgodhmcemaaDoor.Own
set_option linter.unusedSimpArgs false
set_option linter.unusedVariables false
set_option maxRecDepth 100000
open Go.RowKit Go.Proofs.YtknbhgodhmcemaaDoor.Dk
theorem run_storeCells_atM (P : Program) (g o : Nat) (t : TypeId) (fz : Nat × Nat) : ∀ (vs : List Value) (i : Nat) (cur : Array Value) (w : World), w.heap[g]? = some (.cells cur t fz) → o + i + vs.length ≤ fz.1 → o + i + vs.length ≤ cur.size → (∀ v ∈ vs, v.oneCell' = true) →
    (storeCells ⟨g, o, none⟩ vs i).run P w = .ok () (w.setRow g (cur.toList.take (o + i) ++ vs ++ cur.toList.drop (o + i + vs.length)).toArray)
  | [], i, cur, w, hg, _, _, _ => by
    simp only [storeCells, List.append_nil, List.length_nil, Nat.add_zero, List.take_append_drop, Array.toArray_toList]
    rw [setRow_self w g cur t fz hg]
    rfl
  | v :: rest, i, cur, w, hg, hfz, hl, h1 => by
    have hi : o + i < cur.size := by simp at hl; omega
    have hadd : (⟨g, o, none⟩ : Addr).add i = ⟨g, o + i, none⟩ := by unfold Addr.add; split <;> simp_all
    have hcell : w.cell? ⟨g, o + i, none⟩ = some cur[o + i] := by simp [World.cell?, hg, hi]
    have hfro : w.frozen? ⟨g, o + i, none⟩ = false := by
      obtain ⟨lo, hi'⟩ := fz
      simp only [World.frozen?, hg, Bool.and_eq_false_iff, decide_eq_false_iff_not]
      left
      simp only [List.length_cons] at hfz
      omega
    have hst : (store ((⟨g, o, none⟩ : Addr).add i) v).run P w = .ok () (w.setRow g (cur.setIfInBounds (o + i) v)) := by
      rw [hadd, run_store P w _ v _ (h1 v (by simp)), hcell]
      simp [hfro, setCell_eq_setRow w g (o + i) cur t fz v hg]
    have ih := run_storeCells_atM P g o t fz rest (i + 1) (cur.setIfInBounds (o + i) v) (w.setRow g (cur.setIfInBounds (o + i) v)) (setRow_heap w g cur _ t _ hg) (by simp only [List.length_cons] at hfz; omega) (by simp at hl ⊢; omega) (fun x hx => h1 x (by simp [hx]))
    simp only [storeCells, Sem.run_bind, hst, Result.andThen_ok, ih, setRow_setRow]
    congr 3
    have e := list_seg_step cur.toList (o + i) v rest (by simp at hl ⊢; omega)
    simpa [Array.toList_setIfInBounds, Nat.add_assoc] using e
def ownsM (W : World) (base : Nat) (v : Value) (l : List UInt8) : Prop :=
  ∃ g cap cur fz, v = .slice (some ⟨g, 0, none⟩) l.length cap ∧ base ≤ g ∧ W.heap[g]? = some (.cells cur 5 fz) ∧ (fz = (0, 0) ∨ cur.size ≤ fz.1) ∧ l.length ≤ cap ∧ cap ≤ maxLen ∧ cur.size = cap ∧ cur.toList.take l.length = Lib.byteCells l
theorem ownsM.below {W W' : World} {base : Nat} {v : Value} {l : List UInt8} (h : ownsM W base v l) (hb : Below W.heap.size W W') : ownsM W' base v l := by
  obtain ⟨g, cap, cur, fz, e, h1, h2, h3⟩ := h
  exact ⟨g, cap, cur, fz, e, h1, Own.keep h2 hb, h3⟩
theorem ownsM.slice {W : World} {base : Nat} {v : Value} {l : List UInt8} (h : ownsM W base v l) : ∃ g c, v = .slice (some ⟨g, 0, none⟩) l.length c ∧ base ≤ g := by
  obtain ⟨g, cap, cur, fz, e, h1, _⟩ := h
  exact ⟨g, cap, e, h1⟩
theorem ownsM.cells {W : World} {base g c : Nat} {n : Nat} {l : List UInt8} (h : ownsM W base (.slice (some ⟨g, 0, none⟩) n c) l) : ∀ j u, (Lib.byteCells l)[j]? = some u → W.cell? ((⟨g, 0, none⟩ : Addr).add j) = some u := by
  intro j u hu
  obtain ⟨g', cap, cur, fz, e, h1, h2, h3, h4, h5, h6, h7⟩ := h
  simp only [Value.slice.injEq, Option.some.injEq, Addr.mk.injEq, and_true] at e
  obtain ⟨rfl, _, _⟩ := e
  have hadd : (⟨g, 0, none⟩ : Addr).add j = ⟨g, j, none⟩ := by unfold Addr.add; split <;> simp_all
  rw [hadd, cell_of_row W g j cur _ fz h2]
  rw [← h7, List.getElem?_take] at hu
  split at hu
  · simpa using hu
  · cases hu
theorem ownsM.string {W : World} {base : Nat} {v : Value} {l : List UInt8} (h : ownsM W base v l) : (convert 103 9 v).run Tryd.prog W = .ok (.string ⟨l.toArray⟩) W := by
  obtain ⟨g, c, rfl, _⟩ := h.slice
  exact run_convert_bytes_back (P := Tryd.prog) W 103 9 5 ⟨g, 0, none⟩ c l rfl rfl rfl (fun j hj => by
    have := h.cells j (.int .u8 (((l[j]'hj).toNat : Nat) : Int)) (by rw [Lib.byteCells, List.getElem?_map, List.getElem?_eq_getElem hj]; rfl)
    exact this)
theorem ownsM_of_string (s : ByteArray) (w : World) (hs : s.size ≤ 1000000) : ∃ v W, (convert 9 103 (.string s)).run Tryd.prog w = .ok v W ∧ Below w.heap.size w W ∧ ownsM W w.heap.size v s.data.toList := by
  have hl : s.data.toList.length = s.size := by rw [Array.length_toList]; rfl
  have hge := grownCap_ge w s.size 0 5
  have hcm := grownCap_le_maxLen w s.size 0 5 (by unfold maxLen; omega)
  have hz : (bytesRow s (grownCap w s.size 0 5)).size = grownCap w s.size 0 5 := by
    simp only [bytesRow, Array.size_append, Array.size_map, Array.size_replicate]
    show s.size + (grownCap w s.size 0 5 - s.size) = _
    omega
  refine ⟨_, _, run_bytes_of_string (P := Tryd.prog) w 9 103 5 s rfl rfl rfl, ((Below.refl _ _).drew).alloc (Nat.le_refl _) _, w.heap.size, _, _, _, by rw [hl], Nat.le_refl _, heap_alloc_new w.drew _, .inr (Nat.le_refl _), by rw [hl]; exact hge, hcm, hz, ?_⟩
  simp [bytesRow, Lib.byteCells]
theorem ownsM.append1 {W : World} {base : Nat} {v : Value} {l : List UInt8} (h : ownsM W base v l) (hB : base ≤ W.heap.size) (hl : l.length ≤ 1000000) (ty : TypeId) (a : Addr) (c : Nat) (x : UInt8) (hx : W.cell? (a.add 0) = some (.int .u8 (x.toNat : Nat))) :
    ∃ v' W', (Builtin.append_ #[103, 103] ty #[v, .slice (some a) 1 c]).run Tryd.prog W = .ok v' W' ∧ ownsM W' base v' (l ++ [x]) ∧ Below base W W' := by
  obtain ⟨g, cap, cur, fz, rfl, h1, h2, h3, h4, h5, h6, h7⟩ := h
  obtain ⟨i0, hi0, hz0, hz1, hz2⟩ := info_parts info8
  have hlb : (Lib.byteCells l).length = l.length := by simp [Lib.byteCells]
  have hlen : (l ++ [x]).length = l.length + 1 := by simp
  have hnews : ∀ j u, [Value.int .u8 (x.toNat : Nat)][j]? = some u → W.cell? (a.add j) = some u := by
    intro j u hj
    cases j with
    | zero => simp at hj; subst hj; exact hx
    | succ j => simp at hj
  have eb : Lib.byteCells (l ++ [x]) = Lib.byteCells l ++ [Value.int .u8 (x.toNat : Nat)] := by simp [Lib.byteCells]
  by_cases hroom : l.length + 1 ≤ cap
  · have hf := run_firstCells_some (P := Tryd.prog) W i0.size 1 a 1 c [.int .u8 (x.toNat : Nat)] (by simp [hz1]) hnews
    have hst : (storeCells ⟨g, l.length, none⟩ [.int .u8 (x.toNat : Nat)] 0).run Tryd.prog W = .ok () (W.setRow g (cur.toList.take l.length ++ [Value.int .u8 (x.toNat : Nat)] ++ cur.toList.drop (l.length + 1)).toArray) := by
      rcases h3 with rfl | h3
      · exact run_storeCells_at Tryd.prog g l.length 5 [.int .u8 (x.toNat : Nat)] 0 cur W h2 (by simp; omega) (by simp [Value.oneCell'])
      · exact run_storeCells_atM Tryd.prog g l.length 5 fz [.int .u8 (x.toNat : Nat)] 0 cur W h2 (by simp; omega) (by simp; omega) (by simp [Value.oneCell'])
    refine ⟨.slice (some ⟨g, 0, none⟩) (l.length + 1) cap, W.setRow g (cur.toList.take l.length ++ [Value.int .u8 (x.toNat : Nat)] ++ cur.toList.drop (l.length + 1)).toArray, ?_, ⟨g, cap, _, fz, by rw [hlen], h1, setRow_heap W g cur _ _ _ h2, ?_, by rw [hlen]; exact hroom, h5, ?_, ?_⟩, below_setRow (Below.refl base W) h1 _⟩
    · simp [Builtin.append_, run_underlying (show Tryd.prog.underlying 103 = some (.slice 5) from rfl), sizeOf, typeInfo, hi0, hz1, Builtin.lenOf, hroom, hf, Addr.add_lit]
      have e1 := hf
      rw [hz1] at e1
      simp [e1, hst]
    · rcases h3 with rfl | h3
      · exact .inl rfl
      · refine .inr ?_
        simp only [List.size_toArray, List.length_append, List.length_take, List.length_drop, Array.length_toList, List.length_cons, List.length_nil]
        omega
    · simp only [List.size_toArray, List.length_append, List.length_take, List.length_drop, Array.length_toList, List.length_cons, List.length_nil]
      omega
    · rw [h7, eb, hlen]
      exact List.take_left' (by rw [List.length_append, hlb]; rfl)
  · have hcap : cap = l.length := by omega
    subst hcap
    have hc : ∀ j u, (Lib.byteCells l)[j]? = some u → W.cell? ((⟨g, 0, none⟩ : Addr).add j) = some u := ownsM.cells (base := base) (c := cur.size) (n := l.length) (by
      exact ⟨g, cur.size, cur, fz, by rw [← h6], h1, h2, h3, by omega, by rw [h6]; exact h5, rfl, h7⟩)
    obtain ⟨cp, w', hr, ho, hg⟩ := run_append_new (P := Tryd.prog) W base 103 ty 5 i0 (.int .u8 0) 1 1 rfl hi0 hz0 hz1 hz2 rfl (.slice (some ⟨g, 0, none⟩) l.length l.length) l.length (Lib.byteCells l) (by rw [hlb, Nat.mul_one]) (.inr ⟨g, rfl, hc⟩) a 1 c [.int .u8 (x.toNat : Nat)] rfl hnews (by decide) (by unfold maxLen; omega) (by omega) hB
    refine ⟨_, _, hr, ?_, (Below.refl base W).grown hg hB (fun k e => by cases e)⟩
    rcases ho.2 with ⟨e, _⟩ | ⟨g', cap', cur', e, q1, q2, q3, q4, q5, q6⟩
    · cases e
    · exact ⟨g', cap', cur', (0, 0), by rw [hlen]; exact e, q1, q2, .inl rfl, by rw [hlen]; exact q3, q4, by rw [q5, Nat.mul_one], by rw [eb, hlen, ← q6, Nat.mul_one]⟩
end Go.Proofs.YtknbhgodhmcemaaDoor.Own
namespace Go.Proofs.YtknbhgodhmcemaaDoor.So
set_option linter.unusedSimpArgs false
set_option linter.unusedVariables false
set_option maxRecDepth 100000
open Go.RowKit Go.Proofs.YtknbhgodhmcemaaDoor.Own Go.Proofs.YtknbhgodhmcemaaDoor.Cel Go.Proofs.YtknbhgodhmcemaaDoor.Dk
open Go.Proofs.YtknbhgodhmcemaaDoor.Sl (rsum_calls sumN sumN_lt lb lb_len)
set_option maxHeartbeats 4000000 in
theorem rsummed_calls (s : ByteArray) (w : World) (hs : s.size ≤ 100000) :
    Calls Tryd.prog 73 #[.string s] w fun e w' => e = .returned (.string ⟨(summedL s.data.toList).toArray⟩) ∧ Below w.heap.size w w' := by
  have KS0 := rsum_calls s w (by omega)
  obtain ⟨v0, W0, hcv, hb0, ho0⟩ := ownsM_of_string s w (by omega)
  have hx := sumN_lt s.data.toList
  obtain ⟨x, hxe⟩ : ∃ x, sumN s.data.toList = x := ⟨_, rfl⟩
  rw [hxe] at KS0 hx
  have KS := Asd.mk KS0
  have hres : summedL s.data.toList = s.data.toList ++ lb x 4 := by rw [summedL, hxe]
  rw [hres]
  have hLl : s.data.toList.length = s.size := by rw [Array.length_toList]; rfl
  obtain ⟨L, hL⟩ : ∃ L, s.data.toList = L := ⟨_, rfl⟩
  rw [hL] at ho0 hLl ⊢
  have HL := Asd.mk (show L.length ≤ 100000 by omega)
  have H0 := Asd.mk (show Below w.heap.size w W0 ∧ ownsM W0 w.heap.size v0 (L ++ lb x 0) from ⟨hb0, by simpa [lb] using ho0⟩)
  clear KS0 hb0 ho0 hxe hres hLl hL hs
  go_enter Tryd.func73, Tryd.ntmps73
  go_wp2_with fail
  refine KS.out.mono ?_
  rintro e w1 ⟨rfl, rfl⟩
  clear KS
  go_wp2_with fail
  clear hcv
  go_loopw [5, 3, 4] (fun iv nv vv W => ∃ (i : Nat), iv = .int .i64 i ∧ i ≤ 4 ∧ nv = .int .u64 ((x / 256 ^ i : Nat) : Int) ∧ Asd (Below w.heap.size w W ∧ ownsM W w.heap.size vv (L ++ lb x i))) (fun iv _ _ _ => 4 - (intOf iv).toNat)
  case atStart => exact ⟨0, rfl, by omega, by simp, H0⟩
  case round =>
    obtain ⟨i, rfl, hi, rfl, HI⟩ := hrel
    clear H0
    by_cases hlt : i < 4
    · have hi1 : (i : Int) < 4 := by omega
      have hnext : x / 256 ^ (i + 1) = x / 256 ^ i / 256 := by rw [Nat.pow_succ, Nat.div_div_eq_div_mul]
      obtain ⟨m, hm⟩ : ∃ m, x / 256 ^ i = m := ⟨_, rfl⟩
      have hmx : m < 4294967296 := by rw [← hm]; exact Nat.lt_of_le_of_lt (Nat.div_le_self _ _) hx
      have hlb : lb x (i + 1) = lb x i ++ [UInt8.ofNat m] := by rw [lb, hm]
      rw [hm] at hnext ⊢
      obtain ⟨y, hy⟩ : ∃ y, m % 256 = y := ⟨_, rfl⟩
      have hy1 : (m : Int) % 256 = (y : Int) := by omega
      have hy2 : (y : Int) % 256 = (y : Int) := by omega
      have hyy : (UInt8.ofNat m).toNat = y := by rw [UInt8.toNat_ofNat', hy]
      have HQ := Asd.mk (show (m : Int) / 256 = ((x / 256 ^ (i + 1) : Nat) : Int) by rw [hnext]; omega)
      have bA := (Below.refl wr.heap.size wr).alloc (Nat.le_refl _) (.cells #[.int .u8 (y : Int)] 5)
      have cA : (wr.alloc (.cells #[.int .u8 (y : Int)] 5)).cell? ((⟨wr.heap.size, 0, none⟩ : Addr).add 0) = some (.int .u8 ((UInt8.ofNat m).toNat : Nat)) := by
        rw [hyy]
        exact cell_of_row _ wr.heap.size 0 _ _ _ (heap_alloc_new wr _)
      obtain ⟨v', W', hr, ho, hb⟩ := (HI.out.2.below bA).append1 (Nat.le_trans HI.out.1.size bA.size) (by rw [List.length_append, lb_len]; have := HL.out; omega) 103 ⟨wr.heap.size, 0, none⟩ 1 (UInt8.ofNat m) cA
      have HN := Asd.mk (show Below w.heap.size w W' ∧ ownsM W' w.heap.size v' (L ++ lb x (i + 1)) from ⟨(HI.out.1.trans (bA.mono HI.out.1.size)).trans hb, by rw [hlb, ← List.append_assoc]; exact ho⟩)
      have HR := Asd.mk hr
      clear hr ho hb bA cA HI hlb hnext hy hyy hm
      go_wp2_with (first | refine append_known rfl _ _ 103 rfl _ _ rfl rfl HR.out ?_ | fail)
      go_roundw
      case rel => exact ⟨i + 1, by go_num, by omega, by rw [← HQ.out], HN⟩
      case measure => simp [intOf]; omega
    · obtain rfl : i = 4 := by omega
      rw [show ((4 : Nat) : Int) = 4 from rfl]
      have hst := HI.out.2.string
      have HB := Asd.mk HI.out.1
      clear HI
      go_wp2_with fail
      go_ret
      exact ⟨rfl, HB.out⟩
end Go.Proofs.YtknbhgodhmcemaaDoor.So
namespace Go.Proofs.YtknbhgodhmcemaaDoor.So
set_option linter.unusedSimpArgs false
set_option linter.unusedVariables false
set_option maxRecDepth 100000
open Go.RowKit Go.Proofs.YtknbhgodhmcemaaDoor.Own Go.Proofs.YtknbhgodhmcemaaDoor.Cel Go.Proofs.YtknbhgodhmcemaaDoor.Dk
open Go.Proofs.YtknbhgodhmcemaaDoor.Sl (rc)
def prec (g : Nat) (L : List UInt8) (i : Nat) : Array Value := rc (pk L.length i) g i ⟨(pdat L i).toArray⟩
def pcells (g : Nat) (L : List UInt8) : Nat → List Value
  | 0 => []
  | k + 1 => pcells g L k ++ (prec g L k).toList
theorem pcells_len (g : Nat) (L : List UInt8) : ∀ k, (pcells g L k).length = k * 4
  | 0 => rfl
  | k + 1 => by rw [pcells, List.length_append, pcells_len g L k, Array.length_toList]; show k * 4 + 4 = _; omega
theorem pcells_get (g : Nat) (L : List UInt8) (i j : Nat) (hj : j < 4) : ∀ k, i < k → (pcells g L k)[i * 4 + j]? = (prec g L i)[j]?
  | 0, h => absurd h (by omega)
  | k + 1, h => by
    rw [pcells]
    by_cases e : i = k
    · subst e
      rw [List.getElem?_append_right (by rw [pcells_len]; omega), pcells_len, Nat.add_sub_cancel_left, Array.getElem?_toList]
    · rw [List.getElem?_append_left (by rw [pcells_len]; omega)]
      exact pcells_get g L i j hj k (by omega)
theorem infoRq : (Tryd.prog.info? 119).map (fun i => (i.zero, i.size, i.bytes)) = some (some (.agg #[.int .u8 0, .int .u64 0, .int .u32 0, .string ⟨#[]⟩]), 4, 40) := by kernel_rfl
theorem rapp {V : World} {B : Nat} {v : Value} {n : Nat} {xs : List Value} (hown : V.ownsRow B 119 4 v n xs) (hB : B ≤ V.heap.size) (r : Array Value) (hr4 : r.size = 4) (h1 : ∀ u ∈ r.toList, u.oneCell' = true) (hn : n ≤ 100000) :
    ∃ v' V', (Builtin.append_ #[115, 115] 115 #[v, .slice (some ⟨V.heap.size, 0, none⟩) 1 1]).run Tryd.prog (V.alloc (.cells r 119)) = .ok v' V' ∧
      V'.ownsRow B 119 4 v' (n + 1) (xs ++ r.toList) ∧ Below B V V' := by
  obtain ⟨i0, hi0, hz0, hz1, hz2⟩ := info_parts infoRq
  have bA := (Below.refl V.heap.size V).alloc (Nat.le_refl _) (.cells r 119)
  have hc : ∀ j u, r.toList[j]? = some u → (V.alloc (.cells r 119)).cell? ((⟨V.heap.size, 0, none⟩ : Addr).add j) = some u := fun j u hj => by
    rw [Seg.addr_add, Nat.zero_add, cell_of_row _ V.heap.size j _ _ _ (heap_alloc_new V _), ← Array.getElem?_toList]; exact hj
  obtain ⟨v', V', hr, ho, hg, _⟩ := run_append_own (P := Tryd.prog) (V.alloc (.cells r 119)) B 115 115 119 i0 _ 4 _ rfl hi0 hz0 hz1 hz2 rfl (by decide) v n xs (owns_keep hown bA) ⟨V.heap.size, 0, none⟩ 1 1 r.toList (by rw [Array.length_toList, hr4]) hc h1 (by unfold maxLen; omega) (by omega) (Nat.le_trans hB bA.size)
  exact ⟨v', V', hr, ho, (bA.mono hB).grown hg (Nat.le_trans hB bA.size) (fun k e => (hown.lt k e).1)⟩
def lenV : Value → Nat
  | .string s => s.size
  | _ => 0
theorem rst_all (L : List UInt8) (i : Nat) (h : L.length ≤ 110 * i + 110) : rst L i = ⟨(pdat L i).toArray⟩ := by
  rw [rst, pdat, List.take_of_length_le (by rw [List.length_drop]; omega)]
set_option maxHeartbeats 4000000 in
theorem rparts_calls (t : ByteArray) (g : Nat) (w : World) (hs : t.size ≤ 90000) :
    Calls Tryd.prog 59 #[.string t, .int .u64 (g : Nat)] w fun e w' => ∃ v, e = .returned v ∧ Below w.heap.size w w' ∧
      w'.ownsRow w.heap.size 119 4 v (np (summedL t.data.toList).length) (pcells g (summedL t.data.toList) (np (summedL t.data.toList).length)) := by
  have KS0 := rsummed_calls t w (by omega)
  have hLl : (summedL t.data.toList).length = t.size + 4 := by rw [summedL_len, Array.length_toList]; rfl
  obtain ⟨L, hL⟩ : ∃ L, summedL t.data.toList = L := ⟨_, rfl⟩
  rw [hL] at KS0 hLl ⊢
  have h00 : (⟨L.toArray⟩ : ByteArray) = rst L 0 := by rw [rst]; rfl
  rw [h00] at KS0
  have KS := Asd.mk KS0
  obtain ⟨n, hn⟩ : ∃ n, L.length = n := ⟨_, rfl⟩
  have HN := Asd.mk hn
  have hn1 : 4 ≤ n ∧ n ≤ 100000 := by omega
  rw [hn]
  obtain ⟨q, hq⟩ : ∃ q, np n = q := ⟨_, rfl⟩
  have HQ := Asd.mk hq
  rw [hq]
  clear KS0 hLl hL h00 hn hs hq
  go_enter Tryd.func59, Tryd.ntmps59
  go_wp2_with fail
  refine KS.out.mono ?_
  rintro e w1 ⟨rfl, hb⟩
  have H0 := Asd.mk (show Below w.heap.size w w1 ∧ w1.ownsRow w.heap.size 119 4 (.slice none 0 0) 0 (pcells g L 0) from ⟨hb, World.ownsRow_nil _ _ _ _⟩)
  clear KS hb
  go_wp2_with fail
  go_loopw [5, 6] (fun sv ov W => ∃ (i : Nat), sv = .string (rst L i) ∧ 110 * i < n ∧ Asd (Below w.heap.size w W ∧ W.ownsRow w.heap.size 119 4 ov i (pcells g L i))) (fun sv _ _ => lenV sv)
  case atStart => exact ⟨0, rfl, by omega, H0⟩
  case round =>
    obtain ⟨i, rfl, hi, HI⟩ := hrel
    clear H0
    obtain ⟨A, c, rfl⟩ := owns_slice HI.out.2
    have hrs := rst_size L i
    rw [HN.out] at hrs
    have i32 : (i : Int) % 4294967296 = (i : Int) := by omega
    by_cases hlt : 110 * i + 110 < n
    · have hnp : pk n i = 2 := by unfold pk np; rw [if_neg (by omega)]
      have he : (rst L i).extract 0 110 = ⟨(pdat L i).toArray⟩ := rst_head L i 110 (by rw [HN.out]; omega)
      have ht : (rst L i).extract 110 (rst L i).size = rst L (i + 1) := rst_tail L i 110 (by rw [HN.out]; omega)
      have hpr : prec g L i = #[.int .u8 2, .int .u64 (g : Nat), .int .u32 (i : Nat), .string ⟨(pdat L i).toArray⟩] := by rw [prec, HN.out, hnp]; rfl
      have hr1 := rst_size L (i + 1)
      rw [HN.out] at hr1
      obtain ⟨d, hd⟩ : ∃ d, (⟨(pdat L i).toArray⟩ : ByteArray) = d := ⟨_, rfl⟩
      rw [hd] at he hpr
      obtain ⟨v', W', hr, ho, hb⟩ := rapp HI.out.2 HI.out.1.size #[.int .u8 2, .int .u64 (g : Nat), .int .u32 (i : Nat), .string d] rfl (by simp [Value.oneCell']) (by omega)
      have HX := Asd.mk (show Below w.heap.size w W' ∧ W'.ownsRow w.heap.size 119 4 v' (i + 1) (pcells g L (i + 1)) from ⟨HI.out.1.trans hb, by rw [pcells, hpr]; exact ho⟩)
      have HR := Asd.mk hr
      obtain ⟨r, hr0⟩ : ∃ r, rst L i = r := ⟨_, rfl⟩
      obtain ⟨r1, hr10⟩ : ∃ r, rst L (i + 1) = r := ⟨_, rfl⟩
      rw [hr0] at hrs he ht ⊢
      rw [hr10] at ht hr1
      have t1 : decide (110 < (r.size : Int)) = true := decide_eq_true (by omega)
      have t1' : decide (110 < r.size) = true := decide_eq_true (by omega)
      have t2 : 110 ≤ r.size := by omega
      have hr10' := Asd.mk hr10
      have HRS := Asd.mk (And.intro hrs hr1)
      clear hr ho hb HI hpr hd hnp hr0 hr10 hrs hr1
      go_wp2_with (first | refine append_known rfl _ _ 115 rfl _ _ rfl rfl HR.out ?_ | fail)
      go_roundw
      case rel => exact ⟨i + 1, by rw [hr10'.out], by omega, HX⟩
      case measure => (have := HRS.out.1; have := HRS.out.2; simp only [lenV]; omega)
    · have hnp : pk n i = 3 := by unfold pk np; rw [if_pos (by omega)]
      have hnn : q = i + 1 := by rw [← HQ.out]; unfold np; omega
      subst hnn
      have hpr : prec g L i = #[.int .u8 3, .int .u64 (g : Nat), .int .u32 (i : Nat), .string (rst L i)] := by rw [prec, HN.out, hnp, rst_all L i (by rw [HN.out]; omega)]; rfl
      obtain ⟨r, hr0⟩ : ∃ r, rst L i = r := ⟨_, rfl⟩
      rw [hr0] at hrs hpr ⊢
      obtain ⟨v', W', hr, ho, hb⟩ := rapp HI.out.2 HI.out.1.size #[.int .u8 3, .int .u64 (g : Nat), .int .u32 (i : Nat), .string r] rfl (by simp [Value.oneCell']) (by omega)
      have HX := Asd.mk (show Below w.heap.size w W' ∧ W'.ownsRow w.heap.size 119 4 v' (i + 1) (pcells g L (i + 1)) from ⟨HI.out.1.trans hb, by rw [pcells, hpr]; exact ho⟩)
      have HR := Asd.mk hr
      have t1 : decide (110 < (r.size : Int)) = false := decide_eq_false (by omega)
      have t1' : decide (110 < r.size) = false := decide_eq_false (by omega)
      clear hr ho hb HI hpr hnp hr0 hrs
      go_wp2_with (first | refine append_known rfl _ _ 115 rfl _ _ rfl rfl HR.out ?_ | fail)
      go_ret
      exact ⟨_, rfl, HX.out.1, HX.out.2⟩
end Go.Proofs.YtknbhgodhmcemaaDoor.So
namespace Go.Proofs.YtknbhgodhmcemaaDoor.Dk
set_option linter.unusedSimpArgs false
set_option linter.unusedVariables false
set_option maxRecDepth 100000
open Go.RowKit Go.Proofs.YtknbhgodhmcemaaDoor.Own Go.Proofs.YtknbhgodhmcemaaDoor.Cel
theorem txt_self (x : ByteArray) : (x.toList != x.toList) = false := by simp
set_option maxHeartbeats 8000000 in
theorem same_calls {B p : Nat} {F G : Nat → Prop} {lv wv : Value} {S : DS} {V : World} (d : DK B p S F V) (h : RK G lv wv S V) (hl : S.lasts.length ≤ 100000) (hw : S.waits.length ≤ 1000000) :
    Calls Tryd.prog 30 #[.pointer (some ⟨p, 0, none⟩), .agg (mvV lv wv S)] V fun e V' => e = .returned (.bool true) ∧ Below V.heap.size V V' := by
  have hwo := owns_cell1 h.2.1
  have hlo := owns_cell1 h.1
  have HD := Asd.mk d
  have HK := Asd.mk h
  obtain ⟨Al, cl, rfl, _⟩ := h.lcell
  obtain ⟨Aw, cw, rfl, _⟩ := h.wcell
  obtain ⟨nl, hnl⟩ : ∃ n, S.lasts.length = n := ⟨_, rfl⟩
  obtain ⟨nw, hnw⟩ : ∃ n, S.waits.length = n := ⟨_, rfl⟩
  have hb := (Below.refl V.heap.size V).alloc (Nat.le_refl _) (.cells (mvV (.slice Al S.lasts.length cl) (.slice Aw S.waits.length cw) S) 50)
  have hD := d.below hb
  have KS := Asd.mk (fun n => size_calls (hD.keep (W' := (V.alloc (.cells (mvV (.slice Al S.lasts.length cl) (.slice Aw S.waits.length cw) S) 50)).drewN n) (fun _ _ => rfl)))
  have KW := Asd.mk (fun n => waiting_calls (hD.keep (W' := (V.alloc (.cells (mvV (.slice Al S.lasts.length cl) (.slice Aw S.waits.length cw) S) 50)).drewN n) (fun _ _ => rfl)))
  have KO := Asd.mk (fun n => ops_calls (hD.keep (W' := (V.alloc (.cells (mvV (.slice Al S.lasts.length cl) (.slice Aw S.waits.length cw) S) 50)).drewN n) (fun _ _ => rfl)))
  have z := heap_alloc_new V (.cells (mvV (.slice Al S.lasts.length cl) (.slice Aw S.waits.length cw) S) 50)
  have HB := Asd.mk hb
  have HL := Asd.mk hl
  have HW := Asd.mk hw
  rw [hnl, hnw] at z HB
  rw [hnl, hnw] at KS KW KO
  rw [hnl] at hl
  rw [hnl, hnw]
  have NL := Asd.mk hnl
  have NW := Asd.mk hnw
  have k0 : (V.alloc (.cells (mvV (.slice Al nl cl) (.slice Aw nw cw) S) 50)).cell? ⟨V.heap.size, 0, none⟩ = some (.slice Al nl cl) := cell_of_row _ _ 0 _ _ _ z
  have k1 : (V.alloc (.cells (mvV (.slice Al nl cl) (.slice Aw nw cw) S) 50)).cell? ⟨V.heap.size, 1, none⟩ = some (.slice Aw nw cw) := cell_of_row _ _ 1 _ _ _ z
  have k3 : (V.alloc (.cells (mvV (.slice Al nl cl) (.slice Aw nw cw) S) 50)).cell? ⟨V.heap.size, 3, none⟩ = some (.int .i64 S.ops) := cell_of_row _ _ 3 _ _ _ z
  have Z := Asd.mk z
  clear h d hb hD hnl hnw hw hwo hlo z
  go_enter Tryd.func30, Tryd.ntmps30
  go_wp2_with fail
  go_quiet (first | (go_at_call 68; refine Calls.quiet_of_same ((KS.out _).mono fun e w' x => ⟨x.1, x.2.symm⟩)) | (go_at_call 69; refine Calls.quiet_of_same ((KW.out _).mono fun e w' x => ⟨x.1, x.2.symm⟩)) | (go_at_call 70; refine Calls.quiet_of_same ((KO.out _).mono fun e w' x => ⟨x.1, x.2.symm⟩)) | fail)
  go_wp2
  have H0 := Asd.mk (show Below V.heap.size V ((V.alloc (.cells (mvV (.slice Al nl cl) (.slice Aw nw cw) S) 50)).drewN nq) ∧ ((V.alloc (.cells (mvV (.slice Al nl cl) (.slice Aw nw cw) S) 50)).drewN nq).heap[V.heap.size]? = some (.cells (mvV (.slice Al nl cl) (.slice Aw nw cw) S) 50 (0, 0)) from ⟨HB.out.trans ⟨rfl, rfl, rfl, Nat.le_refl _, fun _ _ => rfl⟩, Z.out⟩)
  clear KS KW KO k0 k1 k3 Z HB
  go_loopw [34] (fun iv W => ∃ (j : Nat), iv = .int .i64 j ∧ j ≤ nl ∧ Asd (Below V.heap.size V W ∧ W.heap[V.heap.size]? = some (.cells (mvV (.slice Al nl cl) (.slice Aw nw cw) S) 50 (0, 0)))) (fun iv _ => nl - (intOf iv).toNat)
  case atStart => exact ⟨0, rfl, by omega, H0⟩
  case round =>
    obtain ⟨j, rfl, hj, HI⟩ := hrel
    clear H0
    by_cases hlt : j < nl
    · have hj1 : (j : Int) < (nl : Int) := by omega
      have K1 := read_calls (HD.out.below HI.out.1) (j : Int)
      have K2 := fun (W : World) (hb : Below V.heap.size V W) => rread_calls (HK.out.below hb) (j : Int) HL.out HW.out
      rw [NL.out, NW.out] at K2
      have er : S.readAt (j : Int) = (S.read.getD j ByteArray.empty, 0) := by
        unfold DS.readAt
        rw [if_pos ⟨by omega, by rw [NL.out]; exact hj1⟩, Int.toNat_natCast]
      rw [er] at K1 K2
      obtain ⟨x, hx⟩ : ∃ x, S.read.getD j ByteArray.empty = x := ⟨_, rfl⟩
      rw [hx] at K1 K2
      have KA := Asd.mk K1
      have KB := Asd.mk K2
      have z := HI.out.2
      have iM := infoMS (.slice Al nl cl) (.slice Aw nw cw) S
      have txt := txt_self x
      clear K1 K2 er hx
      go_wp2_with fail
      refine KA.out.mono ?_
      rintro e W2 ⟨rfl, rfl⟩
      go_wp2_with (first | refine wpList_load_row rfl 50 _ rfl V.heap.size rfl 50 _ (0, 0) _ z Tryd.underlying50 rfl iM ?_ | fail)
      refine (KB.out _ HI.out.1).mono ?_
      rintro e W3 ⟨rfl, hb3⟩
      have HN := Asd.mk (show Below V.heap.size V W3 ∧ W3.heap[V.heap.size]? = some (.cells (mvV (.slice Al nl cl) (.slice Aw nw cw) S) 50 (0, 0)) from ⟨HI.out.1.trans (hb3.mono HI.out.1.size), Own.keep HI.out.2 hb3⟩)
      clear KA KB z hb3 HI
      go_wp2
      go_roundw
      case rel => exact ⟨j + 1, by go_num, by omega, HN⟩
      case measure => simp [intOf]; omega
    · obtain rfl : j = nl := by omega
      go_wp2
      go_ret
      exact ⟨rfl, HI.out.1⟩
end Go.Proofs.YtknbhgodhmcemaaDoor.Dk
namespace Go.Proofs.YtknbhgodhmcemaaDoor.Dk
set_option linter.unusedSimpArgs false
set_option linter.unusedVariables false
set_option maxRecDepth 100000
open Go.RowKit Go.Proofs.YtknbhgodhmcemaaDoor.Own Go.Proofs.YtknbhgodhmcemaaDoor.Cel
theorem sapp (V : World) (B : Nat) (v : Value) (n : Nat) (xs : List Value) (hown : V.ownsRow B 9 1 v n xs) (hB : B ≤ V.heap.size) (lv : Value) (ls : List ByteArray) (hw : V.ownsRow 0 9 1 lv ls.length (strs ls)) (hpos : 0 < ls.length) (hn : n + ls.length ≤ 2000000) :
    ∃ g cap V', (Builtin.append_ #[22, 22] 22 #[v, lv]).run Tryd.prog V = .ok (.slice (some ⟨g, 0, none⟩) (n + ls.length) cap) V' ∧ V'.ownsRow B 9 1 (.slice (some ⟨g, 0, none⟩) (n + ls.length) cap) (n + ls.length) (xs ++ strs ls) ∧ V.grownBy V' v.ownBlock ∧ (v.ownBlock = some g ∨ V.heap.size ≤ g) := by
  obtain ⟨i0, hi0, hz0, hz1, hz2⟩ := info_parts infoS
  rcases hw.2 with ⟨_, hz⟩ | ⟨g, cap, cur, rfl, _⟩
  · omega
  have hc : ∀ (j : Nat) (u : Value), (strs ls)[j]? = some u → V.cell? ((⟨g, 0, none⟩ : Addr).add j) = some u := fun j u hj => hw.cells (g := g) rfl j u hj
  obtain ⟨v', V', hr, ho, hg, _⟩ := run_append_own (P := Tryd.prog) V B 22 22 9 i0 _ 1 _ Tryd.underlying22 hi0 hz0 hz1 hz2 rfl (by decide) v n xs hown ⟨g, 0, none⟩ ls.length cap (strs ls) (by rw [strs_len, Nat.mul_one]) hc (strs_one ls) (by unfold maxLen; omega) (by omega) hB
  have hf := append_far (P := Tryd.prog) V B 22 22 9 i0 _ 1 _ Tryd.underlying22 hi0 hz0 hz1 hz2 rfl v n xs hown ⟨g, 0, none⟩ ls.length cap (strs ls) (by rw [strs_len, Nat.mul_one]) hc (strs_one ls) hpos (by unfold maxLen; omega) (by omega) hr
  rcases ho.2 with ⟨_, e⟩ | ⟨g', cap', cur', rfl, _⟩
  · omega
  exact ⟨g', cap', V', hr, ho, hg, hf g' rfl⟩
theorem keptW_take (kp : Nat → Bool) (ws : List Wt) (k : Nat) (hk : k < ws.length) : keptW kp 0 (ws.take (k + 1)) = keptW kp 0 (ws.take k) ++ (if kp k then [ws[k]'hk] else []) := by
  rw [List.take_succ_eq_append_getElem hk, keptW_snoc, List.length_take, Nat.min_eq_left (Nat.le_of_lt hk), Nat.zero_add]
theorem results_cell0 {fn : Func} {q : Tmp} {ty : TypeId} (h : fn.results = #[.cell q ty]) (tmps : Array Value) (P : Program) (w : World) :
    (results fn tmps).run P w = ((asAddr (tmps.getD q undef)).run P w).andThen fun a w₁ => (loadVar ty a).run P w₁ := by
  simp only [results, h]
  simp [Sem.run_bind, Result.andThen]
theorem end_cell0 {P : Program} {fn : Func} {q : Tmp} {ty : TypeId} {d : TypeDesc} (h : fn.results = #[.cell q ty]) (tmps : Array Value) (U : World) (b : Nat) (cells old : Array Value) (hZ : U.heap[b]? = some (.cells old ty (0, 0)))
    (hp : tmps.getD q undef = .pointer (some ⟨b, 0, none⟩)) (hu : P.underlying ty = some d) (hd : (match d with | .struct _ | .array _ _ => true | _ => false) = true) (hi : (P.info? ty).map (·.size) = some cells.size) :
    (results fn tmps).run P (U.setRow b cells) = .ok (.agg cells) (U.setRow b cells) := by
  have hR := setRow_heap U b old cells ty (0, 0) hZ
  rw [results_cell0 h, hp]
  simp [asAddr, run_loadVar_row _ _ ty ty _ (0, 0) _ hR hu hd hi]
def KArg (A : Option Addr) (ks : List Bool) (V : World) : Prop := ∀ i (h : i < ks.length), ∃ b o, A = some ⟨b, o, none⟩ ∧ V.cell? ⟨b, o + i, none⟩ = some (.bool (ks[i]'h))
def CR (V : World) (S : DS) (g cap nl : Nat) (wv : Value) (kp : Nat → Bool) (k : Nat) (W : World) : Prop :=
  Below V.heap.size V W ∧ W.heap[V.heap.size]? = some (.cells (mvV (.slice (some ⟨g, 0, none⟩) nl cap) wv S) 50 (0, 0)) ∧ W.heap[V.heap.size + 1]? = some (.cells zM 50 (0, 0)) ∧
    W.ownsRow V.heap.size 9 1 (.slice (some ⟨g, 0, none⟩) nl cap) nl (strs (applyW S.lasts (keptW kp 0 (S.waits.take k))))
set_option maxHeartbeats 8000000 in
theorem rcrash_calls {G : Nat → Prop} {lv wv : Value} {S : DS} {V : World} (h : RK G lv wv S V) (hok : S.ok) (hl0 : 0 < S.lasts.length) (hl : S.lasts.length ≤ 100000) (hw : S.waits.length ≤ 1000000) (A : Option Addr) (c : Nat) (ks : List Bool) (hk : KArg A ks V) (hkl : ks.length ≤ 1000000) :
    Calls Tryd.prog 24 #[.agg (mvV lv wv S), .slice A ks.length c] V fun e V' => ∃ mv', e = .returned (.agg mv') ∧ Rid G mv' (S.crash (fun j => ks.getD j false)) V V' := by
  obtain ⟨nk, hnk⟩ : ∃ n, ks.length = n := ⟨_, rfl⟩
  obtain ⟨nl, hnl⟩ : ∃ n, S.lasts.length = n := ⟨_, rfl⟩
  obtain ⟨nw, hnw⟩ : ∃ n, S.waits.length = n := ⟨_, rfl⟩
  obtain ⟨Aw, cw, rfl, hwc⟩ := h.wcell
  have hlo := owns_cell1 h.1
  have hb := ((Below.refl V.heap.size V).alloc (Nat.le_refl _) (.cells (mvV lv (.slice Aw S.waits.length cw) S) 50)).alloc (by simp) (.cells zM 50)
  have z2 : ((V.alloc (.cells (mvV lv (.slice Aw S.waits.length cw) S) 50)).alloc (.cells zM 50)).heap[V.heap.size]? = some (.cells (mvV lv (.slice Aw S.waits.length cw) S) 50 (0, 0)) := Own.keep (heap_alloc_new V _) ((Below.refl _ _).alloc (Nat.le_refl _) _)
  have z4 : ((V.alloc (.cells (mvV lv (.slice Aw S.waits.length cw) S) 50)).alloc (.cells zM 50)).heap[V.heap.size + 1]? = some (.cells zM 50 (0, 0)) := by
    have := heap_alloc_new (V.alloc (.cells (mvV lv (.slice Aw S.waits.length cw) S) 50)) (.cells zM 50)
    simpa using this
  obtain ⟨W0, hW0⟩ : ∃ W0, (V.alloc (.cells (mvV lv (.slice Aw S.waits.length cw) S) 50)).alloc (.cells zM 50) = W0 := ⟨_, rfl⟩
  rw [hW0] at hb z2 z4
  have hs0 : W0.heap.size = V.heap.size + 1 + 1 := by rw [← hW0]; simp
  have bA := (Below.refl W0.heap.size W0).alloc (Nat.le_refl _) (.cells #[] 9)
  have own6 : (W0.alloc (.cells #[] 9)).ownsRow V.heap.size 9 1 (.slice (some ⟨W0.heap.size, 0, none⟩) 0 0) 0 [] :=
    ⟨rfl, .inr ⟨W0.heap.size, 0, #[], rfl, by omega, heap_alloc_new W0 _, Nat.le_refl _, by decide, rfl, rfl⟩⟩
  obtain ⟨g, cap, V1, hr, ho, hg, hf⟩ := sapp (W0.alloc (.cells #[] 9)) V.heap.size _ 0 [] own6 (by have := bA.size; omega) lv S.lasts (owns_keep h.1 (hb.trans (bA.mono hb.size))) hl0 (by omega)
  have bB := bA.grown hg (by have := bA.size; omega) (fun p e => by simp [Value.ownBlock] at e; omega)
  have hgV : V.heap.size + 1 < g := by
    rcases hf with e | e
    · simp [Value.ownBlock] at e; omega
    · have := bA.size; omega
  rw [Nat.zero_add, List.nil_append] at ho
  rw [Nat.zero_add] at hr
  have z2b := (bB.block V.heap.size (by omega)).trans z2
  have z4b := (bB.block (V.heap.size + 1) (by omega)).trans z4
  have kA : (W0.alloc (.cells #[] 9)).cell? ⟨V.heap.size, 0, none⟩ = some lv := cell_of_row _ _ 0 _ _ _ (Own.keep z2 ((Below.refl _ _).alloc (Nat.le_refl _) _))
  have kB : V1.cell? ⟨V.heap.size, 0, none⟩ = some lv := cell_of_row _ _ 0 _ _ _ z2b
  have fB : V1.frozen? ⟨V.heap.size, 0, none⟩ = false := frozen_of_row _ _ 0 _ _ z2b
  have H0 := Asd.mk (show CR V S g cap S.lasts.length (.slice Aw S.waits.length cw) (fun j => ks.getD j false) 0 (V1.setCell ⟨V.heap.size, 0, none⟩ (.slice (some ⟨g, 0, none⟩) S.lasts.length cap)) from
    ⟨(hb.trans (bB.mono hb.size)).setCell (p := ⟨V.heap.size, 0, none⟩) (Nat.le_refl _) _, heap_setCell_same V1 V.heap.size 0 _ _ _ z2b, by rw [set_other _ _ _ _ (by show V.heap.size + 1 ≠ V.heap.size; omega)]; exact z4b,
      owns_block ho (fun k e => set_other _ _ _ _ (by simp [Value.ownBlock] at e; show k ≠ V.heap.size; omega))⟩)
  have HG := Asd.mk (And.intro h (And.intro hok hgV))
  have HWC := Asd.mk hwc
  have HKA := Asd.mk hk
  rw [hnl, hnw] at H0
  rw [hnw] at hW0
  rw [hnl] at hr hl
  rw [hnw] at hw ⊢
  rw [hnk] at hkl ⊢
  have NL := Asd.mk hnl
  have NW := Asd.mk hnw
  have NK := Asd.mk hnk
  subst hW0
  rw [hs0] at hr
  have R1 := Asd.mk hr
  clear h hwc hlo hb z2 z4 hs0 bA own6 hr ho hg hf bB hgV z2b z4b hk hok hnl hnw hnk hl0
  go_enter Tryd.func24, Tryd.ntmps24
  go_wp2_with (first | refine append_known rfl _ _ 22 rfl _ _ rfl rfl R1.out ?_ | fail)
  go_loopw [5] (fun iv W => ∃ (k : Nat), iv = .int .i64 k ∧ k ≤ nw ∧ Asd (CR V S g cap nl (.slice Aw nw cw) (fun j => ks.getD j false) k W)) (fun iv _ => nw - (intOf iv).toNat)
  case atStart => exact ⟨0, rfl, by omega, H0⟩
  case round =>
    obtain ⟨k, rfl, hk, HI⟩ := hrel
    clear H0 kA kB fB R1
    have z2 := HI.out.2.1
    have z4 := HI.out.2.2.1
    have k1 : wr.cell? ⟨V.heap.size, 1, none⟩ = some (.slice Aw nw cw) := cell_of_row _ _ 1 _ _ _ z2
    have f1 : wr.frozen? ⟨V.heap.size, 1, none⟩ = false := frozen_of_row _ _ 1 _ _ z2
    by_cases hlt : k < nw
    rotate_left
    · obtain rfl : k = nw := by omega
      have z2b := heap_setCell_same wr V.heap.size 1 _ _ (.slice none 0 0) z2
      have z4b : (wr.setCell ⟨V.heap.size, 1, none⟩ (.slice none 0 0)).heap[V.heap.size + 1]? = some (.cells zM 50 (0, 0)) := by
        rw [set_other _ _ _ _ (by show V.heap.size + 1 ≠ V.heap.size; omega)]; exact z4
      have i2 := infoMS (.slice (some ⟨g, 0, none⟩) nl cap) (.slice none 0 0) S
      have o2 := mvV_one (.slice (some ⟨g, 0, none⟩) nl cap) (.slice none 0 0) S rfl rfl
      have z2c : (wr.setCell ⟨V.heap.size, 1, none⟩ (.slice none 0 0)).heap[V.heap.size]? = some (.cells (mvV (.slice (some ⟨g, 0, none⟩) nl cap) (.slice none 0 0) S) 50 (0, 0)) := z2b
      clear z2 z4 hlt z2b
      go_wp2_with (first | refine wpList_load_row rfl 50 _ rfl V.heap.size rfl 50 _ (0, 0) _ z2c Tryd.underlying50 rfl i2 ?_ | refine wpList_store_row rfl 50 _ _ rfl (V.heap.size + 1) (mvV (.slice (some ⟨g, 0, none⟩) nl cap) (.slice none 0 0) S) rfl rfl 50 _ z4b i2 rfl o2 ?_ | fail)
      have bE := below_setRow (HI.out.1.setCell (p := ⟨V.heap.size, 1, none⟩) (Nat.le_refl _) (.slice none 0 0)) (g := V.heap.size + 1) (by omega) (mvV (.slice (some ⟨g, 0, none⟩) nl cap) (.slice none 0 0) S)
      have hgV := HG.out.2.2
      have hrow : ((wr.setCell ⟨V.heap.size, 1, none⟩ (.slice none 0 0)).setRow (V.heap.size + 1) (mvV (.slice (some ⟨g, 0, none⟩) nl cap) (.slice none 0 0) S)).ownsRow 0 9 1 (.slice (some ⟨g, 0, none⟩) nl cap) nl (strs (applyW S.lasts (keptW (fun j => ks.getD j false) 0 S.waits))) := by
        have h0 := HI.out.2.2.2
        rw [List.take_of_length_le (by rw [NW.out]; exact Nat.le_refl _)] at h0
        refine owns_mono (owns_block h0 (fun q e => ?_)) (Nat.zero_le _)
        simp [Value.ownBlock] at e
        rw [setRow_other _ _ _ _ (by omega), set_other _ _ _ _ (by show q ≠ V.heap.size; omega)]
      refine bodyPost_ret (end_cell0 rfl _ _ _ _ _ z4b rfl Tryd.underlying50 rfl i2) rfl ⟨_, rfl, (fun q => q = g), ⟨.slice (some ⟨g, 0, none⟩) nl cap, .slice none 0 0, rfl, ?_, World.ownsRow_nil _ _ _ _, fun q hq => ?_, fun _ => rfl⟩, bE, fun q hq => .inr (by omega)⟩
      · show World.ownsRow _ 0 9 1 (.slice (some ⟨g, 0, none⟩) nl cap) (applyW S.lasts (keptW (fun j => ks.getD j false) 0 S.waits)).length (strs (applyW S.lasts (keptW (fun j => ks.getD j false) 0 S.waits)))
        rw [applyW_len, NL.out]; exact hrow
      · rcases hq with e | e
        · simp [Value.ownBlock] at e; exact e.symm
        · simp [Value.ownBlock] at e
    have hk1 : (k : Int) < (nw : Int) := by omega
    have hkl2 : k < S.waits.length := by rw [NW.out]; exact hlt
    obtain ⟨gw, rfl, e1, e2⟩ := HWC.out k hkl2
    obtain ⟨x, hx⟩ : ∃ x, S.waits[k]'hkl2 = x := ⟨_, rfl⟩
    rw [hx] at e1 e2
    have hgw : gw < V.heap.size := World.block_lt_of_cell? V _ e1
    have e1' : wr.cell? ⟨gw, k * 2, none⟩ = some (.int .i64 (x.1 : Nat)) := (World.cell?_of_block (HI.out.1.block gw hgw)).trans e1
    have e2' : wr.cell? ⟨gw, k * 2 + 1, none⟩ = some (.string x.2) := (World.cell?_of_block (HI.out.1.block gw hgw)).trans e2
    have hkt := keptW_take (fun j => ks.getD j false) S.waits k hkl2
    by_cases hkn : k < nk
    rotate_left
    · have d1 : decide ((k : Int) < (nk : Int)) = false := decide_eq_false (by omega)
      have d1' : decide (k < nk) = false := decide_eq_false hkn
      have hf : ks.getD k false = false := by rw [List.getD_eq_getElem?_getD, List.getElem?_eq_none (by rw [NK.out]; omega)]; rfl
      have HN := Asd.mk (show CR V S g cap nl (.slice (some ⟨gw, 0, none⟩) nw cw) (fun j => ks.getD j false) (k + 1) wr from ⟨HI.out.1, HI.out.2.1, HI.out.2.2.1, by rw [hkt]; simp only [hf, Bool.false_eq_true, if_false, List.append_nil]; exact HI.out.2.2.2⟩)
      clear hkt hf e1 e2 e1' e2' hx HI z2 z4 hkn
      go_wp2
      go_roundw
      case rel => exact ⟨k + 1, by go_num, by omega, HN⟩
      case measure => simp [intOf]; omega
    have d1 : decide ((k : Int) < (nk : Int)) = true := decide_eq_true (by omega)
    have d1' : decide (k < nk) = true := decide_eq_true hkn
    have hkk : k < ks.length := by rw [NK.out]; exact hkn
    obtain ⟨ka, ko, rfl, ek⟩ := HKA.out k hkk
    have hka : ka < V.heap.size := World.block_lt_of_cell? V _ ek
    have ek' : wr.cell? ⟨ka, ko + k, none⟩ = some (.bool (ks[k]'hkk)) := (World.cell?_of_block (HI.out.1.block ka hka)).trans ek
    have hgd : ks.getD k false = ks[k]'hkk := by rw [List.getD_eq_getElem?_getD, List.getElem?_eq_getElem hkk]; rfl
    obtain ⟨bb, hbb⟩ : ∃ b, ks[k]'hkk = b := ⟨_, rfl⟩
    rw [hbb] at ek' hgd
    have hkn1 : (k : Int) < (nk : Int) := by omega
    cases bb with
    | false =>
      have HN := Asd.mk (show CR V S g cap nl (.slice (some ⟨gw, 0, none⟩) nw cw) (fun j => ks.getD j false) (k + 1) wr from ⟨HI.out.1, HI.out.2.1, HI.out.2.2.1, by rw [hkt]; simp only [hgd, Bool.false_eq_true, if_false, List.append_nil]; exact HI.out.2.2.2⟩)
      clear hkt hgd hbb e1 e2 e1' e2' hx HI z2 z4 ek
      go_wp2
      go_roundw
      case rel => exact ⟨k + 1, by go_num, by omega, HN⟩
      case measure => simp [intOf]; omega
    | true =>
      have hx1 : x.1 < nl := by rw [← NL.out]; exact HG.out.2.1 x (by rw [← hx]; exact List.getElem_mem _)
      have hx2 : (x.1 : Int) < (nl : Int) := by omega
      have hgV := HG.out.2.2
      have hst := HI.out.2.2.2.stored x.1 (.string x.2)
      have HN := Asd.mk (show CR V S g cap nl (.slice (some ⟨gw, 0, none⟩) nw cw) (fun j => ks.getD j false) (k + 1) ((wr.drew).setCell ⟨g, x.1, none⟩ (.string x.2)) from
        ⟨(HI.out.1.drew).setCell (p := ⟨g, x.1, none⟩) (by show V.heap.size ≤ g; omega) _, (set_other _ _ _ _ (by show V.heap.size ≠ g; omega)).trans HI.out.2.1, (set_other _ _ _ _ (by show V.heap.size + 1 ≠ g; omega)).trans HI.out.2.2.1, by
          rw [hkt]
          simp only [hgd, if_true]
          rw [hx, applyW_snoc, ← strs_set]
          exact (show (wr.drew).ownsRow V.heap.size 9 1 (.slice (some ⟨g, 0, none⟩) nl cap) nl (strs (applyW S.lasts (keptW (fun j => ks.getD j false) 0 (S.waits.take k)))) from HI.out.2.2.2).stored x.1 (.string x.2) |>.1⟩)
      have hlen : (applyW S.lasts (keptW (fun j => ks.getD j false) 0 (S.waits.take k))).length = nl := by rw [applyW_len]; exact NL.out
      have cg : wr.cell? ⟨g, x.1, none⟩ = some (.string ((applyW S.lasts (keptW (fun j => ks.getD j false) 0 (S.waits.take k)))[x.1]'(by rw [hlen]; exact hx1))) := by
        have hc := HI.out.2.2.2.cells (g := g) rfl x.1 _ (strs_get _ x.1 (by rw [hlen]; exact hx1))
        rwa [Seg.addr_add, Nat.zero_add] at hc
      obtain ⟨oldv, hov⟩ : ∃ v, (applyW S.lasts (keptW (fun j => ks.getD j false) 0 (S.waits.take k)))[x.1]'(by rw [hlen]; exact hx1) = v := ⟨_, rfl⟩
      rw [hov] at cg
      have fg : wr.frozen? ⟨g, x.1, none⟩ = false := HI.out.2.2.2.frozenAt x.1
      have Z2 := Asd.mk z2
      have hne1 : gw ≠ g := by omega
      clear hkt hgd hbb e1 e2 hx z4 ek hst hlen hov
      go_wp2_with fail
      refine wp_region_held_drew (S := fun w' => w'.heap[V.heap.size]? = some (.cells (mvV (.slice (some ⟨g, 0, none⟩) nl cap) (.slice (some ⟨gw, 0, none⟩) nw cw) S) 50 (0, 0)) ∧ w'.cell? ⟨gw, k * 2, none⟩ = some (.int .i64 (x.1 : Nat)) ∧ w'.cell? ⟨gw, k * 2 + 1, none⟩ = some (.string x.2)) (by kernel_rfl) ⟨Z2.out, e1', e2'⟩ (fun hH => ?_)
      refine take_at (i := 0) (some 28) (.pointer (some ⟨V.heap.size, 0, none⟩)) rfl rfl (by kernel_rfl) (by kernel_rfl) (by kernel_rfl) (fun _ _ _ h => h) (Or.inl ⟨by rfl, fun w' hSw => by go_simp⟩) hH ?_
      try simp only [Act.put, List.setIfInBounds_toArray, List.set_cons_zero, List.set_cons_succ]
      refine take_at (i := 1) (some 29) (.slice (some ⟨g, 0, none⟩) nl cap) rfl rfl (by kernel_rfl) (by kernel_rfl) (by kernel_rfl) (fun _ _ _ h => h) (Or.inl ⟨by rfl, fun w' hSw => by have e2 := (show w'.cell? ⟨V.heap.size, 0, none⟩ = some (.slice (some ⟨g, 0, none⟩) nl cap) from cell_of_row w' V.heap.size 0 _ _ _ hSw.1); go_simp⟩) hH ?_
      try simp only [Act.put, List.setIfInBounds_toArray, List.set_cons_zero, List.set_cons_succ]
      refine take_at (i := 2) (some 30) (.pointer (some ⟨V.heap.size, 1, none⟩)) rfl rfl (by kernel_rfl) (by kernel_rfl) (by kernel_rfl) (fun _ _ _ h => h) (Or.inl ⟨by rfl, fun w' hSw => by go_simp⟩) hH ?_
      try simp only [Act.put, List.setIfInBounds_toArray, List.set_cons_zero, List.set_cons_succ]
      refine take_at (i := 3) (some 31) (.slice (some ⟨gw, 0, none⟩) nw cw) rfl rfl (by kernel_rfl) (by kernel_rfl) (by kernel_rfl) (fun _ _ _ h => h) (Or.inl ⟨by rfl, fun w' hSw => by have e2 := (show w'.cell? ⟨V.heap.size, 1, none⟩ = some (.slice (some ⟨gw, 0, none⟩) nw cw) from cell_of_row w' V.heap.size 1 _ _ _ hSw.1); go_simp⟩) hH ?_
      try simp only [Act.put, List.setIfInBounds_toArray, List.set_cons_zero, List.set_cons_succ]
      refine take_at (i := 4) (some 32) (.int .i64 (k : Nat)) rfl rfl (by kernel_rfl) (by kernel_rfl) (by kernel_rfl) (fun _ _ _ h => h) (Or.inl ⟨by rfl, fun w' hSw => by go_simp⟩) hH ?_
      try simp only [Act.put, List.setIfInBounds_toArray, List.set_cons_zero, List.set_cons_succ]
      refine take_at (i := 5) (some 33) (.pointer (some ⟨gw, k * 2, none⟩)) rfl rfl (by kernel_rfl) (by kernel_rfl) (by kernel_rfl) (fun _ _ _ h => h) (Or.inl ⟨by rfl, fun w' hSw => by go_simp⟩) hH ?_
      try simp only [Act.put, List.setIfInBounds_toArray, List.set_cons_zero, List.set_cons_succ]
      refine take_at (i := 6) (some 34) (.pointer (some ⟨gw, k * 2, none⟩)) rfl rfl (by kernel_rfl) (by kernel_rfl) (by kernel_rfl) (fun _ _ _ h => h) (Or.inl ⟨by rfl, fun w' hSw => by go_simp⟩) hH ?_
      try simp only [Act.put, List.setIfInBounds_toArray, List.set_cons_zero, List.set_cons_succ]
      refine take_at (i := 7) (some 35) (.int .i64 (x.1 : Nat)) rfl rfl (by kernel_rfl) (by kernel_rfl) (by kernel_rfl) (fun _ _ _ h => h) (Or.inl ⟨by rfl, fun w' hSw => by have e2 := hSw.2.1; go_simp⟩) hH ?_
      try simp only [Act.put, List.setIfInBounds_toArray, List.set_cons_zero, List.set_cons_succ]
      refine take_at (i := 8) (some 36) (.pointer (some ⟨V.heap.size, 1, none⟩)) rfl rfl (by kernel_rfl) (by kernel_rfl) (by kernel_rfl) (fun _ _ _ h => h) (Or.inl ⟨by rfl, fun w' hSw => by go_simp⟩) hH ?_
      try simp only [Act.put, List.setIfInBounds_toArray, List.set_cons_zero, List.set_cons_succ]
      refine take_at (i := 9) (some 37) (.slice (some ⟨gw, 0, none⟩) nw cw) rfl rfl (by kernel_rfl) (by kernel_rfl) (by kernel_rfl) (fun _ _ _ h => h) (Or.inl ⟨by rfl, fun w' hSw => by have e2 := (show w'.cell? ⟨V.heap.size, 1, none⟩ = some (.slice (some ⟨gw, 0, none⟩) nw cw) from cell_of_row w' V.heap.size 1 _ _ _ hSw.1); go_simp⟩) hH ?_
      try simp only [Act.put, List.setIfInBounds_toArray, List.set_cons_zero, List.set_cons_succ]
      refine take_at (i := 10) (some 38) (.int .i64 (k : Nat)) rfl rfl (by kernel_rfl) (by kernel_rfl) (by kernel_rfl) (fun _ _ _ h => h) (Or.inl ⟨by rfl, fun w' hSw => by go_simp⟩) hH ?_
      try simp only [Act.put, List.setIfInBounds_toArray, List.set_cons_zero, List.set_cons_succ]
      refine take_at (i := 11) (some 39) (.pointer (some ⟨gw, k * 2, none⟩)) rfl rfl (by kernel_rfl) (by kernel_rfl) (by kernel_rfl) (fun _ _ _ h => h) (Or.inl ⟨by rfl, fun w' hSw => by go_simp⟩) hH ?_
      try simp only [Act.put, List.setIfInBounds_toArray, List.set_cons_zero, List.set_cons_succ]
      refine take_at (i := 12) (some 40) (.pointer (some ⟨gw, k * 2 + 1, none⟩)) rfl rfl (by kernel_rfl) (by kernel_rfl) (by kernel_rfl) (fun _ _ _ h => h) (Or.inl ⟨by rfl, fun w' hSw => by go_simp⟩) hH ?_
      try simp only [Act.put, List.setIfInBounds_toArray, List.set_cons_zero, List.set_cons_succ]
      refine take_at (i := 13) (some 41) (.string x.2) rfl rfl (by kernel_rfl) (by kernel_rfl) (by kernel_rfl) (fun _ _ _ h => h) (Or.inl ⟨by rfl, fun w' hSw => by have e2 := hSw.2.2; go_simp⟩) hH ?_
      try simp only [Act.put, List.setIfInBounds_toArray, List.set_cons_zero, List.set_cons_succ]
      refine take_at (i := 14) (some 42) (.pointer (some ⟨g, x.1, none⟩)) rfl rfl (by kernel_rfl) (by kernel_rfl) (by kernel_rfl) (fun _ _ _ h => h) (Or.inl ⟨by rfl, fun w' hSw => by go_simp⟩) hH ?_
      try simp only [Act.put, List.setIfInBounds_toArray, List.set_cons_zero, List.set_cons_succ]
      refine wpAnyH_ready (rs := [15]) (by kernel_rfl) (by simp) (AllReadyH.cons rfl (fun K hK => ?_) AllReadyH.nil)
      go_simp
      refine hK.out _ _ ⟨(set_other _ _ _ _ (by show V.heap.size ≠ g; omega)).trans hH.1, (World.cell?_of_block (set_other _ _ _ _ (by show gw ≠ g; omega))).trans hH.2.1, (World.cell?_of_block (set_other _ _ _ _ (by show gw ≠ g; omega))).trans hH.2.2⟩ (fun hH => ?_)
      clear hK K hH
      refine wpAnyH_done (by kernel_rfl) ?_ _
      try simp only [Act.put, List.setIfInBounds_toArray, List.set_cons_zero, List.set_cons_succ]
      go_wp2
      go_roundw
      case rel => exact ⟨k + 1, by go_num, by omega, HN⟩
      case measure => simp [intOf]; omega
end Go.Proofs.YtknbhgodhmcemaaDoor.Dk
