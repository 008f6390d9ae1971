/- Texts of the seat, as far as the row needs them. -/
import Derived.Below
import Derived.BigQuiet
import Derived.Deep.CutBlock
import Derived.Deep.DeepCutAuto
import Derived.Deep.DeepFit
import Derived.Deep.Light
import Derived.Deep.LoopGhost
import Derived.Deep.QuietTactic
import Derived.Deep.RegionHeld3
import Derived.Ground.Names2Prog
import Derived.Laws.AppendOwn
import Derived.Laws.BitsAllLaws
import Derived.Laws.BitsLemmas
import Derived.Laws.CopyOwn
import Derived.Laws.Externs
import Derived.Laws.IdiomCopy
import Derived.Laws.IdiomStrings
import Derived.Laws.OwnMore
import Derived.Laws.ResultCell
import Derived.Laws.Rows
import Derived.Laws.StructEq
import Derived.Laws.Tables
import Derived.Lib.AppendStr
import Derived.Lib.FrozenHead2
import Derived.Lib.OthersKept
import Derived.Lib.RepeatB
import Derived.Lib.TrimByte
import Derived.Lib.UnsafeStr
import Derived.LoopIn
import Derived.LoopNIn
import Derived.Maps.Own
import Derived.Maps.OwnOps
import Derived.Maps.OwnSet
import Derived.Maps.Views
import Derived.OrdersHeld
import Derived.Outline
import Derived.OwnWalk
import Derived.OwnWalkIn
import Derived.RangeFuncBound
import Derived.RangeFuncCalls
import Derived.RangeFuncLeaves
import Derived.RangeFuncNested
import Derived.Shelf.Abstract
import Derived.Shelf.Bits.Mul64
import Derived.Shelf.RegionOpen
import Derived.Shelf.Slices.Clone
import Derived.Shelf.Small.Strs
import Derived.Shelf.Small.Utf8
import Derived.Shelf.Strings.Builder1
import Derived.Shelf.Strings.Builder2
import Derived.Shelf.Strings.BuilderF
import Derived.Shelf.Strings.BuilderK
import Derived.Shelf.Strings.Prefix
import Derived.Shelf.Strings.Repeat
import Derived.Shelf.Strings.Search1
import Derived.Shelf.Strings.Trim
import Derived.Shelf.Unicode.DecodeSlow
import Derived.StillTailTactics
import Derived.TacticsInMore
import Derived.Test.YtknbhgodhmcemaaDoorProg
import Derived.WalkKit
import Derived.WalkMore
import Derived.Test.YtknbhgodhmcemaaDoorQVaultKeeps0
import Derived.Test.YtknbhgodhmcemaaDoorQVaultKeeps1
import Derived.Test.YtknbhgodhmcemaaDoorQVaultKeeps2
set_option linter.unusedVariables false
set_option linter.unusedSimpArgs false
namespace Go.Proofs.YtknbhgodhmcemaaDoor.So
set_option linter.unusedSimpArgs false
set_option linter.unusedVariables false
set_option maxRecDepth 100000
open Go.RowKit Go.Shelf Go.Proofs.YtknbhgodhmcemaaDoor.Own Go.Proofs.YtknbhgodhmcemaaDoor.Cel Go.Proofs.YtknbhgodhmcemaaDoor.Dk
open Go.Proofs.YtknbhgodhmcemaaDoor.Sl (Rec openS open_calls recV recV_one)
attribute [local go_sem] Oper.semAt_some
def gq (x : RX) (g : Nat) : Nat := if x.1.1 = 0 then x.1.2.g else g
def rdGo : List RX → Nat → Nat → List UInt8 → Option (ByteArray × Nat × Bool)
  | [], _, _, _ => none
  | x :: r, nx, g, out =>
    if badR x.1.1 nx (gq x g) x.1.2 then some (⟨#[]⟩, 0, false)
    else if x.1.2.k = 3 then some (wholeS (out ++ x.1.2.d.data.toList) (gq x g))
    else rdGo r (nx + 1) (gq x g) (out ++ x.1.2.d.data.toList)
def rdSt : List RX → Nat → Nat → List UInt8 → Nat × Nat × List UInt8
  | [], nx, g, out => (nx, g, out)
  | x :: r, nx, g, out => rdSt r (nx + 1) (gq x g) (out ++ x.1.2.d.data.toList)
theorem rdSt_snoc (x : RX) : ∀ (l : List RX) (nx g : Nat) (out : List UInt8), rdSt (l ++ [x]) nx g out = ((rdSt l nx g out).1 + 1, gq x (rdSt l nx g out).2.1, (rdSt l nx g out).2.2 ++ x.1.2.d.data.toList)
  | [], nx, g, out => rfl
  | y :: r, nx, g, out => by rw [List.cons_append, rdSt, rdSt_snoc x r]; rfl
theorem rdGo_snoc (x : RX) : ∀ (l : List RX) (nx g : Nat) (out : List UInt8), rdGo l nx g out = none → rdGo (l ++ [x]) nx g out = rdGo [x] (rdSt l nx g out).1 (rdSt l nx g out).2.1 (rdSt l nx g out).2.2
  | [], nx, g, out, _ => rfl
  | y :: r, nx, g, out, h => by
    rw [rdGo] at h
    rw [List.cons_append, rdGo]
    by_cases h1 : badR y.1.1 nx (gq y g) y.1.2 = true
    · rw [if_pos h1] at h; cases h
    · rw [if_neg h1] at h ⊢
      by_cases h2 : y.1.2.k = 3
      · rw [if_pos h2] at h; cases h
      · rw [if_neg h2] at h ⊢
        rw [rdGo_snoc x r _ _ _ h]; rfl
theorem rdGo_prefix (r : List RX) (R : ByteArray × Nat × Bool) : ∀ (l : List RX) (nx g : Nat) (out : List UInt8), rdGo l nx g out = some R → rdGo (l ++ r) nx g out = some R
  | [], nx, g, out, h => by cases h
  | y :: l, nx, g, out, h => by
    rw [rdGo] at h
    rw [List.cons_append, rdGo]
    by_cases h1 : badR y.1.1 nx (gq y g) y.1.2 = true
    · rw [if_pos h1] at h ⊢; exact h
    · rw [if_neg h1] at h ⊢
      by_cases h2 : y.1.2.k = 3
      · rw [if_pos h2] at h ⊢; exact h
      · rw [if_neg h2] at h ⊢
        exact rdGo_prefix r R l _ _ _ h
theorem rdSt_len : ∀ (l : List RX) (nx g : Nat) (out : List UInt8), (rdSt l nx g out).1 = nx + l.length ∧ (rdSt l nx g out).2.2.length ≤ out.length + 1000 * l.length
  | [], nx, g, out => ⟨rfl, by simp [rdSt]⟩
  | x :: r, nx, g, out => by
    obtain ⟨h1, h2⟩ := rdSt_len r (nx + 1) (gq x g) (out ++ x.1.2.d.data.toList)
    rw [rdSt, List.length_cons]
    have hd : x.1.2.d.data.toList.length = x.1.2.d.size := by rw [Array.length_toList]; rfl
    have := x.2.2.2
    rw [List.length_append, hd] at h2
    exact ⟨by omega, by omega⟩
theorem readGo_fold (rd : List ByteArray) (fr : Nat) : ∀ (n i nx g : Nat) (out : List UInt8), i + n ≤ 1000000 → readGo rd fr n i nx g out = (rdGo (recsGo rd fr n i) nx g out).getD (⟨#[]⟩, 0, false)
  | 0, i, nx, g, out, _ => rfl
  | n + 1, i, nx, g, out, h => by
    rw [readGo, recsGo]
    by_cases ho : (openS (rd.getD (fr + i) ByteArray.empty)).2 = 0
    · rw [if_neg (fun x => x ho), dif_pos ⟨ho, by omega⟩, rdGo]
      have hgq : ∀ hp, gq ⟨(i, (openS (rd.getD (fr + i) ByteArray.empty)).1), hp⟩ g = if i = 0 then (openS (rd.getD (fr + i) ByteArray.empty)).1.g else g := fun _ => rfl
      rw [hgq]
      obtain ⟨G, hG⟩ : ∃ G, (if i = 0 then (openS (rd.getD (fr + i) ByteArray.empty)).1.g else g) = G := ⟨_, rfl⟩
      rw [hG]
      by_cases h1 : badR i nx G (openS (rd.getD (fr + i) ByteArray.empty)).1 = true
      · rw [if_pos h1, if_pos h1]; rfl
      · rw [if_neg h1, if_neg h1]
        by_cases h2 : (openS (rd.getD (fr + i) ByteArray.empty)).1.k = 3
        · rw [if_pos h2, if_pos h2]; rfl
        · rw [if_neg h2, if_neg h2]
          exact readGo_fold rd fr n (i + 1) _ _ _ (by omega)
    · rw [if_pos ho, dif_neg (fun x => ho x.1), readGo_fold rd fr n (i + 1) _ _ _ (by omega)]
structure RI (p fr room : Nat) (W : World) (nx g : Nat) (out : List UInt8) (V : World) : Prop where
  z6 : V.heap[W.heap.size]? = some (.cells #[.string ⟨#[]⟩] 9 (0, 0))
  z7 : V.heap[W.heap.size + 1]? = some (.cells #[.int .u64 0] 29 (0, 0))
  z8 : V.heap[W.heap.size + 2]? = some (.cells #[.bool false] 4 (0, 0))
  bd : Lib.IsBuilderF 105 5 (W.heap.size + 3) (W.heap.size + 3) (Lib.byteCells out) V
  z10 : V.heap[W.heap.size + 4]? = some (.cells #[.int .i64 (nx : Nat)] 3 (0, 0))
  z11 : V.heap[W.heap.size + 5]? = some (.cells #[.int .u64 (g : Nat)] 29 (0, 0))
  y0 : V.heap[W.heap.size + 6]? = some (.cells #[.pointer (some ⟨p, 0, none⟩)] 25 (0, 0))
  y1 : V.heap[W.heap.size + 7]? = some (.cells #[.int .i64 (fr : Nat)] 3 (0, 0))
  y2 : V.heap[W.heap.size + 8]? = some (.cells #[.int .i64 (room : Nat)] 3 (0, 0))
  bel : Below W.heap.size W V
variable {p fr room : Nat} {W V V' : World} {nx g : Nat} {out : List UInt8}
theorem RI.size (h : RI p fr room W nx g out V) : W.heap.size + 9 ≤ V.heap.size := (Array.getElem?_eq_some_iff.1 h.y2).1
theorem builder_grown {T e : TypeId} {B b : Nat} {bs : List Value} {W W' : World} {row : Option Nat} (h : Lib.IsBuilderF T e B b bs W) (hg : W.grownBy W' row) (hr : ∀ r, row = some r → ∃ o : Obj, W.heap[r]? = some o ∧ o.isCells = false) : Lib.IsBuilderF T e B b bs W' := by
  have at_ : ∀ q, Lib.BuilderAtF T e B b q bs W → Lib.BuilderAtF T e B b q bs W' := fun q hq => by
    obtain ⟨hB, v, hv, hown, hne⟩ := hq
    refine ⟨hB, v, (hg.block b (Array.getElem?_eq_some_iff.1 hv).1 (fun e => ?_)).trans hv, hown.kept hg ?_, hne⟩
    · obtain ⟨o, ho, hc⟩ := hr b e.symm
      rw [hv] at ho
      cases ho
      cases hc
    · by_cases hn : v.ownBlock = none
      · exact .inl hn
      · refine .inr (fun e => ?_)
        obtain ⟨k, hk⟩ := Option.ne_none_iff_exists'.1 hn
        obtain ⟨o, ho, hc⟩ := hr k (by rw [← e, hk])
        rcases hown.2 with ⟨rfl, _⟩ | ⟨g', cap, cur, fz, rfl, _, hgg, _⟩
        · cases hk
        · simp [Value.ownBlock] at hk
          subst hk
          rw [hgg] at ho
          cases ho
          cases hc
  exact h.elim (fun x => .inl (at_ _ x)) (fun x => .inr (at_ _ x))
theorem RI.grown (h : RI p fr room W nx g out V) {row : Option Nat} (hg : V.grownBy V' row) (hr : ∀ r, row = some r → W.heap.size ≤ r ∧ ∃ o : Obj, V.heap[r]? = some o ∧ o.isCells = false) : RI p fr room W nx g out V' := by
  have k : ∀ {b : Nat} {cs : Array Value} {t : TypeId}, V.heap[b]? = some (.cells cs t (0, 0)) → V'.heap[b]? = some (.cells cs t (0, 0)) := fun {b cs t} hb =>
    (hg.block b (Array.getElem?_eq_some_iff.1 hb).1 (fun e => by
      obtain ⟨_, o, ho, hc⟩ := hr b e.symm
      rw [hb] at ho
      cases ho
      cases hc)).trans hb
  exact ⟨k h.z6, k h.z7, k h.z8, builder_grown h.bd hg (fun r e => (hr r e).2), k h.z10, k h.z11, k h.y0, k h.y1, k h.y2, h.bel.grown hg h.bel.size (fun r e => (hr r e).1)⟩
theorem RI.below (h : RI p fr room W nx g out V) (hb : Below V.heap.size V V') : RI p fr room W nx g out V' :=
  ⟨Own.keep h.z6 hb, Own.keep h.z7 hb, Own.keep h.z8 hb, Bld.builder_below h.bd hb, Own.keep h.z10 hb, Own.keep h.z11 hb, Own.keep h.y0 hb, Own.keep h.y1 hb, Own.keep h.y2 hb, h.bel.trans (hb.mono h.bel.size)⟩
def KX (W V V' : World) : Prop := KeepsFrom (W.heap.size + 9) V V' ∧ KeepB W.heap.size (W.heap.size + 6) V V'
theorem KX.refl (W V : World) : KX W V V := ⟨KeepsFrom.refl _ _, Below.refl _ _, fun _ _ _ => rfl⟩
theorem KX.trans {V1 V2 V3 : World} (h : KX W V1 V2) (k : KX W V2 V3) : KX W V1 V3 := ⟨h.1.trans k.1, keepB_t h.2 k.2⟩
theorem KX.set (k : Nat) (hk : k = 4 ∨ k = 5) (u : Value) (V : World) : KX W V (V.setCell ⟨W.heap.size + k, 0, none⟩ u) :=
  ⟨(KeepsOthers.setCell V ⟨W.heap.size + k, 0, none⟩ u).from _, (Below.refl _ V).setCell (p := ⟨W.heap.size + k, 0, none⟩) (by show W.heap.size ≤ W.heap.size + k; omega) u, fun q h1 h2 => set_other V _ _ q (by show q ≠ W.heap.size + k; omega)⟩
theorem builder_set {T e : TypeId} {b q : Nat} {bs : List Value} {V : World} {cs : Array Value} {t : TypeId} {u : Value} (h : Lib.IsBuilderF T e b b bs V) (hq : V.heap[q]? = some (.cells cs t (0, 0))) (h1 : t ≠ T) (h2 : t ≠ e) : Lib.IsBuilderF T e b b bs (V.setCell ⟨q, 0, none⟩ u) := by
  have hg : V.grownBy (V.setCell ⟨q, 0, none⟩ u) (some q) := ⟨rfl, rfl, rfl, by simp [World.setCell], fun k _ hk => set_other V _ _ k (fun e => hk (by rw [e]))⟩
  have at_ : ∀ z, Lib.BuilderAtF T e b b z bs V → Lib.BuilderAtF T e b b z bs (V.setCell ⟨q, 0, none⟩ u) := fun z hz => by
    obtain ⟨hB, v, hv, hown, hne⟩ := hz
    refine ⟨hB, v, (set_other V _ _ b (fun e => ?_)).trans hv, hown.kept hg ?_, hne⟩
    · have e2 : b = q := e
      rw [e2, hq] at hv
      simp only [Option.some.injEq, Obj.cells.injEq] at hv
      exact h1 hv.2.1
    · rcases hown.2 with ⟨rfl, _⟩ | ⟨g', cap, cur, fz, rfl, _, hgg, _⟩
      · exact .inl rfl
      · refine .inr (fun e => ?_)
        simp only [Value.ownBlock, Option.some.injEq] at e
        subst e
        rw [hq] at hgg
        simp only [Option.some.injEq, Obj.cells.injEq] at hgg
        exact h2 hgg.2.1
  exact h.elim (fun x => .inl (at_ _ x)) (fun x => .inr (at_ _ x))
theorem RI.next (h : RI p fr room W nx g out V) (nx' : Nat) : RI p fr room W nx' g out (V.setCell ⟨W.heap.size + 4, 0, none⟩ (.int .i64 (nx' : Nat))) := by
  have k : ∀ {b : Nat} {o : Obj}, b ≠ W.heap.size + 4 → V.heap[b]? = some o → (V.setCell ⟨W.heap.size + 4, 0, none⟩ (.int .i64 (nx' : Nat))).heap[b]? = some o := fun hn hb => (set_other V _ _ _ hn).trans hb
  exact ⟨k (by omega) h.z6, k (by omega) h.z7, k (by omega) h.z8, builder_set h.bd h.z10 (by decide) (by decide), heap_setCell_same V _ 0 _ _ _ h.z10, k (by omega) h.z11, k (by omega) h.y0, k (by omega) h.y1, k (by omega) h.y2, h.bel.setCell (p := ⟨W.heap.size + 4, 0, none⟩) (by show W.heap.size ≤ W.heap.size + 4; omega) _⟩
theorem RI.gen (h : RI p fr room W nx g out V) (g' : Nat) : RI p fr room W nx g' out (V.setCell ⟨W.heap.size + 5, 0, none⟩ (.int .u64 (g' : Nat))) := by
  have k : ∀ {b : Nat} {o : Obj}, b ≠ W.heap.size + 5 → V.heap[b]? = some o → (V.setCell ⟨W.heap.size + 5, 0, none⟩ (.int .u64 (g' : Nat))).heap[b]? = some o := fun hn hb => (set_other V _ _ _ hn).trans hb
  exact ⟨k (by omega) h.z6, k (by omega) h.z7, k (by omega) h.z8, builder_set h.bd h.z11 (by decide) (by decide), k (by omega) h.z10, heap_setCell_same V _ 0 _ _ _ h.z11, k (by omega) h.y0, k (by omega) h.y1, k (by omega) h.y2, h.bel.setCell (p := ⟨W.heap.size + 5, 0, none⟩) (by show W.heap.size ≤ W.heap.size + 5; omega) _⟩
theorem RI.write (h : RI p fr room W nx g out V) (s : ByteArray) (hl : out.length + s.size ≤ 100000000) :
    Calls Tryd.prog 55 #[.pointer (some ⟨W.heap.size + 3, 0, none⟩), .string s] V fun e V' => e = .returned (.tuple #[.int .i64 s.size, .nilIface]) ∧ RI p fr room W nx g (out ++ s.data.toList) V' ∧ KX W V V' ∧
      ∀ (b : Nat) (cs : Array Value), V.heap[b]? = some (.cells cs 64 (0, 0)) → V'.heap[b]? = some (.cells cs 64 (0, 0)) := by
  have hsz := h.size
  refine (Bld.writeString (W.heap.size + 3) (W.heap.size + 3) (Lib.byteCells out) s V h.bd (by rw [Lib.byteCells_length]; omega) (by omega)).mono ?_
  rintro e V' ⟨rfl, h2, hb, ho⟩
  rw [Lib.strCells_eq, ← Lib.byteCells_append] at h2
  have k : ∀ {b : Nat} {cs : Array Value} {t : TypeId}, t ≠ 5 → b ≠ W.heap.size + 3 → V.heap[b]? = some (.cells cs t (0, 0)) → V'.heap[b]? = some (.cells cs t (0, 0)) := fun {b cs t} ht hn hz =>
    ho b _ hz (fun e => hn (by simpa using e)) (fun c fz e => by simp only [Obj.cells.injEq] at e; exact ht e.2.1)
  have hne : ∀ {b : Nat} {cs : Array Value}, V.heap[b]? = some (.cells cs 64 (0, 0)) → b ≠ W.heap.size + 3 := fun {b cs} hz e => by
    subst e
    rcases h.bd with ⟨_, v, hv, _⟩ | ⟨_, v, hv, _⟩
    · rw [hz] at hv; simp at hv
    · rw [hz] at hv; simp at hv
  refine ⟨rfl, ⟨k (by decide) (by omega) h.z6, k (by decide) (by omega) h.z7, k (by decide) (by omega) h.z8, .inr h2, k (by decide) (by omega) h.z10, k (by decide) (by omega) h.z11, k (by decide) (by omega) h.y0, k (by decide) (by omega) h.y1, k (by decide) (by omega) h.y2, h.bel.trans (hb.mono (by omega))⟩,
    ⟨⟨hb.size, fun q o hq hz hc => ho q o hz (fun e => by have : q = W.heap.size + 3 := by simpa using e
                                                          omega) (fun c fz e => by subst e; cases hc)⟩, hb.mono (by omega), fun q h1 h3 => ?_⟩, fun b cs hz => k (by decide) (hne hz) hz⟩
  have : q = W.heap.size + 6 ∨ q = W.heap.size + 7 ∨ q = W.heap.size + 8 := by omega
  rcases this with rfl | rfl | rfl
  · rw [h.y0]; exact k (by decide) (by omega) h.y0
  · rw [h.y1]; exact k (by decide) (by omega) h.y1
  · rw [h.y2]; exact k (by decide) (by omega) h.y2
theorem RI.string (h : RI p fr room W nx g out V) :
    Calls Tryd.prog 57 #[.pointer (some ⟨W.heap.size + 3, 0, none⟩)] V fun e V' => e = .returned (.string ⟨out.toArray⟩) ∧ RI p fr room W nx g out V' ∧ KX W V V' := by
  have hsz := h.size
  refine (Tryd.Builder_String_any_k (W.heap.size + 3) (W.heap.size + 3) out V h.bd (by omega)).mono ?_
  rintro e V' ⟨rfl, h2, hb, ho⟩
  have k : ∀ {b : Nat} {cs : Array Value} {t : TypeId}, t ≠ 5 → b ≠ W.heap.size + 3 → V.heap[b]? = some (.cells cs t (0, 0)) → V'.heap[b]? = some (.cells cs t (0, 0)) := fun {b cs t} ht hn hz =>
    ho b _ hz (fun e => hn (by simpa using e)) (fun c fz e => by simp only [Obj.cells.injEq] at e; exact ht e.2.1)
  refine ⟨rfl, ⟨k (by decide) (by omega) h.z6, k (by decide) (by omega) h.z7, k (by decide) (by omega) h.z8, h2, k (by decide) (by omega) h.z10, k (by decide) (by omega) h.z11, k (by decide) (by omega) h.y0, k (by decide) (by omega) h.y1, k (by decide) (by omega) h.y2, h.bel.trans (hb.mono (by omega))⟩,
    ⟨⟨hb.size, fun q o hq hz hc => ho q o hz (fun e => by have : q = W.heap.size + 3 := by simpa using e
                                                          omega) (fun c fz e => by subst e; cases hc)⟩, hb.mono (by omega), fun q h1 h3 => ?_⟩⟩
  have : q = W.heap.size + 6 ∨ q = W.heap.size + 7 ∨ q = W.heap.size + 8 := by omega
  rcases this with rfl | rfl | rfl
  · rw [h.y0]; exact k (by decide) (by omega) h.y0
  · rw [h.y1]; exact k (by decide) (by omega) h.y1
  · rw [h.y2]; exact k (by decide) (by omega) h.y2
structure RR (W : World) (R : ByteArray × Nat × Bool) (V : World) : Prop where
  z6 : V.heap[W.heap.size]? = some (.cells #[.string R.1] 9 (0, 0))
  z7 : V.heap[W.heap.size + 1]? = some (.cells #[.int .u64 (R.2.1 : Nat)] 29 (0, 0))
  z8 : V.heap[W.heap.size + 2]? = some (.cells #[.bool R.2.2] 4 (0, 0))
  bel : Below W.heap.size W V
theorem rr_of {R : ByteArray × Nat × Bool} {x : Value} {y : Value} {z : Value} (z6 : V.heap[W.heap.size]? = some (.cells #[x] 9 (0, 0))) (z7 : V.heap[W.heap.size + 1]? = some (.cells #[y] 29 (0, 0))) (z8 : V.heap[W.heap.size + 2]? = some (.cells #[z] 4 (0, 0))) (bel : Below W.heap.size W V) :
    RR W R (((V.setCell ⟨W.heap.size, 0, none⟩ (.string R.1)).setCell ⟨W.heap.size + 1, 0, none⟩ (.int .u64 (R.2.1 : Nat))).setCell ⟨W.heap.size + 2, 0, none⟩ (.bool R.2.2)) ∧
    KeepsFrom (W.heap.size + 9) V (((V.setCell ⟨W.heap.size, 0, none⟩ (.string R.1)).setCell ⟨W.heap.size + 1, 0, none⟩ (.int .u64 (R.2.1 : Nat))).setCell ⟨W.heap.size + 2, 0, none⟩ (.bool R.2.2)) := by
  have o1 : ∀ k, k ≠ W.heap.size → (V.setCell ⟨W.heap.size, 0, none⟩ (.string R.1)).heap[k]? = V.heap[k]? := fun k hk => set_other V _ _ k hk
  have o2 : ∀ k, k ≠ W.heap.size + 1 → ((V.setCell ⟨W.heap.size, 0, none⟩ (.string R.1)).setCell ⟨W.heap.size + 1, 0, none⟩ (.int .u64 (R.2.1 : Nat))).heap[k]? = (V.setCell ⟨W.heap.size, 0, none⟩ (.string R.1)).heap[k]? := fun k hk => set_other _ _ _ k hk
  have o3 : ∀ k, k ≠ W.heap.size + 2 → (((V.setCell ⟨W.heap.size, 0, none⟩ (.string R.1)).setCell ⟨W.heap.size + 1, 0, none⟩ (.int .u64 (R.2.1 : Nat))).setCell ⟨W.heap.size + 2, 0, none⟩ (.bool R.2.2)).heap[k]? = ((V.setCell ⟨W.heap.size, 0, none⟩ (.string R.1)).setCell ⟨W.heap.size + 1, 0, none⟩ (.int .u64 (R.2.1 : Nat))).heap[k]? := fun k hk => set_other _ _ _ k hk
  refine ⟨⟨?_, ?_, ?_, ?_⟩, ?_⟩
  · rw [o3 _ (by omega), o2 _ (by omega)]; exact heap_setCell_same V _ 0 _ _ _ z6
  · rw [o3 _ (by omega)]; exact heap_setCell_same _ _ 0 _ _ _ ((o1 _ (by omega)).trans z7)
  · exact heap_setCell_same _ _ 0 _ _ _ ((o2 _ (by omega)).trans ((o1 _ (by omega)).trans z8))
  · exact ((bel.setCell (p := ⟨W.heap.size, 0, none⟩) (Nat.le_refl _) _).setCell (p := ⟨W.heap.size + 1, 0, none⟩) (by show W.heap.size ≤ W.heap.size + 1; omega) _).setCell (p := ⟨W.heap.size + 2, 0, none⟩) (by show W.heap.size ≤ W.heap.size + 2; omega) _
  · exact (((KeepsOthers.setCell _ _ _).trans (KeepsOthers.setCell _ _ _)).trans (KeepsOthers.setCell _ _ _)).from _
theorem recsGo_len (rd : List ByteArray) (fr : Nat) : ∀ (n i : Nat), (recsGo rd fr n i).length ≤ n
  | 0, _ => Nat.le_refl _
  | n + 1, i => by
    rw [recsGo]
    have := recsGo_len rd fr n (i + 1)
    by_cases ho : (openS (rd.getD (fr + i) ByteArray.empty)).2 = 0 ∧ i < 1000000
    · rw [dif_pos ho, List.length_cons]; omega
    · rw [dif_neg ho]; omega
theorem str_empty (d : ByteArray) : (d.toList == []) = decide (d.size = 0) := by
  rw [ByteArray.toList_eq]
  have hl : d.data.toList.length = d.size := by rw [Array.length_toList]; rfl
  by_cases h : d.size = 0
  · rw [decide_eq_true h, List.length_eq_zero_iff.1 (hl.trans h)]; rfl
  · rw [decide_eq_false h, beq_eq_false_iff_ne]
    intro e
    rw [e] at hl
    exact h hl.symm
theorem RR.grown {R : ByteArray × Nat × Bool} (h : RR W R V) {row : Option Nat} (hg : V.grownBy V' row) (hr : ∀ r, row = some r → W.heap.size ≤ r ∧ ∃ o : Obj, V.heap[r]? = some o ∧ o.isCells = false) : RR W R V' := by
  have k : ∀ {b : Nat} {cs : Array Value} {t : TypeId}, V.heap[b]? = some (.cells cs t (0, 0)) → V'.heap[b]? = some (.cells cs t (0, 0)) := fun {b cs t} hb =>
    (hg.block b (Array.getElem?_eq_some_iff.1 hb).1 (fun e => by
      obtain ⟨_, o, ho, hc⟩ := hr b e.symm
      rw [hb] at ho
      cases ho
      cases hc)).trans hb
  exact ⟨k h.z6, k h.z7, k h.z8, h.bel.grown hg h.bel.size (fun r e => (hr r e).1)⟩
theorem end_ccc (U : World) (tmps : Array Value) (n : Nat) (x y z : Value) (h6 : tmps.getD 6 undef = .pointer (some ⟨n, 0, none⟩)) (h7 : tmps.getD 7 undef = .pointer (some ⟨n + 1, 0, none⟩)) (h8 : tmps.getD 8 undef = .pointer (some ⟨n + 2, 0, none⟩))
    (c6 : U.cell? ⟨n, 0, none⟩ = some x) (c7 : U.cell? ⟨n + 1, 0, none⟩ = some y) (c8 : U.cell? ⟨n + 2, 0, none⟩ = some z) :
    (results Tryd.f19 tmps).run Tryd.prog U = .ok (.tuple #[x, y, z]) U := by
  have e6 : tmps[6]?.getD undef = .pointer (some ⟨n, 0, none⟩) := by simpa using h6
  have e7 : tmps[7]?.getD undef = .pointer (some ⟨n + 1, 0, none⟩) := by simpa using h7
  have e8 : tmps[8]?.getD undef = .pointer (some ⟨n + 2, 0, none⟩) := by simpa using h8
  simp [results, Tryd.f19, asAddr, loadVar, Tryd.underlying9, Tryd.underlying29, Tryd.underlying4, e6, e7, e8, c6, c7, c8]
end Go.Proofs.YtknbhgodhmcemaaDoor.So
namespace Go.Proofs.YtknbhgodhmcemaaDoor.So
set_option linter.unusedSimpArgs false
set_option linter.unusedVariables false
set_option maxRecDepth 100000
open Go.RowKit Go.Shelf Go.Proofs.YtknbhgodhmcemaaDoor.Own Go.Proofs.YtknbhgodhmcemaaDoor.Cel Go.Proofs.YtknbhgodhmcemaaDoor.Dk
open Go.Proofs.YtknbhgodhmcemaaDoor.Sl (Rec openS open_calls recV recV_one)
attribute [local go_sem] Oper.semAt_some
variable {B p : Nat} {S : DS} {F : Nat → Prop} {W : World}
theorem new_builder (V : World) (b : Nat) (h : V.heap[b]? = some (.cells #[.pointer none, .slice none 0 0] 105 (0, 0))) : Lib.IsBuilderF 105 5 b b (Lib.byteCells []) V :=
  .inl ⟨Nat.le_refl _, .slice none 0 0, h, ⟨rfl, .inl ⟨rfl, rfl⟩⟩, by simp [Value.ownBlock]⟩
def six (W : World) (a b c d e f : Obj) : World := (((((W.alloc a).alloc b).alloc c).alloc d).alloc e).alloc f
theorem six_size (W : World) (a b c d e f : Obj) : (six W a b c d e f).heap.size = W.heap.size + 6 := by simp [six]
theorem six_below (W : World) (a b c d e f : Obj) : Below W.heap.size W (six W a b c d e f) :=
  (((((((Below.refl W.heap.size W).alloc (Nat.le_refl _) a).alloc (by simp) b).alloc (by simp; omega) c).alloc (by simp; omega) d).alloc (by simp; omega) e).alloc (by simp; omega) f)
theorem six_at (W : World) (t1 t2 t3 t4 t5 t6 : TypeId) (a b c d e f : Array Value) :
    (six W (.cells a t1) (.cells b t2) (.cells c t3) (.cells d t4) (.cells e t5) (.cells f t6)).heap[W.heap.size]? = some (.cells a t1 (0, 0)) ∧
    (six W (.cells a t1) (.cells b t2) (.cells c t3) (.cells d t4) (.cells e t5) (.cells f t6)).heap[W.heap.size + 1]? = some (.cells b t2 (0, 0)) ∧
    (six W (.cells a t1) (.cells b t2) (.cells c t3) (.cells d t4) (.cells e t5) (.cells f t6)).heap[W.heap.size + 2]? = some (.cells c t3 (0, 0)) ∧
    (six W (.cells a t1) (.cells b t2) (.cells c t3) (.cells d t4) (.cells e t5) (.cells f t6)).heap[W.heap.size + 3]? = some (.cells d t4 (0, 0)) ∧
    (six W (.cells a t1) (.cells b t2) (.cells c t3) (.cells d t4) (.cells e t5) (.cells f t6)).heap[W.heap.size + 4]? = some (.cells e t5 (0, 0)) ∧
    (six W (.cells a t1) (.cells b t2) (.cells c t3) (.cells d t4) (.cells e t5) (.cells f t6)).heap[W.heap.size + 5]? = some (.cells f t6 (0, 0)) := by
  have al : ∀ (X : World) (o : Obj), Below X.heap.size X (X.alloc o) := fun X o => (Below.refl _ _).alloc (Nat.le_refl _) _
  have nw : ∀ (X : World) (o : Obj) (k : Nat), X.heap.size = k → (X.alloc o).heap[k]? = some o := fun X o k e => by subst e; exact heap_alloc_new X o
  refine ⟨?_, ?_, ?_, ?_, ?_, ?_⟩
  · exact Own.keep (Own.keep (Own.keep (Own.keep (Own.keep (nw W _ _ rfl) (al _ _)) (al _ _)) (al _ _)) (al _ _)) (al _ _)
  · exact Own.keep (Own.keep (Own.keep (Own.keep (nw (W.alloc _) _ _ (by simp)) (al _ _)) (al _ _)) (al _ _)) (al _ _)
  · exact Own.keep (Own.keep (Own.keep (nw ((W.alloc _).alloc _) _ _ (by simp)) (al _ _)) (al _ _)) (al _ _)
  · exact Own.keep (Own.keep (nw (((W.alloc _).alloc _).alloc _) _ _ (by simp)) (al _ _)) (al _ _)
  · exact Own.keep (nw ((((W.alloc _).alloc _).alloc _).alloc _) _ _ (by simp)) (al _ _)
  · exact nw (((((W.alloc _).alloc _).alloc _).alloc _).alloc _) _ _ (by simp)
theorem RR.ending {D : Nat} {V : World} {R : ByteArray × Nat × Bool} (hR : RR W R V) (hD : W.heap.size + 9 ≤ D) (hK : V.heap[D]? = some (.deferred (some []))) (tmps : Array Value) (h6 : tmps.getD 6 undef = .pointer (some ⟨W.heap.size, 0, none⟩)) (h7 : tmps.getD 7 undef = .pointer (some ⟨W.heap.size + 1, 0, none⟩)) (h8 : tmps.getD 8 undef = .pointer (some ⟨W.heap.size + 2, 0, none⟩)) :
    (results Tryd.f19 tmps).run Tryd.prog (V.putObj D (.deferred none)) = .ok (.tuple #[.string R.1, .int .u64 (R.2.1 : Nat), .bool R.2.2]) (V.putObj D (.deferred none)) ∧ Below W.heap.size W (V.putObj D (.deferred none)) := by
  have k : ∀ {b : Nat} {o : Obj}, b < W.heap.size + 9 → V.heap[b]? = some o → (V.putObj D (.deferred none)).heap[b]? = some o := fun hb hz => (World.putObj_heap_other (by omega)).trans hz
  exact ⟨end_ccc _ tmps W.heap.size _ _ _ h6 h7 h8 (cell_of_row _ _ 0 _ _ _ (k (by omega) hR.z6)) (cell_of_row _ _ 0 _ _ _ (k (by omega) hR.z7)) (cell_of_row _ _ 0 _ _ _ (k (by omega) hR.z8)),
    hR.bel.trans (belowK_b (w := W) (Nat.le_refl _) V D _ _ (by omega) hK rfl rfl)⟩
def XI (p fr room : Nat) (W : World) (pre : List RX) (V : World) : Prop := rdGo pre 0 0 [] = none ∧ RI p fr room W (rdSt pre 0 0 []).1 (rdSt pre 0 0 []).2.1 (rdSt pre 0 0 []).2.2 V
def XR (W : World) (pre : List RX) (V : World) : Prop := ∃ R, rdGo pre 0 0 [] = some R ∧ RR W R V
set_option maxHeartbeats 16000000 in
theorem read_calls (h : DK B p S F W) (fr room : Nat) (hr : 1 ≤ room) (hl : fr + room ≤ S.lasts.length) (hN : S.lasts.length ≤ 900) (hsz : ∀ j, (S.read.getD j ByteArray.empty).size ≤ 1000) :
    Calls Tryd.prog 19 #[.pointer (some ⟨p, 0, none⟩), .int .i64 (fr : Nat), .int .i64 (room : Nat)] W fun e W' =>
      e = .returned (.tuple #[.string (readS S.read fr room).1, .int .u64 ((readS S.read fr room).2.1 : Nat), .bool (readS S.read fr room).2.2]) ∧ Below W.heap.size W W' := by
  have b6 := (Below.refl W.heap.size W).alloc (Nat.le_refl _) (.cells #[.string ⟨#[]⟩] 9)
  have b7 := b6.alloc (by simp) (.cells #[.int .u64 0] 29)
  have b8 := b7.alloc (by simp; omega) (.cells #[.bool false] 4)
  have KM := Aside0.mk (may_calls (h.below b8) fr room hr hl (by omega))
  refine (callsIn_wide (n := 8)).1 ?_
  refine callsIn_of_wp_marks Tryd.func19 rfl trivial ?_ rfl
  simp only [Tryd.ntmps19, List.size_toArray, List.length_cons, List.length_nil, Nat.reduceAdd, Nat.reduceSub, Array.replicate_succ, Array.replicate_zero, List.push_toArray, List.append_toArray, List.nil_append, List.cons_append]
  gi_wp2
  refine ⟨trivial, ?_⟩
  refine (callsIn_wide.2 KM.out).mono ?_
  rintro e w1 ⟨rfl, rfl⟩
  clear KM
  gi_wp2
  clear b6 b7 b8
  rw [show W.heap.size + 1 + 1 = W.heap.size + 2 from rfl]
  rw [show W.heap.size + 2 + 1 = W.heap.size + 3 from rfl]
  rw [show W.heap.size + 3 + 1 = W.heap.size + 4 from rfl]
  rw [show W.heap.size + 4 + 1 = W.heap.size + 5 from rfl]
  refine ⟨trivial, ?_⟩
  change CallsIn _ _ _ _ _ (six W (.cells #[.string ⟨#[]⟩] 9) (.cells #[.int .u64 0] 29) (.cells #[.bool false] 4) (.cells #[.pointer none, .slice none 0 0] 105) (.cells #[.int .i64 0] 3) (.cells #[.int .u64 0] 29)) _
  obtain ⟨z6, z7, z8, z9, z10, z11⟩ := six_at W 9 29 4 105 3 29 #[.string ⟨#[]⟩] #[.int .u64 0] #[.bool false] #[.pointer none, .slice none 0 0] #[.int .i64 0] #[.int .u64 0]
  have s5 := six_size W (.cells #[.string ⟨#[]⟩] 9) (.cells #[.int .u64 0] 29) (.cells #[.bool false] 4) (.cells #[.pointer none, .slice none 0 0] 105) (.cells #[.int .i64 0] 3) (.cells #[.int .u64 0] 29)
  have hB5 := six_below W (.cells #[.string ⟨#[]⟩] 9) (.cells #[.int .u64 0] 29) (.cells #[.bool false] 4) (.cells #[.pointer none, .slice none 0 0] 105) (.cells #[.int .i64 0] 3) (.cells #[.int .u64 0] 29)
  generalize six W (.cells #[.string ⟨#[]⟩] 9) (.cells #[.int .u64 0] 29) (.cells #[.bool false] 4) (.cells #[.pointer none, .slice none 0 0] 105) (.cells #[.int .i64 0] 3) (.cells #[.int .u64 0] 29) = V5 at z6 z7 z8 z9 z10 z11 s5 hB5 ⊢
  refine (callsIn_wide.2 (records_calls p fr room V5)).mono ?_
  rintro e V8 ⟨rfl, hb, s8, y0, y1, y2⟩
  have hIW : IW B p S F W.heap.size V5.heap.size fr room V8 := ⟨(h.below hB5).below hb, fun k hk => (h.lt hk).2, y0, y1, y2⟩
  rw [s5] at hIW s8 y0 y1 y2 ⊢
  have hRI : RI p fr room W 0 0 [] V8 := ⟨Own.keep z6 hb, Own.keep z7 hb, Own.keep z8 hb, Bld.builder_below (new_builder V5 _ z9) hb, Own.keep z10 hb, Own.keep z11 hb, y0, y1, y2, hB5.trans (hb.mono hB5.size)⟩
  rw [show W.heap.size + 6 + 2 = W.heap.size + 8 from rfl, show W.heap.size + 6 + 1 = W.heap.size + 7 from rfl]
  rw [show W.heap.size + 6 + 3 = W.heap.size + 9 from rfl] at s8
  clear y0 y1 y2 hb z6 z7 z8 z9 z10 z11 hB5 s5 h
  gi_wp2
  -- PRINTED
  refine wpIn_rangeFunc_ownH rfl (by omega) (gf := 85) (lb := #[.pointer (some ⟨W.heap.size + 8, 0, none⟩), .pointer (some ⟨W.heap.size + 6, 0, none⟩), .pointer (some ⟨W.heap.size + 7, 0, none⟩)]) rfl trivial (enters_of Tryd.func85 (by kernel_rfl) rfl)
    (recs_stops 7 (by omega) hIW (by omega) hl (by omega) hsz) keepB_t (keepB_b (by omega) (by omega)) (Below.refl _ _) (fun _ => rfl)
    (XI p fr room W)
    (fun c pre V => c = .ret ∧ XR W pre V)
    (fun s X Y row hs hg hq => ⟨hs.1, hs.2.grown hg (fun r e => ⟨by have := (hq r e).1; omega, (hq r e).2⟩)⟩)
    (fun c s X Y row hs hg hq => by
      obtain ⟨h1, R, h2, h3⟩ := hs
      exact ⟨h1, R, h2, h3.grown hg (fun r e => ⟨by have := (hq r e).1; omega, (hq r e).2⟩)⟩)
    ⟨rfl, hRI⟩
    (fun x a' V => ∃ Bx, W.heap.size + 9 ≤ Bx ∧ V.heap[Bx]? = some (.cells (recV x.1.2) 64 (0, 0)) ∧ a' = { tmps := #[.pointer (some ⟨p, 0, none⟩), .int .i64 (fr : Nat), .int .i64 (room : Nat), undef, undef, undef, .pointer (some ⟨W.heap.size, 0, none⟩), .pointer (some ⟨W.heap.size + 1, 0, none⟩), .pointer (some ⟨W.heap.size + 2, 0, none⟩), .pointer (some ⟨W.heap.size + 3, 0, none⟩), .pointer (some ⟨W.heap.size + 4, 0, none⟩), .pointer (some ⟨W.heap.size + 5, 0, none⟩), .int .i64 (x.1.1 : Nat), .pointer (some ⟨Bx, 0, none⟩), .pointer (some ⟨p, 0, none⟩), .int .i64 (fr : Nat), .int .i64 (room : Nat), .bool true, .bool false, .pointer (some ⟨p, 0, none⟩), .int .i64 (fr : Nat), .int .i64 (room : Nat), .func (.func 85) #[] #[.pointer (some ⟨W.heap.size + 8, 0, none⟩), .pointer (some ⟨W.heap.size + 6, 0, none⟩), .pointer (some ⟨W.heap.size + 7, 0, none⟩)], .int .i64 (x.1.1 : Nat), .agg (recV x.1.2), undef, undef, undef, undef, undef, undef, undef, undef, undef, undef, undef, undef, undef, undef, undef, undef, undef, undef, undef, undef, undef, undef, undef, undef, undef, undef, undef, undef, undef, undef, undef, undef, undef, undef, undef, undef, undef, undef, undef, undef, undef, undef, undef, undef, undef, undef, undef, undef, undef, undef, undef, undef, undef, undef, undef, undef, undef, undef, undef, undef, undef, undef, undef, undef], defers := [] })
    (fun x a' s X Y row hs hg hrow => by
      obtain ⟨Bx, h1, h2, h3⟩ := hs
      exact ⟨Bx, h1, own_row Bx _ _ () X Y row h2 hg (fun r e => (hrow r e).2), h3⟩)
    ?assign ?body ?done ?stop
  case assign =>
    intro l pre x V K hi hK
    have hsV := hi.2.size
    have hb2 := below_setRow ((Below.refl V.heap.size V).alloc (Nat.le_refl _) (.cells #[.int .u8 0, .int .u64 0, .int .u32 0, .string ⟨#[]⟩] 64)) (g := V.heap.size) (Nat.le_refl _) (recV x.1.2)
    have z15 : (V.alloc (.cells #[.int .u8 0, .int .u64 0, .int .u32 0, .string ⟨#[]⟩] 64)).heap[V.heap.size]? = some (.cells #[.int .u8 0, .int .u64 0, .int .u32 0, .string ⟨#[]⟩] 64 (0, 0)) := heap_alloc_new V _
    have hi2 : (Tryd.prog.info? 64).map (·.size) = some (recV x.1.2).size := Sl.infoR
    have hone2 := recV_one x.1.2
    have hK2 := fun a' => hK a' _ (keepsFrom_below hb2) (keepB_below hb2 (by omega) (by omega)) ⟨hi.1, hi.2.below hb2⟩
    have HK := Aside0.mk (fun a' (h : a' = _) => hK2 a' ⟨V.heap.size, by omega, setRow_heap _ _ _ (recV x.1.2) _ (0, 0) z15, h⟩)
    clear hK hK2 hb2 hi hsV
    simp only [encX]
    gi_wp2_with (first | refine in_store_row rfl 64 _ _ rfl V.heap.size (recV x.1.2) rfl rfl 64 _ z15 hi2 rfl hone2 ?_ | fail)
    exact HK.out _ rfl
  case body =>
    rintro l pre x a' V hl2 ⟨r, hr2⟩ ⟨hgo0, hR⟩ ⟨Bx, hBx, bX, rfl⟩ hlt
    obtain ⟨⟨ix, rx⟩, hx1, hx2, hx3⟩ := x
    have hlen := rdSt_len pre 0 0 []
    have hgo := rdGo_snoc ⟨(ix, rx), hx1, hx2, hx3⟩ pre 0 0 [] hgo0
    have hst := rdSt_snoc ⟨(ix, rx), hx1, hx2, hx3⟩ pre 0 0 []
    have hN2 := recsGo_len S.read fr room 0
    obtain ⟨⟨nx, g, out⟩, hS3⟩ : ∃ s3, rdSt pre 0 0 [] = s3 := ⟨_, rfl⟩
    rw [hS3] at hlen hgo hst hR
    dsimp only at hlen hgo hst hR hx1 hx2 hx3
    rw [rdGo] at hgo
    have hrd0 : ∀ nx g out, rdGo [] nx g out = none := fun _ _ _ => rfl
    rw [hrd0] at hgo
    dsimp only at hgo
    have hlo : out.length + rx.d.size ≤ 1000000 := by have := hlen.2; simp at this; omega
    have hnxb : nx ≤ 5000 := by omega
    have d_empty := str_empty rx.d
    clear hgo0 hS3 hlt hlen hN2
    have r0 : V.cell? ⟨Bx, 0, none⟩ = some (.int .u8 (rx.k : Nat)) := cell_of_row _ _ 0 _ _ _ bX
    have r1 : V.cell? ⟨Bx, 1, none⟩ = some (.int .u64 (rx.g : Nat)) := cell_of_row _ _ 1 _ _ _ bX
    have r2 : V.cell? ⟨Bx, 2, none⟩ = some (.int .u32 (rx.i : Nat)) := cell_of_row _ _ 2 _ _ _ bX
    have r3 : V.cell? ⟨Bx, 3, none⟩ = some (.string rx.d) := cell_of_row _ _ 3 _ _ _ bX
    have c10 : V.cell? ⟨W.heap.size + 4, 0, none⟩ = some (.int .i64 (nx : Nat)) := cell_of_row _ _ 0 _ _ _ hR.z10
    have c11 : V.cell? ⟨W.heap.size + 5, 0, none⟩ = some (.int .u64 (g : Nat)) := cell_of_row _ _ 0 _ _ _ hR.z11
    have f6 : V.frozen? ⟨W.heap.size, 0, none⟩ = false := frozen_of_row _ _ 0 _ _ hR.z6
    have f7 : V.frozen? ⟨W.heap.size + 1, 0, none⟩ = false := frozen_of_row _ _ 0 _ _ hR.z7
    have f8 : V.frozen? ⟨W.heap.size + 2, 0, none⟩ = false := frozen_of_row _ _ 0 _ _ hR.z8
    have c6 : V.cell? ⟨W.heap.size, 0, none⟩ = some (.string ⟨#[]⟩) := cell_of_row _ _ 0 _ _ _ hR.z6
    have c7 : V.cell? ⟨W.heap.size + 1, 0, none⟩ = some (.int .u64 0) := cell_of_row _ _ 0 _ _ _ hR.z7
    have c8 : V.cell? ⟨W.heap.size + 2, 0, none⟩ = some (.bool false) := cell_of_row _ _ 0 _ _ _ hR.z8
    by_cases hz : ix = 0
    · have hgq : gq ⟨(ix, rx), hx1, hx2, hx3⟩ g = rx.g := by rw [gq]; exact if_pos hz
      rw [hgq] at hgo hst
      have e0 : ((ix : Int) == 0) = true := by simp; omega
      have f11 : V.frozen? ⟨W.heap.size + 5, 0, none⟩ = false := frozen_of_row _ _ 0 _ _ hR.z11
      have hR1 := hR.gen rx.g
      have hkx : KX W V (V.setCell ⟨W.heap.size + 5, 0, none⟩ (.int .u64 (rx.g : Nat))) := KX.set 5 (.inr rfl) _ V
      have bX1 : (V.setCell ⟨W.heap.size + 5, 0, none⟩ (.int .u64 (rx.g : Nat))).heap[Bx]? = some (.cells (recV rx) 64 (0, 0)) := (set_other V _ _ Bx (by show Bx ≠ W.heap.size + 5; omega)).trans bX
      have hne1 : W.heap.size + 5 ≠ Bx := by omega
      have hne2 : Bx ≠ W.heap.size + 5 := by omega
      clear hgq
      by_cases hi0 : ix = nx
      rotate_left
      · have e1 : ((ix : Int) != (nx : Int)) = true := by simp; omega
        have HQ := Aside0.mk (show rdGo (pre ++ [⟨(ix, rx), hx1, hx2, hx3⟩]) 0 0 [] = some (⟨#[]⟩, 0, false) by rw [hgo, if_pos (by rw [badR]; exact decide_eq_true (.inl hi0))])
        have HR := Aside0.mk (rr_of (R := (⟨#[]⟩, 0, false)) hR1.z6 hR1.z7 hR1.z8 hR1.bel)
        have HK := Aside0.mk hkx
        have HX := Aside0.mk (show XR W (pre ++ [⟨(ix, rx), hx1, hx2, hx3⟩]) _ from ⟨_, HQ.out, HR.out.1⟩)
        clear hgo hst hR1 hR hkx
        try clear hz
        try clear hi0
        try clear hg0
        try clear hx0
        try clear hk2
        try clear hk3
        try clear hs
        gi_wp2
        all_goals first | (rename_i h1 h2; cases h1; done) | exact And.intro (HK.out.1.trans HR.out.2) (And.intro rfl HX.out) | exact And.intro (by rw [s8]; exact HK.out.1.trans HR.out.2) (And.intro rfl HX.out) | exact And.intro (by rw [s8]; exact HK.out.1.trans HR.out.2) HX.out | (trace_state; sorry)
      by_cases hx0 : rx.i = ix
      rotate_left
      · have e1 : ((ix : Int) != (nx : Int)) = false := by simp; omega
        have e3 : ((rx.i : Int) != (ix : Int)) = true := by simp; omega
        have HQ := Aside0.mk (show rdGo (pre ++ [⟨(ix, rx), hx1, hx2, hx3⟩]) 0 0 [] = some (⟨#[]⟩, 0, false) by rw [hgo, if_pos (by rw [badR]; exact decide_eq_true (.inr (.inr (.inl hx0))))])
        have HR := Aside0.mk (rr_of (R := (⟨#[]⟩, 0, false)) hR1.z6 hR1.z7 hR1.z8 hR1.bel)
        have HK := Aside0.mk hkx
        have HX := Aside0.mk (show XR W (pre ++ [⟨(ix, rx), hx1, hx2, hx3⟩]) _ from ⟨_, HQ.out, HR.out.1⟩)
        clear hgo hst hR1 hR hkx
        try clear hz
        try clear hi0
        try clear hg0
        try clear hx0
        try clear hk2
        try clear hk3
        try clear hs
        gi_wp2
        all_goals first | (rename_i h1 h2; cases h1; done) | exact And.intro (HK.out.1.trans HR.out.2) (And.intro rfl HX.out) | exact And.intro (by rw [s8]; exact HK.out.1.trans HR.out.2) (And.intro rfl HX.out) | exact And.intro (by rw [s8]; exact HK.out.1.trans HR.out.2) HX.out | (trace_state; sorry)
      by_cases hk2 : rx.k = 2
      · by_cases hs : rx.d.size = 110
        rotate_left
        · have e1 : ((ix : Int) != (nx : Int)) = false := by simp; omega
          have e3 : ((rx.i : Int) != (ix : Int)) = false := by simp; omega
          have e4 : ((rx.k : Int) != 2) = false := by simp; omega
          have e4' : ((rx.k : Int) == 2) = true := by simp; omega
          have e5 : ((rx.k : Int) != 3) = true := by simp; omega
          have e5' : ((rx.k : Int) == 3) = false := by simp; omega
          have e6 : ((rx.d.size : Int) != 110) = true := by simp; omega
          have e6' : (rx.d.size != 110) = true := by simp; omega
          have HQ := Aside0.mk (show rdGo (pre ++ [⟨(ix, rx), hx1, hx2, hx3⟩]) 0 0 [] = some (⟨#[]⟩, 0, false) by rw [hgo, if_pos (by rw [badR]; exact decide_eq_true (.inr (.inr (.inr (.inr (.inl ⟨hk2, hs⟩))))))])
          have HR := Aside0.mk (rr_of (R := (⟨#[]⟩, 0, false)) hR1.z6 hR1.z7 hR1.z8 hR1.bel)
          have HK := Aside0.mk hkx
          have HX := Aside0.mk (show XR W (pre ++ [⟨(ix, rx), hx1, hx2, hx3⟩]) _ from ⟨_, HQ.out, HR.out.1⟩)
          clear hgo hst hR1 hR hkx
          try clear hz
          try clear hi0
          try clear hg0
          try clear hx0
          try clear hk2
          try clear hk3
          try clear hs
          gi_wp2
          all_goals first | (rename_i h1 h2; cases h1; done) | exact And.intro (HK.out.1.trans HR.out.2) (And.intro rfl HX.out) | exact And.intro (by rw [s8]; exact HK.out.1.trans HR.out.2) (And.intro rfl HX.out) | exact And.intro (by rw [s8]; exact HK.out.1.trans HR.out.2) HX.out | (trace_state; sorry)
        have e1 : ((ix : Int) != (nx : Int)) = false := by simp; omega
        have e3 : ((rx.i : Int) != (ix : Int)) = false := by simp; omega
        have e4 : ((rx.k : Int) != 2) = false := by simp; omega
        have e4' : ((rx.k : Int) == 2) = true := by simp; omega
        have e5 : ((rx.k : Int) != 3) = true := by simp; omega
        have e5' : ((rx.k : Int) == 3) = false := by simp; omega
        have e6 : ((rx.d.size : Int) != 110) = false := by simp; omega
        have e6' : (rx.d.size != 110) = false := by simp; omega
        have e7 : decide ((0 : Int) < (ix : Int)) = false := by simp; omega
        have e7' : decide (0 < ix) = false := by simp; omega
        have hnb : ¬ (badR ix nx (rx.g) rx = true) := by
          rw [badR]
          intro h
          have h := of_decide_eq_true h
          rcases h with h | h | h | h | h | h <;> omega
        rw [if_neg hnb] at hgo
        have KW := Aside0.mk (hR1.write rx.d (by omega))
        have HK := Aside0.mk hkx
        have BX := Aside0.mk bX1
        have HG := Aside0.mk (show rdGo (pre ++ [⟨(ix, rx), hx1, hx2, hx3⟩]) 0 0 [] = none by rw [hgo, if_neg (by omega)])
        have HST := Aside0.mk hst
        clear hgo hst hR1 hR hkx bX bX1 hnb
        try clear hz
        try clear hi0
        try clear hg0
        try clear hx0
        try clear hk2
        try clear hk3
        try clear hs
        gi_wp2
        refine ⟨trivial, ?_⟩
        refine (CallsIn.inRound l (callsIn_wide.2 KW.out)).mono ?_
        rintro e V2 ⟨rfl, hR2, hk2, hbx2⟩
        have c10 : V2.cell? ⟨W.heap.size + 4, 0, none⟩ = some (.int .i64 (nx : Nat)) := cell_of_row _ _ 0 _ _ _ hR2.z10
        have f10 : V2.frozen? ⟨W.heap.size + 4, 0, none⟩ = false := frozen_of_row _ _ 0 _ _ hR2.z10
        have r0 : V2.cell? ⟨Bx, 0, none⟩ = some (.int .u8 (rx.k : Nat)) := cell_of_row _ _ 0 _ _ _ (hbx2 _ _ BX.out)
        have hnx2 : ((nx + 1 : Nat) : Int) = (nx : Int) + 1 := by omega
        have HN := Aside0.mk (hR2.next (nx + 1))
        have HKK := Aside0.mk (HK.out.trans (hk2.trans (KX.set 4 (.inl rfl) (.int .i64 ((nx + 1 : Nat) : Int)) V2)))
        rw [hnx2] at HN HKK
        clear hR2 hk2 hbx2 KW HK BX
        have HX := Aside0.mk (show XI p fr room W (pre ++ [⟨(ix, rx), hx1, hx2, hx3⟩]) _ from ⟨HG.out, by rw [HST.out]; exact HN.out⟩)
        clear HG HST HN
        gi_wp2
        all_goals first | (rename_i h1 h2; cases h1; done) | exact And.intro (by rw [s8]; exact HKK.out.1) (And.intro HKK.out.2 HX.out) | (trace_state; sorry)
      by_cases hk3 : rx.k = 3
      rotate_left
      · have e1 : ((ix : Int) != (nx : Int)) = false := by simp; omega
        have e3 : ((rx.i : Int) != (ix : Int)) = false := by simp; omega
        have e4 : ((rx.k : Int) != 2) = true := by simp; omega
        have e4' : ((rx.k : Int) == 2) = false := by simp; omega
        have e5 : ((rx.k : Int) != 3) = true := by simp; omega
        have e5' : ((rx.k : Int) == 3) = false := by simp; omega
        have HQ := Aside0.mk (show rdGo (pre ++ [⟨(ix, rx), hx1, hx2, hx3⟩]) 0 0 [] = some (⟨#[]⟩, 0, false) by rw [hgo, if_pos (by rw [badR]; exact decide_eq_true (.inr (.inr (.inr (.inl ⟨hk2, hk3⟩)))))])
        have HR := Aside0.mk (rr_of (R := (⟨#[]⟩, 0, false)) hR1.z6 hR1.z7 hR1.z8 hR1.bel)
        have HK := Aside0.mk hkx
        have HX := Aside0.mk (show XR W (pre ++ [⟨(ix, rx), hx1, hx2, hx3⟩]) _ from ⟨_, HQ.out, HR.out.1⟩)
        clear hgo hst hR1 hR hkx
        try clear hz
        try clear hi0
        try clear hg0
        try clear hx0
        try clear hk2
        try clear hk3
        try clear hs
        gi_wp2
        all_goals first | (rename_i h1 h2; cases h1; done) | exact And.intro (HK.out.1.trans HR.out.2) (And.intro rfl HX.out) | exact And.intro (by rw [s8]; exact HK.out.1.trans HR.out.2) (And.intro rfl HX.out) | exact And.intro (by rw [s8]; exact HK.out.1.trans HR.out.2) HX.out | (trace_state; sorry)
      have e1 : ((ix : Int) != (nx : Int)) = false := by simp; omega
      have e3 : ((rx.i : Int) != (ix : Int)) = false := by simp; omega
      have e4 : ((rx.k : Int) != 2) = true := by simp; omega
      have e4' : ((rx.k : Int) == 2) = false := by simp; omega
      have e5 : ((rx.k : Int) != 3) = false := by simp; omega
      have e5' : ((rx.k : Int) == 3) = true := by simp; omega
      have e7 : decide ((0 : Int) < (ix : Int)) = false := by simp; omega
      have e7' : decide (0 < ix) = false := by simp; omega
      have hnb : ¬ (badR ix nx (rx.g) rx = true) := by
        rw [badR]
        intro h
        have h := of_decide_eq_true h
        rcases h with h | h | h | h | h | h <;> omega
      rw [if_neg hnb] at hgo
      have KW := Aside0.mk (hR1.write rx.d (by omega))
      have HK := Aside0.mk hkx
      have BX := Aside0.mk bX1
      have HG := Aside0.mk (show rdGo (pre ++ [⟨(ix, rx), hx1, hx2, hx3⟩]) 0 0 [] = some (wholeS (out ++ rx.d.data.toList) (rx.g)) by rw [hgo, if_pos (by omega)])
      clear hgo hst hR1 hR hkx bX bX1 hnb
      try clear hz
      try clear hi0
      try clear hg0
      try clear hx0
      try clear hk2
      try clear hk3
      try clear hs
      gi_wp2
      refine ⟨trivial, ?_⟩
      refine (CallsIn.inRound l (callsIn_wide.2 KW.out)).mono ?_
      rintro e V2 ⟨rfl, hR2, hk2, hbx2⟩
      have c10 : V2.cell? ⟨W.heap.size + 4, 0, none⟩ = some (.int .i64 (nx : Nat)) := cell_of_row _ _ 0 _ _ _ hR2.z10
      have f10 : V2.frozen? ⟨W.heap.size + 4, 0, none⟩ = false := frozen_of_row _ _ 0 _ _ hR2.z10
      have r0 : V2.cell? ⟨Bx, 0, none⟩ = some (.int .u8 (rx.k : Nat)) := cell_of_row _ _ 0 _ _ _ (hbx2 _ _ BX.out)
      have hnx2 : ((nx + 1 : Nat) : Int) = (nx : Int) + 1 := by omega
      have HN := Aside0.mk (hR2.next (nx + 1))
      have HKK := Aside0.mk (HK.out.trans (hk2.trans (KX.set 4 (.inl rfl) (.int .i64 ((nx + 1 : Nat) : Int)) V2)))
      rw [hnx2] at HN HKK
      clear hR2 hk2 hbx2 KW HK BX
      gi_wp2
      generalize V2.setCell ⟨W.heap.size + 4, 0, none⟩ (.int .i64 ((nx : Int) + 1)) = V3 at HN HKK ⊢
      clear c10 f10 r0 hnx2 r1 r2 r3 c6 c7 c8 f6 f7 f8
      have c11 : V3.cell? ⟨W.heap.size + 5, 0, none⟩ = some (.int .u64 ((rx.g : Nat) : Nat)) := cell_of_row _ _ 0 _ _ _ HN.out.z11
      have hR3 := HN.out.below ((Below.refl V3.heap.size V3).drew)
      have HKD := Aside0.mk (HKK.out.1.trans (keepsFrom_below (B := W.heap.size + 9) ((Below.refl V3.heap.size V3).drew)))
      have KS := Aside0.mk hR3.string
      clear hR3 HN HKK
      gi_region_with (first
        | (skip
           refine ⟨trivial, ?_⟩
           refine (CallsIn.inRound l (callsIn_wide.2 KS.out)).mono ?_
           rintro e V4 ⟨rfl, hR4, hk4⟩
           have c11' : V4.cell? ⟨W.heap.size + 5, 0, none⟩ = some (.int .u64 ((rx.g : Nat) : Nat)) := cell_of_row _ _ 0 _ _ _ hR4.z11
           have HR4 := Aside0.mk hR4
           have HK4 := Aside0.mk hk4
           clear hR4 hk4)
        | (skip
           refine ⟨trivial, ?_⟩
           refine (CallsIn.inRound l (callsIn_wide.2 (whole_calls ⟨(out ++ rx.d.data.toList).toArray⟩ (rx.g) _ (by show (out ++ rx.d.data.toList).toArray.size ≤ 1000000; have : rx.d.data.size = rx.d.size := rfl; simp; omega)))).mono ?_
           rintro e V5 ⟨rfl, hb5⟩
           have HB5 := Aside0.mk hb5
           have hR5 := HR4.out.below hb5
           have HX := Aside0.mk (rr_of (R := wholeS (out ++ rx.d.data.toList) (rx.g)) hR5.z6 hR5.z7 hR5.z8 hR5.bel)
           have HZ := Aside0.mk (show KeepsFrom (W.heap.size + 9) V _ ∧ XR W (pre ++ [⟨(ix, rx), hx1, hx2, hx3⟩]) _ from ⟨(HKD.out.trans HK4.out.1).trans ((keepsFrom_below HB5.out).trans HX.out.2), _, HG.out, HX.out.1⟩)
           clear HX HB5
           have f6 := frozen_of_row _ _ 0 _ _ hR5.z6
           have f7 := frozen_of_row _ _ 0 _ _ hR5.z7
           have f8 := frozen_of_row _ _ 0 _ _ hR5.z8
           have c6 := cell_of_row _ _ 0 _ _ _ hR5.z6
           have c7 := cell_of_row _ _ 0 _ _ _ hR5.z7
           have c8 := cell_of_row _ _ 0 _ _ _ hR5.z8
           clear hb5 hR5))
      all_goals gi_wp2
      all_goals first | exact And.intro HZ.out.1 (And.intro rfl HZ.out.2) | exact And.intro (by rw [s8]; exact HZ.out.1) (And.intro rfl HZ.out.2) | exact And.intro (by rw [s8]; exact HZ.out.1) HZ.out.2 | (trace_state; sorry)

    · have hgq : gq ⟨(ix, rx), hx1, hx2, hx3⟩ g = g := by rw [gq]; exact if_neg hz
      rw [hgq] at hgo hst
      have e0 : ((ix : Int) == 0) = false := by simp; omega
      have hR1 := hR
      have hkx : KX W V V := KX.refl W V
      have bX1 := bX
      clear hgq
      by_cases hi0 : ix = nx
      rotate_left
      · have e1 : ((ix : Int) != (nx : Int)) = true := by simp; omega
        have HQ := Aside0.mk (show rdGo (pre ++ [⟨(ix, rx), hx1, hx2, hx3⟩]) 0 0 [] = some (⟨#[]⟩, 0, false) by rw [hgo, if_pos (by rw [badR]; exact decide_eq_true (.inl hi0))])
        have HR := Aside0.mk (rr_of (R := (⟨#[]⟩, 0, false)) hR1.z6 hR1.z7 hR1.z8 hR1.bel)
        have HK := Aside0.mk hkx
        have HX := Aside0.mk (show XR W (pre ++ [⟨(ix, rx), hx1, hx2, hx3⟩]) _ from ⟨_, HQ.out, HR.out.1⟩)
        clear hgo hst hR1 hR hkx
        try clear hz
        try clear hi0
        try clear hg0
        try clear hx0
        try clear hk2
        try clear hk3
        try clear hs
        gi_wp2
        all_goals first | (rename_i h1 h2; cases h1; done) | exact And.intro (HK.out.1.trans HR.out.2) (And.intro rfl HX.out) | exact And.intro (by rw [s8]; exact HK.out.1.trans HR.out.2) (And.intro rfl HX.out) | exact And.intro (by rw [s8]; exact HK.out.1.trans HR.out.2) HX.out | (trace_state; sorry)
      by_cases hg0 : rx.g = g
      rotate_left
      · have e1 : ((ix : Int) != (nx : Int)) = false := by simp; omega
        have e2 : ((rx.g : Int) != (g : Int)) = true := by simp; omega
        have HQ := Aside0.mk (show rdGo (pre ++ [⟨(ix, rx), hx1, hx2, hx3⟩]) 0 0 [] = some (⟨#[]⟩, 0, false) by rw [hgo, if_pos (by rw [badR]; exact decide_eq_true (.inr (.inl hg0)))])
        have HR := Aside0.mk (rr_of (R := (⟨#[]⟩, 0, false)) hR1.z6 hR1.z7 hR1.z8 hR1.bel)
        have HK := Aside0.mk hkx
        have HX := Aside0.mk (show XR W (pre ++ [⟨(ix, rx), hx1, hx2, hx3⟩]) _ from ⟨_, HQ.out, HR.out.1⟩)
        clear hgo hst hR1 hR hkx
        try clear hz
        try clear hi0
        try clear hg0
        try clear hx0
        try clear hk2
        try clear hk3
        try clear hs
        gi_wp2
        all_goals first | (rename_i h1 h2; cases h1; done) | exact And.intro (HK.out.1.trans HR.out.2) (And.intro rfl HX.out) | exact And.intro (by rw [s8]; exact HK.out.1.trans HR.out.2) (And.intro rfl HX.out) | exact And.intro (by rw [s8]; exact HK.out.1.trans HR.out.2) HX.out | (trace_state; sorry)
      by_cases hx0 : rx.i = ix
      rotate_left
      · have e1 : ((ix : Int) != (nx : Int)) = false := by simp; omega
        have e2 : ((rx.g : Int) != (g : Int)) = false := by simp; omega
        have e3 : ((rx.i : Int) != (ix : Int)) = true := by simp; omega
        have HQ := Aside0.mk (show rdGo (pre ++ [⟨(ix, rx), hx1, hx2, hx3⟩]) 0 0 [] = some (⟨#[]⟩, 0, false) by rw [hgo, if_pos (by rw [badR]; exact decide_eq_true (.inr (.inr (.inl hx0))))])
        have HR := Aside0.mk (rr_of (R := (⟨#[]⟩, 0, false)) hR1.z6 hR1.z7 hR1.z8 hR1.bel)
        have HK := Aside0.mk hkx
        have HX := Aside0.mk (show XR W (pre ++ [⟨(ix, rx), hx1, hx2, hx3⟩]) _ from ⟨_, HQ.out, HR.out.1⟩)
        clear hgo hst hR1 hR hkx
        try clear hz
        try clear hi0
        try clear hg0
        try clear hx0
        try clear hk2
        try clear hk3
        try clear hs
        gi_wp2
        all_goals first | (rename_i h1 h2; cases h1; done) | exact And.intro (HK.out.1.trans HR.out.2) (And.intro rfl HX.out) | exact And.intro (by rw [s8]; exact HK.out.1.trans HR.out.2) (And.intro rfl HX.out) | exact And.intro (by rw [s8]; exact HK.out.1.trans HR.out.2) HX.out | (trace_state; sorry)
      by_cases hk2 : rx.k = 2
      · by_cases hs : rx.d.size = 110
        rotate_left
        · have e1 : ((ix : Int) != (nx : Int)) = false := by simp; omega
          have e2 : ((rx.g : Int) != (g : Int)) = false := by simp; omega
          have e3 : ((rx.i : Int) != (ix : Int)) = false := by simp; omega
          have e4 : ((rx.k : Int) != 2) = false := by simp; omega
          have e4' : ((rx.k : Int) == 2) = true := by simp; omega
          have e5 : ((rx.k : Int) != 3) = true := by simp; omega
          have e5' : ((rx.k : Int) == 3) = false := by simp; omega
          have e6 : ((rx.d.size : Int) != 110) = true := by simp; omega
          have e6' : (rx.d.size != 110) = true := by simp; omega
          have HQ := Aside0.mk (show rdGo (pre ++ [⟨(ix, rx), hx1, hx2, hx3⟩]) 0 0 [] = some (⟨#[]⟩, 0, false) by rw [hgo, if_pos (by rw [badR]; exact decide_eq_true (.inr (.inr (.inr (.inr (.inl ⟨hk2, hs⟩))))))])
          have HR := Aside0.mk (rr_of (R := (⟨#[]⟩, 0, false)) hR1.z6 hR1.z7 hR1.z8 hR1.bel)
          have HK := Aside0.mk hkx
          have HX := Aside0.mk (show XR W (pre ++ [⟨(ix, rx), hx1, hx2, hx3⟩]) _ from ⟨_, HQ.out, HR.out.1⟩)
          clear hgo hst hR1 hR hkx
          try clear hz
          try clear hi0
          try clear hg0
          try clear hx0
          try clear hk2
          try clear hk3
          try clear hs
          gi_wp2
          all_goals first | (rename_i h1 h2; cases h1; done) | exact And.intro (HK.out.1.trans HR.out.2) (And.intro rfl HX.out) | exact And.intro (by rw [s8]; exact HK.out.1.trans HR.out.2) (And.intro rfl HX.out) | exact And.intro (by rw [s8]; exact HK.out.1.trans HR.out.2) HX.out | (trace_state; sorry)
        have e1 : ((ix : Int) != (nx : Int)) = false := by simp; omega
        have e2 : ((rx.g : Int) != (g : Int)) = false := by simp; omega
        have e3 : ((rx.i : Int) != (ix : Int)) = false := by simp; omega
        have e4 : ((rx.k : Int) != 2) = false := by simp; omega
        have e4' : ((rx.k : Int) == 2) = true := by simp; omega
        have e5 : ((rx.k : Int) != 3) = true := by simp; omega
        have e5' : ((rx.k : Int) == 3) = false := by simp; omega
        have e6 : ((rx.d.size : Int) != 110) = false := by simp; omega
        have e6' : (rx.d.size != 110) = false := by simp; omega
        have e7 : decide ((0 : Int) < (ix : Int)) = true := by simp; omega
        have e7' : decide (0 < ix) = true := by simp; omega
        have e8 : ¬ rx.d = ByteArray.empty := fun e => by have : rx.d.size = 0 := by rw [e]; rfl
                                                          omega
        have hnb : ¬ (badR ix nx (g) rx = true) := by
          rw [badR]
          intro h
          have h := of_decide_eq_true h
          rcases h with h | h | h | h | h | h <;> omega
        rw [if_neg hnb] at hgo
        have KW := Aside0.mk (hR1.write rx.d (by omega))
        have HK := Aside0.mk hkx
        have BX := Aside0.mk bX1
        have HG := Aside0.mk (show rdGo (pre ++ [⟨(ix, rx), hx1, hx2, hx3⟩]) 0 0 [] = none by rw [hgo, if_neg (by omega)])
        have HST := Aside0.mk hst
        clear hgo hst hR1 hR hkx bX bX1 hnb
        try clear hz
        try clear hi0
        try clear hg0
        try clear hx0
        try clear hk2
        try clear hk3
        try clear hs
        gi_wp2
        refine ⟨trivial, ?_⟩
        refine (CallsIn.inRound l (callsIn_wide.2 KW.out)).mono ?_
        rintro e V2 ⟨rfl, hR2, hk2, hbx2⟩
        have c10 : V2.cell? ⟨W.heap.size + 4, 0, none⟩ = some (.int .i64 (nx : Nat)) := cell_of_row _ _ 0 _ _ _ hR2.z10
        have f10 : V2.frozen? ⟨W.heap.size + 4, 0, none⟩ = false := frozen_of_row _ _ 0 _ _ hR2.z10
        have r0 : V2.cell? ⟨Bx, 0, none⟩ = some (.int .u8 (rx.k : Nat)) := cell_of_row _ _ 0 _ _ _ (hbx2 _ _ BX.out)
        have hnx2 : ((nx + 1 : Nat) : Int) = (nx : Int) + 1 := by omega
        have HN := Aside0.mk (hR2.next (nx + 1))
        have HKK := Aside0.mk (HK.out.trans (hk2.trans (KX.set 4 (.inl rfl) (.int .i64 ((nx + 1 : Nat) : Int)) V2)))
        rw [hnx2] at HN HKK
        clear hR2 hk2 hbx2 KW HK BX
        have HX := Aside0.mk (show XI p fr room W (pre ++ [⟨(ix, rx), hx1, hx2, hx3⟩]) _ from ⟨HG.out, by rw [HST.out]; exact HN.out⟩)
        clear HG HST HN
        gi_wp2
        all_goals first | (rename_i h1 h2; cases h1; done) | exact And.intro (by rw [s8]; exact HKK.out.1) (And.intro HKK.out.2 HX.out) | (trace_state; sorry)
      by_cases hk3 : rx.k = 3
      rotate_left
      · have e1 : ((ix : Int) != (nx : Int)) = false := by simp; omega
        have e2 : ((rx.g : Int) != (g : Int)) = false := by simp; omega
        have e3 : ((rx.i : Int) != (ix : Int)) = false := by simp; omega
        have e4 : ((rx.k : Int) != 2) = true := by simp; omega
        have e4' : ((rx.k : Int) == 2) = false := by simp; omega
        have e5 : ((rx.k : Int) != 3) = true := by simp; omega
        have e5' : ((rx.k : Int) == 3) = false := by simp; omega
        have HQ := Aside0.mk (show rdGo (pre ++ [⟨(ix, rx), hx1, hx2, hx3⟩]) 0 0 [] = some (⟨#[]⟩, 0, false) by rw [hgo, if_pos (by rw [badR]; exact decide_eq_true (.inr (.inr (.inr (.inl ⟨hk2, hk3⟩)))))])
        have HR := Aside0.mk (rr_of (R := (⟨#[]⟩, 0, false)) hR1.z6 hR1.z7 hR1.z8 hR1.bel)
        have HK := Aside0.mk hkx
        have HX := Aside0.mk (show XR W (pre ++ [⟨(ix, rx), hx1, hx2, hx3⟩]) _ from ⟨_, HQ.out, HR.out.1⟩)
        clear hgo hst hR1 hR hkx
        try clear hz
        try clear hi0
        try clear hg0
        try clear hx0
        try clear hk2
        try clear hk3
        try clear hs
        gi_wp2
        all_goals first | (rename_i h1 h2; cases h1; done) | exact And.intro (HK.out.1.trans HR.out.2) (And.intro rfl HX.out) | exact And.intro (by rw [s8]; exact HK.out.1.trans HR.out.2) (And.intro rfl HX.out) | exact And.intro (by rw [s8]; exact HK.out.1.trans HR.out.2) HX.out | (trace_state; sorry)
      by_cases hs : rx.d.size = 0
      · have e1 : ((ix : Int) != (nx : Int)) = false := by simp; omega
        have e2 : ((rx.g : Int) != (g : Int)) = false := by simp; omega
        have e3 : ((rx.i : Int) != (ix : Int)) = false := by simp; omega
        have e4 : ((rx.k : Int) != 2) = true := by simp; omega
        have e4' : ((rx.k : Int) == 2) = false := by simp; omega
        have e5 : ((rx.k : Int) != 3) = false := by simp; omega
        have e5' : ((rx.k : Int) == 3) = true := by simp; omega
        have e7 : decide ((0 : Int) < (ix : Int)) = true := by simp; omega
        have e7' : decide (0 < ix) = true := by simp; omega
        have e8 : rx.d = ByteArray.empty := ByteArray.ext (Array.eq_empty_of_size_eq_zero hs)
        have HQ := Aside0.mk (show rdGo (pre ++ [⟨(ix, rx), hx1, hx2, hx3⟩]) 0 0 [] = some (⟨#[]⟩, 0, false) by rw [hgo, if_pos (by rw [badR]; exact decide_eq_true (.inr (.inr (.inr (.inr (.inr ⟨by omega, hs⟩))))))])
        have HR := Aside0.mk (rr_of (R := (⟨#[]⟩, 0, false)) hR1.z6 hR1.z7 hR1.z8 hR1.bel)
        have HK := Aside0.mk hkx
        have HX := Aside0.mk (show XR W (pre ++ [⟨(ix, rx), hx1, hx2, hx3⟩]) _ from ⟨_, HQ.out, HR.out.1⟩)
        clear hgo hst hR1 hR hkx
        try clear hz
        try clear hi0
        try clear hg0
        try clear hx0
        try clear hk2
        try clear hk3
        try clear hs
        gi_wp2
        all_goals first | (rename_i h1 h2; cases h1; done) | exact And.intro (HK.out.1.trans HR.out.2) (And.intro rfl HX.out) | exact And.intro (by rw [s8]; exact HK.out.1.trans HR.out.2) (And.intro rfl HX.out) | exact And.intro (by rw [s8]; exact HK.out.1.trans HR.out.2) HX.out | (trace_state; sorry)
      have e1 : ((ix : Int) != (nx : Int)) = false := by simp; omega
      have e2 : ((rx.g : Int) != (g : Int)) = false := by simp; omega
      have e3 : ((rx.i : Int) != (ix : Int)) = false := by simp; omega
      have e4 : ((rx.k : Int) != 2) = true := by simp; omega
      have e4' : ((rx.k : Int) == 2) = false := by simp; omega
      have e5 : ((rx.k : Int) != 3) = false := by simp; omega
      have e5' : ((rx.k : Int) == 3) = true := by simp; omega
      have e7 : decide ((0 : Int) < (ix : Int)) = true := by simp; omega
      have e7' : decide (0 < ix) = true := by simp; omega
      have e8 : ¬ rx.d = ByteArray.empty := fun e => by have : rx.d.size = 0 := by rw [e]; rfl
                                                        omega
      have hnb : ¬ (badR ix nx (g) rx = true) := by
        rw [badR]
        intro h
        have h := of_decide_eq_true h
        rcases h with h | h | h | h | h | h <;> omega
      rw [if_neg hnb] at hgo
      have KW := Aside0.mk (hR1.write rx.d (by omega))
      have HK := Aside0.mk hkx
      have BX := Aside0.mk bX1
      have HG := Aside0.mk (show rdGo (pre ++ [⟨(ix, rx), hx1, hx2, hx3⟩]) 0 0 [] = some (wholeS (out ++ rx.d.data.toList) (g)) by rw [hgo, if_pos (by omega)])
      clear hgo hst hR1 hR hkx bX bX1 hnb
      try clear hz
      try clear hi0
      try clear hg0
      try clear hx0
      try clear hk2
      try clear hk3
      try clear hs
      gi_wp2
      refine ⟨trivial, ?_⟩
      refine (CallsIn.inRound l (callsIn_wide.2 KW.out)).mono ?_
      rintro e V2 ⟨rfl, hR2, hk2, hbx2⟩
      have c10 : V2.cell? ⟨W.heap.size + 4, 0, none⟩ = some (.int .i64 (nx : Nat)) := cell_of_row _ _ 0 _ _ _ hR2.z10
      have f10 : V2.frozen? ⟨W.heap.size + 4, 0, none⟩ = false := frozen_of_row _ _ 0 _ _ hR2.z10
      have r0 : V2.cell? ⟨Bx, 0, none⟩ = some (.int .u8 (rx.k : Nat)) := cell_of_row _ _ 0 _ _ _ (hbx2 _ _ BX.out)
      have hnx2 : ((nx + 1 : Nat) : Int) = (nx : Int) + 1 := by omega
      have HN := Aside0.mk (hR2.next (nx + 1))
      have HKK := Aside0.mk (HK.out.trans (hk2.trans (KX.set 4 (.inl rfl) (.int .i64 ((nx + 1 : Nat) : Int)) V2)))
      rw [hnx2] at HN HKK
      clear hR2 hk2 hbx2 KW HK BX
      gi_wp2
      generalize V2.setCell ⟨W.heap.size + 4, 0, none⟩ (.int .i64 ((nx : Int) + 1)) = V3 at HN HKK ⊢
      clear c10 f10 r0 hnx2 r1 r2 r3 c6 c7 c8 f6 f7 f8
      have c11 : V3.cell? ⟨W.heap.size + 5, 0, none⟩ = some (.int .u64 ((g : Nat) : Nat)) := cell_of_row _ _ 0 _ _ _ HN.out.z11
      have hR3 := HN.out.below ((Below.refl V3.heap.size V3).drew)
      have HKD := Aside0.mk (HKK.out.1.trans (keepsFrom_below (B := W.heap.size + 9) ((Below.refl V3.heap.size V3).drew)))
      have KS := Aside0.mk hR3.string
      clear hR3 HN HKK
      gi_region_with (first
        | (skip
           refine ⟨trivial, ?_⟩
           refine (CallsIn.inRound l (callsIn_wide.2 KS.out)).mono ?_
           rintro e V4 ⟨rfl, hR4, hk4⟩
           have c11' : V4.cell? ⟨W.heap.size + 5, 0, none⟩ = some (.int .u64 ((g : Nat) : Nat)) := cell_of_row _ _ 0 _ _ _ hR4.z11
           have HR4 := Aside0.mk hR4
           have HK4 := Aside0.mk hk4
           clear hR4 hk4)
        | (skip
           refine ⟨trivial, ?_⟩
           refine (CallsIn.inRound l (callsIn_wide.2 (whole_calls ⟨(out ++ rx.d.data.toList).toArray⟩ (g) _ (by show (out ++ rx.d.data.toList).toArray.size ≤ 1000000; have : rx.d.data.size = rx.d.size := rfl; simp; omega)))).mono ?_
           rintro e V5 ⟨rfl, hb5⟩
           have HB5 := Aside0.mk hb5
           have hR5 := HR4.out.below hb5
           have HX := Aside0.mk (rr_of (R := wholeS (out ++ rx.d.data.toList) (g)) hR5.z6 hR5.z7 hR5.z8 hR5.bel)
           have HZ := Aside0.mk (show KeepsFrom (W.heap.size + 9) V _ ∧ XR W (pre ++ [⟨(ix, rx), hx1, hx2, hx3⟩]) _ from ⟨(HKD.out.trans HK4.out.1).trans ((keepsFrom_below HB5.out).trans HX.out.2), _, HG.out, HX.out.1⟩)
           clear HX HB5
           have f6 := frozen_of_row _ _ 0 _ _ hR5.z6
           have f7 := frozen_of_row _ _ 0 _ _ hR5.z7
           have f8 := frozen_of_row _ _ 0 _ _ hR5.z8
           have c6 := cell_of_row _ _ 0 _ _ _ hR5.z6
           have c7 := cell_of_row _ _ 0 _ _ _ hR5.z7
           have c8 := cell_of_row _ _ 0 _ _ _ hR5.z8
           clear hb5 hR5))
      all_goals gi_wp2
      all_goals first | exact And.intro HZ.out.1 (And.intro rfl HZ.out.2) | exact And.intro (by rw [s8]; exact HZ.out.1) (And.intro rfl HZ.out.2) | exact And.intro (by rw [s8]; exact HZ.out.1) HZ.out.2 | (trace_state; sorry)

  case done =>
    rintro D xs V hD rfl ⟨hgo, hR⟩ hK
    have hsV := hR.size
    have f6 : V.frozen? ⟨W.heap.size, 0, none⟩ = false := frozen_of_row _ _ 0 _ _ hR.z6
    have f7 : V.frozen? ⟨W.heap.size + 1, 0, none⟩ = false := frozen_of_row _ _ 0 _ _ hR.z7
    have f8 : V.frozen? ⟨W.heap.size + 2, 0, none⟩ = false := frozen_of_row _ _ 0 _ _ hR.z8
    have c6 : V.cell? ⟨W.heap.size, 0, none⟩ = some (.string ⟨#[]⟩) := cell_of_row _ _ 0 _ _ _ hR.z6
    have c7 : V.cell? ⟨W.heap.size + 1, 0, none⟩ = some (.int .u64 0) := cell_of_row _ _ 0 _ _ _ hR.z7
    have c8 : V.cell? ⟨W.heap.size + 2, 0, none⟩ = some (.bool false) := cell_of_row _ _ 0 _ _ _ hR.z8
    have HR := Aside0.mk (rr_of (R := (⟨#[]⟩, 0, false)) hR.z6 hR.z7 hR.z8 hR.bel)
    have HD := Aside0.mk hK
    have hE := Aside0.mk (show readS S.read fr room = (⟨#[]⟩, 0, false) by rw [readS, readGo_fold S.read fr room 0 0 0 [] (by omega), hgo]; rfl)
    clear hgo hR hK
    have hDD : (((V.setCell ⟨W.heap.size, 0, none⟩ (.string ⟨#[]⟩)).setCell ⟨W.heap.size + 1, 0, none⟩ (.int .u64 0)).setCell ⟨W.heap.size + 2, 0, none⟩ (.bool false)).heap[D]? = some (.deferred (some [])) :=
      (set_other _ _ _ D (by show D ≠ W.heap.size + 2; omega)).trans ((set_other _ _ _ D (by show D ≠ W.heap.size + 1; omega)).trans ((set_other _ _ _ D (by show D ≠ W.heap.size; omega)).trans HD.out))
    have HDD := Aside0.mk hDD
    clear hDD HD
    gi_wp2
    refine ⟨by simp, .inl ⟨_, _, rfl, run_takeDeferred HDD.out, ?_⟩⟩
    have hZ := HR.out.1.ending (D := D) (by omega) HDD.out
    exact ⟨_, (hZ _ rfl rfl rfl).1, by rw [hE.out], (hZ #[undef, undef, undef, undef, undef, undef, .pointer (some ⟨W.heap.size, 0, none⟩), .pointer (some ⟨W.heap.size + 1, 0, none⟩), .pointer (some ⟨W.heap.size + 2, 0, none⟩)] rfl rfl rfl).2⟩
  case stop =>
    rintro D c pre V hD hSp ⟨rfl, R, hgo, hR⟩ hK
    have hE := Aside0.mk (show readS S.read fr room = R by
      obtain ⟨r, hr⟩ := hSp
      rw [readS, readGo_fold S.read fr room 0 0 0 [] (by omega), ← hr, rdGo_prefix r R pre 0 0 [] hgo]; rfl)
    have HD := Aside0.mk hK
    have HR := Aside0.mk hR
    clear hgo hR hK hSp
    gi_wp2
    refine ⟨by simp, .inl ⟨_, _, rfl, run_takeDeferred HD.out, ?_⟩⟩
    have hZ := HR.out.ending (D := D) (by omega) HD.out
    exact ⟨_, (hZ _ rfl rfl rfl).1, by rw [hE.out], (hZ #[undef, undef, undef, undef, undef, undef, .pointer (some ⟨W.heap.size, 0, none⟩), .pointer (some ⟨W.heap.size + 1, 0, none⟩), .pointer (some ⟨W.heap.size + 2, 0, none⟩)] rfl rfl rfl).2⟩
end Go.Proofs.YtknbhgodhmcemaaDoor.So
namespace Go.Proofs.YtknbhgodhmcemaaDoor.Lg
set_option linter.unusedSimpArgs false
set_option linter.unusedVariables false
set_option maxRecDepth 100000
open Go.RowKit Go.Proofs.YtknbhgodhmcemaaDoor.Own Go.Proofs.YtknbhgodhmcemaaDoor.Cel Go.Proofs.YtknbhgodhmcemaaDoor.Dk
def ArgK (A : Option Addr) (ks : List Bool) (V : World) : Prop := ∀ i (h : i < ks.length), ∃ b o, A = some ⟨b, o, none⟩ ∧ V.cell? ⟨b, o + i, none⟩ = some (.bool (ks[i]'h))
theorem DY.crash {w V : World} {p : Nat} {S : DS} {X : List (Nat × Obj)} {v : Value} {xs : List ByteArray} (h : DY w p S X v xs V) (hok : S.ok) (hn : S.waits.length ≤ 1000000) (A : Option Addr) (c : Nat) (ks : List Bool) (hk : ArgK A ks w) (hl : ks.length ≤ 1000000) :
    Calls Tryd.prog 14 #[.pointer (some ⟨p, 0, none⟩), .slice A ks.length c] V fun e V' => e = .returned (.tuple #[]) ∧ DY w p (S.crash (fun j => ks.getD j false)) X v xs V' :=
  h.did (Q := fun e => e = .returned (.tuple #[])) (fun F hd => crash_calls hd hok hn A c ks (fun i hi => by
    obtain ⟨b, o, e, hc⟩ := hk i hi
    have hlt : b < w.heap.size := World.block_lt_of_cell? w _ hc
    exact ⟨o + i, b, o, e, rfl, fun hf => by have := (hd.lt hf).1; omega, (World.cell?_of_block (h.bel.block b hlt)).trans hc⟩) hl)
theorem DY.arm {w V : World} {p : Nat} {S : DS} {X : List (Nat × Obj)} {v : Value} {xs : List ByteArray} (h : DY w p S X v xs V) (n : Int) :
    Calls Tryd.prog 12 #[.pointer (some ⟨p, 0, none⟩), .int .i64 n] V fun e V' => e = .returned (.tuple #[]) ∧ DY w p { S with armed := n } X v xs V' :=
  h.did (Q := fun e => e = .returned (.tuple #[])) (fun F hd => (arm_calls hd n).mono fun _ _ ⟨e, h1, h2⟩ => ⟨e, F, h1, h2, fun _ e => .inl e⟩)
structure KS (w : World) (p b9 : Nat) (av : Value) (all : List ByteArray) (sure n k : Nat) (W : World) : Prop where
  len : all.length = n
  st : ∃ S, DY w p S [(b9, .cells (logV 0 21 5 n) 31 (0, 0))] av all W ∧ LK 0 21 5 all sure S ∧ Sm S n k ∧ Dk.DS.ok S ∧ Full S ∧ S.lasts.length = 21
  lt : w.heap.size ≤ b9
end Go.Proofs.YtknbhgodhmcemaaDoor.Lg
namespace Go.Proofs.YtknbhgodhmcemaaDoor.So
set_option linter.unusedSimpArgs false
set_option linter.unusedVariables false
set_option maxRecDepth 100000
open Go.RowKit Go.Shelf Go.Proofs.YtknbhgodhmcemaaDoor.Own Go.Proofs.YtknbhgodhmcemaaDoor.Cel Go.Proofs.YtknbhgodhmcemaaDoor.Dk
open Go.Proofs.YtknbhgodhmcemaaDoor.Sl (openS openS_len openS_blank)
open Go.Proofs.YtknbhgodhmcemaaDoor.Lg (DY Full fails_armed sync_cases getD_size)
structure Calm (S : DS) (N k : Nat) : Prop where
  ok : Ok S N k
  full : Full S
  calm : S.armed ≤ 0
theorem Calm.fresh (N k : Nat) (hk : k ≤ 900000) : Calm ⟨List.replicate N (sect 0), [], 0, 0⟩ N k :=
  ⟨⟨fun x hx => absurd hx (by simp), by simp, by show (0 : Int) ≤ 9223372036854775807; omega, by simp; omega, by show (0 : Int) ≤ 0; omega, by show (0 : Int) + k ≤ 1000000000; omega⟩, Full.fresh N 0 0, by show (0 : Int) ≤ 0; omega⟩
theorem wr_full {fr g i n m : Nat} {L : List UInt8} {S : DS} {R : DS × Int} (w : Wrote fr g L i n S R m) (h : Full S) : Full R.1 :=
  ⟨by rw [w.lasts]; exact h.1, fun x hx => by
    rw [w.waits] at hx
    rcases List.mem_append.1 hx with hx | hx
    · exact h.2 x hx
    · obtain ⟨j, _, _, rfl⟩ := ws_mem hx
      exact psec_size g L j⟩
theorem ws_length (fr g : Nat) (L : List UInt8) (i m : Nat) : (ws fr g L i m).length = m := by simp [ws]
theorem wr_ok {fr g i n m N k : Nat} {L : List UInt8} {S : DS} {R : DS × Int} (w : Wrote fr g L i n S R m) (h : Ok S N (k + n)) (hn : fr + i + n ≤ N) : Ok R.1 N k := by
  have h1 := h.len
  have h2 := h.arm
  have h3 := h.waits
  have h4 := h.ops0
  have h5 := h.ops
  have h6 := w.le
  have h7 := w.arm
  have h8 := w.ops
  exact ⟨w.ok h.ok (by omega), by rw [w.lasts]; exact h1, by omega, by rw [w.waits, List.length_append, ws_length]; omega, by omega, by omega⟩
theorem Calm.write {S : DS} {N k : Nat} {L : List UInt8} (h : Calm S N (k + np L.length)) (fr g : Nat) (hl : fr + np L.length ≤ N) :
    ∃ S', wrS fr g L (np L.length) 0 S = (S', 0) ∧ Calm S' N k ∧ (∀ j, j < np L.length → S'.read.getD (fr + j) ByteArray.empty = psec g L j) ∧ (∀ q, ¬ (fr ≤ q ∧ q < fr + np L.length) → S'.read.getD q ByteArray.empty = S.read.getD q ByteArray.empty) := by
  have hlen := h.ok.len
  obtain ⟨m, w⟩ := wrS_spec fr g L (np L.length) 0 S (by omega)
  obtain ⟨c1, c2⟩ := w.calm h.calm
  have hm := w.all c1
  subst hm
  have hr : ∀ q, (wrS fr g L (np L.length) 0 S).1.read.getD q ByteArray.empty = if fr + 0 ≤ q ∧ q < fr + 0 + np L.length then psec g L (q - fr) else S.read.getD q ByteArray.empty := fun q => by
    rw [DS.read, w.lasts, w.waits, applyW_append, applyW_ws fr g L q _ _ 0 _ (by rw [applyW_len]; omega)]
    rfl
  refine ⟨(wrS fr g L (np L.length) 0 S).1, by rw [← c1], ⟨wr_ok w h.ok (by omega), wr_full w h.full, by rw [c2]; exact h.calm⟩, fun j hj => ?_, fun q hq => ?_⟩
  · rw [hr, if_pos (by omega), Nat.add_sub_cancel_left]
  · rw [hr, if_neg (by omega)]
theorem Calm.sync {S : DS} {N k : Nat} (h : Calm S N (k + 1)) : ∃ S', S.sync = (S', 0) ∧ Calm S' N k ∧ S'.read = S.read ∧ S'.waits = [] := by
  rcases sync_cases S with ⟨_, hf⟩ | ⟨e, hf⟩
  · rw [(fails_armed S).1 h.calm] at hf; cases hf
  · rw [(fails_armed S).1 h.calm] at e
    have hk : keptW (fun _ => true) 0 S.waits = S.waits := keptW_all _ _ _ (fun _ _ _ => rfl)
    have hl : ((S.crash (fun _ => true)).lasts) = S.read := by show applyW S.lasts (keptW (fun _ => true) 0 S.waits) = _; rw [hk]; rfl
    have h1 := h.ok.len
    have h2 := h.ok.ops0
    have h3 := h.ok.ops
    have h4 := h.ok.waits
    refine ⟨_, e, ⟨⟨fun x hx => absurd hx (by simp [DS.crash]), ?_, h.ok.arm, by show 0 + k ≤ _; omega, by show 0 ≤ S.ops + 1; omega, by show S.ops + 1 + k ≤ _; omega⟩, ?_, h.calm⟩, ?_, rfl⟩
    · show (S.crash (fun _ => true)).lasts.length = N
      rw [hl, DS.read_len]; exact h1
    · exact h.full.crash _
    · show applyW (S.crash (fun _ => true)).lasts [] = S.read
      rw [hl]; rfl
theorem applyW_get (q : Nat) (e : ByteArray) : ∀ (us : List Wt) (l : List ByteArray), (applyW l us).getD q e = l.getD q e ∨ ∃ x ∈ us, x.1 = q ∧ (applyW l us).getD q e = x.2
  | [], l => .inl rfl
  | x :: r, l => by
    rw [applyW]
    rcases applyW_get q e r (l.set x.1 x.2) with h | ⟨y, hy, h1, h2⟩
    · rw [h]
      by_cases hx : x.1 = q
      · by_cases hl : x.1 < l.length
        · refine .inr ⟨x, List.mem_cons_self, hx, ?_⟩
          rw [← hx, List.getD_eq_getElem?_getD, List.getElem?_set_self hl]; rfl
        · exact .inl (by rw [List.set_eq_of_length_le (by omega)])
      · exact .inl (by rw [List.getD_eq_getElem?_getD, List.getElem?_set_ne hx, ← List.getD_eq_getElem?_getD])
    · exact .inr ⟨y, List.mem_cons_of_mem _ hy, h1, h2⟩
theorem blank_open : (openS (sect 0)).2 ≠ 0 := by
  have e : openS (sect 0) = (.zero, 16) := openS_blank (sect_size 0) (by decide +kernel)
  rw [e]; decide
variable {w V : World} {p : Nat} {S : DS} {X : List (Nat × Obj)} {v : Value} {xs : List ByteArray}
theorem DY.swrite (h : DY w p S X v xs V) (fr room g : Nat) (t : ByteArray) (hr : 1 ≤ room) (hl : fr + room ≤ S.lasts.length) (hN : S.lasts.length ≤ 5000) (hg : g < 18446744073709551616) (ht : t.size ≤ 100000) (hfit : t.size + 4 ≤ 110 * room) (hok : Ok S S.lasts.length (np (summedL t.data.toList).length)) :
    Calls Tryd.prog 17 #[.pointer (some ⟨p, 0, none⟩), .int .i64 (fr : Nat), .int .i64 (room : Nat), .int .u64 (g : Nat), .string t] V fun e V' =>
      e = .returned (.int .i64 (wrS fr g (summedL t.data.toList) (np (summedL t.data.toList).length) 0 S).2) ∧ DY w p (wrS fr g (summedL t.data.toList) (np (summedL t.data.toList).length) 0 S).1 X v xs V' :=
  h.did (Q := fun e => e = .returned (.int .i64 (wrS fr g (summedL t.data.toList) (np (summedL t.data.toList).length) 0 S).2)) (fun F hd => write_good hd fr room g t hr hl hN hg ht hfit hok)
theorem DY.dsync (h : DY w p S X v xs V) (hok : S.ok) (ha : S.armed ≤ 9223372036854775807) (hn : S.waits.length ≤ 1000000) (ho0 : 0 ≤ S.ops) (ho : S.ops ≤ 4611686018427387904) :
    Calls Tryd.prog 18 #[.pointer (some ⟨p, 0, none⟩)] V fun e V' => e = .returned (.int .i64 S.sync.2) ∧ DY w p S.sync.1 X v xs V' :=
  h.did (Q := fun e => e = .returned (.int .i64 S.sync.2)) (fun F hd => sync_calls hd hok ha hn ho0 ho)
theorem DY.dread (h : DY w p S X v xs V) (i : Int) :
    Calls Tryd.prog 39 #[.pointer (some ⟨p, 0, none⟩), .int .i64 i] V fun e V' => e = .returned (.tuple #[.string (S.readAt i).1, .int .i64 (S.readAt i).2]) ∧ V = V' := by
  obtain ⟨F, d⟩ := h.dk
  exact Dk.read_calls d i
theorem DY.sread (h : DY w p S X v xs V) (fr room : Nat) (hr : 1 ≤ room) (hl : fr + room ≤ S.lasts.length) (hN : S.lasts.length ≤ 900) (hF : Full S) :
    Calls Tryd.prog 19 #[.pointer (some ⟨p, 0, none⟩), .int .i64 (fr : Nat), .int .i64 (room : Nat)] V fun e V' =>
      e = .returned (.tuple #[.string (readS S.read fr room).1, .int .u64 ((readS S.read fr room).2.1 : Nat), .bool (readS S.read fr room).2.2]) ∧ Below V.heap.size V V' := by
  obtain ⟨F, d⟩ := h.dk
  exact So.read_calls d fr room hr hl hN (getD_size _ 1000 (fun s hs => by rw [hF.read s hs]; omega))
theorem DY.snew (h : DY w p S X v xs V) (fr room : Nat) (hr : 1 ≤ room) (hl : fr + room ≤ S.lasts.length) (hN : S.lasts.length ≤ 5000) (hF : Full S) :
    Calls Tryd.prog 20 #[.pointer (some ⟨p, 0, none⟩), .int .i64 (fr : Nat), .int .i64 (room : Nat)] V fun e V' => e = .returned (.int .u64 (newS S.read fr room : Nat)) ∧ Below V.heap.size V V' := by
  obtain ⟨F, d⟩ := h.dk
  exact newest_calls d fr room hr hl hN (getD_size _ 1000 (fun s hs => by rw [hF.read s hs]; omega))
end Go.Proofs.YtknbhgodhmcemaaDoor.So
namespace Go.Proofs.YtknbhgodhmcemaaDoor.So
set_option linter.unusedSimpArgs false
set_option linter.unusedVariables false
set_option maxRecDepth 100000
open Go.RowKit Go.Shelf Go.Proofs.YtknbhgodhmcemaaDoor.Own Go.Proofs.YtknbhgodhmcemaaDoor.Cel Go.Proofs.YtknbhgodhmcemaaDoor.Dk
open Go.Proofs.YtknbhgodhmcemaaDoor.Sl (Rec openS open_calls recV recV_one)
open Go.Proofs.YtknbhgodhmcemaaDoor.Lg (DY DY.start DY.step Full box_new)
set_option maxHeartbeats 4000000 in
theorem awake15_calls (w : World) : Calls Tryd.prog 16 #[] w fun e w' => e = .returned (.bool true) ∧ Below w.heap.size w w' := by
  have KN := Aside0.mk (new_good 3 w (by omega) (by omega))
  rw [show ((3 : Nat) : Int) = 3 by rfl] at KN
  have hf : Calm ⟨List.replicate 3 (sect 0), [], 0, 0⟩ 3 (0 + np (summedL [97, 98]).length) := Calm.fresh 3 _ (by decide)
  obtain ⟨S', hw, hc, hr, _⟩ := hf.write 1 7 (by decide)
  have hl3 := hc.ok.len
  have e1 : S'.read.getD 1 ByteArray.empty = psec 7 (summedL [97, 98]) 0 := hr 0 (by decide)
  have er : S'.readAt 1 = (psec 7 (summedL [97, 98]) 0, 0) := by
    unfold DS.readAt
    rw [if_pos ⟨by omega, by omega⟩, show (1 : Int).toNat = 1 from rfl, e1]
  have eo : openS (psec 7 (summedL [97, 98]) 0) = (⟨3, 7, 0, ⟨(pdat (summedL [97, 98]) 0).toArray⟩⟩, 0) := by
    rw [psec_open 7 _ 0 (by decide) (by decide)]; rfl
  have hd6 : (⟨(pdat (summedL [97, 98]) 0).toArray⟩ : ByteArray).size = 6 := rfl
  have KO := Aside0.mk (fun V => open_calls (psec 7 (summedL [97, 98]) 0) V (by rw [psec_size]; omega))
  rw [eo] at KO
  obtain ⟨d, hdd⟩ : ∃ d, (⟨(pdat (summedL [97, 98]) 0).toArray⟩ : ByteArray) = d := ⟨_, rfl⟩
  rw [hdd] at KO hd6
  have es : readS S'.read 1 2 = (⟨#[97, 98]⟩, 7, true) := readS_whole _ 1 2 7 [97, 98] (by decide) (by decide) (by decide) hr
  have ER := Aside0.mk er
  have ES := Aside0.mk es
  have HW := Aside0.mk hw
  have HL := Aside0.mk (And.intro hf.ok (And.intro hl3 hc.full))
  clear er es eo e1 hdd hw hc hr hl3 hf
  generalize psec 7 (summedL [97, 98]) 0 = s1 at KO ER
  go_enter Tryd.func16, Tryd.ntmps16
  go_wp2_with fail
  refine KN.out.mono ?_
  rintro x w1 ⟨p, F, rfl, dk, b⟩
  have H := DY.start dk b
  clear dk b KN
  have KW := DY.swrite H 1 1 7 ⟨#[97, 98]⟩ (by decide) (by simp) (by simp) (by decide) (by decide) (by decide) (by simpa using HL.out.1)
  rw [show (⟨#[97, 98]⟩ : ByteArray).data.toList = [97, 98] from rfl, HW.out] at KW
  have KW2 := Aside0.mk KW
  clear KW HW H
  go_wp2_with fail
  refine KW2.out.mono ?_
  rintro x w2 ⟨rfl, h⟩
  have H := Aside0.mk h
  clear h KW2
  go_wp2_with fail
  have KR := DY.dread H.out 1
  rw [ER.out] at KR
  refine KR.mono ?_
  rintro x w3 ⟨rfl, rfl⟩
  clear KR ER
  go_wp2_with fail
  refine (KO.out _).mono ?_
  rintro x V3 ⟨rfl, hb⟩
  replace H := Aside0.mk (H.out.step hb)
  clear hb KO
  obtain ⟨hb, z, z0⟩ := box_new (V := V3) #[.int .u8 0, .int .u64 0, .int .u32 0, .string ⟨#[]⟩] (recV ⟨3, 7, 0, d⟩) 64
  replace H := Aside0.mk (H.out.step hb)
  have HX := Aside0.mk z
  have i2 : (Tryd.prog.info? 64).map (·.size) = some (recV ⟨3, 7, 0, d⟩).size := Sl.infoR
  have q2 := recV_one ⟨3, 7, 0, d⟩
  clear hb z
  go_wp2_with (first | refine wpList_store_row rfl 64 _ _ rfl V3.heap.size (recV ⟨3, 7, 0, d⟩) rfl rfl 64 _ z0 i2 rfl q2 ?_ | fail)
  clear z0 i2 q2
  change Calls _ _ _ ((V3.alloc (.cells #[.int .u8 0, .int .u64 0, .int .u32 0, .string ⟨#[]⟩] 64)).setRow V3.heap.size (recV ⟨3, 7, 0, d⟩)) _
  generalize (V3.alloc (.cells #[.int .u8 0, .int .u64 0, .int .u32 0, .string ⟨#[]⟩] 64)).setRow V3.heap.size (recV ⟨3, 7, 0, d⟩) = V4 at H HX ⊢
  generalize V3.heap.size = b9 at HX ⊢
  have KR := DY.sread H.out 1 2 (by decide) (by rw [HL.out.2.1]; decide) (by rw [HL.out.2.1]; decide) HL.out.2.2
  rw [ES.out] at KR
  dsimp only at KR
  refine KR.mono ?_
  rintro x V5 ⟨rfl, hb⟩
  replace H := Aside0.mk (H.out.step hb)
  replace HX := Aside0.mk (keep HX.out hb)
  clear hb KR
  go_wp2_with fail
  refine (awake12_calls _).mono ?_
  rintro x V7 ⟨rfl, hb⟩
  replace H := Aside0.mk (H.out.step hb)
  replace HX := Aside0.mk (keep HX.out hb)
  clear hb
  go_wp2_with fail
  refine (Sl.awake_calls _).mono ?_
  rintro x V8 ⟨rfl, hb⟩
  replace H := Aside0.mk (H.out.step hb)
  have z9 := keep HX.out hb
  clear hb HX
  have c0 : V8.cell? ⟨b9, 0, none⟩ = some (.int .u8 3) := cell_of_row _ _ 0 _ _ _ z9
  have c3 : V8.cell? ⟨b9, 3, none⟩ = some (.string d) := cell_of_row _ _ 3 _ _ _ z9
  clear z9
  go_wp2
  go_ret
  exact ⟨by first | rfl | decide, H.out.bel⟩
end Go.Proofs.YtknbhgodhmcemaaDoor.So
namespace Go.Proofs.YtknbhgodhmcemaaDoor.So
set_option linter.unusedSimpArgs false
set_option linter.unusedVariables false
set_option maxRecDepth 100000
open Go.RowKit Go.Shelf Go.Proofs.YtknbhgodhmcemaaDoor.Own Go.Proofs.YtknbhgodhmcemaaDoor.Cel Go.Proofs.YtknbhgodhmcemaaDoor.Dk
open Go.Proofs.YtknbhgodhmcemaaDoor.Sl (Rec openS open_calls recV recV_one)
open Go.Proofs.YtknbhgodhmcemaaDoor.Lg (DY DY.start DY.step Full box_new)
theorem Calm.mono {S : DS} {N k j : Nat} (h : Calm S N k) (hj : j ≤ k) : Calm S N j :=
  ⟨⟨h.ok.ok, h.ok.len, h.ok.arm, by have := h.ok.waits; omega, h.ok.ops0, by have := h.ok.ops; omega⟩, h.full, h.calm⟩
theorem np_size (t : ByteArray) : np (summedL t.data.toList).length = (t.size + 113) / 110 := by
  have htl : t.data.toList.length = t.size := by rw [Array.length_toList]; rfl
  rw [summedL_len, htl, np]
theorem newest_ge {rd : List ByteArray} {fr room g : Nat} {L : List UInt8} (hr : 1 ≤ room) (hg : g < 18446744073709551616) (h : rd.getD (fr + 0) ByteArray.empty = psec g L 0) : g ≤ newS rd fr room := by
  have ho := psec_open g L 0 hg (by decide)
  have := newGo_all rd fr room 0 0 0 (Nat.le_refl _) (by omega) (by rw [h, ho]) (by rw [h, ho]; show pk L.length 0 = 2 ∨ pk L.length 0 = 3; unfold pk; split <;> simp)
  rw [h, ho] at this
  exact this
end Go.Proofs.YtknbhgodhmcemaaDoor.So
namespace Go.Proofs.YtknbhgodhmcemaaDoor.So
set_option linter.unusedSimpArgs false
set_option linter.unusedVariables false
set_option maxRecDepth 100000
open Go.RowKit Go.Shelf Go.Proofs.YtknbhgodhmcemaaDoor.Own Go.Proofs.YtknbhgodhmcemaaDoor.Cel Go.Proofs.YtknbhgodhmcemaaDoor.Dk
open Go.Proofs.YtknbhgodhmcemaaDoor.Sl (Rec openS open_calls recV recV_one)
open Go.Proofs.YtknbhgodhmcemaaDoor.Lg (DY DY.start DY.step DY.crash DY.arm ArgK Full box_new crash_len)
theorem Calm.armed {S : DS} {N k : Nat} (h : Calm S N k) (a : Int) (ha : a ≤ 9223372036854775807) : Ok { S with armed := a } N k := ⟨h.ok.ok, h.ok.len, ha, h.ok.waits, h.ok.ops0, h.ok.ops⟩
end Go.Proofs.YtknbhgodhmcemaaDoor.So
namespace Go.Proofs.YtknbhgodhmcemaaDoor.Va
set_option linter.unusedSimpArgs false
set_option linter.unusedVariables false
set_option maxRecDepth 100000
open Go.RowKit Go.Shelf Go.Proofs.YtknbhgodhmcemaaDoor.Own Go.Proofs.YtknbhgodhmcemaaDoor.Cel Go.Proofs.YtknbhgodhmcemaaDoor.Dk
open Go.Proofs.YtknbhgodhmcemaaDoor.Sl (Rec openS open_calls recV recV_one)
open Go.Proofs.YtknbhgodhmcemaaDoor.Lg (DY DY.start DY.step Full box_new end_cell3)
open Go.Proofs.YtknbhgodhmcemaaDoor.So (readS newS)
variable {B p : Nat} {S : DS} {F : Nat → Prop} {W : World}
set_option maxHeartbeats 1000000 in
theorem may_calls (h : DK B p S F W) (n : Nat) (hn : 1 ≤ n) (hl : 2 * n < S.lasts.length) (hN : S.lasts.length ≤ 4096) :
    Calls Tryd.prog 74 #[.pointer (some ⟨p, 0, none⟩), .int .i64 (n : Nat)] W fun e W' => e = .returned (.bool true) ∧ W = W' := by
  have KS := Aside0.mk (size_calls h)
  obtain ⟨N, hNN⟩ : ∃ N, S.lasts.length = N := ⟨_, rfl⟩
  rw [hNN] at KS hl hN
  have d1 : (1 : Int) ≤ (n : Int) := by omega
  have d2 : (n : Int) ≤ 4096 := by omega
  have d3 : 2 * (n : Int) < (N : Int) := by omega
  clear h hNN
  go_enter Tryd.func74, Tryd.ntmps74
  go_wp2_with fail
  refine KS.out.mono ?_
  rintro e w1 ⟨rfl, rfl⟩
  go_wp2
  go_ret
  exact ⟨rfl, rfl⟩
def lookB (s : ByteArray) : Bool := decide ((openS s).2 = 16)
def lookR (s : ByteArray) : Bool := decide ((openS s).2 ≠ 16 ∧ (openS s).2 ≠ 0)
abbrev zRec : Array Value := #[.int .u8 0, .int .u64 0, .int .u32 0, .string ⟨#[]⟩]
set_option maxHeartbeats 2000000 in
theorem look_calls (h : DK B p S F W) (i : Nat) (hi : i < S.lasts.length) (hN : S.lasts.length ≤ 4096) (hsz : ∀ j, (S.read.getD j ByteArray.empty).size ≤ 1000) :
    Calls Tryd.prog 75 #[.pointer (some ⟨p, 0, none⟩), .int .i64 (i : Nat)] W fun e W' =>
      e = .returned (.tuple #[.agg (recV (openS (S.read.getD i ByteArray.empty)).1), .bool (lookB (S.read.getD i ByteArray.empty)), .bool (lookR (S.read.getD i ByteArray.empty))]) ∧ Below W.heap.size W W' := by
  have er : S.readAt (i : Int) = (S.read.getD i ByteArray.empty, 0) := by
    unfold DS.readAt
    rw [if_pos ⟨by omega, by omega⟩, Int.toNat_natCast]
  have hsz1 := hsz i
  obtain ⟨s, hs⟩ : ∃ s, S.read.getD i ByteArray.empty = s := ⟨_, rfl⟩
  rw [hs] at er hsz1
  rw [hs]
  have hb1 : Below W.heap.size W (W.alloc (.cells zRec 64)) := (Below.refl _ _).alloc (Nat.le_refl _) _
  have z1 := heap_alloc_new W (.cells zRec 64)
  have KR := Aside0.mk (read_calls (h.below hb1) (i : Int))
  rw [er] at KR
  have KO := Aside0.mk (fun V => open_calls s V hsz1)
  have hB : lookB s = decide ((openS s).2 = 16) := rfl
  have hR : lookR s = decide ((openS s).2 ≠ 16 ∧ (openS s).2 ≠ 0) := rfl
  obtain ⟨⟨r, q⟩, ho⟩ : ∃ o, openS s = o := ⟨_, rfl⟩
  rw [ho] at KO hB hR ⊢
  dsimp only at KO hB hR ⊢
  rw [hB, hR]
  obtain ⟨bl, hbl⟩ : ∃ b, decide (q = 16) = b := ⟨_, rfl⟩
  obtain ⟨rt, hrt⟩ : ∃ b, decide (q ≠ 16 ∧ q ≠ 0) = b := ⟨_, rfl⟩
  rw [hbl, hrt]
  have HBL := Aside0.mk hbl
  have HRT := Aside0.mk hrt
  have hone := recV_one r
  have HI := Aside0.mk (show (Tryd.prog.info? 64).map (·.size) = some (recV r).size from Sl.infoR)
  have H := Aside0.mk (And.intro hb1 z1)
  clear er hs ho hsz1 hsz h hb1 z1 hB hR hbl hrt
  go_enter Tryd.func75, Tryd.ntmps75
  go_wp2_with fail
  refine KR.out.mono ?_
  rintro e w1 ⟨rfl, rfl⟩
  clear KR
  go_wp2_with fail
  refine (KO.out _).mono ?_
  rintro e V ⟨rfl, hb⟩
  replace H := Aside0.mk (show Below W.heap.size W V ∧ V.heap[W.heap.size]? = some (.cells zRec 64 (0, 0)) from ⟨H.out.1.trans (hb.mono H.out.1.size), keep H.out.2 hb⟩)
  clear hb KO
  have z2 := H.out.2
  have z3 := setRow_heap V W.heap.size zRec (recV r) 64 (0, 0) z2
  have z4 := setRow_heap (V.setRow W.heap.size (recV r)) W.heap.size (recV r) (recV r) 64 (0, 0) z3
  have HB := Aside0.mk (below_setRow (below_setRow H.out.1 (g := W.heap.size) (Nat.le_refl _) (recV r)) (g := W.heap.size) (Nat.le_refl _) (recV r))
  by_cases h16 : q = 16
  · have e1 : (q == 16) = true := by simpa using h16
    obtain rfl : bl = true := HBL.out.symm.trans (decide_eq_true h16)
    obtain rfl : rt = false := HRT.out.symm.trans (decide_eq_false (fun x => x.1 h16))
    clear h16 HBL HRT
    go_wp2_with (first | refine wpList_store_row rfl 64 _ _ rfl W.heap.size (recV r) rfl rfl 64 _ z2 HI.out rfl hone ?_ | refine wpList_load_row rfl 64 _ rfl W.heap.size rfl 64 _ (0, 0) _ z3 Tryd.underlying64 rfl HI.out ?_ | refine wpList_store_row rfl 64 _ _ rfl W.heap.size (recV r) rfl rfl 64 _ z3 HI.out rfl hone ?_ | fail)
    try rw [Exit.noGoto_ret]
    refine bodyPost_ret (end_cell3 rfl _ _ _ (recV r) _ z3 rfl Tryd.underlying64 rfl HI.out) rfl ?_
    exact ⟨rfl, HB.out⟩
  have e1 : (q == 16) = false := by simpa using h16
  by_cases h0 : q = 0
  · have e2 : (q == 0) = true := by simpa using h0
    obtain rfl : bl = false := HBL.out.symm.trans (decide_eq_false h16)
    obtain rfl : rt = false := HRT.out.symm.trans (decide_eq_false (fun x => x.2 h0))
    clear h16 h0 HBL HRT
    go_wp2_with (first | refine wpList_store_row rfl 64 _ _ rfl W.heap.size (recV r) rfl rfl 64 _ z2 HI.out rfl hone ?_ | refine wpList_load_row rfl 64 _ rfl W.heap.size rfl 64 _ (0, 0) _ z3 Tryd.underlying64 rfl HI.out ?_ | refine wpList_store_row rfl 64 _ _ rfl W.heap.size (recV r) rfl rfl 64 _ z3 HI.out rfl hone ?_ | fail)
    try rw [Exit.noGoto_ret]
    refine bodyPost_ret (end_cell3 rfl _ _ _ (recV r) _ z3 rfl Tryd.underlying64 rfl HI.out) rfl ?_
    exact ⟨rfl, HB.out⟩
  · have e2 : (q == 0) = false := by simpa using h0
    obtain rfl : bl = false := HBL.out.symm.trans (decide_eq_false h16)
    obtain rfl : rt = true := HRT.out.symm.trans (decide_eq_true ⟨h16, h0⟩)
    clear h16 h0 HBL HRT
    go_wp2_with (first | refine wpList_store_row rfl 64 _ _ rfl W.heap.size (recV r) rfl rfl 64 _ z2 HI.out rfl hone ?_ | refine wpList_load_row rfl 64 _ rfl W.heap.size rfl 64 _ (0, 0) _ z3 Tryd.underlying64 rfl HI.out ?_ | refine wpList_store_row rfl 64 _ _ rfl W.heap.size (recV r) rfl rfl 64 _ z3 HI.out rfl hone ?_ | fail)
    try rw [Exit.noGoto_ret]
    refine bodyPost_ret (end_cell3 rfl _ _ _ (recV r) _ z3 rfl Tryd.underlying64 rfl HI.out) rfl ?_
    exact ⟨rfl, HB.out⟩
end Go.Proofs.YtknbhgodhmcemaaDoor.Va
namespace Go.Proofs.YtknbhgodhmcemaaDoor.Va
set_option linter.unusedSimpArgs false
set_option linter.unusedVariables false
set_option maxRecDepth 100000
open Go.RowKit Go.Shelf Go.Proofs.YtknbhgodhmcemaaDoor.Own Go.Proofs.YtknbhgodhmcemaaDoor.Cel Go.Proofs.YtknbhgodhmcemaaDoor.Dk
open Go.Proofs.YtknbhgodhmcemaaDoor.So (readS newS)
variable {B p : Nat} {S : DS} {F : Nat → Prop} {W : World}
set_option maxHeartbeats 1000000 in
theorem at_calls (h : DK B p S F W) (b2 b3 n i : Nat) (z2 : W.heap[b2]? = some (.cells #[.pointer (some ⟨p, 0, none⟩)] 25 (0, 0))) (z3 : W.heap[b3]? = some (.cells #[.int .i64 (n : Nat)] 3 (0, 0))) (hn : 1 ≤ n) (hl : i * n + n ≤ S.lasts.length) (hN : S.lasts.length ≤ 900) (hsz : ∀ j, (S.read.getD j ByteArray.empty).size ≤ 1000) :
    Calls Tryd.prog 91 #[.int .i64 (i : Nat), .pointer (some ⟨b2, 0, none⟩), .pointer (some ⟨b3, 0, none⟩)] W fun e W' =>
      e = .returned (.tuple #[.string (readS S.read (i * n) n).1, .int .u64 ((readS S.read (i * n) n).2.1 : Nat), .bool (readS S.read (i * n) n).2.2]) ∧ Below W.heap.size W W' := by
  have KR := So.read_calls h (i * n) n hn hl hN hsz
  obtain ⟨⟨t, g, o⟩, hR⟩ : ∃ R, readS S.read (i * n) n = R := ⟨_, rfl⟩
  rw [hR, Int.natCast_mul] at KR
  rw [hR]
  dsimp only at KR ⊢
  have K := Aside0.mk KR
  have c2 : W.cell? ⟨b2, 0, none⟩ = some (.pointer (some ⟨p, 0, none⟩)) := cell_of_row _ _ 0 _ _ _ z2
  have c3 : W.cell? ⟨b3, 0, none⟩ = some (.int .i64 (n : Nat)) := cell_of_row _ _ 0 _ _ _ z3
  have hm : (i : Int) * (n : Int) ≤ 900 := by
    have : ((i * n : Nat) : Int) ≤ 900 := by omega
    rwa [Int.natCast_mul] at this
  have hm0 : (0 : Int) ≤ (i : Int) * (n : Int) := Int.mul_nonneg (by omega) (by omega)
  clear KR hR h z2 z3 hl hN hsz hn
  go_enter Tryd.func91, Tryd.ntmps91
  go_wp2_with fail
  refine K.out.mono ?_
  rintro e V ⟨rfl, hb⟩
  have HB := Aside0.mk hb
  clear hb K
  go_wp2
  go_ret3
  exact ⟨rfl, HB.out⟩
theorem results_tmp4 {fn : Func} {t u v x : Tmp} (h : fn.results = #[.tmp t, .tmp u, .tmp v, .tmp x]) (tmps : Array Value) (P : Program) (w : World) :
    (results fn tmps).run P w = .ok (.tuple #[tmps.getD t undef, tmps.getD u undef, tmps.getD v undef, tmps.getD x undef]) w := by
  simp [results, h]
def newestS (rd : List ByteArray) (n : Nat) : Nat × Nat × ByteArray × Bool :=
  if (readS rd (0 * n) n).2.2 = true ∧ ((readS rd (1 * n) n).2.2 = false ∨ (readS rd (1 * n) n).2.1 ≤ (readS rd (0 * n) n).2.1) then (0, (readS rd (0 * n) n).2.1, (readS rd (0 * n) n).1, true)
  else if (readS rd (1 * n) n).2.2 = true then (1, (readS rd (1 * n) n).2.1, (readS rd (1 * n) n).1, true) else (0, 0, ⟨#[]⟩, false)
set_option maxHeartbeats 4000000 in
theorem newest_calls (h : DK B p S F W) (n : Nat) (hn : 1 ≤ n) (hl : 2 * n < S.lasts.length) (hN : S.lasts.length ≤ 900) (hsz : ∀ j, (S.read.getD j ByteArray.empty).size ≤ 1000) :
    Calls Tryd.prog 76 #[.pointer (some ⟨p, 0, none⟩), .int .i64 (n : Nat)] W fun e W' =>
      e = .returned (.tuple #[.int .i64 ((newestS S.read n).1 : Nat), .int .u64 ((newestS S.read n).2.1 : Nat), .string (newestS S.read n).2.2.1, .bool (newestS S.read n).2.2.2]) ∧ Below W.heap.size W W' := by
  have b1 := (Below.refl W.heap.size W).alloc (Nat.le_refl _) (.cells #[.pointer (some ⟨p, 0, none⟩)] 25)
  have b2 := b1.alloc (by simp) (.cells #[.int .i64 (n : Nat)] 3)
  have z0 := heap_alloc_new W (.cells #[.pointer (some ⟨p, 0, none⟩)] 25)
  have z1 := heap_alloc_new (W.alloc (.cells #[.pointer (some ⟨p, 0, none⟩)] 25)) (.cells #[.int .i64 (n : Nat)] 3)
  have y0 := Own.keep z0 ((Below.refl _ _).alloc (Nat.le_refl _) (.cells #[.int .i64 (n : Nat)] 3))
  rw [show (W.alloc (.cells #[.pointer (some ⟨p, 0, none⟩)] 25)).heap.size = W.heap.size + 1 by simp] at z1
  have hd := h.below b2
  have KA := Aside0.mk (at_calls hd W.heap.size (W.heap.size + 1) n 0 y0 z1 hn (by omega) hN hsz)
  have KB := Aside0.mk (fun V (hb : Below ((W.alloc (.cells #[.pointer (some ⟨p, 0, none⟩)] 25)).alloc (.cells #[.int .i64 (n : Nat)] 3)).heap.size ((W.alloc (.cells #[.pointer (some ⟨p, 0, none⟩)] 25)).alloc (.cells #[.int .i64 (n : Nat)] 3)) V) => at_calls (hd.below hb) W.heap.size (W.heap.size + 1) n 1 (Own.keep y0 hb) (Own.keep z1 hb) hn (by omega) hN hsz)
  have H0 := Aside0.mk b2
  unfold newestS
  obtain ⟨⟨t0, g0, o0⟩, hR0⟩ : ∃ R, readS S.read (0 * n) n = R := ⟨_, rfl⟩
  obtain ⟨⟨t1, g1, o1⟩, hR1⟩ : ∃ R, readS S.read (1 * n) n = R := ⟨_, rfl⟩
  rw [hR0] at KA ⊢
  rw [hR1] at KB ⊢
  dsimp only at KA KB ⊢
  obtain ⟨A, hA⟩ : ∃ A, (if o0 = true ∧ (o1 = false ∨ g1 ≤ g0) then (0, g0, t0, true) else if o1 = true then (1, g1, t1, true) else ((0, 0, ⟨#[]⟩, false) : Nat × Nat × ByteArray × Bool)) = A := ⟨_, rfl⟩
  rw [hA]
  have HA := Aside0.mk hA
  clear h b1 b2 z0 z1 y0 hd hn hl hN hsz hR0 hR1 hA
  go_enter Tryd.func76, Tryd.ntmps76
  go_wp2_with fail
  refine KA.out.mono ?_
  rintro e V ⟨rfl, hb⟩
  have H1 := Aside0.mk hb
  clear hb KA
  go_wp2_with fail
  refine (KB.out V H1.out).mono ?_
  rintro e V2 ⟨rfl, hb⟩
  have H := Aside0.mk (show Below W.heap.size W V2 from H0.out.trans (H1.out.trans (hb.mono H1.out.size) |>.mono H0.out.size))
  clear hb KB H0 H1
  have hA := HA.out
  clear HA
  cases o0 with
  | true =>
    cases o1 with
    | true =>
      by_cases hg : g1 ≤ g0
      · have d1 : decide ((g1 : Int) ≤ (g0 : Int)) = true := decide_eq_true (by omega)
        have d1' : decide (g1 ≤ g0) = true := decide_eq_true hg
        rw [if_pos ⟨rfl, .inr hg⟩] at hA
        subst hA
        clear hg
        go_wp2
        refine bodyPost_ret (results_tmp4 rfl _ _ _) rfl ?_
        exact ⟨rfl, H.out⟩
      · have d1 : decide ((g1 : Int) ≤ (g0 : Int)) = false := decide_eq_false (by omega)
        have d1' : decide (g1 ≤ g0) = false := decide_eq_false hg
        rw [if_neg (fun x => x.2.elim (fun y => by cases y) hg), if_pos rfl] at hA
        subst hA
        clear hg
        go_wp2
        refine bodyPost_ret (results_tmp4 rfl _ _ _) rfl ?_
        exact ⟨rfl, H.out⟩
    | false =>
      rw [if_pos ⟨rfl, .inl rfl⟩] at hA
      subst hA
      go_wp2
      refine bodyPost_ret (results_tmp4 rfl _ _ _) rfl ?_
      exact ⟨rfl, H.out⟩
  | false =>
    cases o1 with
    | true =>
      rw [if_neg (fun x => by cases x.1), if_pos rfl] at hA
      subst hA
      go_wp2
      refine bodyPost_ret (results_tmp4 rfl _ _ _) rfl ?_
      exact ⟨rfl, H.out⟩
    | false =>
      rw [if_neg (fun x => by cases x.1), if_neg (fun x => by cases x)] at hA
      subst hA
      go_wp2
      refine bodyPost_ret (results_tmp4 rfl _ _ _) rfl ?_
      exact ⟨rfl, H.out⟩
end Go.Proofs.YtknbhgodhmcemaaDoor.Va
namespace Go.Proofs.YtknbhgodhmcemaaDoor.Va
set_option linter.unusedSimpArgs false
set_option linter.unusedVariables false
set_option maxRecDepth 100000
open Go.RowKit Go.Shelf Go.Proofs.YtknbhgodhmcemaaDoor.Own Go.Proofs.YtknbhgodhmcemaaDoor.Cel Go.Proofs.YtknbhgodhmcemaaDoor.Dk
open Go.Proofs.YtknbhgodhmcemaaDoor.Sl (Rec openS open_calls recV recV_one)
open Go.Proofs.YtknbhgodhmcemaaDoor.Lg (box_new)
def wrB (rd : List ByteArray) : Nat → Bool
  | 0 => false
  | i + 1 => wrB rd i || !lookB (rd.getD i ByteArray.empty)
def badX (rt whole : Bool) (n i : Nat) (bl : Bool) (k g gen : Nat) : Bool := rt || (whole && decide (2 * n ≤ i) && !bl && decide (k = 1) && decide (gen < g))
def bdB (rd : List ByteArray) (n gen : Nat) (whole : Bool) : Nat → Int
  | 0 => 0
  | i + 1 => if badX (lookR (rd.getD i ByteArray.empty)) whole n i (lookB (rd.getD i ByteArray.empty)) (openS (rd.getD i ByteArray.empty)).1.k (openS (rd.getD i ByteArray.empty)).1.g gen = true then 8 else bdB rd n gen whole i
def soundS (rd : List ByteArray) (n gen : Nat) (whole : Bool) (N : Nat) : Int := if wrB rd N = false then 16 else if whole = false then 8 else bdB rd n gen whole N
theorem look_one (s : ByteArray) : lookR s = true → lookB s = false := fun h => by
  have := of_decide_eq_true h
  exact decide_eq_false this.1
variable {B p : Nat} {S : DS} {F : Nat → Prop} {W : World}
set_option maxHeartbeats 8000000 in
theorem sound_calls (h : DK B p S F W) (n gen : Nat) (whole : Bool) (hn : n ≤ 4096) (hN : S.lasts.length ≤ 900) (hsz : ∀ j, (S.read.getD j ByteArray.empty).size ≤ 1000) :
    Calls Tryd.prog 77 #[.pointer (some ⟨p, 0, none⟩), .int .i64 (n : Nat), .int .u64 (gen : Nat), .bool whole] W fun e W' =>
      e = .returned (.int .i64 (soundS S.read n gen whole S.lasts.length)) ∧ Below W.heap.size W W' := by
  have KS := Aside0.mk (size_calls h)
  have HD := Aside0.mk h
  have HSZ := Aside0.mk hsz
  obtain ⟨N, hNN⟩ : ∃ N, S.lasts.length = N := ⟨_, rfl⟩
  obtain ⟨Q, hQ⟩ : ∃ Q, soundS S.read n gen whole S.lasts.length = Q := ⟨_, rfl⟩
  rw [hQ]
  rw [hNN] at hQ KS hN
  have HQ := Aside0.mk hQ
  have HNN := Aside0.mk hNN
  have H0 := Aside0.mk (show Below W.heap.size W W ∧ wrB S.read 0 = false ∧ bdB S.read n gen whole 0 = 0 from ⟨Below.refl _ _, rfl, rfl⟩)
  clear h hsz hQ hNN
  go_enter Tryd.func77, Tryd.ntmps77
  go_wp2_with fail
  refine KS.out.mono ?_
  rintro e w1 ⟨rfl, rfl⟩
  clear KS
  go_wp2_with fail
  go_loopw [9, 10, 17] (fun wv bv iv V => ∃ (i : Nat) (wr : Bool) (bd : Int), wv = .bool wr ∧ bv = .int .i64 bd ∧ iv = .int .i64 i ∧ i ≤ N ∧ Aside0 (Below W.heap.size W V ∧ wrB S.read i = wr ∧ bdB S.read n gen whole i = bd)) (fun _ _ iv _ => N - (intOf iv).toNat)
  case atStart => exact ⟨0, false, 0, rfl, rfl, rfl, by omega, H0⟩
  case round =>
    obtain ⟨i, wr, bd, rfl, rfl, rfl, hi, HS⟩ := hrel
    clear H0
    by_cases hlt : i < N
    · have hi1 : (i : Int) < (N : Int) := by omega
      have KL := look_calls (HD.out.below HS.out.1) i (by rw [HNN.out]; exact hlt) (by rw [HNN.out]; omega) HSZ.out
      obtain ⟨s, hs⟩ : ∃ s, S.read.getD i ByteArray.empty = s := ⟨_, rfl⟩
      have hw1 : wrB S.read (i + 1) = (wrB S.read i || !lookB (S.read.getD i ByteArray.empty)) := rfl
      have hb1 : bdB S.read n gen whole (i + 1) = if badX (lookR (S.read.getD i ByteArray.empty)) whole n i (lookB (S.read.getD i ByteArray.empty)) (openS (S.read.getD i ByteArray.empty)).1.k (openS (S.read.getD i ByteArray.empty)).1.g gen = true then 8 else bdB S.read n gen whole i := rfl
      rw [hs] at KL hw1 hb1
      have hll := look_one s
      obtain ⟨r, hr⟩ : ∃ r, (openS s).1 = r := ⟨_, rfl⟩
      obtain ⟨bl, hbl⟩ : ∃ b, lookB s = b := ⟨_, rfl⟩
      obtain ⟨rt, hrt⟩ : ∃ b, lookR s = b := ⟨_, rfl⟩
      rw [hr, hbl, hrt] at KL
      rw [hbl, HS.out.2.1] at hw1
      rw [hr, hbl, hrt, HS.out.2.2] at hb1
      rw [hbl, hrt] at hll
      have HW := Aside0.mk hw1
      have HBD := Aside0.mk hb1
      have HLL := Aside0.mk (And.intro hll trivial)
      have K := Aside0.mk KL
      have H := Aside0.mk HS.out.1
      have HI := Aside0.mk (show (Tryd.prog.info? 64).map (·.size) = some (recV r).size from Sl.infoR)
      have hone := recV_one r
      clear KL hw1 hb1 hll hr hbl hrt hs HS
      go_wp2_with fail
      refine K.out.mono ?_
      rintro e V2 ⟨rfl, hb⟩
      obtain ⟨hb2, z1, z0⟩ := box_new (V := V2) zRec (recV r) 64
      have HB := Aside0.mk (H.out.trans ((hb.trans (hb2.mono hb.size)).mono H.out.size))
      have c0 : ((V2.alloc (.cells zRec 64)).setRow V2.heap.size (recV r)).cell? ⟨V2.heap.size, 0, none⟩ = some (.int .u8 (r.k : Nat)) := cell_of_row _ _ 0 _ _ _ z1
      have c1 : ((V2.alloc (.cells zRec 64)).setRow V2.heap.size (recV r)).cell? ⟨V2.heap.size, 1, none⟩ = some (.int .u64 (r.g : Nat)) := cell_of_row _ _ 1 _ _ _ z1
      clear hb hb2 z1 H K
      cases wr with
      | true =>
        cases rt with
        | true =>
          obtain rfl : bl = false := HLL.out.1 rfl
          have hbx : badX true whole n i false r.k r.g gen = true := by simp [badX] <;> omega
          have HN := Aside0.mk (show wrB S.read (i + 1) = true ∧ bdB S.read n gen whole (i + 1) = 8 from ⟨HW.out, HBD.out.trans (by rw [if_pos hbx])⟩)
          clear hbx HW HBD
          go_wp2_with (first | refine wpList_store_row rfl 64 _ _ rfl V2.heap.size (recV r) rfl rfl 64 _ z0 HI.out rfl hone ?_ | fail)
          go_roundw
          case rel => exact ⟨i + 1, true, 8, rfl, rfl, by go_num, by omega, ⟨HB.out, HN.out.1, HN.out.2⟩⟩
          case measure => simp [intOf]; omega
        | false =>
          cases bl with
          | true =>
            cases whole with
            | false =>
              have hbx : badX false false n i true r.k r.g gen = false := by simp [badX] <;> omega
              have HN := Aside0.mk (show wrB S.read (i + 1) = true ∧ bdB S.read n gen false (i + 1) = bd from ⟨HW.out, HBD.out.trans (by rw [if_neg (by rw [hbx]; decide)])⟩)
              clear hbx HW HBD
              go_wp2_with (first | refine wpList_store_row rfl 64 _ _ rfl V2.heap.size (recV r) rfl rfl 64 _ z0 HI.out rfl hone ?_ | fail)
              go_roundw
              case rel => exact ⟨i + 1, true, bd, rfl, rfl, by go_num, by omega, ⟨HB.out, HN.out.1, HN.out.2⟩⟩
              case measure => simp [intOf]; omega
            | true =>
              by_cases h2n : 2 * n ≤ i
              · have hbx : badX false true n i true r.k r.g gen = false := by simp [badX] <;> omega
                have HN := Aside0.mk (show wrB S.read (i + 1) = true ∧ bdB S.read n gen true (i + 1) = bd from ⟨HW.out, HBD.out.trans (by rw [if_neg (by rw [hbx]; decide)])⟩)
                clear hbx HW HBD
                have e2 : decide (2 * (n : Int) ≤ (i : Int)) = true := decide_eq_true (by omega)
                clear h2n
                go_wp2_with (first | refine wpList_store_row rfl 64 _ _ rfl V2.heap.size (recV r) rfl rfl 64 _ z0 HI.out rfl hone ?_ | fail)
                go_roundw
                case rel => exact ⟨i + 1, true, bd, rfl, rfl, by go_num, by omega, ⟨HB.out, HN.out.1, HN.out.2⟩⟩
                case measure => simp [intOf]; omega
              · have hbx : badX false true n i true r.k r.g gen = false := by simp [badX] <;> omega
                have HN := Aside0.mk (show wrB S.read (i + 1) = true ∧ bdB S.read n gen true (i + 1) = bd from ⟨HW.out, HBD.out.trans (by rw [if_neg (by rw [hbx]; decide)])⟩)
                clear hbx HW HBD
                have e2 : decide (2 * (n : Int) ≤ (i : Int)) = false := decide_eq_false (by omega)
                clear h2n
                go_wp2_with (first | refine wpList_store_row rfl 64 _ _ rfl V2.heap.size (recV r) rfl rfl 64 _ z0 HI.out rfl hone ?_ | fail)
                go_roundw
                case rel => exact ⟨i + 1, true, bd, rfl, rfl, by go_num, by omega, ⟨HB.out, HN.out.1, HN.out.2⟩⟩
                case measure => simp [intOf]; omega
          | false =>
            cases whole with
            | false =>
              have hbx : badX false false n i false r.k r.g gen = false := by simp [badX] <;> omega
              have HN := Aside0.mk (show wrB S.read (i + 1) = true ∧ bdB S.read n gen false (i + 1) = bd from ⟨HW.out, HBD.out.trans (by rw [if_neg (by rw [hbx]; decide)])⟩)
              clear hbx HW HBD
              go_wp2_with (first | refine wpList_store_row rfl 64 _ _ rfl V2.heap.size (recV r) rfl rfl 64 _ z0 HI.out rfl hone ?_ | fail)
              go_roundw
              case rel => exact ⟨i + 1, true, bd, rfl, rfl, by go_num, by omega, ⟨HB.out, HN.out.1, HN.out.2⟩⟩
              case measure => simp [intOf]; omega
            | true =>
              by_cases h2n : 2 * n ≤ i
              rotate_left
              · have hbx : badX false true n i false r.k r.g gen = false := by simp [badX] <;> omega
                have HN := Aside0.mk (show wrB S.read (i + 1) = true ∧ bdB S.read n gen true (i + 1) = bd from ⟨HW.out, HBD.out.trans (by rw [if_neg (by rw [hbx]; decide)])⟩)
                clear hbx HW HBD
                have e2 : decide (2 * (n : Int) ≤ (i : Int)) = false := decide_eq_false (by omega)
                clear h2n
                go_wp2_with (first | refine wpList_store_row rfl 64 _ _ rfl V2.heap.size (recV r) rfl rfl 64 _ z0 HI.out rfl hone ?_ | fail)
                go_roundw
                case rel => exact ⟨i + 1, true, bd, rfl, rfl, by go_num, by omega, ⟨HB.out, HN.out.1, HN.out.2⟩⟩
                case measure => simp [intOf]; omega
              by_cases hk : r.k = 1
              rotate_left
              · have hbx : badX false true n i false r.k r.g gen = false := by simp [badX] <;> omega
                have HN := Aside0.mk (show wrB S.read (i + 1) = true ∧ bdB S.read n gen true (i + 1) = bd from ⟨HW.out, HBD.out.trans (by rw [if_neg (by rw [hbx]; decide)])⟩)
                clear hbx HW HBD
                have e2 : decide (2 * (n : Int) ≤ (i : Int)) = true := decide_eq_true (by omega)
                have e3 : ((r.k : Int) == 1) = false := by simp; omega
                clear hk h2n
                go_wp2_with (first | refine wpList_store_row rfl 64 _ _ rfl V2.heap.size (recV r) rfl rfl 64 _ z0 HI.out rfl hone ?_ | fail)
                go_roundw
                case rel => exact ⟨i + 1, true, bd, rfl, rfl, by go_num, by omega, ⟨HB.out, HN.out.1, HN.out.2⟩⟩
                case measure => simp [intOf]; omega
              by_cases hg : gen < r.g
              rotate_left
              · have hbx : badX false true n i false r.k r.g gen = false := by simp [badX] <;> omega
                have HN := Aside0.mk (show wrB S.read (i + 1) = true ∧ bdB S.read n gen true (i + 1) = bd from ⟨HW.out, HBD.out.trans (by rw [if_neg (by rw [hbx]; decide)])⟩)
                clear hbx HW HBD
                have e2 : decide (2 * (n : Int) ≤ (i : Int)) = true := decide_eq_true (by omega)
                have e3 : ((r.k : Int) == 1) = true := by simp; omega
                have e4 : decide ((gen : Int) < (r.g : Int)) = false := decide_eq_false (by omega)
                have e4' : decide (gen < r.g) = false := decide_eq_false (by omega)
                clear hk hg h2n
                go_wp2_with (first | refine wpList_store_row rfl 64 _ _ rfl V2.heap.size (recV r) rfl rfl 64 _ z0 HI.out rfl hone ?_ | fail)
                go_roundw
                case rel => exact ⟨i + 1, true, bd, rfl, rfl, by go_num, by omega, ⟨HB.out, HN.out.1, HN.out.2⟩⟩
                case measure => simp [intOf]; omega
              have hbx : badX false true n i false r.k r.g gen = true := by simp [badX] <;> omega
              have HN := Aside0.mk (show wrB S.read (i + 1) = true ∧ bdB S.read n gen true (i + 1) = 8 from ⟨HW.out, HBD.out.trans (by rw [if_pos hbx])⟩)
              clear hbx HW HBD
              have e2 : decide (2 * (n : Int) ≤ (i : Int)) = true := decide_eq_true (by omega)
              have e3 : ((r.k : Int) == 1) = true := by simp; omega
              have e4 : decide ((gen : Int) < (r.g : Int)) = true := decide_eq_true (by omega)
              have e4' : decide (gen < r.g) = true := decide_eq_true (by omega)
              clear hk hg h2n
              go_wp2_with (first | refine wpList_store_row rfl 64 _ _ rfl V2.heap.size (recV r) rfl rfl 64 _ z0 HI.out rfl hone ?_ | fail)
              go_roundw
              case rel => exact ⟨i + 1, true, 8, rfl, rfl, by go_num, by omega, ⟨HB.out, HN.out.1, HN.out.2⟩⟩
              case measure => simp [intOf]; omega
      | false =>
        cases rt with
        | true =>
          obtain rfl : bl = false := HLL.out.1 rfl
          have hbx : badX true whole n i false r.k r.g gen = true := by simp [badX] <;> omega
          have HN := Aside0.mk (show wrB S.read (i + 1) = true ∧ bdB S.read n gen whole (i + 1) = 8 from ⟨HW.out, HBD.out.trans (by rw [if_pos hbx])⟩)
          clear hbx HW HBD
          go_wp2_with (first | refine wpList_store_row rfl 64 _ _ rfl V2.heap.size (recV r) rfl rfl 64 _ z0 HI.out rfl hone ?_ | fail)
          go_roundw
          case rel => exact ⟨i + 1, true, 8, rfl, rfl, by go_num, by omega, ⟨HB.out, HN.out.1, HN.out.2⟩⟩
          case measure => simp [intOf]; omega
        | false =>
          cases bl with
          | true =>
            cases whole with
            | false =>
              have hbx : badX false false n i true r.k r.g gen = false := by simp [badX] <;> omega
              have HN := Aside0.mk (show wrB S.read (i + 1) = false ∧ bdB S.read n gen false (i + 1) = bd from ⟨HW.out, HBD.out.trans (by rw [if_neg (by rw [hbx]; decide)])⟩)
              clear hbx HW HBD
              go_wp2_with (first | refine wpList_store_row rfl 64 _ _ rfl V2.heap.size (recV r) rfl rfl 64 _ z0 HI.out rfl hone ?_ | fail)
              go_roundw
              case rel => exact ⟨i + 1, false, bd, rfl, rfl, by go_num, by omega, ⟨HB.out, HN.out.1, HN.out.2⟩⟩
              case measure => simp [intOf]; omega
            | true =>
              by_cases h2n : 2 * n ≤ i
              · have hbx : badX false true n i true r.k r.g gen = false := by simp [badX] <;> omega
                have HN := Aside0.mk (show wrB S.read (i + 1) = false ∧ bdB S.read n gen true (i + 1) = bd from ⟨HW.out, HBD.out.trans (by rw [if_neg (by rw [hbx]; decide)])⟩)
                clear hbx HW HBD
                have e2 : decide (2 * (n : Int) ≤ (i : Int)) = true := decide_eq_true (by omega)
                clear h2n
                go_wp2_with (first | refine wpList_store_row rfl 64 _ _ rfl V2.heap.size (recV r) rfl rfl 64 _ z0 HI.out rfl hone ?_ | fail)
                go_roundw
                case rel => exact ⟨i + 1, false, bd, rfl, rfl, by go_num, by omega, ⟨HB.out, HN.out.1, HN.out.2⟩⟩
                case measure => simp [intOf]; omega
              · have hbx : badX false true n i true r.k r.g gen = false := by simp [badX] <;> omega
                have HN := Aside0.mk (show wrB S.read (i + 1) = false ∧ bdB S.read n gen true (i + 1) = bd from ⟨HW.out, HBD.out.trans (by rw [if_neg (by rw [hbx]; decide)])⟩)
                clear hbx HW HBD
                have e2 : decide (2 * (n : Int) ≤ (i : Int)) = false := decide_eq_false (by omega)
                clear h2n
                go_wp2_with (first | refine wpList_store_row rfl 64 _ _ rfl V2.heap.size (recV r) rfl rfl 64 _ z0 HI.out rfl hone ?_ | fail)
                go_roundw
                case rel => exact ⟨i + 1, false, bd, rfl, rfl, by go_num, by omega, ⟨HB.out, HN.out.1, HN.out.2⟩⟩
                case measure => simp [intOf]; omega
          | false =>
            cases whole with
            | false =>
              have hbx : badX false false n i false r.k r.g gen = false := by simp [badX] <;> omega
              have HN := Aside0.mk (show wrB S.read (i + 1) = true ∧ bdB S.read n gen false (i + 1) = bd from ⟨HW.out, HBD.out.trans (by rw [if_neg (by rw [hbx]; decide)])⟩)
              clear hbx HW HBD
              go_wp2_with (first | refine wpList_store_row rfl 64 _ _ rfl V2.heap.size (recV r) rfl rfl 64 _ z0 HI.out rfl hone ?_ | fail)
              go_roundw
              case rel => exact ⟨i + 1, true, bd, rfl, rfl, by go_num, by omega, ⟨HB.out, HN.out.1, HN.out.2⟩⟩
              case measure => simp [intOf]; omega
            | true =>
              by_cases h2n : 2 * n ≤ i
              rotate_left
              · have hbx : badX false true n i false r.k r.g gen = false := by simp [badX] <;> omega
                have HN := Aside0.mk (show wrB S.read (i + 1) = true ∧ bdB S.read n gen true (i + 1) = bd from ⟨HW.out, HBD.out.trans (by rw [if_neg (by rw [hbx]; decide)])⟩)
                clear hbx HW HBD
                have e2 : decide (2 * (n : Int) ≤ (i : Int)) = false := decide_eq_false (by omega)
                clear h2n
                go_wp2_with (first | refine wpList_store_row rfl 64 _ _ rfl V2.heap.size (recV r) rfl rfl 64 _ z0 HI.out rfl hone ?_ | fail)
                go_roundw
                case rel => exact ⟨i + 1, true, bd, rfl, rfl, by go_num, by omega, ⟨HB.out, HN.out.1, HN.out.2⟩⟩
                case measure => simp [intOf]; omega
              by_cases hk : r.k = 1
              rotate_left
              · have hbx : badX false true n i false r.k r.g gen = false := by simp [badX] <;> omega
                have HN := Aside0.mk (show wrB S.read (i + 1) = true ∧ bdB S.read n gen true (i + 1) = bd from ⟨HW.out, HBD.out.trans (by rw [if_neg (by rw [hbx]; decide)])⟩)
                clear hbx HW HBD
                have e2 : decide (2 * (n : Int) ≤ (i : Int)) = true := decide_eq_true (by omega)
                have e3 : ((r.k : Int) == 1) = false := by simp; omega
                clear hk h2n
                go_wp2_with (first | refine wpList_store_row rfl 64 _ _ rfl V2.heap.size (recV r) rfl rfl 64 _ z0 HI.out rfl hone ?_ | fail)
                go_roundw
                case rel => exact ⟨i + 1, true, bd, rfl, rfl, by go_num, by omega, ⟨HB.out, HN.out.1, HN.out.2⟩⟩
                case measure => simp [intOf]; omega
              by_cases hg : gen < r.g
              rotate_left
              · have hbx : badX false true n i false r.k r.g gen = false := by simp [badX] <;> omega
                have HN := Aside0.mk (show wrB S.read (i + 1) = true ∧ bdB S.read n gen true (i + 1) = bd from ⟨HW.out, HBD.out.trans (by rw [if_neg (by rw [hbx]; decide)])⟩)
                clear hbx HW HBD
                have e2 : decide (2 * (n : Int) ≤ (i : Int)) = true := decide_eq_true (by omega)
                have e3 : ((r.k : Int) == 1) = true := by simp; omega
                have e4 : decide ((gen : Int) < (r.g : Int)) = false := decide_eq_false (by omega)
                have e4' : decide (gen < r.g) = false := decide_eq_false (by omega)
                clear hk hg h2n
                go_wp2_with (first | refine wpList_store_row rfl 64 _ _ rfl V2.heap.size (recV r) rfl rfl 64 _ z0 HI.out rfl hone ?_ | fail)
                go_roundw
                case rel => exact ⟨i + 1, true, bd, rfl, rfl, by go_num, by omega, ⟨HB.out, HN.out.1, HN.out.2⟩⟩
                case measure => simp [intOf]; omega
              have hbx : badX false true n i false r.k r.g gen = true := by simp [badX] <;> omega
              have HN := Aside0.mk (show wrB S.read (i + 1) = true ∧ bdB S.read n gen true (i + 1) = 8 from ⟨HW.out, HBD.out.trans (by rw [if_pos hbx])⟩)
              clear hbx HW HBD
              have e2 : decide (2 * (n : Int) ≤ (i : Int)) = true := decide_eq_true (by omega)
              have e3 : ((r.k : Int) == 1) = true := by simp; omega
              have e4 : decide ((gen : Int) < (r.g : Int)) = true := decide_eq_true (by omega)
              have e4' : decide (gen < r.g) = true := decide_eq_true (by omega)
              clear hk hg h2n
              go_wp2_with (first | refine wpList_store_row rfl 64 _ _ rfl V2.heap.size (recV r) rfl rfl 64 _ z0 HI.out rfl hone ?_ | fail)
              go_roundw
              case rel => exact ⟨i + 1, true, 8, rfl, rfl, by go_num, by omega, ⟨HB.out, HN.out.1, HN.out.2⟩⟩
              case measure => simp [intOf]; omega

    · obtain rfl : i = N := by omega
      have hQ := HQ.out
      unfold soundS at hQ
      rw [HS.out.2.1, HS.out.2.2] at hQ
      have H := Aside0.mk HS.out.1
      clear HS HQ
      cases wr with
      | false =>
        obtain rfl : Q = 16 := hQ.symm.trans (if_pos rfl)
        go_wp2
        go_ret
        exact ⟨rfl, H.out⟩
      | true =>
        rw [if_neg (by decide)] at hQ
        cases whole with
        | false =>
          obtain rfl : Q = 8 := hQ.symm.trans (if_pos rfl)
          go_wp2
          go_ret
          exact ⟨rfl, H.out⟩
        | true =>
          obtain rfl : Q = bd := hQ.symm.trans (if_neg (by decide))
          go_wp2
          go_ret
          exact ⟨rfl, H.out⟩
end Go.Proofs.YtknbhgodhmcemaaDoor.Va
namespace Go.Proofs.YtknbhgodhmcemaaDoor.Va
set_option linter.unusedSimpArgs false
set_option linter.unusedVariables false
set_option maxRecDepth 100000
open Go.RowKit Go.Shelf Go.Proofs.YtknbhgodhmcemaaDoor.Own Go.Proofs.YtknbhgodhmcemaaDoor.Cel Go.Proofs.YtknbhgodhmcemaaDoor.Dk
open Go.Proofs.YtknbhgodhmcemaaDoor.Sl (Rec openS open_calls recV recV_one)
open Go.Proofs.YtknbhgodhmcemaaDoor.Lg (DY DY.start DY.step Full box_new getD_size)
open Go.Proofs.YtknbhgodhmcemaaDoor.So (summedL np psec np_size)
variable {w V : World} {p : Nat} {S : DS} {X : List (Nat × Obj)} {v : Value} {xs : List ByteArray}
theorem DY.look (h : DY w p S X v xs V) (i : Nat) (hi : i < S.lasts.length) (hN : S.lasts.length ≤ 4096) (hF : Full S) :
    Calls Tryd.prog 75 #[.pointer (some ⟨p, 0, none⟩), .int .i64 (i : Nat)] V fun e V' =>
      e = .returned (.tuple #[.agg (recV (openS (S.read.getD i ByteArray.empty)).1), .bool (lookB (S.read.getD i ByteArray.empty)), .bool (lookR (S.read.getD i ByteArray.empty))]) ∧ Below V.heap.size V V' := by
  obtain ⟨F, d⟩ := h.dk
  exact look_calls d i hi hN (getD_size _ 1000 (fun s hs => by rw [hF.read s hs]; omega))
theorem DY.vmay (h : DY w p S X v xs V) (n : Nat) (hn : 1 ≤ n) (hl : 2 * n < S.lasts.length) (hN : S.lasts.length ≤ 4096) :
    Calls Tryd.prog 74 #[.pointer (some ⟨p, 0, none⟩), .int .i64 (n : Nat)] V fun e W' => e = .returned (.bool true) ∧ V = W' := by
  obtain ⟨F, d⟩ := h.dk
  exact may_calls d n hn hl hN
theorem DY.size (h : DY w p S X v xs V) :
    Calls Tryd.prog 68 #[.pointer (some ⟨p, 0, none⟩)] V fun e V' => e = .returned (.int .i64 (S.lasts.length : Nat)) ∧ V = V' := by
  obtain ⟨F, d⟩ := h.dk
  exact size_calls d
structure Made (S S2 : DS) (N k g : Nat) (fr : Nat) (t : ByteArray) : Prop where
  calm : So.Calm S2 N k
  waits : S2.waits = []
  text : ∀ j, j < np (summedL t.data.toList).length → S2.read.getD (fr + j) ByteArray.empty = psec g (summedL t.data.toList) j
  rest : ∀ q, ¬ (fr ≤ q ∧ q < fr + np (summedL t.data.toList).length) → S2.read.getD q ByteArray.empty = S.read.getD q ByteArray.empty
set_option maxHeartbeats 4000000 in
theorem format_calls {N k : Nat} (h : DY w p S X v xs V) (n : Nat) (t : ByteArray) (c : So.Calm S N (k + 1 + np (summedL t.data.toList).length)) (hn : 1 ≤ n) (hl : 2 * n < N) (hN : N ≤ 900) (hfit : t.size + 4 ≤ 110 * n) (hb : ∀ i, i < N → lookB (S.read.getD i ByteArray.empty) = true) :
    ∃ S2, Made S S2 N k 1 0 t ∧ Calls Tryd.prog 34 #[.pointer (some ⟨p, 0, none⟩), .int .i64 (n : Nat), .string t] V fun e V' => e = .returned (.int .i64 0) ∧ DY w p S2 X v xs V' := by
  have hlen := c.ok.len
  have hnp := np_size t
  obtain ⟨S1, e1, c1, r1, o1⟩ := c.write 0 1 (by omega)
  obtain ⟨S2, e2, c2, r2, w2⟩ := c1.sync
  refine ⟨S2, ⟨c2, w2, fun j hj => (congrArg (fun l => l.getD (0 + j) ByteArray.empty) r2).trans (r1 j hj), fun q hq => (congrArg (fun l => l.getD q ByteArray.empty) r2).trans (o1 q hq)⟩, ?_⟩
  have KM := Aside0.mk (DY.vmay h n hn (by omega) (by omega))
  have HS := Aside0.mk h
  have HC := Aside0.mk c
  have HC1 := Aside0.mk c1
  have HLB := Aside0.mk hb
  have E1 := Aside0.mk e1
  have E2 := Aside0.mk e2
  have HL := Aside0.mk hlen
  have HF := Aside0.mk hfit
  clear h c c1 c2 hb e1 e2 r1 o1 r2 w2 hlen hfit hnp
  go_enter Tryd.func34, Tryd.ntmps34
  go_wp2_with fail
  refine KM.out.mono ?_
  rintro e w1 ⟨rfl, rfl⟩
  clear KM
  go_wp2_with fail
  have KS := DY.size HS.out
  rw [HL.out] at KS
  refine KS.mono ?_
  rintro e w1 ⟨rfl, rfl⟩
  clear KS
  go_wp2_with fail
  go_loopw [18] (fun iv W => ∃ (i : Nat), iv = .int .i64 i ∧ i ≤ N ∧ Aside0 (DY w p S X v xs W)) (fun iv _ => N - (intOf iv).toNat)
  case atStart => exact ⟨0, rfl, by omega, HS⟩
  case round =>
    obtain ⟨i, rfl, hi, H⟩ := hrel
    clear HS
    by_cases hlt : i < N
    · have hi1 : (i : Int) < (N : Int) := by omega
      have KL := DY.look H.out i (by rw [HL.out]; exact hlt) (by rw [HL.out]; omega) HC.out.full
      obtain ⟨rt, hrt⟩ : ∃ b, lookR (S.read.getD i ByteArray.empty) = b := ⟨_, rfl⟩
      obtain ⟨r, hr⟩ : ∃ r, (openS (S.read.getD i ByteArray.empty)).1 = r := ⟨_, rfl⟩
      rw [HLB.out i hlt, hrt, hr] at KL
      have K := Aside0.mk KL
      have HI := Aside0.mk (show (Tryd.prog.info? 64).map (·.size) = some (recV r).size from Sl.infoR)
      have hone := recV_one r
      clear KL hrt hr
      go_wp2_with fail
      refine K.out.mono ?_
      rintro e V2 ⟨rfl, hb⟩
      obtain ⟨hb2, z1, z0⟩ := box_new (V := V2) zRec (recV r) 64
      replace H := Aside0.mk ((H.out.step hb).step hb2)
      clear hb hb2 z1 K
      go_wp2_with (first | refine wpList_store_row rfl 64 _ _ rfl V2.heap.size (recV r) rfl rfl 64 _ z0 HI.out rfl hone ?_ | fail)
      go_roundw
      case rel => exact ⟨i + 1, by go_num, by omega, H⟩
      case measure => simp [intOf]; omega
    · obtain rfl : i = N := by omega
      have K1 := So.DY.swrite H.out 0 n 1 t hn (by rw [HL.out]; omega) (by rw [HL.out]; omega) (by decide) (by have := HF.out; omega) HF.out (by rw [HL.out]; exact (HC.out.mono (by omega)).ok)
      rw [E1.out] at K1
      have K1' := Aside0.mk K1
      clear K1
      go_wp2_with fail
      refine K1'.out.mono ?_
      rintro e V2 ⟨rfl, h2⟩
      replace H := Aside0.mk h2
      clear K1' h2
      have K2 := So.DY.dsync H.out HC1.out.ok.ok (by have := HC1.out.ok.arm; omega) (by have := HC1.out.ok.waits; omega) HC1.out.ok.ops0 (by have := HC1.out.ok.ops; omega)
      rw [E2.out] at K2
      have K2' := Aside0.mk K2
      clear K2
      go_wp2_with fail
      refine K2'.out.mono ?_
      rintro e V3 ⟨rfl, h3⟩
      replace H := Aside0.mk h3
      clear K2' h3
      go_wp2
      go_ret
      exact ⟨rfl, H.out⟩
end Go.Proofs.YtknbhgodhmcemaaDoor.Va
namespace Go.Proofs.YtknbhgodhmcemaaDoor.Va
set_option linter.unusedSimpArgs false
set_option linter.unusedVariables false
set_option maxRecDepth 100000
open Go.RowKit Go.Shelf Go.Proofs.YtknbhgodhmcemaaDoor.Own Go.Proofs.YtknbhgodhmcemaaDoor.Cel Go.Proofs.YtknbhgodhmcemaaDoor.Dk Go.Proofs.YtknbhgodhmcemaaDoor.Seg
open Go.Proofs.YtknbhgodhmcemaaDoor.Lg (DY DY.start DY.step DY.append Full box_new getD_size appS logV zLog)
def vaultV (n sl fr room g nx : Nat) (st : Bool) : Array Value := #[.int .i64 (n : Nat), .int .i64 (sl : Nat), .int .i64 (fr : Nat), .int .i64 (room : Nat), .int .u64 (g : Nat), .int .i64 (nx : Nat), .bool st]
abbrev zVault : Array Value := #[.int .i64 0, .int .i64 0, .int .i64 0, .int .i64 0, .int .u64 0, .int .i64 0, .bool false]
theorem infoV (n sl fr room g nx : Nat) (st : Bool) : (Tryd.prog.info? 74).map (·.size) = some (vaultV n sl fr room g nx st).size := by
  show _ = some 7
  kernel_rfl
theorem vaultV_one (n sl fr room g nx : Nat) (st : Bool) : (vaultV n sl fr room g nx st).all (·.oneCell') = true := by simp [vaultV, Value.oneCell']
theorem store_seg {P : Program} {ops : Array Oper} {rest : List Oper} {o : Oper} {a : Act} {w : World} {Q : Exit → Act → World → Prop} (hgd : o.guard = none) (ty : TypeId) (x y : Operand) (ho : o.op = .store ty x y)
    (g k : Nat) (cells : Array Value) (hx : a.eval x = .pointer (some ⟨g, k, none⟩)) (hy : a.eval y = .agg cells)
    (t : TypeId) (cur : Array Value) (hg : w.heap[g]? = some (.cells cur t (0, 0))) (hi : (P.info? ty).map (·.size) = some cells.size)
    (hold : k + cells.size ≤ cur.size) (h1 : cells.all (·.oneCell') = true) (cs : Array Value) (hc : spl cur k cells.toList = cs)
    (h : wpList P ops Q rest (a.put o.dst undef) (w.setRow g cs)) : wpList P ops Q (o :: rest) a w := by
  subst hc
  exact wpList_store_seg hgd ty x y ho g k cells hx hy t cur hg hi hold h1 h
variable {w V : World} {p : Nat} {S : DS} {X : List (Nat × Obj)} {v : Value} {xs : List ByteArray}
theorem boxes (h : DY w p S X v xs V) (a b : Array Value) (t : TypeId) :
    DY w p S ((V.heap.size + 1, .cells b t (0, 0)) :: (V.heap.size, .cells a t (0, 0)) :: X) v xs ((V.alloc (.cells a t)).alloc (.cells b t)) := by
  have h1 := h.add ((Below.refl V.heap.size V).alloc (Nat.le_refl _) (.cells a t)) (Nat.le_refl _) (heap_alloc_new V (.cells a t))
  have z := heap_alloc_new (V.alloc (.cells a t)) (.cells b t)
  have e : (V.alloc (.cells a t)).heap.size = V.heap.size + 1 := by simp
  have h2 := h1.add ((Below.refl (V.alloc (.cells a t)).heap.size (V.alloc (.cells a t))).alloc (Nat.le_refl _) (.cells b t)) (Nat.le_refl _) z
  rw [e] at h2
  exact h2
theorem lt_of (h : DY w p S X v xs V) : ∀ x ∈ X, x.1 < V.heap.size := fun x hx => (Array.getElem?_eq_some_iff.1 (h.at (b := x.1) (o := x.2) hx)).1
set_option maxHeartbeats 4000000 in
theorem append_calls (h : DY w p S X v xs V) (n sl fr room g nx : Nat) (d : ByteArray) (hr : 1 ≤ room) (hl : fr + room ≤ S.lasts.length) (hN : S.lasts.length ≤ 1000000) (hnx : nx ≤ room) (hg : g < 18446744073709551616)
    (hok : S.ok) (ha : S.armed ≤ 9223372036854775807) (hn : S.waits.length ≤ 999999) (ho0 : 0 ≤ S.ops) (ho : S.ops ≤ 4611686018427387903) :
    Calls Tryd.prog 36 #[.agg (vaultV n sl fr room g nx false), .pointer (some ⟨p, 0, none⟩), .string d] V fun e V' =>
      e = .returned (.tuple #[.agg (vaultV n sl fr room g (appS S fr room g nx d).2.1 false), .int .i64 (appS S fr room g nx d).2.2]) ∧ DY w p (appS S fr room g nx d).1 X v xs V' := by
  have hlt := lt_of h
  have hw := h.bel.size
  have h2 := boxes h (vaultV n sl fr room g nx false) zVault 74
  have KA := Aside0.mk (DY.append h2 fr room g nx d hr hl hN hnx hg hok ha hn ho0 ho)
  have z3 := h2.at (b := V.heap.size) (List.mem_cons_of_mem _ List.mem_cons_self)
  obtain ⟨⟨S', nx', q⟩, hA⟩ : ∃ R, appS S fr room g nx d = R := ⟨_, rfl⟩
  rw [hA] at KA ⊢
  dsimp only at KA ⊢
  have HLT := Aside0.mk (And.intro hlt hw)
  clear h h2 hA hok ha hn ho0 ho hlt hw hl hN
  have c36 : ((V.alloc (.cells (vaultV n sl fr room g nx false) 74)).alloc (.cells zVault 74)).cell? ⟨V.heap.size, 6, none⟩ = some (.bool false) := cell_of_row _ _ 6 _ _ _ z3
  have iL : (Tryd.prog.info? 31).map (·.size) = some (logV fr room g nx).toList.length := Lg.infoL
  have iL' : (Tryd.prog.info? 31).map (·.size) = some (logV fr room g nx').size := Lg.infoL
  have iV := infoV n sl fr room g nx' false
  have oV := vaultV_one n sl fr room g nx' false
  have oL := Lg.logV_one fr room g nx'
  have hseg : ∀ j u, (logV fr room g nx).toList[j]? = some u → (vaultV n sl fr room g nx false)[2 + j]? = some u := fun j u hj => by
    rcases j with _ | _ | _ | _ | j
    · exact hj
    · exact hj
    · exact hj
    · exact hj
    · simp [logV] at hj
  go_enter Tryd.func36, Tryd.ntmps36
  go_wp2_with (first | refine wpList_load_seg rfl 31 _ rfl V.heap.size 2 rfl 74 _ (0, 0) (logV fr room g nx).toList _ z3 hseg Tryd.underlying31 rfl iL ?_ | fail)
  refine KA.out.mono ?_
  rintro e V3 ⟨rfl, h3⟩
  clear KA c36 z3
  have s3 : V.heap.size < V3.heap.size := lt_of h3 _ (List.mem_cons_of_mem _ List.mem_cons_self)
  have s4 : V.heap.size + 1 < V3.heap.size := lt_of h3 _ List.mem_cons_self
  obtain ⟨hb, z8, z8z⟩ := box_new (V := V3) zLog (logV fr room g nx') 31
  have h4 := (h3.step hb).sub (Y := (V.heap.size, .cells (vaultV n sl fr room g nx false) 74 (0, 0)) :: (V.heap.size + 1, .cells zVault 74 (0, 0)) :: X) (fun x hx => by simp only [List.mem_cons] at hx ⊢; rcases hx with h | h | h <;> simp [h])
  have z3 := h4.at List.mem_cons_self
  have h5 := h4.row HLT.out.2 (vaultV n sl fr room g nx' false) (fun x hx => by
    rcases List.mem_cons.1 hx with rfl | hx
    · show V.heap.size + 1 ≠ V.heap.size; omega
    · have := HLT.out.1 x hx; omega)
  have z3b := h5.at List.mem_cons_self
  have z6 := h5.at (b := V.heap.size + 1) (List.mem_cons_of_mem _ List.mem_cons_self)
  have h6 := (h5.sub (Y := (V.heap.size + 1, .cells zVault 74 (0, 0)) :: (V.heap.size, .cells (vaultV n sl fr room g nx' false) 74 (0, 0)) :: X) (fun x hx => by simp only [List.mem_cons] at hx ⊢; rcases hx with h | h | h <;> simp [h])).row (by have := HLT.out.2; omega) (vaultV n sl fr room g nx' false) (fun x hx => by
    rcases List.mem_cons.1 hx with rfl | hx
    · show V.heap.size ≠ V.heap.size + 1; omega
    · have := HLT.out.1 x hx; omega)
  have H := Aside0.mk (h6.sub (Y := X) (fun x hx => List.mem_cons_of_mem _ (List.mem_cons_of_mem _ hx)))
  have hne : V.heap.size ≠ V3.heap.size := by omega
  have hne2 : V3.heap.size ≠ V.heap.size := by omega
  have hsp : spl (vaultV n sl fr room g nx false) 2 (logV fr room g nx').toList = vaultV n sl fr room g nx' false := rfl
  have hold : 2 + (logV fr room g nx').size ≤ (vaultV n sl fr room g nx false).size := by show 2 + 4 ≤ 7; omega
  clear h3 h4 h5 h6 hb
  go_wp2_with (first | refine wpList_store_row rfl 31 _ _ rfl V3.heap.size (logV fr room g nx') rfl rfl 31 _ z8z iL' rfl oL ?_ | refine wpList_load_row rfl 31 _ rfl V3.heap.size rfl 31 _ (0, 0) _ z8 Tryd.underlying31 rfl iL' ?_ | refine store_seg rfl 31 _ _ rfl V.heap.size 2 (logV fr room g nx') rfl rfl 74 _ z3 iL' hold oL _ hsp ?_ | refine wpList_load_row rfl 74 _ rfl V.heap.size rfl 74 _ (0, 0) _ z3b Tryd.underlying74 rfl iV ?_ | refine wpList_store_row rfl 74 _ _ rfl (V.heap.size + 1) (vaultV n sl fr room g nx' false) rfl rfl 74 _ z6 iV rfl oV ?_ | fail)
  exact bodyPost_ret (Cel.end_cell rfl _ _ _ _ _ z6 rfl Tryd.underlying74 rfl iV) rfl ⟨rfl, H.out⟩
end Go.Proofs.YtknbhgodhmcemaaDoor.Va
namespace Go.Proofs.YtknbhgodhmcemaaDoor.Dk
set_option linter.unusedSimpArgs false
set_option linter.unusedVariables false
set_option maxRecDepth 100000
open Go.RowKit Go.Proofs.YtknbhgodhmcemaaDoor.Own Go.Proofs.YtknbhgodhmcemaaDoor.Cel
def SR (W : World) (b : Nat) (l : List UInt8) : Prop :=
  ∃ (cur : Array Value) (lo hi : Nat), W.heap[b]? = some (.cells cur 5 (lo, hi)) ∧ l.length ≤ lo ∧ cur.toList.take l.length = Lib.byteCells l
theorem SR.cell {W : World} {b : Nat} {l : List UInt8} (h : SR W b l) (j : Nat) (hj : j < l.length) : W.cell? ⟨b, j, none⟩ = some (.int .u8 ((l.getD j 0).toNat : Nat)) := by
  obtain ⟨cur, lo, hi, h1, h2, h3⟩ := h
  have e : W.cell? ⟨b, j, none⟩ = cur[j]? := by simp [World.cell?, h1]
  rw [e]
  have := congrArg (·[j]?) h3
  simp only [List.getElem?_take, hj, if_true] at this
  rw [Array.getElem?_toList] at this
  rw [this, Lib.byteCells, List.getElem?_map, List.getElem?_eq_getElem hj, Option.map_some, List.getD_eq_getElem?_getD, List.getElem?_eq_getElem hj]; rfl
end Go.Proofs.YtknbhgodhmcemaaDoor.Dk
namespace Go.Proofs.YtknbhgodhmcemaaDoor.Va
set_option linter.unusedSimpArgs false
set_option linter.unusedVariables false
set_option maxRecDepth 100000
open Go.Proofs.YtknbhgodhmcemaaDoor.Dk
open Go.Proofs.YtknbhgodhmcemaaDoor.Sl (openS openS_blank sector body body_len lb sumN)
open Go.Proofs.YtknbhgodhmcemaaDoor.Lg (sec sec_size dead_rec repl appS put_cases fails_armed)
open Go.Proofs.YtknbhgodhmcemaaDoor.So (readS newS newGo newest_ge wrS psec psec_open pdat pdat_le pk np np_pos np_size summedL readS_whole blank_open)
theorem look_sane {s : ByteArray} (h : (openS s).2 = 0 ∨ (openS s).2 = 16) : lookR s = false := decide_eq_false (fun x => h.elim x.2 x.1)
theorem look_open {s : ByteArray} (h : (openS s).2 = 0) : lookB s = false := decide_eq_false (by rw [h]; decide)
theorem blank_16 : (openS (sect 0)).2 = 16 := by
  have e : openS (sect 0) = (.zero, 16) := openS_blank (sect_size 0) (by decide +kernel)
  rw [e]
theorem look_blank : lookB (sect 0) = true := decide_eq_true blank_16
theorem wrB_true {rd : List ByteArray} : ∀ {N i : Nat}, i < N → lookB (rd.getD i ByteArray.empty) = false → wrB rd N = true
  | N + 1, i, hi, h => by
    rw [wrB]
    by_cases e : i = N
    · subst e; rw [h]; simp
    · rw [wrB_true (by omega) h]; rfl
theorem bdB_ok {rd : List ByteArray} {n gen : Nat} : ∀ {N : Nat}, (∀ i, i < N → ((openS (rd.getD i ByteArray.empty)).2 = 0 ∨ (openS (rd.getD i ByteArray.empty)).2 = 16) ∧ (2 * n ≤ i → (openS (rd.getD i ByteArray.empty)).2 = 0 → (openS (rd.getD i ByteArray.empty)).1.g ≤ gen)) → bdB rd n gen true N = 0
  | 0, _ => rfl
  | N + 1, H => by
    obtain ⟨h1, h2⟩ := H N (by omega)
    have e : badX (lookR (rd.getD N ByteArray.empty)) true n N (lookB (rd.getD N ByteArray.empty)) (openS (rd.getD N ByteArray.empty)).1.k (openS (rd.getD N ByteArray.empty)).1.g gen = false := by
      rw [badX, look_sane h1, Bool.false_or]
      by_cases c : 2 * n ≤ N
      · rcases h1 with h0 | h0
        · have := h2 c h0
          rw [show decide (gen < (openS (rd.getD N ByteArray.empty)).1.g) = false from decide_eq_false (by omega), Bool.and_false]
        · rw [show lookB (rd.getD N ByteArray.empty) = true from decide_eq_true h0]; simp
      · rw [show decide (2 * n ≤ N) = false from decide_eq_false c]; simp
    rw [bdB, e, if_neg (by decide)]
    exact bdB_ok (fun i hi => H i (by omega))
theorem sound_ok {rd : List ByteArray} {n gen N : Nat} (hw : ∃ i, i < N ∧ (openS (rd.getD i ByteArray.empty)).2 = 0)
    (H : ∀ i, i < N → ((openS (rd.getD i ByteArray.empty)).2 = 0 ∨ (openS (rd.getD i ByteArray.empty)).2 = 16) ∧ (2 * n ≤ i → (openS (rd.getD i ByteArray.empty)).2 = 0 → (openS (rd.getD i ByteArray.empty)).1.g ≤ gen)) : soundS rd n gen true N = 0 := by
  obtain ⟨i, hi, h0⟩ := hw
  unfold soundS
  rw [if_neg (by rw [wrB_true hi (look_open h0)]; decide), if_neg (by decide)]
  exact bdB_ok H
theorem newGo_le {rd : List ByteArray} {fr M : Nat} : ∀ (n i most : Nat), most ≤ M → (∀ j, i ≤ j → j < i + n → (openS (rd.getD (fr + j) ByteArray.empty)).2 = 0 → (openS (rd.getD (fr + j) ByteArray.empty)).1.g ≤ M) → newGo rd fr n i most ≤ M
  | 0, _, _, h, _ => h
  | n + 1, i, most, h, H => by
    rw [newGo]
    split
    · exact newGo_le n (i + 1) most h (fun j a b => H j (by omega) (by omega))
    · rename_i ho
      have hg := H i (Nat.le_refl _) (by omega) (Decidable.not_not.1 ho)
      refine newGo_le n (i + 1) _ ?_ (fun j a b => H j (by omega) (by omega))
      split
      · exact Nat.max_le.2 ⟨h, hg⟩
      · exact h
theorem newS_le {rd : List ByteArray} {fr n M : Nat} (H : ∀ j, j < n → (openS (rd.getD (fr + j) ByteArray.empty)).2 = 0 → (openS (rd.getD (fr + j) ByteArray.empty)).1.g ≤ M) : newS rd fr n ≤ M :=
  newGo_le n 0 0 (by omega) (fun j _ h => H j (by omega))
theorem readS_none {rd : List ByteArray} {fr room : Nat} (hr : 1 ≤ room) (h : (openS (rd.getD (fr + 0) ByteArray.empty)).2 ≠ 0) : readS rd fr room = (⟨#[]⟩, 0, false) := by
  obtain ⟨n, rfl⟩ : ∃ n, room = n + 1 := ⟨room - 1, by omega⟩
  unfold readS
  rw [So.readGo, if_pos h]
  exact So.readGo_gap rd fr n (0 + 1) 0 0 [] (by omega)
theorem newest_fst {rd : List ByteArray} {n g : Nat} {t : ByteArray} (h0 : readS rd (0 * n) n = (t, g, true)) (h1 : (readS rd (1 * n) n).2.2 = true → (readS rd (1 * n) n).2.1 ≤ g) : newestS rd n = (0, g, t, true) := by
  unfold newestS
  rw [h0]
  refine if_pos ⟨rfl, ?_⟩
  cases e : (readS rd (1 * n) n).2.2 with
  | true => exact .inr (h1 e)
  | false => exact .inl rfl
theorem newest_snd {rd : List ByteArray} {n g : Nat} {t : ByteArray} (h1 : readS rd (1 * n) n = (t, g, true)) (h0 : (readS rd (0 * n) n).2.2 = true → (readS rd (0 * n) n).2.1 < g) : newestS rd n = (1, g, t, true) := by
  unfold newestS
  rw [h1]
  rw [if_neg, if_pos rfl]
  rintro ⟨a, b | b⟩
  · cases b
  · have b' : g ≤ (readS rd (0 * n) n).2.1 := b
    have := h0 a; omega
def Tight (s : ByteArray) : Prop := ∃ b : List UInt8, b.length = 124 ∧ s = ⟨(b ++ lb (sumN b) 4).toArray⟩
theorem tight_psec (g : Nat) (L : List UInt8) (i : Nat) : Tight (psec g L i) := ⟨body (pk L.length i) g i (pdat L i), body_len _ _ _ _ (pdat_le L i), rfl⟩
def genS (S : DS) (n : Nat) : Nat := max (newS S.read 0 n) (newS S.read n n)
def setS (S : DS) (n sl fr room g nx : Nat) (st : Bool) (t : ByteArray) : DS × Array Value × Int :=
  if (wrS ((1 - sl) * n) (genS S n + 1) (summedL t.data.toList) (np (summedL t.data.toList).length) 0 S).2 ≠ 0 then
    ((wrS ((1 - sl) * n) (genS S n + 1) (summedL t.data.toList) (np (summedL t.data.toList).length) 0 S).1, vaultV n sl fr room g nx true, (wrS ((1 - sl) * n) (genS S n + 1) (summedL t.data.toList) (np (summedL t.data.toList).length) 0 S).2)
  else if (wrS ((1 - sl) * n) (genS S n + 1) (summedL t.data.toList) (np (summedL t.data.toList).length) 0 S).1.sync.2 ≠ 0 then
    ((wrS ((1 - sl) * n) (genS S n + 1) (summedL t.data.toList) (np (summedL t.data.toList).length) 0 S).1.sync.1, vaultV n sl fr room g nx true, (wrS ((1 - sl) * n) (genS S n + 1) (summedL t.data.toList) (np (summedL t.data.toList).length) 0 S).1.sync.2)
  else ((wrS ((1 - sl) * n) (genS S n + 1) (summedL t.data.toList) (np (summedL t.data.toList).length) 0 S).1.sync.1, vaultV n (1 - sl) fr room (genS S n + 1) 0 false, 0)
def opnS (S : DS) (n : Nat) : Array Value × ByteArray × List ByteArray × Int :=
  if soundS S.read n (newestS S.read n).2.1 (newestS S.read n).2.2.2 S.lasts.length ≠ 0 then (zVault, ⟨#[]⟩, [], soundS S.read n (newestS S.read n).2.1 (newestS S.read n).2.2.2 S.lasts.length)
  else (vaultV n (newestS S.read n).1 (2 * n) (S.lasts.length - 2 * n) (newestS S.read n).2.1 (repl S.read (2 * n) (newestS S.read n).2.1 (S.lasts.length - 2 * n) 0).length true, (newestS S.read n).2.2.1, repl S.read (2 * n) (newestS S.read n).2.1 (S.lasts.length - 2 * n) 0, 0)
theorem fresh_get (N q : Nat) (hq : q < N) (a o : Int) : (⟨List.replicate N (sect 0), [], a, o⟩ : DS).read.getD q ByteArray.empty = sect 0 := by
  show (List.replicate N (sect 0)).getD q ByteArray.empty = sect 0
  rw [List.getD_eq_getElem?_getD, List.getElem?_replicate, if_pos hq]; rfl
theorem made_open {S2 : DS} {N n k : Nat} {a o : Int} {t : ByteArray} (m : Made ⟨List.replicate N (sect 0), [], a, o⟩ S2 N k 1 0 t) (hn : 1 ≤ n) (hl : 2 * n < N) (hN : N ≤ 900) (ht : t.size + 4 ≤ 110 * n) :
    (∀ q, q < N → (S2.read.getD q ByteArray.empty = sect 0 ∧ np (summedL t.data.toList).length ≤ q) ∨ (q < np (summedL t.data.toList).length ∧ S2.read.getD q ByteArray.empty = psec 1 (summedL t.data.toList) q)) ∧
    readS S2.read (0 * n) n = (t, 1, true) ∧ opnS S2 n = (vaultV n 0 (2 * n) (N - 2 * n) 1 0 true, t, [], 0) := by
  have hnp := np_size t
  have hp := np_pos t.data.toList
  have hall : ∀ q, q < N → (S2.read.getD q ByteArray.empty = sect 0 ∧ np (summedL t.data.toList).length ≤ q) ∨ (q < np (summedL t.data.toList).length ∧ S2.read.getD q ByteArray.empty = psec 1 (summedL t.data.toList) q) := fun q hq => by
    by_cases c : q < np (summedL t.data.toList).length
    · have := m.text q c
      rw [Nat.zero_add] at this
      exact .inr ⟨c, this⟩
    · exact .inl ⟨(m.rest q (fun x => by omega)).trans (fresh_get N q hq a o), by omega⟩
  have h0 : readS S2.read (0 * n) n = (t, 1, true) := by
    rw [Nat.zero_mul]
    exact readS_whole S2.read 0 n 1 t.data.toList (by decide) (by omega) (by omega) m.text
  have h2 : S2.read.getD n ByteArray.empty = sect 0 := (hall n (by omega)).elim (·.1) (fun x => by have := x.1; omega)
  have h1 : readS S2.read (1 * n) n = (⟨#[]⟩, 0, false) := readS_none hn (by rw [Nat.one_mul, Nat.add_zero, h2]; exact blank_open)
  have hnw : newestS S2.read n = (0, 1, t, true) := newest_fst h0 (fun x => by rw [h1] at x; cases x)
  refine ⟨hall, h0, ?_⟩
  have hlen := m.calm.ok.len
  have hs : soundS S2.read n 1 true N = 0 := sound_ok ⟨0, by omega, (hall 0 (by omega)).elim (fun x => by have := x.2; omega) (fun x => by rw [x.2, psec_open 1 _ 0 (by decide) (by decide)])⟩ (fun i hi => by
    rcases hall i hi with ⟨e, _⟩ | ⟨e1, e2⟩
    · rw [e]; exact ⟨.inr blank_16, fun _ x => absurd x blank_open⟩
    · rw [e2, psec_open 1 _ i (by decide) (by omega)]; exact ⟨.inl rfl, fun _ _ => Nat.le_refl _⟩)
  have h4 : S2.read.getD (2 * n + 0) ByteArray.empty = sect 0 := (hall (2 * n + 0) (by omega)).elim (·.1) (fun x => by have := x.1; omega)
  have hr : repl S2.read (2 * n) 1 (N - 2 * n) 0 = [] := by
    obtain ⟨r, hr⟩ : ∃ r, N - 2 * n = r + 1 := ⟨N - 2 * n - 1, by omega⟩
    rw [hr, repl, h4, dead_rec (Lg.dead_blank 1)]; rfl
  unfold opnS
  rw [hlen, hnw]
  dsimp only
  rw [hs, if_neg (fun x => x rfl), hr]
  rfl
theorem app_calm {S : DS} {N k fr room nx g : Nat} {d : ByteArray} (c : So.Calm S N (k + 2)) (hl : fr + room ≤ N) (hn : nx < room) (hd : d.size ≤ 110) :
    ∃ S', appS S fr room g nx d = (S', nx + 1, 0) ∧ So.Calm S' N k ∧ S'.waits = [] ∧ ∀ q, S'.read.getD q ByteArray.empty = if q = fr + nx then sec g nx d else S.read.getD q ByteArray.empty := by
  have hlen := c.ok.len
  have hf := (fails_armed S).1 c.calm
  rcases put_cases S (fr + nx) (sec g nx d) (by omega) (sec_size g nx d hd) with ⟨_, e⟩ | ⟨e, _⟩
  · rw [hf] at e; cases e
  rw [hf] at e
  dsimp only at e
  have h1 := c.ok.arm
  have h2 := c.ok.waits
  have h3 := c.ok.ops0
  have h4 := c.ok.ops
  obtain ⟨S1, hS1⟩ : ∃ S1, ({ S with waits := S.waits ++ [(fr + nx, sec g nx d)], ops := S.ops + 1 } : DS) = S1 := ⟨_, rfl⟩
  have c1 : So.Calm S1 N (k + 1) := by
    rw [← hS1]
    refine ⟨⟨fun x hx => ?_, hlen, h1, ?_, ?_, ?_⟩, ⟨c.full.1, fun x hx => ?_⟩, c.calm⟩
    · rcases List.mem_append.1 hx with hx | hx
      · exact c.ok.ok x hx
      · simp only [List.mem_singleton] at hx
        subst hx
        show fr + nx < S.lasts.length
        omega
    · show (S.waits ++ [_]).length + (k + 1) ≤ 900000
      rw [List.length_append]; show S.waits.length + 1 + (k + 1) ≤ 900000; omega
    · show 0 ≤ S.ops + 1; omega
    · show S.ops + 1 + ((k + 1 : Nat) : Int) ≤ 1000000000; omega
    · rcases List.mem_append.1 hx with hx | hx
      · exact c.full.2 x hx
      · simp only [List.mem_singleton] at hx
        subst hx; exact sec_size g nx d hd
  have hr1 : ∀ q, S1.read.getD q ByteArray.empty = if q = fr + nx then sec g nx d else S.read.getD q ByteArray.empty := fun q => by
    rw [← hS1]
    show (applyW S.lasts (S.waits ++ [(fr + nx, sec g nx d)])).getD q ByteArray.empty = _
    have hrl : (applyW S.lasts S.waits).length = S.lasts.length := applyW_len _ _
    rw [applyW_snoc]
    by_cases hq : q = fr + nx
    · rw [if_pos hq, hq, List.getD_eq_getElem?_getD, List.getElem?_set_self (show fr + nx < (applyW S.lasts S.waits).length by omega)]; rfl
    · rw [if_neg hq, List.getD_eq_getElem?_getD, List.getElem?_set_ne (fun x => hq x.symm), ← List.getD_eq_getElem?_getD]; rfl
  obtain ⟨S2, e2, c2, r2, w2⟩ := c1.sync
  refine ⟨S2, ?_, c2, w2, fun q => by rw [r2]; exact hr1 q⟩
  unfold appS
  rw [if_neg (by omega), if_neg (by omega), e, if_neg (fun x => x rfl), hS1]
  dsimp only
  rw [e2]
theorem made_settle {S2 : DS} {N n k : Nat} {a o : Int} {t t' : ByteArray} (m : Made ⟨List.replicate N (sect 0), [], a, o⟩ S2 N (k + 1 + np (summedL t'.data.toList).length) 1 0 t) (hn : 1 ≤ n) (hl : 2 * n < N) (hN : N ≤ 900) (ht : t.size + 4 ≤ 110 * n) (ht' : t'.size + 4 ≤ 110 * n) :
    genS S2 n = 1 ∧ ∃ S3, setS S2 n 0 (2 * n) (N - 2 * n) 1 0 true t' = (S3, vaultV n 1 (2 * n) (N - 2 * n) 2 0 false, 0) ∧ So.Calm S3 N k ∧ S3.waits = [] ∧ (∀ j, j < np (summedL t'.data.toList).length → S3.read.getD (n + j) ByteArray.empty = psec 2 (summedL t'.data.toList) j) ∧ (∀ q, ¬ (n ≤ q ∧ q < n + np (summedL t'.data.toList).length) → S3.read.getD q ByteArray.empty = S2.read.getD q ByteArray.empty) ∧ ∀ q, q < N → S3.read.getD q ByteArray.empty = sect 0 ∨ Tight (S3.read.getD q ByteArray.empty) := by
  have hnp := np_size t
  have hnp' := np_size t'
  have hp := np_pos t.data.toList
  obtain ⟨hall, _, _⟩ := made_open m hn hl hN ht
  have hg : genS S2 n = 1 := by
    have h1 : newS S2.read 0 n ≤ 1 := newS_le (fun j hj ho => by
      rcases hall (0 + j) (by omega) with ⟨e, _⟩ | ⟨e1, e2⟩
      · rw [e] at ho; exact absurd ho blank_open
      · rw [e2, psec_open 1 _ _ (by decide) (by omega)]; exact Nat.le_refl _)
    have h2 : newS S2.read n n ≤ 1 := newS_le (fun j hj ho => by
      rcases hall (n + j) (by omega) with ⟨e, _⟩ | ⟨e1, e2⟩
      · rw [e] at ho; exact absurd ho blank_open
      · omega)
    have h3 : 1 ≤ newS S2.read 0 n := newest_ge (L := summedL t.data.toList) hn (by decide) ((hall 0 (by omega)).elim (fun x => by have := x.2; omega) (fun x => x.2))
    unfold genS
    omega
  refine ⟨hg, ?_⟩
  obtain ⟨S1, e1, c1, r1, o1⟩ := m.calm.write n 2 (by omega)
  obtain ⟨S3, e3, c3, r3, w3⟩ := c1.sync
  refine ⟨S3, ?_, c3, w3, fun j hj => (congrArg (fun l => l.getD (n + j) ByteArray.empty) r3).trans (r1 j hj), fun q hq => (congrArg (fun l => l.getD q ByteArray.empty) r3).trans (o1 q hq), fun q hq => ?_⟩
  · unfold setS
    rw [hg, show (1 - 0) * n = n by omega, show 1 + 1 = 2 from rfl, e1, if_neg (fun x => x rfl)]
    dsimp only
    rw [e3, if_neg (fun x => x rfl)]
  · rw [r3]
    by_cases c : n ≤ q ∧ q < n + np (summedL t'.data.toList).length
    · have := r1 (q - n) (by omega)
      rw [show n + (q - n) = q by omega] at this
      rw [this]; exact .inr (tight_psec _ _ _)
    · rw [o1 q c]
      rcases hall q hq with ⟨e, _⟩ | ⟨_, e⟩
      · exact .inl e
      · rw [e]; exact .inr (tight_psec _ _ _)
end Go.Proofs.YtknbhgodhmcemaaDoor.Va
