/- Texts of the seat, as far as the row needs them. -/
import Derived.Below
import Derived.BigQuiet
import Derived.ChangeArms
import Derived.ChangeSlices
import Derived.DataReads
import Derived.Deep.CutBlock
import Derived.Deep.CutRange
import Derived.Deep.DeepCutAuto
import Derived.Deep.DeepFit
import Derived.Deep.Light
import Derived.Deep.LoopGhost
import Derived.Deep.QuietTactic
import Derived.Deep.RegionHeld3
import Derived.Ground.Names2Prog
import Derived.LaidMore
import Derived.Laws.AppendOwn
import Derived.Laws.BitsAllLaws
import Derived.Laws.BitsLemmas
import Derived.Laws.CopyOwn
import Derived.Laws.Externs
import Derived.Laws.IdiomCopy
import Derived.Laws.IdiomStrings
import Derived.Laws.OwnMore
import Derived.Laws.ResultCell
import Derived.Laws.Rows
import Derived.Laws.StructEq
import Derived.Laws.Tables
import Derived.Lib.AppendStr
import Derived.Lib.FrozenHead2
import Derived.Lib.OthersKept
import Derived.Lib.RepeatB
import Derived.Lib.TrimByte
import Derived.Lib.UnsafeStr
import Derived.LoopIn
import Derived.LoopNIn
import Derived.Maps.Own
import Derived.Maps.OwnOps
import Derived.Maps.OwnSet
import Derived.Maps.Views
import Derived.OrdersHeld
import Derived.Outline
import Derived.OwnWalk
import Derived.OwnWalkIn
import Derived.ProofKit
import Derived.RangeFuncBound
import Derived.RangeFuncCalls
import Derived.RangeFuncLeaves
import Derived.RangeFuncNested
import Derived.Shelf.Abstract
import Derived.Shelf.Bits.Mul64
import Derived.Shelf.RegionOpen
import Derived.Shelf.Slices.Clone
import Derived.Shelf.Small.Strs
import Derived.Shelf.Small.Utf8
import Derived.Shelf.Strings.AsciiSet
import Derived.Shelf.Strings.Builder1
import Derived.Shelf.Strings.Builder2
import Derived.Shelf.Strings.Builder2Cap
import Derived.Shelf.Strings.BuilderCap
import Derived.Shelf.Strings.BuilderF
import Derived.Shelf.Strings.BuilderK
import Derived.Shelf.Strings.Prefix
import Derived.Shelf.Strings.Repeat
import Derived.Shelf.Strings.Runes
import Derived.Shelf.Strings.Search1
import Derived.Shelf.Strings.Trim
import Derived.Shelf.Unicode.DecodeSlow
import Derived.StillTailTactics
import Derived.TacticsInMore
import Derived.Test.YtknbhgodhmcemaaDoorProg
import Derived.Test.YtknbhgodhmcemaaDoorRows
import Derived.WalkKit
import Derived.WalkMore
import Derived.WideShapes
import Derived.Test.YtknbhgodhmcemaaDoorQSlotPlays0
import Derived.Test.YtknbhgodhmcemaaDoorQSlotPlays1
import Derived.Test.YtknbhgodhmcemaaDoorQSlotPlays2
import Derived.Test.YtknbhgodhmcemaaDoorQSlotPlays3
import Derived.Test.YtknbhgodhmcemaaDoorQSlotPlays4
set_option linter.unusedVariables false
set_option linter.unusedSimpArgs false
namespace Go.Proofs.YtknbhgodhmcemaaDoor.So
set_option linter.unusedSimpArgs false
set_option linter.unusedVariables false
set_option maxRecDepth 100000
open Go.RowKit Go.Shelf Go.Proofs.YtknbhgodhmcemaaDoor.Own Go.Proofs.YtknbhgodhmcemaaDoor.Cel Go.Proofs.YtknbhgodhmcemaaDoor.Dk
open Go.Proofs.YtknbhgodhmcemaaDoor.Sl (Rec openS open_calls recV recV_one)
attribute [local go_sem] Oper.semAt_some
variable {B p : Nat} {S : DS} {F : Nat → Prop} {W : World}
theorem new_builder (V : World) (b : Nat) (h : V.heap[b]? = some (.cells #[.pointer none, .slice none 0 0] 105 (0, 0))) : Lib.IsBuilderF 105 5 b b (Lib.byteCells []) V :=
  .inl ⟨Nat.le_refl _, .slice none 0 0, h, ⟨rfl, .inl ⟨rfl, rfl⟩⟩, by simp [Value.ownBlock]⟩
def six (W : World) (a b c d e f : Obj) : World := (((((W.alloc a).alloc b).alloc c).alloc d).alloc e).alloc f
theorem six_size (W : World) (a b c d e f : Obj) : (six W a b c d e f).heap.size = W.heap.size + 6 := by simp [six]
theorem six_below (W : World) (a b c d e f : Obj) : Below W.heap.size W (six W a b c d e f) :=
  (((((((Below.refl W.heap.size W).alloc (Nat.le_refl _) a).alloc (by simp) b).alloc (by simp; omega) c).alloc (by simp; omega) d).alloc (by simp; omega) e).alloc (by simp; omega) f)
theorem six_at (W : World) (t1 t2 t3 t4 t5 t6 : TypeId) (a b c d e f : Array Value) :
    (six W (.cells a t1) (.cells b t2) (.cells c t3) (.cells d t4) (.cells e t5) (.cells f t6)).heap[W.heap.size]? = some (.cells a t1 (0, 0)) ∧
    (six W (.cells a t1) (.cells b t2) (.cells c t3) (.cells d t4) (.cells e t5) (.cells f t6)).heap[W.heap.size + 1]? = some (.cells b t2 (0, 0)) ∧
    (six W (.cells a t1) (.cells b t2) (.cells c t3) (.cells d t4) (.cells e t5) (.cells f t6)).heap[W.heap.size + 2]? = some (.cells c t3 (0, 0)) ∧
    (six W (.cells a t1) (.cells b t2) (.cells c t3) (.cells d t4) (.cells e t5) (.cells f t6)).heap[W.heap.size + 3]? = some (.cells d t4 (0, 0)) ∧
    (six W (.cells a t1) (.cells b t2) (.cells c t3) (.cells d t4) (.cells e t5) (.cells f t6)).heap[W.heap.size + 4]? = some (.cells e t5 (0, 0)) ∧
    (six W (.cells a t1) (.cells b t2) (.cells c t3) (.cells d t4) (.cells e t5) (.cells f t6)).heap[W.heap.size + 5]? = some (.cells f t6 (0, 0)) := by
  have al : ∀ (X : World) (o : Obj), Below X.heap.size X (X.alloc o) := fun X o => (Below.refl _ _).alloc (Nat.le_refl _) _
  have nw : ∀ (X : World) (o : Obj) (k : Nat), X.heap.size = k → (X.alloc o).heap[k]? = some o := fun X o k e => by subst e; exact heap_alloc_new X o
  refine ⟨?_, ?_, ?_, ?_, ?_, ?_⟩
  · exact Own.keep (Own.keep (Own.keep (Own.keep (Own.keep (nw W _ _ rfl) (al _ _)) (al _ _)) (al _ _)) (al _ _)) (al _ _)
  · exact Own.keep (Own.keep (Own.keep (Own.keep (nw (W.alloc _) _ _ (by simp)) (al _ _)) (al _ _)) (al _ _)) (al _ _)
  · exact Own.keep (Own.keep (Own.keep (nw ((W.alloc _).alloc _) _ _ (by simp)) (al _ _)) (al _ _)) (al _ _)
  · exact Own.keep (Own.keep (nw (((W.alloc _).alloc _).alloc _) _ _ (by simp)) (al _ _)) (al _ _)
  · exact Own.keep (nw ((((W.alloc _).alloc _).alloc _).alloc _) _ _ (by simp)) (al _ _)
  · exact nw (((((W.alloc _).alloc _).alloc _).alloc _).alloc _) _ _ (by simp)
theorem RR.ending {D : Nat} {V : World} {R : ByteArray × Nat × Bool} (hR : RR W R V) (hD : W.heap.size + 9 ≤ D) (hK : V.heap[D]? = some (.deferred (some []))) (tmps : Array Value) (h6 : tmps.getD 6 undef = .pointer (some ⟨W.heap.size, 0, none⟩)) (h7 : tmps.getD 7 undef = .pointer (some ⟨W.heap.size + 1, 0, none⟩)) (h8 : tmps.getD 8 undef = .pointer (some ⟨W.heap.size + 2, 0, none⟩)) :
    (results Tryd.f19 tmps).run Tryd.prog (V.putObj D (.deferred none)) = .ok (.tuple #[.string R.1, .int .u64 (R.2.1 : Nat), .bool R.2.2]) (V.putObj D (.deferred none)) ∧ Below W.heap.size W (V.putObj D (.deferred none)) := by
  have k : ∀ {b : Nat} {o : Obj}, b < W.heap.size + 9 → V.heap[b]? = some o → (V.putObj D (.deferred none)).heap[b]? = some o := fun hb hz => (World.putObj_heap_other (by omega)).trans hz
  exact ⟨end_ccc _ tmps W.heap.size _ _ _ h6 h7 h8 (cell_of_row _ _ 0 _ _ _ (k (by omega) hR.z6)) (cell_of_row _ _ 0 _ _ _ (k (by omega) hR.z7)) (cell_of_row _ _ 0 _ _ _ (k (by omega) hR.z8)),
    hR.bel.trans (belowK_b (w := W) (Nat.le_refl _) V D _ _ (by omega) hK rfl rfl)⟩
def XI (p fr room : Nat) (W : World) (pre : List RX) (V : World) : Prop := rdGo pre 0 0 [] = none ∧ RI p fr room W (rdSt pre 0 0 []).1 (rdSt pre 0 0 []).2.1 (rdSt pre 0 0 []).2.2 V
def XR (W : World) (pre : List RX) (V : World) : Prop := ∃ R, rdGo pre 0 0 [] = some R ∧ RR W R V
set_option maxHeartbeats 16000000 in
theorem read_calls (h : DK B p S F W) (fr room : Nat) (hr : 1 ≤ room) (hl : fr + room ≤ S.lasts.length) (hN : S.lasts.length ≤ 900) (hsz : ∀ j, (S.read.getD j ByteArray.empty).size ≤ 1000) :
    Calls Tryd.prog 19 #[.pointer (some ⟨p, 0, none⟩), .int .i64 (fr : Nat), .int .i64 (room : Nat)] W fun e W' =>
      e = .returned (.tuple #[.string (readS S.read fr room).1, .int .u64 ((readS S.read fr room).2.1 : Nat), .bool (readS S.read fr room).2.2]) ∧ Below W.heap.size W W' := by
  have b6 := (Below.refl W.heap.size W).alloc (Nat.le_refl _) (.cells #[.string ⟨#[]⟩] 9)
  have b7 := b6.alloc (by simp) (.cells #[.int .u64 0] 29)
  have b8 := b7.alloc (by simp; omega) (.cells #[.bool false] 4)
  have KM := Aside0.mk (may_calls (h.below b8) fr room hr hl (by omega))
  refine (callsIn_wide (n := 8)).1 ?_
  refine callsIn_of_wp_marks Tryd.func19 rfl trivial ?_ rfl
  simp only [Tryd.ntmps19, List.size_toArray, List.length_cons, List.length_nil, Nat.reduceAdd, Nat.reduceSub, Array.replicate_succ, Array.replicate_zero, List.push_toArray, List.append_toArray, List.nil_append, List.cons_append]
  gi_wp2
  refine ⟨trivial, ?_⟩
  refine (callsIn_wide.2 KM.out).mono ?_
  rintro e w1 ⟨rfl, rfl⟩
  clear KM
  gi_wp2
  clear b6 b7 b8
  rw [show W.heap.size + 1 + 1 = W.heap.size + 2 from rfl]
  rw [show W.heap.size + 2 + 1 = W.heap.size + 3 from rfl]
  rw [show W.heap.size + 3 + 1 = W.heap.size + 4 from rfl]
  rw [show W.heap.size + 4 + 1 = W.heap.size + 5 from rfl]
  refine ⟨trivial, ?_⟩
  change CallsIn _ _ _ _ _ (six W (.cells #[.string ⟨#[]⟩] 9) (.cells #[.int .u64 0] 29) (.cells #[.bool false] 4) (.cells #[.pointer none, .slice none 0 0] 105) (.cells #[.int .i64 0] 3) (.cells #[.int .u64 0] 29)) _
  obtain ⟨z6, z7, z8, z9, z10, z11⟩ := six_at W 9 29 4 105 3 29 #[.string ⟨#[]⟩] #[.int .u64 0] #[.bool false] #[.pointer none, .slice none 0 0] #[.int .i64 0] #[.int .u64 0]
  have s5 := six_size W (.cells #[.string ⟨#[]⟩] 9) (.cells #[.int .u64 0] 29) (.cells #[.bool false] 4) (.cells #[.pointer none, .slice none 0 0] 105) (.cells #[.int .i64 0] 3) (.cells #[.int .u64 0] 29)
  have hB5 := six_below W (.cells #[.string ⟨#[]⟩] 9) (.cells #[.int .u64 0] 29) (.cells #[.bool false] 4) (.cells #[.pointer none, .slice none 0 0] 105) (.cells #[.int .i64 0] 3) (.cells #[.int .u64 0] 29)
  generalize six W (.cells #[.string ⟨#[]⟩] 9) (.cells #[.int .u64 0] 29) (.cells #[.bool false] 4) (.cells #[.pointer none, .slice none 0 0] 105) (.cells #[.int .i64 0] 3) (.cells #[.int .u64 0] 29) = V5 at z6 z7 z8 z9 z10 z11 s5 hB5 ⊢
  refine (callsIn_wide.2 (records_calls p fr room V5)).mono ?_
  rintro e V8 ⟨rfl, hb, s8, y0, y1, y2⟩
  have hIW : IW B p S F W.heap.size V5.heap.size fr room V8 := ⟨(h.below hB5).below hb, fun k hk => (h.lt hk).2, y0, y1, y2⟩
  rw [s5] at hIW s8 y0 y1 y2 ⊢
  have hRI : RI p fr room W 0 0 [] V8 := ⟨Own.keep z6 hb, Own.keep z7 hb, Own.keep z8 hb, Bld.builder_below (new_builder V5 _ z9) hb, Own.keep z10 hb, Own.keep z11 hb, y0, y1, y2, hB5.trans (hb.mono hB5.size)⟩
  rw [show W.heap.size + 6 + 2 = W.heap.size + 8 from rfl, show W.heap.size + 6 + 1 = W.heap.size + 7 from rfl]
  rw [show W.heap.size + 6 + 3 = W.heap.size + 9 from rfl] at s8
  clear y0 y1 y2 hb z6 z7 z8 z9 z10 z11 hB5 s5 h
  gi_wp2
  -- PRINTED
  refine wpIn_rangeFunc_ownH rfl (by omega) (gf := 85) (lb := #[.pointer (some ⟨W.heap.size + 8, 0, none⟩), .pointer (some ⟨W.heap.size + 6, 0, none⟩), .pointer (some ⟨W.heap.size + 7, 0, none⟩)]) rfl trivial (enters_of Tryd.func85 (by kernel_rfl) rfl)
    (recs_stops 7 (by omega) hIW (by omega) hl (by omega) hsz) keepB_t (keepB_b (by omega) (by omega)) (Below.refl _ _) (fun _ => rfl)
    (XI p fr room W)
    (fun c pre V => c = .ret ∧ XR W pre V)
    (fun s X Y row hs hg hq => ⟨hs.1, hs.2.grown hg (fun r e => ⟨by have := (hq r e).1; omega, (hq r e).2⟩)⟩)
    (fun c s X Y row hs hg hq => by
      obtain ⟨h1, R, h2, h3⟩ := hs
      exact ⟨h1, R, h2, h3.grown hg (fun r e => ⟨by have := (hq r e).1; omega, (hq r e).2⟩)⟩)
    ⟨rfl, hRI⟩
    (fun x a' V => ∃ Bx, W.heap.size + 9 ≤ Bx ∧ V.heap[Bx]? = some (.cells (recV x.1.2) 64 (0, 0)) ∧ a' = { tmps := #[.pointer (some ⟨p, 0, none⟩), .int .i64 (fr : Nat), .int .i64 (room : Nat), undef, undef, undef, .pointer (some ⟨W.heap.size, 0, none⟩), .pointer (some ⟨W.heap.size + 1, 0, none⟩), .pointer (some ⟨W.heap.size + 2, 0, none⟩), .pointer (some ⟨W.heap.size + 3, 0, none⟩), .pointer (some ⟨W.heap.size + 4, 0, none⟩), .pointer (some ⟨W.heap.size + 5, 0, none⟩), .int .i64 (x.1.1 : Nat), .pointer (some ⟨Bx, 0, none⟩), .pointer (some ⟨p, 0, none⟩), .int .i64 (fr : Nat), .int .i64 (room : Nat), .bool true, .bool false, .pointer (some ⟨p, 0, none⟩), .int .i64 (fr : Nat), .int .i64 (room : Nat), .func (.func 85) #[] #[.pointer (some ⟨W.heap.size + 8, 0, none⟩), .pointer (some ⟨W.heap.size + 6, 0, none⟩), .pointer (some ⟨W.heap.size + 7, 0, none⟩)], .int .i64 (x.1.1 : Nat), .agg (recV x.1.2), undef, undef, undef, undef, undef, undef, undef, undef, undef, undef, undef, undef, undef, undef, undef, undef, undef, undef, undef, undef, undef, undef, undef, undef, undef, undef, undef, undef, undef, undef, undef, undef, undef, undef, undef, undef, undef, undef, undef, undef, undef, undef, undef, undef, undef, undef, undef, undef, undef, undef, undef, undef, undef, undef, undef, undef, undef, undef, undef, undef, undef, undef, undef, undef], defers := [] })
    (fun x a' s X Y row hs hg hrow => by
      obtain ⟨Bx, h1, h2, h3⟩ := hs
      exact ⟨Bx, h1, own_row Bx _ _ () X Y row h2 hg (fun r e => (hrow r e).2), h3⟩)
    ?assign ?body ?done ?stop
  case assign =>
    intro l pre x V K hi hK
    have hsV := hi.2.size
    have hb2 := below_setRow ((Below.refl V.heap.size V).alloc (Nat.le_refl _) (.cells #[.int .u8 0, .int .u64 0, .int .u32 0, .string ⟨#[]⟩] 64)) (g := V.heap.size) (Nat.le_refl _) (recV x.1.2)
    have z15 : (V.alloc (.cells #[.int .u8 0, .int .u64 0, .int .u32 0, .string ⟨#[]⟩] 64)).heap[V.heap.size]? = some (.cells #[.int .u8 0, .int .u64 0, .int .u32 0, .string ⟨#[]⟩] 64 (0, 0)) := heap_alloc_new V _
    have hi2 : (Tryd.prog.info? 64).map (·.size) = some (recV x.1.2).size := Sl.infoR
    have hone2 := recV_one x.1.2
    have hK2 := fun a' => hK a' _ (keepsFrom_below hb2) (keepB_below hb2 (by omega) (by omega)) ⟨hi.1, hi.2.below hb2⟩
    have HK := Aside0.mk (fun a' (h : a' = _) => hK2 a' ⟨V.heap.size, by omega, setRow_heap _ _ _ (recV x.1.2) _ (0, 0) z15, h⟩)
    clear hK hK2 hb2 hi hsV
    simp only [encX]
    gi_wp2_with (first | refine in_store_row rfl 64 _ _ rfl V.heap.size (recV x.1.2) rfl rfl 64 _ z15 hi2 rfl hone2 ?_ | fail)
    exact HK.out _ rfl
  case body =>
    rintro l pre x a' V hl2 ⟨r, hr2⟩ ⟨hgo0, hR⟩ ⟨Bx, hBx, bX, rfl⟩ hlt
    obtain ⟨⟨ix, rx⟩, hx1, hx2, hx3⟩ := x
    have hlen := rdSt_len pre 0 0 []
    have hgo := rdGo_snoc ⟨(ix, rx), hx1, hx2, hx3⟩ pre 0 0 [] hgo0
    have hst := rdSt_snoc ⟨(ix, rx), hx1, hx2, hx3⟩ pre 0 0 []
    have hN2 := recsGo_len S.read fr room 0
    obtain ⟨⟨nx, g, out⟩, hS3⟩ : ∃ s3, rdSt pre 0 0 [] = s3 := ⟨_, rfl⟩
    rw [hS3] at hlen hgo hst hR
    dsimp only at hlen hgo hst hR hx1 hx2 hx3
    rw [rdGo] at hgo
    have hrd0 : ∀ nx g out, rdGo [] nx g out = none := fun _ _ _ => rfl
    rw [hrd0] at hgo
    dsimp only at hgo
    have hlo : out.length + rx.d.size ≤ 1000000 := by have := hlen.2; simp at this; omega
    have hnxb : nx ≤ 5000 := by omega
    have d_empty := str_empty rx.d
    clear hgo0 hS3 hlt hlen hN2
    have r0 : V.cell? ⟨Bx, 0, none⟩ = some (.int .u8 (rx.k : Nat)) := cell_of_row _ _ 0 _ _ _ bX
    have r1 : V.cell? ⟨Bx, 1, none⟩ = some (.int .u64 (rx.g : Nat)) := cell_of_row _ _ 1 _ _ _ bX
    have r2 : V.cell? ⟨Bx, 2, none⟩ = some (.int .u32 (rx.i : Nat)) := cell_of_row _ _ 2 _ _ _ bX
    have r3 : V.cell? ⟨Bx, 3, none⟩ = some (.string rx.d) := cell_of_row _ _ 3 _ _ _ bX
    have c10 : V.cell? ⟨W.heap.size + 4, 0, none⟩ = some (.int .i64 (nx : Nat)) := cell_of_row _ _ 0 _ _ _ hR.z10
    have c11 : V.cell? ⟨W.heap.size + 5, 0, none⟩ = some (.int .u64 (g : Nat)) := cell_of_row _ _ 0 _ _ _ hR.z11
    have f6 : V.frozen? ⟨W.heap.size, 0, none⟩ = false := frozen_of_row _ _ 0 _ _ hR.z6
    have f7 : V.frozen? ⟨W.heap.size + 1, 0, none⟩ = false := frozen_of_row _ _ 0 _ _ hR.z7
    have f8 : V.frozen? ⟨W.heap.size + 2, 0, none⟩ = false := frozen_of_row _ _ 0 _ _ hR.z8
    have c6 : V.cell? ⟨W.heap.size, 0, none⟩ = some (.string ⟨#[]⟩) := cell_of_row _ _ 0 _ _ _ hR.z6
    have c7 : V.cell? ⟨W.heap.size + 1, 0, none⟩ = some (.int .u64 0) := cell_of_row _ _ 0 _ _ _ hR.z7
    have c8 : V.cell? ⟨W.heap.size + 2, 0, none⟩ = some (.bool false) := cell_of_row _ _ 0 _ _ _ hR.z8
    by_cases hz : ix = 0
    · have hgq : gq ⟨(ix, rx), hx1, hx2, hx3⟩ g = rx.g := by rw [gq]; exact if_pos hz
      rw [hgq] at hgo hst
      have e0 : ((ix : Int) == 0) = true := by simp; omega
      have f11 : V.frozen? ⟨W.heap.size + 5, 0, none⟩ = false := frozen_of_row _ _ 0 _ _ hR.z11
      have hR1 := hR.gen rx.g
      have hkx : KX W V (V.setCell ⟨W.heap.size + 5, 0, none⟩ (.int .u64 (rx.g : Nat))) := KX.set 5 (.inr rfl) _ V
      have bX1 : (V.setCell ⟨W.heap.size + 5, 0, none⟩ (.int .u64 (rx.g : Nat))).heap[Bx]? = some (.cells (recV rx) 64 (0, 0)) := (set_other V _ _ Bx (by show Bx ≠ W.heap.size + 5; omega)).trans bX
      have hne1 : W.heap.size + 5 ≠ Bx := by omega
      have hne2 : Bx ≠ W.heap.size + 5 := by omega
      clear hgq
      by_cases hi0 : ix = nx
      rotate_left
      · have e1 : ((ix : Int) != (nx : Int)) = true := by simp; omega
        have HQ := Aside0.mk (show rdGo (pre ++ [⟨(ix, rx), hx1, hx2, hx3⟩]) 0 0 [] = some (⟨#[]⟩, 0, false) by rw [hgo, if_pos (by rw [badR]; exact decide_eq_true (.inl hi0))])
        have HR := Aside0.mk (rr_of (R := (⟨#[]⟩, 0, false)) hR1.z6 hR1.z7 hR1.z8 hR1.bel)
        have HK := Aside0.mk hkx
        have HX := Aside0.mk (show XR W (pre ++ [⟨(ix, rx), hx1, hx2, hx3⟩]) _ from ⟨_, HQ.out, HR.out.1⟩)
        clear hgo hst hR1 hR hkx
        try clear hz
        try clear hi0
        try clear hg0
        try clear hx0
        try clear hk2
        try clear hk3
        try clear hs
        gi_wp2
        all_goals first | (rename_i h1 h2; cases h1; done) | exact And.intro (HK.out.1.trans HR.out.2) (And.intro rfl HX.out) | exact And.intro (by rw [s8]; exact HK.out.1.trans HR.out.2) (And.intro rfl HX.out) | exact And.intro (by rw [s8]; exact HK.out.1.trans HR.out.2) HX.out | (trace_state; sorry)
      by_cases hx0 : rx.i = ix
      rotate_left
      · have e1 : ((ix : Int) != (nx : Int)) = false := by simp; omega
        have e3 : ((rx.i : Int) != (ix : Int)) = true := by simp; omega
        have HQ := Aside0.mk (show rdGo (pre ++ [⟨(ix, rx), hx1, hx2, hx3⟩]) 0 0 [] = some (⟨#[]⟩, 0, false) by rw [hgo, if_pos (by rw [badR]; exact decide_eq_true (.inr (.inr (.inl hx0))))])
        have HR := Aside0.mk (rr_of (R := (⟨#[]⟩, 0, false)) hR1.z6 hR1.z7 hR1.z8 hR1.bel)
        have HK := Aside0.mk hkx
        have HX := Aside0.mk (show XR W (pre ++ [⟨(ix, rx), hx1, hx2, hx3⟩]) _ from ⟨_, HQ.out, HR.out.1⟩)
        clear hgo hst hR1 hR hkx
        try clear hz
        try clear hi0
        try clear hg0
        try clear hx0
        try clear hk2
        try clear hk3
        try clear hs
        gi_wp2
        all_goals first | (rename_i h1 h2; cases h1; done) | exact And.intro (HK.out.1.trans HR.out.2) (And.intro rfl HX.out) | exact And.intro (by rw [s8]; exact HK.out.1.trans HR.out.2) (And.intro rfl HX.out) | exact And.intro (by rw [s8]; exact HK.out.1.trans HR.out.2) HX.out | (trace_state; sorry)
      by_cases hk2 : rx.k = 2
      · by_cases hs : rx.d.size = 110
        rotate_left
        · have e1 : ((ix : Int) != (nx : Int)) = false := by simp; omega
          have e3 : ((rx.i : Int) != (ix : Int)) = false := by simp; omega
          have e4 : ((rx.k : Int) != 2) = false := by simp; omega
          have e4' : ((rx.k : Int) == 2) = true := by simp; omega
          have e5 : ((rx.k : Int) != 3) = true := by simp; omega
          have e5' : ((rx.k : Int) == 3) = false := by simp; omega
          have e6 : ((rx.d.size : Int) != 110) = true := by simp; omega
          have e6' : (rx.d.size != 110) = true := by simp; omega
          have HQ := Aside0.mk (show rdGo (pre ++ [⟨(ix, rx), hx1, hx2, hx3⟩]) 0 0 [] = some (⟨#[]⟩, 0, false) by rw [hgo, if_pos (by rw [badR]; exact decide_eq_true (.inr (.inr (.inr (.inr (.inl ⟨hk2, hs⟩))))))])
          have HR := Aside0.mk (rr_of (R := (⟨#[]⟩, 0, false)) hR1.z6 hR1.z7 hR1.z8 hR1.bel)
          have HK := Aside0.mk hkx
          have HX := Aside0.mk (show XR W (pre ++ [⟨(ix, rx), hx1, hx2, hx3⟩]) _ from ⟨_, HQ.out, HR.out.1⟩)
          clear hgo hst hR1 hR hkx
          try clear hz
          try clear hi0
          try clear hg0
          try clear hx0
          try clear hk2
          try clear hk3
          try clear hs
          gi_wp2
          all_goals first | (rename_i h1 h2; cases h1; done) | exact And.intro (HK.out.1.trans HR.out.2) (And.intro rfl HX.out) | exact And.intro (by rw [s8]; exact HK.out.1.trans HR.out.2) (And.intro rfl HX.out) | exact And.intro (by rw [s8]; exact HK.out.1.trans HR.out.2) HX.out | (trace_state; sorry)
        have e1 : ((ix : Int) != (nx : Int)) = false := by simp; omega
        have e3 : ((rx.i : Int) != (ix : Int)) = false := by simp; omega
        have e4 : ((rx.k : Int) != 2) = false := by simp; omega
        have e4' : ((rx.k : Int) == 2) = true := by simp; omega
        have e5 : ((rx.k : Int) != 3) = true := by simp; omega
        have e5' : ((rx.k : Int) == 3) = false := by simp; omega
        have e6 : ((rx.d.size : Int) != 110) = false := by simp; omega
        have e6' : (rx.d.size != 110) = false := by simp; omega
        have e7 : decide ((0 : Int) < (ix : Int)) = false := by simp; omega
        have e7' : decide (0 < ix) = false := by simp; omega
        have hnb : ¬ (badR ix nx (rx.g) rx = true) := by
          rw [badR]
          intro h
          have h := of_decide_eq_true h
          rcases h with h | h | h | h | h | h <;> omega
        rw [if_neg hnb] at hgo
        have KW := Aside0.mk (hR1.write rx.d (by omega))
        have HK := Aside0.mk hkx
        have BX := Aside0.mk bX1
        have HG := Aside0.mk (show rdGo (pre ++ [⟨(ix, rx), hx1, hx2, hx3⟩]) 0 0 [] = none by rw [hgo, if_neg (by omega)])
        have HST := Aside0.mk hst
        clear hgo hst hR1 hR hkx bX bX1 hnb
        try clear hz
        try clear hi0
        try clear hg0
        try clear hx0
        try clear hk2
        try clear hk3
        try clear hs
        gi_wp2
        refine ⟨trivial, ?_⟩
        refine (CallsIn.inRound l (callsIn_wide.2 KW.out)).mono ?_
        rintro e V2 ⟨rfl, hR2, hk2, hbx2⟩
        have c10 : V2.cell? ⟨W.heap.size + 4, 0, none⟩ = some (.int .i64 (nx : Nat)) := cell_of_row _ _ 0 _ _ _ hR2.z10
        have f10 : V2.frozen? ⟨W.heap.size + 4, 0, none⟩ = false := frozen_of_row _ _ 0 _ _ hR2.z10
        have r0 : V2.cell? ⟨Bx, 0, none⟩ = some (.int .u8 (rx.k : Nat)) := cell_of_row _ _ 0 _ _ _ (hbx2 _ _ BX.out)
        have hnx2 : ((nx + 1 : Nat) : Int) = (nx : Int) + 1 := by omega
        have HN := Aside0.mk (hR2.next (nx + 1))
        have HKK := Aside0.mk (HK.out.trans (hk2.trans (KX.set 4 (.inl rfl) (.int .i64 ((nx + 1 : Nat) : Int)) V2)))
        rw [hnx2] at HN HKK
        clear hR2 hk2 hbx2 KW HK BX
        have HX := Aside0.mk (show XI p fr room W (pre ++ [⟨(ix, rx), hx1, hx2, hx3⟩]) _ from ⟨HG.out, by rw [HST.out]; exact HN.out⟩)
        clear HG HST HN
        gi_wp2
        all_goals first | (rename_i h1 h2; cases h1; done) | exact And.intro (by rw [s8]; exact HKK.out.1) (And.intro HKK.out.2 HX.out) | (trace_state; sorry)
      by_cases hk3 : rx.k = 3
      rotate_left
      · have e1 : ((ix : Int) != (nx : Int)) = false := by simp; omega
        have e3 : ((rx.i : Int) != (ix : Int)) = false := by simp; omega
        have e4 : ((rx.k : Int) != 2) = true := by simp; omega
        have e4' : ((rx.k : Int) == 2) = false := by simp; omega
        have e5 : ((rx.k : Int) != 3) = true := by simp; omega
        have e5' : ((rx.k : Int) == 3) = false := by simp; omega
        have HQ := Aside0.mk (show rdGo (pre ++ [⟨(ix, rx), hx1, hx2, hx3⟩]) 0 0 [] = some (⟨#[]⟩, 0, false) by rw [hgo, if_pos (by rw [badR]; exact decide_eq_true (.inr (.inr (.inr (.inl ⟨hk2, hk3⟩)))))])
        have HR := Aside0.mk (rr_of (R := (⟨#[]⟩, 0, false)) hR1.z6 hR1.z7 hR1.z8 hR1.bel)
        have HK := Aside0.mk hkx
        have HX := Aside0.mk (show XR W (pre ++ [⟨(ix, rx), hx1, hx2, hx3⟩]) _ from ⟨_, HQ.out, HR.out.1⟩)
        clear hgo hst hR1 hR hkx
        try clear hz
        try clear hi0
        try clear hg0
        try clear hx0
        try clear hk2
        try clear hk3
        try clear hs
        gi_wp2
        all_goals first | (rename_i h1 h2; cases h1; done) | exact And.intro (HK.out.1.trans HR.out.2) (And.intro rfl HX.out) | exact And.intro (by rw [s8]; exact HK.out.1.trans HR.out.2) (And.intro rfl HX.out) | exact And.intro (by rw [s8]; exact HK.out.1.trans HR.out.2) HX.out | (trace_state; sorry)
      have e1 : ((ix : Int) != (nx : Int)) = false := by simp; omega
      have e3 : ((rx.i : Int) != (ix : Int)) = false := by simp; omega
      have e4 : ((rx.k : Int) != 2) = true := by simp; omega
      have e4' : ((rx.k : Int) == 2) = false := by simp; omega
      have e5 : ((rx.k : Int) != 3) = false := by simp; omega
      have e5' : ((rx.k : Int) == 3) = true := by simp; omega
      have e7 : decide ((0 : Int) < (ix : Int)) = false := by simp; omega
      have e7' : decide (0 < ix) = false := by simp; omega
      have hnb : ¬ (badR ix nx (rx.g) rx = true) := by
        rw [badR]
        intro h
        have h := of_decide_eq_true h
        rcases h with h | h | h | h | h | h <;> omega
      rw [if_neg hnb] at hgo
      have KW := Aside0.mk (hR1.write rx.d (by omega))
      have HK := Aside0.mk hkx
      have BX := Aside0.mk bX1
      have HG := Aside0.mk (show rdGo (pre ++ [⟨(ix, rx), hx1, hx2, hx3⟩]) 0 0 [] = some (wholeS (out ++ rx.d.data.toList) (rx.g)) by rw [hgo, if_pos (by omega)])
      clear hgo hst hR1 hR hkx bX bX1 hnb
      try clear hz
      try clear hi0
      try clear hg0
      try clear hx0
      try clear hk2
      try clear hk3
      try clear hs
      gi_wp2
      refine ⟨trivial, ?_⟩
      refine (CallsIn.inRound l (callsIn_wide.2 KW.out)).mono ?_
      rintro e V2 ⟨rfl, hR2, hk2, hbx2⟩
      have c10 : V2.cell? ⟨W.heap.size + 4, 0, none⟩ = some (.int .i64 (nx : Nat)) := cell_of_row _ _ 0 _ _ _ hR2.z10
      have f10 : V2.frozen? ⟨W.heap.size + 4, 0, none⟩ = false := frozen_of_row _ _ 0 _ _ hR2.z10
      have r0 : V2.cell? ⟨Bx, 0, none⟩ = some (.int .u8 (rx.k : Nat)) := cell_of_row _ _ 0 _ _ _ (hbx2 _ _ BX.out)
      have hnx2 : ((nx + 1 : Nat) : Int) = (nx : Int) + 1 := by omega
      have HN := Aside0.mk (hR2.next (nx + 1))
      have HKK := Aside0.mk (HK.out.trans (hk2.trans (KX.set 4 (.inl rfl) (.int .i64 ((nx + 1 : Nat) : Int)) V2)))
      rw [hnx2] at HN HKK
      clear hR2 hk2 hbx2 KW HK BX
      gi_wp2
      generalize V2.setCell ⟨W.heap.size + 4, 0, none⟩ (.int .i64 ((nx : Int) + 1)) = V3 at HN HKK ⊢
      clear c10 f10 r0 hnx2 r1 r2 r3 c6 c7 c8 f6 f7 f8
      have c11 : V3.cell? ⟨W.heap.size + 5, 0, none⟩ = some (.int .u64 ((rx.g : Nat) : Nat)) := cell_of_row _ _ 0 _ _ _ HN.out.z11
      have hR3 := HN.out.below ((Below.refl V3.heap.size V3).drew)
      have HKD := Aside0.mk (HKK.out.1.trans (keepsFrom_below (B := W.heap.size + 9) ((Below.refl V3.heap.size V3).drew)))
      have KS := Aside0.mk hR3.string
      clear hR3 HN HKK
      gi_region_with (first
        | (skip
           refine ⟨trivial, ?_⟩
           refine (CallsIn.inRound l (callsIn_wide.2 KS.out)).mono ?_
           rintro e V4 ⟨rfl, hR4, hk4⟩
           have c11' : V4.cell? ⟨W.heap.size + 5, 0, none⟩ = some (.int .u64 ((rx.g : Nat) : Nat)) := cell_of_row _ _ 0 _ _ _ hR4.z11
           have HR4 := Aside0.mk hR4
           have HK4 := Aside0.mk hk4
           clear hR4 hk4)
        | (skip
           refine ⟨trivial, ?_⟩
           refine (CallsIn.inRound l (callsIn_wide.2 (whole_calls ⟨(out ++ rx.d.data.toList).toArray⟩ (rx.g) _ (by show (out ++ rx.d.data.toList).toArray.size ≤ 1000000; have : rx.d.data.size = rx.d.size := rfl; simp; omega)))).mono ?_
           rintro e V5 ⟨rfl, hb5⟩
           have HB5 := Aside0.mk hb5
           have hR5 := HR4.out.below hb5
           have HX := Aside0.mk (rr_of (R := wholeS (out ++ rx.d.data.toList) (rx.g)) hR5.z6 hR5.z7 hR5.z8 hR5.bel)
           have HZ := Aside0.mk (show KeepsFrom (W.heap.size + 9) V _ ∧ XR W (pre ++ [⟨(ix, rx), hx1, hx2, hx3⟩]) _ from ⟨(HKD.out.trans HK4.out.1).trans ((keepsFrom_below HB5.out).trans HX.out.2), _, HG.out, HX.out.1⟩)
           clear HX HB5
           have f6 := frozen_of_row _ _ 0 _ _ hR5.z6
           have f7 := frozen_of_row _ _ 0 _ _ hR5.z7
           have f8 := frozen_of_row _ _ 0 _ _ hR5.z8
           have c6 := cell_of_row _ _ 0 _ _ _ hR5.z6
           have c7 := cell_of_row _ _ 0 _ _ _ hR5.z7
           have c8 := cell_of_row _ _ 0 _ _ _ hR5.z8
           clear hb5 hR5))
      all_goals gi_wp2
      all_goals first | exact And.intro HZ.out.1 (And.intro rfl HZ.out.2) | exact And.intro (by rw [s8]; exact HZ.out.1) (And.intro rfl HZ.out.2) | exact And.intro (by rw [s8]; exact HZ.out.1) HZ.out.2 | (trace_state; sorry)

    · have hgq : gq ⟨(ix, rx), hx1, hx2, hx3⟩ g = g := by rw [gq]; exact if_neg hz
      rw [hgq] at hgo hst
      have e0 : ((ix : Int) == 0) = false := by simp; omega
      have hR1 := hR
      have hkx : KX W V V := KX.refl W V
      have bX1 := bX
      clear hgq
      by_cases hi0 : ix = nx
      rotate_left
      · have e1 : ((ix : Int) != (nx : Int)) = true := by simp; omega
        have HQ := Aside0.mk (show rdGo (pre ++ [⟨(ix, rx), hx1, hx2, hx3⟩]) 0 0 [] = some (⟨#[]⟩, 0, false) by rw [hgo, if_pos (by rw [badR]; exact decide_eq_true (.inl hi0))])
        have HR := Aside0.mk (rr_of (R := (⟨#[]⟩, 0, false)) hR1.z6 hR1.z7 hR1.z8 hR1.bel)
        have HK := Aside0.mk hkx
        have HX := Aside0.mk (show XR W (pre ++ [⟨(ix, rx), hx1, hx2, hx3⟩]) _ from ⟨_, HQ.out, HR.out.1⟩)
        clear hgo hst hR1 hR hkx
        try clear hz
        try clear hi0
        try clear hg0
        try clear hx0
        try clear hk2
        try clear hk3
        try clear hs
        gi_wp2
        all_goals first | (rename_i h1 h2; cases h1; done) | exact And.intro (HK.out.1.trans HR.out.2) (And.intro rfl HX.out) | exact And.intro (by rw [s8]; exact HK.out.1.trans HR.out.2) (And.intro rfl HX.out) | exact And.intro (by rw [s8]; exact HK.out.1.trans HR.out.2) HX.out | (trace_state; sorry)
      by_cases hg0 : rx.g = g
      rotate_left
      · have e1 : ((ix : Int) != (nx : Int)) = false := by simp; omega
        have e2 : ((rx.g : Int) != (g : Int)) = true := by simp; omega
        have HQ := Aside0.mk (show rdGo (pre ++ [⟨(ix, rx), hx1, hx2, hx3⟩]) 0 0 [] = some (⟨#[]⟩, 0, false) by rw [hgo, if_pos (by rw [badR]; exact decide_eq_true (.inr (.inl hg0)))])
        have HR := Aside0.mk (rr_of (R := (⟨#[]⟩, 0, false)) hR1.z6 hR1.z7 hR1.z8 hR1.bel)
        have HK := Aside0.mk hkx
        have HX := Aside0.mk (show XR W (pre ++ [⟨(ix, rx), hx1, hx2, hx3⟩]) _ from ⟨_, HQ.out, HR.out.1⟩)
        clear hgo hst hR1 hR hkx
        try clear hz
        try clear hi0
        try clear hg0
        try clear hx0
        try clear hk2
        try clear hk3
        try clear hs
        gi_wp2
        all_goals first | (rename_i h1 h2; cases h1; done) | exact And.intro (HK.out.1.trans HR.out.2) (And.intro rfl HX.out) | exact And.intro (by rw [s8]; exact HK.out.1.trans HR.out.2) (And.intro rfl HX.out) | exact And.intro (by rw [s8]; exact HK.out.1.trans HR.out.2) HX.out | (trace_state; sorry)
      by_cases hx0 : rx.i = ix
      rotate_left
      · have e1 : ((ix : Int) != (nx : Int)) = false := by simp; omega
        have e2 : ((rx.g : Int) != (g : Int)) = false := by simp; omega
        have e3 : ((rx.i : Int) != (ix : Int)) = true := by simp; omega
        have HQ := Aside0.mk (show rdGo (pre ++ [⟨(ix, rx), hx1, hx2, hx3⟩]) 0 0 [] = some (⟨#[]⟩, 0, false) by rw [hgo, if_pos (by rw [badR]; exact decide_eq_true (.inr (.inr (.inl hx0))))])
        have HR := Aside0.mk (rr_of (R := (⟨#[]⟩, 0, false)) hR1.z6 hR1.z7 hR1.z8 hR1.bel)
        have HK := Aside0.mk hkx
        have HX := Aside0.mk (show XR W (pre ++ [⟨(ix, rx), hx1, hx2, hx3⟩]) _ from ⟨_, HQ.out, HR.out.1⟩)
        clear hgo hst hR1 hR hkx
        try clear hz
        try clear hi0
        try clear hg0
        try clear hx0
        try clear hk2
        try clear hk3
        try clear hs
        gi_wp2
        all_goals first | (rename_i h1 h2; cases h1; done) | exact And.intro (HK.out.1.trans HR.out.2) (And.intro rfl HX.out) | exact And.intro (by rw [s8]; exact HK.out.1.trans HR.out.2) (And.intro rfl HX.out) | exact And.intro (by rw [s8]; exact HK.out.1.trans HR.out.2) HX.out | (trace_state; sorry)
      by_cases hk2 : rx.k = 2
      · by_cases hs : rx.d.size = 110
        rotate_left
        · have e1 : ((ix : Int) != (nx : Int)) = false := by simp; omega
          have e2 : ((rx.g : Int) != (g : Int)) = false := by simp; omega
          have e3 : ((rx.i : Int) != (ix : Int)) = false := by simp; omega
          have e4 : ((rx.k : Int) != 2) = false := by simp; omega
          have e4' : ((rx.k : Int) == 2) = true := by simp; omega
          have e5 : ((rx.k : Int) != 3) = true := by simp; omega
          have e5' : ((rx.k : Int) == 3) = false := by simp; omega
          have e6 : ((rx.d.size : Int) != 110) = true := by simp; omega
          have e6' : (rx.d.size != 110) = true := by simp; omega
          have HQ := Aside0.mk (show rdGo (pre ++ [⟨(ix, rx), hx1, hx2, hx3⟩]) 0 0 [] = some (⟨#[]⟩, 0, false) by rw [hgo, if_pos (by rw [badR]; exact decide_eq_true (.inr (.inr (.inr (.inr (.inl ⟨hk2, hs⟩))))))])
          have HR := Aside0.mk (rr_of (R := (⟨#[]⟩, 0, false)) hR1.z6 hR1.z7 hR1.z8 hR1.bel)
          have HK := Aside0.mk hkx
          have HX := Aside0.mk (show XR W (pre ++ [⟨(ix, rx), hx1, hx2, hx3⟩]) _ from ⟨_, HQ.out, HR.out.1⟩)
          clear hgo hst hR1 hR hkx
          try clear hz
          try clear hi0
          try clear hg0
          try clear hx0
          try clear hk2
          try clear hk3
          try clear hs
          gi_wp2
          all_goals first | (rename_i h1 h2; cases h1; done) | exact And.intro (HK.out.1.trans HR.out.2) (And.intro rfl HX.out) | exact And.intro (by rw [s8]; exact HK.out.1.trans HR.out.2) (And.intro rfl HX.out) | exact And.intro (by rw [s8]; exact HK.out.1.trans HR.out.2) HX.out | (trace_state; sorry)
        have e1 : ((ix : Int) != (nx : Int)) = false := by simp; omega
        have e2 : ((rx.g : Int) != (g : Int)) = false := by simp; omega
        have e3 : ((rx.i : Int) != (ix : Int)) = false := by simp; omega
        have e4 : ((rx.k : Int) != 2) = false := by simp; omega
        have e4' : ((rx.k : Int) == 2) = true := by simp; omega
        have e5 : ((rx.k : Int) != 3) = true := by simp; omega
        have e5' : ((rx.k : Int) == 3) = false := by simp; omega
        have e6 : ((rx.d.size : Int) != 110) = false := by simp; omega
        have e6' : (rx.d.size != 110) = false := by simp; omega
        have e7 : decide ((0 : Int) < (ix : Int)) = true := by simp; omega
        have e7' : decide (0 < ix) = true := by simp; omega
        have e8 : ¬ rx.d = ByteArray.empty := fun e => by have : rx.d.size = 0 := by rw [e]; rfl
                                                          omega
        have hnb : ¬ (badR ix nx (g) rx = true) := by
          rw [badR]
          intro h
          have h := of_decide_eq_true h
          rcases h with h | h | h | h | h | h <;> omega
        rw [if_neg hnb] at hgo
        have KW := Aside0.mk (hR1.write rx.d (by omega))
        have HK := Aside0.mk hkx
        have BX := Aside0.mk bX1
        have HG := Aside0.mk (show rdGo (pre ++ [⟨(ix, rx), hx1, hx2, hx3⟩]) 0 0 [] = none by rw [hgo, if_neg (by omega)])
        have HST := Aside0.mk hst
        clear hgo hst hR1 hR hkx bX bX1 hnb
        try clear hz
        try clear hi0
        try clear hg0
        try clear hx0
        try clear hk2
        try clear hk3
        try clear hs
        gi_wp2
        refine ⟨trivial, ?_⟩
        refine (CallsIn.inRound l (callsIn_wide.2 KW.out)).mono ?_
        rintro e V2 ⟨rfl, hR2, hk2, hbx2⟩
        have c10 : V2.cell? ⟨W.heap.size + 4, 0, none⟩ = some (.int .i64 (nx : Nat)) := cell_of_row _ _ 0 _ _ _ hR2.z10
        have f10 : V2.frozen? ⟨W.heap.size + 4, 0, none⟩ = false := frozen_of_row _ _ 0 _ _ hR2.z10
        have r0 : V2.cell? ⟨Bx, 0, none⟩ = some (.int .u8 (rx.k : Nat)) := cell_of_row _ _ 0 _ _ _ (hbx2 _ _ BX.out)
        have hnx2 : ((nx + 1 : Nat) : Int) = (nx : Int) + 1 := by omega
        have HN := Aside0.mk (hR2.next (nx + 1))
        have HKK := Aside0.mk (HK.out.trans (hk2.trans (KX.set 4 (.inl rfl) (.int .i64 ((nx + 1 : Nat) : Int)) V2)))
        rw [hnx2] at HN HKK
        clear hR2 hk2 hbx2 KW HK BX
        have HX := Aside0.mk (show XI p fr room W (pre ++ [⟨(ix, rx), hx1, hx2, hx3⟩]) _ from ⟨HG.out, by rw [HST.out]; exact HN.out⟩)
        clear HG HST HN
        gi_wp2
        all_goals first | (rename_i h1 h2; cases h1; done) | exact And.intro (by rw [s8]; exact HKK.out.1) (And.intro HKK.out.2 HX.out) | (trace_state; sorry)
      by_cases hk3 : rx.k = 3
      rotate_left
      · have e1 : ((ix : Int) != (nx : Int)) = false := by simp; omega
        have e2 : ((rx.g : Int) != (g : Int)) = false := by simp; omega
        have e3 : ((rx.i : Int) != (ix : Int)) = false := by simp; omega
        have e4 : ((rx.k : Int) != 2) = true := by simp; omega
        have e4' : ((rx.k : Int) == 2) = false := by simp; omega
        have e5 : ((rx.k : Int) != 3) = true := by simp; omega
        have e5' : ((rx.k : Int) == 3) = false := by simp; omega
        have HQ := Aside0.mk (show rdGo (pre ++ [⟨(ix, rx), hx1, hx2, hx3⟩]) 0 0 [] = some (⟨#[]⟩, 0, false) by rw [hgo, if_pos (by rw [badR]; exact decide_eq_true (.inr (.inr (.inr (.inl ⟨hk2, hk3⟩)))))])
        have HR := Aside0.mk (rr_of (R := (⟨#[]⟩, 0, false)) hR1.z6 hR1.z7 hR1.z8 hR1.bel)
        have HK := Aside0.mk hkx
        have HX := Aside0.mk (show XR W (pre ++ [⟨(ix, rx), hx1, hx2, hx3⟩]) _ from ⟨_, HQ.out, HR.out.1⟩)
        clear hgo hst hR1 hR hkx
        try clear hz
        try clear hi0
        try clear hg0
        try clear hx0
        try clear hk2
        try clear hk3
        try clear hs
        gi_wp2
        all_goals first | (rename_i h1 h2; cases h1; done) | exact And.intro (HK.out.1.trans HR.out.2) (And.intro rfl HX.out) | exact And.intro (by rw [s8]; exact HK.out.1.trans HR.out.2) (And.intro rfl HX.out) | exact And.intro (by rw [s8]; exact HK.out.1.trans HR.out.2) HX.out | (trace_state; sorry)
      by_cases hs : rx.d.size = 0
      · have e1 : ((ix : Int) != (nx : Int)) = false := by simp; omega
        have e2 : ((rx.g : Int) != (g : Int)) = false := by simp; omega
        have e3 : ((rx.i : Int) != (ix : Int)) = false := by simp; omega
        have e4 : ((rx.k : Int) != 2) = true := by simp; omega
        have e4' : ((rx.k : Int) == 2) = false := by simp; omega
        have e5 : ((rx.k : Int) != 3) = false := by simp; omega
        have e5' : ((rx.k : Int) == 3) = true := by simp; omega
        have e7 : decide ((0 : Int) < (ix : Int)) = true := by simp; omega
        have e7' : decide (0 < ix) = true := by simp; omega
        have e8 : rx.d = ByteArray.empty := ByteArray.ext (Array.eq_empty_of_size_eq_zero hs)
        have HQ := Aside0.mk (show rdGo (pre ++ [⟨(ix, rx), hx1, hx2, hx3⟩]) 0 0 [] = some (⟨#[]⟩, 0, false) by rw [hgo, if_pos (by rw [badR]; exact decide_eq_true (.inr (.inr (.inr (.inr (.inr ⟨by omega, hs⟩))))))])
        have HR := Aside0.mk (rr_of (R := (⟨#[]⟩, 0, false)) hR1.z6 hR1.z7 hR1.z8 hR1.bel)
        have HK := Aside0.mk hkx
        have HX := Aside0.mk (show XR W (pre ++ [⟨(ix, rx), hx1, hx2, hx3⟩]) _ from ⟨_, HQ.out, HR.out.1⟩)
        clear hgo hst hR1 hR hkx
        try clear hz
        try clear hi0
        try clear hg0
        try clear hx0
        try clear hk2
        try clear hk3
        try clear hs
        gi_wp2
        all_goals first | (rename_i h1 h2; cases h1; done) | exact And.intro (HK.out.1.trans HR.out.2) (And.intro rfl HX.out) | exact And.intro (by rw [s8]; exact HK.out.1.trans HR.out.2) (And.intro rfl HX.out) | exact And.intro (by rw [s8]; exact HK.out.1.trans HR.out.2) HX.out | (trace_state; sorry)
      have e1 : ((ix : Int) != (nx : Int)) = false := by simp; omega
      have e2 : ((rx.g : Int) != (g : Int)) = false := by simp; omega
      have e3 : ((rx.i : Int) != (ix : Int)) = false := by simp; omega
      have e4 : ((rx.k : Int) != 2) = true := by simp; omega
      have e4' : ((rx.k : Int) == 2) = false := by simp; omega
      have e5 : ((rx.k : Int) != 3) = false := by simp; omega
      have e5' : ((rx.k : Int) == 3) = true := by simp; omega
      have e7 : decide ((0 : Int) < (ix : Int)) = true := by simp; omega
      have e7' : decide (0 < ix) = true := by simp; omega
      have e8 : ¬ rx.d = ByteArray.empty := fun e => by have : rx.d.size = 0 := by rw [e]; rfl
                                                        omega
      have hnb : ¬ (badR ix nx (g) rx = true) := by
        rw [badR]
        intro h
        have h := of_decide_eq_true h
        rcases h with h | h | h | h | h | h <;> omega
      rw [if_neg hnb] at hgo
      have KW := Aside0.mk (hR1.write rx.d (by omega))
      have HK := Aside0.mk hkx
      have BX := Aside0.mk bX1
      have HG := Aside0.mk (show rdGo (pre ++ [⟨(ix, rx), hx1, hx2, hx3⟩]) 0 0 [] = some (wholeS (out ++ rx.d.data.toList) (g)) by rw [hgo, if_pos (by omega)])
      clear hgo hst hR1 hR hkx bX bX1 hnb
      try clear hz
      try clear hi0
      try clear hg0
      try clear hx0
      try clear hk2
      try clear hk3
      try clear hs
      gi_wp2
      refine ⟨trivial, ?_⟩
      refine (CallsIn.inRound l (callsIn_wide.2 KW.out)).mono ?_
      rintro e V2 ⟨rfl, hR2, hk2, hbx2⟩
      have c10 : V2.cell? ⟨W.heap.size + 4, 0, none⟩ = some (.int .i64 (nx : Nat)) := cell_of_row _ _ 0 _ _ _ hR2.z10
      have f10 : V2.frozen? ⟨W.heap.size + 4, 0, none⟩ = false := frozen_of_row _ _ 0 _ _ hR2.z10
      have r0 : V2.cell? ⟨Bx, 0, none⟩ = some (.int .u8 (rx.k : Nat)) := cell_of_row _ _ 0 _ _ _ (hbx2 _ _ BX.out)
      have hnx2 : ((nx + 1 : Nat) : Int) = (nx : Int) + 1 := by omega
      have HN := Aside0.mk (hR2.next (nx + 1))
      have HKK := Aside0.mk (HK.out.trans (hk2.trans (KX.set 4 (.inl rfl) (.int .i64 ((nx + 1 : Nat) : Int)) V2)))
      rw [hnx2] at HN HKK
      clear hR2 hk2 hbx2 KW HK BX
      gi_wp2
      generalize V2.setCell ⟨W.heap.size + 4, 0, none⟩ (.int .i64 ((nx : Int) + 1)) = V3 at HN HKK ⊢
      clear c10 f10 r0 hnx2 r1 r2 r3 c6 c7 c8 f6 f7 f8
      have c11 : V3.cell? ⟨W.heap.size + 5, 0, none⟩ = some (.int .u64 ((g : Nat) : Nat)) := cell_of_row _ _ 0 _ _ _ HN.out.z11
      have hR3 := HN.out.below ((Below.refl V3.heap.size V3).drew)
      have HKD := Aside0.mk (HKK.out.1.trans (keepsFrom_below (B := W.heap.size + 9) ((Below.refl V3.heap.size V3).drew)))
      have KS := Aside0.mk hR3.string
      clear hR3 HN HKK
      gi_region_with (first
        | (skip
           refine ⟨trivial, ?_⟩
           refine (CallsIn.inRound l (callsIn_wide.2 KS.out)).mono ?_
           rintro e V4 ⟨rfl, hR4, hk4⟩
           have c11' : V4.cell? ⟨W.heap.size + 5, 0, none⟩ = some (.int .u64 ((g : Nat) : Nat)) := cell_of_row _ _ 0 _ _ _ hR4.z11
           have HR4 := Aside0.mk hR4
           have HK4 := Aside0.mk hk4
           clear hR4 hk4)
        | (skip
           refine ⟨trivial, ?_⟩
           refine (CallsIn.inRound l (callsIn_wide.2 (whole_calls ⟨(out ++ rx.d.data.toList).toArray⟩ (g) _ (by show (out ++ rx.d.data.toList).toArray.size ≤ 1000000; have : rx.d.data.size = rx.d.size := rfl; simp; omega)))).mono ?_
           rintro e V5 ⟨rfl, hb5⟩
           have HB5 := Aside0.mk hb5
           have hR5 := HR4.out.below hb5
           have HX := Aside0.mk (rr_of (R := wholeS (out ++ rx.d.data.toList) (g)) hR5.z6 hR5.z7 hR5.z8 hR5.bel)
           have HZ := Aside0.mk (show KeepsFrom (W.heap.size + 9) V _ ∧ XR W (pre ++ [⟨(ix, rx), hx1, hx2, hx3⟩]) _ from ⟨(HKD.out.trans HK4.out.1).trans ((keepsFrom_below HB5.out).trans HX.out.2), _, HG.out, HX.out.1⟩)
           clear HX HB5
           have f6 := frozen_of_row _ _ 0 _ _ hR5.z6
           have f7 := frozen_of_row _ _ 0 _ _ hR5.z7
           have f8 := frozen_of_row _ _ 0 _ _ hR5.z8
           have c6 := cell_of_row _ _ 0 _ _ _ hR5.z6
           have c7 := cell_of_row _ _ 0 _ _ _ hR5.z7
           have c8 := cell_of_row _ _ 0 _ _ _ hR5.z8
           clear hb5 hR5))
      all_goals gi_wp2
      all_goals first | exact And.intro HZ.out.1 (And.intro rfl HZ.out.2) | exact And.intro (by rw [s8]; exact HZ.out.1) (And.intro rfl HZ.out.2) | exact And.intro (by rw [s8]; exact HZ.out.1) HZ.out.2 | (trace_state; sorry)

  case done =>
    rintro D xs V hD rfl ⟨hgo, hR⟩ hK
    have hsV := hR.size
    have f6 : V.frozen? ⟨W.heap.size, 0, none⟩ = false := frozen_of_row _ _ 0 _ _ hR.z6
    have f7 : V.frozen? ⟨W.heap.size + 1, 0, none⟩ = false := frozen_of_row _ _ 0 _ _ hR.z7
    have f8 : V.frozen? ⟨W.heap.size + 2, 0, none⟩ = false := frozen_of_row _ _ 0 _ _ hR.z8
    have c6 : V.cell? ⟨W.heap.size, 0, none⟩ = some (.string ⟨#[]⟩) := cell_of_row _ _ 0 _ _ _ hR.z6
    have c7 : V.cell? ⟨W.heap.size + 1, 0, none⟩ = some (.int .u64 0) := cell_of_row _ _ 0 _ _ _ hR.z7
    have c8 : V.cell? ⟨W.heap.size + 2, 0, none⟩ = some (.bool false) := cell_of_row _ _ 0 _ _ _ hR.z8
    have HR := Aside0.mk (rr_of (R := (⟨#[]⟩, 0, false)) hR.z6 hR.z7 hR.z8 hR.bel)
    have HD := Aside0.mk hK
    have hE := Aside0.mk (show readS S.read fr room = (⟨#[]⟩, 0, false) by rw [readS, readGo_fold S.read fr room 0 0 0 [] (by omega), hgo]; rfl)
    clear hgo hR hK
    have hDD : (((V.setCell ⟨W.heap.size, 0, none⟩ (.string ⟨#[]⟩)).setCell ⟨W.heap.size + 1, 0, none⟩ (.int .u64 0)).setCell ⟨W.heap.size + 2, 0, none⟩ (.bool false)).heap[D]? = some (.deferred (some [])) :=
      (set_other _ _ _ D (by show D ≠ W.heap.size + 2; omega)).trans ((set_other _ _ _ D (by show D ≠ W.heap.size + 1; omega)).trans ((set_other _ _ _ D (by show D ≠ W.heap.size; omega)).trans HD.out))
    have HDD := Aside0.mk hDD
    clear hDD HD
    gi_wp2
    refine ⟨by simp, .inl ⟨_, _, rfl, run_takeDeferred HDD.out, ?_⟩⟩
    have hZ := HR.out.1.ending (D := D) (by omega) HDD.out
    exact ⟨_, (hZ _ rfl rfl rfl).1, by rw [hE.out], (hZ #[undef, undef, undef, undef, undef, undef, .pointer (some ⟨W.heap.size, 0, none⟩), .pointer (some ⟨W.heap.size + 1, 0, none⟩), .pointer (some ⟨W.heap.size + 2, 0, none⟩)] rfl rfl rfl).2⟩
  case stop =>
    rintro D c pre V hD hSp ⟨rfl, R, hgo, hR⟩ hK
    have hE := Aside0.mk (show readS S.read fr room = R by
      obtain ⟨r, hr⟩ := hSp
      rw [readS, readGo_fold S.read fr room 0 0 0 [] (by omega), ← hr, rdGo_prefix r R pre 0 0 [] hgo]; rfl)
    have HD := Aside0.mk hK
    have HR := Aside0.mk hR
    clear hgo hR hK hSp
    gi_wp2
    refine ⟨by simp, .inl ⟨_, _, rfl, run_takeDeferred HD.out, ?_⟩⟩
    have hZ := HR.out.ending (D := D) (by omega) HD.out
    exact ⟨_, (hZ _ rfl rfl rfl).1, by rw [hE.out], (hZ #[undef, undef, undef, undef, undef, undef, .pointer (some ⟨W.heap.size, 0, none⟩), .pointer (some ⟨W.heap.size + 1, 0, none⟩), .pointer (some ⟨W.heap.size + 2, 0, none⟩)] rfl rfl rfl).2⟩
end Go.Proofs.YtknbhgodhmcemaaDoor.So
namespace Go.Proofs.YtknbhgodhmcemaaDoor.So
set_option linter.unusedSimpArgs false
set_option linter.unusedVariables false
set_option maxRecDepth 100000
open Go.RowKit Go.Shelf Go.Proofs.YtknbhgodhmcemaaDoor.Own Go.Proofs.YtknbhgodhmcemaaDoor.Cel Go.Proofs.YtknbhgodhmcemaaDoor.Dk
theorem three0 (V : World) (a b c : Obj) : (((V.alloc a).alloc b).alloc c).heap[V.heap.size]? = some a ∧ (((V.alloc a).alloc b).alloc c).heap[V.heap.size + 1]? = some b ∧ (((V.alloc a).alloc b).alloc c).heap[V.heap.size + 2]? = some c := by
  have h0 := heap_alloc_new V a
  have h1 := heap_alloc_new (V.alloc a) b
  have h2 := heap_alloc_new ((V.alloc a).alloc b) c
  have e1 : (V.alloc a).heap.size = V.heap.size + 1 := by simp
  have e2 : ((V.alloc a).alloc b).heap.size = V.heap.size + 2 := by simp
  rw [e1] at h1
  rw [e2] at h2
  exact ⟨(Below.heap_alloc _ _ _ (by omega)).trans ((Below.heap_alloc _ _ _ (by omega)).trans h0), (Below.heap_alloc _ _ _ (by omega)).trans h1, h2⟩
variable {B p : Nat} {S : DS} {F : Nat → Prop} {W : World}
set_option maxHeartbeats 4000000 in
theorem sread_no (h : DK B p S F W) (hl : S.lasts.length ≤ 100000) (fr room : Int) (hn : ¬ mayP S.lasts.length fr room) :
    Calls Tryd.prog 19 #[.pointer (some ⟨p, 0, none⟩), .int .i64 fr, .int .i64 room] W fun e W' => e = .returned (.tuple #[.string ⟨#[]⟩, .int .u64 0, .bool false]) ∧ Below W.heap.size W W' := by
  have b6 := (Below.refl W.heap.size W).alloc (Nat.le_refl _) (.cells #[.string ⟨#[]⟩] 9)
  have b7 := b6.alloc (by simp) (.cells #[.int .u64 0] 29)
  have b8 := b7.alloc (by simp; omega) (.cells #[.bool false] 4)
  have KM0 := may_gen (h.below b8) hl fr room
  rw [decide_eq_false hn] at KM0
  have KM := Aside0.mk KM0
  have HB := Aside0.mk b8
  clear KM0 b6 b7 b8 h hl hn
  refine (callsIn_wide (n := 8)).1 ?_
  refine callsIn_of_wp_marks Tryd.func19 rfl trivial ?_ rfl
  simp only [Tryd.ntmps19, List.size_toArray, List.length_cons, List.length_nil, Nat.reduceAdd, Nat.reduceSub, Array.replicate_succ, Array.replicate_zero, List.push_toArray, List.append_toArray, List.nil_append, List.cons_append]
  gi_wp2
  refine ⟨trivial, ?_⟩
  refine (callsIn_wide.2 KM.out).mono ?_
  rintro e w1 ⟨rfl, rfl⟩
  clear KM
  gi_wp2
  obtain ⟨a0, a1, a2⟩ := three0 W (.cells #[.string ⟨#[]⟩] 9) (.cells #[.int .u64 0] 29) (.cells #[.bool false] 4)
  exact ⟨_, end_ccc _ _ W.heap.size _ _ _ rfl rfl rfl (cell_of_row _ _ 0 _ _ _ a0) (cell_of_row _ _ 0 _ _ _ a1) (cell_of_row _ _ 0 _ _ _ a2), rfl, HB.out⟩
end Go.Proofs.YtknbhgodhmcemaaDoor.So
namespace Go.Proofs.YtknbhgodhmcemaaDoor.So
set_option linter.unusedSimpArgs false
set_option linter.unusedVariables false
set_option maxRecDepth 100000
open Go.RowKit Go.Proofs.YtknbhgodhmcemaaDoor.Own Go.Proofs.YtknbhgodhmcemaaDoor.Cel Go.Proofs.YtknbhgodhmcemaaDoor.Dk
open Go.Proofs.YtknbhgodhmcemaaDoor.Sl (rclose_calls)
variable {V W W' : World}
set_option maxHeartbeats 16000000 in
theorem rwrite_good {G : Nat → Prop} {lv wv : Value} {S : DS} (h : RK G lv wv S V) (fr room g : Nat) (t : ByteArray) (hr : 1 ≤ room) (hl : fr + room ≤ S.lasts.length) (hN : S.lasts.length ≤ 5000) (hg : g < 18446744073709551616) (ht : t.size ≤ 90000) (hfit : t.size + 4 ≤ 110 * room) (hok : Ok S S.lasts.length (np (summedL t.data.toList).length)) :
    Calls Tryd.prog 22 #[.agg (mvV lv wv S), .int .i64 (fr : Nat), .int .i64 (room : Nat), .int .u64 (g : Nat), .string t] V fun e V' => ∃ mv',
      e = .returned (.tuple #[.agg mv', .int .i64 (wrS fr g (summedL t.data.toList) (np (summedL t.data.toList).length) 0 S).2]) ∧ Rid G mv' (wrS fr g (summedL t.data.toList) (np (summedL t.data.toList).length) 0 S).1 V V' := by
  have h0 := QW.start h
  obtain ⟨G1, lv1, wv1, e1, r1, _⟩ := h0.both
  have KM := rmay_calls r1 (by omega) fr room
  rw [← e1, decide_eq_true (show mayP S.lasts.length fr room from ⟨by omega, by omega, by omega, by omega⟩)] at KM
  obtain ⟨mv, hmv⟩ : ∃ mv, mvV lv wv S = mv := ⟨_, rfl⟩
  rw [hmv] at KM h0 ⊢
  have y0 := h0.m
  have i0 := h0.info
  have K := Asd.mk KM
  have H := Asd.mk h0
  have d1 : decide (110 * (room : Int) < (t.size : Int) + 4) = false := decide_eq_false (by omega)
  have hr5 : room ≤ 5000 := by omega
  have hfr : fr ≤ 5000 := by omega
  have hL := summedL_len t.data.toList
  have htl : t.data.toList.length = t.size := by rw [Array.length_toList]; rfl
  have KP0 := fun V => rparts_calls t g V ht
  obtain ⟨L, hLL⟩ : ∃ L, summedL t.data.toList = L := ⟨_, rfl⟩
  rw [hLL] at hL hok KP0 ⊢
  obtain ⟨R, hR⟩ : ∃ R, wrS fr g L (np L.length) 0 S = R := ⟨_, rfl⟩
  rw [hR]
  obtain ⟨k, hk⟩ : ∃ k, np L.length = k := ⟨_, rfl⟩
  rw [hk] at hok hR KP0
  have hkr : k ≤ room := by unfold np at hk; omega
  obtain ⟨N, hNN⟩ : ∃ N, S.lasts.length = N := ⟨_, rfl⟩
  rw [hNN] at hok hl hN
  have KP := Asd.mk KP0
  have HS0 := Asd.mk (show wrS fr g L (k - 0) 0 S = R ∧ Ok S N (k - 0) from ⟨hR, hok⟩)
  have HLN := Asd.mk (And.intro hl hN)
  clear h KM hmv h0 e1 r1 hr KP0 hR hok hLL hL htl hNN hk hfit hl hN
  go_enter Tryd.func22, Tryd.ntmps22
  go_wp2_with (first | refine wpList_load_row rfl 50 _ rfl V.heap.size rfl 50 _ (0, 0) _ y0 Tryd.underlying50 rfl i0 ?_ | fail)
  refine K.out.mono ?_
  rintro e w1 ⟨rfl, hb⟩
  have H1 := Asd.mk (H.out.step hb)
  clear K H hb y0 i0
  go_wp2_with fail
  refine (KP.out _).mono ?_
  rintro e w2 ⟨v, rfl, hb, hown⟩
  obtain ⟨A, c, rfl⟩ := owns_slice hown
  have H2 := Asd.mk (H1.out.rows hb hown)
  clear KP H1 hb hown
  go_wp2_with fail
  go_loopw [13] (fun iv W => ∃ (i : Nat) (S1 : DS) (mv1 : Array Value), iv = .int .i64 i ∧ i ≤ k ∧ Asd (QW V G (.slice A k c) k (pcells g L k) mv1 mv1 S1 W ∧ wrS fr g L (k - i) i S1 = R ∧ Ok S1 N (k - i))) (fun iv _ => k - (intOf iv).toNat)
  case atStart => exact ⟨0, S, mv, rfl, by omega, ⟨H2.out, HS0.out⟩⟩
  case round =>
    obtain ⟨i, S1, mv1, rfl, hi, HS⟩ := hrel
    clear HS0 H2
    have h1 := HS.out.1
    by_cases hlt : i < k
    rotate_left
    · have hki : k - i = 0 := by omega
      have hRR : R = (S1, 0) := by have := HS.out.2.1; rw [hki, wrS] at this; exact this.symm
      obtain rfl : i = k := by omega
      have y1 := h1.m
      have y2 := h1.z
      have i1 := h1.info
      have o1 := h1.one
      have q2 : zM.size = mv1.size := h1.four.symm
      have HE := Asd.mk h1.done
      clear HS h1 hlt hi hki
      subst hRR
      go_wp2_with (first | refine wpList_load_row rfl 50 _ rfl V.heap.size rfl 50 _ (0, 0) _ y1 Tryd.underlying50 rfl i1 ?_ | refine wpList_store_row rfl 50 _ _ rfl (V.heap.size + 1) mv1 rfl rfl 50 _ y2 i1 q2 o1 ?_ | fail)
      exact bodyPost_ret (Cel.end_cell rfl _ _ _ _ _ y2 rfl Tryd.underlying50 rfl i1) rfl ⟨_, rfl, HE.out⟩
    have hi1 : (i : Int) < (k : Int) := by omega
    obtain ⟨b, rfl⟩ : ∃ b, A = some ⟨b, 0, none⟩ := by
      rcases h1.own.2 with ⟨_, e⟩ | ⟨b, _, _, e, _⟩
      · omega
      · simp only [Value.slice.injEq] at e
        exact ⟨b, e.1⟩
    have hpc : prec g L i = #[.int .u8 (pk L.length i : Nat), .int .u64 (g : Nat), .int .u32 (i : Nat), .string ⟨(pdat L i).toArray⟩] := rfl
    have hcell : ∀ j u, j < 4 → (prec g L i)[j]? = some u → wr.cell? ⟨b, i * 4 + j, none⟩ = some u := fun j u hj hu => by
      have := h1.own.cells (g := b) rfl (i * 4 + j) u (by rw [pcells_get g L i j hj k hlt]; exact hu)
      rw [Seg.addr_add, Nat.zero_add] at this
      exact this
    have hps := psec_close g L i
    have hpz := psec_size g L i
    have KC0 := fun D (V : World) => rclose_calls (pk L.length i) g i D V (pk_lt _ _) hg (by omega)
    obtain ⟨D, hD⟩ : ∃ D, (⟨(pdat L i).toArray⟩ : ByteArray) = D := ⟨_, rfl⟩
    have KC1 := KC0 D
    rw [hD] at hps hpc
    rw [hps] at KC1
    obtain ⟨kd, hkd⟩ : ∃ x, pk L.length i = x := ⟨_, rfl⟩
    rw [hkd] at hpc KC1
    have c0 : wr.cell? ⟨b, i * 4, none⟩ = some (.int .u8 (kd : Nat)) := hcell 0 _ (by omega) (by rw [hpc]; rfl)
    have c1 : wr.cell? ⟨b, i * 4 + 1, none⟩ = some (.int .u64 (g : Nat)) := hcell 1 _ (by omega) (by rw [hpc]; rfl)
    have c2 : wr.cell? ⟨b, i * 4 + 2, none⟩ = some (.int .u32 (i : Nat)) := hcell 2 _ (by omega) (by rw [hpc]; rfl)
    have c3 : wr.cell? ⟨b, i * 4 + 3, none⟩ = some (.string D) := hcell 3 _ (by omega) (by rw [hpc]; rfl)
    obtain ⟨sc, hsc⟩ : ∃ x, psec g L i = x := ⟨_, rfl⟩
    rw [hsc] at KC1 hpz
    have KC := Asd.mk KC1
    have hcast : ((fr + i : Nat) : Int) = (fr : Int) + (i : Int) := by omega
    have hW : wrS fr g L (k - i) i S1 = if (S1.put ((fr : Int) + (i : Int)) sc).2 ≠ 0 then S1.put ((fr : Int) + (i : Int)) sc else wrS fr g L (k - (i + 1)) (i + 1) (S1.put ((fr : Int) + (i : Int)) sc).1 := by
      rw [show k - i = (k - (i + 1)) + 1 by omega, wrS, hcast, hsc]
    have hR2 := HS.out.2.1
    rw [hW] at hR2
    have HO := HS.out.2.2
    have hOK := Ok.put (i := fr + i) (s := sc) (show Ok S1 N ((k - (i + 1)) + 1) by rw [show (k - (i + 1)) + 1 = k - i by omega]; exact HO) (by have := HLN.out.1; omega) hpz
    rw [hcast] at hOK
    obtain ⟨S', q, hP⟩ : ∃ S' q, S1.put ((fr : Int) + (i : Int)) sc = (S', q) := ⟨_, _, rfl⟩
    rw [hP] at hR2 hOK
    dsimp only at hR2 hOK
    have hl1 : S1.lasts.length ≤ 100000 := by rw [HO.len]; have := HLN.out.2; omega
    have ob1 := HO.arm
    have ob2 : S1.waits.length ≤ 1000000 := by have := HO.waits; omega
    have ob3 := HO.ops0
    have ob4 : S1.ops ≤ 4611686018427387904 := by have := HO.ops; omega
    have PUT := Asd.mk (fun (W : World) (h : QW V G (.slice (some ⟨b, 0, none⟩) k c) k (pcells g L k) mv1 mv1 S1 W) => rput_at h ((fr : Int) + (i : Int)) sc hP hl1 ob2 ob1 ob3 ob4)
    have H1 := Asd.mk h1
    have NX := Asd.mk (And.intro hR2 hOK)
    clear hcell hpc hps hpz KC0 KC1 hD hkd hsc hcast hW hR2 HO hOK hP hl1 ob1 ob2 ob3 ob4 h1 HS
    go_wp2_with fail
    refine (KC.out _).mono ?_
    rintro e W1 ⟨rfl, hb⟩
    have h1 := H1.out.step hb
    have y1 := h1.m
    have i1 := h1.info
    have KU := Asd.mk (PUT.out _ h1)
    have q4 := h1.four
    clear KC H1 PUT hb c0 c1 c2 c3 h1
    go_wp2_with (first | refine wpList_load_row rfl 50 _ rfl V.heap.size rfl 50 _ (0, 0) _ y1 Tryd.underlying50 rfl i1 ?_ | fail)
    refine KU.out.mono ?_
    rintro e W2 ⟨mv2, rfl, h2⟩
    obtain ⟨hb16, z16, z16z⟩ := box_new (V := W2) zM mv2 50
    have h3 := h2.step hb16
    have i2 := h2.info
    have o2 := h2.one
    have q5 : zM.size = mv2.size := h2.four.symm
    have q6 : mv1.size = mv2.size := q4.trans h2.four.symm
    have y2 := h3.z
    have y3 := h3.m
    clear KU h2 hb16 y1 i1 q4
    by_cases hq : q = 0
    · subst hq
      have HX := Asd.mk (show QW V G (.slice (some ⟨b, 0, none⟩) k c) k (pcells g L k) mv2 mv2 S' _ ∧ wrS fr g L (k - (i + 1)) (i + 1) S' = R ∧ Ok S' N (k - (i + 1)) from ⟨h3.put, by have := NX.out.1; rw [if_neg (fun e => e rfl)] at this; exact this, NX.out.2⟩)
      clear h3 NX
      go_wp2_with (first | refine wpList_store_row rfl 50 _ _ rfl W2.heap.size mv2 rfl rfl 50 _ z16z i2 q5 o2 ?_ | refine wpList_load_row rfl 50 _ rfl W2.heap.size rfl 50 _ (0, 0) _ z16 Tryd.underlying50 rfl i2 ?_ | refine wpList_store_row rfl 50 _ _ rfl V.heap.size mv2 rfl rfl 50 _ y3 i2 q6 o2 ?_ | fail)
      go_roundw
      case rel => exact ⟨i + 1, S', mv2, by go_num, by omega, HX⟩
      case measure => simp [intOf]; omega
    · have hq' : (q == 0) = false := by simpa using hq
      have hRR : R = (S', q) := by have := NX.out.1; rw [if_pos hq] at this; exact this.symm
      subst hRR
      have HE := Asd.mk h3.done
      clear h3 NX hq
      go_wp2_with (first | refine wpList_store_row rfl 50 _ _ rfl W2.heap.size mv2 rfl rfl 50 _ z16z i2 q5 o2 ?_ | refine wpList_load_row rfl 50 _ rfl W2.heap.size rfl 50 _ (0, 0) _ z16 Tryd.underlying50 rfl i2 ?_ | refine wpList_store_row rfl 50 _ _ rfl (V.heap.size + 1) mv2 rfl rfl 50 _ y2 i2 q5 o2 ?_ | fail)
      exact bodyPost_ret (Cel.end_cell rfl _ _ _ _ _ y2 rfl Tryd.underlying50 rfl i2) rfl ⟨_, rfl, HE.out⟩
end Go.Proofs.YtknbhgodhmcemaaDoor.So
namespace Go.Proofs.YtknbhgodhmcemaaDoor.Lg
set_option linter.unusedSimpArgs false
set_option linter.unusedVariables false
set_option maxRecDepth 100000
open Go.RowKit Go.Proofs.YtknbhgodhmcemaaDoor.Own Go.Proofs.YtknbhgodhmcemaaDoor.Cel Go.Proofs.YtknbhgodhmcemaaDoor.Dk
theorem DY.arm {w V : World} {p : Nat} {S : DS} {X : List (Nat × Obj)} {v : Value} {xs : List ByteArray} (h : DY w p S X v xs V) (n : Int) :
    Calls Tryd.prog 12 #[.pointer (some ⟨p, 0, none⟩), .int .i64 n] V fun e V' => e = .returned (.tuple #[]) ∧ DY w p { S with armed := n } X v xs V' :=
  h.did (Q := fun e => e = .returned (.tuple #[])) (fun F hd => (arm_calls hd n).mono fun _ _ ⟨e, h1, h2⟩ => ⟨e, F, h1, h2, fun _ e => .inl e⟩)
structure KS (w : World) (p b9 : Nat) (av : Value) (all : List ByteArray) (sure n k : Nat) (W : World) : Prop where
  len : all.length = n
  st : ∃ S, DY w p S [(b9, .cells (logV 0 21 5 n) 31 (0, 0))] av all W ∧ LK 0 21 5 all sure S ∧ Sm S n k ∧ Dk.DS.ok S ∧ Full S ∧ S.lasts.length = 21
  lt : w.heap.size ≤ b9
end Go.Proofs.YtknbhgodhmcemaaDoor.Lg
namespace Go.Proofs.YtknbhgodhmcemaaDoor.So
set_option linter.unusedSimpArgs false
set_option linter.unusedVariables false
set_option maxRecDepth 100000
open Go.RowKit Go.Shelf Go.Proofs.YtknbhgodhmcemaaDoor.Own Go.Proofs.YtknbhgodhmcemaaDoor.Cel Go.Proofs.YtknbhgodhmcemaaDoor.Dk
open Go.Proofs.YtknbhgodhmcemaaDoor.Sl (openS openS_len openS_blank)
open Go.Proofs.YtknbhgodhmcemaaDoor.Lg (DY Full fails_armed getD_size)
structure Calm (S : DS) (N k : Nat) : Prop where
  ok : Ok S N k
  full : Full S
  calm : S.armed ≤ 0
theorem Calm.fresh (N k : Nat) (hk : k ≤ 900000) : Calm ⟨List.replicate N (sect 0), [], 0, 0⟩ N k :=
  ⟨⟨fun x hx => absurd hx (by simp), by simp, by show (0 : Int) ≤ 9223372036854775807; omega, by simp; omega, by show (0 : Int) ≤ 0; omega, by show (0 : Int) + k ≤ 1000000000; omega⟩, Full.fresh N 0 0, by show (0 : Int) ≤ 0; omega⟩
theorem wr_full {fr g i n m : Nat} {L : List UInt8} {S : DS} {R : DS × Int} (w : Wrote fr g L i n S R m) (h : Full S) : Full R.1 :=
  ⟨by rw [w.lasts]; exact h.1, fun x hx => by
    rw [w.waits] at hx
    rcases List.mem_append.1 hx with hx | hx
    · exact h.2 x hx
    · obtain ⟨j, _, _, rfl⟩ := ws_mem hx
      exact psec_size g L j⟩
theorem ws_length (fr g : Nat) (L : List UInt8) (i m : Nat) : (ws fr g L i m).length = m := by simp [ws]
theorem wr_ok {fr g i n m N k : Nat} {L : List UInt8} {S : DS} {R : DS × Int} (w : Wrote fr g L i n S R m) (h : Ok S N (k + n)) (hn : fr + i + n ≤ N) : Ok R.1 N k := by
  have h1 := h.len
  have h2 := h.arm
  have h3 := h.waits
  have h4 := h.ops0
  have h5 := h.ops
  have h6 := w.le
  have h7 := w.arm
  have h8 := w.ops
  exact ⟨w.ok h.ok (by omega), by rw [w.lasts]; exact h1, by omega, by rw [w.waits, List.length_append, ws_length]; omega, by omega, by omega⟩
theorem Calm.write {S : DS} {N k : Nat} {L : List UInt8} (h : Calm S N (k + np L.length)) (fr g : Nat) (hl : fr + np L.length ≤ N) :
    ∃ S', wrS fr g L (np L.length) 0 S = (S', 0) ∧ Calm S' N k ∧ (∀ j, j < np L.length → S'.read.getD (fr + j) ByteArray.empty = psec g L j) ∧ (∀ q, ¬ (fr ≤ q ∧ q < fr + np L.length) → S'.read.getD q ByteArray.empty = S.read.getD q ByteArray.empty) := by
  have hlen := h.ok.len
  obtain ⟨m, w⟩ := wrS_spec fr g L (np L.length) 0 S (by omega)
  obtain ⟨c1, c2⟩ := w.calm h.calm
  have hm := w.all c1
  subst hm
  have hr : ∀ q, (wrS fr g L (np L.length) 0 S).1.read.getD q ByteArray.empty = if fr + 0 ≤ q ∧ q < fr + 0 + np L.length then psec g L (q - fr) else S.read.getD q ByteArray.empty := fun q => by
    rw [DS.read, w.lasts, w.waits, applyW_append, applyW_ws fr g L q _ _ 0 _ (by rw [applyW_len]; omega)]
    rfl
  refine ⟨(wrS fr g L (np L.length) 0 S).1, by rw [← c1], ⟨wr_ok w h.ok (by omega), wr_full w h.full, by rw [c2]; exact h.calm⟩, fun j hj => ?_, fun q hq => ?_⟩
  · rw [hr, if_pos (by omega), Nat.add_sub_cancel_left]
  · rw [hr, if_neg (by omega)]
variable {w V : World} {p : Nat} {S : DS} {X : List (Nat × Obj)} {v : Value} {xs : List ByteArray}
theorem DY.swrite (h : DY w p S X v xs V) (fr room g : Nat) (t : ByteArray) (hr : 1 ≤ room) (hl : fr + room ≤ S.lasts.length) (hN : S.lasts.length ≤ 5000) (hg : g < 18446744073709551616) (ht : t.size ≤ 100000) (hfit : t.size + 4 ≤ 110 * room) (hok : Ok S S.lasts.length (np (summedL t.data.toList).length)) :
    Calls Tryd.prog 17 #[.pointer (some ⟨p, 0, none⟩), .int .i64 (fr : Nat), .int .i64 (room : Nat), .int .u64 (g : Nat), .string t] V fun e V' =>
      e = .returned (.int .i64 (wrS fr g (summedL t.data.toList) (np (summedL t.data.toList).length) 0 S).2) ∧ DY w p (wrS fr g (summedL t.data.toList) (np (summedL t.data.toList).length) 0 S).1 X v xs V' :=
  h.did (Q := fun e => e = .returned (.int .i64 (wrS fr g (summedL t.data.toList) (np (summedL t.data.toList).length) 0 S).2)) (fun F hd => write_good hd fr room g t hr hl hN hg ht hfit hok)
theorem DY.dread (h : DY w p S X v xs V) (i : Int) :
    Calls Tryd.prog 39 #[.pointer (some ⟨p, 0, none⟩), .int .i64 i] V fun e V' => e = .returned (.tuple #[.string (S.readAt i).1, .int .i64 (S.readAt i).2]) ∧ V = V' := by
  obtain ⟨F, d⟩ := h.dk
  exact Dk.read_calls d i
theorem DY.sread (h : DY w p S X v xs V) (fr room : Nat) (hr : 1 ≤ room) (hl : fr + room ≤ S.lasts.length) (hN : S.lasts.length ≤ 900) (hF : Full S) :
    Calls Tryd.prog 19 #[.pointer (some ⟨p, 0, none⟩), .int .i64 (fr : Nat), .int .i64 (room : Nat)] V fun e V' =>
      e = .returned (.tuple #[.string (readS S.read fr room).1, .int .u64 ((readS S.read fr room).2.1 : Nat), .bool (readS S.read fr room).2.2]) ∧ Below V.heap.size V V' := by
  obtain ⟨F, d⟩ := h.dk
  exact So.read_calls d fr room hr hl hN (getD_size _ 1000 (fun s hs => by rw [hF.read s hs]; omega))
end Go.Proofs.YtknbhgodhmcemaaDoor.So
namespace Go.Proofs.YtknbhgodhmcemaaDoor.So
set_option linter.unusedSimpArgs false
set_option linter.unusedVariables false
set_option maxRecDepth 100000
open Go.RowKit Go.Shelf Go.Proofs.YtknbhgodhmcemaaDoor.Own Go.Proofs.YtknbhgodhmcemaaDoor.Cel Go.Proofs.YtknbhgodhmcemaaDoor.Dk
open Go.Proofs.YtknbhgodhmcemaaDoor.Sl (Rec openS open_calls recV recV_one)
open Go.Proofs.YtknbhgodhmcemaaDoor.Lg (DY DY.start DY.step Full box_new)
set_option maxHeartbeats 4000000 in
theorem awake15_calls (w : World) : Calls Tryd.prog 16 #[] w fun e w' => e = .returned (.bool true) ∧ Below w.heap.size w w' := by
  have KN := Aside0.mk (new_good 3 w (by omega) (by omega))
  rw [show ((3 : Nat) : Int) = 3 by rfl] at KN
  have hf : Calm ⟨List.replicate 3 (sect 0), [], 0, 0⟩ 3 (0 + np (summedL [97, 98]).length) := Calm.fresh 3 _ (by decide)
  obtain ⟨S', hw, hc, hr, _⟩ := hf.write 1 7 (by decide)
  have hl3 := hc.ok.len
  have e1 : S'.read.getD 1 ByteArray.empty = psec 7 (summedL [97, 98]) 0 := hr 0 (by decide)
  have er : S'.readAt 1 = (psec 7 (summedL [97, 98]) 0, 0) := by
    unfold DS.readAt
    rw [if_pos ⟨by omega, by omega⟩, show (1 : Int).toNat = 1 from rfl, e1]
  have eo : openS (psec 7 (summedL [97, 98]) 0) = (⟨3, 7, 0, ⟨(pdat (summedL [97, 98]) 0).toArray⟩⟩, 0) := by
    rw [psec_open 7 _ 0 (by decide) (by decide)]; rfl
  have hd6 : (⟨(pdat (summedL [97, 98]) 0).toArray⟩ : ByteArray).size = 6 := rfl
  have KO := Aside0.mk (fun V => open_calls (psec 7 (summedL [97, 98]) 0) V (by rw [psec_size]; omega))
  rw [eo] at KO
  obtain ⟨d, hdd⟩ : ∃ d, (⟨(pdat (summedL [97, 98]) 0).toArray⟩ : ByteArray) = d := ⟨_, rfl⟩
  rw [hdd] at KO hd6
  have es : readS S'.read 1 2 = (⟨#[97, 98]⟩, 7, true) := readS_whole _ 1 2 7 [97, 98] (by decide) (by decide) (by decide) hr
  have ER := Aside0.mk er
  have ES := Aside0.mk es
  have HW := Aside0.mk hw
  have HL := Aside0.mk (And.intro hf.ok (And.intro hl3 hc.full))
  clear er es eo e1 hdd hw hc hr hl3 hf
  generalize psec 7 (summedL [97, 98]) 0 = s1 at KO ER
  go_enter Tryd.func16, Tryd.ntmps16
  go_wp2_with fail
  refine KN.out.mono ?_
  rintro x w1 ⟨p, F, rfl, dk, b⟩
  have H := DY.start dk b
  clear dk b KN
  have KW := DY.swrite H 1 1 7 ⟨#[97, 98]⟩ (by decide) (by simp) (by simp) (by decide) (by decide) (by decide) (by simpa using HL.out.1)
  rw [show (⟨#[97, 98]⟩ : ByteArray).data.toList = [97, 98] from rfl, HW.out] at KW
  have KW2 := Aside0.mk KW
  clear KW HW H
  go_wp2_with fail
  refine KW2.out.mono ?_
  rintro x w2 ⟨rfl, h⟩
  have H := Aside0.mk h
  clear h KW2
  go_wp2_with fail
  have KR := DY.dread H.out 1
  rw [ER.out] at KR
  refine KR.mono ?_
  rintro x w3 ⟨rfl, rfl⟩
  clear KR ER
  go_wp2_with fail
  refine (KO.out _).mono ?_
  rintro x V3 ⟨rfl, hb⟩
  replace H := Aside0.mk (H.out.step hb)
  clear hb KO
  obtain ⟨hb, z, z0⟩ := box_new (V := V3) #[.int .u8 0, .int .u64 0, .int .u32 0, .string ⟨#[]⟩] (recV ⟨3, 7, 0, d⟩) 64
  replace H := Aside0.mk (H.out.step hb)
  have HX := Aside0.mk z
  have i2 : (Tryd.prog.info? 64).map (·.size) = some (recV ⟨3, 7, 0, d⟩).size := Sl.infoR
  have q2 := recV_one ⟨3, 7, 0, d⟩
  clear hb z
  go_wp2_with (first | refine wpList_store_row rfl 64 _ _ rfl V3.heap.size (recV ⟨3, 7, 0, d⟩) rfl rfl 64 _ z0 i2 rfl q2 ?_ | fail)
  clear z0 i2 q2
  change Calls _ _ _ ((V3.alloc (.cells #[.int .u8 0, .int .u64 0, .int .u32 0, .string ⟨#[]⟩] 64)).setRow V3.heap.size (recV ⟨3, 7, 0, d⟩)) _
  generalize (V3.alloc (.cells #[.int .u8 0, .int .u64 0, .int .u32 0, .string ⟨#[]⟩] 64)).setRow V3.heap.size (recV ⟨3, 7, 0, d⟩) = V4 at H HX ⊢
  generalize V3.heap.size = b9 at HX ⊢
  have KR := DY.sread H.out 1 2 (by decide) (by rw [HL.out.2.1]; decide) (by rw [HL.out.2.1]; decide) HL.out.2.2
  rw [ES.out] at KR
  dsimp only at KR
  refine KR.mono ?_
  rintro x V5 ⟨rfl, hb⟩
  replace H := Aside0.mk (H.out.step hb)
  replace HX := Aside0.mk (keep HX.out hb)
  clear hb KR
  go_wp2_with fail
  refine (awake12_calls _).mono ?_
  rintro x V7 ⟨rfl, hb⟩
  replace H := Aside0.mk (H.out.step hb)
  replace HX := Aside0.mk (keep HX.out hb)
  clear hb
  go_wp2_with fail
  refine (Sl.awake_calls _).mono ?_
  rintro x V8 ⟨rfl, hb⟩
  replace H := Aside0.mk (H.out.step hb)
  have z9 := keep HX.out hb
  clear hb HX
  have c0 : V8.cell? ⟨b9, 0, none⟩ = some (.int .u8 3) := cell_of_row _ _ 0 _ _ _ z9
  have c3 : V8.cell? ⟨b9, 3, none⟩ = some (.string d) := cell_of_row _ _ 3 _ _ _ z9
  clear z9
  go_wp2
  go_ret
  exact ⟨by first | rfl | decide, H.out.bel⟩
end Go.Proofs.YtknbhgodhmcemaaDoor.So
namespace Go.Proofs.YtknbhgodhmcemaaDoor.So
set_option linter.unusedSimpArgs false
set_option linter.unusedVariables false
set_option maxRecDepth 100000
open Go.RowKit Go.Shelf Go.Proofs.YtknbhgodhmcemaaDoor.Own Go.Proofs.YtknbhgodhmcemaaDoor.Cel Go.Proofs.YtknbhgodhmcemaaDoor.Dk
open Go.Proofs.YtknbhgodhmcemaaDoor.Sl (Rec openS open_calls recV recV_one)
open Go.Proofs.YtknbhgodhmcemaaDoor.Lg (DY DY.start DY.step Full box_new)
theorem np_size (t : ByteArray) : np (summedL t.data.toList).length = (t.size + 113) / 110 := by
  have htl : t.data.toList.length = t.size := by rw [Array.length_toList]; rfl
  rw [summedL_len, htl, np]
end Go.Proofs.YtknbhgodhmcemaaDoor.So
namespace Go.Proofs.YtknbhgodhmcemaaDoor.So
set_option linter.unusedSimpArgs false
set_option linter.unusedVariables false
set_option maxRecDepth 100000
open Go.RowKit Go.Proofs.YtknbhgodhmcemaaDoor.Own Go.Proofs.YtknbhgodhmcemaaDoor.Cel Go.Proofs.YtknbhgodhmcemaaDoor.Dk
open Go.Proofs.YtknbhgodhmcemaaDoor.Lg (Full)
theorem PI.full {n k : Nat} {S : DS} (h : PI n k S) : Full S := ⟨h.l128, h.w128⟩
theorem PI.okw {n k c : Nat} {S : DS} (h : PI n k S) (hk : k + c ≤ 900000) : Ok S S.lasts.length c := ⟨h.ok, rfl, h.ar, by have := h.wl; omega, h.o0, by have := h.o1; omega⟩
theorem PI.small {n k : Nat} {S : DS} (h : PI n k S) (j : Nat) : (S.read.getD j ByteArray.empty).size ≤ 1000 := by
  by_cases hj : j < S.read.length
  · rw [List.getD_eq_getElem?_getD, List.getElem?_eq_getElem hj]
    have := (PI.full h).read _ (List.getElem_mem hj)
    show (S.read[j]'hj).size ≤ 1000
    omega
  · rw [List.getD_eq_getElem?_getD, List.getElem?_eq_none (by omega)]
    exact Nat.zero_le _
theorem PI.wrS {n fr g : Nat} {L : List UInt8} : ∀ (c i k : Nat) (S : DS), PI n k S → PI n (k + c) (wrS fr g L c i S).1
  | 0, _, _, _, h => h
  | c + 1, i, k, S, h => by
    rw [So.wrS]
    split
    · exact (h.put _ _).mono (by omega)
    · have := PI.wrS (fr := fr) (g := g) (L := L) c (i + 1) (k + 1) _ (h.put ((fr + i : Nat) : Int) (psec g L i))
      rw [show k + (c + 1) = k + 1 + c by omega]
      exact this
def rdA (S : DS) (fr room : Int) : ByteArray × Nat × Bool := if mayP S.lasts.length fr room then readS S.read fr.toNat room.toNat else (⟨#[]⟩, 0, false)
def nwA (S : DS) (fr room : Int) : Nat := if mayP S.lasts.length fr room then newS S.read fr.toNat room.toNat else 0
def wrA (S : DS) (fr room : Int) (g : Nat) (t : ByteArray) : DS × Int :=
  if mayP S.lasts.length fr room then (if 110 * room.toNat < t.size + 4 then (S, 11) else wrS fr.toNat g (summedL t.data.toList) (np (summedL t.data.toList).length) 0 S) else (S, 5)
theorem PI.wrA {n k : Nat} {S : DS} (h : PI n k S) (fr room : Int) (g : Nat) (t : ByteArray) (ht : t.size ≤ 1500) : PI n (k + 20) (wrA S fr room g t).1 := by
  unfold So.wrA
  split
  · split
    · exact h.mono (by omega)
    · have := np_size t
      exact (PI.wrS _ 0 k S h).mono (by omega)
  · exact h.mono (by omega)
variable {w V : World} {p : Nat} {S T : DS} {mv : Array Value} {X : List (Nat × Obj)}
theorem PY.sread (h : PY w p S T mv X V) {n k : Nat} (P : PI n k S) (hn : n ≤ 12) (fr room : Int) :
    Calls Tryd.prog 19 #[.pointer (some ⟨p, 0, none⟩), .int .i64 fr, .int .i64 room] V fun e V' => e = .returned (.tuple #[.string (rdA S fr room).1, .int .u64 ((rdA S fr room).2.1 : Nat), .bool (rdA S fr room).2.2]) ∧ Below V.heap.size V V' := by
  obtain ⟨F, G, lv, wv, d, _⟩ := h
  unfold rdA
  by_cases hm : mayP S.lasts.length fr room
  · rw [if_pos hm]
    obtain ⟨f, r, rfl, rfl, h1, h2⟩ := mayP_nat hm
    exact read_calls d f r h1 h2 (by rw [P.len]; omega) (PI.small P)
  · rw [if_neg hm]
    exact sread_no d (by rw [P.len]; omega) fr room hm
theorem PY.snew (h : PY w p S T mv X V) {n k : Nat} (P : PI n k S) (hn : n ≤ 12) (fr room : Int) :
    Calls Tryd.prog 20 #[.pointer (some ⟨p, 0, none⟩), .int .i64 fr, .int .i64 room] V fun e V' => e = .returned (.int .u64 (nwA S fr room : Nat)) ∧ Below V.heap.size V V' := by
  obtain ⟨F, G, lv, wv, d, _⟩ := h
  unfold nwA
  by_cases hm : mayP S.lasts.length fr room
  · rw [if_pos hm]
    obtain ⟨f, r, rfl, rfl, h1, h2⟩ := mayP_nat hm
    exact newest_calls d f r h1 h2 (by rw [P.len]; omega) (PI.small P)
  · rw [if_neg hm]
    exact snew_no d (by rw [P.len]; omega) fr room hm
theorem PY.rsread (h : PY w p S T mv X V) {n k : Nat} (P : PI n k T) (hn : n ≤ 12) (hk : k ≤ 1000) (fr room : Int) :
    Calls Tryd.prog 31 #[.agg mv, .int .i64 fr, .int .i64 room] V fun e V' => e = .returned (.tuple #[.string (rdA T fr room).1, .int .u64 ((rdA T fr room).2.1 : Nat), .bool (rdA T fr room).2.2]) ∧ Below V.heap.size V V' := by
  obtain ⟨F, G, lv, wv, d, bl, rfl, r, _⟩ := h
  unfold rdA
  by_cases hm : mayP T.lasts.length fr room
  · rw [if_pos hm]
    obtain ⟨f, q, rfl, rfl, h1, h2⟩ := mayP_nat hm
    exact rread_good (RdOk.mk' r f q h1 h2 (by rw [P.len]; omega) (by have := P.wl; omega) (PI.small P)) (by rw [P.len] at h2; omega)
  · rw [if_neg hm]
    exact rread_no r (by rw [P.len]; omega) fr room hm
theorem PY.rsnew (h : PY w p S T mv X V) {n k : Nat} (P : PI n k T) (hn : n ≤ 12) (hk : k ≤ 1000) (fr room : Int) :
    Calls Tryd.prog 32 #[.agg mv, .int .i64 fr, .int .i64 room] V fun e V' => e = .returned (.int .u64 (nwA T fr room : Nat)) ∧ Below V.heap.size V V' := by
  obtain ⟨F, G, lv, wv, d, bl, rfl, r, _⟩ := h
  unfold nwA
  by_cases hm : mayP T.lasts.length fr room
  · rw [if_pos hm]
    obtain ⟨f, q, rfl, rfl, h1, h2⟩ := mayP_nat hm
    exact rnew_good (RdOk.mk' r f q h1 h2 (by rw [P.len]; omega) (by have := P.wl; omega) (PI.small P)) (by rw [P.len] at h2; omega)
  · rw [if_neg hm]
    exact rnew_no r (by rw [P.len]; omega) fr room hm
theorem PY.swrite (h : PY w p S T mv X V) {n k : Nat} (P : PI n k S) (hn : n ≤ 12) (hk : k ≤ 1000) (fr room : Int) (g : Nat) (t : ByteArray) (hg : g < 18446744073709551616) (ht : t.size ≤ 1500) :
    Calls Tryd.prog 17 #[.pointer (some ⟨p, 0, none⟩), .int .i64 fr, .int .i64 room, .int .u64 (g : Nat), .string t] V fun e V' => e = .returned (.int .i64 (wrA S fr room g t).2) ∧ PY w p (wrA S fr room g t).1 T mv X V' := by
  have hnp := np_size t
  unfold wrA
  by_cases hm : mayP S.lasts.length fr room
  · rw [if_pos hm]
    obtain ⟨f, r, rfl, rfl, h1, h2⟩ := mayP_nat hm
    rw [Int.toNat_natCast, Int.toNat_natCast]
    by_cases hl : 110 * r < t.size + 4
    · rw [if_pos hl]
      obtain ⟨F, G, lv, wv, d, _⟩ := id h
      refine (write_long d f r g t h1 h2 (by rw [P.len]; omega) hl).mono ?_
      rintro e V' ⟨rfl, rfl⟩
      exact ⟨rfl, h⟩
    · rw [if_neg hl]
      exact h.did (fun F d => write_good d f r g t h1 h2 (by rw [P.len]; omega) hg (by omega) (by omega) (PI.okw P (by omega)))
  · rw [if_neg hm]
    obtain ⟨F, G, lv, wv, d, _⟩ := id h
    refine (swrite_no d (by rw [P.len]; omega) fr room g t hm).mono ?_
    rintro e V' ⟨rfl, rfl⟩
    exact ⟨rfl, h⟩
theorem PY.rswrite (h : PY w p S T mv X V) {n k : Nat} (P : PI n k T) (hn : n ≤ 12) (hk : k ≤ 1000) (fr room : Int) (g : Nat) (t : ByteArray) (hg : g < 18446744073709551616) (ht : t.size ≤ 1500) :
    Calls Tryd.prog 22 #[.agg mv, .int .i64 fr, .int .i64 room, .int .u64 (g : Nat), .string t] V fun e V' => ∃ mv', e = .returned (.tuple #[.agg mv', .int .i64 (wrA T fr room g t).2]) ∧ PY w p S (wrA T fr room g t).1 mv' X V' := by
  have hnp := np_size t
  refine h.ref (R := fun m => .returned (.tuple #[.agg m, .int .i64 (wrA T fr room g t).2])) (fun G lv wv e r => ?_)
  subst e
  unfold wrA
  by_cases hm : mayP T.lasts.length fr room
  · rw [if_pos hm]
    obtain ⟨f, q, rfl, rfl, h1, h2⟩ := mayP_nat hm
    rw [Int.toNat_natCast, Int.toNat_natCast]
    by_cases hl : 110 * q < t.size + 4
    · rw [if_pos hl]
      exact rwrite_long r (by rw [P.len]; omega) f q g t h1 h2 (by omega) hl
    · rw [if_neg hl]
      exact rwrite_good r f q g t h1 h2 (by rw [P.len]; omega) hg (by omega) (by omega) (PI.okw P (by omega))
  · rw [if_neg hm]
    exact rwrite_no r (by rw [P.len]; omega) fr room g t hm
end Go.Proofs.YtknbhgodhmcemaaDoor.So
namespace Go.Proofs.YtknbhgodhmcemaaDoor.So
set_option linter.unusedVariables false
set_option maxRecDepth 100000
open Go.RowKit Go.Proofs.YtknbhgodhmcemaaDoor.Own Go.Proofs.YtknbhgodhmcemaaDoor.Cel Go.Proofs.YtknbhgodhmcemaaDoor.Dk
structure A15 where
  k : Nat
  fr : Int
  rm : Int
  g : Nat
  t : ByteArray
  n : Int
  b : Nat
  A : Option Addr
  c : Nat
  ks : List Bool
theorem karg_far {A : Option Addr} {ks : List Bool} {V V' : World} {B : Nat} (h : KArg A ks V) (hs : V.heap.size ≤ B) (hb : Below B V V') : KArg A ks V' := fun i hi => by
  obtain ⟨b, o, e, hc⟩ := h i hi
  have hlt : b < V.heap.size := World.block_lt_of_cell? V _ hc
  exact ⟨b, o, e, (World.cell?_of_block (hb.block b (by omega))).trans hc⟩
def Act1 (b q : Nat) (x : A15) (V : World) : Prop :=
  V.cell? ⟨b, q, none⟩ = some (.int .u8 (x.k : Nat)) ∧ V.cell? ⟨b, q + 1, none⟩ = some (.int .i64 x.fr) ∧ V.cell? ⟨b, q + 2, none⟩ = some (.int .i64 x.rm) ∧ V.cell? ⟨b, q + 3, none⟩ = some (.int .u64 (x.g : Nat)) ∧
  V.cell? ⟨b, q + 4, none⟩ = some (.string x.t) ∧ V.cell? ⟨b, q + 5, none⟩ = some (.int .i64 x.n) ∧ V.cell? ⟨b, q + 6, none⟩ = some (.int .u8 (x.b : Nat)) ∧ V.cell? ⟨b, q + 7, none⟩ = some (.slice x.A x.ks.length x.c) ∧
  KArg x.A x.ks V ∧ x.ks.length ≤ 9223372036854775807 ∧ x.n ≤ 9223372036854775807 ∧ x.g < 18446744073709551616 ∧ x.k < 256 ∧ x.b < 256
def Acts (A : Option Addr) (l : List A15) (V : World) : Prop := ∀ j (h : j < l.length), ∃ b o, A = some ⟨b, o, none⟩ ∧ Act1 b (o + j * 8) (l[j]'h) V
theorem cell_far {V V' : World} {B b q : Nat} {v : Value} (h : V.cell? ⟨b, q, none⟩ = some v) (hs : V.heap.size ≤ B) (hb : Below B V V') : V'.cell? ⟨b, q, none⟩ = some v := by
  have hlt : b < V.heap.size := World.block_lt_of_cell? V _ h
  exact (World.cell?_of_block (hb.block b (by omega))).trans h
theorem Acts.far {A : Option Addr} {l : List A15} {V V' : World} {B : Nat} (h : Acts A l V) (hs : V.heap.size ≤ B) (hb : Below B V V') : Acts A l V' := fun i hi => by
  obtain ⟨b, o, e, h0, h1, h2, h3, h4, h5, h6, h7, h8, h9⟩ := h i hi
  exact ⟨b, o, e, cell_far h0 hs hb, cell_far h1 hs hb, cell_far h2 hs hb, cell_far h3 hs hb, cell_far h4 hs hb, cell_far h5 hs hb, cell_far h6 hs hb, cell_far h7 hs hb, karg_far h8 hs hb, h9⟩
theorem list_of {α : Type} {P : Nat → α → Prop} : ∀ (n : Nat), (∀ i, i < n → ∃ x, P i x) → ∃ l : List α, l.length = n ∧ ∀ i (h : i < l.length), P i (l[i]'h)
  | 0, _ => ⟨[], rfl, fun i h => absurd h (by simp)⟩
  | n + 1, H => by
    obtain ⟨l, hl, hP⟩ := list_of n (fun i hi => H i (by omega))
    obtain ⟨x, hx⟩ := H n (by omega)
    refine ⟨l ++ [x], by rw [List.length_append, hl]; rfl, fun i h => ?_⟩
    by_cases e : i < l.length
    · rw [List.getElem_append_left e]; exact hP i e
    · have : i = n := by rw [List.length_append] at h; simp at h; omega
      subst this
      rw [List.getElem_append_right (by omega)]
      simp only [hl, Nat.sub_self, List.getElem_cons_zero]
      exact hx
theorem list8 : ∀ (cs : List Value), cs.length = 8 → ∃ a b c d e f g h, cs = [a, b, c, d, e, f, g, h]
  | [a, b, c, d, e, f, g, h], _ => ⟨a, b, c, d, e, f, g, h, rfl⟩
theorem plain_addr' {W : World} {a : Addr} {v : Value} (h : W.cell? (a.add 0) = some v) : ∃ b o, a = ⟨b, o, none⟩ := by
  have h1 := World.cell?_spot h
  obtain ⟨b, o, spot⟩ := a
  cases spot with
  | none => exact ⟨b, o, rfl⟩
  | some s => simp [Addr.add] at h1
theorem ks_of {H : Type} {enc : TypeId × Value → H} {W : World} {base : Nat} {spare : Nat → Bool} {held : Bool} {fuel : Nat} {x : Value} {y : DataW H × List MemPlace}
    (hf : DataW.trod enc Tryd.prog W base spare held fuel 23 [x] = some y) : ∃ A c ks, x = .slice A ks.length c ∧ KArg A ks W ∧ ks.length ≤ 9223372036854775807 := by
  have hcz : Tryd.prog.cellsOf 4 = 1 := by kernel_rfl
  rcases DataW.trod_slice Tryd.underlying23 hf with ⟨hc, _⟩ | ⟨a', len', cap', elems, rest, n, _, hc, hx, hb, hl, hm, hlen, hel, hsp, hns⟩
  · simp at hc
    subst hc
    exact ⟨none, 0, [], rfl, fun j hj => absurd hj (by simp), by simp⟩
  · simp at hc
    subst hc
    have each : ∀ i, i < len' → ∃ z, W.cell? (a'.add i) = some (.bool z) := fun i hi => by
      have h2 := hel i hi
      rw [List.getElem?_eq_getElem (by omega), hcz, Nat.mul_one, Option.bind_eq_some_iff] at h2
      obtain ⟨cs', hcs, hy⟩ := h2
      obtain ⟨z, rfl, _⟩ := DataW.trod_bool Tryd.underlying4 hy
      exact ⟨z, Go.ChangeShapes.cell_of_cells?_one hcs⟩
    refine ⟨some a', cap', (List.range len').map (fun i => match W.cell? (a'.add i) with | some (.bool z) => z | _ => false), by rw [List.length_map, List.length_range], fun j hj => ?_, ?_⟩
    · have hj2 : j < len' := by simpa using hj
      obtain ⟨z0, hz0⟩ := each 0 (by omega)
      obtain ⟨b, o, rfl⟩ := plain_addr' hz0
      obtain ⟨z, hz⟩ := each j hj2
      refine ⟨b, o, rfl, ?_⟩
      have hz' := hz
      rw [Seg.addr_add] at hz'
      rw [hz', List.getElem_map, List.getElem_range, hz]
    · rw [List.length_map, List.length_range]
      unfold maxLen at hm
      omega
theorem open_acts {H : Type} {enc : TypeId × Value → H} {W : World} {base : Nat} {spare : Nat → Bool} {held : Bool} {r : Reach} {b0 : Nat} {v : Value} {d : DataW H} {ps : List MemPlace}
    (hv : Value.okWide Tryd.prog W r b0 47 v) (h : DataW.Trod enc Tryd.prog W base spare held 47 v d ps) :
    ∃ A c l, v = .slice A l.length c ∧ Acts A l W ∧ l.length ≤ 9223372036854775807 := by
  obtain ⟨A, len, cap, rfl⟩ := Go.WideShapes.okWide_slice Tryd.underlying47 hv
  obtain ⟨fuel, hf⟩ := h
  have hz : Tryd.prog.cellsOf 53 = 8 := by kernel_rfl
  rcases DataW.trod_slice Tryd.underlying47 hf with ⟨hc, _⟩ | ⟨a, len', cap', es, rs, m, rfl, hc, _, hb, hl, hm, he, hr, _, _⟩
  · simp [Value.cells] at hc
    obtain ⟨rfl, rfl, rfl⟩ := hc
    exact ⟨none, 0, [], rfl, fun j hj => absurd hj (by simp), by simp⟩
  · simp [Value.cells] at hc
    obtain ⟨rfl, rfl, rfl⟩ := hc
    have key : ∀ i, i < len → ∃ x : A15, ∃ b o, some a = some ⟨b, o, none⟩ ∧ Act1 b (o + i * 8) x W := by
      intro i hi
      have h1 := hr i hi
      rw [hz] at h1
      have h2 : es[i]? = some (es[i]'(by omega)) := List.getElem?_eq_getElem _
      rw [h2, Option.bind_eq_some_iff] at h1
      obtain ⟨cs, hcs, ht2⟩ := h1
      obtain ⟨_, hlen, hat⟩ := World.cells?_some hcs
      obtain ⟨zs, n, _, _, _, hzl, hy⟩ := DataW.trod_struct Tryd.underlying53 ht2
      have hl8 : zs.length = 8 := hzl
      obtain ⟨b0, b1, b2, b3, b4, b5, b6, b7, rfl⟩ := list8 cs hlen
      have f0 : DataW.trod enc Tryd.prog W base spare held n 5 (List.take (Tryd.prog.cellsOf 5) (List.drop 0 [b0, b1, b2, b3, b4, b5, b6, b7])) = zs[0]? := hy 0 _ rfl
      have f1 : DataW.trod enc Tryd.prog W base spare held n 3 (List.take (Tryd.prog.cellsOf 3) (List.drop 1 [b0, b1, b2, b3, b4, b5, b6, b7])) = zs[1]? := hy 1 _ rfl
      have f2 : DataW.trod enc Tryd.prog W base spare held n 3 (List.take (Tryd.prog.cellsOf 3) (List.drop 2 [b0, b1, b2, b3, b4, b5, b6, b7])) = zs[2]? := hy 2 _ rfl
      have f3 : DataW.trod enc Tryd.prog W base spare held n 29 (List.take (Tryd.prog.cellsOf 29) (List.drop 3 [b0, b1, b2, b3, b4, b5, b6, b7])) = zs[3]? := hy 3 _ rfl
      have f4 : DataW.trod enc Tryd.prog W base spare held n 9 (List.take (Tryd.prog.cellsOf 9) (List.drop 4 [b0, b1, b2, b3, b4, b5, b6, b7])) = zs[4]? := hy 4 _ rfl
      have f5 : DataW.trod enc Tryd.prog W base spare held n 3 (List.take (Tryd.prog.cellsOf 3) (List.drop 5 [b0, b1, b2, b3, b4, b5, b6, b7])) = zs[5]? := hy 5 _ rfl
      have f6 : DataW.trod enc Tryd.prog W base spare held n 5 (List.take (Tryd.prog.cellsOf 5) (List.drop 6 [b0, b1, b2, b3, b4, b5, b6, b7])) = zs[6]? := hy 6 _ rfl
      have f7 : DataW.trod enc Tryd.prog W base spare held n 23 (List.take (Tryd.prog.cellsOf 23) (List.drop 7 [b0, b1, b2, b3, b4, b5, b6, b7])) = zs[7]? := hy 7 _ rfl
      rw [show Tryd.prog.cellsOf 5 = 1 by kernel_rfl, List.getElem?_eq_getElem (show 0 < zs.length by omega)] at f0
      rw [show Tryd.prog.cellsOf 3 = 1 by kernel_rfl, List.getElem?_eq_getElem (show 1 < zs.length by omega)] at f1
      rw [show Tryd.prog.cellsOf 3 = 1 by kernel_rfl, List.getElem?_eq_getElem (show 2 < zs.length by omega)] at f2
      rw [show Tryd.prog.cellsOf 29 = 1 by kernel_rfl, List.getElem?_eq_getElem (show 3 < zs.length by omega)] at f3
      rw [show Tryd.prog.cellsOf 9 = 1 by kernel_rfl, List.getElem?_eq_getElem (show 4 < zs.length by omega)] at f4
      rw [show Tryd.prog.cellsOf 3 = 1 by kernel_rfl, List.getElem?_eq_getElem (show 5 < zs.length by omega)] at f5
      rw [show Tryd.prog.cellsOf 5 = 1 by kernel_rfl, List.getElem?_eq_getElem (show 6 < zs.length by omega)] at f6
      rw [show Tryd.prog.cellsOf 23 = 1 by kernel_rfl, List.getElem?_eq_getElem (show 7 < zs.length by omega)] at f7
      obtain ⟨x0, e0, _, w0⟩ := DataW.trod_int Tryd.underlying5 f0
      obtain ⟨x1, e1, _, w1⟩ := DataW.trod_int Tryd.underlying3 f1
      obtain ⟨x2, e2, _, w2⟩ := DataW.trod_int Tryd.underlying3 f2
      obtain ⟨x3, e3, _, w3⟩ := DataW.trod_int Tryd.underlying29 f3
      obtain ⟨x4, e4, _⟩ := DataW.trod_string Tryd.underlying9 f4
      obtain ⟨x5, e5, _, w5⟩ := DataW.trod_int Tryd.underlying3 f5
      obtain ⟨x6, e6, _, w6⟩ := DataW.trod_int Tryd.underlying5 f6
      obtain ⟨Ak, ck, ks, e7, hk, hkl⟩ := ks_of f7
      simp at e0 e1 e2 e3 e4 e5 e6 e7
      subst e0 e1 e2 e3 e4 e5 e6 e7
      have q0 := hat 0 (by omega)
      have q1 := hat 1 (by omega)
      have q2 := hat 2 (by omega)
      have q3 := hat 3 (by omega)
      have q4 := hat 4 (by omega)
      have q5 := hat 5 (by omega)
      have q6 := hat 6 (by omega)
      have q7 := hat 7 (by omega)
      have hpl : ∃ b o, a = ⟨b, o, none⟩ := by
        have h0 := hr 0 (by omega)
        rw [hz, List.getElem?_eq_getElem (show 0 < es.length by omega), Option.bind_eq_some_iff] at h0
        obtain ⟨cs, hcs, _⟩ := h0
        obtain ⟨_, hl0, hat0⟩ := World.cells?_some hcs
        obtain ⟨y0, y1, y2, y3, y4, y5, y6, y7, rfl⟩ := list8 cs hl0
        have h1 := World.cell?_spot (hat0 0 (by omega))
        obtain ⟨b, o, spot⟩ := a
        cases spot with
        | none => exact ⟨b, o, rfl⟩
        | some s => simp [Addr.add] at h1
      clear hy ht2 hat f0 f1 f2 f3 f4 f5 f6 f7 hlen hcs hr hf hv
      obtain ⟨b, o, rfl⟩ := hpl
      rw [Seg.addr_add, Seg.addr_add] at q0 q1 q2 q3 q4 q5 q6 q7
      simp [Lit.wf, IntKind.min, IntKind.max, IntKind.signed, IntKind.bits] at w0 w3 w5 w6
      obtain ⟨n0, rfl⟩ := Int.eq_ofNat_of_zero_le w0.1
      obtain ⟨n3, rfl⟩ := Int.eq_ofNat_of_zero_le w3.1
      obtain ⟨n6, rfl⟩ := Int.eq_ofNat_of_zero_le w6.1
      exact ⟨⟨n0, x1, x2, n3, x4, x5, n6, Ak, ck, ks⟩, b, o, rfl, q0, q1, q2, q3, q4, q5, q6, q7, hk, hkl, by dsimp only; omega, by dsimp only; omega, by dsimp only; omega, by dsimp only; omega⟩
    obtain ⟨l, rfl, hp⟩ := list_of len key
    exact ⟨some a, cap, l, rfl, fun j hj => hp j hj, by unfold maxLen at hm; omega⟩
end Go.Proofs.YtknbhgodhmcemaaDoor.So
namespace Go.Proofs.YtknbhgodhmcemaaDoor.So
set_option linter.unusedSimpArgs false
set_option linter.unusedVariables false
set_option maxRecDepth 100000
open Go.RowKit Go.Proofs.YtknbhgodhmcemaaDoor.Own Go.Proofs.YtknbhgodhmcemaaDoor.Cel Go.Proofs.YtknbhgodhmcemaaDoor.Dk
open Go.Proofs.YtknbhgodhmcemaaDoor.Sl (close_calls close_ok sector)
abbrev zA15 : Array Value := #[.int .u8 0, .int .i64 0, .int .i64 0, .int .u64 0, .string ⟨#[]⟩, .int .i64 0, .int .u8 0, .slice none 0 0]
abbrev actv (k : Nat) (fr rm : Int) (g : Nat) (t : ByteArray) (n : Int) (b : Nat) (A : Option Addr) (nk c : Nat) : Array Value :=
  #[.int .u8 (k : Nat), .int .i64 fr, .int .i64 rm, .int .u64 (g : Nat), .string t, .int .i64 n, .int .u8 (b : Nat), .slice A nk c]
theorem infoA15 : (Tryd.prog.info? 53).map (·.size) = some 8 := by kernel_rfl
set_option maxHeartbeats 16000000 in
theorem plays15_early (sz : Int) (A : Option Addr) (n1 c : Nat) (w : World) (m1 : n1 ≤ 9223372036854775807) (h : (sz < 1 ∨ 12 < sz) ∨ 30 < n1) :
    Calls Tryd.prog 6 #[.int .i64 sz, .slice A n1 c] w fun e w' => e = .returned (.bool true) ∧ Below w.heap.size w w' := by
  by_cases a : sz < 1
  · have t0 : decide (sz < 1) = true := decide_eq_true a
    clear a h
    go_enter Tryd.func6, Tryd.ntmps6
    go_wp2_with fail
    refine (awake15_calls _).mono ?_
    rintro x w3 ⟨rfl, hb⟩
    have HB := Asd.mk hb
    clear hb
    go_wp2
    go_ret
    exact ⟨rfl, HB.out⟩
  have t0 : decide (sz < 1) = false := decide_eq_false a
  by_cases b : 12 < sz
  · have t1 : decide (12 < sz) = true := decide_eq_true b
    clear a h b
    go_enter Tryd.func6, Tryd.ntmps6
    go_wp2_with fail
    refine (awake15_calls _).mono ?_
    rintro x w3 ⟨rfl, hb⟩
    have HB := Asd.mk hb
    clear hb
    go_wp2
    go_ret
    exact ⟨rfl, HB.out⟩
  have t1 : decide (12 < sz) = false := decide_eq_false b
  have d : 30 < n1 := h.elim (fun x => (x.elim a b).elim) id
  have t2 : decide (30 < (n1 : Int)) = true := decide_eq_true (by omega)
  have t2' : decide (30 < n1) = true := decide_eq_true d
  clear a h b d
  go_enter Tryd.func6, Tryd.ntmps6
  go_wp2_with fail
  refine (awake15_calls _).mono ?_
  rintro x w3 ⟨rfl, hb⟩
  have HB := Asd.mk hb
  clear hb
  go_wp2
  go_ret
  exact ⟨rfl, HB.out⟩
def LY (w : World) (p N bm j : Nat) (W : World) : Prop := ∃ S mv, PI N (20 * j) S ∧ PY w p S S mv [(bm, .cells mv 50 (0, 0))] W
def LA (w : World) (p N bm ba j : Nat) (ac : Array Value) (e c : Value) (W : World) : Prop := ∃ (q : Int) (S : DS) (mv : Array Value), e = .int .i64 q ∧ c = .int .i64 q ∧ PI N (20 * (j + 1)) S ∧
  PY w p S S mv [(bm, .cells mv 50 (0, 0)), (ba, .cells ac 53 (0, 0))] W
theorem tmod_lo (n : Int) (m : Int) (hm : 0 < m) : -m < n.tmod m := Int.lt_tmod_of_pos n hm
theorem tmod_hi (n : Int) (m : Int) (hm : 0 < m) : n.tmod m < m := Int.tmod_lt_of_pos n hm
set_option maxHeartbeats 40000000 in
theorem plays15_main (N : Nat) (A : Option Addr) (c : Nat) (l : List A15) (w : World) (h1 : Acts A l w) (m1 : l.length ≤ 30) (hN0 : 1 ≤ N) (hN : N ≤ 12) :
    Calls Tryd.prog 6 #[.int .i64 (N : Nat), .slice A l.length c] w fun e w' => e = .returned (.bool true) ∧ Below w.heap.size w w' := by
  obtain ⟨n1, hn1⟩ : ∃ n, l.length = n := ⟨_, rfl⟩
  rw [hn1] at m1 ⊢
  have H1 := Asd.mk h1
  have N1 := Asd.mk hn1
  have HN := Asd.mk (And.intro hN0 hN)
  have t0 : decide ((N : Int) < 1) = false := decide_eq_false (by omega)
  have t0' : decide (N < 1) = false := decide_eq_false (by omega)
  have t1 : decide (12 < (N : Int)) = false := decide_eq_false (by omega)
  have t1' : decide (12 < N) = false := decide_eq_false (by omega)
  have t2 : decide (30 < (n1 : Int)) = false := decide_eq_false (by omega)
  have t2' : decide (30 < n1) = false := decide_eq_false (by omega)
  have KN := Asd.mk (new_good N w hN0 (by omega))
  clear h1 hn1 hN0 hN
  go_enter Tryd.func6, Tryd.ntmps6
  go_wp2_with fail
  refine KN.out.mono ?_
  rintro x w1 ⟨p, F, rfl, d, b⟩
  clear KN
  have HD := Asd.mk (And.intro d b)
  clear d b
  go_wp2_with fail
  refine (rnew_calls _ N (by have := HN.out; omega)).mono ?_
  rintro x W2 ⟨mv0, rfl, hr⟩
  have h2 := PY.start HD.out.1 HD.out.2 hr
  clear HD hr
  obtain ⟨hb, z3, z3z⟩ := box_new (V := W2) zM mv0 50
  have i0 := h2.info
  have o0 := h2.one
  have q0 : zM.size = mv0.size := h2.four.symm
  have H0 := Asd.mk (show LY w p N W2.heap.size 0 ((W2.alloc (.cells zM 50)).setRow W2.heap.size mv0) from ⟨bornN N, mv0, PI.born N, h2.add hb (Nat.le_refl _) z3⟩)
  clear h2 hb z3
  go_upto_region 7 with (first | refine wpList_store_row rfl 50 _ _ rfl W2.heap.size mv0 rfl rfl 50 _ z3z i0 q0 o0 ?_ | fail)
  clear z3z i0 o0 q0
  go_wp2_with fail
  go_loopw [43] (fun iv W => ∃ (i : Nat), iv = .int .i64 i ∧ i ≤ n1 ∧ Asd (LY w p N W2.heap.size i W)) (fun iv _ => n1 - (intOf iv).toNat)
  case atStart => exact ⟨0, rfl, by omega, H0⟩
  case round =>
    obtain ⟨j, rfl, hj, HK⟩ := hrel
    clear H0
    generalize W2.heap.size = bm at HK ⊢
    obtain ⟨S, mv, P, hy⟩ := HK.out
    clear HK
    by_cases hlt : j < n1
    rotate_left
    · obtain rfl : j = n1 := by omega
      have HB := Asd.mk hy.bel
      clear hy P hlt hj
      go_wp2_with fail
      refine (awake15_calls _).mono ?_
      rintro x w3 ⟨rfl, hb⟩
      have HE := Asd.mk (HB.out.trans (hb.mono HB.out.size))
      clear hb HB
      go_wp2
      go_ret
      exact ⟨rfl, HE.out⟩
    have hj1 : (j : Int) < (n1 : Int) := by omega
    have hjl : j < l.length := by rw [N1.out]; exact hlt
    obtain ⟨ab, ao, rfl, a0, a1, a2, a3, a4, a5, a6, a7, ak, akl, an, ag, ak8, ab8⟩ := (H1.out.far (Nat.le_refl _) hy.bel) j hjl
    have akw : KArg (l[j]'hjl).A (l[j]'hjl).ks w := by
      obtain ⟨_, _, _, _, _, _, _, _, _, _, _, x, _⟩ := H1.out j hjl
      exact x
    obtain ⟨⟨k, fr, rm, g, t, n, b, A', c', ks⟩, ha⟩ : ∃ a, l[j]'hjl = a := ⟨_, rfl⟩
    rw [ha] at a0 a1 a2 a3 a4 a5 a6 a7 ak akl an ag ak8 ab8 akw
    dsimp only at a0 a1 a2 a3 a4 a5 a6 a7 ak akl an ag ak8 ab8 akw
    obtain ⟨nk, hnk⟩ : ∃ q, ks.length = q := ⟨_, rfl⟩
    rw [hnk] at a7 akl
    have hzm := heap_lt (hy.at List.mem_cons_self)
    obtain ⟨hb9, z9, z9z⟩ := box_new (V := wr) zA15 (actv k fr rm g t n b A' nk c') 53
    have h9 := hy.add hb9 (Nat.le_refl _) z9
    have iA : (Tryd.prog.info? 53).map (·.size) = some (actv k fr rm g t n b A' nk c').size := infoA15
    have oA : (actv k fr rm g t n b A' nk c').all (·.oneCell') = true := by simp [Value.oneCell']
    have f4 : ((wr.alloc (.cells zA15 53)).setRow wr.heap.size (actv k fr rm g t n b A' nk c')).cell? ⟨wr.heap.size, 4, none⟩ = some (.string t) := cell_of_row _ _ 4 _ _ _ z9
    have f7 : ((wr.alloc (.cells zA15 53)).setRow wr.heap.size (actv k fr rm g t n b A' nk c')).cell? ⟨wr.heap.size, 7, none⟩ = some (.slice A' nk c') := cell_of_row _ _ 7 _ _ _ z9
    have f0 : ((wr.alloc (.cells zA15 53)).setRow wr.heap.size (actv k fr rm g t n b A' nk c')).cell? ⟨wr.heap.size, 0, none⟩ = some (.int .u8 (k : Nat)) := cell_of_row _ _ 0 _ _ _ z9
    clear hy hb9 ak hlt ha hjl
    by_cases g1 : 1500 < t.size
    · have t3 : decide (1500 < (t.size : Int)) = true := decide_eq_true (by omega)
      have t3' : decide (1500 < t.size) = true := decide_eq_true g1
      clear g1
      have HB := Asd.mk h9.bel
      clear h9 P akw an ag ak8 ab8 hzm hnk
      go_upto_region 10 with (first | refine wpList_store_row rfl 53 _ _ rfl wr.heap.size (actv k fr rm g t n b A' nk c') rfl rfl 53 _ z9z iA rfl oA ?_ | fail)
      go_wp2_with fail
      refine (awake15_calls _).mono ?_
      rintro x w3 ⟨rfl, hb⟩
      have HE := Asd.mk (HB.out.trans (hb.mono HB.out.size))
      clear hb HB
      go_wp2
      go_ret
      exact ⟨rfl, HE.out⟩
    have t3 : decide (1500 < (t.size : Int)) = false := decide_eq_false (by omega)
    have t3' : decide (1500 < t.size) = false := decide_eq_false g1
    by_cases g2 : 50 < nk
    · have t4 : decide (50 < (nk : Int)) = true := decide_eq_true (by omega)
      have t4' : decide (50 < nk) = true := decide_eq_true g2
      clear g1 g2
      have HB := Asd.mk h9.bel
      clear h9 P akw an ag ak8 ab8 hzm hnk
      go_upto_region 10 with (first | refine wpList_store_row rfl 53 _ _ rfl wr.heap.size (actv k fr rm g t n b A' nk c') rfl rfl 53 _ z9z iA rfl oA ?_ | fail)
      go_wp2_with fail
      refine (awake15_calls _).mono ?_
      rintro x w3 ⟨rfl, hb⟩
      have HE := Asd.mk (HB.out.trans (hb.mono HB.out.size))
      clear hb HB
      go_wp2
      go_ret
      exact ⟨rfl, HE.out⟩
    have t4 : decide (50 < (nk : Int)) = false := decide_eq_false (by omega)
    have t4' : decide (50 < nk) = false := decide_eq_false g2
    have ht15 : t.size ≤ 1500 := by omega
    have hk50 : ks.length ≤ 1000000 := by omega
    have HA := Asd.mk (And.intro akw (And.intro hk50 (And.intro an (And.intro ag (And.intro ab8 (And.intro ht15 hnk))))))
    have HP := Asd.mk P
    have H9 := Asd.mk (h9.sub (Y := [(bm, .cells mv 50 (0, 0)), (wr.heap.size, .cells (actv k fr rm g t n b A' nk c') 53 (0, 0))]) (fun y hy => by simp only [List.mem_cons, List.not_mem_nil, or_false] at hy ⊢; rcases hy with h | h <;> simp [h]))
    have HNE := Asd.mk (show wr.heap.size ≠ bm by omega)
    clear P h9 g1 g2 akw an ag ak8 ab8 hzm hnk ht15 hk50
    go_upto_region 10 with (first | refine wpList_store_row rfl 53 _ _ rfl wr.heap.size (actv k fr rm g t n b A' nk c') rfl rfl 53 _ z9z iA rfl oA ?_ | fail)
    go_upto_block 2 with fail
    clear a0 a1 a2 a3 a4 a5 a6 a7 iA oA f0 f4 f7 z9z t3 t3' t4 t4'
    generalize (wr.alloc (.cells zA15 53)).setRow wr.heap.size (actv k fr rm g t n b A' nk c') = W5 at z9 H9 ⊢
    generalize wr.heap.size = ba at z9 H9 HNE ⊢
    clear z9
    go_cut [10, 11, 12, 13] from 44 to 232 (fun e c y z wx => Asd (LA w p N bm ba j (actv k fr rm g t n b A' nk c') e c wx))
    case first =>
      have h := H9.out
      have P := HP.out
      obtain ⟨akw, hk50, an, ag, ab8, ht15, hnk⟩ := HA.out
      have hN12 : N ≤ 12 := HN.out.2
      have hN1 : 1 ≤ N := HN.out.1
      have hw : S.waits.length ≤ 1000000 := by have := P.wl; omega
      have ho : S.ops ≤ 4611686018427387904 := by have := P.o1; omega
      have hl0 : 0 < S.lasts.length := by rw [P.len]; omega
      have hl1 : S.lasts.length ≤ 100000 := by rw [P.len]; omega
      have HC := Asd.mk (And.intro hN12 (And.intro hw (And.intro ho (And.intro hl0 hl1))))
      have hj20 : 20 * j ≤ 1000 := by omega
      have HJ := Asd.mk hj20
      by_cases k0 : k = 0
      · as_aux_lemma =>
          have KW0 := PY.swrite h P hN12 hj20 fr rm g t ag ht15
          have KR0 := fun (W : World) (h6 : PY w p (wrA S fr rm g t).1 S mv [(bm, .cells mv 50 (0, 0)), (ba, .cells (actv k fr rm g t n b A' nk c') 53 (0, 0))] W) => PY.rswrite h6 P hN12 hj20 fr rm g t ag ht15
          have PW := Asd.mk ((PI.wrA P fr rm g t ht15).mono (show 20 * j + 20 ≤ 20 * (j + 1) by omega))
          obtain ⟨S', q, hP⟩ : ∃ S' q, wrA S fr rm g t = (S', q) := ⟨_, _, rfl⟩
          rw [hP] at KW0 KR0 PW
          have KW := Asd.mk KW0
          have KRR := Asd.mk KR0
          have r0 : ((k : Int) == 0) = true := by simp; omega
          have r0' : (k == 0) = true := by simp; omega
          have f1 : W5.cell? ⟨ba, 1, none⟩ = some (.int .i64 fr) := cell_of_row _ _ 1 _ _ _ (h.at (b := ba) (List.mem_cons_of_mem _ List.mem_cons_self))
          have f2 : W5.cell? ⟨ba, 2, none⟩ = some (.int .i64 rm) := cell_of_row _ _ 2 _ _ _ (h.at (b := ba) (List.mem_cons_of_mem _ List.mem_cons_self))
          have f3 : W5.cell? ⟨ba, 3, none⟩ = some (.int .u64 (g : Nat)) := cell_of_row _ _ 3 _ _ _ (h.at (b := ba) (List.mem_cons_of_mem _ List.mem_cons_self))
          have f4 : W5.cell? ⟨ba, 4, none⟩ = some (.string t) := cell_of_row _ _ 4 _ _ _ (h.at (b := ba) (List.mem_cons_of_mem _ List.mem_cons_self))
          clear KW0 KR0 hP k0 h P akw hk50 an ag ab8 ht15 hnk hN12 hN1 hw ho hl0 hl1 hj20
          go_wp2_with fail
          refine KW.out.mono ?_
          rintro e W6 ⟨rfl, h6⟩
          clear KW H9 f1 f2 f3 f4
          have y0 := h6.at (b := bm) List.mem_cons_self
          have i0 := h6.info
          have q4 := h6.four
          have f1 : W6.cell? ⟨ba, 1, none⟩ = some (.int .i64 fr) := cell_of_row _ _ 1 _ _ _ (h6.at (b := ba) (List.mem_cons_of_mem _ List.mem_cons_self))
          have f2 : W6.cell? ⟨ba, 2, none⟩ = some (.int .i64 rm) := cell_of_row _ _ 2 _ _ _ (h6.at (b := ba) (List.mem_cons_of_mem _ List.mem_cons_self))
          have f3 : W6.cell? ⟨ba, 3, none⟩ = some (.int .u64 (g : Nat)) := cell_of_row _ _ 3 _ _ _ (h6.at (b := ba) (List.mem_cons_of_mem _ List.mem_cons_self))
          have f4 : W6.cell? ⟨ba, 4, none⟩ = some (.string t) := cell_of_row _ _ 4 _ _ _ (h6.at (b := ba) (List.mem_cons_of_mem _ List.mem_cons_self))
          have KR := Asd.mk (KRR.out _ h6)
          clear h6
          go_wp2_with (first | refine wpList_load_row rfl 50 _ rfl bm rfl 50 _ (0, 0) _ y0 Tryd.underlying50 rfl i0 ?_ | fail)
          refine KR.out.mono ?_
          rintro e W7 ⟨mv', rfl, h7⟩
          have y1 := h7.at (b := bm) List.mem_cons_self
          have i1 := h7.info
          have o1 := h7.one
          have q1 : mv.size = mv'.size := q4.trans h7.four.symm
          have H8 := Asd.mk (h7.row mv' (fun x hx => by simp only [List.mem_cons, List.not_mem_nil, or_false] at hx; subst hx; exact HNE.out))
          clear KR h7 y0 i0 q4 f1 f2 f3 f4
          go_wp2_with (first | refine wpList_store_row rfl 50 _ _ rfl bm mv' rfl rfl 50 _ y1 i1 q1 o1 ?_ | fail)
          go_meet
          case rel => exact ⟨⟨q, S', mv', by rfl, by rfl, PW.out, H8.out⟩⟩
      by_cases k1 : k = 1
      · as_aux_lemma =>
          have KW0 := h.did (fun F d => sync_calls d P.ok P.ar hw P.o0 ho)
          have KR0 := fun (W : World) (h6 : PY w p S.sync.1 S mv [(bm, .cells mv 50 (0, 0)), (ba, .cells (actv k fr rm g t n b A' nk c') 53 (0, 0))] W) => h6.ref (f := 23) (args := #[.agg mv]) (T' := S.sync.1) (R := fun m => .returned (.tuple #[.agg m, .int .i64 S.sync.2])) (fun G lv wv e r => by rw [e]; exact rsync_calls r P.ok hl0 hl1 hw P.ar P.o0 ho)
          have PW := Asd.mk (P.sync.mono (show 20 * j + 1 ≤ 20 * (j + 1) by omega))
          obtain ⟨S', q, hP⟩ : ∃ S' q, S.sync = (S', q) := ⟨_, _, rfl⟩
          rw [hP] at KW0 KR0 PW
          have KW := Asd.mk KW0
          have KRR := Asd.mk KR0
          have r0 : ((k : Int) == 0) = false := by simp; omega
          have r0' : (k == 0) = false := by simp; omega
          have r1 : ((k : Int) == 1) = true := by simp; omega
          have r1' : (k == 1) = true := by simp; omega
          clear KW0 KR0 hP k0 k1 h P akw hk50 an ag ab8 ht15 hnk hN12 hN1 hw ho hl0 hl1 hj20
          go_wp2_with fail
          refine KW.out.mono ?_
          rintro e W6 ⟨rfl, h6⟩
          clear KW H9
          have y0 := h6.at (b := bm) List.mem_cons_self
          have i0 := h6.info
          have q4 := h6.four
          have KR := Asd.mk (KRR.out _ h6)
          clear h6
          go_wp2_with (first | refine wpList_load_row rfl 50 _ rfl bm rfl 50 _ (0, 0) _ y0 Tryd.underlying50 rfl i0 ?_ | fail)
          refine KR.out.mono ?_
          rintro e W7 ⟨mv', rfl, h7⟩
          have y1 := h7.at (b := bm) List.mem_cons_self
          have i1 := h7.info
          have o1 := h7.one
          have q1 : mv.size = mv'.size := q4.trans h7.four.symm
          have H8 := Asd.mk (h7.row mv' (fun x hx => by simp only [List.mem_cons, List.not_mem_nil, or_false] at hx; subst hx; exact HNE.out))
          clear KR h7 y0 i0 q4
          go_wp2_with (first | refine wpList_store_row rfl 50 _ _ rfl bm mv' rfl rfl 50 _ y1 i1 q1 o1 ?_ | fail)
          go_meet
          case rel => exact ⟨⟨q, S', mv', by rfl, by rfl, PW.out, H8.out⟩⟩
      by_cases k2 : k = 2
      · as_aux_lemma =>
          have bl := h.bel
          have KW0 := h.did (fun F d => crash_calls d P.ok hw A' c' ks (akw.keepAt bl d) hk50)
          have KR0 := fun (W : World) (h6 : PY w p (S.crash (fun j => ks.getD j false)) S mv [(bm, .cells mv 50 (0, 0)), (ba, .cells (actv k fr rm g t n b A' nk c') 53 (0, 0))] W) => h6.ref (f := 24) (args := #[.agg mv, .slice A' ks.length c']) (T' := S.crash (fun j => ks.getD j false)) (R := fun m => .returned (.agg m)) (fun G lv wv e r => by rw [e]; exact rcrash_calls r P.ok hl0 hl1 hw A' c' ks (karg_far akw (Nat.le_refl _) h6.bel) hk50)
          have PW := Asd.mk ((P.crash (fun j => ks.getD j false)).mono (show 20 * j ≤ 20 * (j + 1) by omega))
          obtain ⟨S', hP⟩ : ∃ S', S.crash (fun j => ks.getD j false) = S' := ⟨_, rfl⟩
          rw [hP] at KW0 KR0 PW
          rw [hnk] at KW0 KR0
          have KW := Asd.mk KW0
          have KRR := Asd.mk KR0
          have r0 : ((k : Int) == 0) = false := by simp; omega
          have r0' : (k == 0) = false := by simp; omega
          have r1 : ((k : Int) == 1) = false := by simp; omega
          have r1' : (k == 1) = false := by simp; omega
          have r2 : ((k : Int) == 2) = true := by simp; omega
          have r2' : (k == 2) = true := by simp; omega
          have f7 : W5.cell? ⟨ba, 7, none⟩ = some (.slice A' nk c') := cell_of_row _ _ 7 _ _ _ (h.at (b := ba) (List.mem_cons_of_mem _ List.mem_cons_self))
          clear KW0 KR0 hP bl k0 k1 k2 h P akw hk50 an ag ab8 ht15 hnk hN12 hN1 hw ho hl0 hl1 hj20
          go_wp2_with fail
          refine KW.out.mono ?_
          rintro e W6 ⟨rfl, h6⟩
          clear KW H9 f7
          have y0 := h6.at (b := bm) List.mem_cons_self
          have i0 := h6.info
          have q4 := h6.four
          have f7 : W6.cell? ⟨ba, 7, none⟩ = some (.slice A' nk c') := cell_of_row _ _ 7 _ _ _ (h6.at (b := ba) (List.mem_cons_of_mem _ List.mem_cons_self))
          have KR := Asd.mk (KRR.out _ h6)
          clear h6
          go_wp2_with (first | refine wpList_load_row rfl 50 _ rfl bm rfl 50 _ (0, 0) _ y0 Tryd.underlying50 rfl i0 ?_ | fail)
          refine KR.out.mono ?_
          rintro e W7 ⟨mv', rfl, h7⟩
          have y1 := h7.at (b := bm) List.mem_cons_self
          have i1 := h7.info
          have o1 := h7.one
          have q1 : mv.size = mv'.size := q4.trans h7.four.symm
          have H8 := Asd.mk (h7.row mv' (fun x hx => by simp only [List.mem_cons, List.not_mem_nil, or_false] at hx; subst hx; exact HNE.out))
          clear KR h7 y0 i0 q4 f7
          go_wp2_with (first | refine wpList_store_row rfl 50 _ _ rfl bm mv' rfl rfl 50 _ y1 i1 q1 o1 ?_ | fail)
          go_meet
          case rel => exact ⟨⟨0, S', mv', by rfl, by rfl, PW.out, H8.out⟩⟩
      by_cases k3 : k = 3
      · as_aux_lemma =>
          have KW := Asd.mk (h.did (S' := { S with armed := n }) (Q := fun e => e = .returned (.tuple #[])) (fun F d => (arm_calls d n).mono fun e W' x => ⟨x.1, F, x.2.1, x.2.2, fun k hk => .inl hk⟩))
          have PW := Asd.mk ((P.arm n an).mono (show 20 * j ≤ 20 * (j + 1) by omega))
          have r0 : ((k : Int) == 0) = false := by simp; omega
          have r0' : (k == 0) = false := by simp; omega
          have r1 : ((k : Int) == 1) = false := by simp; omega
          have r1' : (k == 1) = false := by simp; omega
          have r2 : ((k : Int) == 2) = false := by simp; omega
          have r2' : (k == 2) = false := by simp; omega
          have r3 : ((k : Int) == 3) = true := by simp; omega
          have r3' : (k == 3) = true := by simp; omega
          have f5 : W5.cell? ⟨ba, 5, none⟩ = some (.int .i64 n) := cell_of_row _ _ 5 _ _ _ (h.at (b := ba) (List.mem_cons_of_mem _ List.mem_cons_self))
          clear k0 k1 k2 k3 h P akw hk50 an ag ab8 ht15 hnk hN12 hN1 hw ho hl0 hl1 hj20
          go_wp2_with fail
          refine KW.out.mono ?_
          rintro e W6 ⟨rfl, h6⟩
          clear KW H9 f5
          have f5 : W6.cell? ⟨ba, 5, none⟩ = some (.int .i64 n) := cell_of_row _ _ 5 _ _ _ (h6.at (b := ba) (List.mem_cons_of_mem _ List.mem_cons_self))
          have y0 := h6.at (b := bm) List.mem_cons_self
          have fz : W6.frozen? ⟨bm, 2, none⟩ = false := frozen_of_row _ _ 2 _ _ y0
          have kz : ∃ u, W6.cell? ⟨bm, 2, none⟩ = some u := by
            have e := cell_of_row _ _ 2 _ _ _ y0
            exact ⟨_, e.trans (Array.getElem?_eq_getElem (by have := h6.four; omega))⟩
          obtain ⟨u0, kz⟩ := kz
          obtain ⟨mv', h7⟩ := h6.armed n (fun x hx => by simp only [List.mem_cons, List.not_mem_nil, or_false] at hx; subst hx; exact HNE.out)
          have H8 := Asd.mk h7
          clear h6 h7 y0
          go_wp2
          go_meet
          case rel => exact ⟨⟨0, { S with armed := n }, mv', by rfl, by rfl, PW.out, H8.out⟩⟩
      by_cases k4 : k = 4
      · as_aux_lemma =>
          have hmi := tmod_hi n 12 (by decide)
          have KW0 := h.did (fun F d => rot_calls d (n.tmod 12) ((b : Int) % 128) b ab8 P.l128 (by omega))
          have KR0 := fun (W : World) (h6 : PY w p (S.rot (n.tmod 12) ((b : Int) % 128) b) S mv [(bm, .cells mv 50 (0, 0)), (ba, .cells (actv k fr rm g t n b A' nk c') 53 (0, 0))] W) => h6.ref (f := 26) (args := #[.agg mv, .int .i64 (n.tmod 12), .int .i64 ((b : Int) % 128), .int .u8 (b : Nat)]) (T' := S.rot (n.tmod 12) ((b : Int) % 128) b) (R := fun m => .returned (.agg m)) (fun G lv wv e r => by rw [e]; exact rrot_calls r (n.tmod 12) ((b : Int) % 128) b hl1 ab8 P.l128)
          have PW := Asd.mk ((P.rot (n.tmod 12) ((b : Int) % 128) b).mono (show 20 * j ≤ 20 * (j + 1) by omega))
          obtain ⟨S', hP⟩ : ∃ S', S.rot (n.tmod 12) ((b : Int) % 128) b = S' := ⟨_, rfl⟩
          rw [hP] at KW0 KR0 PW
          have KW := Asd.mk KW0
          have KRR := Asd.mk KR0
          have hb256 : b < 256 := ab8
          have r0 : ((k : Int) == 0) = false := by simp; omega
          have r0' : (k == 0) = false := by simp; omega
          have r1 : ((k : Int) == 1) = false := by simp; omega
          have r1' : (k == 1) = false := by simp; omega
          have r2 : ((k : Int) == 2) = false := by simp; omega
          have r2' : (k == 2) = false := by simp; omega
          have r3 : ((k : Int) == 3) = false := by simp; omega
          have r3' : (k == 3) = false := by simp; omega
          have r4 : ((k : Int) == 4) = true := by simp; omega
          have r4' : (k == 4) = true := by simp; omega
          have f5 : W5.cell? ⟨ba, 5, none⟩ = some (.int .i64 n) := cell_of_row _ _ 5 _ _ _ (h.at (b := ba) (List.mem_cons_of_mem _ List.mem_cons_self))
          have f6 : W5.cell? ⟨ba, 6, none⟩ = some (.int .u8 (b : Nat)) := cell_of_row _ _ 6 _ _ _ (h.at (b := ba) (List.mem_cons_of_mem _ List.mem_cons_self))
          clear KW0 KR0 hP k0 k1 k2 k3 k4 hmi h P akw hk50 an ag ab8 ht15 hnk hN12 hN1 hw ho hl0 hl1 hj20
          go_wp2_with fail
          refine KW.out.mono ?_
          rintro e W6 ⟨rfl, h6⟩
          clear KW H9 f5 f6
          have y0 := h6.at (b := bm) List.mem_cons_self
          have i0 := h6.info
          have q4 := h6.four
          have f5 : W6.cell? ⟨ba, 5, none⟩ = some (.int .i64 n) := cell_of_row _ _ 5 _ _ _ (h6.at (b := ba) (List.mem_cons_of_mem _ List.mem_cons_self))
          have f6 : W6.cell? ⟨ba, 6, none⟩ = some (.int .u8 (b : Nat)) := cell_of_row _ _ 6 _ _ _ (h6.at (b := ba) (List.mem_cons_of_mem _ List.mem_cons_self))
          have KR := Asd.mk (KRR.out _ h6)
          clear h6
          go_wp2_with (first | refine wpList_load_row rfl 50 _ rfl bm rfl 50 _ (0, 0) _ y0 Tryd.underlying50 rfl i0 ?_ | fail)
          refine KR.out.mono ?_
          rintro e W7 ⟨mv', rfl, h7⟩
          have y1 := h7.at (b := bm) List.mem_cons_self
          have i1 := h7.info
          have o1 := h7.one
          have q1 : mv.size = mv'.size := q4.trans h7.four.symm
          have H8 := Asd.mk (h7.row mv' (fun x hx => by simp only [List.mem_cons, List.not_mem_nil, or_false] at hx; subst hx; exact HNE.out))
          clear KR h7 y0 i0 q4 f5 f6
          go_wp2_with (first | refine wpList_store_row rfl 50 _ _ rfl bm mv' rfl rfl 50 _ y1 i1 q1 o1 ?_ | fail)
          go_meet
          case rel => exact ⟨⟨0, S', mv', by rfl, by rfl, PW.out, H8.out⟩⟩
      by_cases k5 : k = 5
      rotate_left
      · as_aux_lemma =>
          have PW := Asd.mk (P.mono (show 20 * j ≤ 20 * (j + 1) by omega))
          have r0 : ((k : Int) == 0) = false := by simp; omega
          have r0' : (k == 0) = false := by simp; omega
          have r1 : ((k : Int) == 1) = false := by simp; omega
          have r1' : (k == 1) = false := by simp; omega
          have r2 : ((k : Int) == 2) = false := by simp; omega
          have r2' : (k == 2) = false := by simp; omega
          have r3 : ((k : Int) == 3) = false := by simp; omega
          have r3' : (k == 3) = false := by simp; omega
          have r4 : ((k : Int) == 4) = false := by simp; omega
          have r4' : (k == 4) = false := by simp; omega
          have r5 : ((k : Int) == 5) = false := by simp; omega
          have r5' : (k == 5) = false := by simp; omega
          clear k0 k1 k2 k3 k4 k5 h P akw hk50 an ag ab8 ht15 hnk hN12 hN1 hw ho hl0 hl1 hj20
          go_wp2
          go_meet
          case rel => exact ⟨⟨0, S, mv, by rfl, by rfl, PW.out, H9.out⟩⟩
      as_aux_lemma =>
        obtain ⟨k5', hk5⟩ : ∃ x, b % 5 = x := ⟨_, rfl⟩
        have e5 : (b : Int).tmod 5 = (k5' : Int) := by rw [Int.tmod_eq_emod_of_nonneg (by omega)]; omega
        obtain ⟨ix, hix, hix2⟩ : ∃ x : Nat, IntKind.u32.wrap (n.tmod 4) = (x : Int) ∧ x < 4294967296 := ⟨((n.tmod 4) % 4294967296).toNat, by rw [IntKind.wrap_u32]; omega, by omega⟩
        obtain ⟨m, hm⟩ : ∃ x, min t.size 110 = x := ⟨_, rfl⟩
        have hmn : min (t.size : Int) 110 = (m : Int) := by omega
        have hmt : (m : Int) ≤ (t.size : Int) := by omega
        have hm0 : (0 : Int) ≤ (m : Int) := by omega
        have hmt' : m ≤ t.size := by omega
        obtain ⟨dd, hdd⟩ : ∃ x, t.extract 0 m = x := ⟨_, rfl⟩
        have hdz : dd.size ≤ 110 := by rw [← hdd, ByteArray.size_extract]; omega
        have KC0 := fun (V : World) => close_calls k5' g ix dd V (by omega) ag hix2
        rw [close_ok k5' g ix dd hdz] at KC0
        obtain ⟨sc, hsc⟩ : ∃ x, (⟨(sector k5' g ix dd.data.toList).toArray⟩ : ByteArray) = x := ⟨_, rfl⟩
        rw [hsc] at KC0
        have KC := Asd.mk KC0
        have hmi := tmod_hi n 12 (by decide)
        have hml := tmod_lo n 12 (by decide)
        have KW0 := fun (W : World) (h6 : PY w p S S mv [(bm, .cells mv 50 (0, 0)), (ba, .cells (actv k fr rm g t n b A' nk c') 53 (0, 0))] W) => h6.did (fun F d => write_calls d P.ar hw P.o0 ho (n.tmod 12) sc (by omega) (by omega))
        have KR0 := fun (W : World) (h6 : PY w p (S.put (n.tmod 12) sc).1 S mv [(bm, .cells mv 50 (0, 0)), (ba, .cells (actv k fr rm g t n b A' nk c') 53 (0, 0))] W) => h6.ref (f := 29) (args := #[.agg mv, .int .i64 (n.tmod 12), .string sc]) (T' := (S.put (n.tmod 12) sc).1) (R := fun m => .returned (.tuple #[.agg m, .int .i64 (S.put (n.tmod 12) sc).2])) (fun G lv wv e r => by rw [e]; exact rput_calls r (n.tmod 12) sc hl1 hw P.ar P.o0 ho)
        have PW := Asd.mk ((P.put (n.tmod 12) sc).mono (show 20 * j + 1 ≤ 20 * (j + 1) by omega))
        obtain ⟨S', q, hP⟩ : ∃ S' q, S.put (n.tmod 12) sc = (S', q) := ⟨_, _, rfl⟩
        rw [hP] at KW0 KR0 PW
        have KW := Asd.mk KW0
        have KRR := Asd.mk KR0
        have r0 : ((k : Int) == 0) = false := by simp; omega
        have r0' : (k == 0) = false := by simp; omega
        have r1 : ((k : Int) == 1) = false := by simp; omega
        have r1' : (k == 1) = false := by simp; omega
        have r2 : ((k : Int) == 2) = false := by simp; omega
        have r2' : (k == 2) = false := by simp; omega
        have r3 : ((k : Int) == 3) = false := by simp; omega
        have r3' : (k == 3) = false := by simp; omega
        have r4 : ((k : Int) == 4) = false := by simp; omega
        have r4' : (k == 4) = false := by simp; omega
        have r5 : ((k : Int) == 5) = true := by simp; omega
        have r5' : (k == 5) = true := by simp; omega
        clear KC0 KW0 KR0 hP hk5 hm hdz hsc hmi hml k0 k1 k2 k3 k4 k5 h P akw hk50 an ag ab8 ht15 hnk hN12 hN1 hw ho hl0 hl1 hj20
        go_wp2_with fail
        refine wp_region_held_drew (S := fun V => PY w p S S mv [(bm, .cells mv 50 (0, 0)), (ba, .cells (actv k fr rm g t n b A' nk c') 53 (0, 0))] V) (by kernel_rfl) (H9.out.step ((Below.refl _ _).drew)) (fun hH => ?_)
        clear H9
        refine take_at (i := 0) (some 140) (.pointer (some ⟨ba, 6, none⟩)) rfl rfl (by kernel_rfl) (by kernel_rfl) (by kernel_rfl) (fun _ _ _ h => h) (Or.inl ⟨by rfl, fun w hSw => by go_simp⟩) hH ?_
        refine take_at (i := 1) (some 141) (.int .u8 (b : Nat)) rfl rfl (by kernel_rfl) (by kernel_rfl) (by kernel_rfl) (fun _ _ _ h => h) (Or.inl ⟨by rfl, fun w hSw => by have e2 : w.cell? ⟨ba, 6, none⟩ = some (.int .u8 (b : Nat)) := cell_of_row _ _ 6 _ _ _ (hSw.at (b := ba) (List.mem_cons_of_mem _ List.mem_cons_self)); go_simp⟩) hH ?_
        try simp only [Act.put, List.setIfInBounds_toArray, List.set_cons_zero, List.set_cons_succ]
        refine take_at (i := 2) (some 142) (.int .u8 (k5' : Nat)) rfl rfl (by kernel_rfl) (by kernel_rfl) (by kernel_rfl) (fun _ _ _ h => h) (Or.inl ⟨by rfl, fun w hSw => by go_simp⟩) hH ?_
        refine take_at (i := 3) (some 143) (.pointer (some ⟨ba, 3, none⟩)) rfl rfl (by kernel_rfl) (by kernel_rfl) (by kernel_rfl) (fun _ _ _ h => h) (Or.inl ⟨by rfl, fun w hSw => by go_simp⟩) hH ?_
        try simp only [Act.put, List.setIfInBounds_toArray, List.set_cons_zero, List.set_cons_succ]
        refine take_at (i := 4) (some 144) (.int .u64 (g : Nat)) rfl rfl (by kernel_rfl) (by kernel_rfl) (by kernel_rfl) (fun _ _ _ h => h) (Or.inl ⟨by rfl, fun w hSw => by have e2 : w.cell? ⟨ba, 3, none⟩ = some (.int .u64 (g : Nat)) := cell_of_row _ _ 3 _ _ _ (hSw.at (b := ba) (List.mem_cons_of_mem _ List.mem_cons_self)); go_simp⟩) hH ?_
        refine take_at (i := 5) (some 145) (.pointer (some ⟨ba, 5, none⟩)) rfl rfl (by kernel_rfl) (by kernel_rfl) (by kernel_rfl) (fun _ _ _ h => h) (Or.inl ⟨by rfl, fun w hSw => by go_simp⟩) hH ?_
        try simp only [Act.put, List.setIfInBounds_toArray, List.set_cons_zero, List.set_cons_succ]
        refine take_at (i := 6) (some 146) (.int .i64 n) rfl rfl (by kernel_rfl) (by kernel_rfl) (by kernel_rfl) (fun _ _ _ h => h) (Or.inl ⟨by rfl, fun w hSw => by have e2 : w.cell? ⟨ba, 5, none⟩ = some (.int .i64 n) := cell_of_row _ _ 5 _ _ _ (hSw.at (b := ba) (List.mem_cons_of_mem _ List.mem_cons_self)); go_simp⟩) hH ?_
        refine take_at (i := 7) (some 147) (.int .i64 (n.tmod 4)) rfl rfl (by kernel_rfl) (by kernel_rfl) (by kernel_rfl) (fun _ _ _ h => h) (Or.inl ⟨by rfl, fun w hSw => by go_simp⟩) hH ?_
        try simp only [Act.put, List.setIfInBounds_toArray, List.set_cons_zero, List.set_cons_succ]
        refine take_at (i := 8) (some 148) (.int .u32 (ix : Nat)) rfl rfl (by kernel_rfl) (by kernel_rfl) (by kernel_rfl) (fun _ _ _ h => h) (Or.inl ⟨by rfl, fun w hSw => by go_simp⟩) hH ?_
        refine take_at (i := 9) (some 149) (.pointer (some ⟨ba, 4, none⟩)) rfl rfl (by kernel_rfl) (by kernel_rfl) (by kernel_rfl) (fun _ _ _ h => h) (Or.inl ⟨by rfl, fun w hSw => by go_simp⟩) hH ?_
        try simp only [Act.put, List.setIfInBounds_toArray, List.set_cons_zero, List.set_cons_succ]
        refine take_at (i := 10) (some 150) (.string t) rfl rfl (by kernel_rfl) (by kernel_rfl) (by kernel_rfl) (fun _ _ _ h => h) (Or.inl ⟨by rfl, fun w hSw => by have e2 : w.cell? ⟨ba, 4, none⟩ = some (.string t) := cell_of_row _ _ 4 _ _ _ (hSw.at (b := ba) (List.mem_cons_of_mem _ List.mem_cons_self)); go_simp⟩) hH ?_
        refine take_at (i := 11) (some 151) (.pointer (some ⟨ba, 4, none⟩)) rfl rfl (by kernel_rfl) (by kernel_rfl) (by kernel_rfl) (fun _ _ _ h => h) (Or.inl ⟨by rfl, fun w hSw => by go_simp⟩) hH ?_
        try simp only [Act.put, List.setIfInBounds_toArray, List.set_cons_zero, List.set_cons_succ]
        refine take_at (i := 12) (some 152) (.string t) rfl rfl (by kernel_rfl) (by kernel_rfl) (by kernel_rfl) (fun _ _ _ h => h) (Or.inl ⟨by rfl, fun w hSw => by have e2 : w.cell? ⟨ba, 4, none⟩ = some (.string t) := cell_of_row _ _ 4 _ _ _ (hSw.at (b := ba) (List.mem_cons_of_mem _ List.mem_cons_self)); go_simp⟩) hH ?_
        refine take_at (i := 13) (some 153) (.int .i64 (t.size : Nat)) rfl rfl (by kernel_rfl) (by kernel_rfl) (by kernel_rfl) (fun _ _ _ h => h) (Or.inl ⟨by rfl, fun w hSw => by go_simp⟩) hH ?_
        try simp only [Act.put, List.setIfInBounds_toArray, List.set_cons_zero, List.set_cons_succ]
        refine take_at (i := 14) (some 154) (.int .i64 (m : Nat)) rfl rfl (by kernel_rfl) (by kernel_rfl) (by kernel_rfl) (fun _ _ _ h => h) (Or.inl ⟨by rfl, fun w hSw => by go_simp⟩) hH ?_
        refine take_at (i := 15) (some 155) (.string dd) rfl rfl (by kernel_rfl) (by kernel_rfl) (by kernel_rfl) (fun _ _ _ h => h) (Or.inl ⟨by rfl, fun w hSw => by go_simp⟩) hH ?_
        try simp only [Act.put, List.setIfInBounds_toArray, List.set_cons_zero, List.set_cons_succ]
        refine take_at (i := 16) (some 156) (.agg #[.int .u8 (k5' : Nat), .int .u64 (g : Nat), .int .u32 (ix : Nat), .string dd]) rfl rfl (by kernel_rfl) (by kernel_rfl) (by kernel_rfl) (fun _ _ _ h => h) (Or.inl ⟨by rfl, fun w hSw => by go_simp⟩) hH ?_
        try simp only [Act.put, List.setIfInBounds_toArray, List.set_cons_zero, List.set_cons_succ]
        refine wpAnyH_ready (rs := [17]) (by kernel_rfl) (by simp) (AllReadyH.cons rfl (fun K hK => ?_) AllReadyH.nil)
        go_simp
        refine (KC.out _).mono ?_
        rintro e V4 ⟨rfl, hb4⟩
        refine hK.out _ _ (hH.step hb4) (fun hH4 => ?_)
        clear hK K hb4 hH KC
        try simp only [Act.put, List.setIfInBounds_toArray, List.set_cons_zero, List.set_cons_succ]
        refine take_at (i := 18) (some 139) (.tuple #[.string sc, .int .i64 0]) rfl rfl (by kernel_rfl) (by kernel_rfl) (by kernel_rfl) (fun _ _ _ h => h) (Or.inl ⟨by rfl, fun w hSw => by go_simp⟩) hH4 ?_
        try simp only [Act.put, List.setIfInBounds_toArray, List.set_cons_zero, List.set_cons_succ]
        refine take_at (i := 19) (some 158) (.string sc) rfl rfl (by kernel_rfl) (by kernel_rfl) (by kernel_rfl) (fun _ _ _ h => h) (Or.inl ⟨by rfl, fun w hSw => by go_simp⟩) hH4 ?_
        refine take_at (i := 20) (some 159) (.int .i64 0) rfl rfl (by kernel_rfl) (by kernel_rfl) (by kernel_rfl) (fun _ _ _ h => h) (Or.inl ⟨by rfl, fun w hSw => by go_simp⟩) hH4 ?_
        try simp only [Act.put, List.setIfInBounds_toArray, List.set_cons_zero, List.set_cons_succ]
        refine take_at (i := 21) (some 12) (.string sc) rfl rfl (by kernel_rfl) (by kernel_rfl) (by kernel_rfl) (fun _ _ _ h => h) (Or.inl ⟨by rfl, fun w hSw => by go_simp⟩) hH4 ?_
        refine take_at (i := 22) (some 13) (.int .i64 0) rfl rfl (by kernel_rfl) (by kernel_rfl) (by kernel_rfl) (fun _ _ _ h => h) (Or.inl ⟨by rfl, fun w hSw => by go_simp⟩) hH4 ?_
        try simp only [Act.put, List.setIfInBounds_toArray, List.set_cons_zero, List.set_cons_succ]
        have H5 := Asd.mk hH4
        clear hH4
        refine wpAnyH_done (by kernel_rfl) ?_ _
        try simp only [Act.put, List.setIfInBounds_toArray, List.set_cons_zero, List.set_cons_succ]
        have KW1 := Asd.mk (KW.out _ H5.out)
        have f5 : V4.cell? ⟨ba, 5, none⟩ = some (.int .i64 n) := cell_of_row _ _ 5 _ _ _ (H5.out.at (b := ba) (List.mem_cons_of_mem _ List.mem_cons_self))
        clear e5 hix hix2 hmn hmt hm0 hmt' hdd
        go_wp2_with fail
        refine KW1.out.mono ?_
        rintro e W6 ⟨rfl, h6⟩
        clear KW KW1 H5 f5
        have y0 := h6.at (b := bm) List.mem_cons_self
        have i0 := h6.info
        have q4 := h6.four
        have f5 : W6.cell? ⟨ba, 5, none⟩ = some (.int .i64 n) := cell_of_row _ _ 5 _ _ _ (h6.at (b := ba) (List.mem_cons_of_mem _ List.mem_cons_self))
        have KR := Asd.mk (KRR.out _ h6)
        clear h6
        go_wp2_with (first | refine wpList_load_row rfl 50 _ rfl bm rfl 50 _ (0, 0) _ y0 Tryd.underlying50 rfl i0 ?_ | fail)
        refine KR.out.mono ?_
        rintro e W7 ⟨mv', rfl, h7⟩
        have y1 := h7.at (b := bm) List.mem_cons_self
        have i1 := h7.info
        have o1 := h7.one
        have q1 : mv.size = mv'.size := q4.trans h7.four.symm
        have H8 := Asd.mk (h7.row mv' (fun x hx => by simp only [List.mem_cons, List.not_mem_nil, or_false] at hx; subst hx; exact HNE.out))
        clear KR h7 y0 i0 q4 f5
        go_wp2_with (first | refine wpList_store_row rfl 50 _ _ rfl bm mv' rfl rfl 50 _ y1 i1 q1 o1 ?_ | fail)
        go_meet
        case rel => exact ⟨⟨q, S', mv', by rfl, by rfl, PW.out, H8.out⟩⟩
    case rest =>
      as_aux_lemma =>
        obtain ⟨q, S', mv', rfl, rfl, P', h⟩ := hcut.out
        clear hcut H9 HP
        have hN12 : N ≤ 12 := HN.out.2
        have hj20 : 20 * (j + 1) ≤ 1000 := by omega
        have KS := Asd.mk (h.same (by rw [P'.len]; omega) (by have := P'.wl; omega))
        have y0 := h.at (b := bm) List.mem_cons_self
        have i0 := h.info
        have tq : (q == q) = true := by simp
        have tn : (q != q) = false := by simp
        have KD := Asd.mk (fun (V : World) (h : PY w p S' S' mv' [(bm, .cells mv' 50 (0, 0)), (ba, .cells (actv k fr rm g t n b A' nk c') 53 (0, 0))] V) => PY.sread h P' hN12 fr rm)
        have KE := Asd.mk (fun (V : World) (h : PY w p S' S' mv' [(bm, .cells mv' 50 (0, 0)), (ba, .cells (actv k fr rm g t n b A' nk c') 53 (0, 0))] V) => PY.rsread h P' hN12 hj20 fr rm)
        have KF := Asd.mk (fun (V : World) (h : PY w p S' S' mv' [(bm, .cells mv' 50 (0, 0)), (ba, .cells (actv k fr rm g t n b A' nk c') 53 (0, 0))] V) => PY.snew h P' hN12 fr rm)
        have KG := Asd.mk (fun (V : World) (h : PY w p S' S' mv' [(bm, .cells mv' 50 (0, 0)), (ba, .cells (actv k fr rm g t n b A' nk c') 53 (0, 0))] V) => PY.rsnew h P' hN12 hj20 fr rm)
        obtain ⟨⟨tx, gg, bb⟩, hR⟩ : ∃ R, rdA S' fr rm = R := ⟨_, rfl⟩
        obtain ⟨nw, hW⟩ : ∃ x, nwA S' fr rm = x := ⟨_, rfl⟩
        rw [hR] at KD KE
        rw [hW] at KF KG
        dsimp only at KD KE
        have txt := txt_self tx
        have H := Asd.mk h
        have HP' := Asd.mk P'
        clear h P' hR hW hN12 hj20
        go_upto_region 35 with (first | refine Cel.wpList_load_row_w rfl 50 _ rfl bm rfl 50 _ (0, 0) _ y0 Tryd.underlying50 rfl i0 ?_ | (go_at_call 30; refine KS.out.mono ?_; rintro e V1 ⟨rfl, hb1⟩) | fail)
        replace H := Asd.mk (H.out.step hb1)
        clear KS y0 hb1
        have f1 : V1.cell? ⟨ba, 1, none⟩ = some (.int .i64 fr) := cell_of_row _ _ 1 _ _ _ (H.out.at (b := ba) (List.mem_cons_of_mem _ List.mem_cons_self))
        have f2 : V1.cell? ⟨ba, 2, none⟩ = some (.int .i64 rm) := cell_of_row _ _ 2 _ _ _ (H.out.at (b := ba) (List.mem_cons_of_mem _ List.mem_cons_self))
        have KD1 := Asd.mk (KD.out _ H.out)
        clear KD
        go_wp2_with fail
        refine KD1.out.mono ?_
        rintro e V2 ⟨rfl, hb2⟩
        replace H := Asd.mk (H.out.step hb2)
        clear KD1 hb2 f1 f2
        have f1 : V2.cell? ⟨ba, 1, none⟩ = some (.int .i64 fr) := cell_of_row _ _ 1 _ _ _ (H.out.at (b := ba) (List.mem_cons_of_mem _ List.mem_cons_self))
        have f2 : V2.cell? ⟨ba, 2, none⟩ = some (.int .i64 rm) := cell_of_row _ _ 2 _ _ _ (H.out.at (b := ba) (List.mem_cons_of_mem _ List.mem_cons_self))
        have y0 := H.out.at (b := bm) List.mem_cons_self
        have KE1 := Asd.mk (KE.out _ H.out)
        clear KE
        go_wp2_with (first | refine wpList_load_row rfl 50 _ rfl bm rfl 50 _ (0, 0) _ y0 Tryd.underlying50 rfl i0 ?_ | fail)
        refine KE1.out.mono ?_
        rintro e V3 ⟨rfl, hb3⟩
        replace H := Asd.mk (H.out.step hb3)
        clear KE1 hb3 f1 f2 y0
        go_wp2_with fail
        refine wp_region_held_drew (S := fun V => PY w p S' S' mv' [(bm, .cells mv' 50 (0, 0)), (ba, .cells (actv k fr rm g t n b A' nk c') 53 (0, 0))] V) (by kernel_rfl) (H.out.step ((Below.refl _ _).drew)) (fun hH => ?_)
        clear H
        refine take_at (i := 0) (some 204) (.string tx) rfl rfl (by kernel_rfl) (by kernel_rfl) (by kernel_rfl) (fun _ _ _ h => h) (Or.inl ⟨by rfl, fun w hSw => by go_simp⟩) hH ?_
        refine take_at (i := 1) (some 205) (.string tx) rfl rfl (by kernel_rfl) (by kernel_rfl) (by kernel_rfl) (fun _ _ _ h => h) (Or.inl ⟨by rfl, fun w hSw => by go_simp⟩) hH ?_
        try simp only [Act.put, List.setIfInBounds_toArray, List.set_cons_zero, List.set_cons_succ]
        refine take_at (i := 2) (some 206) (.bool false) rfl rfl (by kernel_rfl) (by kernel_rfl) (by kernel_rfl) (fun _ _ _ h => h) (Or.inl ⟨by rfl, fun w hSw => by go_simp⟩) hH ?_
        refine take_at (i := 3) (some 207) (.bool false) rfl rfl (by kernel_rfl) (by kernel_rfl) (by kernel_rfl) (fun _ _ _ h => h) (Or.inl ⟨by rfl, fun w hSw => by go_simp⟩) hH ?_
        try simp only [Act.put, List.setIfInBounds_toArray, List.set_cons_zero, List.set_cons_succ]
        refine take_at (i := 4) (some 208) (.int .u64 (gg : Nat)) rfl rfl (by kernel_rfl) (by kernel_rfl) (by kernel_rfl) (fun _ _ _ h => h) (Or.inl ⟨by rfl, fun w hSw => by go_simp⟩) hH ?_
        refine take_at (i := 5) (some 209) (.int .u64 (gg : Nat)) rfl rfl (by kernel_rfl) (by kernel_rfl) (by kernel_rfl) (fun _ _ _ h => h) (Or.inl ⟨by rfl, fun w hSw => by go_simp⟩) hH ?_
        try simp only [Act.put, List.setIfInBounds_toArray, List.set_cons_zero, List.set_cons_succ]
        refine take_at (i := 6) (some 210) (.bool false) rfl rfl (by kernel_rfl) (by kernel_rfl) (by kernel_rfl) (fun _ _ _ h => h) (Or.inl ⟨by rfl, fun w hSw => by go_simp⟩) hH ?_
        refine take_at (i := 7) (some 211) (.bool false) rfl rfl (by kernel_rfl) (by kernel_rfl) (by kernel_rfl) (fun _ _ _ h => h) (Or.inl ⟨by rfl, fun w hSw => by go_simp⟩) hH ?_
        try simp only [Act.put, List.setIfInBounds_toArray, List.set_cons_zero, List.set_cons_succ]
        refine take_at (i := 8) (some 212) (.bool false) rfl rfl (by kernel_rfl) (by kernel_rfl) (by kernel_rfl) (fun _ _ _ h => h) (Or.inl ⟨by rfl, fun w hSw => by go_simp⟩) hH ?_
        refine take_at (i := 9) (some 213) (.bool bb) rfl rfl (by kernel_rfl) (by kernel_rfl) (by kernel_rfl) (fun _ _ _ h => h) (Or.inl ⟨by rfl, fun w hSw => by go_simp⟩) hH ?_
        try simp only [Act.put, List.setIfInBounds_toArray, List.set_cons_zero, List.set_cons_succ]
        refine take_at (i := 10) (some 214) (.bool bb) rfl rfl (by kernel_rfl) (by kernel_rfl) (by kernel_rfl) (fun _ _ _ h => h) (Or.inl ⟨by rfl, fun w hSw => by go_simp⟩) hH ?_
        refine take_at (i := 11) (some 215) (.bool false) rfl rfl (by kernel_rfl) (by kernel_rfl) (by kernel_rfl) (fun _ _ _ h => h) (Or.inl ⟨by rfl, fun w hSw => by go_simp⟩) hH ?_
        try simp only [Act.put, List.setIfInBounds_toArray, List.set_cons_zero, List.set_cons_succ]
        refine take_at (i := 12) (some 216) (.bool false) rfl rfl (by kernel_rfl) (by kernel_rfl) (by kernel_rfl) (fun _ _ _ h => h) (Or.inl ⟨by rfl, fun w hSw => by go_simp⟩) hH ?_
        refine take_at (i := 13) (some 217) (.bool false) rfl rfl (by kernel_rfl) (by kernel_rfl) (by kernel_rfl) (fun _ _ _ h => h) (Or.inl ⟨by rfl, fun w hSw => by go_simp⟩) hH ?_
        try simp only [Act.put, List.setIfInBounds_toArray, List.set_cons_zero, List.set_cons_succ]
        refine take_at (i := 14) (some 218) (.pointer (some ⟨p, 0, none⟩)) rfl rfl (by kernel_rfl) (by kernel_rfl) (by kernel_rfl) (fun _ _ _ h => h) (Or.inl ⟨by rfl, fun w hSw => by go_simp⟩) hH ?_
        refine take_at (i := 15) (some 219) (.pointer (some ⟨ba, 1, none⟩)) rfl rfl (by kernel_rfl) (by kernel_rfl) (by kernel_rfl) (fun _ _ _ h => h) (Or.inl ⟨by rfl, fun w hSw => by go_simp⟩) hH ?_
        try simp only [Act.put, List.setIfInBounds_toArray, List.set_cons_zero, List.set_cons_succ]
        refine take_at (i := 16) (some 220) (.int .i64 fr) rfl rfl (by kernel_rfl) (by kernel_rfl) (by kernel_rfl) (fun _ _ _ h => h) (Or.inl ⟨by rfl, fun w hSw => by have e2 : w.cell? ⟨ba, 1, none⟩ = some (.int .i64 fr) := cell_of_row _ _ 1 _ _ _ (hSw.at (b := ba) (List.mem_cons_of_mem _ List.mem_cons_self)); go_simp⟩) hH ?_
        try simp only [Act.put, List.setIfInBounds_toArray, List.set_cons_zero, List.set_cons_succ]
        refine take_at (i := 17) (some 221) (.pointer (some ⟨ba, 2, none⟩)) rfl rfl (by kernel_rfl) (by kernel_rfl) (by kernel_rfl) (fun _ _ _ h => h) (Or.inl ⟨by rfl, fun w hSw => by go_simp⟩) hH ?_
        try simp only [Act.put, List.setIfInBounds_toArray, List.set_cons_zero, List.set_cons_succ]
        refine take_at (i := 18) (some 222) (.int .i64 rm) rfl rfl (by kernel_rfl) (by kernel_rfl) (by kernel_rfl) (fun _ _ _ h => h) (Or.inl ⟨by rfl, fun w hSw => by have e2 : w.cell? ⟨ba, 2, none⟩ = some (.int .i64 rm) := cell_of_row _ _ 2 _ _ _ (hSw.at (b := ba) (List.mem_cons_of_mem _ List.mem_cons_self)); go_simp⟩) hH ?_
        try simp only [Act.put, List.setIfInBounds_toArray, List.set_cons_zero, List.set_cons_succ]
        refine take_at (i := 20) (some 224) (.agg mv') rfl rfl (by kernel_rfl) (by kernel_rfl) (by kernel_rfl) (fun _ _ _ h => h) (yieldsIf_load (by rfl) 50 (.tmp 7) rfl (.pointer (some ⟨bm, 0, none⟩)) rfl _ (fun w hSw => load_row (hSw.at (b := bm) List.mem_cons_self) Tryd.underlying50 rfl i0)) hH ?_
        try simp only [Act.put, List.setIfInBounds_toArray, List.set_cons_zero, List.set_cons_succ]
        refine take_at (i := 21) (some 225) (.pointer (some ⟨ba, 1, none⟩)) rfl rfl (by kernel_rfl) (by kernel_rfl) (by kernel_rfl) (fun _ _ _ h => h) (Or.inl ⟨by rfl, fun w hSw => by go_simp⟩) hH ?_
        refine take_at (i := 22) (some 226) (.int .i64 fr) rfl rfl (by kernel_rfl) (by kernel_rfl) (by kernel_rfl) (fun _ _ _ h => h) (Or.inl ⟨by rfl, fun w hSw => by have e2 : w.cell? ⟨ba, 1, none⟩ = some (.int .i64 fr) := cell_of_row _ _ 1 _ _ _ (hSw.at (b := ba) (List.mem_cons_of_mem _ List.mem_cons_self)); go_simp⟩) hH ?_
        try simp only [Act.put, List.setIfInBounds_toArray, List.set_cons_zero, List.set_cons_succ]
        refine take_at (i := 23) (some 227) (.pointer (some ⟨ba, 2, none⟩)) rfl rfl (by kernel_rfl) (by kernel_rfl) (by kernel_rfl) (fun _ _ _ h => h) (Or.inl ⟨by rfl, fun w hSw => by go_simp⟩) hH ?_
        refine take_at (i := 24) (some 228) (.int .i64 rm) rfl rfl (by kernel_rfl) (by kernel_rfl) (by kernel_rfl) (fun _ _ _ h => h) (Or.inl ⟨by rfl, fun w hSw => by have e2 : w.cell? ⟨ba, 2, none⟩ = some (.int .i64 rm) := cell_of_row _ _ 2 _ _ _ (hSw.at (b := ba) (List.mem_cons_of_mem _ List.mem_cons_self)); go_simp⟩) hH ?_
        try simp only [Act.put, List.setIfInBounds_toArray, List.set_cons_zero, List.set_cons_succ]
        refine wpAnyH_ready (rs := [19]) (by kernel_rfl) (by simp) (AllReadyH.cons rfl (fun K hK => ?_) AllReadyH.nil)
        go_simp
        refine (KF.out _ hH).mono ?_
        rintro e V4 ⟨rfl, hb4⟩
        refine hK.out _ _ (hH.step hb4) (fun hH4 => ?_)
        clear hK K hb4 hH KF
        try simp only [Act.put, List.setIfInBounds_toArray, List.set_cons_zero, List.set_cons_succ]
        refine wpAnyH_ready (rs := [25]) (by kernel_rfl) (by simp) (AllReadyH.cons rfl (fun K hK => ?_) AllReadyH.nil)
        go_simp
        refine (KG.out _ hH4).mono ?_
        rintro e V5 ⟨rfl, hb5⟩
        refine hK.out _ _ (hH4.step hb5) (fun hH5 => ?_)
        clear hK K hb5 hH4 KG
        try simp only [Act.put, List.setIfInBounds_toArray, List.set_cons_zero, List.set_cons_succ]
        refine take_at (i := 26) (some 230) (.bool false) rfl rfl (by kernel_rfl) (by kernel_rfl) (by kernel_rfl) (fun _ _ _ h => h) (Or.inl ⟨by rfl, fun w hSw => by go_simp⟩) hH5 ?_
        refine take_at (i := 27) (some 231) (.bool false) rfl rfl (by kernel_rfl) (by kernel_rfl) (by kernel_rfl) (fun _ _ _ h => h) (Or.inl ⟨by rfl, fun w hSw => by go_simp⟩) hH5 ?_
        try simp only [Act.put, List.setIfInBounds_toArray, List.set_cons_zero, List.set_cons_succ]
        have HX := Asd.mk (show LY w p N bm (j + 1) V5 from ⟨S', mv', HP'.out, hH5.sub (fun y hy => by simp only [List.mem_cons, List.not_mem_nil, or_false] at hy ⊢; exact .inl hy)⟩)
        clear hH5 HP'
        refine wpAnyH_done (by kernel_rfl) ?_ _
        try simp only [Act.put, List.setIfInBounds_toArray, List.set_cons_zero, List.set_cons_succ]
        go_wp2
        go_roundw
        case rel => exact ⟨j + 1, by go_num, by omega, HX⟩
        case measure => simp [intOf]; omega
theorem plays15_walk (sz : Int) (A : Option Addr) (c : Nat) (l : List A15) (w : World) (h1 : Acts A l w) (m1 : l.length ≤ 9223372036854775807) :
    Calls Tryd.prog 6 #[.int .i64 sz, .slice A l.length c] w fun e w' => e = .returned (.bool true) ∧ Below w.heap.size w w' := by
  by_cases h : (sz < 1 ∨ 12 < sz) ∨ 30 < l.length
  · exact plays15_early sz A l.length c w m1 h
  have h2 : l.length ≤ 30 := Nat.le_of_not_lt (fun e => h (.inr e))
  have a1 : ¬ sz < 1 := fun e => h (.inl (.inl e))
  have a2 : ¬ (12 < sz) := fun e => h (.inl (.inr e))
  obtain ⟨N, rfl⟩ := Int.eq_ofNat_of_zero_le (show 0 ≤ sz by omega)
  exact plays15_main N A c l w h1 h2 (by omega) (by omega)
end Go.Proofs.YtknbhgodhmcemaaDoor.So
namespace Go.Proofs.YtknbhgodhmcemaaDoor
open Go.RowKit
mutual
def flat : DataW Unit → List Value
  | .lit (.int k n) => [.int k n]
  | .agg parts => flats parts
  | _ => []
def flats : List (DataW Unit) → List Value
  | [] => []
  | d :: r => flat d ++ flats r
end
def layObj (d : DataW Unit) : Obj → Obj
  | .cells _ t fr => .cells (flat d).toArray t fr
  | o => o
noncomputable def laidWorld (os : Os) : World :=
  let w0 := World.holding Tryd.prog os ⟨#[], #[], []⟩
  { w0 with heap := (w0.heap.modify 1 (layObj Rows.laid_unicode_utf8_first)).modify 2 (layObj Rows.laid_unicode_utf8_acceptRanges) }
end Go.Proofs.YtknbhgodhmcemaaDoor
