/- Texts of the seat, as far as the row needs them. -/
import Derived.Below
import Derived.BigQuiet
import Derived.ChangeArms
import Derived.ChangeSlices
import Derived.DataReads
import Derived.Deep.CutBlock
import Derived.Deep.DeepCutAuto
import Derived.Deep.DeepFit
import Derived.Deep.Light
import Derived.Deep.LoopGhost
import Derived.Deep.QuietTactic
import Derived.Deep.RegionHeld3
import Derived.Ground.Names2Prog
import Derived.LaidMore
import Derived.Laws.AppendOwn
import Derived.Laws.BitsAllLaws
import Derived.Laws.BitsLemmas
import Derived.Laws.CopyOwn
import Derived.Laws.Externs
import Derived.Laws.IdiomCopy
import Derived.Laws.IdiomStrings
import Derived.Laws.OwnMore
import Derived.Laws.ResultCell
import Derived.Laws.Rows
import Derived.Laws.StructEq
import Derived.Laws.Tables
import Derived.Lib.AppendStr
import Derived.Lib.FrozenHead2
import Derived.Lib.OthersKept
import Derived.Lib.RepeatB
import Derived.Lib.TrimByte
import Derived.Lib.UnsafeStr
import Derived.LoopIn
import Derived.LoopNIn
import Derived.Maps.Own
import Derived.Maps.OwnOps
import Derived.Maps.OwnSet
import Derived.Maps.Views
import Derived.OrdersHeld
import Derived.Outline
import Derived.OwnWalk
import Derived.OwnWalkIn
import Derived.ProofKit
import Derived.RangeFuncBound
import Derived.RangeFuncCalls
import Derived.RangeFuncLeaves
import Derived.RangeFuncNested
import Derived.Shelf.Abstract
import Derived.Shelf.Bits.Mul64
import Derived.Shelf.RegionOpen
import Derived.Shelf.Slices.Clone
import Derived.Shelf.Small.Strs
import Derived.Shelf.Small.Utf8
import Derived.Shelf.Strings.AsciiSet
import Derived.Shelf.Strings.Builder1
import Derived.Shelf.Strings.Builder2
import Derived.Shelf.Strings.Builder2Cap
import Derived.Shelf.Strings.BuilderCap
import Derived.Shelf.Strings.BuilderF
import Derived.Shelf.Strings.BuilderK
import Derived.Shelf.Strings.Prefix
import Derived.Shelf.Strings.Repeat
import Derived.Shelf.Strings.Runes
import Derived.Shelf.Strings.Search1
import Derived.Shelf.Strings.Trim
import Derived.Shelf.Unicode.DecodeSlow
import Derived.SliceStrings
import Derived.StillTailTactics
import Derived.TacticsInMore
import Derived.Test.YtknbhgodhmcemaaDoorProg
import Derived.Test.YtknbhgodhmcemaaDoorRows
import Derived.WalkKit
import Derived.WalkMore
import Derived.WideShapes
import Derived.Test.YtknbhgodhmcemaaDoorQSlotTears0
import Derived.Test.YtknbhgodhmcemaaDoorQSlotTears1
set_option linter.unusedVariables false
set_option linter.unusedSimpArgs false
namespace Go.Proofs.YtknbhgodhmcemaaDoor.So
set_option linter.unusedSimpArgs false
set_option linter.unusedVariables false
set_option maxRecDepth 100000
open Go.RowKit Go.Shelf Go.Proofs.YtknbhgodhmcemaaDoor.Own Go.Proofs.YtknbhgodhmcemaaDoor.Cel Go.Proofs.YtknbhgodhmcemaaDoor.Dk
open Go.Proofs.YtknbhgodhmcemaaDoor.Sl (Rec openS open_calls recV recV_one)
attribute [local go_sem] Oper.semAt_some
section
variable {P : Program}
theorem in_store_row {F : Fence} {n : Nat} {ops : Array Oper} {rest : List Oper} {o : Oper} {a : Act} {w : World} {Q : Exit → Act → World → Prop} (hgd : o.guard = none) (ty : TypeId) (x y : Operand) (ho : o.op = .store ty x y)
    (g : Nat) (cells : Array Value) (hx : a.eval x = .pointer (some ⟨g, 0, none⟩)) (hy : a.eval y = .agg cells)
    (t : TypeId) (old : Array Value) (hg : w.heap[g]? = some (.cells old t (0, 0))) (hi : (P.info? ty).map (·.size) = some cells.size)
    (hold : old.size = cells.size) (h1 : cells.all (·.oneCell') = true)
    (h : wpListIn F n P ops Q rest (a.put o.dst undef) (w.setRow g cells)) : wpListIn F n P ops Q (o :: rest) a w := by
  refine wpListIn_plain hgd fun K hK => ?_
  unfold Oper.wpIn
  refine ⟨?_, ?_⟩
  · simp [Oper.about, ho]
  · rw [Oper.semAt_plain F _ _ (by rw [ho]; intro c hc'; cases hc')]
    unfold execOp
    simp only [ho, hx, hy, Instr.storeAt, Instr.sureAddr, Sem.run_bind, Sem.run_pure, Result.andThen_ok, run_storeVar_row w g t ty old cells hg hi hold h1]
    exact hK _ _ h
theorem in_load_row {F : Fence} {n : Nat} {ops : Array Oper} {rest : List Oper} {o : Oper} {a : Act} {w : World} {Q : Exit → Act → World → Prop} (hw : Region.wanted o (yielded ops a.tmps) = true) (ty : TypeId) (x : Operand) (ho : o.op = .load ty x)
    (g : Nat) (hx : a.eval x = .pointer (some ⟨g, 0, none⟩)) (t : TypeId) (cs : Array Value) (fr : Nat × Nat) (d : TypeDesc) (hg : w.heap[g]? = some (.cells cs t fr))
    (hu : P.underlying ty = some d) (hd : (match d with | .struct _ | .array _ _ => true | _ => false) = true) (hi : (P.info? ty).map (·.size) = some cs.size)
    (h : wpListIn F n P ops Q rest (a.put o.dst (.agg cs)) w) : wpListIn F n P ops Q (o :: rest) a w := by
  refine wpListIn_step fun K hK => ?_
  rw [if_pos hw]
  unfold Oper.wpIn
  refine ⟨?_, ?_⟩
  · simp [Oper.about, ho]
  · rw [Oper.semAt_plain F _ _ (by rw [ho]; intro c hc'; cases hc')]
    unfold execOp
    simp only [ho, hx, Instr.loadAt, Instr.sureAddr, Sem.run_bind, Sem.run_pure, Result.andThen_ok, run_loadVar_row w g t ty cs fr d hg hu hd hi]
    exact hK _ _ h
end
abbrev RX := { x : Nat × Rec // x.1 < 1000000 ∧ x.2.i < 4294967296 ∧ x.2.d.size ≤ 1000 }
def encX (x : RX) : Array Value := #[.int .i64 (x.1.1 : Nat), .agg (recV x.1.2)]
theorem openS_d (s : ByteArray) : (openS s).1.d.size ≤ 1000 := by
  by_cases h1 : s.size ≠ 128
  · rw [Sl.openS_len h1]; exact Nat.zero_le _
  have h1 : s.size = 128 := by omega
  by_cases h2 : Sl.blankB s.data.toList = true
  · rw [Sl.openS_blank h1 h2]; exact Nat.zero_le _
  have h2 : Sl.blankB s.data.toList = false := by simpa using h2
  by_cases h3 : Sl.sumN (s.extract 0 124).data.toList ≠ Sl.low s.data.toList 124 4
  · rw [Sl.openS_sum h1 h2 h3]; exact Nat.zero_le _
  have h3 : Sl.sumN (s.extract 0 124).data.toList = Sl.low s.data.toList 124 4 := Classical.not_not.1 h3
  by_cases h4 : (s.data.toList.getD 13 0).toNat > 110 ∨ Sl.blankB (s.extract (14 + (s.data.toList.getD 13 0).toNat) 124).data.toList = false
  · rw [Sl.openS_form h1 h2 h3 h4]; exact Nat.zero_le _
  · have h5 : (s.data.toList.getD 13 0).toNat ≤ 110 := by omega
    have h6 : Sl.blankB (s.extract (14 + (s.data.toList.getD 13 0).toNat) 124).data.toList = true := by
      cases h : Sl.blankB (s.extract (14 + (s.data.toList.getD 13 0).toNat) 124).data.toList with
      | true => rfl
      | false => exact absurd (.inr h) h4
    rw [Sl.openS_ok h1 h2 h3 h5 h6]
    show (s.extract 14 (14 + (s.data.toList.getD 13 0).toNat)).size ≤ 1000
    rw [ByteArray.size_extract]
    omega
def recsGo (rd : List ByteArray) (fr : Nat) : Nat → Nat → List RX
  | 0, _ => []
  | n + 1, i => if h : (openS (rd.getD (fr + i) ByteArray.empty)).2 = 0 ∧ i < 1000000 then ⟨(i, (openS (rd.getD (fr + i) ByteArray.empty)).1), h.2, (Sl.open_back _).2.2.1, openS_d _⟩ :: recsGo rd fr n (i + 1) else recsGo rd fr n (i + 1)
def KeepB (n0 c : Nat) (W W' : World) : Prop := Below n0 W W' ∧ ∀ k, c ≤ k → k < c + 3 → W'.heap[k]? = W.heap[k]?
theorem keepB_t {n0 c : Nat} {X Y Z : World} (h : KeepB n0 c X Y) (k : KeepB n0 c Y Z) : KeepB n0 c X Z := ⟨h.1.trans k.1, fun i h1 h2 => (k.2 i h1 h2).trans (h.2 i h1 h2)⟩
theorem keepB_b {n0 c : Nat} {w : World} (hn : n0 ≤ w.heap.size) (hc : c + 3 ≤ w.heap.size) (W : World) (l : Nat) (o o' : Obj) (hl : w.heap.size ≤ l) (h : W.heap[l]? = some o) (_ : o.isCells = false) (_ : o.isWalk = false) : KeepB n0 c W (W.putObj l o') :=
  ⟨belowK_b hn W l o o' hl h ‹_› ‹_›, fun k h1 h2 => World.putObj_heap_other (by omega)⟩
variable {B p : Nat} {S : DS} {F : Nat → Prop} {W : World}
structure IW (B p : Nat) (S : DS) (F : Nat → Prop) (n0 c fr room : Nat) (V : World) : Prop where
  dk : DK B p S F V
  f : ∀ k, F k → k < n0
  z0 : V.heap[c]? = some (.cells #[.pointer (some ⟨p, 0, none⟩)] 25 (0, 0))
  z1 : V.heap[c + 1]? = some (.cells #[.int .i64 (fr : Nat)] 3 (0, 0))
  z2 : V.heap[c + 2]? = some (.cells #[.int .i64 (room : Nat)] 3 (0, 0))
theorem IW.keep {n0 c fr room : Nat} {V V' : World} (h : IW B p S F n0 c fr room V) (k : KeepB n0 c V V') : IW B p S F n0 c fr room V' :=
  ⟨h.dk.keep (fun q hq => k.1.block q (h.f q hq)), h.f, (k.2 c (Nat.le_refl _) (by omega)).trans h.z0, (k.2 (c + 1) (by omega) (by omega)).trans h.z1, (k.2 (c + 2) (by omega) (by omega)).trans h.z2⟩
theorem IW.below {n0 c fr room : Nat} {V V' : World} (h : IW B p S F n0 c fr room V) (hb : Below V.heap.size V V') : IW B p S F n0 c fr room V' :=
  ⟨h.dk.below hb, h.f, Own.keep h.z0 hb, Own.keep h.z1 hb, Own.keep h.z2 hb⟩
set_option maxHeartbeats 4000000 in
theorem recs_stops (n : Nat) (hn : 2 ≤ n) {w0 : World} {n0 c fr room : Nat} (h : IW B p S F n0 c fr room w0) (hn0 : n0 ≤ c) (hl : fr + room ≤ S.lasts.length) (hN : S.lasts.length ≤ 5000) (hsz : ∀ j, (S.read.getD j ByteArray.empty).size ≤ 1000) :
    SeqStopsK Fence.wide n Tryd.prog 85 #[.pointer (some ⟨c + 2, 0, none⟩), .pointer (some ⟨c, 0, none⟩), .pointer (some ⟨c + 1, 0, none⟩)] encX (KeepB n0 c) (fun xs => xs = recsGo S.read fr room 0) (fun pre => pre <+: recsGo S.read fr room 0) (recsGo S.read fr room 0).length w0 := fun l J Jx W hW hJ hJx hY h0 => by
  refine callsIn_of_wp Tryd.func85 rfl trivial ?_ rfl
  simp only [Tryd.ntmps85, List.size_toArray, List.length_cons, List.length_nil, Nat.reduceAdd, Nat.reduceSub, Array.replicate_succ, Array.replicate_zero, List.push_toArray, List.append_toArray, List.nil_append, List.cons_append]
  have hIW := h.below hW
  have H := Aside0.mk hIW
  have c2 : W.cell? ⟨c + 2, 0, none⟩ = some (.int .i64 (room : Nat)) := cell_of_row _ _ 0 _ _ _ hIW.z2
  have H0 := Aside0.mk h0
  clear hIW h0
  have HSZ := Aside0.mk hsz
  have HY := Aside0.mk hY
  clear hY hsz
  gi_wp2
  gi_loopw [11] (fun iv V => ∃ (i : Nat) (pre : List RX), iv = .int .i64 i ∧ i ≤ room ∧ Aside0 (recsGo S.read fr room 0 = pre ++ recsGo S.read fr (room - i) i) ∧ Aside0 (J pre V ∧ IW B p S F n0 c fr room V ∧ W.heap.size ≤ V.heap.size)) (fun iv _ => room - (intOf iv).toNat)
  case atStart => exact ⟨0, [], rfl, by omega, ⟨rfl⟩, ⟨H0.out, H.out, Nat.le_refl _⟩⟩
  case round =>
    obtain ⟨i, pre, rfl, hi, HE, HS⟩ := hrel
    clear H H0 c2
    by_cases hlt : i < room
    rotate_left
    · obtain rfl : i = room := by omega
      have HQ := Aside0.mk (show pre = recsGo S.read fr i 0 ∧ J pre wr from ⟨by have := HE.out; rw [Nat.sub_self, recsGo, List.append_nil] at this; exact this.symm, HS.out.1⟩)
      clear HE HS hlt hi
      gi_wp2
      go_end0
      exact ⟨⟨_, rfl⟩, .inl ⟨pre, HQ.out.1, HQ.out.2⟩⟩
    have hi1 : (i : Int) < (room : Int) := by omega
    have c0 : wr.cell? ⟨c, 0, none⟩ = some (.pointer (some ⟨p, 0, none⟩)) := cell_of_row _ _ 0 _ _ _ HS.out.2.1.z0
    have c1 : wr.cell? ⟨c + 1, 0, none⟩ = some (.int .i64 (fr : Nat)) := cell_of_row _ _ 0 _ _ _ HS.out.2.1.z1
    have er : S.readAt ((fr + i : Nat) : Int) = (S.read.getD (fr + i) ByteArray.empty, 0) := by
      unfold DS.readAt
      rw [if_pos ⟨by omega, by omega⟩, Int.toNat_natCast]
    have hsz1 := HSZ.out (fr + i)
    obtain ⟨s, hs⟩ : ∃ s, S.read.getD (fr + i) ByteArray.empty = s := ⟨_, rfl⟩
    rw [hs, show ((fr + i : Nat) : Int) = (fr : Int) + (i : Int) by omega] at er
    rw [hs] at hsz1
    have KO := Aside0.mk (fun V => open_calls s V hsz1)
    obtain ⟨⟨r, q⟩, ho⟩ : ∃ o, openS s = o := ⟨_, rfl⟩
    rw [ho] at KO
    change Aside0 (∀ V, Calls Tryd.prog 47 #[.string s] V fun e w' => e = .returned (.tuple #[.agg (recV r), .int .i64 q]) ∧ Below V.heap.size V w') at KO
    have KR := read_calls HS.out.2.1.dk ((fr : Int) + (i : Int))
    rw [er] at KR
    have hXb : i < 1000000 ∧ r.i < 4294967296 ∧ r.d.size ≤ 1000 := ⟨by omega, by have := (Sl.open_back s).2.2.1; rw [ho] at this; exact this, by have := openS_d s; rw [ho] at this; exact this⟩
    obtain ⟨X, hX1⟩ : ∃ X : RX, X.1 = (i, r) := ⟨⟨(i, r), hXb⟩, rfl⟩
    have hstep : recsGo S.read fr (room - i) i = if q = 0 then X :: recsGo S.read fr (room - (i + 1)) (i + 1) else recsGo S.read fr (room - (i + 1)) (i + 1) := by
      have e : room - i = (room - (i + 1)) + 1 := by omega
      rw [e, recsGo]
      by_cases hq : q = 0
      · rw [dif_pos ⟨by rw [hs, ho]; exact hq, by omega⟩, if_pos hq]
        congr 1
        apply Subtype.ext
        rw [hX1]
        simp only [hs, ho]
      · rw [dif_neg (fun e => hq (by have := e.1; rw [hs, ho] at this; exact this)), if_neg hq]
    have HI2 := Aside0.mk (show (Tryd.prog.info? 64).map (·.size) = some (recV r).size from Sl.infoR)
    have hone2 := recV_one r
    have HH := Aside0.mk hstep
    have HX1 := Aside0.mk hX1
    clear er hs ho hsz1 hstep hX1 hXb
    gi_wp2
    refine ⟨trivial, fun _ => by omega, ?_⟩
    refine (callsIn_wide.2 KR).mono ?_
    rintro e w1 ⟨rfl, rfl⟩
    clear KR c0 c1
    gi_wp2
    refine ⟨trivial, fun _ => by omega, ?_⟩
    refine (callsIn_wide.2 (KO.out _)).mono ?_
    rintro e V3 ⟨rfl, hb⟩
    have z15 : (V3.alloc (.cells #[.int .u8 0, .int .u64 0, .int .u32 0, .string ⟨#[]⟩] 64)).heap[V3.heap.size]? = some (.cells #[.int .u8 0, .int .u64 0, .int .u32 0, .string ⟨#[]⟩] 64 (0, 0)) := heap_alloc_new V3 _
    have hb2 := hb.trans ((below_setRow ((Below.refl V3.heap.size V3).alloc (Nat.le_refl _) (.cells #[.int .u8 0, .int .u64 0, .int .u32 0, .string ⟨#[]⟩] 64)) (g := V3.heap.size) (Nat.le_refl _) (recV r)).mono hb.size)
    have Z15 := Aside0.mk (setRow_heap _ _ _ (recV r) _ (0, 0) z15)
    have HS2 := Aside0.mk (show J pre ((V3.alloc (.cells #[.int .u8 0, .int .u64 0, .int .u32 0, .string ⟨#[]⟩] 64)).setRow V3.heap.size (recV r)) ∧ IW B p S F n0 c fr room ((V3.alloc (.cells #[.int .u8 0, .int .u64 0, .int .u32 0, .string ⟨#[]⟩] 64)).setRow V3.heap.size (recV r)) ∧ W.heap.size ≤ ((V3.alloc (.cells #[.int .u8 0, .int .u64 0, .int .u32 0, .string ⟨#[]⟩] 64)).setRow V3.heap.size (recV r)).heap.size from ⟨hJ pre _ _ none HS.out.1 (grown_of_below hb2) (fun r e => by cases e), HS.out.2.1.below hb2, Nat.le_trans HS.out.2.2 hb2.size⟩)
    clear hb hb2 KO HS
    by_cases hq : q = 0
    rotate_left
    · have hq' : (q == 0) = false := by simpa using hq
      have HN := Aside0.mk (show recsGo S.read fr room 0 = pre ++ recsGo S.read fr (room - (i + 1)) (i + 1) by rw [HE.out, HH.out, if_neg hq])
      clear HE HH hq Z15
      gi_wp2_with (first | refine in_store_row rfl 64 _ _ rfl V3.heap.size (recV r) rfl rfl 64 _ z15 HI2.out rfl hone2 ?_ | fail)
      refine ⟨fun _ h => (by cases h), ?_⟩
      gi_wp2
      go_roundw
      case rel => exact ⟨i + 1, pre, by go_num, by omega, HN, HS2⟩
      case measure => simp [intOf]; omega
    subst hq
    have HN := Aside0.mk (show recsGo S.read fr room 0 = (pre ++ [X]) ++ recsGo S.read fr (room - (i + 1)) (i + 1) by rw [HE.out, HH.out, if_pos rfl, List.append_assoc]; rfl)
    have hlen : pre.length < (recsGo S.read fr room 0).length := by rw [HN.out]; simp
    obtain ⟨yfn, ytmps, yassign, ybody, hy, hR⟩ := HY.out pre X _ HS2.out.1 hlen
    rw [encX, HX1.out] at hy
    dsimp only at hy
    have HR := Aside0.mk hR
    have HPX := Aside0.mk (show pre ++ [X] <+: recsGo S.read fr room 0 from ⟨_, HN.out.symm⟩)
    clear HE HH hlen hR
    gi_wp2_with (first | refine in_store_row rfl 64 _ _ rfl V3.heap.size (recV r) rfl rfl 64 _ z15 HI2.out rfl hone2 ?_ | refine in_load_row rfl 64 _ rfl V3.heap.size rfl 64 _ (0, 0) _ Z15.out Tryd.underlying64 rfl HI2.out ?_ | fail)
    refine ⟨fun _ => by omega, ?_⟩
    refine HR.out.mono ?_
    rintro e W3 (⟨rfl, hJ3, hk3⟩ | ⟨rfl, hJx3⟩)
    · have HS3 := Aside0.mk (show J (pre ++ [X]) W3 ∧ IW B p S F n0 c fr room W3 ∧ W.heap.size ≤ W3.heap.size from ⟨hJ3, HS2.out.2.1.keep hk3, Nat.le_trans HS2.out.2.2 hk3.1.size⟩)
      clear hJ3 hk3 HS2 HR hy Z15 HPX
      gi_wp2
      go_roundw
      case rel => exact ⟨i + 1, pre ++ [X], by go_num, by omega, HN, HS3⟩
      case measure => simp [intOf]; omega
    · have HX3 := Aside0.mk hJx3
      clear hJx3 HS2 HR hy Z15
      gi_wp2
      refine bodyPost_ret (results_none rfl _ _ _) rfl ?_
      exact ⟨⟨_, rfl⟩, .inr ⟨pre ++ [X], HPX.out, HX3.out⟩⟩
end Go.Proofs.YtknbhgodhmcemaaDoor.So
namespace Go.Proofs.YtknbhgodhmcemaaDoor.So
set_option linter.unusedSimpArgs false
set_option linter.unusedVariables false
set_option maxRecDepth 100000
open Go.RowKit Go.Shelf Go.Proofs.YtknbhgodhmcemaaDoor.Own Go.Proofs.YtknbhgodhmcemaaDoor.Cel Go.Proofs.YtknbhgodhmcemaaDoor.Dk
open Go.Proofs.YtknbhgodhmcemaaDoor.Sl (Rec openS open_calls recV recV_one)
attribute [local go_sem] Oper.semAt_some
variable {B p : Nat} {S : DS} {F : Nat → Prop} {W : World}
theorem records_calls (p fr room : Nat) (V : World) :
    Calls Tryd.prog 54 #[.pointer (some ⟨p, 0, none⟩), .int .i64 (fr : Nat), .int .i64 (room : Nat)] V fun e V' =>
      e = .returned (.func (.func 85) #[] #[.pointer (some ⟨V.heap.size + 2, 0, none⟩), .pointer (some ⟨V.heap.size, 0, none⟩), .pointer (some ⟨V.heap.size + 1, 0, none⟩)]) ∧
      Below V.heap.size V V' ∧ V'.heap.size = V.heap.size + 3 ∧ V'.heap[V.heap.size]? = some (.cells #[.pointer (some ⟨p, 0, none⟩)] 25 (0, 0)) ∧ V'.heap[V.heap.size + 1]? = some (.cells #[.int .i64 (fr : Nat)] 3 (0, 0)) ∧ V'.heap[V.heap.size + 2]? = some (.cells #[.int .i64 (room : Nat)] 3 (0, 0)) := by
  have b1 := (Below.refl V.heap.size V).alloc (Nat.le_refl _) (.cells #[.pointer (some ⟨p, 0, none⟩)] 25)
  have b2 := b1.alloc (by simp) (.cells #[.int .i64 (fr : Nat)] 3)
  have b3 := b2.alloc (by simp; omega) (.cells #[.int .i64 (room : Nat)] 3)
  have s1 : (V.alloc (.cells #[.pointer (some ⟨p, 0, none⟩)] 25)).heap.size = V.heap.size + 1 := by simp
  have s2 : ((V.alloc (.cells #[.pointer (some ⟨p, 0, none⟩)] 25)).alloc (.cells #[.int .i64 (fr : Nat)] 3)).heap.size = V.heap.size + 2 := by simp
  have z0 := heap_alloc_new V (.cells #[.pointer (some ⟨p, 0, none⟩)] 25)
  have z1 := heap_alloc_new (V.alloc (.cells #[.pointer (some ⟨p, 0, none⟩)] 25)) (.cells #[.int .i64 (fr : Nat)] 3)
  have z2 := heap_alloc_new ((V.alloc (.cells #[.pointer (some ⟨p, 0, none⟩)] 25)).alloc (.cells #[.int .i64 (fr : Nat)] 3)) (.cells #[.int .i64 (room : Nat)] 3)
  rw [s1] at z1
  rw [s2] at z2
  have s3 : (((V.alloc (.cells #[.pointer (some ⟨p, 0, none⟩)] 25)).alloc (.cells #[.int .i64 (fr : Nat)] 3)).alloc (.cells #[.int .i64 (room : Nat)] 3)).heap.size = V.heap.size + 3 := by simp
  have y0 : ((V.alloc (.cells #[.pointer (some ⟨p, 0, none⟩)] 25)).alloc (.cells #[.int .i64 (fr : Nat)] 3)).heap[V.heap.size]? = some (.cells #[.pointer (some ⟨p, 0, none⟩)] 25 (0, 0)) := Own.keep z0 ((Below.refl _ _).alloc (Nat.le_refl _) _)
  have y0' : (((V.alloc (.cells #[.pointer (some ⟨p, 0, none⟩)] 25)).alloc (.cells #[.int .i64 (fr : Nat)] 3)).alloc (.cells #[.int .i64 (room : Nat)] 3)).heap[V.heap.size]? = some (.cells #[.pointer (some ⟨p, 0, none⟩)] 25 (0, 0)) := Own.keep y0 ((Below.refl _ _).alloc (Nat.le_refl _) _)
  have y1 : (((V.alloc (.cells #[.pointer (some ⟨p, 0, none⟩)] 25)).alloc (.cells #[.int .i64 (fr : Nat)] 3)).alloc (.cells #[.int .i64 (room : Nat)] 3)).heap[V.heap.size + 1]? = some (.cells #[.int .i64 (fr : Nat)] 3 (0, 0)) := Own.keep z1 ((Below.refl _ _).alloc (Nat.le_refl _) _)
  have H := Aside0.mk (And.intro b3 (And.intro s3 (And.intro y0' (And.intro y1 z2))))
  clear s3 y0 y0' y1
  clear b1 b2 b3 s1 s2 z0 z1 z2
  go_enter Tryd.func54, Tryd.ntmps54
  go_wp2
  go_ret
  exact ⟨rfl, H.out⟩
theorem own_row (b : Nat) (cs : Array Value) (t : TypeId) {β : Type} : Own (fun (_ : β) (V : World) => V.heap[b]? = some (.cells cs t (0, 0))) := fun s X Y row hs hg hrow =>
  (hg.block b (Array.getElem?_eq_some_iff.1 hs).1 (fun e => by
    obtain ⟨o, ho, hc⟩ := hrow b e.symm
    rw [hs] at ho
    cases ho
    cases hc)).trans hs
theorem keepsFrom_below {V V' : World} {B : Nat} (hb : Below V.heap.size V V') : KeepsFrom B V V' := ⟨hb.size, fun k o _ hk _ => (hb.block k (Array.getElem?_eq_some_iff.1 hk).1).trans hk⟩
theorem keepB_below {V V' : World} {n0 c : Nat} (hb : Below V.heap.size V V') (hn : n0 ≤ V.heap.size) (hc : c + 3 ≤ V.heap.size) : KeepB n0 c V V' := ⟨hb.mono hn, fun k h1 h2 => hb.block k (by omega)⟩
end Go.Proofs.YtknbhgodhmcemaaDoor.So
namespace Go.Proofs.YtknbhgodhmcemaaDoor.So
set_option linter.unusedSimpArgs false
set_option linter.unusedVariables false
set_option maxRecDepth 100000
open Go.RowKit Go.Shelf Go.Proofs.YtknbhgodhmcemaaDoor.Own Go.Proofs.YtknbhgodhmcemaaDoor.Cel Go.Proofs.YtknbhgodhmcemaaDoor.Dk
open Go.Proofs.YtknbhgodhmcemaaDoor.Sl (Rec openS open_calls recV recV_one)
attribute [local go_sem] Oper.semAt_some
def gq (x : RX) (g : Nat) : Nat := if x.1.1 = 0 then x.1.2.g else g
def rdGo : List RX → Nat → Nat → List UInt8 → Option (ByteArray × Nat × Bool)
  | [], _, _, _ => none
  | x :: r, nx, g, out =>
    if badR x.1.1 nx (gq x g) x.1.2 then some (⟨#[]⟩, 0, false)
    else if x.1.2.k = 3 then some (wholeS (out ++ x.1.2.d.data.toList) (gq x g))
    else rdGo r (nx + 1) (gq x g) (out ++ x.1.2.d.data.toList)
def rdSt : List RX → Nat → Nat → List UInt8 → Nat × Nat × List UInt8
  | [], nx, g, out => (nx, g, out)
  | x :: r, nx, g, out => rdSt r (nx + 1) (gq x g) (out ++ x.1.2.d.data.toList)
theorem rdSt_snoc (x : RX) : ∀ (l : List RX) (nx g : Nat) (out : List UInt8), rdSt (l ++ [x]) nx g out = ((rdSt l nx g out).1 + 1, gq x (rdSt l nx g out).2.1, (rdSt l nx g out).2.2 ++ x.1.2.d.data.toList)
  | [], nx, g, out => rfl
  | y :: r, nx, g, out => by rw [List.cons_append, rdSt, rdSt_snoc x r]; rfl
theorem rdGo_snoc (x : RX) : ∀ (l : List RX) (nx g : Nat) (out : List UInt8), rdGo l nx g out = none → rdGo (l ++ [x]) nx g out = rdGo [x] (rdSt l nx g out).1 (rdSt l nx g out).2.1 (rdSt l nx g out).2.2
  | [], nx, g, out, _ => rfl
  | y :: r, nx, g, out, h => by
    rw [rdGo] at h
    rw [List.cons_append, rdGo]
    by_cases h1 : badR y.1.1 nx (gq y g) y.1.2 = true
    · rw [if_pos h1] at h; cases h
    · rw [if_neg h1] at h ⊢
      by_cases h2 : y.1.2.k = 3
      · rw [if_pos h2] at h; cases h
      · rw [if_neg h2] at h ⊢
        rw [rdGo_snoc x r _ _ _ h]; rfl
theorem rdGo_prefix (r : List RX) (R : ByteArray × Nat × Bool) : ∀ (l : List RX) (nx g : Nat) (out : List UInt8), rdGo l nx g out = some R → rdGo (l ++ r) nx g out = some R
  | [], nx, g, out, h => by cases h
  | y :: l, nx, g, out, h => by
    rw [rdGo] at h
    rw [List.cons_append, rdGo]
    by_cases h1 : badR y.1.1 nx (gq y g) y.1.2 = true
    · rw [if_pos h1] at h ⊢; exact h
    · rw [if_neg h1] at h ⊢
      by_cases h2 : y.1.2.k = 3
      · rw [if_pos h2] at h ⊢; exact h
      · rw [if_neg h2] at h ⊢
        exact rdGo_prefix r R l _ _ _ h
theorem rdSt_len : ∀ (l : List RX) (nx g : Nat) (out : List UInt8), (rdSt l nx g out).1 = nx + l.length ∧ (rdSt l nx g out).2.2.length ≤ out.length + 1000 * l.length
  | [], nx, g, out => ⟨rfl, by simp [rdSt]⟩
  | x :: r, nx, g, out => by
    obtain ⟨h1, h2⟩ := rdSt_len r (nx + 1) (gq x g) (out ++ x.1.2.d.data.toList)
    rw [rdSt, List.length_cons]
    have hd : x.1.2.d.data.toList.length = x.1.2.d.size := by rw [Array.length_toList]; rfl
    have := x.2.2.2
    rw [List.length_append, hd] at h2
    exact ⟨by omega, by omega⟩
theorem readGo_fold (rd : List ByteArray) (fr : Nat) : ∀ (n i nx g : Nat) (out : List UInt8), i + n ≤ 1000000 → readGo rd fr n i nx g out = (rdGo (recsGo rd fr n i) nx g out).getD (⟨#[]⟩, 0, false)
  | 0, i, nx, g, out, _ => rfl
  | n + 1, i, nx, g, out, h => by
    rw [readGo, recsGo]
    by_cases ho : (openS (rd.getD (fr + i) ByteArray.empty)).2 = 0
    · rw [if_neg (fun x => x ho), dif_pos ⟨ho, by omega⟩, rdGo]
      have hgq : ∀ hp, gq ⟨(i, (openS (rd.getD (fr + i) ByteArray.empty)).1), hp⟩ g = if i = 0 then (openS (rd.getD (fr + i) ByteArray.empty)).1.g else g := fun _ => rfl
      rw [hgq]
      obtain ⟨G, hG⟩ : ∃ G, (if i = 0 then (openS (rd.getD (fr + i) ByteArray.empty)).1.g else g) = G := ⟨_, rfl⟩
      rw [hG]
      by_cases h1 : badR i nx G (openS (rd.getD (fr + i) ByteArray.empty)).1 = true
      · rw [if_pos h1, if_pos h1]; rfl
      · rw [if_neg h1, if_neg h1]
        by_cases h2 : (openS (rd.getD (fr + i) ByteArray.empty)).1.k = 3
        · rw [if_pos h2, if_pos h2]; rfl
        · rw [if_neg h2, if_neg h2]
          exact readGo_fold rd fr n (i + 1) _ _ _ (by omega)
    · rw [if_pos ho, dif_neg (fun x => ho x.1), readGo_fold rd fr n (i + 1) _ _ _ (by omega)]
structure RI (p fr room : Nat) (W : World) (nx g : Nat) (out : List UInt8) (V : World) : Prop where
  z6 : V.heap[W.heap.size]? = some (.cells #[.string ⟨#[]⟩] 9 (0, 0))
  z7 : V.heap[W.heap.size + 1]? = some (.cells #[.int .u64 0] 29 (0, 0))
  z8 : V.heap[W.heap.size + 2]? = some (.cells #[.bool false] 4 (0, 0))
  bd : Lib.IsBuilderF 105 5 (W.heap.size + 3) (W.heap.size + 3) (Lib.byteCells out) V
  z10 : V.heap[W.heap.size + 4]? = some (.cells #[.int .i64 (nx : Nat)] 3 (0, 0))
  z11 : V.heap[W.heap.size + 5]? = some (.cells #[.int .u64 (g : Nat)] 29 (0, 0))
  y0 : V.heap[W.heap.size + 6]? = some (.cells #[.pointer (some ⟨p, 0, none⟩)] 25 (0, 0))
  y1 : V.heap[W.heap.size + 7]? = some (.cells #[.int .i64 (fr : Nat)] 3 (0, 0))
  y2 : V.heap[W.heap.size + 8]? = some (.cells #[.int .i64 (room : Nat)] 3 (0, 0))
  bel : Below W.heap.size W V
variable {p fr room : Nat} {W V V' : World} {nx g : Nat} {out : List UInt8}
theorem RI.size (h : RI p fr room W nx g out V) : W.heap.size + 9 ≤ V.heap.size := (Array.getElem?_eq_some_iff.1 h.y2).1
theorem builder_grown {T e : TypeId} {B b : Nat} {bs : List Value} {W W' : World} {row : Option Nat} (h : Lib.IsBuilderF T e B b bs W) (hg : W.grownBy W' row) (hr : ∀ r, row = some r → ∃ o : Obj, W.heap[r]? = some o ∧ o.isCells = false) : Lib.IsBuilderF T e B b bs W' := by
  have at_ : ∀ q, Lib.BuilderAtF T e B b q bs W → Lib.BuilderAtF T e B b q bs W' := fun q hq => by
    obtain ⟨hB, v, hv, hown, hne⟩ := hq
    refine ⟨hB, v, (hg.block b (Array.getElem?_eq_some_iff.1 hv).1 (fun e => ?_)).trans hv, hown.kept hg ?_, hne⟩
    · obtain ⟨o, ho, hc⟩ := hr b e.symm
      rw [hv] at ho
      cases ho
      cases hc
    · by_cases hn : v.ownBlock = none
      · exact .inl hn
      · refine .inr (fun e => ?_)
        obtain ⟨k, hk⟩ := Option.ne_none_iff_exists'.1 hn
        obtain ⟨o, ho, hc⟩ := hr k (by rw [← e, hk])
        rcases hown.2 with ⟨rfl, _⟩ | ⟨g', cap, cur, fz, rfl, _, hgg, _⟩
        · cases hk
        · simp [Value.ownBlock] at hk
          subst hk
          rw [hgg] at ho
          cases ho
          cases hc
  exact h.elim (fun x => .inl (at_ _ x)) (fun x => .inr (at_ _ x))
theorem RI.grown (h : RI p fr room W nx g out V) {row : Option Nat} (hg : V.grownBy V' row) (hr : ∀ r, row = some r → W.heap.size ≤ r ∧ ∃ o : Obj, V.heap[r]? = some o ∧ o.isCells = false) : RI p fr room W nx g out V' := by
  have k : ∀ {b : Nat} {cs : Array Value} {t : TypeId}, V.heap[b]? = some (.cells cs t (0, 0)) → V'.heap[b]? = some (.cells cs t (0, 0)) := fun {b cs t} hb =>
    (hg.block b (Array.getElem?_eq_some_iff.1 hb).1 (fun e => by
      obtain ⟨_, o, ho, hc⟩ := hr b e.symm
      rw [hb] at ho
      cases ho
      cases hc)).trans hb
  exact ⟨k h.z6, k h.z7, k h.z8, builder_grown h.bd hg (fun r e => (hr r e).2), k h.z10, k h.z11, k h.y0, k h.y1, k h.y2, h.bel.grown hg h.bel.size (fun r e => (hr r e).1)⟩
theorem RI.below (h : RI p fr room W nx g out V) (hb : Below V.heap.size V V') : RI p fr room W nx g out V' :=
  ⟨Own.keep h.z6 hb, Own.keep h.z7 hb, Own.keep h.z8 hb, Bld.builder_below h.bd hb, Own.keep h.z10 hb, Own.keep h.z11 hb, Own.keep h.y0 hb, Own.keep h.y1 hb, Own.keep h.y2 hb, h.bel.trans (hb.mono h.bel.size)⟩
def KX (W V V' : World) : Prop := KeepsFrom (W.heap.size + 9) V V' ∧ KeepB W.heap.size (W.heap.size + 6) V V'
theorem KX.refl (W V : World) : KX W V V := ⟨KeepsFrom.refl _ _, Below.refl _ _, fun _ _ _ => rfl⟩
theorem KX.trans {V1 V2 V3 : World} (h : KX W V1 V2) (k : KX W V2 V3) : KX W V1 V3 := ⟨h.1.trans k.1, keepB_t h.2 k.2⟩
theorem KX.set (k : Nat) (hk : k = 4 ∨ k = 5) (u : Value) (V : World) : KX W V (V.setCell ⟨W.heap.size + k, 0, none⟩ u) :=
  ⟨(KeepsOthers.setCell V ⟨W.heap.size + k, 0, none⟩ u).from _, (Below.refl _ V).setCell (p := ⟨W.heap.size + k, 0, none⟩) (by show W.heap.size ≤ W.heap.size + k; omega) u, fun q h1 h2 => set_other V _ _ q (by show q ≠ W.heap.size + k; omega)⟩
theorem builder_set {T e : TypeId} {b q : Nat} {bs : List Value} {V : World} {cs : Array Value} {t : TypeId} {u : Value} (h : Lib.IsBuilderF T e b b bs V) (hq : V.heap[q]? = some (.cells cs t (0, 0))) (h1 : t ≠ T) (h2 : t ≠ e) : Lib.IsBuilderF T e b b bs (V.setCell ⟨q, 0, none⟩ u) := by
  have hg : V.grownBy (V.setCell ⟨q, 0, none⟩ u) (some q) := ⟨rfl, rfl, rfl, by simp [World.setCell], fun k _ hk => set_other V _ _ k (fun e => hk (by rw [e]))⟩
  have at_ : ∀ z, Lib.BuilderAtF T e b b z bs V → Lib.BuilderAtF T e b b z bs (V.setCell ⟨q, 0, none⟩ u) := fun z hz => by
    obtain ⟨hB, v, hv, hown, hne⟩ := hz
    refine ⟨hB, v, (set_other V _ _ b (fun e => ?_)).trans hv, hown.kept hg ?_, hne⟩
    · have e2 : b = q := e
      rw [e2, hq] at hv
      simp only [Option.some.injEq, Obj.cells.injEq] at hv
      exact h1 hv.2.1
    · rcases hown.2 with ⟨rfl, _⟩ | ⟨g', cap, cur, fz, rfl, _, hgg, _⟩
      · exact .inl rfl
      · refine .inr (fun e => ?_)
        simp only [Value.ownBlock, Option.some.injEq] at e
        subst e
        rw [hq] at hgg
        simp only [Option.some.injEq, Obj.cells.injEq] at hgg
        exact h2 hgg.2.1
  exact h.elim (fun x => .inl (at_ _ x)) (fun x => .inr (at_ _ x))
theorem RI.next (h : RI p fr room W nx g out V) (nx' : Nat) : RI p fr room W nx' g out (V.setCell ⟨W.heap.size + 4, 0, none⟩ (.int .i64 (nx' : Nat))) := by
  have k : ∀ {b : Nat} {o : Obj}, b ≠ W.heap.size + 4 → V.heap[b]? = some o → (V.setCell ⟨W.heap.size + 4, 0, none⟩ (.int .i64 (nx' : Nat))).heap[b]? = some o := fun hn hb => (set_other V _ _ _ hn).trans hb
  exact ⟨k (by omega) h.z6, k (by omega) h.z7, k (by omega) h.z8, builder_set h.bd h.z10 (by decide) (by decide), heap_setCell_same V _ 0 _ _ _ h.z10, k (by omega) h.z11, k (by omega) h.y0, k (by omega) h.y1, k (by omega) h.y2, h.bel.setCell (p := ⟨W.heap.size + 4, 0, none⟩) (by show W.heap.size ≤ W.heap.size + 4; omega) _⟩
theorem RI.gen (h : RI p fr room W nx g out V) (g' : Nat) : RI p fr room W nx g' out (V.setCell ⟨W.heap.size + 5, 0, none⟩ (.int .u64 (g' : Nat))) := by
  have k : ∀ {b : Nat} {o : Obj}, b ≠ W.heap.size + 5 → V.heap[b]? = some o → (V.setCell ⟨W.heap.size + 5, 0, none⟩ (.int .u64 (g' : Nat))).heap[b]? = some o := fun hn hb => (set_other V _ _ _ hn).trans hb
  exact ⟨k (by omega) h.z6, k (by omega) h.z7, k (by omega) h.z8, builder_set h.bd h.z11 (by decide) (by decide), k (by omega) h.z10, heap_setCell_same V _ 0 _ _ _ h.z11, k (by omega) h.y0, k (by omega) h.y1, k (by omega) h.y2, h.bel.setCell (p := ⟨W.heap.size + 5, 0, none⟩) (by show W.heap.size ≤ W.heap.size + 5; omega) _⟩
theorem RI.write (h : RI p fr room W nx g out V) (s : ByteArray) (hl : out.length + s.size ≤ 100000000) :
    Calls Tryd.prog 55 #[.pointer (some ⟨W.heap.size + 3, 0, none⟩), .string s] V fun e V' => e = .returned (.tuple #[.int .i64 s.size, .nilIface]) ∧ RI p fr room W nx g (out ++ s.data.toList) V' ∧ KX W V V' ∧
      ∀ (b : Nat) (cs : Array Value), V.heap[b]? = some (.cells cs 64 (0, 0)) → V'.heap[b]? = some (.cells cs 64 (0, 0)) := by
  have hsz := h.size
  refine (Bld.writeString (W.heap.size + 3) (W.heap.size + 3) (Lib.byteCells out) s V h.bd (by rw [Lib.byteCells_length]; omega) (by omega)).mono ?_
  rintro e V' ⟨rfl, h2, hb, ho⟩
  rw [Lib.strCells_eq, ← Lib.byteCells_append] at h2
  have k : ∀ {b : Nat} {cs : Array Value} {t : TypeId}, t ≠ 5 → b ≠ W.heap.size + 3 → V.heap[b]? = some (.cells cs t (0, 0)) → V'.heap[b]? = some (.cells cs t (0, 0)) := fun {b cs t} ht hn hz =>
    ho b _ hz (fun e => hn (by simpa using e)) (fun c fz e => by simp only [Obj.cells.injEq] at e; exact ht e.2.1)
  have hne : ∀ {b : Nat} {cs : Array Value}, V.heap[b]? = some (.cells cs 64 (0, 0)) → b ≠ W.heap.size + 3 := fun {b cs} hz e => by
    subst e
    rcases h.bd with ⟨_, v, hv, _⟩ | ⟨_, v, hv, _⟩
    · rw [hz] at hv; simp at hv
    · rw [hz] at hv; simp at hv
  refine ⟨rfl, ⟨k (by decide) (by omega) h.z6, k (by decide) (by omega) h.z7, k (by decide) (by omega) h.z8, .inr h2, k (by decide) (by omega) h.z10, k (by decide) (by omega) h.z11, k (by decide) (by omega) h.y0, k (by decide) (by omega) h.y1, k (by decide) (by omega) h.y2, h.bel.trans (hb.mono (by omega))⟩,
    ⟨⟨hb.size, fun q o hq hz hc => ho q o hz (fun e => by have : q = W.heap.size + 3 := by simpa using e
                                                          omega) (fun c fz e => by subst e; cases hc)⟩, hb.mono (by omega), fun q h1 h3 => ?_⟩, fun b cs hz => k (by decide) (hne hz) hz⟩
  have : q = W.heap.size + 6 ∨ q = W.heap.size + 7 ∨ q = W.heap.size + 8 := by omega
  rcases this with rfl | rfl | rfl
  · rw [h.y0]; exact k (by decide) (by omega) h.y0
  · rw [h.y1]; exact k (by decide) (by omega) h.y1
  · rw [h.y2]; exact k (by decide) (by omega) h.y2
theorem RI.string (h : RI p fr room W nx g out V) :
    Calls Tryd.prog 57 #[.pointer (some ⟨W.heap.size + 3, 0, none⟩)] V fun e V' => e = .returned (.string ⟨out.toArray⟩) ∧ RI p fr room W nx g out V' ∧ KX W V V' := by
  have hsz := h.size
  refine (Tryd.Builder_String_any_k (W.heap.size + 3) (W.heap.size + 3) out V h.bd (by omega)).mono ?_
  rintro e V' ⟨rfl, h2, hb, ho⟩
  have k : ∀ {b : Nat} {cs : Array Value} {t : TypeId}, t ≠ 5 → b ≠ W.heap.size + 3 → V.heap[b]? = some (.cells cs t (0, 0)) → V'.heap[b]? = some (.cells cs t (0, 0)) := fun {b cs t} ht hn hz =>
    ho b _ hz (fun e => hn (by simpa using e)) (fun c fz e => by simp only [Obj.cells.injEq] at e; exact ht e.2.1)
  refine ⟨rfl, ⟨k (by decide) (by omega) h.z6, k (by decide) (by omega) h.z7, k (by decide) (by omega) h.z8, h2, k (by decide) (by omega) h.z10, k (by decide) (by omega) h.z11, k (by decide) (by omega) h.y0, k (by decide) (by omega) h.y1, k (by decide) (by omega) h.y2, h.bel.trans (hb.mono (by omega))⟩,
    ⟨⟨hb.size, fun q o hq hz hc => ho q o hz (fun e => by have : q = W.heap.size + 3 := by simpa using e
                                                          omega) (fun c fz e => by subst e; cases hc)⟩, hb.mono (by omega), fun q h1 h3 => ?_⟩⟩
  have : q = W.heap.size + 6 ∨ q = W.heap.size + 7 ∨ q = W.heap.size + 8 := by omega
  rcases this with rfl | rfl | rfl
  · rw [h.y0]; exact k (by decide) (by omega) h.y0
  · rw [h.y1]; exact k (by decide) (by omega) h.y1
  · rw [h.y2]; exact k (by decide) (by omega) h.y2
structure RR (W : World) (R : ByteArray × Nat × Bool) (V : World) : Prop where
  z6 : V.heap[W.heap.size]? = some (.cells #[.string R.1] 9 (0, 0))
  z7 : V.heap[W.heap.size + 1]? = some (.cells #[.int .u64 (R.2.1 : Nat)] 29 (0, 0))
  z8 : V.heap[W.heap.size + 2]? = some (.cells #[.bool R.2.2] 4 (0, 0))
  bel : Below W.heap.size W V
theorem rr_of {R : ByteArray × Nat × Bool} {x : Value} {y : Value} {z : Value} (z6 : V.heap[W.heap.size]? = some (.cells #[x] 9 (0, 0))) (z7 : V.heap[W.heap.size + 1]? = some (.cells #[y] 29 (0, 0))) (z8 : V.heap[W.heap.size + 2]? = some (.cells #[z] 4 (0, 0))) (bel : Below W.heap.size W V) :
    RR W R (((V.setCell ⟨W.heap.size, 0, none⟩ (.string R.1)).setCell ⟨W.heap.size + 1, 0, none⟩ (.int .u64 (R.2.1 : Nat))).setCell ⟨W.heap.size + 2, 0, none⟩ (.bool R.2.2)) ∧
    KeepsFrom (W.heap.size + 9) V (((V.setCell ⟨W.heap.size, 0, none⟩ (.string R.1)).setCell ⟨W.heap.size + 1, 0, none⟩ (.int .u64 (R.2.1 : Nat))).setCell ⟨W.heap.size + 2, 0, none⟩ (.bool R.2.2)) := by
  have o1 : ∀ k, k ≠ W.heap.size → (V.setCell ⟨W.heap.size, 0, none⟩ (.string R.1)).heap[k]? = V.heap[k]? := fun k hk => set_other V _ _ k hk
  have o2 : ∀ k, k ≠ W.heap.size + 1 → ((V.setCell ⟨W.heap.size, 0, none⟩ (.string R.1)).setCell ⟨W.heap.size + 1, 0, none⟩ (.int .u64 (R.2.1 : Nat))).heap[k]? = (V.setCell ⟨W.heap.size, 0, none⟩ (.string R.1)).heap[k]? := fun k hk => set_other _ _ _ k hk
  have o3 : ∀ k, k ≠ W.heap.size + 2 → (((V.setCell ⟨W.heap.size, 0, none⟩ (.string R.1)).setCell ⟨W.heap.size + 1, 0, none⟩ (.int .u64 (R.2.1 : Nat))).setCell ⟨W.heap.size + 2, 0, none⟩ (.bool R.2.2)).heap[k]? = ((V.setCell ⟨W.heap.size, 0, none⟩ (.string R.1)).setCell ⟨W.heap.size + 1, 0, none⟩ (.int .u64 (R.2.1 : Nat))).heap[k]? := fun k hk => set_other _ _ _ k hk
  refine ⟨⟨?_, ?_, ?_, ?_⟩, ?_⟩
  · rw [o3 _ (by omega), o2 _ (by omega)]; exact heap_setCell_same V _ 0 _ _ _ z6
  · rw [o3 _ (by omega)]; exact heap_setCell_same _ _ 0 _ _ _ ((o1 _ (by omega)).trans z7)
  · exact heap_setCell_same _ _ 0 _ _ _ ((o2 _ (by omega)).trans ((o1 _ (by omega)).trans z8))
  · exact ((bel.setCell (p := ⟨W.heap.size, 0, none⟩) (Nat.le_refl _) _).setCell (p := ⟨W.heap.size + 1, 0, none⟩) (by show W.heap.size ≤ W.heap.size + 1; omega) _).setCell (p := ⟨W.heap.size + 2, 0, none⟩) (by show W.heap.size ≤ W.heap.size + 2; omega) _
  · exact (((KeepsOthers.setCell _ _ _).trans (KeepsOthers.setCell _ _ _)).trans (KeepsOthers.setCell _ _ _)).from _
theorem recsGo_len (rd : List ByteArray) (fr : Nat) : ∀ (n i : Nat), (recsGo rd fr n i).length ≤ n
  | 0, _ => Nat.le_refl _
  | n + 1, i => by
    rw [recsGo]
    have := recsGo_len rd fr n (i + 1)
    by_cases ho : (openS (rd.getD (fr + i) ByteArray.empty)).2 = 0 ∧ i < 1000000
    · rw [dif_pos ho, List.length_cons]; omega
    · rw [dif_neg ho]; omega
theorem str_empty (d : ByteArray) : (d.toList == []) = decide (d.size = 0) := by
  rw [ByteArray.toList_eq]
  have hl : d.data.toList.length = d.size := by rw [Array.length_toList]; rfl
  by_cases h : d.size = 0
  · rw [decide_eq_true h, List.length_eq_zero_iff.1 (hl.trans h)]; rfl
  · rw [decide_eq_false h, beq_eq_false_iff_ne]
    intro e
    rw [e] at hl
    exact h hl.symm
theorem RR.grown {R : ByteArray × Nat × Bool} (h : RR W R V) {row : Option Nat} (hg : V.grownBy V' row) (hr : ∀ r, row = some r → W.heap.size ≤ r ∧ ∃ o : Obj, V.heap[r]? = some o ∧ o.isCells = false) : RR W R V' := by
  have k : ∀ {b : Nat} {cs : Array Value} {t : TypeId}, V.heap[b]? = some (.cells cs t (0, 0)) → V'.heap[b]? = some (.cells cs t (0, 0)) := fun {b cs t} hb =>
    (hg.block b (Array.getElem?_eq_some_iff.1 hb).1 (fun e => by
      obtain ⟨_, o, ho, hc⟩ := hr b e.symm
      rw [hb] at ho
      cases ho
      cases hc)).trans hb
  exact ⟨k h.z6, k h.z7, k h.z8, h.bel.grown hg h.bel.size (fun r e => (hr r e).1)⟩
theorem end_ccc (U : World) (tmps : Array Value) (n : Nat) (x y z : Value) (h6 : tmps.getD 6 undef = .pointer (some ⟨n, 0, none⟩)) (h7 : tmps.getD 7 undef = .pointer (some ⟨n + 1, 0, none⟩)) (h8 : tmps.getD 8 undef = .pointer (some ⟨n + 2, 0, none⟩))
    (c6 : U.cell? ⟨n, 0, none⟩ = some x) (c7 : U.cell? ⟨n + 1, 0, none⟩ = some y) (c8 : U.cell? ⟨n + 2, 0, none⟩ = some z) :
    (results Tryd.f19 tmps).run Tryd.prog U = .ok (.tuple #[x, y, z]) U := by
  have e6 : tmps[6]?.getD undef = .pointer (some ⟨n, 0, none⟩) := by simpa using h6
  have e7 : tmps[7]?.getD undef = .pointer (some ⟨n + 1, 0, none⟩) := by simpa using h7
  have e8 : tmps[8]?.getD undef = .pointer (some ⟨n + 2, 0, none⟩) := by simpa using h8
  simp [results, Tryd.f19, asAddr, loadVar, Tryd.underlying9, Tryd.underlying29, Tryd.underlying4, e6, e7, e8, c6, c7, c8]
end Go.Proofs.YtknbhgodhmcemaaDoor.So
namespace Go.Proofs.YtknbhgodhmcemaaDoor.So
set_option linter.unusedSimpArgs false
set_option linter.unusedVariables false
set_option maxRecDepth 100000
open Go.RowKit Go.Shelf Go.Proofs.YtknbhgodhmcemaaDoor.Own Go.Proofs.YtknbhgodhmcemaaDoor.Cel Go.Proofs.YtknbhgodhmcemaaDoor.Dk
open Go.Proofs.YtknbhgodhmcemaaDoor.Sl (Rec openS open_calls recV recV_one)
attribute [local go_sem] Oper.semAt_some
variable {B p : Nat} {S : DS} {F : Nat → Prop} {W : World}
theorem new_builder (V : World) (b : Nat) (h : V.heap[b]? = some (.cells #[.pointer none, .slice none 0 0] 105 (0, 0))) : Lib.IsBuilderF 105 5 b b (Lib.byteCells []) V :=
  .inl ⟨Nat.le_refl _, .slice none 0 0, h, ⟨rfl, .inl ⟨rfl, rfl⟩⟩, by simp [Value.ownBlock]⟩
def six (W : World) (a b c d e f : Obj) : World := (((((W.alloc a).alloc b).alloc c).alloc d).alloc e).alloc f
theorem six_size (W : World) (a b c d e f : Obj) : (six W a b c d e f).heap.size = W.heap.size + 6 := by simp [six]
theorem six_below (W : World) (a b c d e f : Obj) : Below W.heap.size W (six W a b c d e f) :=
  (((((((Below.refl W.heap.size W).alloc (Nat.le_refl _) a).alloc (by simp) b).alloc (by simp; omega) c).alloc (by simp; omega) d).alloc (by simp; omega) e).alloc (by simp; omega) f)
theorem six_at (W : World) (t1 t2 t3 t4 t5 t6 : TypeId) (a b c d e f : Array Value) :
    (six W (.cells a t1) (.cells b t2) (.cells c t3) (.cells d t4) (.cells e t5) (.cells f t6)).heap[W.heap.size]? = some (.cells a t1 (0, 0)) ∧
    (six W (.cells a t1) (.cells b t2) (.cells c t3) (.cells d t4) (.cells e t5) (.cells f t6)).heap[W.heap.size + 1]? = some (.cells b t2 (0, 0)) ∧
    (six W (.cells a t1) (.cells b t2) (.cells c t3) (.cells d t4) (.cells e t5) (.cells f t6)).heap[W.heap.size + 2]? = some (.cells c t3 (0, 0)) ∧
    (six W (.cells a t1) (.cells b t2) (.cells c t3) (.cells d t4) (.cells e t5) (.cells f t6)).heap[W.heap.size + 3]? = some (.cells d t4 (0, 0)) ∧
    (six W (.cells a t1) (.cells b t2) (.cells c t3) (.cells d t4) (.cells e t5) (.cells f t6)).heap[W.heap.size + 4]? = some (.cells e t5 (0, 0)) ∧
    (six W (.cells a t1) (.cells b t2) (.cells c t3) (.cells d t4) (.cells e t5) (.cells f t6)).heap[W.heap.size + 5]? = some (.cells f t6 (0, 0)) := by
  have al : ∀ (X : World) (o : Obj), Below X.heap.size X (X.alloc o) := fun X o => (Below.refl _ _).alloc (Nat.le_refl _) _
  have nw : ∀ (X : World) (o : Obj) (k : Nat), X.heap.size = k → (X.alloc o).heap[k]? = some o := fun X o k e => by subst e; exact heap_alloc_new X o
  refine ⟨?_, ?_, ?_, ?_, ?_, ?_⟩
  · exact Own.keep (Own.keep (Own.keep (Own.keep (Own.keep (nw W _ _ rfl) (al _ _)) (al _ _)) (al _ _)) (al _ _)) (al _ _)
  · exact Own.keep (Own.keep (Own.keep (Own.keep (nw (W.alloc _) _ _ (by simp)) (al _ _)) (al _ _)) (al _ _)) (al _ _)
  · exact Own.keep (Own.keep (Own.keep (nw ((W.alloc _).alloc _) _ _ (by simp)) (al _ _)) (al _ _)) (al _ _)
  · exact Own.keep (Own.keep (nw (((W.alloc _).alloc _).alloc _) _ _ (by simp)) (al _ _)) (al _ _)
  · exact Own.keep (nw ((((W.alloc _).alloc _).alloc _).alloc _) _ _ (by simp)) (al _ _)
  · exact nw (((((W.alloc _).alloc _).alloc _).alloc _).alloc _) _ _ (by simp)
theorem RR.ending {D : Nat} {V : World} {R : ByteArray × Nat × Bool} (hR : RR W R V) (hD : W.heap.size + 9 ≤ D) (hK : V.heap[D]? = some (.deferred (some []))) (tmps : Array Value) (h6 : tmps.getD 6 undef = .pointer (some ⟨W.heap.size, 0, none⟩)) (h7 : tmps.getD 7 undef = .pointer (some ⟨W.heap.size + 1, 0, none⟩)) (h8 : tmps.getD 8 undef = .pointer (some ⟨W.heap.size + 2, 0, none⟩)) :
    (results Tryd.f19 tmps).run Tryd.prog (V.putObj D (.deferred none)) = .ok (.tuple #[.string R.1, .int .u64 (R.2.1 : Nat), .bool R.2.2]) (V.putObj D (.deferred none)) ∧ Below W.heap.size W (V.putObj D (.deferred none)) := by
  have k : ∀ {b : Nat} {o : Obj}, b < W.heap.size + 9 → V.heap[b]? = some o → (V.putObj D (.deferred none)).heap[b]? = some o := fun hb hz => (World.putObj_heap_other (by omega)).trans hz
  exact ⟨end_ccc _ tmps W.heap.size _ _ _ h6 h7 h8 (cell_of_row _ _ 0 _ _ _ (k (by omega) hR.z6)) (cell_of_row _ _ 0 _ _ _ (k (by omega) hR.z7)) (cell_of_row _ _ 0 _ _ _ (k (by omega) hR.z8)),
    hR.bel.trans (belowK_b (w := W) (Nat.le_refl _) V D _ _ (by omega) hK rfl rfl)⟩
def XI (p fr room : Nat) (W : World) (pre : List RX) (V : World) : Prop := rdGo pre 0 0 [] = none ∧ RI p fr room W (rdSt pre 0 0 []).1 (rdSt pre 0 0 []).2.1 (rdSt pre 0 0 []).2.2 V
def XR (W : World) (pre : List RX) (V : World) : Prop := ∃ R, rdGo pre 0 0 [] = some R ∧ RR W R V
set_option maxHeartbeats 16000000 in
theorem read_calls (h : DK B p S F W) (fr room : Nat) (hr : 1 ≤ room) (hl : fr + room ≤ S.lasts.length) (hN : S.lasts.length ≤ 900) (hsz : ∀ j, (S.read.getD j ByteArray.empty).size ≤ 1000) :
    Calls Tryd.prog 19 #[.pointer (some ⟨p, 0, none⟩), .int .i64 (fr : Nat), .int .i64 (room : Nat)] W fun e W' =>
      e = .returned (.tuple #[.string (readS S.read fr room).1, .int .u64 ((readS S.read fr room).2.1 : Nat), .bool (readS S.read fr room).2.2]) ∧ Below W.heap.size W W' := by
  have b6 := (Below.refl W.heap.size W).alloc (Nat.le_refl _) (.cells #[.string ⟨#[]⟩] 9)
  have b7 := b6.alloc (by simp) (.cells #[.int .u64 0] 29)
  have b8 := b7.alloc (by simp; omega) (.cells #[.bool false] 4)
  have KM := Aside0.mk (may_calls (h.below b8) fr room hr hl (by omega))
  refine (callsIn_wide (n := 8)).1 ?_
  refine callsIn_of_wp_marks Tryd.func19 rfl trivial ?_ rfl
  simp only [Tryd.ntmps19, List.size_toArray, List.length_cons, List.length_nil, Nat.reduceAdd, Nat.reduceSub, Array.replicate_succ, Array.replicate_zero, List.push_toArray, List.append_toArray, List.nil_append, List.cons_append]
  gi_wp2
  refine ⟨trivial, ?_⟩
  refine (callsIn_wide.2 KM.out).mono ?_
  rintro e w1 ⟨rfl, rfl⟩
  clear KM
  gi_wp2
  clear b6 b7 b8
  rw [show W.heap.size + 1 + 1 = W.heap.size + 2 from rfl]
  rw [show W.heap.size + 2 + 1 = W.heap.size + 3 from rfl]
  rw [show W.heap.size + 3 + 1 = W.heap.size + 4 from rfl]
  rw [show W.heap.size + 4 + 1 = W.heap.size + 5 from rfl]
  refine ⟨trivial, ?_⟩
  change CallsIn _ _ _ _ _ (six W (.cells #[.string ⟨#[]⟩] 9) (.cells #[.int .u64 0] 29) (.cells #[.bool false] 4) (.cells #[.pointer none, .slice none 0 0] 105) (.cells #[.int .i64 0] 3) (.cells #[.int .u64 0] 29)) _
  obtain ⟨z6, z7, z8, z9, z10, z11⟩ := six_at W 9 29 4 105 3 29 #[.string ⟨#[]⟩] #[.int .u64 0] #[.bool false] #[.pointer none, .slice none 0 0] #[.int .i64 0] #[.int .u64 0]
  have s5 := six_size W (.cells #[.string ⟨#[]⟩] 9) (.cells #[.int .u64 0] 29) (.cells #[.bool false] 4) (.cells #[.pointer none, .slice none 0 0] 105) (.cells #[.int .i64 0] 3) (.cells #[.int .u64 0] 29)
  have hB5 := six_below W (.cells #[.string ⟨#[]⟩] 9) (.cells #[.int .u64 0] 29) (.cells #[.bool false] 4) (.cells #[.pointer none, .slice none 0 0] 105) (.cells #[.int .i64 0] 3) (.cells #[.int .u64 0] 29)
  generalize six W (.cells #[.string ⟨#[]⟩] 9) (.cells #[.int .u64 0] 29) (.cells #[.bool false] 4) (.cells #[.pointer none, .slice none 0 0] 105) (.cells #[.int .i64 0] 3) (.cells #[.int .u64 0] 29) = V5 at z6 z7 z8 z9 z10 z11 s5 hB5 ⊢
  refine (callsIn_wide.2 (records_calls p fr room V5)).mono ?_
  rintro e V8 ⟨rfl, hb, s8, y0, y1, y2⟩
  have hIW : IW B p S F W.heap.size V5.heap.size fr room V8 := ⟨(h.below hB5).below hb, fun k hk => (h.lt hk).2, y0, y1, y2⟩
  rw [s5] at hIW s8 y0 y1 y2 ⊢
  have hRI : RI p fr room W 0 0 [] V8 := ⟨Own.keep z6 hb, Own.keep z7 hb, Own.keep z8 hb, Bld.builder_below (new_builder V5 _ z9) hb, Own.keep z10 hb, Own.keep z11 hb, y0, y1, y2, hB5.trans (hb.mono hB5.size)⟩
  rw [show W.heap.size + 6 + 2 = W.heap.size + 8 from rfl, show W.heap.size + 6 + 1 = W.heap.size + 7 from rfl]
  rw [show W.heap.size + 6 + 3 = W.heap.size + 9 from rfl] at s8
  clear y0 y1 y2 hb z6 z7 z8 z9 z10 z11 hB5 s5 h
  gi_wp2
  -- PRINTED
  refine wpIn_rangeFunc_ownH rfl (by omega) (gf := 85) (lb := #[.pointer (some ⟨W.heap.size + 8, 0, none⟩), .pointer (some ⟨W.heap.size + 6, 0, none⟩), .pointer (some ⟨W.heap.size + 7, 0, none⟩)]) rfl trivial (enters_of Tryd.func85 (by kernel_rfl) rfl)
    (recs_stops 7 (by omega) hIW (by omega) hl (by omega) hsz) keepB_t (keepB_b (by omega) (by omega)) (Below.refl _ _) (fun _ => rfl)
    (XI p fr room W)
    (fun c pre V => c = .ret ∧ XR W pre V)
    (fun s X Y row hs hg hq => ⟨hs.1, hs.2.grown hg (fun r e => ⟨by have := (hq r e).1; omega, (hq r e).2⟩)⟩)
    (fun c s X Y row hs hg hq => by
      obtain ⟨h1, R, h2, h3⟩ := hs
      exact ⟨h1, R, h2, h3.grown hg (fun r e => ⟨by have := (hq r e).1; omega, (hq r e).2⟩)⟩)
    ⟨rfl, hRI⟩
    (fun x a' V => ∃ Bx, W.heap.size + 9 ≤ Bx ∧ V.heap[Bx]? = some (.cells (recV x.1.2) 64 (0, 0)) ∧ a' = { tmps := #[.pointer (some ⟨p, 0, none⟩), .int .i64 (fr : Nat), .int .i64 (room : Nat), undef, undef, undef, .pointer (some ⟨W.heap.size, 0, none⟩), .pointer (some ⟨W.heap.size + 1, 0, none⟩), .pointer (some ⟨W.heap.size + 2, 0, none⟩), .pointer (some ⟨W.heap.size + 3, 0, none⟩), .pointer (some ⟨W.heap.size + 4, 0, none⟩), .pointer (some ⟨W.heap.size + 5, 0, none⟩), .int .i64 (x.1.1 : Nat), .pointer (some ⟨Bx, 0, none⟩), .pointer (some ⟨p, 0, none⟩), .int .i64 (fr : Nat), .int .i64 (room : Nat), .bool true, .bool false, .pointer (some ⟨p, 0, none⟩), .int .i64 (fr : Nat), .int .i64 (room : Nat), .func (.func 85) #[] #[.pointer (some ⟨W.heap.size + 8, 0, none⟩), .pointer (some ⟨W.heap.size + 6, 0, none⟩), .pointer (some ⟨W.heap.size + 7, 0, none⟩)], .int .i64 (x.1.1 : Nat), .agg (recV x.1.2), undef, undef, undef, undef, undef, undef, undef, undef, undef, undef, undef, undef, undef, undef, undef, undef, undef, undef, undef, undef, undef, undef, undef, undef, undef, undef, undef, undef, undef, undef, undef, undef, undef, undef, undef, undef, undef, undef, undef, undef, undef, undef, undef, undef, undef, undef, undef, undef, undef, undef, undef, undef, undef, undef, undef, undef, undef, undef, undef, undef, undef, undef, undef, undef], defers := [] })
    (fun x a' s X Y row hs hg hrow => by
      obtain ⟨Bx, h1, h2, h3⟩ := hs
      exact ⟨Bx, h1, own_row Bx _ _ () X Y row h2 hg (fun r e => (hrow r e).2), h3⟩)
    ?assign ?body ?done ?stop
  case assign =>
    intro l pre x V K hi hK
    have hsV := hi.2.size
    have hb2 := below_setRow ((Below.refl V.heap.size V).alloc (Nat.le_refl _) (.cells #[.int .u8 0, .int .u64 0, .int .u32 0, .string ⟨#[]⟩] 64)) (g := V.heap.size) (Nat.le_refl _) (recV x.1.2)
    have z15 : (V.alloc (.cells #[.int .u8 0, .int .u64 0, .int .u32 0, .string ⟨#[]⟩] 64)).heap[V.heap.size]? = some (.cells #[.int .u8 0, .int .u64 0, .int .u32 0, .string ⟨#[]⟩] 64 (0, 0)) := heap_alloc_new V _
    have hi2 : (Tryd.prog.info? 64).map (·.size) = some (recV x.1.2).size := Sl.infoR
    have hone2 := recV_one x.1.2
    have hK2 := fun a' => hK a' _ (keepsFrom_below hb2) (keepB_below hb2 (by omega) (by omega)) ⟨hi.1, hi.2.below hb2⟩
    have HK := Aside0.mk (fun a' (h : a' = _) => hK2 a' ⟨V.heap.size, by omega, setRow_heap _ _ _ (recV x.1.2) _ (0, 0) z15, h⟩)
    clear hK hK2 hb2 hi hsV
    simp only [encX]
    gi_wp2_with (first | refine in_store_row rfl 64 _ _ rfl V.heap.size (recV x.1.2) rfl rfl 64 _ z15 hi2 rfl hone2 ?_ | fail)
    exact HK.out _ rfl
  case body =>
    rintro l pre x a' V hl2 ⟨r, hr2⟩ ⟨hgo0, hR⟩ ⟨Bx, hBx, bX, rfl⟩ hlt
    obtain ⟨⟨ix, rx⟩, hx1, hx2, hx3⟩ := x
    have hlen := rdSt_len pre 0 0 []
    have hgo := rdGo_snoc ⟨(ix, rx), hx1, hx2, hx3⟩ pre 0 0 [] hgo0
    have hst := rdSt_snoc ⟨(ix, rx), hx1, hx2, hx3⟩ pre 0 0 []
    have hN2 := recsGo_len S.read fr room 0
    obtain ⟨⟨nx, g, out⟩, hS3⟩ : ∃ s3, rdSt pre 0 0 [] = s3 := ⟨_, rfl⟩
    rw [hS3] at hlen hgo hst hR
    dsimp only at hlen hgo hst hR hx1 hx2 hx3
    rw [rdGo] at hgo
    have hrd0 : ∀ nx g out, rdGo [] nx g out = none := fun _ _ _ => rfl
    rw [hrd0] at hgo
    dsimp only at hgo
    have hlo : out.length + rx.d.size ≤ 1000000 := by have := hlen.2; simp at this; omega
    have hnxb : nx ≤ 5000 := by omega
    have d_empty := str_empty rx.d
    clear hgo0 hS3 hlt hlen hN2
    have r0 : V.cell? ⟨Bx, 0, none⟩ = some (.int .u8 (rx.k : Nat)) := cell_of_row _ _ 0 _ _ _ bX
    have r1 : V.cell? ⟨Bx, 1, none⟩ = some (.int .u64 (rx.g : Nat)) := cell_of_row _ _ 1 _ _ _ bX
    have r2 : V.cell? ⟨Bx, 2, none⟩ = some (.int .u32 (rx.i : Nat)) := cell_of_row _ _ 2 _ _ _ bX
    have r3 : V.cell? ⟨Bx, 3, none⟩ = some (.string rx.d) := cell_of_row _ _ 3 _ _ _ bX
    have c10 : V.cell? ⟨W.heap.size + 4, 0, none⟩ = some (.int .i64 (nx : Nat)) := cell_of_row _ _ 0 _ _ _ hR.z10
    have c11 : V.cell? ⟨W.heap.size + 5, 0, none⟩ = some (.int .u64 (g : Nat)) := cell_of_row _ _ 0 _ _ _ hR.z11
    have f6 : V.frozen? ⟨W.heap.size, 0, none⟩ = false := frozen_of_row _ _ 0 _ _ hR.z6
    have f7 : V.frozen? ⟨W.heap.size + 1, 0, none⟩ = false := frozen_of_row _ _ 0 _ _ hR.z7
    have f8 : V.frozen? ⟨W.heap.size + 2, 0, none⟩ = false := frozen_of_row _ _ 0 _ _ hR.z8
    have c6 : V.cell? ⟨W.heap.size, 0, none⟩ = some (.string ⟨#[]⟩) := cell_of_row _ _ 0 _ _ _ hR.z6
    have c7 : V.cell? ⟨W.heap.size + 1, 0, none⟩ = some (.int .u64 0) := cell_of_row _ _ 0 _ _ _ hR.z7
    have c8 : V.cell? ⟨W.heap.size + 2, 0, none⟩ = some (.bool false) := cell_of_row _ _ 0 _ _ _ hR.z8
    by_cases hz : ix = 0
    · have hgq : gq ⟨(ix, rx), hx1, hx2, hx3⟩ g = rx.g := by rw [gq]; exact if_pos hz
      rw [hgq] at hgo hst
      have e0 : ((ix : Int) == 0) = true := by simp; omega
      have f11 : V.frozen? ⟨W.heap.size + 5, 0, none⟩ = false := frozen_of_row _ _ 0 _ _ hR.z11
      have hR1 := hR.gen rx.g
      have hkx : KX W V (V.setCell ⟨W.heap.size + 5, 0, none⟩ (.int .u64 (rx.g : Nat))) := KX.set 5 (.inr rfl) _ V
      have bX1 : (V.setCell ⟨W.heap.size + 5, 0, none⟩ (.int .u64 (rx.g : Nat))).heap[Bx]? = some (.cells (recV rx) 64 (0, 0)) := (set_other V _ _ Bx (by show Bx ≠ W.heap.size + 5; omega)).trans bX
      have hne1 : W.heap.size + 5 ≠ Bx := by omega
      have hne2 : Bx ≠ W.heap.size + 5 := by omega
      clear hgq
      by_cases hi0 : ix = nx
      rotate_left
      · have e1 : ((ix : Int) != (nx : Int)) = true := by simp; omega
        have HQ := Aside0.mk (show rdGo (pre ++ [⟨(ix, rx), hx1, hx2, hx3⟩]) 0 0 [] = some (⟨#[]⟩, 0, false) by rw [hgo, if_pos (by rw [badR]; exact decide_eq_true (.inl hi0))])
        have HR := Aside0.mk (rr_of (R := (⟨#[]⟩, 0, false)) hR1.z6 hR1.z7 hR1.z8 hR1.bel)
        have HK := Aside0.mk hkx
        have HX := Aside0.mk (show XR W (pre ++ [⟨(ix, rx), hx1, hx2, hx3⟩]) _ from ⟨_, HQ.out, HR.out.1⟩)
        clear hgo hst hR1 hR hkx
        try clear hz
        try clear hi0
        try clear hg0
        try clear hx0
        try clear hk2
        try clear hk3
        try clear hs
        gi_wp2
        all_goals first | (rename_i h1 h2; cases h1; done) | exact And.intro (HK.out.1.trans HR.out.2) (And.intro rfl HX.out) | exact And.intro (by rw [s8]; exact HK.out.1.trans HR.out.2) (And.intro rfl HX.out) | exact And.intro (by rw [s8]; exact HK.out.1.trans HR.out.2) HX.out | (trace_state; sorry)
      by_cases hx0 : rx.i = ix
      rotate_left
      · have e1 : ((ix : Int) != (nx : Int)) = false := by simp; omega
        have e3 : ((rx.i : Int) != (ix : Int)) = true := by simp; omega
        have HQ := Aside0.mk (show rdGo (pre ++ [⟨(ix, rx), hx1, hx2, hx3⟩]) 0 0 [] = some (⟨#[]⟩, 0, false) by rw [hgo, if_pos (by rw [badR]; exact decide_eq_true (.inr (.inr (.inl hx0))))])
        have HR := Aside0.mk (rr_of (R := (⟨#[]⟩, 0, false)) hR1.z6 hR1.z7 hR1.z8 hR1.bel)
        have HK := Aside0.mk hkx
        have HX := Aside0.mk (show XR W (pre ++ [⟨(ix, rx), hx1, hx2, hx3⟩]) _ from ⟨_, HQ.out, HR.out.1⟩)
        clear hgo hst hR1 hR hkx
        try clear hz
        try clear hi0
        try clear hg0
        try clear hx0
        try clear hk2
        try clear hk3
        try clear hs
        gi_wp2
        all_goals first | (rename_i h1 h2; cases h1; done) | exact And.intro (HK.out.1.trans HR.out.2) (And.intro rfl HX.out) | exact And.intro (by rw [s8]; exact HK.out.1.trans HR.out.2) (And.intro rfl HX.out) | exact And.intro (by rw [s8]; exact HK.out.1.trans HR.out.2) HX.out | (trace_state; sorry)
      by_cases hk2 : rx.k = 2
      · by_cases hs : rx.d.size = 110
        rotate_left
        · have e1 : ((ix : Int) != (nx : Int)) = false := by simp; omega
          have e3 : ((rx.i : Int) != (ix : Int)) = false := by simp; omega
          have e4 : ((rx.k : Int) != 2) = false := by simp; omega
          have e4' : ((rx.k : Int) == 2) = true := by simp; omega
          have e5 : ((rx.k : Int) != 3) = true := by simp; omega
          have e5' : ((rx.k : Int) == 3) = false := by simp; omega
          have e6 : ((rx.d.size : Int) != 110) = true := by simp; omega
          have e6' : (rx.d.size != 110) = true := by simp; omega
          have HQ := Aside0.mk (show rdGo (pre ++ [⟨(ix, rx), hx1, hx2, hx3⟩]) 0 0 [] = some (⟨#[]⟩, 0, false) by rw [hgo, if_pos (by rw [badR]; exact decide_eq_true (.inr (.inr (.inr (.inr (.inl ⟨hk2, hs⟩))))))])
          have HR := Aside0.mk (rr_of (R := (⟨#[]⟩, 0, false)) hR1.z6 hR1.z7 hR1.z8 hR1.bel)
          have HK := Aside0.mk hkx
          have HX := Aside0.mk (show XR W (pre ++ [⟨(ix, rx), hx1, hx2, hx3⟩]) _ from ⟨_, HQ.out, HR.out.1⟩)
          clear hgo hst hR1 hR hkx
          try clear hz
          try clear hi0
          try clear hg0
          try clear hx0
          try clear hk2
          try clear hk3
          try clear hs
          gi_wp2
          all_goals first | (rename_i h1 h2; cases h1; done) | exact And.intro (HK.out.1.trans HR.out.2) (And.intro rfl HX.out) | exact And.intro (by rw [s8]; exact HK.out.1.trans HR.out.2) (And.intro rfl HX.out) | exact And.intro (by rw [s8]; exact HK.out.1.trans HR.out.2) HX.out | (trace_state; sorry)
        have e1 : ((ix : Int) != (nx : Int)) = false := by simp; omega
        have e3 : ((rx.i : Int) != (ix : Int)) = false := by simp; omega
        have e4 : ((rx.k : Int) != 2) = false := by simp; omega
        have e4' : ((rx.k : Int) == 2) = true := by simp; omega
        have e5 : ((rx.k : Int) != 3) = true := by simp; omega
        have e5' : ((rx.k : Int) == 3) = false := by simp; omega
        have e6 : ((rx.d.size : Int) != 110) = false := by simp; omega
        have e6' : (rx.d.size != 110) = false := by simp; omega
        have e7 : decide ((0 : Int) < (ix : Int)) = false := by simp; omega
        have e7' : decide (0 < ix) = false := by simp; omega
        have hnb : ¬ (badR ix nx (rx.g) rx = true) := by
          rw [badR]
          intro h
          have h := of_decide_eq_true h
          rcases h with h | h | h | h | h | h <;> omega
        rw [if_neg hnb] at hgo
        have KW := Aside0.mk (hR1.write rx.d (by omega))
        have HK := Aside0.mk hkx
        have BX := Aside0.mk bX1
        have HG := Aside0.mk (show rdGo (pre ++ [⟨(ix, rx), hx1, hx2, hx3⟩]) 0 0 [] = none by rw [hgo, if_neg (by omega)])
        have HST := Aside0.mk hst
        clear hgo hst hR1 hR hkx bX bX1 hnb
        try clear hz
        try clear hi0
        try clear hg0
        try clear hx0
        try clear hk2
        try clear hk3
        try clear hs
        gi_wp2
        refine ⟨trivial, ?_⟩
        refine (CallsIn.inRound l (callsIn_wide.2 KW.out)).mono ?_
        rintro e V2 ⟨rfl, hR2, hk2, hbx2⟩
        have c10 : V2.cell? ⟨W.heap.size + 4, 0, none⟩ = some (.int .i64 (nx : Nat)) := cell_of_row _ _ 0 _ _ _ hR2.z10
        have f10 : V2.frozen? ⟨W.heap.size + 4, 0, none⟩ = false := frozen_of_row _ _ 0 _ _ hR2.z10
        have r0 : V2.cell? ⟨Bx, 0, none⟩ = some (.int .u8 (rx.k : Nat)) := cell_of_row _ _ 0 _ _ _ (hbx2 _ _ BX.out)
        have hnx2 : ((nx + 1 : Nat) : Int) = (nx : Int) + 1 := by omega
        have HN := Aside0.mk (hR2.next (nx + 1))
        have HKK := Aside0.mk (HK.out.trans (hk2.trans (KX.set 4 (.inl rfl) (.int .i64 ((nx + 1 : Nat) : Int)) V2)))
        rw [hnx2] at HN HKK
        clear hR2 hk2 hbx2 KW HK BX
        have HX := Aside0.mk (show XI p fr room W (pre ++ [⟨(ix, rx), hx1, hx2, hx3⟩]) _ from ⟨HG.out, by rw [HST.out]; exact HN.out⟩)
        clear HG HST HN
        gi_wp2
        all_goals first | (rename_i h1 h2; cases h1; done) | exact And.intro (by rw [s8]; exact HKK.out.1) (And.intro HKK.out.2 HX.out) | (trace_state; sorry)
      by_cases hk3 : rx.k = 3
      rotate_left
      · have e1 : ((ix : Int) != (nx : Int)) = false := by simp; omega
        have e3 : ((rx.i : Int) != (ix : Int)) = false := by simp; omega
        have e4 : ((rx.k : Int) != 2) = true := by simp; omega
        have e4' : ((rx.k : Int) == 2) = false := by simp; omega
        have e5 : ((rx.k : Int) != 3) = true := by simp; omega
        have e5' : ((rx.k : Int) == 3) = false := by simp; omega
        have HQ := Aside0.mk (show rdGo (pre ++ [⟨(ix, rx), hx1, hx2, hx3⟩]) 0 0 [] = some (⟨#[]⟩, 0, false) by rw [hgo, if_pos (by rw [badR]; exact decide_eq_true (.inr (.inr (.inr (.inl ⟨hk2, hk3⟩)))))])
        have HR := Aside0.mk (rr_of (R := (⟨#[]⟩, 0, false)) hR1.z6 hR1.z7 hR1.z8 hR1.bel)
        have HK := Aside0.mk hkx
        have HX := Aside0.mk (show XR W (pre ++ [⟨(ix, rx), hx1, hx2, hx3⟩]) _ from ⟨_, HQ.out, HR.out.1⟩)
        clear hgo hst hR1 hR hkx
        try clear hz
        try clear hi0
        try clear hg0
        try clear hx0
        try clear hk2
        try clear hk3
        try clear hs
        gi_wp2
        all_goals first | (rename_i h1 h2; cases h1; done) | exact And.intro (HK.out.1.trans HR.out.2) (And.intro rfl HX.out) | exact And.intro (by rw [s8]; exact HK.out.1.trans HR.out.2) (And.intro rfl HX.out) | exact And.intro (by rw [s8]; exact HK.out.1.trans HR.out.2) HX.out | (trace_state; sorry)
      have e1 : ((ix : Int) != (nx : Int)) = false := by simp; omega
      have e3 : ((rx.i : Int) != (ix : Int)) = false := by simp; omega
      have e4 : ((rx.k : Int) != 2) = true := by simp; omega
      have e4' : ((rx.k : Int) == 2) = false := by simp; omega
      have e5 : ((rx.k : Int) != 3) = false := by simp; omega
      have e5' : ((rx.k : Int) == 3) = true := by simp; omega
      have e7 : decide ((0 : Int) < (ix : Int)) = false := by simp; omega
      have e7' : decide (0 < ix) = false := by simp; omega
      have hnb : ¬ (badR ix nx (rx.g) rx = true) := by
        rw [badR]
        intro h
        have h := of_decide_eq_true h
        rcases h with h | h | h | h | h | h <;> omega
      rw [if_neg hnb] at hgo
      have KW := Aside0.mk (hR1.write rx.d (by omega))
      have HK := Aside0.mk hkx
      have BX := Aside0.mk bX1
      have HG := Aside0.mk (show rdGo (pre ++ [⟨(ix, rx), hx1, hx2, hx3⟩]) 0 0 [] = some (wholeS (out ++ rx.d.data.toList) (rx.g)) by rw [hgo, if_pos (by omega)])
      clear hgo hst hR1 hR hkx bX bX1 hnb
      try clear hz
      try clear hi0
      try clear hg0
      try clear hx0
      try clear hk2
      try clear hk3
      try clear hs
      gi_wp2
      refine ⟨trivial, ?_⟩
      refine (CallsIn.inRound l (callsIn_wide.2 KW.out)).mono ?_
      rintro e V2 ⟨rfl, hR2, hk2, hbx2⟩
      have c10 : V2.cell? ⟨W.heap.size + 4, 0, none⟩ = some (.int .i64 (nx : Nat)) := cell_of_row _ _ 0 _ _ _ hR2.z10
      have f10 : V2.frozen? ⟨W.heap.size + 4, 0, none⟩ = false := frozen_of_row _ _ 0 _ _ hR2.z10
      have r0 : V2.cell? ⟨Bx, 0, none⟩ = some (.int .u8 (rx.k : Nat)) := cell_of_row _ _ 0 _ _ _ (hbx2 _ _ BX.out)
      have hnx2 : ((nx + 1 : Nat) : Int) = (nx : Int) + 1 := by omega
      have HN := Aside0.mk (hR2.next (nx + 1))
      have HKK := Aside0.mk (HK.out.trans (hk2.trans (KX.set 4 (.inl rfl) (.int .i64 ((nx + 1 : Nat) : Int)) V2)))
      rw [hnx2] at HN HKK
      clear hR2 hk2 hbx2 KW HK BX
      gi_wp2
      generalize V2.setCell ⟨W.heap.size + 4, 0, none⟩ (.int .i64 ((nx : Int) + 1)) = V3 at HN HKK ⊢
      clear c10 f10 r0 hnx2 r1 r2 r3 c6 c7 c8 f6 f7 f8
      have c11 : V3.cell? ⟨W.heap.size + 5, 0, none⟩ = some (.int .u64 ((rx.g : Nat) : Nat)) := cell_of_row _ _ 0 _ _ _ HN.out.z11
      have hR3 := HN.out.below ((Below.refl V3.heap.size V3).drew)
      have HKD := Aside0.mk (HKK.out.1.trans (keepsFrom_below (B := W.heap.size + 9) ((Below.refl V3.heap.size V3).drew)))
      have KS := Aside0.mk hR3.string
      clear hR3 HN HKK
      gi_region_with (first
        | (skip
           refine ⟨trivial, ?_⟩
           refine (CallsIn.inRound l (callsIn_wide.2 KS.out)).mono ?_
           rintro e V4 ⟨rfl, hR4, hk4⟩
           have c11' : V4.cell? ⟨W.heap.size + 5, 0, none⟩ = some (.int .u64 ((rx.g : Nat) : Nat)) := cell_of_row _ _ 0 _ _ _ hR4.z11
           have HR4 := Aside0.mk hR4
           have HK4 := Aside0.mk hk4
           clear hR4 hk4)
        | (skip
           refine ⟨trivial, ?_⟩
           refine (CallsIn.inRound l (callsIn_wide.2 (whole_calls ⟨(out ++ rx.d.data.toList).toArray⟩ (rx.g) _ (by show (out ++ rx.d.data.toList).toArray.size ≤ 1000000; have : rx.d.data.size = rx.d.size := rfl; simp; omega)))).mono ?_
           rintro e V5 ⟨rfl, hb5⟩
           have HB5 := Aside0.mk hb5
           have hR5 := HR4.out.below hb5
           have HX := Aside0.mk (rr_of (R := wholeS (out ++ rx.d.data.toList) (rx.g)) hR5.z6 hR5.z7 hR5.z8 hR5.bel)
           have HZ := Aside0.mk (show KeepsFrom (W.heap.size + 9) V _ ∧ XR W (pre ++ [⟨(ix, rx), hx1, hx2, hx3⟩]) _ from ⟨(HKD.out.trans HK4.out.1).trans ((keepsFrom_below HB5.out).trans HX.out.2), _, HG.out, HX.out.1⟩)
           clear HX HB5
           have f6 := frozen_of_row _ _ 0 _ _ hR5.z6
           have f7 := frozen_of_row _ _ 0 _ _ hR5.z7
           have f8 := frozen_of_row _ _ 0 _ _ hR5.z8
           have c6 := cell_of_row _ _ 0 _ _ _ hR5.z6
           have c7 := cell_of_row _ _ 0 _ _ _ hR5.z7
           have c8 := cell_of_row _ _ 0 _ _ _ hR5.z8
           clear hb5 hR5))
      all_goals gi_wp2
      all_goals first | exact And.intro HZ.out.1 (And.intro rfl HZ.out.2) | exact And.intro (by rw [s8]; exact HZ.out.1) (And.intro rfl HZ.out.2) | exact And.intro (by rw [s8]; exact HZ.out.1) HZ.out.2 | (trace_state; sorry)

    · have hgq : gq ⟨(ix, rx), hx1, hx2, hx3⟩ g = g := by rw [gq]; exact if_neg hz
      rw [hgq] at hgo hst
      have e0 : ((ix : Int) == 0) = false := by simp; omega
      have hR1 := hR
      have hkx : KX W V V := KX.refl W V
      have bX1 := bX
      clear hgq
      by_cases hi0 : ix = nx
      rotate_left
      · have e1 : ((ix : Int) != (nx : Int)) = true := by simp; omega
        have HQ := Aside0.mk (show rdGo (pre ++ [⟨(ix, rx), hx1, hx2, hx3⟩]) 0 0 [] = some (⟨#[]⟩, 0, false) by rw [hgo, if_pos (by rw [badR]; exact decide_eq_true (.inl hi0))])
        have HR := Aside0.mk (rr_of (R := (⟨#[]⟩, 0, false)) hR1.z6 hR1.z7 hR1.z8 hR1.bel)
        have HK := Aside0.mk hkx
        have HX := Aside0.mk (show XR W (pre ++ [⟨(ix, rx), hx1, hx2, hx3⟩]) _ from ⟨_, HQ.out, HR.out.1⟩)
        clear hgo hst hR1 hR hkx
        try clear hz
        try clear hi0
        try clear hg0
        try clear hx0
        try clear hk2
        try clear hk3
        try clear hs
        gi_wp2
        all_goals first | (rename_i h1 h2; cases h1; done) | exact And.intro (HK.out.1.trans HR.out.2) (And.intro rfl HX.out) | exact And.intro (by rw [s8]; exact HK.out.1.trans HR.out.2) (And.intro rfl HX.out) | exact And.intro (by rw [s8]; exact HK.out.1.trans HR.out.2) HX.out | (trace_state; sorry)
      by_cases hg0 : rx.g = g
      rotate_left
      · have e1 : ((ix : Int) != (nx : Int)) = false := by simp; omega
        have e2 : ((rx.g : Int) != (g : Int)) = true := by simp; omega
        have HQ := Aside0.mk (show rdGo (pre ++ [⟨(ix, rx), hx1, hx2, hx3⟩]) 0 0 [] = some (⟨#[]⟩, 0, false) by rw [hgo, if_pos (by rw [badR]; exact decide_eq_true (.inr (.inl hg0)))])
        have HR := Aside0.mk (rr_of (R := (⟨#[]⟩, 0, false)) hR1.z6 hR1.z7 hR1.z8 hR1.bel)
        have HK := Aside0.mk hkx
        have HX := Aside0.mk (show XR W (pre ++ [⟨(ix, rx), hx1, hx2, hx3⟩]) _ from ⟨_, HQ.out, HR.out.1⟩)
        clear hgo hst hR1 hR hkx
        try clear hz
        try clear hi0
        try clear hg0
        try clear hx0
        try clear hk2
        try clear hk3
        try clear hs
        gi_wp2
        all_goals first | (rename_i h1 h2; cases h1; done) | exact And.intro (HK.out.1.trans HR.out.2) (And.intro rfl HX.out) | exact And.intro (by rw [s8]; exact HK.out.1.trans HR.out.2) (And.intro rfl HX.out) | exact And.intro (by rw [s8]; exact HK.out.1.trans HR.out.2) HX.out | (trace_state; sorry)
      by_cases hx0 : rx.i = ix
      rotate_left
      · have e1 : ((ix : Int) != (nx : Int)) = false := by simp; omega
        have e2 : ((rx.g : Int) != (g : Int)) = false := by simp; omega
        have e3 : ((rx.i : Int) != (ix : Int)) = true := by simp; omega
        have HQ := Aside0.mk (show rdGo (pre ++ [⟨(ix, rx), hx1, hx2, hx3⟩]) 0 0 [] = some (⟨#[]⟩, 0, false) by rw [hgo, if_pos (by rw [badR]; exact decide_eq_true (.inr (.inr (.inl hx0))))])
        have HR := Aside0.mk (rr_of (R := (⟨#[]⟩, 0, false)) hR1.z6 hR1.z7 hR1.z8 hR1.bel)
        have HK := Aside0.mk hkx
        have HX := Aside0.mk (show XR W (pre ++ [⟨(ix, rx), hx1, hx2, hx3⟩]) _ from ⟨_, HQ.out, HR.out.1⟩)
        clear hgo hst hR1 hR hkx
        try clear hz
        try clear hi0
        try clear hg0
        try clear hx0
        try clear hk2
        try clear hk3
        try clear hs
        gi_wp2
        all_goals first | (rename_i h1 h2; cases h1; done) | exact And.intro (HK.out.1.trans HR.out.2) (And.intro rfl HX.out) | exact And.intro (by rw [s8]; exact HK.out.1.trans HR.out.2) (And.intro rfl HX.out) | exact And.intro (by rw [s8]; exact HK.out.1.trans HR.out.2) HX.out | (trace_state; sorry)
      by_cases hk2 : rx.k = 2
      · by_cases hs : rx.d.size = 110
        rotate_left
        · have e1 : ((ix : Int) != (nx : Int)) = false := by simp; omega
          have e2 : ((rx.g : Int) != (g : Int)) = false := by simp; omega
          have e3 : ((rx.i : Int) != (ix : Int)) = false := by simp; omega
          have e4 : ((rx.k : Int) != 2) = false := by simp; omega
          have e4' : ((rx.k : Int) == 2) = true := by simp; omega
          have e5 : ((rx.k : Int) != 3) = true := by simp; omega
          have e5' : ((rx.k : Int) == 3) = false := by simp; omega
          have e6 : ((rx.d.size : Int) != 110) = true := by simp; omega
          have e6' : (rx.d.size != 110) = true := by simp; omega
          have HQ := Aside0.mk (show rdGo (pre ++ [⟨(ix, rx), hx1, hx2, hx3⟩]) 0 0 [] = some (⟨#[]⟩, 0, false) by rw [hgo, if_pos (by rw [badR]; exact decide_eq_true (.inr (.inr (.inr (.inr (.inl ⟨hk2, hs⟩))))))])
          have HR := Aside0.mk (rr_of (R := (⟨#[]⟩, 0, false)) hR1.z6 hR1.z7 hR1.z8 hR1.bel)
          have HK := Aside0.mk hkx
          have HX := Aside0.mk (show XR W (pre ++ [⟨(ix, rx), hx1, hx2, hx3⟩]) _ from ⟨_, HQ.out, HR.out.1⟩)
          clear hgo hst hR1 hR hkx
          try clear hz
          try clear hi0
          try clear hg0
          try clear hx0
          try clear hk2
          try clear hk3
          try clear hs
          gi_wp2
          all_goals first | (rename_i h1 h2; cases h1; done) | exact And.intro (HK.out.1.trans HR.out.2) (And.intro rfl HX.out) | exact And.intro (by rw [s8]; exact HK.out.1.trans HR.out.2) (And.intro rfl HX.out) | exact And.intro (by rw [s8]; exact HK.out.1.trans HR.out.2) HX.out | (trace_state; sorry)
        have e1 : ((ix : Int) != (nx : Int)) = false := by simp; omega
        have e2 : ((rx.g : Int) != (g : Int)) = false := by simp; omega
        have e3 : ((rx.i : Int) != (ix : Int)) = false := by simp; omega
        have e4 : ((rx.k : Int) != 2) = false := by simp; omega
        have e4' : ((rx.k : Int) == 2) = true := by simp; omega
        have e5 : ((rx.k : Int) != 3) = true := by simp; omega
        have e5' : ((rx.k : Int) == 3) = false := by simp; omega
        have e6 : ((rx.d.size : Int) != 110) = false := by simp; omega
        have e6' : (rx.d.size != 110) = false := by simp; omega
        have e7 : decide ((0 : Int) < (ix : Int)) = true := by simp; omega
        have e7' : decide (0 < ix) = true := by simp; omega
        have e8 : ¬ rx.d = ByteArray.empty := fun e => by have : rx.d.size = 0 := by rw [e]; rfl
                                                          omega
        have hnb : ¬ (badR ix nx (g) rx = true) := by
          rw [badR]
          intro h
          have h := of_decide_eq_true h
          rcases h with h | h | h | h | h | h <;> omega
        rw [if_neg hnb] at hgo
        have KW := Aside0.mk (hR1.write rx.d (by omega))
        have HK := Aside0.mk hkx
        have BX := Aside0.mk bX1
        have HG := Aside0.mk (show rdGo (pre ++ [⟨(ix, rx), hx1, hx2, hx3⟩]) 0 0 [] = none by rw [hgo, if_neg (by omega)])
        have HST := Aside0.mk hst
        clear hgo hst hR1 hR hkx bX bX1 hnb
        try clear hz
        try clear hi0
        try clear hg0
        try clear hx0
        try clear hk2
        try clear hk3
        try clear hs
        gi_wp2
        refine ⟨trivial, ?_⟩
        refine (CallsIn.inRound l (callsIn_wide.2 KW.out)).mono ?_
        rintro e V2 ⟨rfl, hR2, hk2, hbx2⟩
        have c10 : V2.cell? ⟨W.heap.size + 4, 0, none⟩ = some (.int .i64 (nx : Nat)) := cell_of_row _ _ 0 _ _ _ hR2.z10
        have f10 : V2.frozen? ⟨W.heap.size + 4, 0, none⟩ = false := frozen_of_row _ _ 0 _ _ hR2.z10
        have r0 : V2.cell? ⟨Bx, 0, none⟩ = some (.int .u8 (rx.k : Nat)) := cell_of_row _ _ 0 _ _ _ (hbx2 _ _ BX.out)
        have hnx2 : ((nx + 1 : Nat) : Int) = (nx : Int) + 1 := by omega
        have HN := Aside0.mk (hR2.next (nx + 1))
        have HKK := Aside0.mk (HK.out.trans (hk2.trans (KX.set 4 (.inl rfl) (.int .i64 ((nx + 1 : Nat) : Int)) V2)))
        rw [hnx2] at HN HKK
        clear hR2 hk2 hbx2 KW HK BX
        have HX := Aside0.mk (show XI p fr room W (pre ++ [⟨(ix, rx), hx1, hx2, hx3⟩]) _ from ⟨HG.out, by rw [HST.out]; exact HN.out⟩)
        clear HG HST HN
        gi_wp2
        all_goals first | (rename_i h1 h2; cases h1; done) | exact And.intro (by rw [s8]; exact HKK.out.1) (And.intro HKK.out.2 HX.out) | (trace_state; sorry)
      by_cases hk3 : rx.k = 3
      rotate_left
      · have e1 : ((ix : Int) != (nx : Int)) = false := by simp; omega
        have e2 : ((rx.g : Int) != (g : Int)) = false := by simp; omega
        have e3 : ((rx.i : Int) != (ix : Int)) = false := by simp; omega
        have e4 : ((rx.k : Int) != 2) = true := by simp; omega
        have e4' : ((rx.k : Int) == 2) = false := by simp; omega
        have e5 : ((rx.k : Int) != 3) = true := by simp; omega
        have e5' : ((rx.k : Int) == 3) = false := by simp; omega
        have HQ := Aside0.mk (show rdGo (pre ++ [⟨(ix, rx), hx1, hx2, hx3⟩]) 0 0 [] = some (⟨#[]⟩, 0, false) by rw [hgo, if_pos (by rw [badR]; exact decide_eq_true (.inr (.inr (.inr (.inl ⟨hk2, hk3⟩)))))])
        have HR := Aside0.mk (rr_of (R := (⟨#[]⟩, 0, false)) hR1.z6 hR1.z7 hR1.z8 hR1.bel)
        have HK := Aside0.mk hkx
        have HX := Aside0.mk (show XR W (pre ++ [⟨(ix, rx), hx1, hx2, hx3⟩]) _ from ⟨_, HQ.out, HR.out.1⟩)
        clear hgo hst hR1 hR hkx
        try clear hz
        try clear hi0
        try clear hg0
        try clear hx0
        try clear hk2
        try clear hk3
        try clear hs
        gi_wp2
        all_goals first | (rename_i h1 h2; cases h1; done) | exact And.intro (HK.out.1.trans HR.out.2) (And.intro rfl HX.out) | exact And.intro (by rw [s8]; exact HK.out.1.trans HR.out.2) (And.intro rfl HX.out) | exact And.intro (by rw [s8]; exact HK.out.1.trans HR.out.2) HX.out | (trace_state; sorry)
      by_cases hs : rx.d.size = 0
      · have e1 : ((ix : Int) != (nx : Int)) = false := by simp; omega
        have e2 : ((rx.g : Int) != (g : Int)) = false := by simp; omega
        have e3 : ((rx.i : Int) != (ix : Int)) = false := by simp; omega
        have e4 : ((rx.k : Int) != 2) = true := by simp; omega
        have e4' : ((rx.k : Int) == 2) = false := by simp; omega
        have e5 : ((rx.k : Int) != 3) = false := by simp; omega
        have e5' : ((rx.k : Int) == 3) = true := by simp; omega
        have e7 : decide ((0 : Int) < (ix : Int)) = true := by simp; omega
        have e7' : decide (0 < ix) = true := by simp; omega
        have e8 : rx.d = ByteArray.empty := ByteArray.ext (Array.eq_empty_of_size_eq_zero hs)
        have HQ := Aside0.mk (show rdGo (pre ++ [⟨(ix, rx), hx1, hx2, hx3⟩]) 0 0 [] = some (⟨#[]⟩, 0, false) by rw [hgo, if_pos (by rw [badR]; exact decide_eq_true (.inr (.inr (.inr (.inr (.inr ⟨by omega, hs⟩))))))])
        have HR := Aside0.mk (rr_of (R := (⟨#[]⟩, 0, false)) hR1.z6 hR1.z7 hR1.z8 hR1.bel)
        have HK := Aside0.mk hkx
        have HX := Aside0.mk (show XR W (pre ++ [⟨(ix, rx), hx1, hx2, hx3⟩]) _ from ⟨_, HQ.out, HR.out.1⟩)
        clear hgo hst hR1 hR hkx
        try clear hz
        try clear hi0
        try clear hg0
        try clear hx0
        try clear hk2
        try clear hk3
        try clear hs
        gi_wp2
        all_goals first | (rename_i h1 h2; cases h1; done) | exact And.intro (HK.out.1.trans HR.out.2) (And.intro rfl HX.out) | exact And.intro (by rw [s8]; exact HK.out.1.trans HR.out.2) (And.intro rfl HX.out) | exact And.intro (by rw [s8]; exact HK.out.1.trans HR.out.2) HX.out | (trace_state; sorry)
      have e1 : ((ix : Int) != (nx : Int)) = false := by simp; omega
      have e2 : ((rx.g : Int) != (g : Int)) = false := by simp; omega
      have e3 : ((rx.i : Int) != (ix : Int)) = false := by simp; omega
      have e4 : ((rx.k : Int) != 2) = true := by simp; omega
      have e4' : ((rx.k : Int) == 2) = false := by simp; omega
      have e5 : ((rx.k : Int) != 3) = false := by simp; omega
      have e5' : ((rx.k : Int) == 3) = true := by simp; omega
      have e7 : decide ((0 : Int) < (ix : Int)) = true := by simp; omega
      have e7' : decide (0 < ix) = true := by simp; omega
      have e8 : ¬ rx.d = ByteArray.empty := fun e => by have : rx.d.size = 0 := by rw [e]; rfl
                                                        omega
      have hnb : ¬ (badR ix nx (g) rx = true) := by
        rw [badR]
        intro h
        have h := of_decide_eq_true h
        rcases h with h | h | h | h | h | h <;> omega
      rw [if_neg hnb] at hgo
      have KW := Aside0.mk (hR1.write rx.d (by omega))
      have HK := Aside0.mk hkx
      have BX := Aside0.mk bX1
      have HG := Aside0.mk (show rdGo (pre ++ [⟨(ix, rx), hx1, hx2, hx3⟩]) 0 0 [] = some (wholeS (out ++ rx.d.data.toList) (g)) by rw [hgo, if_pos (by omega)])
      clear hgo hst hR1 hR hkx bX bX1 hnb
      try clear hz
      try clear hi0
      try clear hg0
      try clear hx0
      try clear hk2
      try clear hk3
      try clear hs
      gi_wp2
      refine ⟨trivial, ?_⟩
      refine (CallsIn.inRound l (callsIn_wide.2 KW.out)).mono ?_
      rintro e V2 ⟨rfl, hR2, hk2, hbx2⟩
      have c10 : V2.cell? ⟨W.heap.size + 4, 0, none⟩ = some (.int .i64 (nx : Nat)) := cell_of_row _ _ 0 _ _ _ hR2.z10
      have f10 : V2.frozen? ⟨W.heap.size + 4, 0, none⟩ = false := frozen_of_row _ _ 0 _ _ hR2.z10
      have r0 : V2.cell? ⟨Bx, 0, none⟩ = some (.int .u8 (rx.k : Nat)) := cell_of_row _ _ 0 _ _ _ (hbx2 _ _ BX.out)
      have hnx2 : ((nx + 1 : Nat) : Int) = (nx : Int) + 1 := by omega
      have HN := Aside0.mk (hR2.next (nx + 1))
      have HKK := Aside0.mk (HK.out.trans (hk2.trans (KX.set 4 (.inl rfl) (.int .i64 ((nx + 1 : Nat) : Int)) V2)))
      rw [hnx2] at HN HKK
      clear hR2 hk2 hbx2 KW HK BX
      gi_wp2
      generalize V2.setCell ⟨W.heap.size + 4, 0, none⟩ (.int .i64 ((nx : Int) + 1)) = V3 at HN HKK ⊢
      clear c10 f10 r0 hnx2 r1 r2 r3 c6 c7 c8 f6 f7 f8
      have c11 : V3.cell? ⟨W.heap.size + 5, 0, none⟩ = some (.int .u64 ((g : Nat) : Nat)) := cell_of_row _ _ 0 _ _ _ HN.out.z11
      have hR3 := HN.out.below ((Below.refl V3.heap.size V3).drew)
      have HKD := Aside0.mk (HKK.out.1.trans (keepsFrom_below (B := W.heap.size + 9) ((Below.refl V3.heap.size V3).drew)))
      have KS := Aside0.mk hR3.string
      clear hR3 HN HKK
      gi_region_with (first
        | (skip
           refine ⟨trivial, ?_⟩
           refine (CallsIn.inRound l (callsIn_wide.2 KS.out)).mono ?_
           rintro e V4 ⟨rfl, hR4, hk4⟩
           have c11' : V4.cell? ⟨W.heap.size + 5, 0, none⟩ = some (.int .u64 ((g : Nat) : Nat)) := cell_of_row _ _ 0 _ _ _ hR4.z11
           have HR4 := Aside0.mk hR4
           have HK4 := Aside0.mk hk4
           clear hR4 hk4)
        | (skip
           refine ⟨trivial, ?_⟩
           refine (CallsIn.inRound l (callsIn_wide.2 (whole_calls ⟨(out ++ rx.d.data.toList).toArray⟩ (g) _ (by show (out ++ rx.d.data.toList).toArray.size ≤ 1000000; have : rx.d.data.size = rx.d.size := rfl; simp; omega)))).mono ?_
           rintro e V5 ⟨rfl, hb5⟩
           have HB5 := Aside0.mk hb5
           have hR5 := HR4.out.below hb5
           have HX := Aside0.mk (rr_of (R := wholeS (out ++ rx.d.data.toList) (g)) hR5.z6 hR5.z7 hR5.z8 hR5.bel)
           have HZ := Aside0.mk (show KeepsFrom (W.heap.size + 9) V _ ∧ XR W (pre ++ [⟨(ix, rx), hx1, hx2, hx3⟩]) _ from ⟨(HKD.out.trans HK4.out.1).trans ((keepsFrom_below HB5.out).trans HX.out.2), _, HG.out, HX.out.1⟩)
           clear HX HB5
           have f6 := frozen_of_row _ _ 0 _ _ hR5.z6
           have f7 := frozen_of_row _ _ 0 _ _ hR5.z7
           have f8 := frozen_of_row _ _ 0 _ _ hR5.z8
           have c6 := cell_of_row _ _ 0 _ _ _ hR5.z6
           have c7 := cell_of_row _ _ 0 _ _ _ hR5.z7
           have c8 := cell_of_row _ _ 0 _ _ _ hR5.z8
           clear hb5 hR5))
      all_goals gi_wp2
      all_goals first | exact And.intro HZ.out.1 (And.intro rfl HZ.out.2) | exact And.intro (by rw [s8]; exact HZ.out.1) (And.intro rfl HZ.out.2) | exact And.intro (by rw [s8]; exact HZ.out.1) HZ.out.2 | (trace_state; sorry)

  case done =>
    rintro D xs V hD rfl ⟨hgo, hR⟩ hK
    have hsV := hR.size
    have f6 : V.frozen? ⟨W.heap.size, 0, none⟩ = false := frozen_of_row _ _ 0 _ _ hR.z6
    have f7 : V.frozen? ⟨W.heap.size + 1, 0, none⟩ = false := frozen_of_row _ _ 0 _ _ hR.z7
    have f8 : V.frozen? ⟨W.heap.size + 2, 0, none⟩ = false := frozen_of_row _ _ 0 _ _ hR.z8
    have c6 : V.cell? ⟨W.heap.size, 0, none⟩ = some (.string ⟨#[]⟩) := cell_of_row _ _ 0 _ _ _ hR.z6
    have c7 : V.cell? ⟨W.heap.size + 1, 0, none⟩ = some (.int .u64 0) := cell_of_row _ _ 0 _ _ _ hR.z7
    have c8 : V.cell? ⟨W.heap.size + 2, 0, none⟩ = some (.bool false) := cell_of_row _ _ 0 _ _ _ hR.z8
    have HR := Aside0.mk (rr_of (R := (⟨#[]⟩, 0, false)) hR.z6 hR.z7 hR.z8 hR.bel)
    have HD := Aside0.mk hK
    have hE := Aside0.mk (show readS S.read fr room = (⟨#[]⟩, 0, false) by rw [readS, readGo_fold S.read fr room 0 0 0 [] (by omega), hgo]; rfl)
    clear hgo hR hK
    have hDD : (((V.setCell ⟨W.heap.size, 0, none⟩ (.string ⟨#[]⟩)).setCell ⟨W.heap.size + 1, 0, none⟩ (.int .u64 0)).setCell ⟨W.heap.size + 2, 0, none⟩ (.bool false)).heap[D]? = some (.deferred (some [])) :=
      (set_other _ _ _ D (by show D ≠ W.heap.size + 2; omega)).trans ((set_other _ _ _ D (by show D ≠ W.heap.size + 1; omega)).trans ((set_other _ _ _ D (by show D ≠ W.heap.size; omega)).trans HD.out))
    have HDD := Aside0.mk hDD
    clear hDD HD
    gi_wp2
    refine ⟨by simp, .inl ⟨_, _, rfl, run_takeDeferred HDD.out, ?_⟩⟩
    have hZ := HR.out.1.ending (D := D) (by omega) HDD.out
    exact ⟨_, (hZ _ rfl rfl rfl).1, by rw [hE.out], (hZ #[undef, undef, undef, undef, undef, undef, .pointer (some ⟨W.heap.size, 0, none⟩), .pointer (some ⟨W.heap.size + 1, 0, none⟩), .pointer (some ⟨W.heap.size + 2, 0, none⟩)] rfl rfl rfl).2⟩
  case stop =>
    rintro D c pre V hD hSp ⟨rfl, R, hgo, hR⟩ hK
    have hE := Aside0.mk (show readS S.read fr room = R by
      obtain ⟨r, hr⟩ := hSp
      rw [readS, readGo_fold S.read fr room 0 0 0 [] (by omega), ← hr, rdGo_prefix r R pre 0 0 [] hgo]; rfl)
    have HD := Aside0.mk hK
    have HR := Aside0.mk hR
    clear hgo hR hK hSp
    gi_wp2
    refine ⟨by simp, .inl ⟨_, _, rfl, run_takeDeferred HD.out, ?_⟩⟩
    have hZ := HR.out.ending (D := D) (by omega) HD.out
    exact ⟨_, (hZ _ rfl rfl rfl).1, by rw [hE.out], (hZ #[undef, undef, undef, undef, undef, undef, .pointer (some ⟨W.heap.size, 0, none⟩), .pointer (some ⟨W.heap.size + 1, 0, none⟩), .pointer (some ⟨W.heap.size + 2, 0, none⟩)] rfl rfl rfl).2⟩
end Go.Proofs.YtknbhgodhmcemaaDoor.So
namespace Go.Proofs.YtknbhgodhmcemaaDoor.Lg
set_option linter.unusedSimpArgs false
set_option linter.unusedVariables false
set_option maxRecDepth 100000
open Go.RowKit Go.Proofs.YtknbhgodhmcemaaDoor.Own Go.Proofs.YtknbhgodhmcemaaDoor.Cel Go.Proofs.YtknbhgodhmcemaaDoor.Dk
def ArgK (A : Option Addr) (ks : List Bool) (V : World) : Prop := ∀ i (h : i < ks.length), ∃ b o, A = some ⟨b, o, none⟩ ∧ V.cell? ⟨b, o + i, none⟩ = some (.bool (ks[i]'h))
theorem DY.crash {w V : World} {p : Nat} {S : DS} {X : List (Nat × Obj)} {v : Value} {xs : List ByteArray} (h : DY w p S X v xs V) (hok : S.ok) (hn : S.waits.length ≤ 1000000) (A : Option Addr) (c : Nat) (ks : List Bool) (hk : ArgK A ks w) (hl : ks.length ≤ 1000000) :
    Calls Tryd.prog 14 #[.pointer (some ⟨p, 0, none⟩), .slice A ks.length c] V fun e V' => e = .returned (.tuple #[]) ∧ DY w p (S.crash (fun j => ks.getD j false)) X v xs V' :=
  h.did (Q := fun e => e = .returned (.tuple #[])) (fun F hd => crash_calls hd hok hn A c ks (fun i hi => by
    obtain ⟨b, o, e, hc⟩ := hk i hi
    have hlt : b < w.heap.size := World.block_lt_of_cell? w _ hc
    exact ⟨o + i, b, o, e, rfl, fun hf => by have := (hd.lt hf).1; omega, (World.cell?_of_block (h.bel.block b hlt)).trans hc⟩) hl)
theorem DY.arm {w V : World} {p : Nat} {S : DS} {X : List (Nat × Obj)} {v : Value} {xs : List ByteArray} (h : DY w p S X v xs V) (n : Int) :
    Calls Tryd.prog 12 #[.pointer (some ⟨p, 0, none⟩), .int .i64 n] V fun e V' => e = .returned (.tuple #[]) ∧ DY w p { S with armed := n } X v xs V' :=
  h.did (Q := fun e => e = .returned (.tuple #[])) (fun F hd => (arm_calls hd n).mono fun _ _ ⟨e, h1, h2⟩ => ⟨e, F, h1, h2, fun _ e => .inl e⟩)
structure KS (w : World) (p b9 : Nat) (av : Value) (all : List ByteArray) (sure n k : Nat) (W : World) : Prop where
  len : all.length = n
  st : ∃ S, DY w p S [(b9, .cells (logV 0 21 5 n) 31 (0, 0))] av all W ∧ LK 0 21 5 all sure S ∧ Sm S n k ∧ Dk.DS.ok S ∧ Full S ∧ S.lasts.length = 21
  lt : w.heap.size ≤ b9
end Go.Proofs.YtknbhgodhmcemaaDoor.Lg
namespace Go.Proofs.YtknbhgodhmcemaaDoor.So
set_option linter.unusedSimpArgs false
set_option linter.unusedVariables false
set_option maxRecDepth 100000
open Go.RowKit Go.Shelf Go.Proofs.YtknbhgodhmcemaaDoor.Own Go.Proofs.YtknbhgodhmcemaaDoor.Cel Go.Proofs.YtknbhgodhmcemaaDoor.Dk
open Go.Proofs.YtknbhgodhmcemaaDoor.Sl (openS openS_len openS_blank)
open Go.Proofs.YtknbhgodhmcemaaDoor.Lg (DY Full fails_armed sync_cases getD_size)
structure Calm (S : DS) (N k : Nat) : Prop where
  ok : Ok S N k
  full : Full S
  calm : S.armed ≤ 0
theorem Calm.fresh (N k : Nat) (hk : k ≤ 900000) : Calm ⟨List.replicate N (sect 0), [], 0, 0⟩ N k :=
  ⟨⟨fun x hx => absurd hx (by simp), by simp, by show (0 : Int) ≤ 1000000; omega, by simp; omega, by show (0 : Int) ≤ 0; omega, by show (0 : Int) + k ≤ 1000000000; omega⟩, Full.fresh N 0 0, by show (0 : Int) ≤ 0; omega⟩
theorem wr_full {fr g i n m : Nat} {L : List UInt8} {S : DS} {R : DS × Int} (w : Wrote fr g L i n S R m) (h : Full S) : Full R.1 :=
  ⟨by rw [w.lasts]; exact h.1, fun x hx => by
    rw [w.waits] at hx
    rcases List.mem_append.1 hx with hx | hx
    · exact h.2 x hx
    · obtain ⟨j, _, _, rfl⟩ := ws_mem hx
      exact psec_size g L j⟩
theorem ws_length (fr g : Nat) (L : List UInt8) (i m : Nat) : (ws fr g L i m).length = m := by simp [ws]
theorem wr_ok {fr g i n m N k : Nat} {L : List UInt8} {S : DS} {R : DS × Int} (w : Wrote fr g L i n S R m) (h : Ok S N (k + n)) (hn : fr + i + n ≤ N) : Ok R.1 N k := by
  have h1 := h.len
  have h2 := h.arm
  have h3 := h.waits
  have h4 := h.ops0
  have h5 := h.ops
  have h6 := w.le
  have h7 := w.arm
  have h8 := w.ops
  exact ⟨w.ok h.ok (by omega), by rw [w.lasts]; exact h1, by omega, by rw [w.waits, List.length_append, ws_length]; omega, by omega, by omega⟩
theorem getD_replicate (N q : Nat) (s : ByteArray) : (List.replicate N s).getD q ByteArray.empty = s ∨ (List.replicate N s).getD q ByteArray.empty = ByteArray.empty := by
  rw [List.getD_eq_getElem?_getD, List.getElem?_replicate]
  split
  · exact .inl rfl
  · exact .inr rfl
theorem Calm.write {S : DS} {N k : Nat} {L : List UInt8} (h : Calm S N (k + np L.length)) (fr g : Nat) (hl : fr + np L.length ≤ N) :
    ∃ S', wrS fr g L (np L.length) 0 S = (S', 0) ∧ Calm S' N k ∧ (∀ j, j < np L.length → S'.read.getD (fr + j) ByteArray.empty = psec g L j) ∧ (∀ q, ¬ (fr ≤ q ∧ q < fr + np L.length) → S'.read.getD q ByteArray.empty = S.read.getD q ByteArray.empty) := by
  have hlen := h.ok.len
  obtain ⟨m, w⟩ := wrS_spec fr g L (np L.length) 0 S (by omega)
  obtain ⟨c1, c2⟩ := w.calm h.calm
  have hm := w.all c1
  subst hm
  have hr : ∀ q, (wrS fr g L (np L.length) 0 S).1.read.getD q ByteArray.empty = if fr + 0 ≤ q ∧ q < fr + 0 + np L.length then psec g L (q - fr) else S.read.getD q ByteArray.empty := fun q => by
    rw [DS.read, w.lasts, w.waits, applyW_append, applyW_ws fr g L q _ _ 0 _ (by rw [applyW_len]; omega)]
    rfl
  refine ⟨(wrS fr g L (np L.length) 0 S).1, by rw [← c1], ⟨wr_ok w h.ok (by omega), wr_full w h.full, by rw [c2]; exact h.calm⟩, fun j hj => ?_, fun q hq => ?_⟩
  · rw [hr, if_pos (by omega), Nat.add_sub_cancel_left]
  · rw [hr, if_neg (by omega)]
theorem Calm.sync {S : DS} {N k : Nat} (h : Calm S N (k + 1)) : ∃ S', S.sync = (S', 0) ∧ Calm S' N k ∧ S'.read = S.read ∧ S'.waits = [] := by
  rcases sync_cases S with ⟨_, hf⟩ | ⟨e, hf⟩
  · rw [(fails_armed S).1 h.calm] at hf; cases hf
  · rw [(fails_armed S).1 h.calm] at e
    have hk : keptW (fun _ => true) 0 S.waits = S.waits := keptW_all _ _ _ (fun _ _ _ => rfl)
    have hl : ((S.crash (fun _ => true)).lasts) = S.read := by show applyW S.lasts (keptW (fun _ => true) 0 S.waits) = _; rw [hk]; rfl
    have h1 := h.ok.len
    have h2 := h.ok.ops0
    have h3 := h.ok.ops
    have h4 := h.ok.waits
    refine ⟨_, e, ⟨⟨fun x hx => absurd hx (by simp [DS.crash]), ?_, h.ok.arm, by show 0 + k ≤ _; omega, by show 0 ≤ S.ops + 1; omega, by show S.ops + 1 + k ≤ _; omega⟩, ?_, h.calm⟩, ?_, rfl⟩
    · show (S.crash (fun _ => true)).lasts.length = N
      rw [hl, DS.read_len]; exact h1
    · exact h.full.crash _
    · show applyW (S.crash (fun _ => true)).lasts [] = S.read
      rw [hl]; rfl
theorem applyW_get (q : Nat) (e : ByteArray) : ∀ (us : List Wt) (l : List ByteArray), (applyW l us).getD q e = l.getD q e ∨ ∃ x ∈ us, x.1 = q ∧ (applyW l us).getD q e = x.2
  | [], l => .inl rfl
  | x :: r, l => by
    rw [applyW]
    rcases applyW_get q e r (l.set x.1 x.2) with h | ⟨y, hy, h1, h2⟩
    · rw [h]
      by_cases hx : x.1 = q
      · by_cases hl : x.1 < l.length
        · refine .inr ⟨x, List.mem_cons_self, hx, ?_⟩
          rw [← hx, List.getD_eq_getElem?_getD, List.getElem?_set_self hl]; rfl
        · exact .inl (by rw [List.set_eq_of_length_le (by omega)])
      · exact .inl (by rw [List.getD_eq_getElem?_getD, List.getElem?_set_ne hx, ← List.getD_eq_getElem?_getD])
    · exact .inr ⟨y, List.mem_cons_of_mem _ hy, h1, h2⟩
theorem blank_open : (openS (sect 0)).2 ≠ 0 := by
  have e : openS (sect 0) = (.zero, 16) := openS_blank (sect_size 0) (by decide +kernel)
  rw [e]; decide
theorem empty_open : (openS ByteArray.empty).2 ≠ 0 := by rw [openS_len (by decide)]; decide
variable {w V : World} {p : Nat} {S : DS} {X : List (Nat × Obj)} {v : Value} {xs : List ByteArray}
theorem DY.swrite (h : DY w p S X v xs V) (fr room g : Nat) (t : ByteArray) (hr : 1 ≤ room) (hl : fr + room ≤ S.lasts.length) (hN : S.lasts.length ≤ 5000) (hg : g < 18446744073709551616) (ht : t.size ≤ 100000) (hfit : t.size + 4 ≤ 110 * room) (hok : Ok S S.lasts.length (np (summedL t.data.toList).length)) :
    Calls Tryd.prog 17 #[.pointer (some ⟨p, 0, none⟩), .int .i64 (fr : Nat), .int .i64 (room : Nat), .int .u64 (g : Nat), .string t] V fun e V' =>
      e = .returned (.int .i64 (wrS fr g (summedL t.data.toList) (np (summedL t.data.toList).length) 0 S).2) ∧ DY w p (wrS fr g (summedL t.data.toList) (np (summedL t.data.toList).length) 0 S).1 X v xs V' :=
  h.did (Q := fun e => e = .returned (.int .i64 (wrS fr g (summedL t.data.toList) (np (summedL t.data.toList).length) 0 S).2)) (fun F hd => write_good hd fr room g t hr hl hN hg ht hfit hok)
theorem DY.dsync (h : DY w p S X v xs V) (hok : S.ok) (ha : S.armed ≤ 9223372036854775807) (hn : S.waits.length ≤ 1000000) (ho0 : 0 ≤ S.ops) (ho : S.ops ≤ 4611686018427387904) :
    Calls Tryd.prog 18 #[.pointer (some ⟨p, 0, none⟩)] V fun e V' => e = .returned (.int .i64 S.sync.2) ∧ DY w p S.sync.1 X v xs V' :=
  h.did (Q := fun e => e = .returned (.int .i64 S.sync.2)) (fun F hd => sync_calls hd hok ha hn ho0 ho)
theorem DY.dread (h : DY w p S X v xs V) (i : Int) :
    Calls Tryd.prog 39 #[.pointer (some ⟨p, 0, none⟩), .int .i64 i] V fun e V' => e = .returned (.tuple #[.string (S.readAt i).1, .int .i64 (S.readAt i).2]) ∧ V = V' := by
  obtain ⟨F, d⟩ := h.dk
  exact Dk.read_calls d i
theorem DY.sread (h : DY w p S X v xs V) (fr room : Nat) (hr : 1 ≤ room) (hl : fr + room ≤ S.lasts.length) (hN : S.lasts.length ≤ 900) (hF : Full S) :
    Calls Tryd.prog 19 #[.pointer (some ⟨p, 0, none⟩), .int .i64 (fr : Nat), .int .i64 (room : Nat)] V fun e V' =>
      e = .returned (.tuple #[.string (readS S.read fr room).1, .int .u64 ((readS S.read fr room).2.1 : Nat), .bool (readS S.read fr room).2.2]) ∧ Below V.heap.size V V' := by
  obtain ⟨F, d⟩ := h.dk
  exact So.read_calls d fr room hr hl hN (getD_size _ 1000 (fun s hs => by rw [hF.read s hs]; omega))
end Go.Proofs.YtknbhgodhmcemaaDoor.So
namespace Go.Proofs.YtknbhgodhmcemaaDoor.So
set_option linter.unusedSimpArgs false
set_option linter.unusedVariables false
set_option maxRecDepth 100000
open Go.RowKit Go.Shelf Go.Proofs.YtknbhgodhmcemaaDoor.Own Go.Proofs.YtknbhgodhmcemaaDoor.Cel Go.Proofs.YtknbhgodhmcemaaDoor.Dk
open Go.Proofs.YtknbhgodhmcemaaDoor.Sl (Rec openS open_calls recV recV_one)
open Go.Proofs.YtknbhgodhmcemaaDoor.Lg (DY DY.start DY.step Full box_new)
set_option maxHeartbeats 4000000 in
theorem awake15_calls (w : World) : Calls Tryd.prog 16 #[] w fun e w' => e = .returned (.bool true) ∧ Below w.heap.size w w' := by
  have KN := Aside0.mk (new_good 3 w (by omega) (by omega))
  rw [show ((3 : Nat) : Int) = 3 by rfl] at KN
  have hf : Calm ⟨List.replicate 3 (sect 0), [], 0, 0⟩ 3 (0 + np (summedL [97, 98]).length) := Calm.fresh 3 _ (by decide)
  obtain ⟨S', hw, hc, hr, _⟩ := hf.write 1 7 (by decide)
  have hl3 := hc.ok.len
  have e1 : S'.read.getD 1 ByteArray.empty = psec 7 (summedL [97, 98]) 0 := hr 0 (by decide)
  have er : S'.readAt 1 = (psec 7 (summedL [97, 98]) 0, 0) := by
    unfold DS.readAt
    rw [if_pos ⟨by omega, by omega⟩, show (1 : Int).toNat = 1 from rfl, e1]
  have eo : openS (psec 7 (summedL [97, 98]) 0) = (⟨3, 7, 0, ⟨(pdat (summedL [97, 98]) 0).toArray⟩⟩, 0) := by
    rw [psec_open 7 _ 0 (by decide) (by decide)]; rfl
  have hd6 : (⟨(pdat (summedL [97, 98]) 0).toArray⟩ : ByteArray).size = 6 := rfl
  have KO := Aside0.mk (fun V => open_calls (psec 7 (summedL [97, 98]) 0) V (by rw [psec_size]; omega))
  rw [eo] at KO
  obtain ⟨d, hdd⟩ : ∃ d, (⟨(pdat (summedL [97, 98]) 0).toArray⟩ : ByteArray) = d := ⟨_, rfl⟩
  rw [hdd] at KO hd6
  have es : readS S'.read 1 2 = (⟨#[97, 98]⟩, 7, true) := readS_whole _ 1 2 7 [97, 98] (by decide) (by decide) (by decide) hr
  have ER := Aside0.mk er
  have ES := Aside0.mk es
  have HW := Aside0.mk hw
  have HL := Aside0.mk (And.intro hf.ok (And.intro hl3 hc.full))
  clear er es eo e1 hdd hw hc hr hl3 hf
  generalize psec 7 (summedL [97, 98]) 0 = s1 at KO ER
  go_enter Tryd.func16, Tryd.ntmps16
  go_wp2_with fail
  refine KN.out.mono ?_
  rintro x w1 ⟨p, F, rfl, dk, b⟩
  have H := DY.start dk b
  clear dk b KN
  have KW := DY.swrite H 1 1 7 ⟨#[97, 98]⟩ (by decide) (by simp) (by simp) (by decide) (by decide) (by decide) (by simpa using HL.out.1)
  rw [show (⟨#[97, 98]⟩ : ByteArray).data.toList = [97, 98] from rfl, HW.out] at KW
  have KW2 := Aside0.mk KW
  clear KW HW H
  go_wp2_with fail
  refine KW2.out.mono ?_
  rintro x w2 ⟨rfl, h⟩
  have H := Aside0.mk h
  clear h KW2
  go_wp2_with fail
  have KR := DY.dread H.out 1
  rw [ER.out] at KR
  refine KR.mono ?_
  rintro x w3 ⟨rfl, rfl⟩
  clear KR ER
  go_wp2_with fail
  refine (KO.out _).mono ?_
  rintro x V3 ⟨rfl, hb⟩
  replace H := Aside0.mk (H.out.step hb)
  clear hb KO
  obtain ⟨hb, z, z0⟩ := box_new (V := V3) #[.int .u8 0, .int .u64 0, .int .u32 0, .string ⟨#[]⟩] (recV ⟨3, 7, 0, d⟩) 64
  replace H := Aside0.mk (H.out.step hb)
  have HX := Aside0.mk z
  have i2 : (Tryd.prog.info? 64).map (·.size) = some (recV ⟨3, 7, 0, d⟩).size := Sl.infoR
  have q2 := recV_one ⟨3, 7, 0, d⟩
  clear hb z
  go_wp2_with (first | refine wpList_store_row rfl 64 _ _ rfl V3.heap.size (recV ⟨3, 7, 0, d⟩) rfl rfl 64 _ z0 i2 rfl q2 ?_ | fail)
  clear z0 i2 q2
  change Calls _ _ _ ((V3.alloc (.cells #[.int .u8 0, .int .u64 0, .int .u32 0, .string ⟨#[]⟩] 64)).setRow V3.heap.size (recV ⟨3, 7, 0, d⟩)) _
  generalize (V3.alloc (.cells #[.int .u8 0, .int .u64 0, .int .u32 0, .string ⟨#[]⟩] 64)).setRow V3.heap.size (recV ⟨3, 7, 0, d⟩) = V4 at H HX ⊢
  generalize V3.heap.size = b9 at HX ⊢
  have KR := DY.sread H.out 1 2 (by decide) (by rw [HL.out.2.1]; decide) (by rw [HL.out.2.1]; decide) HL.out.2.2
  rw [ES.out] at KR
  dsimp only at KR
  refine KR.mono ?_
  rintro x V5 ⟨rfl, hb⟩
  replace H := Aside0.mk (H.out.step hb)
  replace HX := Aside0.mk (keep HX.out hb)
  clear hb KR
  go_wp2_with fail
  refine (awake12_calls _).mono ?_
  rintro x V7 ⟨rfl, hb⟩
  replace H := Aside0.mk (H.out.step hb)
  replace HX := Aside0.mk (keep HX.out hb)
  clear hb
  go_wp2_with fail
  refine (Sl.awake_calls _).mono ?_
  rintro x V8 ⟨rfl, hb⟩
  replace H := Aside0.mk (H.out.step hb)
  have z9 := keep HX.out hb
  clear hb HX
  have c0 : V8.cell? ⟨b9, 0, none⟩ = some (.int .u8 3) := cell_of_row _ _ 0 _ _ _ z9
  have c3 : V8.cell? ⟨b9, 3, none⟩ = some (.string d) := cell_of_row _ _ 3 _ _ _ z9
  clear z9
  go_wp2
  go_ret
  exact ⟨by first | rfl | decide, H.out.bel⟩
end Go.Proofs.YtknbhgodhmcemaaDoor.So
namespace Go.Proofs.YtknbhgodhmcemaaDoor.So
set_option linter.unusedSimpArgs false
set_option linter.unusedVariables false
set_option maxRecDepth 100000
open Go.RowKit Go.Shelf Go.Proofs.YtknbhgodhmcemaaDoor.Own Go.Proofs.YtknbhgodhmcemaaDoor.Cel Go.Proofs.YtknbhgodhmcemaaDoor.Dk
open Go.Proofs.YtknbhgodhmcemaaDoor.Sl (Rec openS open_calls recV recV_one)
open Go.Proofs.YtknbhgodhmcemaaDoor.Lg (DY DY.start DY.step Full box_new)
theorem Calm.mono {S : DS} {N k j : Nat} (h : Calm S N k) (hj : j ≤ k) : Calm S N j :=
  ⟨⟨h.ok.ok, h.ok.len, h.ok.arm, by have := h.ok.waits; omega, h.ok.ops0, by have := h.ok.ops; omega⟩, h.full, h.calm⟩
theorem np_size (t : ByteArray) : np (summedL t.data.toList).length = (t.size + 113) / 110 := by
  have htl : t.data.toList.length = t.size := by rw [Array.length_toList]; rfl
  rw [summedL_len, htl, np]
end Go.Proofs.YtknbhgodhmcemaaDoor.So
namespace Go.Proofs.YtknbhgodhmcemaaDoor.So
set_option linter.unusedSimpArgs false
set_option linter.unusedVariables false
set_option maxRecDepth 100000
open Go.RowKit Go.Shelf Go.Proofs.YtknbhgodhmcemaaDoor.Own Go.Proofs.YtknbhgodhmcemaaDoor.Cel Go.Proofs.YtknbhgodhmcemaaDoor.Dk
open Go.Proofs.YtknbhgodhmcemaaDoor.Sl (Rec openS open_calls recV recV_one)
open Go.Proofs.YtknbhgodhmcemaaDoor.Lg (DY DY.start DY.step DY.crash DY.arm ArgK Full box_new crash_len)
theorem tears {S1 S2 : DS} {room m : Nat} {told tnew : List UInt8} {q : Int} (w : Wrote 0 6 (summedL tnew) 0 (np (summedL tnew).length) S1 (S2, q) m) (h1 : S1.waits = []) (hko : np (summedL told).length ≤ 4294967295) (hkn : np (summedL tnew).length ≤ 4294967295)
    (hr : ∀ j, j < np (summedL told).length → S1.read.getD (0 + j) ByteArray.empty = psec 5 (summedL told) j) (hb : ∀ j, np (summedL told).length ≤ j → (openS (S1.read.getD (0 + j) ByteArray.empty)).2 ≠ 0) (kp : Nat → Bool) :
    readS (S2.crash kp).read 0 room = (⟨#[]⟩, 0, false) ∨ readS (S2.crash kp).read 0 room = (⟨told.toArray⟩, 5, true) ∨ readS (S2.crash kp).read 0 room = (⟨tnew.toArray⟩, 6, true) := by
  have hL : S1.read = S1.lasts := by rw [DS.read, h1]; rfl
  have hw2 : S2.waits = ws 0 6 (summedL tnew) 0 m := by have := w.waits; rw [h1] at this; exact this
  have hl2 : S2.lasts = S1.lasts := w.lasts
  have hm := w.le
  have hrd : (S2.crash kp).read = applyW S1.lasts (keptW kp 0 (ws 0 6 (summedL tnew) 0 m)) := by
    show applyW (applyW S2.lasts (keptW kp 0 S2.waits)) [] = _
    rw [hl2, hw2]; rfl
  rw [hL] at hr hb
  have hq : ∀ j, (S2.crash kp).read.getD (0 + j) ByteArray.empty = S1.lasts.getD (0 + j) ByteArray.empty ∨ (j < np (summedL tnew).length ∧ (S2.crash kp).read.getD (0 + j) ByteArray.empty = psec 6 (summedL tnew) j) := fun j => by
    rw [hrd]
    rcases applyW_get (0 + j) ByteArray.empty (keptW kp 0 (ws 0 6 (summedL tnew) 0 m)) S1.lasts with h | ⟨x, hx, h2, h3⟩
    · exact .inl h
    · obtain ⟨j', j1, j2, rfl⟩ := ws_mem (keptW_mem kp x _ _ hx)
      obtain rfl : j' = j := by have : 0 + j' = 0 + j := h2
                                omega
      exact .inr ⟨by omega, h3⟩
  refine torn 0 room 5 6 told tnew (by decide) (by decide) (by decide) hko hkn _ (fun j => ?_) ?_
  · rcases hq j with h | h
    · rw [h]
      by_cases hj : j < np (summedL told).length
      · exact .inl (hr j hj)
      · exact .inr (.inl ⟨by omega, .inl (hb j (by omega))⟩)
    · exact .inr (.inr h)
  · rcases hq 0 with h | h
    · exact .inl (h.trans (hr 0 (np_pos _)))
    · exact .inr h.2
theorem Calm.armed {S : DS} {N k : Nat} (h : Calm S N k) (a : Int) (ha : a ≤ 1000000) : Ok { S with armed := a } N k := ⟨h.ok.ok, h.ok.len, ha, h.ok.waits, h.ok.ops0, h.ok.ops⟩
theorem str_self (t : ByteArray) : (⟨t.data.toList.toArray⟩ : ByteArray) = t := rfl
set_option maxHeartbeats 4000000 in
theorem tears_walk (before text : ByteArray) (A : Option Addr) (c : Nat) (ks : List Bool) (r : Nat) (w : World) (hr : r < 256) (hk : ArgK A ks w) (hm : ks.length ≤ 9223372036854775807) :
    Calls Tryd.prog 4 #[.string before, .string text, .slice A ks.length c, .int .u8 (r : Nat)] w fun e w' => e = .returned (.bool true) ∧ Below w.heap.size w w' := by
  obtain ⟨n2, hn2⟩ : ∃ n, ks.length = n := ⟨_, rfl⟩
  rw [hn2] at hm ⊢
  have HK := Aside0.mk hk
  have N2 := Aside0.mk hn2
  clear hk hn2
  obtain ⟨m, hm12⟩ : ∃ m, r % 12 = m := ⟨_, rfl⟩
  have em : (r : Int) % 12 = (m : Int) := by omega
  have hm2 : m < 12 := by omega
  clear hm12
  by_cases h1 : 800 < before.size
  · have d1 : decide (800 < (before.size : Int)) = true := decide_eq_true (by omega)
    have d1' : decide (800 < before.size) = true := decide_eq_true h1
    clear h1
    go_enter Tryd.func4, Tryd.ntmps4
    go_wp2_with fail
    refine (awake15_calls _).mono ?_
    rintro x w2 ⟨rfl, hb⟩
    have H := Aside0.mk hb
    clear hb
    go_wp2
    go_ret
    exact ⟨rfl, H.out⟩
  have d1 : decide (800 < (before.size : Int)) = false := decide_eq_false (by omega)
  have d1' : decide (800 < before.size) = false := decide_eq_false h1
  by_cases h2 : 800 < text.size
  · have d2 : decide (800 < (text.size : Int)) = true := decide_eq_true (by omega)
    have d2' : decide (800 < text.size) = true := decide_eq_true h2
    clear h1 h2
    go_enter Tryd.func4, Tryd.ntmps4
    go_wp2_with fail
    refine (awake15_calls _).mono ?_
    rintro x w2 ⟨rfl, hb⟩
    have H := Aside0.mk hb
    clear hb
    go_wp2
    go_ret
    exact ⟨rfl, H.out⟩
  have d2 : decide (800 < (text.size : Int)) = false := decide_eq_false (by omega)
  have d2' : decide (800 < text.size) = false := decide_eq_false h2
  by_cases h3 : 50 < n2
  · have d3 : decide (50 < (n2 : Int)) = true := decide_eq_true (by omega)
    have d3' : decide (50 < n2) = true := decide_eq_true h3
    clear h1 h2 h3
    go_enter Tryd.func4, Tryd.ntmps4
    go_wp2_with fail
    refine (awake15_calls _).mono ?_
    rintro x w2 ⟨rfl, hb⟩
    have H := Aside0.mk hb
    clear hb
    go_wp2
    go_ret
    exact ⟨rfl, H.out⟩
  have d3 : decide (50 < (n2 : Int)) = false := decide_eq_false (by omega)
  have d3' : decide (50 < n2) = false := decide_eq_false h3
  have h1' : before.size ≤ 800 := by omega
  have h2' : text.size ≤ 800 := by omega
  have h3' : n2 ≤ 50 := by omega
  have KN := Aside0.mk (new_good 8 w (by omega) (by omega))
  rw [show ((8 : Nat) : Int) = 8 by rfl] at KN
  have hnb := np_size before
  have hnt := np_size text
  have c0 : Calm ⟨List.replicate 8 (sect 0), [], 0, 0⟩ 8 (41 + np (summedL before.data.toList).length) := Calm.fresh _ _ (by omega)
  obtain ⟨Sa, ea, ca, ra, oa⟩ := c0.write 0 5 (by omega)
  obtain ⟨Sb, eb, cb, rb, wb⟩ := (ca.mono (j := 40 + 1) (by omega)).sync
  have hblank : ∀ j, np (summedL before.data.toList).length ≤ j → (openS (Sb.read.getD (0 + j) ByteArray.empty)).2 ≠ 0 := fun j hj => by
    rw [rb, oa (0 + j) (by omega)]
    show (openS ((List.replicate 8 (sect 0)).getD (0 + j) ByteArray.empty)).2 ≠ 0
    rcases getD_replicate 8 (0 + j) (sect 0) with h | h
    · rw [h]; exact blank_open
    · rw [h]; exact empty_open
  have okb : Ok { Sb with armed := (m : Int) } 8 (20 + np (summedL text.data.toList).length) := (cb.mono (by omega)).armed m (by omega)
  obtain ⟨mm, wt⟩ := wrS_spec 0 6 (summedL text.data.toList) (np (summedL text.data.toList).length) 0 { Sb with armed := (m : Int) } (by have := okb.len; omega)
  have fb : Full { Sb with armed := (m : Int) } := cb.full
  have okc := wr_ok wt okb (by omega)
  have fc := wr_full wt fb
  obtain ⟨⟨Sc, qc⟩, hSc⟩ : ∃ R, wrS 0 6 (summedL text.data.toList) (np (summedL text.data.toList).length) 0 { Sb with armed := (m : Int) } = R := ⟨_, rfl⟩
  rw [hSc] at wt okc fc
  have hT := tears (room := 8) (told := before.data.toList) (tnew := text.data.toList) wt wb (by omega) (by omega) (fun j hj => (congrArg (fun l => l.getD (0 + j) ByteArray.empty) rb).trans (ra j hj)) hblank (fun j => ks.getD j false)
  have fd := fc.crash (fun j => ks.getD j false)
  have ld := (crash_len Sc (fun j => ks.getD j false)).trans okc.len
  have EA := Aside0.mk ea
  have EB := Aside0.mk eb
  have CA := Aside0.mk ca
  have HSC := Aside0.mk hSc
  have OKB := Aside0.mk okb
  have OKC := Aside0.mk okc
  have FD := Aside0.mk (And.intro fd ld)
  have OK0 := Aside0.mk (c0.mono (j := np (summedL before.data.toList).length) (by omega)).ok
  have HT := Aside0.mk hT
  clear ea eb ca hSc okb okc fd ld fc fb wt hT hblank rb ra oa cb wb c0 h1 h2 h3
  go_enter Tryd.func4, Tryd.ntmps4
  go_wp2_with fail
  refine KN.out.mono ?_
  rintro x w1 ⟨p, F, rfl, dk, b⟩
  have H := Aside0.mk (DY.start dk b)
  clear dk b KN
  have K1 := DY.swrite H.out 0 8 5 before (by omega) (by simp) (by simp) (by decide) (by omega) (by omega) (by simpa using OK0.out)
  rw [EA.out] at K1
  have K1' := Aside0.mk K1
  clear K1
  go_wp2_with fail
  refine K1'.out.mono ?_
  rintro x w2 ⟨rfl, h⟩
  replace H := Aside0.mk h
  clear h K1'
  have K2 := DY.dsync H.out CA.out.ok.ok (by have := CA.out.ok.arm; omega) (by have := CA.out.ok.waits; omega) CA.out.ok.ops0 (by have := CA.out.ok.ops; omega)
  rw [EB.out] at K2
  have K2' := Aside0.mk K2
  clear K2
  go_wp2_with fail
  refine K2'.out.mono ?_
  rintro x w3 ⟨rfl, h⟩
  replace H := Aside0.mk h
  clear h K2'
  have K3 := Aside0.mk (H.out.arm (m : Int))
  go_wp2_with fail
  refine K3.out.mono ?_
  rintro x w4 ⟨rfl, h⟩
  replace H := Aside0.mk h
  clear h K3
  have K4 := DY.swrite H.out 0 8 6 text (by omega) (by have := OKB.out.len; omega) (by have := OKB.out.len; omega) (by decide) (by omega) (by omega) (by rw [OKB.out.len]; exact ⟨OKB.out.ok, OKB.out.len, OKB.out.arm, by have := OKB.out.waits; omega, OKB.out.ops0, by have := OKB.out.ops; omega⟩)
  rw [HSC.out] at K4
  have K4' := Aside0.mk K4
  clear K4
  go_wp2_with fail
  refine K4'.out.mono ?_
  rintro x w5 ⟨rfl, h⟩
  replace H := Aside0.mk h
  clear h K4'
  have K5 := H.out.crash OKC.out.ok (by have := OKC.out.waits; omega) A c ks HK.out (by rw [N2.out]; omega)
  rw [N2.out] at K5
  have K5' := Aside0.mk K5
  clear K5
  go_wp2_with fail
  refine K5'.out.mono ?_
  rintro x w6 ⟨rfl, h⟩
  replace H := Aside0.mk h
  clear h K5'
  have K6 := DY.sread H.out 0 8 (by omega) (by rw [FD.out.2]; omega) (by rw [FD.out.2]; omega) FD.out.1
  rcases HT.out with hR | hR | hR
  · rw [hR] at K6
    dsimp only at K6
    have K6' := Aside0.mk K6
    clear K6 hR
    go_wp2_with fail
    refine K6'.out.mono ?_
    rintro x w7 ⟨rfl, hb⟩
    replace H := Aside0.mk (H.out.step hb)
    clear hb K6'
    go_wp2_with fail
    refine (awake15_calls _).mono ?_
    rintro x w8 ⟨rfl, hb⟩
    replace H := Aside0.mk (H.out.step hb)
    clear hb
    go_wp2
    go_ret
    exact ⟨by first | rfl | simp, H.out.bel⟩
  · rw [hR, str_self] at K6
    dsimp only at K6
    have K6' := Aside0.mk K6
    clear K6 hR
    go_wp2_with fail
    refine K6'.out.mono ?_
    rintro x w7 ⟨rfl, hb⟩
    replace H := Aside0.mk (H.out.step hb)
    clear hb K6'
    go_wp2_with fail
    refine (awake15_calls _).mono ?_
    rintro x w8 ⟨rfl, hb⟩
    replace H := Aside0.mk (H.out.step hb)
    clear hb
    go_wp2
    go_ret
    exact ⟨by first | rfl | simp, H.out.bel⟩
  · rw [hR, str_self] at K6
    dsimp only at K6
    have K6' := Aside0.mk K6
    clear K6 hR
    go_wp2_with fail
    refine K6'.out.mono ?_
    rintro x w7 ⟨rfl, hb⟩
    replace H := Aside0.mk (H.out.step hb)
    clear hb K6'
    go_wp2_with fail
    refine (awake15_calls _).mono ?_
    rintro x w8 ⟨rfl, hb⟩
    replace H := Aside0.mk (H.out.step hb)
    clear hb
    go_wp2
    all_goals
      go_ret
      exact ⟨by first | rfl | simp, H.out.bel⟩
end Go.Proofs.YtknbhgodhmcemaaDoor.So
namespace Go.Proofs.YtknbhgodhmcemaaDoor.Lg
set_option linter.unusedVariables false
set_option maxRecDepth 100000
open Go.RowKit Go.Proofs.YtknbhgodhmcemaaDoor.Own Go.Proofs.YtknbhgodhmcemaaDoor.Cel
theorem plain_addr {W : World} {a : Addr} {v : Value} (h : W.cell? (a.add 0) = some v) : ∃ b o, a = ⟨b, o, none⟩ := by
  have h1 := World.cell?_spot h
  obtain ⟨b, o, spot⟩ := a
  have : spot = none := by simpa [Addr.add] using h1
  subst this
  exact ⟨b, o, rfl⟩
theorem open_ks {H : Type} {enc : TypeId × Value → H} {W : World} {base : Nat} {spare : Nat → Bool} {held : Bool} {r : Reach} {b0 : Nat} {v : Value} {d : DataW H} {ps : List MemPlace}
    (hv : Value.okWide Tryd.prog W r b0 23 v) (h : DataW.Trod enc Tryd.prog W base spare held 23 v d ps) :
    ∃ A c ks, v = .slice A ks.length c ∧ ArgK A ks W ∧ ks.length ≤ 9223372036854775807 := by
  obtain ⟨a, len, cap, rfl⟩ := Go.WideShapes.okWide_slice Tryd.underlying23 hv
  obtain ⟨fuel, hf⟩ := h
  have hcz : Tryd.prog.cellsOf 4 = 1 := by kernel_rfl
  rcases DataW.trod_slice Tryd.underlying23 hf with ⟨hc, _⟩ | ⟨a', len', cap', elems, rest, n, _, hc, hx, hb, hl, hm, hlen, hel, hsp, hns⟩
  · simp [Value.cells] at hc
    obtain ⟨rfl, rfl, rfl⟩ := hc
    exact ⟨none, 0, [], rfl, fun j hj => absurd hj (by simp), by simp⟩
  · simp [Value.cells] at hc
    obtain ⟨rfl, rfl, rfl⟩ := hc
    have each : ∀ i, i < len → ∃ z, W.cell? (a'.add i) = some (.bool z) := fun i hi => by
      have h2 := hel i hi
      rw [List.getElem?_eq_getElem (by omega), hcz, Nat.mul_one, Option.bind_eq_some_iff] at h2
      obtain ⟨cs', hcs, hy⟩ := h2
      obtain ⟨z, rfl, _⟩ := DataW.trod_bool Tryd.underlying4 hy
      exact ⟨z, Go.ChangeShapes.cell_of_cells?_one hcs⟩
    refine ⟨some a', cap, (List.range len).map (fun i => match W.cell? (a'.add i) with | some (.bool z) => z | _ => false), by rw [List.length_map, List.length_range], fun j hj => ?_, ?_⟩
    · have hj2 : j < len := by simpa using hj
      obtain ⟨z0, hz0⟩ := each 0 (by omega)
      obtain ⟨b, o, rfl⟩ := plain_addr hz0
      obtain ⟨z, hz⟩ := each j hj2
      refine ⟨b, o, rfl, ?_⟩
      have hz' := hz
      rw [Seg.addr_add] at hz'
      rw [hz', List.getElem_map, List.getElem_range, hz]
    · rw [List.length_map, List.length_range]
      unfold maxLen at hm
      omega
end Go.Proofs.YtknbhgodhmcemaaDoor.Lg
namespace Go.Proofs.YtknbhgodhmcemaaDoor
open Go.RowKit
mutual
def flat : DataW Unit → List Value
  | .lit (.int k n) => [.int k n]
  | .agg parts => flats parts
  | _ => []
def flats : List (DataW Unit) → List Value
  | [] => []
  | d :: r => flat d ++ flats r
end
def layObj (d : DataW Unit) : Obj → Obj
  | .cells _ t fr => .cells (flat d).toArray t fr
  | o => o
noncomputable def laidWorld (os : Os) : World :=
  let w0 := World.holding Tryd.prog os ⟨#[], #[], []⟩
  { w0 with heap := (w0.heap.modify 1 (layObj Rows.laid_unicode_utf8_first)).modify 2 (layObj Rows.laid_unicode_utf8_acceptRanges) }
end Go.Proofs.YtknbhgodhmcemaaDoor
