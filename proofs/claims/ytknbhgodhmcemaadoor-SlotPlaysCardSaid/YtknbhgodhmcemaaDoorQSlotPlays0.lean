/- Texts of the seat, as far as the row needs them. -/
import Derived.Below
import Derived.BigQuiet
import Derived.Deep.CutBlock
import Derived.Deep.DeepCutAuto
import Derived.Deep.DeepFit
import Derived.Deep.Light
import Derived.Deep.LoopGhost
import Derived.Deep.QuietTactic
import Derived.Deep.RegionHeld3
import Derived.Ground.Names2Prog
import Derived.Laws.AppendOwn
import Derived.Laws.BitsAllLaws
import Derived.Laws.BitsLemmas
import Derived.Laws.CopyOwn
import Derived.Laws.Externs
import Derived.Laws.IdiomCopy
import Derived.Laws.IdiomStrings
import Derived.Laws.OwnMore
import Derived.Laws.ResultCell
import Derived.Laws.Rows
import Derived.Laws.Tables
import Derived.Lib.AppendStr
import Derived.Lib.FrozenHead2
import Derived.Lib.OthersKept
import Derived.Lib.RepeatB
import Derived.Lib.TrimByte
import Derived.Lib.UnsafeStr
import Derived.Maps.Own
import Derived.Maps.OwnOps
import Derived.Maps.OwnSet
import Derived.Maps.Views
import Derived.OrdersHeld
import Derived.Outline
import Derived.OwnWalk
import Derived.Shelf.Bits.Mul64
import Derived.Shelf.Slices.Clone
import Derived.Shelf.Small.Strs
import Derived.Shelf.Small.Utf8
import Derived.Shelf.Strings.AsciiSet
import Derived.Shelf.Strings.Builder1
import Derived.Shelf.Strings.Builder2
import Derived.Shelf.Strings.Builder2Cap
import Derived.Shelf.Strings.BuilderCap
import Derived.Shelf.Strings.BuilderF
import Derived.Shelf.Strings.BuilderK
import Derived.Shelf.Strings.Prefix
import Derived.Shelf.Strings.Repeat
import Derived.Shelf.Strings.Runes
import Derived.Shelf.Strings.Search1
import Derived.Shelf.Strings.Trim
import Derived.Shelf.Unicode.DecodeSlow
import Derived.StillTailTactics
import Derived.Test.YtknbhgodhmcemaaDoorProg
import Derived.WalkKit
set_option linter.unusedVariables false
set_option linter.unusedSimpArgs false
namespace Go.Proofs.YtknbhgodhmcemaaDoor.Dk
abbrev Wt := Nat × ByteArray
def applyW : List ByteArray → List Wt → List ByteArray
  | l, [] => l
  | l, x :: r => applyW (l.set x.1 x.2) r
theorem applyW_len : ∀ (ws : List Wt) (l : List ByteArray), (applyW l ws).length = l.length
  | [], _ => rfl
  | x :: r, l => by rw [applyW, applyW_len r, List.length_set]
theorem applyW_append : ∀ (a b : List Wt) (l : List ByteArray), applyW l (a ++ b) = applyW (applyW l a) b
  | [], _, _ => rfl
  | x :: r, b, l => by rw [List.cons_append, applyW, applyW_append r b]; rfl
theorem applyW_snoc (a : List Wt) (x : Wt) (l : List ByteArray) : applyW l (a ++ [x]) = (applyW l a).set x.1 x.2 := by rw [applyW_append]; rfl
def cnt (i : Nat) : List Wt → Nat
  | [] => 0
  | x :: r => (if x.1 = i then 1 else 0) + cnt i r
theorem cnt_append (i : Nat) : ∀ (a b : List Wt), cnt i (a ++ b) = cnt i a + cnt i b
  | [], b => by simp [cnt]
  | x :: r, b => by rw [List.cons_append, cnt, cnt, cnt_append i r b]; omega
theorem cnt_snoc (i : Nat) (a : List Wt) (x : Wt) : cnt i (a ++ [x]) = cnt i a + (if x.1 = i then 1 else 0) := by rw [cnt_append]; rfl
theorem cnt_le (i : Nat) : ∀ (a : List Wt), cnt i a ≤ a.length
  | [] => Nat.le_refl _
  | x :: r => by rw [cnt, List.length_cons]; have := cnt_le i r; split <;> omega
theorem applyW_other {i : Nat} : ∀ (ws : List Wt) (l : List ByteArray), cnt i ws = 0 → (applyW l ws)[i]? = l[i]?
  | [], _, _ => rfl
  | x :: r, l, h => by
    rw [cnt] at h
    by_cases e : x.1 = i
    · rw [if_pos e] at h; omega
    · rw [if_neg e, Nat.zero_add] at h
      rw [applyW, applyW_other r _ h, List.getElem?_set_ne e]
theorem applyW_set {i : Nat} (t : ByteArray) : ∀ (ws : List Wt) (l : List ByteArray), applyW (l.set i t) ws = if cnt i ws = 0 then (applyW l ws).set i t else applyW l ws
  | [], l => rfl
  | x :: r, l => by
    rw [cnt, applyW, applyW]
    by_cases e : x.1 = i
    · subst e
      rw [if_pos rfl, if_neg (by omega), List.set_set]
    · rw [if_neg e, Nat.zero_add, ← applyW_set t r, List.set_comm _ _ (Ne.symm e)]
def keptW (kp : Nat → Bool) : Nat → List Wt → List Wt
  | _, [] => []
  | k, x :: r => if kp k then x :: keptW kp (k + 1) r else keptW kp (k + 1) r
theorem keptW_snoc (kp : Nat → Bool) (x : Wt) : ∀ (l : List Wt) (k : Nat), keptW kp k (l ++ [x]) = keptW kp k l ++ (if kp (k + l.length) then [x] else [])
  | [], k => by simp [keptW]
  | y :: r, k => by
    rw [List.cons_append, keptW, keptW, keptW_snoc kp x r, List.length_cons, show k + 1 + r.length = k + (r.length + 1) by omega]
    by_cases h : kp k = true
    · rw [if_pos h, if_pos h, List.cons_append]
    · rw [if_neg h, if_neg h]
theorem keptW_cnt (kp : Nat → Bool) (i : Nat) : ∀ (l : List Wt) (k : Nat), cnt i l = 0 → cnt i (keptW kp k l) = 0
  | [], _, _ => rfl
  | x :: r, k, h => by
    rw [cnt] at h
    rw [keptW]
    by_cases e : kp k = true
    · rw [if_pos e, cnt, keptW_cnt kp i r _ (by omega)]; omega
    · rw [if_neg e]; exact keptW_cnt kp i r _ (by omega)
theorem keptW_all (l : List Wt) (kp : Nat → Bool) : ∀ (k : Nat), (∀ j, k ≤ j → j < k + l.length → kp j = true) → keptW kp k l = l := by
  induction l with
  | nil => intro k _; rfl
  | cons x r ih =>
    intro k h
    rw [keptW, if_pos (h k (Nat.le_refl _) (by rw [List.length_cons]; omega)), ih (k + 1) (fun j h1 h2 => h j (by omega) (by rw [List.length_cons]; omega))]
theorem keptW_none (l : List Wt) (kp : Nat → Bool) : ∀ (k : Nat), (∀ j, k ≤ j → j < k + l.length → kp j = false) → keptW kp k l = [] := by
  induction l with
  | nil => intro k _; rfl
  | cons x r ih =>
    intro k h
    rw [keptW, if_neg (by rw [h k (Nat.le_refl _) (by rw [List.length_cons]; omega)]; decide), ih (k + 1) (fun j h1 h2 => h j (by omega) (by rw [List.length_cons]; omega))]
theorem keptW_mem (kp : Nat → Bool) (x : Wt) : ∀ (l : List Wt) (k : Nat), x ∈ keptW kp k l → x ∈ l
  | [], _, h => h
  | y :: r, k, h => by
    rw [keptW] at h
    by_cases e : kp k = true
    · rw [if_pos e] at h
      rcases List.mem_cons.1 h with rfl | h
      · exact List.mem_cons_self
      · exact List.mem_cons_of_mem _ (keptW_mem kp x r _ h)
    · rw [if_neg e] at h
      exact List.mem_cons_of_mem _ (keptW_mem kp x r _ h)
def copyW (src : List ByteArray) : List ByteArray → List Wt → List ByteArray
  | l, [] => l
  | l, x :: r => copyW src (l.set x.1 (src.getD x.1 ByteArray.empty)) r
theorem copyW_len (src : List ByteArray) : ∀ (ws : List Wt) (l : List ByteArray), (copyW src l ws).length = l.length
  | [], _ => rfl
  | x :: r, l => by rw [copyW, copyW_len src r, List.length_set]
theorem copyW_snoc (src : List ByteArray) (x : Wt) : ∀ (a : List Wt) (l : List ByteArray), copyW src l (a ++ [x]) = (copyW src l a).set x.1 (src.getD x.1 ByteArray.empty)
  | [], _ => rfl
  | y :: r, l => by rw [List.cons_append, copyW, copyW_snoc src x r]; rfl
theorem copyW_get (src : List ByteArray) {i : Nat} : ∀ (ws : List Wt) (l : List ByteArray), l.length = src.length → i < l.length →
    (copyW src l ws)[i]? = if cnt i ws = 0 then l[i]? else src[i]?
  | [], l, _, _ => rfl
  | x :: r, l, hl, hi => by
    rw [copyW, copyW_get src r _ (by rw [List.length_set, hl]) (by rw [List.length_set]; exact hi), cnt]
    by_cases e : x.1 = i
    · rw [if_pos e, if_neg (show ¬ (1 + cnt i r = 0) by omega)]
      by_cases h0 : cnt i r = 0
      · rw [if_pos h0, e, List.getElem?_set_self hi, List.getD_eq_getElem?_getD, List.getElem?_eq_getElem (by omega)]; rfl
      · rw [if_neg h0]
    · rw [if_neg e, Nat.zero_add, List.getElem?_set_ne e]
theorem settled (lasts : List ByteArray) (ws : List Wt) (kp : Nat → Bool) : copyW (applyW lasts (keptW kp 0 ws)) (applyW lasts ws) ws = applyW lasts (keptW kp 0 ws) := by
  have hl : (applyW lasts ws).length = (applyW lasts (keptW kp 0 ws)).length := by rw [applyW_len, applyW_len]
  apply List.ext_getElem?
  intro i
  by_cases hi : i < (applyW lasts ws).length
  · rw [copyW_get _ _ _ hl hi]
    by_cases h : cnt i ws = 0
    · rw [if_pos h, applyW_other _ _ h, applyW_other _ _ (keptW_cnt kp i ws 0 h)]
    · rw [if_neg h]
  · rw [List.getElem?_eq_none (by rw [copyW_len]; omega), List.getElem?_eq_none (by omega)]
structure DS where
  lasts : List ByteArray
  waits : List Wt
  armed : Int
  ops : Int
def DS.read (S : DS) : List ByteArray := applyW S.lasts S.waits
def DS.ok (S : DS) : Prop := ∀ x ∈ S.waits, x.1 < S.lasts.length
def DS.fails (S : DS) : DS × Bool := if S.armed ≤ 0 then (S, false) else ({ S with armed := S.armed - 1 }, decide (S.armed - 1 = 0))
def DS.put (S : DS) (i : Int) (s : ByteArray) : DS × Int :=
  if ¬ (0 ≤ i ∧ i < (S.lasts.length : Int)) then (S, 5) else if s.size ≠ 128 then (S, 4)
  else if S.fails.2 = true then (S.fails.1, 7) else ({ S.fails.1 with waits := S.waits ++ [(i.toNat, s)], ops := S.ops + 1 }, 0)
def DS.crash (S : DS) (kp : Nat → Bool) : DS := { S with lasts := applyW S.lasts (keptW kp 0 S.waits), waits := [] }
def DS.sync (S : DS) : DS × Int :=
  if S.fails.2 = true then (S.fails.1, 7) else ({ S.fails.1.crash (fun _ => true) with ops := S.ops + 1 }, 0)
end Go.Proofs.YtknbhgodhmcemaaDoor.Dk
namespace Go.Proofs.YtknbhgodhmcemaaDoor.Cel
open Go.RowKit
structure Aside0 (p : Prop) : Prop where mk :: (out : p)
section
variable {P : Program}
theorem end_cell {fn : Func} {p u : Tmp} {ty : TypeId} {d : TypeDesc} (h : fn.results = #[.cell p ty, .tmp u]) (tmps : Array Value) (U : World) (b : Nat) (cells old : Array Value) (hZ : U.heap[b]? = some (.cells old ty (0, 0)))
    (hp : tmps.getD p undef = .pointer (some ⟨b, 0, none⟩)) (hu : P.underlying ty = some d) (hd : (match d with | .struct _ | .array _ _ => true | _ => false) = true) (hi : (P.info? ty).map (·.size) = some cells.size) :
    (results fn tmps).run P (U.setRow b cells) = .ok (.tuple #[.agg cells, tmps.getD u undef]) (U.setRow b cells) := by
  have hR := setRow_heap U b old cells ty (0, 0) hZ
  rw [results_cell_tmp h, hp]
  simp [asAddr, run_loadVar_row _ _ ty ty _ (0, 0) _ hR hu hd hi]
theorem take_at {md : Region.Mode} {ops : Array Oper} {Q : Exit → Act → World → Prop} {S : World → Prop} {i : Nat} {oi : Oper} (d : Option Tmp) (v : Value) {fuel : Nat} {listed : Array Bool} {a : Act} {w : World} (hi : ops[i]? = some oi) (hd : oi.dst = d)
    (hs : Region.noSelect ops = true) (hf : Region.free md ops listed i = true) (hr : (Region.ready md ops listed).contains i = true)
    (hQ : ∀ c a w, Q (.panic c) (a.put d v) w → Q (.panic c) a w) (hy : YieldsIf P ops S oi v a) (hS : S w)
    (h : wpAnyH P md ops Q S fuel (listed.setIfInBounds i true) (a.put d v) w) : wpAnyH P md ops Q S (fuel + 1) listed a w := by
  subst hd; exact wpAnyH_take hi hs hf hr hQ hy hS h
theorem yieldsIf_load {ops : Array Oper} {S : World → Prop} {op : Oper} {a : Act} (hw : Region.wanted op (yielded ops a.tmps) = true) (ty : TypeId) (x : Operand) (ho : op.op = .load ty x) (p : Value) (hx : a.eval x = p) (v : Value)
    (hS : ∀ w, S w → (Instr.loadAt ty p).run P w = .ok v w) : YieldsIf P ops S op v a :=
  .inl ⟨hw, fun w hw' => by
    unfold execOp
    simp only [ho, hx, Sem.run_bind, hS w hw', Result.andThen_ok, Sem.run_pure]⟩
theorem load_row {W : World} {b : Nat} {ty : TypeId} {cs : Array Value} {d : TypeDesc} (h : W.heap[b]? = some (.cells cs ty (0, 0))) (hu : P.underlying ty = some d) (hd : (match d with | .struct _ | .array _ _ => true | _ => false) = true) (hi : (P.info? ty).map (·.size) = some cs.size) :
    (Instr.loadAt ty (.pointer (some ⟨b, 0, none⟩))).run P W = .ok (.agg cs) W := by
  simp only [Instr.loadAt, Instr.sureAddr, Sem.run_bind, Sem.run_pure, Result.andThen_ok, run_loadVar_row W b ty ty cs (0, 0) _ h hu hd hi]
theorem wpList_load_row_w {ops : Array Oper} {rest : List Oper} {o : Oper} {a : Act} {w : World} {Q : Exit → Act → World → Prop} (hw : Region.wanted o (yielded ops a.tmps) = true) (ty : TypeId) (x : Operand) (ho : o.op = .load ty x)
    (g : Nat) (hx : a.eval x = .pointer (some ⟨g, 0, none⟩)) (t : TypeId) (cs : Array Value) (fr : Nat × Nat) (d : TypeDesc) (hg : w.heap[g]? = some (.cells cs t fr))
    (hu : P.underlying ty = some d) (hd : (match d with | .struct _ | .array _ _ => true | _ => false) = true) (hi : (P.info? ty).map (·.size) = some cs.size)
    (h : wpList P ops Q rest (a.put o.dst (.agg cs)) w) : wpList P ops Q (o :: rest) a w :=
  wpList_step fun _ hK => by rw [if_pos hw]; exact wp_load_row ty x ho g hx t cs fr d hg hu hd hi (hK _ _ h)
theorem wp_store_none {o : Oper} {a : Act} {w : World} {K : Act → World → Prop} {Q : Exit → Act → World → Prop} (hn : o.dst = none) (ty : TypeId) (x y : Operand) (ho : o.op = .store ty x y)
    (g : Nat) (cells : Array Value) (hx : a.eval x = .pointer (some ⟨g, 0, none⟩)) (hy : a.eval y = .agg cells)
    (t : TypeId) (old : Array Value) (hg : w.heap[g]? = some (.cells old t (0, 0))) (hi : (P.info? ty).map (·.size) = some cells.size)
    (hold : old.size = cells.size) (h1 : cells.all (·.oneCell') = true) (h : K a (w.setRow g cells)) : o.wp P a w K Q :=
  wp_store_row ty x y ho g cells hx hy t old hg hi hold h1 (by rw [hn]; exact h)
end
end Go.Proofs.YtknbhgodhmcemaaDoor.Cel
namespace Go.Proofs.YtknbhgodhmcemaaDoor.Own
open Go.RowKit
theorem grown_of_below {W W' : World} (h : Below W.heap.size W W') : W.grownBy W' none := ⟨h.os, h.tape, h.output, h.size, fun k hk _ => h.block k hk⟩
theorem keep {W W' : World} {b : Nat} {o : Obj} (h : W.heap[b]? = some o) (hb : Below W.heap.size W W') : W'.heap[b]? = some o :=
  (hb.block _ (Array.getElem?_eq_some_iff.1 h).1).trans h
theorem owns_keep {W W' : World} {base : Nat} {e : TypeId} {sz n : Nat} {v : Value} {xs : List Value} (h : W.ownsRow base e sz v n xs) (hb : Below W.heap.size W W') : W'.ownsRow base e sz v n xs :=
  h.kept (grown_of_below hb) (by cases v.ownBlock <;> simp)
theorem owns_slice {W : World} {base : Nat} {e : TypeId} {sz n : Nat} {v : Value} {xs : List Value} (h : W.ownsRow base e sz v n xs) : ∃ A c, v = .slice A n c := by
  rcases h.2 with ⟨rfl, rfl⟩ | ⟨g, cap, cur, rfl, _⟩
  · exact ⟨_, _, rfl⟩
  · exact ⟨_, _, rfl⟩
def strs (l : List ByteArray) : List Value := l.map Value.string
theorem strs_len (l : List ByteArray) : (strs l).length = l.length := by simp [strs]
theorem strs_get (l : List ByteArray) (j : Nat) (h : j < l.length) : (strs l)[j]? = some (.string (l[j]'h)) := by simp [strs, List.getElem?_eq_getElem h]
theorem strs_set (l : List ByteArray) (j : Nat) (s : ByteArray) : (strs l).set j (.string s) = strs (l.set j s) := by simp [strs, List.map_set]
theorem strs_append (l m : List ByteArray) : strs (l ++ m) = strs l ++ strs m := by simp [strs]
theorem strs_one (l : List ByteArray) : ∀ v ∈ strs l, v.oneCell' = true := by
  intro v hv
  simp only [strs, List.mem_map] at hv
  obtain ⟨b, _, rfl⟩ := hv
  rfl
section
variable {P : Program} (w : World)
theorem run_append_new (base : Nat) (t ty e : TypeId) (i : TypeInfo) (z : Value) (size bytes : Nat) (ht : P.underlying t = some (.slice e)) (hi : P.info? e = some i) (hz : i.zero = some z)
    (hsize : i.size = size) (hby : i.bytes = bytes) (hzs : z.cells.size = size)
    (v : Value) (n : Nat) (xs : List Value) (hl0 : xs.length = n * size)
    (hv : (v = .slice none 0 0 ∧ n = 0) ∨ ∃ g, v = .slice (some ⟨g, 0, none⟩) n n ∧ ∀ j u, xs[j]? = some u → w.cell? ((⟨g, 0, none⟩ : Addr).add j) = some u)
    (a : Addr) (m c : Nat) (news : List Value) (hl : news.length = m * size) (hnews : ∀ j u, news[j]? = some u → w.cell? (a.add j) = some u) (hm : 0 < m)
    (h63 : n + m ≤ maxLen) (hbytes : (n + m) * bytes ≤ 140737488355328) (hbase : base ≤ w.heap.size) :
    ∃ cap w', (Builtin.append_ #[t, t] ty #[v, .slice (some a) m c]).run P w = .ok (.slice (some ⟨w.heap.size, 0, none⟩) (n + m) cap) w' ∧
      w'.ownsRow base e size (.slice (some ⟨w.heap.size, 0, none⟩) (n + m) cap) (n + m) (xs ++ news) ∧ w.grownBy w' none := by
  subst hsize
  subst hby
  have hsmall : n + m ≤ 9223372036854775807 := by simp only [maxLen] at h63; omega
  have hlen : (xs ++ news).length = (n + m) * i.size := by rw [List.length_append, hl0, hl, Nat.add_mul]
  have grown : ∀ (old : Nat), old < n + m →
      (w.drew.alloc (.cells (xs.toArray ++ news.toArray ++ Builtin.zeroCells z.cells (grownCap w (n + m) old e - (n + m))) e)).ownsRow base e i.size
        (.slice (some ⟨w.heap.size, 0, none⟩) (n + m) (grownCap w (n + m) old e)) (n + m) (xs ++ news) ∧
      w.grownBy (w.drew.alloc (.cells (xs.toArray ++ news.toArray ++ Builtin.zeroCells z.cells (grownCap w (n + m) old e - (n + m))) e)) none := by
    intro old ho
    have hge := grownCap_ge w (n + m) old e
    have hcm : grownCap w (n + m) old e ≤ maxLen := grownCap_le_maxLen w (n + m) old e h63
    refine ⟨⟨hlen, .inr ⟨w.heap.size, _, _, rfl, hbase, heap_alloc_new w.drew _, hge, hcm, ?_, ?_⟩⟩, ⟨rfl, rfl, rfl, by simp, fun k hk _ => Below.heap_alloc w.drew _ k hk⟩⟩
    · simp only [Array.size_append, List.size_toArray, size_zeroCells, hzs, hl0, hl, ← Nat.add_mul]
      congr 1
      omega
    · simp only [Array.toList_append, List.append_assoc]
      rw [← List.append_assoc, ← hlen]
      exact List.take_left
  rcases hv with ⟨rfl, rfl⟩ | ⟨g, rfl, hc⟩
  · have hx : xs = [] := List.eq_nil_of_length_eq_zero (by simpa using hl0)
    subst hx
    have hr := run_append_nil (P := P) w t ty e i z ht hi hz a m c news hl hnews (by omega) (by omega) (by have hb := hbytes; simp only [Nat.zero_add] at hb; omega)
    have hgr := grown 0 (by omega)
    simp only [Nat.zero_add, List.nil_append, Array.empty_append] at hgr ⊢
    exact ⟨_, _, hr, hgr.1, hgr.2⟩
  · have hr := run_append_grow (P := P) w t ty e i z ht hi hz ⟨g, 0, none⟩ n n xs hl0 hc a m c news hl hnews (by omega) (by omega) (growslice_fits (by omega) hbytes)
    have hgr := grown n (by omega)
    exact ⟨_, _, hr, hgr.1, hgr.2⟩
theorem wpList_append_new {ops : Array Oper} {rest : List Oper} {o : Oper} {a : Act} {Q : Exit → Act → World → Prop} (hgd : o.guard = none) (s x : Operand) (t : TypeId)
    (ho : o.op = .call { callee := .builtin .append, args := #[s, x], argTypes := #[t, t] })
    (base : Nat) (e : TypeId) (i : TypeInfo) (z : Value) (size bytes : Nat) (ht : P.underlying t = some (.slice e)) (hi : P.info? e = some i) (hz : i.zero = some z)
    (hsize : i.size = size) (hby : i.bytes = bytes) (hzs : z.cells.size = size)
    (v : Value) (n : Nat) (xs : List Value) (hs : a.eval s = v) (hl0 : xs.length = n * size)
    (hv : (v = .slice none 0 0 ∧ n = 0) ∨ ∃ g, v = .slice (some ⟨g, 0, none⟩) n n ∧ ∀ j u, xs[j]? = some u → w.cell? ((⟨g, 0, none⟩ : Addr).add j) = some u)
    (ad : Addr) (m c : Nat) (news : List Value) (hx : a.eval x = .slice (some ad) m c) (hl : news.length = m * size) (hnews : ∀ j u, news[j]? = some u → w.cell? (ad.add j) = some u) (hm : 0 < m)
    (h63 : n + m ≤ maxLen) (hbytes : (n + m) * bytes ≤ 140737488355328) (hbase : base ≤ w.heap.size)
    (h : ∀ cap w', w'.ownsRow base e size (.slice (some ⟨w.heap.size, 0, none⟩) (n + m) cap) (n + m) (xs ++ news) → w.grownBy w' none → wpList P ops Q rest (a.put o.dst (.slice (some ⟨w.heap.size, 0, none⟩) (n + m) cap)) w') : wpList P ops Q (o :: rest) a w := by
  obtain ⟨cap, w', hr, h2, h3⟩ := run_append_new (P := P) w base t o.type e i z size bytes ht hi hz hsize hby hzs v n xs hl0 hv ad m c news hl hnews hm h63 hbytes hbase
  refine wpList_plain hgd fun K hK' => ?_
  have hk := hK' _ _ (h cap w' h2 h3)
  unfold Oper.wp execOp
  simp only [ho, resolve, invoke, builtin, Sem.run_bind, Sem.run_pure, Result.andThen_ok, List.map_toArray, List.map_cons, List.map_nil, hs, hx, hr]
  exact hk
end
end Go.Proofs.YtknbhgodhmcemaaDoor.Own
namespace Go.Proofs.YtknbhgodhmcemaaDoor.Dk
set_option linter.unusedSimpArgs false
set_option linter.unusedVariables false
set_option maxRecDepth 100000
open Go.RowKit Go.Proofs.YtknbhgodhmcemaaDoor.Own Go.Proofs.YtknbhgodhmcemaaDoor.Cel
def wcells : List Wt → List Value
  | [] => []
  | x :: r => .int .i64 (x.1 : Nat) :: .string x.2 :: wcells r
theorem wcells_len : ∀ l : List Wt, (wcells l).length = l.length * 2
  | [] => rfl
  | x :: r => by rw [wcells, List.length_cons, List.length_cons, wcells_len r, List.length_cons]; omega
theorem wcells_append : ∀ a b : List Wt, wcells (a ++ b) = wcells a ++ wcells b
  | [], _ => rfl
  | x :: r, b => by rw [List.cons_append, wcells, wcells, wcells_append r b]; rfl
theorem wcells_get0 : ∀ (l : List Wt) (j : Nat) (h : j < l.length), (wcells l)[2 * j]? = some (.int .i64 ((l[j]'h).1 : Nat))
  | x :: r, 0, _ => rfl
  | x :: r, j + 1, h => by
    have := wcells_get0 r j (by simpa using h)
    rw [wcells, show 2 * (j + 1) = 2 * j + 1 + 1 by omega, List.getElem?_cons_succ, List.getElem?_cons_succ, this]; rfl
theorem wcells_get1 : ∀ (l : List Wt) (j : Nat) (h : j < l.length), (wcells l)[2 * j + 1]? = some (.string (l[j]'h).2)
  | x :: r, 0, _ => rfl
  | x :: r, j + 1, h => by
    have := wcells_get1 r j (by simpa using h)
    rw [wcells, show 2 * (j + 1) + 1 = 2 * j + 1 + 1 + 1 by omega, List.getElem?_cons_succ, List.getElem?_cons_succ, this]; rfl
theorem wcells_one : ∀ (l : List Wt), ∀ v ∈ wcells l, v.oneCell' = true
  | [], v, h => by cases h
  | x :: r, v, h => by
    rw [wcells] at h
    rcases List.mem_cons.1 h with rfl | h
    · rfl
    · rcases List.mem_cons.1 h with rfl | h
      · rfl
      · exact wcells_one r v h
theorem owns_block {W W' : World} {base : Nat} {e : TypeId} {sz n : Nat} {v : Value} {xs : List Value} (h : W.ownsRow base e sz v n xs) (hb : ∀ g, v.ownBlock = some g → W'.heap[g]? = W.heap[g]?) : W'.ownsRow base e sz v n xs := by
  refine ⟨h.1, ?_⟩
  rcases h.2 with h' | ⟨g, cap, cur, rfl, h1, h2, h3⟩
  · exact .inl h'
  · exact .inr ⟨g, cap, cur, rfl, h1, (hb g rfl).trans h2, h3⟩
theorem owns_type {W : World} {base : Nat} {e : TypeId} {sz n : Nat} {v : Value} {xs : List Value} (h : W.ownsRow base e sz v n xs) {g : Nat} (hg : v.ownBlock = some g) : ∃ cur, W.heap[g]? = some (.cells cur e (0, 0)) ∧ base ≤ g := by
  rcases h.2 with ⟨rfl, _⟩ | ⟨g', cap, cur, rfl, h1, h2, _⟩
  · cases hg
  · cases hg; exact ⟨cur, h2, h1⟩
theorem cells_ne {W : World} {a b : Nat} {x y : Array Value} {s t : TypeId} {f f' : Nat × Nat} (ha : W.heap[a]? = some (.cells x s f)) (hb : W.heap[b]? = some (.cells y t f')) (h : s ≠ t) : a ≠ b := by
  intro e
  subst e
  rw [ha] at hb
  simp only [Option.some.injEq, Obj.cells.injEq] at hb
  exact h hb.2.1
theorem map_ne {W : World} {a b : Nat} {x : Array Value} {s : TypeId} {f : Nat × Nat} {es : Array MapEntry} {c : Nat} (ha : W.heap[a]? = some (.cells x s f)) (hb : W.heap[b]? = some (.map es c)) : a ≠ b := by
  intro e
  subst e
  rw [ha] at hb
  cases hb
structure DR (B p lb lc rb rc mb : Nat) (wv : Value) (ls rs : List ByteArray) (ws : List Wt) (m : Nat → Nat) (N : Nat) (a o : Int) (W : World) : Prop where
  box : W.heap[p]? = some (.cells #[.slice (some ⟨lb, 0, none⟩) ls.length lc, wv, .map (some mb), .int .i64 a, .int .i64 o, .slice (some ⟨rb, 0, none⟩) ls.length rc] 92 (0, 0))
  hl : W.ownsRow B 9 1 (.slice (some ⟨lb, 0, none⟩) ls.length lc) ls.length (strs ls)
  hr : W.ownsRow B 9 1 (.slice (some ⟨rb, 0, none⟩) ls.length rc) ls.length (strs rs)
  hw : W.ownsRow B 130 2 wv ws.length (wcells ws)
  mp : ∃ (n : Nat) (D : DataW Unit), W.ownsMap Tryd.prog 3 (plainElem Tryd.prog 3) mb n D ∧ n ≤ N ∧ ∀ i : Nat, D.atKey (.int .i64 (i : Int)) (.lit (.int .i64 0)) = .lit (.int .i64 ((m i : Nat) : Int))
  hp : B ≤ p
  hm : B ≤ mb
  ne : lb ≠ rb
def FP (p lb rb mb : Nat) (wv : Value) (k : Nat) : Prop := k = p ∨ k = mb ∨ k = lb ∨ k = rb ∨ wv.ownBlock = some k
variable {B p lb lc rb rc mb : Nat} {wv : Value} {ls rs : List ByteArray} {ws : List Wt} {m : Nat → Nat} {N : Nat} {a o : Int} {W W' : World}
theorem DR.lb_at (h : DR B p lb lc rb rc mb wv ls rs ws m N a o W) : ∃ cur, W.heap[lb]? = some (.cells cur 9 (0, 0)) ∧ B ≤ lb := owns_type h.hl rfl
theorem DR.rb_at (h : DR B p lb lc rb rc mb wv ls rs ws m N a o W) : ∃ cur, W.heap[rb]? = some (.cells cur 9 (0, 0)) ∧ B ≤ rb := owns_type h.hr rfl
theorem DR.wb_at (h : DR B p lb lc rb rc mb wv ls rs ws m N a o W) {k : Nat} (hk : wv.ownBlock = some k) : ∃ cur, W.heap[k]? = some (.cells cur 130 (0, 0)) ∧ B ≤ k := owns_type h.hw hk
theorem DR.mb_at (h : DR B p lb lc rb rc mb wv ls rs ws m N a o W) : ∃ es c, W.heap[mb]? = some (.map es c) := by
  obtain ⟨n, D, ⟨es, c, h1, _⟩, _⟩ := h.mp
  exact ⟨es, c, h1⟩
theorem DR.rlen (h : DR B p lb lc rb rc mb wv ls rs ws m N a o W) : rs.length = ls.length := by
  have := h.hr.1
  rw [strs_len] at this; omega
theorem DR.lt (h : DR B p lb lc rb rc mb wv ls rs ws m N a o W) {k : Nat} (hk : FP p lb rb mb wv k) : B ≤ k ∧ k < W.heap.size := by
  rcases hk with rfl | rfl | rfl | rfl | hk
  · exact ⟨h.hp, (Array.getElem?_eq_some_iff.1 h.box).1⟩
  · obtain ⟨es, c, h1⟩ := h.mb_at
    exact ⟨h.hm, (Array.getElem?_eq_some_iff.1 h1).1⟩
  · obtain ⟨c, h1, h2⟩ := h.lb_at
    exact ⟨h2, (Array.getElem?_eq_some_iff.1 h1).1⟩
  · obtain ⟨c, h1, h2⟩ := h.rb_at
    exact ⟨h2, (Array.getElem?_eq_some_iff.1 h1).1⟩
  · obtain ⟨c, h1, h2⟩ := h.wb_at hk
    exact ⟨h2, (Array.getElem?_eq_some_iff.1 h1).1⟩
theorem DR.keep (h : DR B p lb lc rb rc mb wv ls rs ws m N a o W) (hk : ∀ k, FP p lb rb mb wv k → W'.heap[k]? = W.heap[k]?) : DR B p lb lc rb rc mb wv ls rs ws m N a o W' := by
  refine ⟨(hk p (.inl rfl)).trans h.box, owns_block h.hl (fun g e => ?_), owns_block h.hr (fun g e => ?_), owns_block h.hw (fun g e => hk g (.inr (.inr (.inr (.inr e))))), ?_, h.hp, h.hm, h.ne⟩
  · obtain rfl : lb = g := by simpa [Value.ownBlock] using e
    exact hk lb (.inr (.inr (.inl rfl)))
  · obtain rfl : rb = g := by simpa [Value.ownBlock] using e
    exact hk rb (.inr (.inr (.inr (.inl rfl))))
  · obtain ⟨n, D, ⟨es, c, h1, h2⟩, h3⟩ := h.mp
    exact ⟨n, D, ⟨es, c, (hk mb (.inr (.inl rfl))).trans h1, h2⟩, h3⟩
theorem DR.below (h : DR B p lb lc rb rc mb wv ls rs ws m N a o W) (hb : Below W.heap.size W W') : DR B p lb lc rb rc mb wv ls rs ws m N a o W' :=
  h.keep (fun k hk => hb.block k (h.lt hk).2)
theorem set_other (w : World) (a : Addr) (u : Value) (k : Nat) (h : k ≠ a.block) : (w.setCell a u).heap[k]? = w.heap[k]? := Below.heap_setCell w a u k h
theorem DR.p_lb (h : DR B p lb lc rb rc mb wv ls rs ws m N a o W) : p ≠ lb := by
  obtain ⟨c, h1, _⟩ := h.lb_at
  exact cells_ne h.box h1 (by decide)
theorem DR.p_rb (h : DR B p lb lc rb rc mb wv ls rs ws m N a o W) : p ≠ rb := by
  obtain ⟨c, h1, _⟩ := h.rb_at
  exact cells_ne h.box h1 (by decide)
theorem DR.p_wb (h : DR B p lb lc rb rc mb wv ls rs ws m N a o W) {k : Nat} (hk : wv.ownBlock = some k) : p ≠ k := by
  obtain ⟨c, h1, _⟩ := h.wb_at hk
  exact cells_ne h.box h1 (by decide)
theorem DR.p_mb (h : DR B p lb lc rb rc mb wv ls rs ws m N a o W) : p ≠ mb := by
  obtain ⟨es, c, h1⟩ := h.mb_at
  exact map_ne h.box h1
theorem DR.lb_wb (h : DR B p lb lc rb rc mb wv ls rs ws m N a o W) {k : Nat} (hk : wv.ownBlock = some k) : lb ≠ k := by
  obtain ⟨c, h1, _⟩ := h.wb_at hk
  obtain ⟨c2, h2, _⟩ := h.lb_at
  exact cells_ne h2 h1 (by decide)
theorem DR.rb_wb (h : DR B p lb lc rb rc mb wv ls rs ws m N a o W) {k : Nat} (hk : wv.ownBlock = some k) : rb ≠ k := by
  obtain ⟨c, h1, _⟩ := h.wb_at hk
  obtain ⟨c2, h2, _⟩ := h.rb_at
  exact cells_ne h2 h1 (by decide)
theorem DR.lb_mb (h : DR B p lb lc rb rc mb wv ls rs ws m N a o W) : lb ≠ mb := by
  obtain ⟨es, c, h1⟩ := h.mb_at
  obtain ⟨c2, h2, _⟩ := h.lb_at
  exact map_ne h2 h1
theorem DR.rb_mb (h : DR B p lb lc rb rc mb wv ls rs ws m N a o W) : rb ≠ mb := by
  obtain ⟨es, c, h1⟩ := h.mb_at
  obtain ⟨c2, h2, _⟩ := h.rb_at
  exact map_ne h2 h1
theorem DR.wb_mb (h : DR B p lb lc rb rc mb wv ls rs ws m N a o W) {k : Nat} (hk : wv.ownBlock = some k) : k ≠ mb := by
  obtain ⟨es, c, h1⟩ := h.mb_at
  obtain ⟨c2, h2, _⟩ := h.wb_at hk
  exact map_ne h2 h1
theorem DR.box_put (h : DR B p lb lc rb rc mb wv ls rs ws m N a o W) (j : Nat) (u : Value) :
    (W.setCell ⟨p, j, none⟩ u).heap[p]? = some (.cells (#[.slice (some ⟨lb, 0, none⟩) ls.length lc, wv, .map (some mb), .int .i64 a, .int .i64 o, .slice (some ⟨rb, 0, none⟩) ls.length rc].setIfInBounds j u) 92 (0, 0)) ∧
    (∀ k, k ≠ p → (W.setCell ⟨p, j, none⟩ u).heap[k]? = W.heap[k]?) :=
  ⟨heap_setCell_same W p j _ _ u h.box, fun k hk => set_other W _ u k hk⟩
theorem DR.setA (h : DR B p lb lc rb rc mb wv ls rs ws m N a o W) (a' : Int) : DR B p lb lc rb rc mb wv ls rs ws m N a' o (W.setCell ⟨p, 3, none⟩ (.int .i64 a')) := by
  obtain ⟨h1, h2⟩ := h.box_put 3 (.int .i64 a')
  refine ⟨h1, owns_block h.hl (fun g e => h2 g ?_), owns_block h.hr (fun g e => h2 g ?_), owns_block h.hw (fun g e => h2 g (h.p_wb e).symm), ?_, h.hp, h.hm, h.ne⟩
  · obtain rfl : lb = g := by simpa [Value.ownBlock] using e
    exact h.p_lb.symm
  · obtain rfl : rb = g := by simpa [Value.ownBlock] using e
    exact h.p_rb.symm
  · obtain ⟨n, D, ⟨es, c, e1, e2⟩, h3⟩ := h.mp
    exact ⟨n, D, ⟨es, c, (h2 mb h.p_mb.symm).trans e1, e2⟩, h3⟩
theorem DR.setO (h : DR B p lb lc rb rc mb wv ls rs ws m N a o W) (o' : Int) : DR B p lb lc rb rc mb wv ls rs ws m N a o' (W.setCell ⟨p, 4, none⟩ (.int .i64 o')) := by
  obtain ⟨h1, h2⟩ := h.box_put 4 (.int .i64 o')
  refine ⟨h1, owns_block h.hl (fun g e => h2 g ?_), owns_block h.hr (fun g e => h2 g ?_), owns_block h.hw (fun g e => h2 g (h.p_wb e).symm), ?_, h.hp, h.hm, h.ne⟩
  · obtain rfl : lb = g := by simpa [Value.ownBlock] using e
    exact h.p_lb.symm
  · obtain rfl : rb = g := by simpa [Value.ownBlock] using e
    exact h.p_rb.symm
  · obtain ⟨n, D, ⟨es, c, e1, e2⟩, h3⟩ := h.mp
    exact ⟨n, D, ⟨es, c, (h2 mb h.p_mb.symm).trans e1, e2⟩, h3⟩
theorem DR.setW (h : DR B p lb lc rb rc mb wv ls rs ws m N a o W) (wv' : Value) (ws' : List Wt) (hw' : W.ownsRow B 130 2 wv' ws'.length (wcells ws')) : DR B p lb lc rb rc mb wv' ls rs ws' m N a o (W.setCell ⟨p, 1, none⟩ wv') := by
  obtain ⟨h1, h2⟩ := h.box_put 1 wv'
  refine ⟨h1, owns_block h.hl (fun g e => h2 g ?_), owns_block h.hr (fun g e => h2 g ?_), owns_block hw' (fun g e => h2 g ?_), ?_, h.hp, h.hm, h.ne⟩
  · obtain rfl : lb = g := by simpa [Value.ownBlock] using e
    exact h.p_lb.symm
  · obtain rfl : rb = g := by simpa [Value.ownBlock] using e
    exact h.p_rb.symm
  · obtain ⟨c, h5, _⟩ := owns_type hw' e
    exact (cells_ne h.box h5 (by decide)).symm
  · obtain ⟨n, D, ⟨es, c, e1, e2⟩, h3⟩ := h.mp
    exact ⟨n, D, ⟨es, c, (h2 mb h.p_mb.symm).trans e1, e2⟩, h3⟩
theorem DR.setR (h : DR B p lb lc rb rc mb wv ls rs ws m N a o W) (i : Nat) (s : ByteArray) : DR B p lb lc rb rc mb wv ls (rs.set i s) ws m N a o (W.setCell ⟨rb, i, none⟩ (.string s)) := by
  have h2 : ∀ k, k ≠ rb → (W.setCell ⟨rb, i, none⟩ (.string s)).heap[k]? = W.heap[k]? := fun k hk => set_other W _ _ k hk
  refine ⟨(h2 p h.p_rb).trans h.box, owns_block h.hl (fun g e => h2 g ?_), ?_, owns_block h.hw (fun g e => h2 g (h.rb_wb e).symm), ?_, h.hp, h.hm, h.ne⟩
  · obtain rfl : lb = g := by simpa [Value.ownBlock] using e
    exact h.ne
  · rw [← strs_set]; exact (h.hr.stored i (.string s)).1
  · obtain ⟨n, D, ⟨es, c, e1, e2⟩, h3⟩ := h.mp
    exact ⟨n, D, ⟨es, c, (h2 mb h.rb_mb.symm).trans e1, e2⟩, h3⟩
theorem DR.setL (h : DR B p lb lc rb rc mb wv ls rs ws m N a o W) (i : Nat) (s : ByteArray) : DR B p lb lc rb rc mb wv (ls.set i s) rs ws m N a o (W.setCell ⟨lb, i, none⟩ (.string s)) := by
  have h2 : ∀ k, k ≠ lb → (W.setCell ⟨lb, i, none⟩ (.string s)).heap[k]? = W.heap[k]? := fun k hk => set_other W _ _ k hk
  have e : (ls.set i s).length = ls.length := by simp
  refine ⟨by rw [e]; exact (h2 p h.p_lb).trans h.box, ?_, ?_, owns_block h.hw (fun g e => h2 g (h.lb_wb e).symm), ?_, h.hp, h.hm, h.ne⟩
  · rw [e, ← strs_set]; exact (h.hl.stored i (.string s)).1
  · rw [e]
    refine owns_block h.hr (fun g e => h2 g ?_)
    obtain rfl : rb = g := by simpa [Value.ownBlock] using e
    exact h.ne.symm
  · obtain ⟨n, D, ⟨es, c, e1, e2⟩, h3⟩ := h.mp
    exact ⟨n, D, ⟨es, c, (h2 mb h.lb_mb.symm).trans e1, e2⟩, h3⟩
theorem DR.setM (h : DR B p lb lc rb rc mb wv ls rs ws m N a o W) {m' : Nat → Nat} {N' : Nat} (hg : W.grownBy W' (some mb))
    (hm : ∃ (n : Nat) (D : DataW Unit), W'.ownsMap Tryd.prog 3 (plainElem Tryd.prog 3) mb n D ∧ n ≤ N' ∧ ∀ i : Nat, D.atKey (.int .i64 (i : Int)) (.lit (.int .i64 0)) = .lit (.int .i64 ((m' i : Nat) : Int))) :
    DR B p lb lc rb rc mb wv ls rs ws m' N' a o W' := by
  have h2 : ∀ k, FP p lb rb mb wv k → k ≠ mb → W'.heap[k]? = W.heap[k]? := fun k hk hne => hg.block k (h.lt hk).2 (fun e => hne (by simpa using e))
  refine ⟨(h2 p (.inl rfl) h.p_mb).trans h.box, owns_block h.hl (fun g e => ?_), owns_block h.hr (fun g e => ?_), owns_block h.hw (fun g e => h2 g (.inr (.inr (.inr (.inr e)))) (h.wb_mb e)), hm, h.hp, h.hm, h.ne⟩
  · obtain rfl : lb = g := by simpa [Value.ownBlock] using e
    exact h2 lb (.inr (.inr (.inl rfl))) h.lb_mb
  · obtain rfl : rb = g := by simpa [Value.ownBlock] using e
    exact h2 rb (.inr (.inr (.inr (.inl rfl)))) h.rb_mb
theorem DR.cell (h : DR B p lb lc rb rc mb wv ls rs ws m N a o W) (j : Nat) : W.cell? ⟨p, j, none⟩ = #[.slice (some ⟨lb, 0, none⟩) ls.length lc, wv, .map (some mb), .int .i64 a, .int .i64 o, .slice (some ⟨rb, 0, none⟩) ls.length rc][j]? := cell_of_row W p j _ _ _ h.box
theorem DR.frozen (h : DR B p lb lc rb rc mb wv ls rs ws m N a o W) (j : Nat) : W.frozen? ⟨p, j, none⟩ = false := frozen_of_row W p j _ _ h.box
def DK (B p : Nat) (S : DS) (F : Nat → Prop) (W : World) : Prop :=
  ∃ lb lc rb rc mb wv, DR B p lb lc rb rc mb wv S.lasts S.read S.waits (fun i => cnt i S.waits) S.waits.length S.armed S.ops W ∧ (∀ k, F k ↔ FP p lb rb mb wv k)
structure Only (F : Nat → Prop) (W W' : World) : Prop where
  os : W'.os = W.os
  tape : W'.tape = W.tape
  output : W'.output = W.output
  size : W.heap.size ≤ W'.heap.size
  block : ∀ k, k < W.heap.size → ¬ F k → W'.heap[k]? = W.heap[k]?
theorem Only.refl (F : Nat → Prop) (W : World) : Only F W W := ⟨rfl, rfl, rfl, Nat.le_refl _, fun _ _ _ => rfl⟩
theorem Only.trans {F F' : Nat → Prop} {a b c : World} (h : Only F a b) (k : Only F' b c) (hF : ∀ i, F' i → F i ∨ a.heap.size ≤ i) : Only F a c :=
  ⟨k.os.trans h.os, k.tape.trans h.tape, k.output.trans h.output, Nat.le_trans h.size k.size, fun i hi hn => (k.block i (Nat.lt_of_lt_of_le hi h.size) (fun e => (hF i e).elim hn (fun e => by omega))).trans (h.block i hi hn)⟩
theorem Only.below {F : Nat → Prop} {a b : World} {B : Nat} (h : Only F a b) (hF : ∀ k, F k → B ≤ k) (hB : B ≤ a.heap.size) : Below B a b :=
  ⟨h.os, h.tape, h.output, h.size, fun k hk => h.block k (by omega) (fun e => by have := hF k e; omega)⟩
theorem only_below {F : Nat → Prop} {a b : World} (h : Below a.heap.size a b) : Only F a b := ⟨h.os, h.tape, h.output, h.size, fun k hk _ => h.block k hk⟩
theorem only_set {F : Nat → Prop} {W : World} (x : Addr) (u : Value) (h : F x.block) : Only F W (W.setCell x u) :=
  ⟨rfl, rfl, rfl, by simp [World.setCell], fun k _ hn => set_other W x u k (fun e => hn (e ▸ h))⟩
theorem only_grown {F : Nat → Prop} {W W' : World} {row : Option Nat} (h : W.grownBy W' row) (hF : ∀ k, row = some k → F k) : Only F W W' :=
  ⟨h.os, h.tape, h.output, h.size, fun k hk hn => h.block k hk (fun e => hn (hF k e.symm))⟩
def Did (B p : Nat) (S' : DS) (F : Nat → Prop) (W W' : World) : Prop := ∃ F', DK B p S' F' W' ∧ Only F W W' ∧ ∀ k, F' k → F k ∨ W.heap.size ≤ k
theorem DK.lt {B p : Nat} {S : DS} {F : Nat → Prop} {W : World} (h : DK B p S F W) {k : Nat} (hk : F k) : B ≤ k ∧ k < W.heap.size := by
  obtain ⟨lb, lc, rb, rc, mb, wv, h1, h2⟩ := h
  exact h1.lt ((h2 k).1 hk)
theorem DK.keep {B p : Nat} {S : DS} {F : Nat → Prop} {W W' : World} (h : DK B p S F W) (hk : ∀ k, F k → W'.heap[k]? = W.heap[k]?) : DK B p S F W' := by
  obtain ⟨lb, lc, rb, rc, mb, wv, h1, h2⟩ := h
  exact ⟨lb, lc, rb, rc, mb, wv, h1.keep (fun k e => hk k ((h2 k).2 e)), h2⟩
theorem DK.below {B p : Nat} {S : DS} {F : Nat → Prop} {W W' : World} (h : DK B p S F W) (hb : Below W.heap.size W W') : DK B p S F W' := h.keep (fun k hk => hb.block k (h.lt hk).2)
theorem DK.hp {B p : Nat} {S : DS} {F : Nat → Prop} {W : World} (h : DK B p S F W) : F p := by
  obtain ⟨lb, lc, rb, rc, mb, wv, h1, h2⟩ := h
  exact (h2 p).2 (.inl rfl)
end Go.Proofs.YtknbhgodhmcemaaDoor.Dk
namespace Go.Proofs.YtknbhgodhmcemaaDoor.Dk
set_option linter.unusedSimpArgs false
set_option linter.unusedVariables false
set_option maxRecDepth 100000
open Go.RowKit Go.Proofs.YtknbhgodhmcemaaDoor.Own Go.Proofs.YtknbhgodhmcemaaDoor.Cel
variable {B p : Nat} {S : DS} {F : Nat → Prop} {W : World}
theorem has_calls (h : DK B p S F W) (i : Int) :
    Calls Tryd.prog 62 #[.pointer (some ⟨p, 0, none⟩), .int .i64 i] W fun e W' => e = .returned (.bool (decide (0 ≤ i ∧ i < (S.lasts.length : Int)))) ∧ W = W' := by
  obtain ⟨lb, lc, rb, rc, mb, wv, h1, h2⟩ := h
  have c0 := h1.cell 0
  have H1 := Aside0.mk h1
  clear h1 h2
  obtain ⟨n, hn⟩ : ∃ n, S.lasts.length = n := ⟨_, rfl⟩
  rw [hn] at c0 ⊢
  clear hn H1
  by_cases a : 0 ≤ i
  · by_cases b : i < (n : Int)
    · have e : decide (0 ≤ i ∧ i < (n : Int)) = true := decide_eq_true ⟨a, b⟩
      rw [e]
      go_enter Tryd.func62, Tryd.ntmps62
      go_wp2
      go_ret
      exact ⟨rfl, rfl⟩
    · have e : decide (0 ≤ i ∧ i < (n : Int)) = false := decide_eq_false (fun e => b e.2)
      rw [e]
      have b' : decide (i < (n : Int)) = false := decide_eq_false b
      go_enter Tryd.func62, Tryd.ntmps62
      go_wp2
      go_ret
      exact ⟨rfl, rfl⟩
  · have e : decide (0 ≤ i ∧ i < (n : Int)) = false := decide_eq_false (fun e => a e.1)
    rw [e]
    have a' : decide (0 ≤ i) = false := decide_eq_false a
    go_enter Tryd.func62, Tryd.ntmps62
    go_wp2
    go_ret
    exact ⟨rfl, rfl⟩
theorem size_calls (h : DK B p S F W) :
    Calls Tryd.prog 68 #[.pointer (some ⟨p, 0, none⟩)] W fun e W' => e = .returned (.int .i64 (S.lasts.length : Nat)) ∧ W = W' := by
  obtain ⟨lb, lc, rb, rc, mb, wv, h1, h2⟩ := h
  have c0 := h1.cell 0
  clear h1 h2
  go_enter Tryd.func68, Tryd.ntmps68
  go_wp2
  go_ret
  exact ⟨rfl, rfl⟩
theorem ops_calls (h : DK B p S F W) :
    Calls Tryd.prog 70 #[.pointer (some ⟨p, 0, none⟩)] W fun e W' => e = .returned (.int .i64 S.ops) ∧ W = W' := by
  obtain ⟨lb, lc, rb, rc, mb, wv, h1, h2⟩ := h
  have c4 := h1.cell 4
  clear h1 h2
  go_enter Tryd.func70, Tryd.ntmps70
  go_wp2
  go_ret
  exact ⟨rfl, rfl⟩
theorem waiting_calls (h : DK B p S F W) :
    Calls Tryd.prog 69 #[.pointer (some ⟨p, 0, none⟩)] W fun e W' => e = .returned (.int .i64 (S.waits.length : Nat)) ∧ W = W' := by
  obtain ⟨lb, lc, rb, rc, mb, wv, h1, h2⟩ := h
  have c1 := h1.cell 1
  obtain ⟨A, c, rfl⟩ := owns_slice h1.hw
  clear h1 h2
  go_enter Tryd.func69, Tryd.ntmps69
  go_wp2
  go_ret
  exact ⟨rfl, rfl⟩
theorem arm_calls (h : DK B p S F W) (n : Int) :
    Calls Tryd.prog 12 #[.pointer (some ⟨p, 0, none⟩), .int .i64 n] W fun e W' => e = .returned (.tuple #[]) ∧ DK B p { S with armed := n } F W' ∧ Only F W W' := by
  obtain ⟨lb, lc, rb, rc, mb, wv, h1, h2⟩ := h
  have c3 := h1.cell 3
  have f3 := h1.frozen 3
  have HN := Aside0.mk (show DK B p { S with armed := n } F (W.setCell ⟨p, 3, none⟩ (.int .i64 n)) ∧ Only F W (W.setCell ⟨p, 3, none⟩ (.int .i64 n)) from
    ⟨⟨lb, lc, rb, rc, mb, wv, h1.setA n, h2⟩, only_set _ _ ((h2 p).2 (.inl rfl))⟩)
  clear h1 h2
  go_enter Tryd.func12, Tryd.ntmps12
  go_wp2
  go_end0
  exact ⟨rfl, HN.out⟩
def DS.readAt (S : DS) (i : Int) : ByteArray × Int := if 0 ≤ i ∧ i < (S.lasts.length : Int) then (S.read.getD i.toNat ByteArray.empty, 0) else (⟨#[]⟩, 5)
theorem read_calls (h : DK B p S F W) (i : Int) :
    Calls Tryd.prog 39 #[.pointer (some ⟨p, 0, none⟩), .int .i64 i] W fun e W' => e = .returned (.tuple #[.string (S.readAt i).1, .int .i64 (S.readAt i).2]) ∧ W = W' := by
  have KH := Aside0.mk (has_calls h i)
  by_cases a : 0 ≤ i ∧ i < (S.lasts.length : Int)
  · have e : decide (0 ≤ i ∧ i < (S.lasts.length : Int)) = true := decide_eq_true a
    rw [e] at KH
    rw [DS.readAt, if_pos a]
    clear e
    obtain ⟨j, rfl⟩ := Int.eq_ofNat_of_zero_le a.1
    obtain ⟨lb, lc, rb, rc, mb, wv, h1, h2⟩ := h
    have c5 := h1.cell 5
    have hj : j < S.lasts.length := by have := a.2; omega
    have hjr : j < S.read.length := by rw [h1.rlen]; exact hj
    have cj : W.cell? ⟨rb, j, none⟩ = some (.string (S.read[j]'hjr)) := by
      rw [h1.hr.cellAt j (by omega), strs_get _ _ hjr]
    have E := Aside0.mk (show S.read.getD (j : Int).toNat ByteArray.empty = S.read[j]'hjr by
      rw [Int.toNat_natCast, List.getD_eq_getElem?_getD, List.getElem?_eq_getElem hjr]; rfl)
    obtain ⟨n, hn⟩ : ∃ n, S.lasts.length = n := ⟨_, rfl⟩
    obtain ⟨z, hz⟩ : ∃ z, S.read[j]'hjr = z := ⟨_, rfl⟩
    rw [hn] at hj c5
    rw [hz] at cj E
    have hj2 : (j : Int) < (n : Int) := by omega
    clear h1 h2 hn hz a hjr
    go_enter Tryd.func39, Tryd.ntmps39
    go_wp2_with fail
    refine KH.out.mono ?_
    rintro e w1 ⟨rfl, rfl⟩
    go_wp2
    go_ret2
    exact ⟨by rw [E.out]; rfl, rfl⟩
  · have e : decide (0 ≤ i ∧ i < (S.lasts.length : Int)) = false := decide_eq_false a
    rw [e] at KH
    rw [DS.readAt, if_neg a]
    clear e a h
    go_enter Tryd.func39, Tryd.ntmps39
    go_wp2_with fail
    refine KH.out.mono ?_
    rintro e w1 ⟨rfl, rfl⟩
    go_wp2
    go_ret2
    exact ⟨rfl, rfl⟩
theorem fails_calls (h : DK B p S F W) (ha : S.armed ≤ 9223372036854775807) :
    Calls Tryd.prog 52 #[.pointer (some ⟨p, 0, none⟩)] W fun e W' => e = .returned (.bool S.fails.2) ∧ DK B p S.fails.1 F W' ∧ Only F W W' := by
  have h0 := h
  obtain ⟨lb, lc, rb, rc, mb, wv, h1, h2⟩ := h
  have c3 := h1.cell 3
  have f3 := h1.frozen 3
  by_cases a : S.armed ≤ 0
  · have HN := Aside0.mk (show DK B p S.fails.1 F W ∧ Only F W W from ⟨by rw [DS.fails, if_pos a]; exact h0, Only.refl _ _⟩)
    have e2 : S.fails.2 = false := by rw [DS.fails, if_pos a]
    rw [e2]
    obtain ⟨ar, har⟩ : ∃ x, S.armed = x := ⟨_, rfl⟩
    rw [har] at a c3
    clear h0 h1 h2 e2 har ha
    go_enter Tryd.func52, Tryd.ntmps52
    go_wp2
    go_ret
    exact ⟨rfl, HN.out⟩
  · have e1 : S.fails.1 = { S with armed := S.armed - 1 } := by rw [DS.fails, if_neg a]
    have e2 : S.fails.2 = decide (S.armed - 1 = 0) := by rw [DS.fails, if_neg a]
    have hs := h1.setA (S.armed - 1)
    have c3' := hs.cell 3
    have HN := Aside0.mk (show DK B p S.fails.1 F (W.setCell ⟨p, 3, none⟩ (.int .i64 (S.armed - 1))) ∧ Only F W (W.setCell ⟨p, 3, none⟩ (.int .i64 (S.armed - 1))) from
      ⟨by rw [e1]; exact ⟨lb, lc, rb, rc, mb, wv, hs, h2⟩, only_set _ _ ((h2 p).2 (.inl rfl))⟩)
    rw [e2]
    obtain ⟨ar, har⟩ : ∃ x, S.armed = x := ⟨_, rfl⟩
    rw [har] at a c3 c3' HN ⊢
    have a' : ¬ (ar ≤ 0) := a
    have hlt : ar ≤ 9223372036854775807 := by omega
    have hgt : 0 < ar := by omega
    clear h0 h1 h2 e1 e2 har ha hs a
    go_enter Tryd.func52, Tryd.ntmps52
    go_wp2
    go_ret
    exact ⟨by first | rfl | (congr 2; simp), HN.out⟩
end Go.Proofs.YtknbhgodhmcemaaDoor.Dk
namespace Go.Proofs.YtknbhgodhmcemaaDoor.Dk
set_option linter.unusedSimpArgs false
set_option linter.unusedVariables false
set_option maxRecDepth 100000
open Go.RowKit Go.Proofs.YtknbhgodhmcemaaDoor.Own Go.Proofs.YtknbhgodhmcemaaDoor.Cel
def sect (b : UInt8) : ByteArray := ⟨(List.replicate 128 b).toArray⟩
theorem sect_size (b : UInt8) : (sect b).size = 128 := by show (List.replicate 128 b).toArray.size = 128; simp
theorem info8 : (Tryd.prog.info? 5).map (fun i => (i.zero, i.size, i.bytes)) = some (some (.int .u8 0), 1, 1) := by kernel_rfl
def fl (b : UInt8) (j : Nat) : List UInt8 := List.replicate j b ++ List.replicate (128 - j) 0
theorem fl_len (b : UInt8) (j : Nat) (h : j ≤ 128) : (fl b j).length = 128 := by simp [fl]; omega
theorem fl_step (b : UInt8) (j : Nat) (h : j < 128) : (Lib.byteCells (fl b j)).set j (.int .u8 (b.toNat : Nat)) = Lib.byteCells (fl b (j + 1)) := by
  have e : (Lib.byteCells (fl b j)).set j (.int .u8 (b.toNat : Nat)) = Lib.byteCells ((fl b j).set j b) := by simp [Lib.byteCells, List.map_set]
  rw [e]
  congr 1
  rw [fl, List.set_append_right _ _ (by simp), List.length_replicate, Nat.sub_self, show 128 - j = (128 - (j + 1)) + 1 by omega, List.replicate_succ, List.set_cons_zero, fl, List.replicate_succ']
  simp
theorem owns_string {W : World} {base : Nat} {v : Value} {l : List UInt8} (h : W.ownsRow base 5 1 v l.length (Lib.byteCells l)) (hl : l ≠ []) :
    (convert 103 9 v).run Tryd.prog W = .ok (.string ⟨l.toArray⟩) W := by
  rcases h.2 with ⟨rfl, h0⟩ | ⟨g, cap, cur, rfl, _⟩
  · exact absurd (List.length_eq_zero_iff.1 h0) hl
  · refine run_convert_bytes_back (P := Tryd.prog) W 103 9 5 ⟨g, 0, none⟩ cap l rfl rfl rfl (fun j hj => ?_)
    exact h.cells rfl j _ (by simp [Lib.byteCells, List.getElem?_eq_getElem hj])
theorem make128 (w : World) : ∃ b w', (Instr.makeSlice 103 (.int .i64 128) (.int .i64 128)).run Tryd.prog w = .ok (.slice (some ⟨b, 0, none⟩) 128 128) w' ∧
    w'.ownsRow w.heap.size 5 1 (.slice (some ⟨b, 0, none⟩) 128 128) 128 (Lib.byteCells (List.replicate 128 0)) ∧ Below w.heap.size w w' ∧ w.heap.size ≤ b := by
  obtain ⟨i0, hi, hz0, hz1, hz2⟩ := info_parts info8
  obtain ⟨w1, hm, ho, hg⟩ := run_makeSlice_full (P := Tryd.prog) w w.heap.size 103 5 i0 (.int .u8 0) 1 Tryd.underlying103 hi hz0 hz1 .i64 .i64 128 (by omega) (by rw [hz2]; omega) (by unfold maxLen; omega) (Nat.le_refl _)
  refine ⟨w.heap.size, w1, hm, ?_, (Below.refl _ _).grown hg (Nat.le_refl _) (fun k h => by cases h), Nat.le_refl _⟩
  rw [show Lib.byteCells (List.replicate 128 0) = (madeCells (Value.int .u8 0).cells (128 * 1)).toList by
    show _ = (madeCells #[.int .u8 0] (128 * 1)).toList
    rw [toList_madeCells_one, Nat.mul_one]; simp [Lib.byteCells]]
  exact ho
theorem fill_calls (b : UInt8) (w : World) : Calls Tryd.prog 79 #[.int .u8 (b.toNat : Nat)] w fun e w' => e = .returned (.string (sect b)) ∧ Below w.heap.size w w' := by
  obtain ⟨q, w1, hm, ho, hb, hq⟩ := make128 w
  have H1 := Aside0.mk (And.intro (show w1.ownsRow w.heap.size 5 1 (.slice (some ⟨q, 0, none⟩) 128 128) 128 (Lib.byteCells (fl b 0)) from ho) hb)
  obtain ⟨x, hx⟩ : ∃ x : Int, ((b.toNat : Nat) : Int) = x := ⟨_, rfl⟩
  have HX := Aside0.mk hx
  rw [hx]
  clear ho hb hx
  go_enter Tryd.func79, Tryd.ntmps79
  go_wp2_with fail
  clear hm
  go_loopw [8] (fun i W => ∃ (j : Nat), i = .int .i64 j ∧ j ≤ 128 ∧ Aside0 (W.ownsRow w.heap.size 5 1 (.slice (some ⟨q, 0, none⟩) 128 128) 128 (Lib.byteCells (fl b j)) ∧ Below w.heap.size w W)) (fun i _ => 128 - (intOf i).toNat)
  case atStart => exact ⟨0, rfl, by omega, H1⟩
  case round =>
    obtain ⟨j, rfl, hj, HS⟩ := hrel
    clear H1
    by_cases hlt : j < 128
    · have hj1 : (j : Int) < 128 := by omega
      obtain ⟨u, hu⟩ : ∃ u, wr.cell? ⟨q, j, none⟩ = some u := by
        have := HS.out.1.cellAt j (by omega)
        rw [List.getElem?_eq_getElem (by rw [Lib.byteCells_length, fl_len b j hj]; exact hlt)] at this
        exact ⟨_, this⟩
      have hfz := HS.out.1.frozenAt j
      have hst := HS.out.1.stored j (.int .u8 (b.toNat : Nat))
      rw [fl_step b j hlt, HX.out] at hst
      have H2 := Aside0.mk (And.intro hst.1 (HS.out.2.setCell hq (.int .u8 x) (p := ⟨q, j, none⟩)))
      clear hst hlt HS
      go_wp2
      go_roundw
      case rel => exact ⟨j + 1, by go_num, by omega, H2⟩
      case measure => simp [intOf]; omega
    · obtain rfl : j = 128 := by omega
      have hstr := owns_string (l := List.replicate 128 b) HS.out.1 (by simp)
      rw [show (⟨(List.replicate 128 b).toArray⟩ : ByteArray) = sect b from rfl] at hstr
      have HB := Aside0.mk HS.out.2
      clear HS
      go_wp2
      go_ret
      exact ⟨rfl, HB.out⟩
theorem rblank_calls (w : World) : Calls Tryd.prog 40 #[] w fun e w' => e = .returned (.string (sect 0)) ∧ Below w.heap.size w w' := by
  obtain ⟨q, w1, hm, ho, hb, hq⟩ := make128 w
  have hstr := owns_string (l := List.replicate 128 0) ho (by simp)
  rw [show (⟨(List.replicate 128 0).toArray⟩ : ByteArray) = sect 0 from rfl] at hstr
  have HB := Aside0.mk hb
  clear ho hb
  go_enter Tryd.func40, Tryd.ntmps40
  go_wp2
  go_ret
  exact ⟨rfl, HB.out⟩
end Go.Proofs.YtknbhgodhmcemaaDoor.Dk
namespace Go.Proofs
open Go.Shelf
def Tryd.lays169_ren : Go.Shelf.Ren := ⟨fun | 169 => 57 | n => n, fun | 70 => 102 | 9 => 9 | 0 => 0 | 72 => 105 | 37 => 103 | 127 => 148 | 3 => 3 | 5 => 5 | n => n, fun | n => n⟩
theorem Tryd.lays169 : Go.Proofs.Lays.n169 Tryd.prog Tryd.lays169_ren := {
  mixed := by kernel_rfl
  f169 := Tryd.func57.trans (congrArg some (by kernel_rfl))
  t0 := Tryd.underlying0
  a0 := Tryd.isAgg0
  z0 := Tryd.sizeOf0
  v0 := Tryd.zeroValue0
  t3 := Tryd.underlying3
  a3 := Tryd.isAgg3
  z3 := Tryd.sizeOf3
  v3 := Tryd.zeroValue3
  t9 := Tryd.underlying9
  a9 := Tryd.isAgg9
  z9 := Tryd.sizeOf9
  v9 := Tryd.zeroValue9
  t37 := Tryd.underlying103
  a37 := Tryd.isAgg103
  z37 := Tryd.sizeOf103
  v37 := Tryd.zeroValue103
  t70 := Tryd.underlying102
  a70 := Tryd.isAgg102
  z70 := Tryd.sizeOf102
  v70 := Tryd.zeroValue102
  t72 := Tryd.underlying105
  a72 := Tryd.isAgg105
  z72 := Tryd.sizeOf105
  v72 := Tryd.zeroValue105
  t127 := Tryd.underlying148
  a127 := Tryd.isAgg148
  z127 := Tryd.sizeOf148
  v127 := Tryd.zeroValue148 }
theorem Tryd.Builder_Extra_169 : Builder.Extra Tryd.prog Tryd.lays169_ren := {
  sizeBuilder := by kernel_rfl
  liesBuilder := by kernel_rfl
  t5 := Tryd.underlying5
  a5 := Tryd.isAgg5
  z5 := Tryd.sizeOf5
  v5 := Tryd.zeroValue5
  infoByte := by kernel_rfl
  cellsByte := by kernel_rfl
  sizeByte := by kernel_rfl
  neB5 := by decide }
def Tryd.lays165_ren : Go.Shelf.Ren := ⟨fun | 165 => 82 | 240 => 86 | 241 => 95 | 276 => 97 | 277 => 98 | n => n, fun | 70 => 102 | 3 => 3 | 0 => 0 | 4 => 4 | 9 => 9 | 20 => 20 | 72 => 105 | 37 => 103 | 164 => 156 | 5 => 5 | n => n, fun | n => n⟩
theorem Tryd.lays165 : Go.Proofs.Lays.n165 Tryd.prog Tryd.lays165_ren := {
  mixed := by kernel_rfl
  f165 := Tryd.func82.trans (congrArg some (by kernel_rfl))
  f240 := Tryd.func86.trans (congrArg some (by kernel_rfl))
  f241 := Tryd.func95.trans (congrArg some (by kernel_rfl))
  f276 := Tryd.func97.trans (congrArg some (by kernel_rfl))
  f277 := Tryd.func98.trans (congrArg some (by kernel_rfl))
  t0 := Tryd.underlying0
  a0 := Tryd.isAgg0
  z0 := Tryd.sizeOf0
  v0 := Tryd.zeroValue0
  t3 := Tryd.underlying3
  a3 := Tryd.isAgg3
  z3 := Tryd.sizeOf3
  v3 := Tryd.zeroValue3
  t4 := Tryd.underlying4
  a4 := Tryd.isAgg4
  z4 := Tryd.sizeOf4
  v4 := Tryd.zeroValue4
  t9 := Tryd.underlying9
  a9 := Tryd.isAgg9
  z9 := Tryd.sizeOf9
  v9 := Tryd.zeroValue9
  t20 := Tryd.underlying20
  a20 := Tryd.isAgg20
  z20 := Tryd.sizeOf20
  v20 := Tryd.zeroValue20
  t37 := Tryd.underlying103
  a37 := Tryd.isAgg103
  z37 := Tryd.sizeOf103
  v37 := Tryd.zeroValue103
  t70 := Tryd.underlying102
  a70 := Tryd.isAgg102
  z70 := Tryd.sizeOf102
  v70 := Tryd.zeroValue102
  t72 := Tryd.underlying105
  a72 := Tryd.isAgg105
  z72 := Tryd.sizeOf105
  v72 := Tryd.zeroValue105
  t164 := Tryd.underlying156
  a164 := Tryd.isAgg156
  z164 := Tryd.sizeOf156
  v164 := Tryd.zeroValue156 }
theorem Tryd.Builder_Extra_165 : Builder.Extra Tryd.prog Tryd.lays165_ren := {
  sizeBuilder := by kernel_rfl
  liesBuilder := by kernel_rfl
  t5 := Tryd.underlying5
  a5 := Tryd.isAgg5
  z5 := Tryd.sizeOf5
  v5 := Tryd.zeroValue5
  infoByte := by kernel_rfl
  cellsByte := by kernel_rfl
  sizeByte := by kernel_rfl
  neB5 := by decide }
open Go.RowKit in
theorem Tryd.Builder_Grow_fresh (B b n : Nat) (w : World) (hB : B ≤ b) (hbk : w.heap[b]? = some (.cells #[.pointer none, .slice none 0 0] 105 (0, 0))) (hBw : B ≤ w.heap.size) (hn : n ≤ 281474976710656) :
    Calls Tryd.prog 82 #[.pointer (some ⟨b, 0, none⟩), .int .i64 n] w fun e w' => e = .returned (.tuple #[]) ∧ (Lib.BuilderAt 105 5 B b (.pointer (some ⟨b, 0, none⟩)) [] w' ∧ Below B w w') := Any.Builder_Grow_fresh Tryd.lays165 Tryd.Builder_Extra_165 B b n w hB hbk hBw hn
def Tryd.lays160_ren : Go.Shelf.Ren := ⟨fun | 160 => 96 | 232 => 100 | 231 => 99 | 227 => 101 | 234 => 103 | 233 => 102 | 236 => 105 | 235 => 104 | 228 => 106 | 271 => 109 | 151 => 108 | 197 => 107 | 120 => 112 | 152 => 111 | 260 => 110 | 137 => 113 | 119 => 114 | 224 => 115 | 225 => 116 | 217 => 117 | 266 => 118 | n => n, fun | 9 => 9 | 4 => 4 | 3 => 3 | 5 => 5 | 117 => 162 | 116 => 161 | 0 => 0 | 124 => 165 | 21 => 21 | 105 => 167 | 46 => 141 | 119 => 171 | 139 => 174 | 138 => 173 | n => n, fun | 3 => 1 | 4 => 2 | n => n⟩
theorem Tryd.lays160 : Go.Proofs.Lays.n160 Tryd.prog Tryd.lays160_ren := {
  mixed := by kernel_rfl
  f119 := Tryd.func114.trans (congrArg some (by kernel_rfl))
  f120 := Tryd.func112.trans (congrArg some (by kernel_rfl))
  f137 := Tryd.func113.trans (congrArg some (by kernel_rfl))
  f151 := Tryd.func108.trans (congrArg some (by kernel_rfl))
  f152 := Tryd.func111.trans (congrArg some (by kernel_rfl))
  f160 := Tryd.func96.trans (congrArg some (by kernel_rfl))
  f197 := Tryd.func107.trans (congrArg some (by kernel_rfl))
  f217 := Tryd.func117.trans (congrArg some (by kernel_rfl))
  f224 := Tryd.func115.trans (congrArg some (by kernel_rfl))
  f225 := Tryd.func116.trans (congrArg some (by kernel_rfl))
  f227 := Tryd.func101.trans (congrArg some (by kernel_rfl))
  f228 := Tryd.func106.trans (congrArg some (by kernel_rfl))
  f231 := Tryd.func99.trans (congrArg some (by kernel_rfl))
  f232 := Tryd.func100.trans (congrArg some (by kernel_rfl))
  f233 := Tryd.func102.trans (congrArg some (by kernel_rfl))
  f234 := Tryd.func103.trans (congrArg some (by kernel_rfl))
  f235 := Tryd.func104.trans (congrArg some (by kernel_rfl))
  f236 := Tryd.func105.trans (congrArg some (by kernel_rfl))
  f260 := Tryd.func110.trans (congrArg some (by kernel_rfl))
  f266 := Tryd.func118.trans (congrArg some (by kernel_rfl))
  f271 := Tryd.func109.trans (congrArg some (by kernel_rfl))
  t0 := Tryd.underlying0
  a0 := Tryd.isAgg0
  z0 := Tryd.sizeOf0
  v0 := Tryd.zeroValue0
  t3 := Tryd.underlying3
  a3 := Tryd.isAgg3
  z3 := Tryd.sizeOf3
  v3 := Tryd.zeroValue3
  t4 := Tryd.underlying4
  a4 := Tryd.isAgg4
  z4 := Tryd.sizeOf4
  v4 := Tryd.zeroValue4
  t5 := Tryd.underlying5
  a5 := Tryd.isAgg5
  z5 := Tryd.sizeOf5
  v5 := Tryd.zeroValue5
  t9 := Tryd.underlying9
  a9 := Tryd.isAgg9
  z9 := Tryd.sizeOf9
  v9 := Tryd.zeroValue9
  t21 := Tryd.underlying21
  a21 := Tryd.isAgg21
  z21 := Tryd.sizeOf21
  v21 := Tryd.zeroValue21
  t46 := Tryd.underlying141
  a46 := Tryd.isAgg141
  z46 := Tryd.sizeOf141
  v46 := Tryd.zeroValue141
  t105 := Tryd.underlying167
  a105 := Tryd.isAgg167
  z105 := Tryd.sizeOf167
  v105 := Tryd.zeroValue167
  t116 := Tryd.underlying161
  a116 := Tryd.isAgg161
  z116 := Tryd.sizeOf161
  t117 := Tryd.underlying162
  a117 := Tryd.isAgg162
  z117 := Tryd.sizeOf162
  v117 := Tryd.zeroValue162
  t119 := Tryd.underlying171
  a119 := Tryd.isAgg171
  z119 := Tryd.sizeOf171
  t124 := Tryd.underlying165
  a124 := Tryd.isAgg165
  z124 := Tryd.sizeOf165
  v124 := Tryd.zeroValue165
  t138 := Tryd.underlying173
  a138 := Tryd.isAgg173
  z138 := Tryd.sizeOf173
  v138 := Tryd.zeroValue173
  t139 := Tryd.underlying174
  a139 := Tryd.isAgg174
  z139 := Tryd.sizeOf174
  v139 := Tryd.zeroValue174
  g3 := by kernel_rfl
  g4 := by kernel_rfl }
open Go.RowKit in
theorem Tryd.strings_Trim_one (s : ByteArray) (c : UInt8) (hc : c.toNat < 128) (w : World) (hs : s.size ≤ 9223372036854775807) :
    Calls Tryd.prog 96 #[.string s, .string ⟨#[c]⟩] w fun e w' => e = .returned (.string ⟨(Lib.trimB s.data.toList c).toArray⟩) ∧ (w' = w ∨ w' = w.drew) := Any.strings_Trim_one Tryd.lays160 s c hc w hs
open Go.RowKit in
theorem Tryd.Builder_String_any_f (B b : Nat) (l : List UInt8) (w : World) (h : Lib.IsBuilderF 105 5 B b (Lib.byteCells l) w) (hBw : B ≤ w.heap.size) :
    Calls Tryd.prog 57 #[.pointer (some ⟨b, 0, none⟩)] w fun e w' => e = .returned (.string ⟨l.toArray⟩) ∧ (Lib.IsBuilderF 105 5 B b (Lib.byteCells l) w' ∧ Below B w w') := Any.Builder_String_any_f Tryd.lays169 Tryd.Builder_Extra_169 B b l w h hBw
open Go.RowKit in
theorem Tryd.Builder_String_any_k (B b : Nat) (l : List UInt8) (w : World) (h : Lib.IsBuilderF 105 5 B b (Lib.byteCells l) w) (hBw : B ≤ w.heap.size) :
    Calls Tryd.prog 57 #[.pointer (some ⟨b, 0, none⟩)] w fun e w' => e = .returned (.string ⟨l.toArray⟩) ∧ (Lib.IsBuilderF 105 5 B b (Lib.byteCells l) w' ∧ Below B w w' ∧ Lib.OthersKept 5 (some b) w w') := Any.Builder_String_any_k Tryd.lays169 Tryd.Builder_Extra_169 B b l w h hBw
def Tryd.lays206_ren : Go.Shelf.Ren := ⟨fun | 206 => 94 | n => n, fun | 9 => 9 | 4 => 4 | 3 => 3 | n => n, fun | n => n⟩
def Tryd.lays99_ren : Go.Shelf.Ren := ⟨fun | 99 => 81 | 206 => 94 | n => n, fun | 9 => 9 | 4 => 4 | 3 => 3 | n => n, fun | n => n⟩
theorem Tryd.lays99 : Go.Proofs.Lays.n99 Tryd.prog Tryd.lays99_ren := {
  mixed := by kernel_rfl
  f99 := Tryd.func81.trans (congrArg some (by kernel_rfl))
  f206 := Tryd.func94.trans (congrArg some (by kernel_rfl))
  t3 := Tryd.underlying3
  a3 := Tryd.isAgg3
  z3 := Tryd.sizeOf3
  v3 := Tryd.zeroValue3
  t4 := Tryd.underlying4
  a4 := Tryd.isAgg4
  z4 := Tryd.sizeOf4
  v4 := Tryd.zeroValue4
  t9 := Tryd.underlying9
  a9 := Tryd.isAgg9
  z9 := Tryd.sizeOf9
  v9 := Tryd.zeroValue9 }
open Go.RowKit Go.Lib in
theorem Tryd.strings_HasPrefix (s p : ByteArray) (w : World) :
    Calls Tryd.prog 81 #[.string s, .string p] w fun e w' => e = .returned (.bool (Lib.hasPrefix s.data.toList p.data.toList)) ∧ w' = w := Any.strings_HasPrefix Tryd.lays99 s p w
def Tryd.lays212_ren : Go.Shelf.Ren := ⟨fun | 212 => 80 | 263 => 92 | 264 => 93 | n => n, fun | 46 => 141 | 51 => 62 | 146 => 151 | 53 => 29 | 148 => 153 | n => n, fun | n => n⟩
theorem Tryd.lays212 : Go.Proofs.Lays.n212 Tryd.prog Tryd.lays212_ren := {
  mixed := by kernel_rfl
  f212 := Tryd.func80.trans (congrArg some (by kernel_rfl))
  f263 := Tryd.func92.trans (congrArg some (by kernel_rfl))
  f264 := Tryd.func93.trans (congrArg some (by kernel_rfl))
  t46 := Tryd.underlying141
  a46 := Tryd.isAgg141
  z46 := Tryd.sizeOf141
  v46 := Tryd.zeroValue141
  t51 := Tryd.underlying62
  a51 := Tryd.isAgg62
  z51 := Tryd.sizeOf62
  v51 := Tryd.zeroValue62
  t53 := Tryd.underlying29
  a53 := Tryd.isAgg29
  z53 := Tryd.sizeOf29
  v53 := Tryd.zeroValue29
  t146 := Tryd.underlying151
  a146 := Tryd.isAgg151
  z146 := Tryd.sizeOf151
  v146 := Tryd.zeroValue151
  t148 := Tryd.underlying153
  a148 := Tryd.isAgg153
  z148 := Tryd.sizeOf153
  v148 := Tryd.zeroValue153 }
open Go.RowKit Go.Lib in
theorem Tryd.bits_Mul (x y : Nat) (hx : x < 18446744073709551616) (hy : y < 18446744073709551616) (w : World) :
    Calls Tryd.prog 80 #[.int .u64 x, .int .u64 y] w fun e w' => e = .returned (.tuple #[.int .u64 ((x * y / 18446744073709551616 : Nat) : Int), .int .u64 ((x * y % 18446744073709551616 : Nat) : Int)]) ∧ w' = w := Any.bits_Mul Tryd.lays212 x y hx hy w
def Tryd.laysNm216_ren : Go.Shelf.Ren := ⟨fun | 16 => 45 | n => n, fun | 24 => 22 | 9 => 9 | 4 => 4 | n => n, fun | n => n⟩
theorem Tryd.laysNm216 : Go.Proofs.Lays2.n16 Tryd.prog Tryd.laysNm216_ren := {
  mixed := by kernel_rfl
  f16 := Tryd.func45.trans (congrArg some (by kernel_rfl))
  t4 := Tryd.underlying4
  a4 := Tryd.isAgg4
  z4 := Tryd.sizeOf4
  v4 := Tryd.zeroValue4
  t9 := Tryd.underlying9
  a9 := Tryd.isAgg9
  z9 := Tryd.sizeOf9
  v9 := Tryd.zeroValue9
  t24 := Tryd.underlying22
  a24 := Tryd.isAgg22
  z24 := Tryd.sizeOf22
  v24 := Tryd.zeroValue22
  i9 := by kernel_rfl }
open Go.RowKit Go.Lib in
theorem Tryd.slices_Clone_string (b off n c : Nat) (zs : List ByteArray) (w : World) (hz : n ≤ zs.length) (hbig : n * 16 ≤ 140737488355328) (hc : ∀ j, j < zs.length → w.cell? ⟨b, off + j, none⟩ = some (.string (zs.getD j ByteArray.empty))) :
    Calls Tryd.prog 45 #[.slice (some ⟨b, off, none⟩) n c] w fun e w' => ∃ v', e = .returned v' ∧ w'.ownsRow w.heap.size 9 1 v' n ((zs.take n).map (Value.string)) ∧ v' ≠ .slice none 0 0 ∧ Below w.heap.size w w' := Any.slices_Clone_string Tryd.laysNm216 b off n c zs w hz hbig hc
end Go.Proofs
namespace Go.Proofs.YtknbhgodhmcemaaDoor.Bld
set_option linter.unusedSimpArgs false
set_option linter.unusedVariables false
open Go.RowKit
theorem sizeB : (Tryd.prog.info? 105).map (·.size) = some 2 := by kernel_rfl
theorem liesB : liesAt Tryd.prog Tryd.prog.depth 105 (2 / Tryd.prog.cellsOf 105) 0 105 1 = true := by kernel_rfl
theorem infoByte : (Tryd.prog.info? 5).map (fun i => (i.zero, i.size, i.bytes)) = some (some (.int .u8 0), 1, 1) := by kernel_rfl
set_option maxHeartbeats 1000000 in
set_option maxRecDepth 100000 in
theorem copyCheck_used (b : Nat) (w : World) (h0 : w.cell? ⟨b, 0, none⟩ = some (.pointer (some ⟨b, 0, none⟩))) :
    Calls Tryd.prog 86 #[.pointer (some ⟨b, 0, none⟩)] w fun e w' => e = .returned (.tuple #[]) ∧ w' = w := by
  obtain ⟨j, hj, _⟩ := Option.map_eq_some_iff.1 sizeB
  go_enter Tryd.func86, Tryd.ntmps86
  go_wp2
  try rw [Lib.run_neq_ptr_same w _ Tryd.underlying102 hj]
  go_wp2
  go_end0
  exact ⟨rfl, rfl⟩
set_option maxHeartbeats 1000000 in
set_option maxRecDepth 100000 in
theorem copyCheck_fresh (b : Nat) (w : World) (h0 : w.cell? ⟨b, 0, none⟩ = some (.pointer none)) (hsh : w.shape? b = some (105, 2)) (hfz : w.frozen? ⟨b, 0, none⟩ = false) :
    Calls Tryd.prog 86 #[.pointer (some ⟨b, 0, none⟩)] w fun e w' => e = .returned (.tuple #[]) ∧ w' = w.setCell ⟨b, 0, none⟩ (.pointer (some ⟨b, 0, none⟩)) := by
  obtain ⟨j, hj, hjs⟩ := Option.map_eq_some_iff.1 sizeB
  go_enter Tryd.func86, Tryd.ntmps86
  go_wp2
  rw [Lib.run_to_unsafe w ⟨b, 0, none⟩ Tryd.underlying102 Tryd.underlying156 hj (by rw [hjs]; decide) hsh (Nat.zero_lt_succ 1)]
  simp only [Result.andThen]
  rw [Oper.upon_value]
  go_wp2
  rw [run_callFunc_extern Tryd.func97 (by kernel_rfl) (by kernel_rfl) (by kernel_rfl) (e := Extern.AbiNoEscape.same) (by kernel_rfl)]
  rw [Lib.run_noEscape]
  simp only [Result.andThen]
  rw [Oper.upon_value]
  go_wp2
  rw [Lib.run_from_unsafe w ⟨b, 0, none⟩ Tryd.underlying156 Tryd.underlying102 hj hsh liesB]
  simp only [Result.andThen]
  rw [Oper.upon_value]
  go_wp2
  go_end0
  exact ⟨rfl, rfl⟩
theorem copyCheck (B b : Nat) (bs : List Value) (w : World) (h : Lib.IsBuilderF 105 5 B b bs w) :
    Calls Tryd.prog 86 #[.pointer (some ⟨b, 0, none⟩)] w fun e w' => e = .returned (.tuple #[]) ∧ (Lib.BuilderAtF 105 5 B b (.pointer (some ⟨b, 0, none⟩)) bs w' ∧ Below B w w' ∧ Lib.OthersKept 5 (some b) w w') := by
  rcases h with h | h
  · refine (copyCheck_fresh b w h.cell0 h.shape h.frozen0).mono ?_
    rintro e w' ⟨rfl, rfl⟩
    exact ⟨rfl, h.used _, (Below.refl B w).setCell (p := ⟨b, 0, none⟩) h.1 _, (Lib.OthersKept.refl _ _ w).setCell ⟨b, 0, none⟩ rfl _⟩
  · refine (copyCheck_used b w h.cell0).mono ?_
    rintro e w' ⟨rfl, rfl⟩
    exact ⟨rfl, h, Below.refl B _, Lib.OthersKept.refl _ _ _⟩
set_option maxHeartbeats 2000000 in
set_option maxRecDepth 100000 in
theorem writeString (B b : Nat) (bs : List Value) (s : ByteArray) (w : World) (h : Lib.IsBuilderF 105 5 B b bs w) (hlen : bs.length + s.size ≤ 140737488355328) (hBw : B ≤ w.heap.size) :
    Calls Tryd.prog 55 #[.pointer (some ⟨b, 0, none⟩), .string s] w fun e w' => e = .returned (.tuple #[.int .i64 s.size, .nilIface]) ∧ (Lib.BuilderAtF 105 5 B b (.pointer (some ⟨b, 0, none⟩)) (bs ++ Lib.strCells s) w' ∧ Below B w w' ∧ Lib.OthersKept 5 (some b) w w') := by
  obtain ⟨i0, hi, hz0, hz1, hz2⟩ := info_parts infoByte
  go_enter Tryd.func55, Tryd.ntmps55
  go_wp2_with fail
  refine (copyCheck B b bs _ h).mono ?_
  rintro e w1 ⟨rfl, h1, hb1, hk1⟩
  obtain ⟨hB, v, hbk, hown, hne⟩ := h1
  have c0 : w1.cell? ⟨b, 0, none⟩ = some (.pointer (some ⟨b, 0, none⟩)) := by rw [Lib.cell_of_heap hbk]; rfl
  have c1 : w1.cell? ⟨b, 1, none⟩ = some v := by rw [Lib.cell_of_heap hbk]; rfl
  go_wp2_with (at_builtin; refine Lib.wpList_append_own_stringF _ rfl _ _ 103 9 rfl B 5 i0 Tryd.underlying103 Tryd.underlying9 hi hz0 hz1 hz2 _ _ _ rfl hown s rfl ?c3 ?c4 ?c5 ?_)
  case c3 => unfold maxLen; omega
  case c4 => omega
  case c5 => have := hb1.size; omega
  intro v' w2 hown' hgrow _
  have hlt : b < w1.heap.size := by
    rcases Nat.lt_or_ge b w1.heap.size with h' | h'
    · exact h'
    · simp [Array.getElem?_eq_none h'] at hbk
  have hb2 : w2.heap[b]? = some (.cells #[.pointer (some ⟨b, 0, none⟩), v] 105 (0, 0)) := by
    rw [hgrow.block b hlt (fun e => hne e.symm)]
    exact hbk
  have d0 : w2.cell? ⟨b, 0, none⟩ = some (.pointer (some ⟨b, 0, none⟩)) := by rw [Lib.cell_of_heap hb2]; rfl
  have d1 : w2.cell? ⟨b, 1, none⟩ = some v := by rw [Lib.cell_of_heap hb2]; rfl
  have f1 : w2.frozen? ⟨b, 1, none⟩ = false := Lib.frozen_of_heap hb2 1
  obtain ⟨ao, n', cap, rfl⟩ : ∃ ao n' cap, v' = .slice ao n' cap := by
    rcases hown'.2 with ⟨hv, _⟩ | ⟨g, cap, cur, fz, hv, _⟩
    · exact ⟨_, _, _, hv⟩
    · exact ⟨_, _, _, hv⟩
  go_wp2
  go_ret2
  refine ⟨rfl, ?_, ?_, (hk1.grown hgrow (Lib.ownsRowF_kind hown)).setCell ⟨b, 1, none⟩ rfl _⟩
  · exact Lib.BuilderAtF.put (T := 105) (e := 5) hB hb2 (bs' := bs ++ Lib.strCells s) (by simpa [Lib.strCells_length] using hown') (by decide)
  · exact (hb1.grown hgrow (by have := hb1.size; omega) (fun k hk => (hown.lt k hk).1)).setCell (p := ⟨b, 1, none⟩) hB _
set_option maxHeartbeats 2000000 in
set_option maxRecDepth 100000 in
theorem writeByte (B b : Nat) (bs : List Value) (c : Int) (w : World) (h : Lib.IsBuilderF 105 5 B b bs w) (hlen : bs.length + 1 ≤ 140737488355328) (hBw : B ≤ w.heap.size) :
    Calls Tryd.prog 65 #[.pointer (some ⟨b, 0, none⟩), .int .u8 c] w fun e w' => e = .returned .nilIface ∧ (Lib.BuilderAtF 105 5 B b (.pointer (some ⟨b, 0, none⟩)) (bs ++ [.int .u8 c]) w' ∧ Below B w w' ∧ Lib.OthersKept 5 (some b) w w') := by
  obtain ⟨i0, hi, hz0, hz1, hz2⟩ := info_parts infoByte
  go_enter Tryd.func65, Tryd.ntmps65
  go_wp2_with fail
  refine (copyCheck B b bs _ h).mono ?_
  rintro e w1 ⟨rfl, h1, hb1, hk1⟩
  obtain ⟨hB, v, hbk, hown, hne⟩ := h1
  have c0 : w1.cell? ⟨b, 0, none⟩ = some (.pointer (some ⟨b, 0, none⟩)) := by rw [Lib.cell_of_heap hbk]; rfl
  have c1 : w1.cell? ⟨b, 1, none⟩ = some v := by rw [Lib.cell_of_heap hbk]; rfl
  go_wp2_with (at_builtin; refine wpList_append_ownF _ rfl _ _ 103 rfl B 5 i0 (.int .u8 0) 1 1 Tryd.underlying103 hi hz0 hz1 hz2 rfl (by decide) _ _ _ rfl (hown.alloc _) ⟨w1.heap.size, 0, none⟩ 1 1 [.int .u8 c] rfl rfl ?c1 ?c2 ?c3 ?c4 ?c5 ?_)
  case c1 =>
    intro j u hj
    match j, hj with
    | 0, hj => simp at hj; subst hj; simp [Addr.add]
  case c2 => intro u hu; simp at hu; subst hu; rfl
  case c3 => unfold maxLen; omega
  case c4 => omega
  case c5 => have := hb1.size; simp; omega
  intro v' w2 hown' hgrow _
  have hlt : b < w1.heap.size := by
    rcases Nat.lt_or_ge b w1.heap.size with h' | h'
    · exact h'
    · simp [Array.getElem?_eq_none h'] at hbk
  have hb2 : w2.heap[b]? = some (.cells #[.pointer (some ⟨b, 0, none⟩), v] 105 (0, 0)) := by
    rw [hgrow.block b (by simp; omega) (fun e => hne e.symm), Lib.alloc_old w1 _ b hlt]
    exact hbk
  have d0 : w2.cell? ⟨b, 0, none⟩ = some (.pointer (some ⟨b, 0, none⟩)) := by rw [Lib.cell_of_heap hb2]; rfl
  have d1 : w2.cell? ⟨b, 1, none⟩ = some v := by rw [Lib.cell_of_heap hb2]; rfl
  have f1 : w2.frozen? ⟨b, 1, none⟩ = false := Lib.frozen_of_heap hb2 1
  obtain ⟨g, cap, rfl⟩ : ∃ g cap, v' = .slice (some ⟨g, 0, none⟩) (bs.length + 1) cap := by
    rcases hown'.2 with ⟨_, h0⟩ | ⟨g, cap, cur, fz, hv, _⟩
    · omega
    · exact ⟨g, cap, hv⟩
  go_wp2
  go_ret
  refine ⟨rfl, ?_, ?_, ((hk1.alloc _).grown hgrow (Lib.ownsRowF_kind (hown.alloc _))).setCell ⟨b, 1, none⟩ rfl _⟩
  · exact Lib.BuilderAtF.put (T := 105) (e := 5) hB hb2 (bs' := bs ++ [.int .u8 c]) (by simpa using hown') (by decide)
  · exact ((hb1.alloc (by have := hb1.size; omega) _).grown hgrow (by have := hb1.size; simp; omega) (fun k hk => (hown.lt k hk).1)).setCell (p := ⟨b, 1, none⟩) hB _
set_option maxHeartbeats 1000000 in
set_option maxRecDepth 100000 in
theorem len (B b : Nat) (bs : List Value) (w : World) (h : Lib.IsBuilderF 105 5 B b bs w) :
    Calls Tryd.prog 66 #[.pointer (some ⟨b, 0, none⟩)] w fun e w' => e = .returned (.int .i64 bs.length) ∧ w' = w := by
  obtain ⟨p, hB, v, hbk, hown, hne⟩ : ∃ p, Lib.BuilderAtF 105 5 B b p bs w := by
    rcases h with h | h
    · exact ⟨_, h⟩
    · exact ⟨_, h⟩
  obtain ⟨ao, cap, rfl⟩ : ∃ ao cap, v = .slice ao bs.length cap := by
    rcases hown.2 with ⟨hv, h0⟩ | ⟨g, cap, cur, fz, hv, _⟩
    · exact ⟨none, 0, by rw [hv, h0]⟩
    · exact ⟨_, _, hv⟩
  have c1 : w.cell? ⟨b, 1, none⟩ = some (.slice ao bs.length cap) := by rw [Lib.cell_of_heap hbk]; rfl
  go_enter Tryd.func66, Tryd.ntmps66
  go_wp2
  go_ret
  exact ⟨rfl, rfl⟩
theorem builderAt_below {T e : TypeId} {B b : Nat} {p : Value} {bs : List Value} {W W' : World} (h : Lib.BuilderAtF T e B b p bs W) (hb : Below W.heap.size W W') : Lib.BuilderAtF T e B b p bs W' := by
  have hlt := h.lt
  obtain ⟨hB, v, hv, hown, hne⟩ := h
  exact ⟨hB, v, (hb.block b hlt).trans hv, hown.kept (row := none) ⟨hb.os, hb.tape, hb.output, hb.size, fun k hk _ => hb.block k hk⟩ (Classical.em _), hne⟩
theorem builder_below {T e : TypeId} {B b : Nat} {bs : List Value} {W W' : World} (h : Lib.IsBuilderF T e B b bs W) (hb : Below W.heap.size W W') : Lib.IsBuilderF T e B b bs W' :=
  h.elim (fun x => .inl (builderAt_below x hb)) (fun x => .inr (builderAt_below x hb))
end Go.Proofs.YtknbhgodhmcemaaDoor.Bld
namespace Go.Proofs.YtknbhgodhmcemaaDoor.Rep
set_option linter.unusedSimpArgs false
set_option linter.unusedVariables false
open Go.RowKit Go.Lib
theorem run_min_int3 {P : Program} {w : World} (ts : Array TypeId) (t : TypeId) (k k' k'' : IntKind) (x y z : Int) :
    (Builtin.min_ ts t #[.int k x, .int k' y, .int k'' z]).run P w = .ok (.int k (if z < (if y < x then y else x) then z else (if y < x then y else x))) w := by
  simp [Builtin.min_, Builtin.min2]
set_option maxHeartbeats 1600000 in
set_option maxRecDepth 1000000 in
theorem repeat_main (s : ByteArray) (c : Nat) (w : World) (hc2 : 2 ≤ c) (hc : c ≤ 9223372036854775807) (hlen : s.size * c ≤ 140737488355328) (h0 : 0 < s.size) :
    Calls Tryd.prog 44 #[.string s, .int .i64 c] w fun e w' => e = .returned (.string ⟨(Lib.repeatL s.data.toList c).toArray⟩) ∧ Below w.heap.size w w' := by
  have hsz : s.size ≤ 140737488355328 := Nat.le_trans (Nat.le_mul_of_pos_right _ (by omega)) hlen
  have hMul := Tryd.bits_Mul s.size c (by omega) (by omega) w
  rw [Nat.div_eq_of_lt (by omega : s.size * c < 18446744073709551616), Nat.mod_eq_of_lt (by omega : s.size * c < 18446744073709551616)] at hMul
  obtain ⟨n, hn⟩ : ∃ n, s.size * c = n := ⟨_, rfl⟩
  rw [hn] at hMul hlen
  have HN : Aside (s.size * c = n) := hn
  clear hn
  have hq8 : wrap64 (8192 / (s.size : Int) * (s.size : Int)) = ((8192 / s.size * s.size : Nat) : Int) := by
    have e : (8192 : Int) / (s.size : Int) * (s.size : Int) = ((8192 / s.size * s.size : Nat) : Int) := by
      rw [Int.natCast_mul, Int.natCast_ediv]
      rfl
    have hle : 8192 / s.size * s.size ≤ 8192 := Nat.div_mul_le_self 8192 s.size
    rw [e]
    unfold wrap64
    omega
  go_enter Tryd.func44, Tryd.ntmps44
  go_upto_block 1 with (go_at_call 80; refine hMul.mono ?_; rintro e w' ⟨rfl, hw⟩; rw [hw])
  clear hMul
  go_cut [] (fun wx => w = wx)
  case first =>
    go_upto_if 43 with fail
    go_cut [43] (fun s43 wx => w = wx ∧ ∃ B : Bool, s43 = .bool B)
    case first =>
      go_wp2
      all_goals (go_meet; exact ⟨rfl, _, rfl⟩)
    case rest =>
      obtain ⟨rfl, B, rfl⟩ := hcut
      cases B
      · go_wp2
        go_meet
        rfl
      · go_wp2_with (go_at_call 81; refine (Tryd.strings_HasPrefix _ _ _).mono ?_; rintro e w' ⟨rfl, hw⟩; rw [hw])
        all_goals (first
          | (go_meet; rfl)
          | (go_ret; first
              | exact ⟨by rw [Lib.fast_ok _ 32 128 (by rfl) s c n HN.out (by omega) (by assumption)] <;> rfl, Below.refl _ _⟩
              | exact ⟨by rw [Lib.fast_ok _ 45 128 (by rfl) s c n HN.out (by omega) (by assumption)] <;> rfl, Below.refl _ _⟩
              | exact ⟨by rw [Lib.fast_ok _ 48 64 (by rfl) s c n HN.out (by omega) (by assumption)] <;> rfl, Below.refl _ _⟩
              | exact ⟨by rw [Lib.fast_ok _ 61 128 (by rfl) s c n HN.out (by omega) (by assumption)] <;> rfl, Below.refl _ _⟩
              | exact ⟨by rw [Lib.fast_ok _ 9 64 (by rfl) s c n HN.out (by omega) (by assumption)] <;> rfl, Below.refl _ _⟩))
  case rest =>
    obtain rfl := hcut
    go_upto_if 96 with fail
    go_cut [8] (fun s8 wx => w = wx ∧ ∃ m : Nat, 1 ≤ m ∧ s8 = .int .i64 ((m * s.size : Nat) : Int))
    case first =>
      go_wp2
      · go_meet
        exact ⟨rfl, 1, Nat.le_refl _, by rw [Nat.one_mul]⟩
      · go_meet
        refine ⟨rfl, 8192 / s.size, ?_, by rw [hq8]⟩
        rcases Nat.eq_zero_or_pos (8192 / s.size) with hz | hz
        · rename_i hne
          have e0 : (8192 : Int) / (s.size : Int) = ((8192 / s.size : Nat) : Int) := by rw [Int.natCast_ediv]; rfl
          first | rw [hq8, hz] at hne | rw [e0, hz] at hne
          simp at hne
        · exact hz
      · go_meet
        exact ⟨rfl, c, by omega, by rw [Nat.mul_comm, HN.out]⟩
    case rest =>
      obtain ⟨rfl, m, hm1, rfl⟩ := hcut
      clear hq8
      obtain ⟨CM, hCM⟩ : ∃ CM, m * s.size = CM := ⟨_, rfl⟩
      rw [hCM]
      have HCM : Aside (m * s.size = CM) := hCM
      clear hCM
      have b0 : Below w.heap.size w (w.alloc (.cells #[.pointer none, .slice none 0 0] 105)) := (Below.refl _ w).alloc (Nat.le_refl _) _
      have cG := Tryd.Builder_Grow_fresh w.heap.size w.heap.size n (w.alloc (.cells #[.pointer none, .slice none 0 0] 105)) (Nat.le_refl _) (heap_alloc_new w _) b0.size (by omega)
      go_wp2_with (go_at_call 82; refine cG.mono ?_; rintro e W1 ⟨rfl, h1, b1⟩)
      clear cG
      have cW := Bld.writeString w.heap.size w.heap.size [] s W1 (Lib.IsBuilderF.of (Or.inr h1)) (by simp; omega) (Nat.le_trans b0.size b1.size)
      go_wp2_with (go_at_call 55; refine cW.mono ?_; rintro e W2 ⟨rfl, h2, b2, _⟩)
      clear cW h1
      have h2' : Lib.IsBuilderF 105 5 w.heap.size w.heap.size (Lib.byteCells (Lib.repeatL s.data.toList 1)) W2 := by
        rw [List.nil_append, Lib.strCells_eq] at h2
        rw [Lib.repeatL_one]
        exact Or.inr h2
      have b02 : Below w.heap.size w W2 := b0.trans (b1.trans b2)
      clear h2 b0 b1 b2
      go_loopg [] (c - 1) (fun g wx => ∃ q : Nat, 1 ≤ q ∧ q + g = c ∧ Lib.IsBuilderF 105 5 w.heap.size w.heap.size (Lib.byteCells (Lib.repeatL s.data.toList q)) wx ∧ Below w.heap.size w wx)
      case atStart => exact ⟨1, Nat.le_refl _, by omega, h2', b02⟩
      case round =>
        obtain ⟨q, hq1, hqg, hB, hbx⟩ := hrel
        obtain ⟨Q, hQ⟩ : ∃ Q, q * s.size = Q := ⟨_, rfl⟩
        have hlq : (Lib.byteCells (Lib.repeatL s.data.toList q)).length = Q := by rw [Lib.byteCells_length, Lib.repeatL_length, ← Lib.size_eq, hQ]
        have cLen := Bld.len w.heap.size w.heap.size _ wr hB
        rw [hlq] at cLen
        have hnc : c * s.size = n := by rw [Nat.mul_comm]; exact HN.out
        obtain ⟨S, hS⟩ : ∃ S : ByteArray, (⟨(Lib.repeatL s.data.toList q).toArray⟩ : ByteArray) = S := ⟨_, rfl⟩
        have hSd : S.data.toList = Lib.repeatL s.data.toList q := by rw [← hS]
        have hSz : S.size = Q := by rw [Lib.size_eq, hSd, Lib.repeatL_length, ← Lib.size_eq, hQ]
        have cStr := Tryd.Builder_String_any_f w.heap.size w.heap.size (Lib.repeatL s.data.toList q) wr hB hbx.size
        rw [hS] at cStr
        cases gk with
        | zero =>
          obtain rfl : q = c := by omega
          have hQn : ¬ ((Q : Int) < (n : Int)) := by omega
          go_wp2_with (first
            | (go_at_call 66; refine cLen.mono ?_; rintro e w' ⟨rfl, hw⟩; rw [hw])
            | (go_at_call 57; refine cStr.mono ?_; rintro e W3 ⟨rfl, h3, b3⟩))
          go_ret
          exact ⟨by rw [hS] <;> rfl, hbx.trans b3⟩
        | succ g =>
          have hqc : q < c := by omega
          obtain ⟨k, hk1, hkq, hkc, hmin⟩ := Lib.chunk_ok c q m s.size hq1 hqc hm1
          rw [hnc, hQ, HCM.out] at hmin
          obtain ⟨CH, hCH⟩ : ∃ CH, k * s.size = CH := ⟨_, rfl⟩
          rw [hCH] at hmin
          have hQn : (Q : Int) < (n : Int) := by
            have h1 : (q + 1) * s.size ≤ c * s.size := Nat.mul_le_mul_right _ hqc
            rw [Nat.succ_mul, hQ, hnc] at h1
            omega
          have hCHQ : CH ≤ Q := by rw [← hCH, ← hQ]; exact Nat.mul_le_mul_right _ hkq
          have hsum : Q + CH ≤ n := by
            have h1 : (q + k) * s.size ≤ c * s.size := Nat.mul_le_mul_right _ hkc
            rw [Nat.add_mul, hQ, hCH, hnc] at h1
            exact h1
          have hmin3 : ∀ (ts : Array TypeId) (t : TypeId) (W : World), (Builtin.min_ ts t #[.int .i64 ((n : Int) - (Q : Int)), .int .i64 (Q : Int), .int .i64 (CM : Int)]).run Tryd.prog W = .ok (.int .i64 (CH : Int)) W := fun ts t W => by
            rw [run_min_int3]
            congr 2
            rw [← hmin]
            omega
          clear hmin
          go_wp2_with (first
            | (go_at_call 66; refine cLen.mono ?_; rintro e w' ⟨rfl, hw⟩; rw [hw])
            | (go_at_call 57; refine cStr.mono ?_; rintro e W3 ⟨rfl, h3, b3⟩))
          have cWr := Bld.writeString w.heap.size w.heap.size _ (S.extract 0 CH) W3 h3 (by
            rw [hlq, Lib.size_eq, Lib.extract_data, hSd]
            simp only [List.drop_zero, Nat.sub_zero, List.length_take, Lib.repeatL_length]
            omega) (Nat.le_trans hbx.size b3.size)
          go_wp2_with (go_at_call 55; refine cWr.mono ?_; rintro e W4 ⟨rfl, h4, b4, _⟩)
          go_roundg (c - (q + k))
          case measure => omega
          case rel =>
            refine ⟨q + k, by omega, by omega, Or.inr ?_, hbx.trans (b3.trans b4)⟩
            rw [Lib.strCells_eq, ← Lib.byteCells_append, Lib.extract_data, hSd] at h4
            simp only [List.drop_zero, Nat.sub_zero] at h4
            rw [← hCH, Lib.size_eq, Lib.step_ok _ _ _ hkq] at h4
            exact h4
set_option maxRecDepth 1000000 in
theorem repeat_zero (s : ByteArray) (w : World) :
    Calls Tryd.prog 44 #[.string s, .int .i64 0] w fun e w' => e = .returned (.string ⟨#[]⟩) ∧ w' = w := by
  go_enter Tryd.func44, Tryd.ntmps44
  go_wp2
  go_ret
  exact ⟨rfl, rfl⟩
set_option maxRecDepth 1000000 in
theorem repeat_one (s : ByteArray) (w : World) :
    Calls Tryd.prog 44 #[.string s, .int .i64 1] w fun e w' => e = .returned (.string s) ∧ w' = w := by
  go_enter Tryd.func44, Tryd.ntmps44
  go_wp2
  go_ret
  exact ⟨rfl, rfl⟩
theorem repeat_calls (s : ByteArray) (c : Nat) (w : World) (hc : c ≤ 9223372036854775807) (hlen : s.size * c ≤ 140737488355328) (h0 : 0 < s.size) :
    Calls Tryd.prog 44 #[.string s, .int .i64 c] w fun e w' => e = .returned (.string ⟨(Lib.repeatL s.data.toList c).toArray⟩) ∧ Below w.heap.size w w' := by
  match c, hc, hlen with
  | 0, _, _ => exact (repeat_zero s w).mono fun e w' ⟨he, hw⟩ => ⟨he, hw ▸ Below.refl _ _⟩
  | 1, _, _ => exact (repeat_one s w).mono fun e w' ⟨he, hw⟩ => ⟨by rw [he, Lib.repeatL_one, Lib.mk_data], hw ▸ Below.refl _ _⟩
  | c + 2, hc, hlen => exact repeat_main s (c + 2) w (by omega) hc hlen h0
end Go.Proofs.YtknbhgodhmcemaaDoor.Rep
namespace Go.Proofs.YtknbhgodhmcemaaDoor.Dk
set_option linter.unusedSimpArgs false
set_option linter.unusedVariables false
set_option maxRecDepth 100000
open Go.RowKit Go.Proofs.YtknbhgodhmcemaaDoor.Own Go.Proofs.YtknbhgodhmcemaaDoor.Cel
theorem owns_mono {W : World} {base base' : Nat} {e : TypeId} {sz n : Nat} {v : Value} {xs : List Value} (h : W.ownsRow base e sz v n xs) (hb : base' ≤ base) : W.ownsRow base' e sz v n xs := by
  refine ⟨h.1, ?_⟩
  rcases h.2 with h' | ⟨g, cap, cur, rfl, h1, h2⟩
  · exact .inl h'
  · exact .inr ⟨g, cap, cur, rfl, Nat.le_trans hb h1, h2⟩
theorem infoS : (Tryd.prog.info? 9).map (fun i => (i.zero, i.size, i.bytes)) = some (some (.string ⟨#[]⟩), 1, 16) := by kernel_rfl
def NB (w : World) (j : Nat) (lv : Value) (W : World) : Prop :=
  Below w.heap.size w W ∧ W.heap[w.heap.size + 1]? = some (.cells #[lv, .slice none 0 0, .map (some w.heap.size), .int .i64 0, .int .i64 0, .slice none 0 0] 92 (0, 0)) ∧
    W.ownsRow (w.heap.size + 2) 9 1 lv j (strs (List.replicate j (sect 0))) ∧ W.heap[w.heap.size]? = some (.map #[] 0)
theorem NB.step {w W W' : World} {j : Nat} {lv : Value} (h : NB w j lv W) (hb : Below W.heap.size W W') : NB w j lv W' :=
  ⟨h.1.trans (hb.mono h.1.size), keep h.2.1 hb, owns_keep h.2.2.1 hb, keep h.2.2.2 hb⟩
theorem NB.cell {w W : World} {j : Nat} {lv : Value} (h : NB w j lv W) (k : Nat) : W.cell? ⟨w.heap.size + 1, k, none⟩ = #[lv, .slice none 0 0, .map (some w.heap.size), .int .i64 0, .int .i64 0, .slice none 0 0][k]? := cell_of_row _ _ _ _ _ _ h.2.1
theorem NB.frozen {w W : World} {j : Nat} {lv : Value} (h : NB w j lv W) (k : Nat) : W.frozen? ⟨w.heap.size + 1, k, none⟩ = false := frozen_of_row W _ k _ _ h.2.1
theorem NB.size {w W : World} {j : Nat} {lv : Value} (h : NB w j lv W) : w.heap.size + 2 ≤ W.heap.size := (Array.getElem?_eq_some_iff.1 h.2.1).1
theorem NB.grown {w W W' : World} {j : Nat} {lv : Value} (h : NB w j lv W) (hg : W.grownBy W' lv.ownBlock) :
    Below w.heap.size w W' ∧ W'.heap[w.heap.size + 1]? = some (.cells #[lv, .slice none 0 0, .map (some w.heap.size), .int .i64 0, .int .i64 0, .slice none 0 0] 92 (0, 0)) ∧ W'.heap[w.heap.size]? = some (.map #[] 0) := by
  have hs := h.size
  have hl := fun k (e : lv.ownBlock = some k) => (h.2.2.1.lt k e).1
  refine ⟨h.1.grown hg h.1.size (fun k e => by have := hl k e; omega), (hg.block _ (by omega) (fun e => ?_)).trans h.2.1, (hg.block _ (by omega) (fun e => ?_)).trans h.2.2.2⟩
  · have := hl _ e.symm; omega
  · have := hl _ e.symm; omega
theorem NB.put {w W' : World} {lv lv' : Value} {j : Nat}
    (h : Below w.heap.size w W' ∧ W'.heap[w.heap.size + 1]? = some (.cells #[lv, .slice none 0 0, .map (some w.heap.size), .int .i64 0, .int .i64 0, .slice none 0 0] 92 (0, 0)) ∧ W'.heap[w.heap.size]? = some (.map #[] 0))
    (ho : W'.ownsRow (w.heap.size + 2) 9 1 lv' j (strs (List.replicate j (sect 0)))) : NB w j lv' (W'.setCell ⟨w.heap.size + 1, 0, none⟩ lv') := by
  refine ⟨h.1.setCell (by show w.heap.size ≤ w.heap.size + 1; omega) _, heap_setCell_same W' _ 0 _ _ lv' h.2.1, owns_block ho (fun g e => set_other _ _ _ _ ?_), (set_other _ _ _ _ ?_).trans h.2.2⟩
  · have := (ho.lt g e).1
    show g ≠ w.heap.size + 1
    omega
  · show w.heap.size ≠ w.heap.size + 1
    omega
theorem map_new {W : World} {b : Nat} (h : W.heap[b]? = some (.map #[] 0)) : W.ownsMap (H := Unit) Tryd.prog 3 (plainElem Tryd.prog 3) b 0 (.map []) :=
  ⟨#[], 0, h, ⟨by simp, Go.MapKept.stamped_empty 0, by simp⟩, Nat.le_refl _, rfl⟩
set_option maxHeartbeats 1000000 in
theorem new_good (n : Nat) (w : World) (h1 : 1 ≤ n) (h2 : n ≤ 4096) : Calls Tryd.prog 10 #[.int .i64 (n : Nat)] w fun e w' => ∃ p F, e = .returned (.tuple #[.pointer (some ⟨p, 0, none⟩), .int .i64 0]) ∧
    DK w.heap.size p ⟨List.replicate n (sect 0), [], 0, 0⟩ F w' ∧ Below w.heap.size w w' := by
  obtain ⟨i0, hi0, hz0, hz1, hz2⟩ := info_parts infoS
  have a1 : (1 : Int) ≤ (n : Int) := by omega
  have a2 : (n : Int) ≤ 4096 := by omega
  have KR := Aside0.mk (fun V => Go.Proofs.YtknbhgodhmcemaaDoor.Rep.repeat_calls ⟨#[0]⟩ 128 V (by omega) (by decide) (by decide))
  rw [show (⟨(Lib.repeatL (⟨#[0]⟩ : ByteArray).data.toList 128).toArray⟩ : ByteArray) = sect 0 by decide +kernel] at KR
  have HN := Aside0.mk (show NB w 0 (.slice none 0 0) ((w.alloc (.map #[] 0)).alloc (.cells #[.slice none 0 0, .slice none 0 0, .map (some w.heap.size), .int .i64 0, .int .i64 0, .slice none 0 0] 92)) from
    ⟨((Below.refl _ _).alloc (Nat.le_refl _) _).alloc (by simp) _, by have := heap_alloc_new (w.alloc (.map #[] 0)) (.cells #[.slice none 0 0, .slice none 0 0, .map (some w.heap.size), .int .i64 0, .int .i64 0, .slice none 0 0] 92); simpa using this,
      World.ownsRow_nil _ _ _ _, keep (heap_alloc_new w (.map #[] 0)) ((Below.refl _ _).alloc (Nat.le_refl _) _)⟩)
  have hmm := @run_makeMap Tryd.prog
  go_enter Tryd.func10, Tryd.ntmps10
  go_wp2_with fail
  clear hmm
  refine (KR.out _).mono ?_
  rintro x w1 ⟨rfl, hb⟩
  replace HN := Aside0.mk (HN.out.step hb)
  clear hb KR
  go_wp2_with fail
  go_loopw [17] (fun i W => ∃ (j : Nat) (lv : Value), i = .int .i64 j ∧ j ≤ n ∧ Aside0 (NB w j lv W)) (fun i _ => n - (intOf i).toNat)
  case atStart => exact ⟨0, _, rfl, by omega, HN⟩
  case round =>
    obtain ⟨j, lv, rfl, hj, HS⟩ := hrel
    clear HN
    by_cases hlt : j < n
    · have hj1 : (j : Int) < (n : Int) := by omega
      have c0 := HS.out.cell 0
      have HA := Aside0.mk (HS.out.step ((Below.refl _ _).alloc (Nat.le_refl _) (.cells #[.string (sect 0)] 9)))
      have HC := Aside0.mk (show ∀ j u, (strs [sect 0])[j]? = some u → (wr.alloc (.cells #[.string (sect 0)] 9)).cell? ((⟨wr.heap.size, 0, none⟩ : Addr).add j) = some u by
        intro j u hj
        cases j with
        | zero => exact (cell_of_row _ wr.heap.size 0 _ _ _ (heap_alloc_new wr _)).trans hj
        | succ j => simp [strs] at hj)
      clear HS
      go_wp2_with (at_builtin; go_loud (refine wpList_append_own _ rfl _ _ 22 rfl (w.heap.size + 2) 9 i0 (.string ⟨#[]⟩) 1 16 Tryd.underlying22 hi0 hz0 hz1 hz2 rfl (by decide) _ _ _ rfl HA.out.2.2.1 ⟨wr.heap.size, 0, none⟩ 1 1 (strs [sect 0]) rfl rfl HC.out (strs_one _) (by unfold maxLen; omega) (by omega) HA.out.size ?_))
      intro v' w8 ho2 hg2 _
      obtain ⟨A', c', rfl⟩ := owns_slice ho2
      have hgr := HA.out.grown hg2
      rw [← strs_append, ← List.replicate_succ'] at ho2
      have HP := Aside0.mk (NB.put hgr ho2)
      have d0 : w8.cell? ⟨w.heap.size + 1, 0, none⟩ = some lv := cell_of_row _ _ 0 _ _ _ hgr.2.1
      have f0 : w8.frozen? ⟨w.heap.size + 1, 0, none⟩ = false := frozen_of_row _ _ 0 _ _ hgr.2.1
      clear ho2 hg2 hgr HA HC c0
      go_wp2
      go_roundw
      case rel => exact ⟨j + 1, _, by go_num, by omega, HP⟩
      case measure => simp [intOf]; omega
    · obtain rfl : j = n := by omega
      have c0 := HS.out.cell 0
      have HS' := Aside0.mk HS.out
      rcases HS.out.2.2.1.2 with ⟨_, h0⟩ | ⟨lb, lc, cur, rfl, hge, hlb, _⟩
      · omega
      have KC := Aside0.mk (Tryd.slices_Clone_string lb 0 j lc (List.replicate j (sect 0)) wr (by simp) (by omega) (fun k hk => by
        have := HS.out.2.2.1.cellAt k (by simpa using hk)
        rw [strs_get _ _ hk] at this
        rw [Nat.zero_add, this, List.getD_eq_getElem?_getD, List.getElem?_eq_getElem hk]; rfl))
      have LB := Aside0.mk hge
      clear hlb hge HS
      go_wp2_with fail
      refine KC.out.mono ?_
      rintro x w9 ⟨v', rfl, ho, hne, hb⟩
      rw [List.take_of_length_le (by simp)] at ho
      have hS := HS'.out.step hb
      have d5 := hS.cell 5
      have f5 := hS.frozen 5
      rcases ho.2 with ⟨rfl, _⟩ | ⟨rb, rc, cur, rfl, hrb, hrh, _⟩
      · exact absurd rfl hne
      have hne2 : lb ≠ rb := by
        have := (HS'.out.2.2.1.lt lb rfl).2
        omega
      have HD := Aside0.mk (show DK w.heap.size (w.heap.size + 1) ⟨List.replicate j (sect 0), [], 0, 0⟩ (FP (w.heap.size + 1) lb rb w.heap.size (.slice none 0 0)) (w9.setCell ⟨w.heap.size + 1, 5, none⟩ (.slice (some ⟨rb, 0, none⟩) j rc)) from by
        have so : ∀ k, k ≠ w.heap.size + 1 → (w9.setCell ⟨w.heap.size + 1, 5, none⟩ (.slice (some ⟨rb, 0, none⟩) j rc)).heap[k]? = w9.heap[k]? := fun k hk => set_other _ _ _ _ hk
        have l1 : w.heap.size + 2 ≤ lb := LB.out
        have l2 : w.heap.size + 2 ≤ rb := Nat.le_trans HS'.out.size hrb
        refine ⟨lb, lc, rb, rc, w.heap.size, .slice none 0 0, ⟨?_, ?_, ?_, World.ownsRow_nil _ _ _ _, ⟨0, .map [], map_new ((so _ (by omega)).trans hS.2.2.2), Nat.le_refl _, fun i => rfl⟩, by omega, Nat.le_refl _, hne2⟩, fun k => Iff.rfl⟩
        · have := heap_setCell_same w9 _ 5 _ _ (.slice (some ⟨rb, 0, none⟩) j rc) hS.2.1
          simpa using this
        · rw [List.length_replicate]
          exact owns_mono (owns_block hS.2.2.1 (fun g e => so g (by have := (hS.2.2.1.lt g e).1; omega))) (by omega)
        · rw [List.length_replicate]
          exact owns_mono (owns_block ho (fun g e => so g (by have := (ho.lt g e).1; have := HS'.out.size; omega))) (by have := HS'.out.1.size; omega))
      have HB := Aside0.mk ((hS.1.setCell (p := ⟨w.heap.size + 1, 5, none⟩) (by show w.heap.size ≤ w.heap.size + 1; omega) (.slice (some ⟨rb, 0, none⟩) j rc)))
      clear ho hS hne hb hrb hrh hne2 KC HS' c0
      go_wp2
      go_ret2
      exact ⟨_, _, rfl, HD.out, HB.out⟩
end Go.Proofs.YtknbhgodhmcemaaDoor.Dk
namespace Go.Proofs.YtknbhgodhmcemaaDoor.Dk
set_option linter.unusedSimpArgs false
set_option linter.unusedVariables false
set_option maxRecDepth 100000
open Go.RowKit Go.Proofs.YtknbhgodhmcemaaDoor.Own Go.Proofs.YtknbhgodhmcemaaDoor.Cel
def Big (F : Nat → Prop) (W : World) (k : Nat) : Prop := F k ∨ W.heap.size ≤ k
theorem Only.small {F : Nat → Prop} {W W' : World} (h : Only (Big F W) W W') : Only F W W' :=
  ⟨h.os, h.tape, h.output, h.size, fun k hk hn => h.block k hk (fun e => e.elim hn (fun e => by omega))⟩
theorem Only.big {F : Nat → Prop} {W a b : World} (h : Only F a b) : Only (Big F W) a b :=
  ⟨h.os, h.tape, h.output, h.size, fun k hk hn => h.block k hk (fun e => hn (.inl e))⟩
theorem Only.big_trans {F : Nat → Prop} {W a b c : World} (h : Only (Big F W) a b) (k : Only (Big F W) b c) : Only (Big F W) a c := h.trans k (fun _ e => .inl e)
theorem infoW : (Tryd.prog.info? 130).map (fun i => (i.zero, i.size, i.bytes)) = some (some (.agg #[.int .i64 0, .string ⟨#[]⟩]), 2, 24) := by kernel_rfl
theorem keyI : Go.Maps.Keyed Tryd.prog 3 := Go.Maps.int_keyed Tryd.underlying3
theorem owns_get {W : World} {B g n c : Nat} {e : TypeId} {xs : List Value} (h : W.ownsRow B e 2 (.slice (some ⟨g, 0, none⟩) n c) n xs) : ∀ j u, xs[j]? = some u → W.cell? ((⟨g, 0, none⟩ : Addr).add j) = some u := h.cells rfl
theorem slice_full {W : World} {B n c : Nat} {A : Option Addr} {xs : List Value} (h : W.ownsRow B 130 2 (.slice A n c) n xs) :
    (∀ V : World, (Instr.slice 90 (.slice A n c) none (some (.int .i64 (n : Nat))) (some (.int .i64 (n : Nat)))).run Tryd.prog V = .ok (.slice A n n) V) ∧
    ((Value.slice A n n = .slice none 0 0 ∧ n = 0) ∨ ∃ g, Value.slice A n n = .slice (some ⟨g, 0, none⟩) n n ∧ ∀ j u, xs[j]? = some u → W.cell? ((⟨g, 0, none⟩ : Addr).add j) = some u) := by
  rcases h.2 with ⟨e, rfl⟩ | ⟨g, cap, cur, e, _, _, hnc, _⟩
  · simp only [Value.slice.injEq] at e
    obtain ⟨rfl, _, rfl⟩ := e
    refine ⟨fun V => ?_, .inl ⟨rfl, rfl⟩⟩
    kernel_rfl
  · simp only [Value.slice.injEq] at e
    obtain ⟨rfl, _, rfl⟩ := e
    refine ⟨fun V => ?_, .inr ⟨g, rfl, owns_get h⟩⟩
    have hr := run_slice_hm (P := Tryd.prog) V 90 (some ⟨g, 0, none⟩) n c (by rfl) .i64 .i64 (n : Int) (n : Int) (by omega) (by omega) (by omega)
    rw [hr]
    simp [sliced, go_sem]
theorem map_put {W : World} {mb n : Nat} {D : DataW Unit} {ws : List Wt} {i : Nat} {s : ByteArray} (h : W.ownsMap Tryd.prog 3 (plainElem Tryd.prog 3) mb n D) (hD : ∀ j : Nat, D.atKey (.int .i64 (j : Int)) (.lit (.int .i64 0)) = .lit (.int .i64 ((cnt j ws : Nat) : Int))) (j : Nat) :
    (D.put (.int .i64 (i : Int)) (.lit (.int .i64 ((cnt i ws : Nat) + 1 : Int)))).atKey (.int .i64 (j : Int)) (.lit (.int .i64 0)) = .lit (.int .i64 ((cnt j (ws ++ [(i, s)]) : Nat) : Int)) := by
  rw [cnt_snoc]
  by_cases e : j = i
  · subst e
    rw [Go.Maps.atKey_put_same h.isMap (by trivial), if_pos rfl]; rfl
  · rw [Go.Maps.atKey_put_other (by simp; omega), hD, if_neg (fun x => e x.symm)]; rfl
variable {B p : Nat} {S : DS} {F : Nat → Prop} {W : World}
theorem put_no {S : DS} {i : Int} {s : ByteArray} (h : ¬ (0 ≤ i ∧ i < (S.lasts.length : Int))) : S.put i s = (S, 5) := by unfold DS.put; rw [if_pos h]
theorem put_form {S : DS} {i : Int} {s : ByteArray} (h : 0 ≤ i ∧ i < (S.lasts.length : Int)) (h2 : s.size ≠ 128) : S.put i s = (S, 4) := by unfold DS.put; rw [if_neg (fun e => e h), if_pos h2]
theorem put_fails {S : DS} {i : Int} {s : ByteArray} (h : 0 ≤ i ∧ i < (S.lasts.length : Int)) (h2 : s.size = 128) (h3 : S.fails.2 = true) : S.put i s = (S.fails.1, 7) := by
  unfold DS.put; rw [if_neg (fun e => e h), if_neg (fun e => e h2), if_pos h3]
theorem put_ok {S : DS} {i : Int} {s : ByteArray} (h : 0 ≤ i ∧ i < (S.lasts.length : Int)) (h2 : s.size = 128) (h3 : S.fails.2 = false) : S.put i s = ({ S.fails.1 with waits := S.waits ++ [(i.toNat, s)], ops := S.ops + 1 }, 0) := by
  unfold DS.put; rw [if_neg (fun e => e h), if_neg (fun e => e h2), if_neg (by rw [h3]; decide)]
theorem fails_lasts (S : DS) : S.fails.1.lasts = S.lasts ∧ S.fails.1.waits = S.waits ∧ S.fails.1.ops = S.ops := by
  unfold DS.fails; split <;> exact ⟨rfl, rfl, rfl⟩
set_option maxHeartbeats 2000000 in
theorem write_calls (h : DK B p S F W) (ha : S.armed ≤ 9223372036854775807) (hn : S.waits.length ≤ 1000000) (ho0 : 0 ≤ S.ops) (ho : S.ops ≤ 4611686018427387904) (i : Int) (s : ByteArray) (hi0 : -9223372036854775808 ≤ i) (hi1 : i ≤ 9223372036854775807) :
    Calls Tryd.prog 28 #[.pointer (some ⟨p, 0, none⟩), .int .i64 i, .string s] W fun e W' => e = .returned (.int .i64 (S.put i s).2) ∧ Did B p (S.put i s).1 F W W' := by
  have KH := Aside0.mk (has_calls h i)
  have H0 := Aside0.mk h
  by_cases a : 0 ≤ i ∧ i < (S.lasts.length : Int)
  rotate_left
  · rw [put_no a]
    rw [show decide (0 ≤ i ∧ i < (S.lasts.length : Int)) = false from decide_eq_false a] at KH
    clear a h hi0 hi1
    go_enter Tryd.func28, Tryd.ntmps28
    go_wp2_with fail
    refine KH.out.mono ?_
    rintro e w1 ⟨rfl, rfl⟩
    go_wp2
    go_ret
    exact ⟨rfl, F, H0.out, Only.refl _ _, fun _ e => .inl e⟩
  rw [show decide (0 ≤ i ∧ i < (S.lasts.length : Int)) = true from decide_eq_true a] at KH
  by_cases hs : s.size = 128
  rotate_left
  · rw [put_form a hs]
    have c1 : ((s.size : Int) != 128) = true := by simp; omega
    have c1' : (s.size != 128) = true := by simpa using hs
    clear a h hs hi0 hi1
    go_enter Tryd.func28, Tryd.ntmps28
    go_wp2_with fail
    refine KH.out.mono ?_
    rintro e w1 ⟨rfl, rfl⟩
    go_wp2
    go_ret
    exact ⟨rfl, F, H0.out, Only.refl _ _, fun _ e => .inl e⟩
  have c1 : ((s.size : Int) != 128) = false := by rw [hs]; rfl
  have c1' : (s.size != 128) = false := by rw [hs]; rfl
  have KF := Aside0.mk (fails_calls h ha)
  cases hf : S.fails.2 with
  | true =>
    rw [put_fails a hs hf]
    rw [hf] at KF
    clear a h hs hf hi0 hi1
    go_enter Tryd.func28, Tryd.ntmps28
    go_wp2_with fail
    refine KH.out.mono ?_
    rintro e w1 ⟨rfl, rfl⟩
    go_wp2_with fail
    refine KF.out.mono ?_
    rintro e w1 ⟨rfl, h1, h2⟩
    have H1 := Aside0.mk (And.intro h1 h2)
    clear h1 h2
    go_wp2
    go_ret
    exact ⟨rfl, F, H1.out.1, H1.out.2, fun _ e => .inl e⟩
  | false =>
    rw [put_ok a hs hf]
    rw [hf] at KF
    obtain ⟨fl, fw, fo⟩ := fails_lasts S
    obtain ⟨S1, hS1⟩ : ∃ x, S.fails.1 = x := ⟨_, rfl⟩
    rw [hS1] at KF fl fw fo ⊢
    obtain ⟨j, rfl⟩ := Int.eq_ofNat_of_zero_le a.1
    have hj : j < S1.lasts.length := by rw [fl]; have := a.2; omega
    rw [← fw] at hn ⊢
    rw [← fo] at ho0 ho ⊢
    have HF := Aside0.mk (And.intro fl (And.intro fw fo))
    have HI := Aside0.mk (show (Lit.int .i64 (j : Int)).wf = true by simp [Lit.wf, IntKind.min, IntKind.max, IntKind.signed, IntKind.bits]; omega)
    clear a h hs hf hi0 hi1 fl fw fo hS1 ha
    go_enter Tryd.func28, Tryd.ntmps28
    go_wp2_with fail
    refine KH.out.mono ?_
    rintro e w1 ⟨rfl, rfl⟩
    go_wp2_with fail
    refine KF.out.mono ?_
    rintro e W1 ⟨rfl, h1, h2⟩
    obtain ⟨lb, lc, rb, rc, mb, wv, hd, hFP⟩ := h1
    have O1 := Aside0.mk (Only.big (W := W) h2)
    clear h2 KH KF
    obtain ⟨i0, hi0, hz0, hz1, hz2⟩ := info_parts infoW
    have d1 := hd.cell 1
    obtain ⟨A, wc, rfl⟩ := owns_slice hd.hw
    have hdA := hd.below ((Below.refl _ _).alloc (Nat.le_refl _) (.cells #[.int .i64 (j : Int), .string s] 130))
    obtain ⟨hsl, hv⟩ := slice_full hdA.hw
    have HV := Aside0.mk hv
    have HDA := Aside0.mk hdA
    have HJ := Aside0.mk hj
    have HFP := Aside0.mk hFP
    have HB := Aside0.mk (show B ≤ W1.heap.size by have := hd.lt (.inl rfl); omega)
    have HC := Aside0.mk (show ∀ k u, (wcells [(j, s)])[k]? = some u → (W1.alloc (.cells #[.int .i64 (j : Int), .string s] 130)).cell? ((⟨W1.heap.size, 0, none⟩ : Addr).add k) = some u by
      intro k u hk
      match k, hk with
      | 0, hk => exact (cell_of_row _ W1.heap.size 0 _ _ _ (heap_alloc_new W1 _)).trans hk
      | 1, hk => exact (cell_of_row _ W1.heap.size 1 _ _ _ (heap_alloc_new W1 _)).trans hk
      | k + 2, hk => simp [wcells] at hk)
    clear hd hdA hv hFP hj
    have hn' : S1.waits.length + 1 ≤ 1000001 := by omega
    go_wp2_with (at_builtin; go_loud (refine wpList_append_new _ rfl _ _ 90 rfl B 130 i0 (.agg #[.int .i64 0, .string ⟨#[]⟩]) 2 24 Tryd.underlying90 hi0 hz0 hz1 hz2 rfl _ _ (wcells S1.waits) rfl (wcells_len _) HV.out ⟨W1.heap.size, 0, none⟩ 1 1 (wcells [(j, s)]) rfl rfl HC.out (by decide) (by unfold maxLen; omega) (by omega) (by have := HB.out; simp; omega) ?_))
    intro cap W2 ho2 hg2
    obtain ⟨q, hq⟩ : ∃ q, W1.heap.size + 1 = q := ⟨_, rfl⟩
    rw [hq] at ho2 ⊢
    have HQ := Aside0.mk (show W.heap.size ≤ q by have := O1.out.size; omega)
    rw [← wcells_append] at ho2
    have hd2 := HDA.out.keep (fun k hk => hg2.block k (HDA.out.lt hk).2 (by simp))
    have d1' := hd2.cell 1
    have f1' := hd2.frozen 1
    have hlen : (S1.waits ++ [(j, s)]).length = S1.waits.length + 1 := by simp
    have hd3 := hd2.setW (.slice (some ⟨q, 0, none⟩) (S1.waits.length + 1) cap) (S1.waits ++ [(j, s)]) (by rw [hlen]; exact ho2)
    have c2 := hd3.cell 2
    have O3 := Aside0.mk ((O1.out.big_trans ((only_below ((Below.refl _ _).alloc (Nat.le_refl _) (.cells #[.int .i64 (j : Int), .string s] 130))).big)).big_trans ((only_grown (F := F) hg2 (fun k e => by cases e)).big.big_trans (only_set (F := F) ⟨p, 1, none⟩ (.slice (some ⟨q, 0, none⟩) (S1.waits.length + 1) cap) ((HFP.out p).2 (.inl rfl))).big))
    obtain ⟨nm, D, hown, hnm, hDD⟩ := hd3.mp
    obtain ⟨cc, hlook, hat, _⟩ := hown.lookup_int keyI Tryd.underlying89 Tryd.underlying3 (by kernel_rfl) (key := .int .i64 (j : Int)) (kl := .int .i64 (j : Int)) (Go.Maps.keyOf_int_mk Tryd.underlying3 HI.out)
    rw [hDD j] at hat
    obtain rfl : ((cnt j S1.waits : Nat) : Int) = cc := by injection hat with e; injection e
    have hcl := cnt_le j S1.waits
    have HDD := Aside0.mk hDD
    have HOWN := Aside0.mk hown
    have HD3 := Aside0.mk hd3
    have HNM := Aside0.mk hnm
    have HCN := Aside0.mk hlen
    obtain ⟨cj, hcj⟩ : ∃ c, cnt j S1.waits = c := ⟨_, rfl⟩
    have HCJ := Aside0.mk hcj
    rw [hcj] at hlook hcl
    have hcl' : (cj : Int) ≤ 1000000 := by omega
    have hwfc : (Lit.int .i64 ((cj : Int) + 1)).wf = true := by simp [Lit.wf, IntKind.min, IntKind.max, IntKind.signed, IntKind.bits]; omega
    have HW := Aside0.mk hwfc
    clear hat hDD hown hd3 hnm hlen hcj hcl hwfc hd2 ho2 hg2 hq hsl HV HDA HC HB O1 d1
    go_wp2_with (at_mapUpdate; go_loud (refine wpList_mapUpdate_own _ rfl _ _ _ 89 rfl 3 3 keyI Tryd.underlying89 (plainElem Tryd.prog 3) mb nm D rfl HOWN.out (by have := HNM.out; unfold maxLen; omega) _ _ (.int .i64 (j : Int)) rfl rfl (Go.Maps.keyOf_int_mk Tryd.underlying3 HI.out) (.lit (.int .i64 ((cj : Int) + 1))) [] (plainElem_int Tryd.underlying3 HW.out) ?_))
    intro W4 hown4 hg4
    clear d1' f1' c2 hlook
    generalize W2.setCell ⟨p, 1, none⟩ (.slice (some ⟨q, 0, none⟩) (S1.waits.length + 1) cap) = W3 at hg4 O3 HOWN HD3
    have hd4 := HD3.out.setM (m' := fun i => cnt i (S1.waits ++ [(j, s)])) (N' := S1.waits.length + 1) hg4 ⟨_, _, hown4, by have := HNM.out; omega, fun k => by
      have := map_put (s := s) HOWN.out HDD.out (i := j) k
      rw [HCJ.out] at this
      exact this⟩
    have O4 := Aside0.mk (O3.out.big_trans ((only_grown (F := F) hg4 (fun k e => (HFP.out k).2 (.inr (.inl (by simpa using e.symm))))).big))
    have c5 := hd4.cell 5
    have hjr : j < S1.read.length := by rw [hd4.rlen]; exact HJ.out
    have cj4 : W4.cell? ⟨rb, j, none⟩ = some (.string (S1.read[j]'hjr)) := by
      rw [hd4.hr.cellAt j (by have := HJ.out; omega), strs_get _ _ hjr]
    have fj4 := hd4.hr.frozenAt j
    have hd5 := hd4.setR j s
    have c4 := hd5.cell 4
    have f4 := hd5.frozen 4
    have HD6 := Aside0.mk (hd5.setO (S1.ops + 1))
    have hjl : (j : Int) < (S1.lasts.length : Int) := by have := HJ.out; omega
    have O6 := Aside0.mk (O4.out.big_trans ((only_set (F := F) ⟨rb, j, none⟩ (.string s) ((HFP.out rb).2 (.inr (.inr (.inr (.inl rfl)))))).big.big_trans (only_set (F := F) ⟨p, 4, none⟩ (.int .i64 (S1.ops + 1)) ((HFP.out p).2 (.inl rfl))).big))
    clear hd4 hd5 hown4 hg4 O3 O4 HOWN HD3
    obtain ⟨s0, hs0⟩ : ∃ x, S1.read[j]'hjr = x := ⟨_, rfl⟩
    rw [hs0] at cj4
    clear hs0 hjr
    obtain ⟨op, hop⟩ : ∃ x, S1.ops = x := ⟨_, rfl⟩
    rw [hop] at c4 ho ho0
    have HOP := Aside0.mk hop
    clear hop
    go_wp2
    go_ret
    rw [HOP.out] at HD6 O6
    refine ⟨rfl, FP p lb rb mb (.slice (some ⟨q, 0, none⟩) (S1.waits.length + 1) cap), ⟨lb, lc, rb, rc, mb, _, ?_, fun _ => Iff.rfl⟩, O6.out.small, fun k hk => ?_⟩
    · have e : ({ S1 with waits := S1.waits ++ [((j : Int).toNat, s)], ops := S1.ops + 1 } : DS).read = S1.read.set j s := by
        show applyW S1.lasts (S1.waits ++ [((j : Int).toNat, s)]) = _
        rw [applyW_snoc]; rfl
      rw [e]
      have e2 : (S1.waits ++ [((j : Int).toNat, s)]).length = S1.waits.length + 1 := by simp
      show DR B p lb lc rb rc mb _ S1.lasts (S1.read.set j s) (S1.waits ++ [((j : Int).toNat, s)]) (fun i => cnt i (S1.waits ++ [((j : Int).toNat, s)])) (S1.waits ++ [((j : Int).toNat, s)]).length S1.armed (S1.ops + 1) _
      rw [e2, HOP.out]
      exact HD6.out
    · rcases hk with rfl | rfl | rfl | rfl | hk
      · exact .inl ((HFP.out k).2 (.inl rfl))
      · exact .inl ((HFP.out k).2 (.inr (.inl rfl)))
      · exact .inl ((HFP.out k).2 (.inr (.inr (.inl rfl))))
      · exact .inl ((HFP.out k).2 (.inr (.inr (.inr (.inl rfl)))))
      · obtain rfl : q = k := by simpa [Value.ownBlock] using hk
        exact .inr HQ.out
end Go.Proofs.YtknbhgodhmcemaaDoor.Dk
namespace Go.Proofs.YtknbhgodhmcemaaDoor.Sl
open Go.RowKit
structure Aside0 (p : Prop) : Prop where mk :: (out : p)
def st (x : Nat) : Nat := if x % 2 = 1 then x / 2 ^^^ 3988292384 else x / 2
def sts : Nat → Nat → Nat
  | 0, x => x
  | k + 1, x => st (sts k x)
def crc : List UInt8 → Nat → Nat
  | [], x => x
  | b :: l, x => crc l (sts 8 (x ^^^ b.toNat))
def sumN (l : List UInt8) : Nat := 4294967295 - crc l 4294967295
def rst (x b : Nat) : Nat := if x % 2 = b % 2 then x / 2 else x / 2 ^^^ 3988292384
def rsts : Nat → Nat → Nat → Nat
  | 0, x, _ => x
  | k + 1, x, b => rst (rsts k x b) (b / 2 ^ k)
theorem st_lt {x : Nat} (h : x < 4294967296) : st x < 4294967296 := by
  unfold st
  split
  · exact Nat.xor_lt_two_pow (n := 32) (by omega) (by omega)
  · omega
theorem sts_lt {x : Nat} (h : x < 4294967296) : ∀ k, sts k x < 4294967296
  | 0 => h
  | k + 1 => st_lt (sts_lt h k)
theorem rst_lt {x b : Nat} (h : x < 4294967296) : rst x b < 4294967296 := by
  unfold rst
  split
  · omega
  · exact Nat.xor_lt_two_pow (n := 32) (by omega) (by omega)
theorem rsts_lt {x b : Nat} (h : x < 4294967296) : ∀ k, rsts k x b < 4294967296
  | 0 => h
  | k + 1 => rst_lt (rsts_lt h k)
theorem xor_byte {x b : Nat} (h : x < 4294967296) (hb : b < 256) : x ^^^ b < 4294967296 := Nat.xor_lt_two_pow (n := 32) h (by omega)
theorem xor_div2 (x y : Nat) : (x ^^^ y) / 2 = x / 2 ^^^ y / 2 := by
  have := Nat.shiftRight_xor_distrib (a := x) (b := y) (i := 1)
  simpa [Nat.shiftRight_eq_div_pow] using this
theorem xor_mod2 (x y : Nat) : (x ^^^ y) % 2 = (x + y) % 2 := by
  have h := Nat.testBit_xor x y 0
  simp only [Nat.testBit_zero] at h
  have hx := Nat.mod_two_eq_zero_or_one x
  have hy := Nat.mod_two_eq_zero_or_one y
  have hz := Nat.mod_two_eq_zero_or_one (x ^^^ y)
  rcases hx with hx | hx <;> rcases hy with hy | hy <;> rcases hz with hz | hz <;> simp [hx, hy, hz] at h ⊢ <;> omega
theorem beside (x b : Nat) : ∀ k, sts k (x ^^^ b) = rsts k x b ^^^ (b / 2 ^ k)
  | 0 => by simp [sts, rsts]
  | k + 1 => by
    rw [sts, beside x b k, rsts]
    generalize rsts k x b = y
    have e : b / 2 ^ (k + 1) = b / 2 ^ k / 2 := by rw [Nat.pow_succ, Nat.div_div_eq_div_mul]
    rw [e]
    generalize b / 2 ^ k = c
    unfold st rst
    rw [xor_div2, xor_mod2]
    by_cases h : y % 2 = c % 2
    · rw [if_neg (by omega), if_pos h]
    · rw [if_pos (by omega), if_neg h, Nat.xor_assoc, Nat.xor_assoc, Nat.xor_comm (c / 2)]
theorem beside8 (x b : Nat) (hb : b < 256) : sts 8 (x ^^^ b) = rsts 8 x b := by
  have h := beside x b 8
  rw [Nat.div_eq_of_lt (by omega : b < 2 ^ 8), Nat.xor_zero] at h
  exact h
theorem crc_append (a b : List UInt8) : ∀ x, crc (a ++ b) x = crc b (crc a x) := by
  induction a with
  | nil => intro x; rfl
  | cons c a ih => intro x; simp only [List.cons_append, crc]; exact ih _
theorem crc_lt (l : List UInt8) : ∀ x, x < 4294967296 → crc l x < 4294967296 := by
  induction l with
  | nil => intro x h; exact h
  | cons b l ih => intro x h; exact ih _ (sts_lt (xor_byte h b.toNat_lt) 8)
theorem crc_snoc (s : ByteArray) (j : Nat) (h : j < s.size) (x : Nat) : crc (s.data.toList.take (j + 1)) x = sts 8 (crc (s.data.toList.take j) x ^^^ (s[j]'h).toNat) := by
  rw [List.take_succ_eq_append_getElem (by simpa using h), crc_append]; rfl
theorem not32 {x : Nat} (h : x < 4294967296) : 4294967295 ^^^ x = 4294967295 - x := by
  apply Nat.eq_of_testBit_eq
  intro i
  rw [Nat.testBit_xor, show 4294967295 - x = 2 ^ 32 - (x + 1) by omega, Nat.testBit_two_pow_sub_succ (by omega), show 4294967295 = 2 ^ 32 - 1 by rfl, Nat.testBit_two_pow_sub_one]
  by_cases hi : i < 32
  · simp [hi]
  · have : x.testBit i = false := Nat.testBit_lt_two_pow (Nat.lt_of_lt_of_le (show x < 2 ^ 32 by omega) (Nat.pow_le_pow_right (by omega) (by omega)))
    simp [hi, this]
theorem not_u32 {x : Nat} (h : x < 4294967296) : bits .xor .u32 IntKind.u32.max (x : Int) = ((4294967295 - x : Nat) : Int) := by
  have := u32_xor_nat 4294967295 x (by omega) h
  rw [not32 h] at this
  exact this
theorem sub64' {x : Nat} (h : x < 4294967296) : ((4294967295 : Int) - (x : Int)) = ((4294967295 - x : Nat) : Int) := by omega
theorem sumN_lt (l : List UInt8) : sumN l < 4294967296 := by unfold sumN; omega
theorem crc_all (s : ByteArray) (x : Nat) : crc (s.data.toList.take s.size) x = crc s.data.toList x := by
  rw [List.take_of_length_le (by simp)]
end Go.Proofs.YtknbhgodhmcemaaDoor.Sl
namespace Go.Proofs.YtknbhgodhmcemaaDoor.Sl
set_option linter.unusedSimpArgs false
set_option maxRecDepth 100000
open Go.RowKit
set_option maxHeartbeats 400000 in
theorem sum_calls (s : ByteArray) (w : World) (hs : s.size ≤ 140737488355328) :
    Calls Tryd.prog 67 #[.string s] w fun e w' => e = .returned (.int .u32 (sumN s.data.toList : Nat)) ∧ w = w' := by
  go_enter Tryd.func67, Tryd.ntmps67
  go_wp2
  go_loop [3, 8] (fun t i => ∃ (j : Nat), i = .int .i64 j ∧ j ≤ s.size ∧ t = .int .u32 (crc (s.data.toList.take j) 4294967295 : Nat)) (fun _ i => s.size - (intOf i).toNat)
  case atStart => exact ⟨0, rfl, by omega, rfl⟩
  case round =>
    obtain ⟨j, rfl, hj, rfl⟩ := hrel
    have hx := crc_lt (s.data.toList.take j) 4294967295 (by omega)
    by_cases hlt : j < s.size
    · have hb := (s[j]'hlt).toNat_lt
      have HN := Aside0.mk (crc_snoc s j hlt 4294967295)
      generalize crc (s.data.toList.take j) 4294967295 = X at hx HN ⊢
      have e1 : ((s[j]'hlt).toNat : Int) % 4294967296 = ((s[j]'hlt).toNat : Int) := by omega
      have e2 := u32_xor_nat X (s[j]'hlt).toNat hx (by omega)
      have hy := xor_byte hx hb
      go_wp2
      clear e1 e2
      generalize X ^^^ (s[j]'hlt).toNat = Y0 at hy HN ⊢
      have HR := Aside0.mk (show s.size - (intOf (.int .i64 ((j : Int) + 1))).toNat < s.size - (intOf (.int .i64 (j : Int))).toNat by simp [intOf]; omega)
      go_loop [3, 17] (fun t i => ∃ (k : Nat), i = .int .i64 k ∧ k ≤ 8 ∧ t = .int .u32 (sts k Y0 : Nat)) (fun _ i => 8 - (intOf i).toNat)
      case atStart => exact ⟨0, rfl, by omega, rfl⟩
      case round =>
        obtain ⟨k, rfl, hk, rfl⟩ := hrel
        have hz := sts_lt hy k
        by_cases hlt2 : k < 8
        · have HE := Aside0.mk (show sts (k + 1) Y0 = st (sts k Y0) from rfl)
          generalize sts k Y0 = Z at hz HE ⊢
          have a1 := u32_and_nat Z 1 hz (by omega)
          have a2 : ((1 : Nat) : Int) = 1 := rfl
          rw [a2, Nat.and_one_is_mod] at a1
          have a3 := u32_xor_nat (Z / 2) 3988292384 (by omega) (by omega)
          have a4 : ((3988292384 : Nat) : Int) = 3988292384 := rfl
          have a5 : ((Z / 2 : Nat) : Int) = (Z : Int) / 2 := by omega
          rw [a4, a5] at a3
          by_cases hm : Z % 2 = 1
          · have t1 : (bits .and .u32 (Z : Int) 1 == 1) = true := by rw [a1, hm]; rfl
            have E := Aside0.mk (show Value.int .u32 (bits .xor .u32 ((Z : Int) / 2) 3988292384) = .int .u32 (sts (k + 1) Y0 : Nat) by rw [HE.out, st, if_pos hm, a3])
            clear a1 a2 a3 a4 a5 hm
            go_wp2
            go_round
            case rel => exact ⟨k + 1, by go_num, by omega, E.out⟩
            case measure => simp [intOf]; omega
          · have t1 : (bits .and .u32 (Z : Int) 1 == 1) = false := by rw [a1]; simp; omega
            have E := Aside0.mk (show Value.int .u32 ((Z : Int) / 2) = .int .u32 (sts (k + 1) Y0 : Nat) by rw [HE.out, st, if_neg hm, a5])
            clear a1 a2 a3 a4 a5 hm
            go_wp2
            go_round
            case rel => exact ⟨k + 1, by go_num, by omega, E.out⟩
            case measure => simp [intOf]; omega
        · have hge : k = 8 := by omega
          subst hge
          clear hz
          go_wp2
          go_round
          case rel => exact ⟨j + 1, by go_num, by omega, by rw [HN.out]⟩
          case measure => simp [intOf]; omega
    · have hge : j = s.size := by omega
      subst hge
      rw [crc_all] at hx ⊢
      have e3 := not_u32 hx
      have E := Aside0.mk (show ((4294967295 - crc s.data.toList 4294967295 : Nat) : Int) = (sumN s.data.toList : Nat) from rfl)
      have sg : IntKind.u32.signed = false := rfl
      go_wp2
      go_ret
      exact ⟨rfl, rfl⟩
set_option maxHeartbeats 400000 in
theorem rsum_calls (s : ByteArray) (w : World) (hs : s.size ≤ 140737488355328) :
    Calls Tryd.prog 88 #[.string s] w fun e w' => e = .returned (.int .u64 (sumN s.data.toList : Nat)) ∧ w = w' := by
  go_enter Tryd.func88, Tryd.ntmps88
  go_wp2
  go_loop [3, 4] (fun t i => ∃ (j : Nat), i = .int .i64 j ∧ j ≤ s.size ∧ t = .int .u64 (crc (s.data.toList.take j) 4294967295 : Nat)) (fun _ i => s.size - (intOf i).toNat)
  case atStart => exact ⟨0, rfl, by omega, rfl⟩
  case round =>
    obtain ⟨j, rfl, hj, rfl⟩ := hrel
    have hx := crc_lt (s.data.toList.take j) 4294967295 (by omega)
    by_cases hlt : j < s.size
    · have hb := (s[j]'hlt).toNat_lt
      have HN := Aside0.mk (crc_snoc s j hlt 4294967295)
      generalize crc (s.data.toList.take j) 4294967295 = X at hx HN ⊢
      rw [beside8 X _ hb] at HN
      have e1 : ((s[j]'hlt).toNat : Int) % 18446744073709551616 = ((s[j]'hlt).toNat : Int) := by omega
      go_wp2
      clear e1
      generalize (s[j]'hlt).toNat = B at hb HN ⊢
      have HR := Aside0.mk (show s.size - (intOf (.int .i64 ((j : Int) + 1))).toNat < s.size - (intOf (.int .i64 (j : Int))).toNat by simp [intOf]; omega)
      go_loop [3, 5, 6] (fun t c i => ∃ (k : Nat), i = .int .i64 k ∧ k ≤ 8 ∧ t = .int .u64 (rsts k X B : Nat) ∧ c = .int .u64 (B / 2 ^ k : Nat)) (fun _ _ i => 8 - (intOf i).toNat)
      case atStart => exact ⟨0, rfl, by omega, rfl, by rw [Nat.pow_zero, Nat.div_one]⟩
      case round =>
        obtain ⟨k, rfl, hk, rfl, rfl⟩ := hrel
        have hz := rsts_lt (b := B) hx k
        by_cases hlt2 : k < 8
        · have HE := Aside0.mk (show rsts (k + 1) X B = rst (rsts k X B) (B / 2 ^ k) from rfl)
          have HB := Aside0.mk (show B / 2 ^ (k + 1) = B / 2 ^ k / 2 by rw [Nat.pow_succ, Nat.div_div_eq_div_mul])
          have hc : B / 2 ^ k < 256 := Nat.lt_of_le_of_lt (Nat.div_le_self _ _) hb
          generalize rsts k X B = Z at hz HE ⊢
          generalize B / 2 ^ k = Y at HE HB hc ⊢
          have a3 := u64_xor_nat (Z / 2) 3988292384 (by omega) (by omega)
          have a4 : ((3988292384 : Nat) : Int) = 3988292384 := rfl
          have a5 : ((Z / 2 : Nat) : Int) = (Z : Int) / 2 := by omega
          have E2 := Aside0.mk (show Value.int .u64 ((Y : Int) / 2) = .int .u64 (B / 2 ^ (k + 1) : Nat) by rw [HB.out]; congr 1)
          rw [a4, a5] at a3
          by_cases hm : Z % 2 = Y % 2
          · have t1 : ((Z : Int) % 2 != (Y : Int) % 2) = false := by simp; omega
            have t2 : (Z % 2 != Y % 2) = false := by simp; omega
            have E := Aside0.mk (show Value.int .u64 ((Z : Int) / 2) = .int .u64 (rsts (k + 1) X B : Nat) by rw [HE.out, rst, if_pos hm, a5])
            clear a3 a4 a5 hm
            go_wp2
            go_round
            case rel => exact ⟨k + 1, by go_num, by omega, E.out, E2.out⟩
            case measure => simp [intOf]; omega
          · have t1 : ((Z : Int) % 2 != (Y : Int) % 2) = true := by simp; omega
            have t2 : (Z % 2 != Y % 2) = true := by simp; omega
            have E := Aside0.mk (show Value.int .u64 (bits .xor .u64 ((Z : Int) / 2) 3988292384) = .int .u64 (rsts (k + 1) X B : Nat) by rw [HE.out, rst, if_neg hm, a3])
            clear a3 a4 a5 hm
            go_wp2
            go_round
            case rel => exact ⟨k + 1, by go_num, by omega, E.out, E2.out⟩
            case measure => simp [intOf]; omega
        · have hge : k = 8 := by omega
          subst hge
          clear hz
          go_wp2
          go_round
          case rel => exact ⟨j + 1, by go_num, by omega, by rw [HN.out]⟩
          case measure => simp [intOf]; omega
    · have hge : j = s.size := by omega
      subst hge
      rw [crc_all] at hx ⊢
      have E := Aside0.mk (show ((4294967295 - crc s.data.toList 4294967295 : Nat) : Int) = (sumN s.data.toList : Nat) from rfl)
      go_wp2
      go_ret
      refine ⟨?_, rfl⟩
      show Ending.returned (.int .u64 (4294967295 - (crc s.data.toList 4294967295 : Nat))) = _
      rw [← E.out, sub64']
      exact hx
end Go.Proofs.YtknbhgodhmcemaaDoor.Sl
namespace Go.Proofs.YtknbhgodhmcemaaDoor.Sl
set_option linter.unusedSimpArgs false
set_option maxRecDepth 100000
open Go.RowKit
def bw (v n : Nat) : Nat → List UInt8
  | 0 => []
  | d + 1 => bw v n d ++ [UInt8.ofNat (v / 256 ^ (n - 1 - d))]
def be (v n : Nat) : List UInt8 := bw v n n
theorem bw_len (v n : Nat) : ∀ d, (bw v n d).length = d
  | 0 => rfl
  | d + 1 => by simp [bw, bw_len v n d]
theorem be_len (v n : Nat) : (be v n).length = n := bw_len v n n
theorem shr_eq (v i : Nat) : (v : Int) / 2 ^ (8 * i) = ((v / 256 ^ i : Nat) : Int) := by
  rw [Int.pow_mul, show (2 : Int) ^ 8 = ((256 : Nat) : Int) by decide, ← Int.natCast_pow, Int.natCast_ediv]
theorem byte_cell (x : Nat) : Value.int .u8 (((x : Nat) : Int) % 256) = Value.int .u8 ((UInt8.ofNat x).toNat : Nat) := by
  congr 1
set_option maxHeartbeats 400000 in
theorem number_calls (B b : Nat) (l : List UInt8) (v n : Nat) (w : World) (hv : v < 18446744073709551616) (hn : n ≤ 8)
    (h : Lib.IsBuilderF 105 5 B b (Lib.byteCells l) w) (hlen : l.length ≤ 100000) (hBw : B ≤ w.heap.size) :
    Calls Tryd.prog 64 #[.int .u64 v, .int .i64 n, .pointer (some ⟨b, 0, none⟩)] w fun e w' => e = .returned (.tuple #[]) ∧
      Lib.IsBuilderF 105 5 B b (Lib.byteCells (l ++ be v n)) w' ∧ Below B w w' ∧ Lib.OthersKept 5 (some b) w w' := by
  have HH := Aside0.mk (show Lib.IsBuilderF 105 5 B b (Lib.byteCells (l ++ bw v n 0)) w ∧ Below B w w ∧ Lib.OthersKept 5 (some b) w w from ⟨by simpa [bw] using h, Below.refl _ _, Lib.OthersKept.refl _ _ _⟩)
  clear h
  have hv0 : 0 ≤ (v : Int) := by omega
  have hv1 : (v : Int) < 18446744073709551616 := by omega
  go_enter Tryd.func64, Tryd.ntmps64
  go_wp2
  go_loopw [5] (fun i W => ∃ (x : Int) (d : Nat), i = .int .i64 x ∧ -1 ≤ x ∧ x + d = (n : Int) - 1 ∧ Aside0 (Lib.IsBuilderF 105 5 B b (Lib.byteCells (l ++ bw v n d)) W ∧ Below B w W ∧ Lib.OthersKept 5 (some b) w W)) (fun i _ => (intOf i + 1).toNat)
  case atStart => exact ⟨_, 0, rfl, by omega, by omega, HH⟩
  case round =>
    obtain ⟨x, d, rfl, hx0, hxd, HS⟩ := hrel
    clear HH
    by_cases hlt : 0 ≤ x
    · obtain ⟨X, rfl⟩ := Int.eq_ofNat_of_zero_le hlt
      have hX : (X : Int) < 8 := by omega
      have e1 := shr_eq v X
      have K := Bld.writeByte B b (Lib.byteCells (l ++ bw v n d)) ((v : Int) / 2 ^ (8 * X) % 256) wr HS.out.1 (by rw [Lib.byteCells_length, List.length_append, bw_len]; omega) (Nat.le_trans hBw HS.out.2.1.size)
      have E := Aside0.mk (show Lib.byteCells (l ++ bw v n d) ++ [.int .u8 ((v : Int) / 2 ^ (8 * X) % 256)] = Lib.byteCells (l ++ bw v n (d + 1)) by
        rw [e1, byte_cell, bw, show n - 1 - d = X by omega, ← List.append_assoc, Lib.byteCells_append _ [_]]; rfl)
      have KK := Aside0.mk K
      clear K e1
      go_wp2_with fail
      refine KK.out.mono ?_
      rintro e w2 ⟨rfl, h2, hb2, hk2⟩
      rw [E.out] at h2
      have H2 := Aside0.mk (And.intro (show Lib.IsBuilderF 105 5 B b (Lib.byteCells (l ++ bw v n (d + 1))) w2 from .inr h2) (And.intro (HS.out.2.1.trans hb2) (HS.out.2.2.trans hk2)))
      clear h2 hb2 hk2 HS KK E
      go_wp2
      go_roundw
      case rel => exact ⟨(X : Int) - 1, d + 1, rfl, by omega, by omega, H2⟩
      case measure => simp [intOf]
    · obtain rfl : x = -1 := by omega
      obtain rfl : d = n := by omega
      have HX := Aside0.mk HS.out
      clear HS
      go_wp2
      go_end0
      exact ⟨rfl, HX.out⟩
end Go.Proofs.YtknbhgodhmcemaaDoor.Sl
namespace Go.Proofs.YtknbhgodhmcemaaDoor.Sl
set_option linter.unusedSimpArgs false
set_option maxRecDepth 100000
open Go.RowKit
theorem repeatL_one0 : ∀ c, Lib.repeatL [(0 : UInt8)] c = List.replicate c 0
  | 0 => rfl
  | c + 1 => by rw [List.replicate_succ, ← repeatL_one0 c]; rfl
def lb (x : Nat) : Nat → List UInt8
  | 0 => []
  | d + 1 => lb x d ++ [UInt8.ofNat (x / 256 ^ d)]
theorem lb_len (x : Nat) : ∀ d, (lb x d).length = d
  | 0 => rfl
  | d + 1 => by simp [lb, lb_len x d]
def head14 (k g i : Nat) (n : Nat) : List UInt8 := be k 1 ++ be g 8 ++ be i 4 ++ be n 1
def body (k g i : Nat) (d : List UInt8) : List UInt8 := head14 k g i d.length ++ d ++ List.replicate (110 - d.length) 0
def sector (k g i : Nat) (d : List UInt8) : List UInt8 := body k g i d ++ lb (sumN (body k g i d)) 4
def closeS (k g i : Nat) (d : ByteArray) : ByteArray × Int := if d.size > 110 then (⟨#[]⟩, 11) else (⟨(sector k g i d.data.toList).toArray⟩, 0)
def rc (k g i : Nat) (d : ByteArray) : Array Value := #[.int .u8 (k : Int), .int .u64 (g : Int), .int .u32 (i : Int), .string d]
def CS (w : World) (b : Nat) (x : Array Value) (l : List UInt8) (W : World) : Prop :=
  Below w.heap.size w W ∧ W.heap[w.heap.size]? = some (.cells x 64 (0, 0)) ∧ Lib.IsBuilderF 105 5 b b (Lib.byteCells l) W ∧ w.heap.size < b ∧ b < W.heap.size
theorem CS.step {w W W' : World} {b : Nat} {x : Array Value} {l : List UInt8} (h : CS w b x l W) (hb : Below W.heap.size W W') : CS w b x l W' :=
  ⟨h.1.trans (hb.mono h.1.size), (hb.block _ (Array.getElem?_eq_some_iff.1 h.2.1).1).trans h.2.1, Bld.builder_below h.2.2.1 hb, h.2.2.2.1, Nat.lt_of_lt_of_le h.2.2.2.2 hb.size⟩
theorem CS.put {w W W' : World} {b : Nat} {x : Array Value} {l l' : List UInt8} (h : CS w b x l W) (hi : Lib.IsBuilderF 105 5 b b (Lib.byteCells l') W') (hb : Below b W W') : CS w b x l' W' :=
  ⟨h.1.trans (hb.mono (Nat.le_of_lt h.2.2.2.1)), (hb.block _ h.2.2.2.1).trans h.2.1, hi, h.2.2.2.1, Nat.lt_of_lt_of_le h.2.2.2.2 hb.size⟩
theorem CS.cell {w W : World} {b : Nat} {x : Array Value} {l : List UInt8} (h : CS w b x l W) (j : Nat) : W.cell? ⟨w.heap.size, j, none⟩ = x[j]? := Lib.cell_of_heap h.2.1 j
theorem CS.num {w W : World} {b : Nat} {x : Array Value} {l : List UInt8} (h : CS w b x l W) (v n : Nat) (hv : v < 18446744073709551616) (hn : n ≤ 8) (hl : l.length ≤ 100000) :
    Calls Tryd.prog 64 #[.int .u64 v, .int .i64 n, .pointer (some ⟨b, 0, none⟩)] W fun e w' => e = .returned (.tuple #[]) ∧ CS w b x (l ++ be v n) w' := by
  refine (number_calls b b l v n W hv hn h.2.2.1 hl (Nat.le_of_lt h.2.2.2.2)).mono ?_
  rintro e w' ⟨rfl, h2, hb, _⟩
  exact ⟨rfl, h.put h2 hb⟩
theorem CS.byte {w W : World} {b : Nat} {x : Array Value} {l : List UInt8} (h : CS w b x l W) (c : Nat) (hl : l.length ≤ 100000) :
    Calls Tryd.prog 65 #[.pointer (some ⟨b, 0, none⟩), .int .u8 ((c : Int) % 256)] W fun e w' => e = .returned .nilIface ∧ CS w b x (l ++ [UInt8.ofNat c]) w' := by
  refine (Bld.writeByte b b (Lib.byteCells l) ((c : Int) % 256) W h.2.2.1 (by rw [Lib.byteCells_length]; omega) (Nat.le_of_lt h.2.2.2.2)).mono ?_
  rintro e w' ⟨rfl, h2, hb, _⟩
  refine ⟨rfl, h.put ?_ hb⟩
  rw [Lib.byteCells_append]
  rw [byte_cell] at h2
  exact .inr h2
theorem CS.str {w W : World} {b : Nat} {x : Array Value} {l : List UInt8} (h : CS w b x l W) (s : ByteArray) (hl : l.length + s.size ≤ 100000) :
    Calls Tryd.prog 55 #[.pointer (some ⟨b, 0, none⟩), .string s] W fun e w' => e = .returned (.tuple #[.int .i64 s.size, .nilIface]) ∧ CS w b x (l ++ s.data.toList) w' := by
  refine (Bld.writeString b b (Lib.byteCells l) s W h.2.2.1 (by rw [Lib.byteCells_length]; omega) (Nat.le_of_lt h.2.2.2.2)).mono ?_
  rintro e w' ⟨rfl, h2, hb, _⟩
  refine ⟨rfl, h.put ?_ hb⟩
  rw [Lib.strCells_eq, ← Lib.byteCells_append] at h2
  exact .inr h2
theorem CS.string {w W : World} {b : Nat} {x : Array Value} {l : List UInt8} (h : CS w b x l W) :
    Calls Tryd.prog 57 #[.pointer (some ⟨b, 0, none⟩)] W fun e w' => e = .returned (.string ⟨l.toArray⟩) ∧ CS w b x l w' := by
  refine (Tryd.Builder_String_any_f b b l W h.2.2.1 (Nat.le_of_lt h.2.2.2.2)).mono ?_
  rintro e w' ⟨rfl, h2, hb⟩
  exact ⟨rfl, h.put h2 hb⟩
theorem CS.len {w W : World} {b : Nat} {x : Array Value} {l : List UInt8} (h : CS w b x l W) :
    Calls Tryd.prog 66 #[.pointer (some ⟨b, 0, none⟩)] W fun e w' => e = .returned (.int .i64 l.length) ∧ w' = W := by
  have := Bld.len b b (Lib.byteCells l) W h.2.2.1
  rw [Lib.byteCells_length] at this
  exact this
set_option maxHeartbeats 1000000 in
theorem close_good (k g i : Nat) (d : ByteArray) (w : World) (hk : k < 256) (hg : g < 18446744073709551616) (hi : i < 4294967296) (hd : d.size ≤ 110) :
    Calls Tryd.prog 27 #[.agg (rc k g i d)] w fun e w' => e = .returned (.tuple #[.string ⟨(sector k g i d.data.toList).toArray⟩, .int .i64 0]) ∧ Below w.heap.size w w' := by
  have c1 : decide (110 < (d.size : Int)) = false := decide_eq_false (by omega)
  have c2 : decide (110 < d.size) = false := decide_eq_false (by omega)
  have hA := heap_alloc_new w (.cells (rc k g i d) 64)
  have H0 := Aside0.mk (show CS w (w.heap.size + 1) (rc k g i d) [] ((w.alloc (.cells (rc k g i d) 64)).alloc (.cells #[.pointer none, .slice none 0 0] 105)) from
    ⟨((Below.refl _ _).alloc (Nat.le_refl _) _).alloc (by simp) _, (heap_alloc_old _ _ (by simp)).trans hA, by have := Lib.IsBuilderF.of (Lib.fresh_isBuilder 105 5 (w.alloc (.cells (rc k g i d) 64))); simpa [Lib.byteCells] using this, by omega, by simp⟩)
  have q3 : (w.alloc (.cells (rc k g i d) 64)).cell? ⟨w.heap.size, 3, none⟩ = some (.string d) := Lib.cell_of_heap hA 3
  have r0 : ((w.alloc (.cells (rc k g i d) 64)).alloc (.cells #[.pointer none, .slice none 0 0] 105)).cell? ⟨w.heap.size, 0, none⟩ = some (.int .u8 (k : Int)) := H0.out.cell 0
  have HDS := Aside0.mk (show d.data.toList.length = d.size by simp)
  have e0 : (k : Int) % 18446744073709551616 = (k : Int) := by omega
  clear hA
  go_enter Tryd.func27, Tryd.ntmps27
  go_wp2_with fail
  generalize (w.alloc (.cells (rc k g i d) 64)).alloc (.cells #[.pointer none, .slice none 0 0] 105) = W0 at H0 r0 ⊢
  clear q3 e0 r0
  obtain ⟨b, hb⟩ : ∃ b, w.heap.size + 1 = b := ⟨_, rfl⟩
  rw [hb] at H0 ⊢
  clear hb
  refine (H0.out.num k 1 (by omega) (by omega) (by simp)).mono ?_
  rintro x w1 ⟨rfl, h1⟩
  have r1 : w1.cell? ⟨w.heap.size, 1, none⟩ = some (.int .u64 (g : Int)) := h1.cell 1
  have H1 := Aside0.mk h1
  clear h1 H0
  go_wp2_with fail
  clear r1
  refine (H1.out.num g 8 hg (by omega) (by simp [be_len])).mono ?_
  rintro x w2 ⟨rfl, h2⟩
  have r2 : w2.cell? ⟨w.heap.size, 2, none⟩ = some (.int .u32 (i : Int)) := h2.cell 2
  have e2 : (i : Int) % 18446744073709551616 = (i : Int) := by omega
  have H2 := Aside0.mk h2
  clear h2 H1
  go_wp2_with fail
  clear r2 e2
  refine (H2.out.num i 4 (by omega) (by omega) (by simp [be_len])).mono ?_
  rintro x w3 ⟨rfl, h3⟩
  have r3 : w3.cell? ⟨w.heap.size, 3, none⟩ = some (.string d) := h3.cell 3
  have e3 : (d.size : Int) % 18446744073709551616 = (d.size : Int) := by omega
  have H3 := Aside0.mk h3
  clear h3 H2
  go_wp2_with fail
  clear r3 e3
  refine (H3.out.num d.size 1 (by omega) (by omega) (by simp [be_len])).mono ?_
  rintro x w4 ⟨rfl, h4⟩
  have r4 : w4.cell? ⟨w.heap.size, 3, none⟩ = some (.string d) := h4.cell 3
  have H4 := Aside0.mk h4
  clear h4 H3
  go_wp2_with fail
  clear r4
  refine (H4.out.str d (by simp [be_len]; omega)).mono ?_
  rintro x w5 ⟨rfl, h5⟩
  have e5 : [] ++ be k 1 ++ be g 8 ++ be i 4 ++ be d.size 1 ++ d.data.toList = head14 k g i d.data.toList.length ++ d.data.toList := by rw [HDS.out]; simp [head14]
  rw [e5] at h5
  obtain ⟨L, hL⟩ : ∃ L, head14 k g i d.data.toList.length ++ d.data.toList = L := ⟨_, rfl⟩
  rw [hL] at h5
  have HL := Aside0.mk hL
  have hLl : L.length = 14 + d.size := by rw [← hL, List.length_append, HDS.out]; simp [head14, be_len]
  obtain ⟨n, hn⟩ : ∃ n, L.length = n := ⟨_, rfl⟩
  have h6 := h5.len
  rw [hn] at h6
  have H5 := Aside0.mk h5
  have H6 := Aside0.mk h6
  have e6 : (124 : Int) - (n : Int) = ((110 - d.size : Nat) : Int) := by omega
  have hn1 : (n : Int) ≤ 124 := by omega
  have HN := Aside0.mk (show L.length = n ∧ n = 14 + d.size from ⟨hn, by omega⟩)
  clear h5 h6 e5 hL hLl hn H4
  go_wp2_with fail
  refine H6.out.mono ?_
  rintro x w6 ⟨rfl, rfl⟩
  clear H6
  go_wp2_with fail
  clear e6
  refine (Rep.repeat_calls ⟨#[0]⟩ (110 - d.size) _ (by omega) (by show 1 * (110 - d.size) ≤ _; omega) (by show 0 < 1; omega)).mono ?_
  rintro x w7 ⟨rfl, h7⟩
  have H7 := Aside0.mk (H5.out.step h7)
  have e7 : (Lib.repeatL ((⟨#[0]⟩ : ByteArray).data.toList) (110 - d.size)) = List.replicate (110 - d.size) 0 := repeatL_one0 _
  rw [e7]
  clear e7 h7 H5
  go_wp2_with fail
  refine (H7.out.str _ (by have := HN.out; show L.length + (List.replicate (110 - d.size) (0 : UInt8)).toArray.size ≤ _; simp; omega)).mono ?_
  rintro x w8 ⟨rfl, h8⟩
  have e8 : L ++ (⟨Array.replicate (110 - d.size) (0 : UInt8)⟩ : ByteArray).data.toList = body k g i d.data.toList := by rw [← HL.out, body, HDS.out]; simp
  rw [e8] at h8
  have H8 := Aside0.mk h8
  clear h8 e8 H7
  have hbl : (body k g i d.data.toList).length = 124 := by have := HDS.out; simp [body, head14, be_len]; omega
  obtain ⟨Bd, hBd⟩ : ∃ B, body k g i d.data.toList = B := ⟨_, rfl⟩
  rw [hBd] at H8 hbl
  have HB := Aside0.mk hBd
  have HBL := Aside0.mk hbl
  clear hBd hbl
  go_wp2_with fail
  refine H8.out.string.mono ?_
  rintro x w9 ⟨rfl, h9⟩
  have H9 := Aside0.mk h9
  clear h9 H8
  go_wp2_with fail
  refine (sum_calls ⟨Bd.toArray⟩ _ (by show Bd.toArray.size ≤ _; have := HBL.out; simp; omega)).mono ?_
  rintro x w10 ⟨rfl, rfl⟩
  have hSl := sumN_lt Bd
  obtain ⟨S, hS⟩ : ∃ S, sumN Bd = S := ⟨_, rfl⟩
  have e10 : sumN ((⟨Bd.toArray⟩ : ByteArray).data.toList) = S := hS
  rw [e10]
  rw [hS] at hSl
  have HS := Aside0.mk hS
  have H10 := Aside0.mk (show CS w b (rc k g i d) (Bd ++ lb S 0) w9 by simpa [lb] using H9.out)
  clear hS e10 H9
  go_wp2_with fail
  go_loopw [42] (fun t W => ∃ (j : Nat), t = .int .i64 j ∧ j ≤ 4 ∧ Aside0 (CS w b (rc k g i d) (Bd ++ lb S j) W)) (fun t _ => 4 - (intOf t).toNat)
  case atStart => exact ⟨0, rfl, by omega, H10⟩
  case round =>
    obtain ⟨j, rfl, hj, HC⟩ := hrel
    clear H10
    by_cases hlt : j < 4
    · have hx1 : 0 ≤ (j : Int) := by omega
      have hx2 : (j : Int) < 4 := by omega
      have e11 := shr_eq S j
      have K := HC.out.byte (S / 256 ^ j) (by have := HBL.out; simp [lb_len]; omega)
      rw [← e11] at K
      have E := Aside0.mk (show Bd ++ lb S j ++ [UInt8.ofNat (S / 256 ^ j)] = Bd ++ lb S (j + 1) by rw [lb, List.append_assoc])
      rw [E.out] at K
      have KK := Aside0.mk K
      clear K e11 E HC
      go_wp2_with fail
      refine KK.out.mono ?_
      rintro x w11 ⟨rfl, h11⟩
      have H11 := Aside0.mk h11
      clear h11 KK
      go_wp2
      go_roundw
      case rel => exact ⟨j + 1, by go_num, by omega, H11⟩
      case measure => simp [intOf]; omega
    · have hge : j = 4 := by omega
      subst hge
      have E := Aside0.mk (show Bd ++ lb S 4 = sector k g i d.data.toList by rw [sector, HB.out, HS.out])
      rw [E.out] at HC
      go_wp2_with fail
      refine HC.out.string.mono ?_
      rintro x w12 ⟨rfl, h12⟩
      have H12 := Aside0.mk h12.1
      clear h12 HC E
      go_wp2
      go_ret2
      exact ⟨rfl, H12.out⟩
theorem close_long (k g i : Nat) (d : ByteArray) (w : World) (hd : 110 < d.size) :
    Calls Tryd.prog 27 #[.agg (rc k g i d)] w fun e w' => e = .returned (.tuple #[.string ⟨#[]⟩, .int .i64 11]) ∧ Below w.heap.size w w' := by
  have c1 : decide (110 < (d.size : Int)) = true := decide_eq_true (by omega)
  have c2 : decide (110 < d.size) = true := decide_eq_true (by omega)
  have q3 : (w.alloc (.cells (rc k g i d) 64)).cell? ⟨w.heap.size, 3, none⟩ = some (.string d) := Lib.cell_of_heap (heap_alloc_new w (.cells (rc k g i d) 64)) 3
  go_enter Tryd.func27, Tryd.ntmps27
  go_wp2
  go_ret2
  exact ⟨rfl, (Below.refl _ _).alloc (Nat.le_refl _) _⟩
theorem close_calls (k g i : Nat) (d : ByteArray) (w : World) (hk : k < 256) (hg : g < 18446744073709551616) (hi : i < 4294967296) :
    Calls Tryd.prog 27 #[.agg (rc k g i d)] w fun e w' => e = .returned (.tuple #[.string (closeS k g i d).1, .int .i64 (closeS k g i d).2]) ∧ Below w.heap.size w w' := by
  unfold closeS
  by_cases h : d.size > 110
  · rw [if_pos h]; exact close_long k g i d w h
  · rw [if_neg h]; exact close_good k g i d w hk hg hi (by omega)
end Go.Proofs.YtknbhgodhmcemaaDoor.Sl
namespace Go.Proofs.YtknbhgodhmcemaaDoor.Sl
set_option linter.unusedSimpArgs false
set_option maxRecDepth 100000
open Go.RowKit
theorem sector_len (k g i : Nat) (d : List UInt8) (h : d.length ≤ 110) : (sector k g i d).length = 128 := by
  simp [sector, body, head14, be_len, lb_len]; omega
theorem sum_nine : sumN [49, 50, 51, 52, 53, 54, 55, 56, 57] = 3421780262 := by decide +kernel
theorem awake_calls (w : World) : Calls Tryd.prog 42 #[] w fun e w' => e = .returned (.bool true) ∧ Below w.heap.size w w' := by
  have K : ∀ V : World, Calls Tryd.prog 27 #[.agg #[.int .u8 1, .int .u64 0, .int .u32 0, .string ⟨#[]⟩]] V fun e w' => e = .returned (.tuple #[.string ⟨(sector 1 0 0 []).toArray⟩, .int .i64 0]) ∧ Below V.heap.size V w' :=
    fun V => close_good 1 0 0 ⟨#[]⟩ V (by omega) (by omega) (by omega) (by decide)
  have KS : ∀ V : World, Calls Tryd.prog 67 #[.string ⟨#[49, 50, 51, 52, 53, 54, 55, 56, 57]⟩] V fun e w' => e = .returned (.int .u32 3421780262) ∧ V = w' := fun V => by
    have := sum_calls ⟨#[49, 50, 51, 52, 53, 54, 55, 56, 57]⟩ V (by decide)
    rw [show (sumN (⟨#[49, 50, 51, 52, 53, 54, 55, 56, 57]⟩ : ByteArray).data.toList) = 3421780262 from sum_nine] at this
    exact this
  have hl : (⟨(sector 1 0 0 []).toArray⟩ : ByteArray).size = 128 := by show (sector 1 0 0 []).toArray.size = 128; rw [List.size_toArray]; exact sector_len 1 0 0 [] (by simp)
  have KK := Aside0.mk K
  have KKS := Aside0.mk KS
  clear K KS
  generalize (⟨(sector 1 0 0 []).toArray⟩ : ByteArray) = z at hl KK
  have h128 : ((z.size : Int) == 128) = true := by rw [hl]; rfl
  have h128' : (z.size == 128) = true := by rw [hl]; rfl
  clear hl
  go_enter Tryd.func42, Tryd.ntmps42
  go_wp2_with fail
  refine (KK.out _).mono ?_
  rintro x w1 ⟨rfl, h1⟩
  have H1 := Aside0.mk h1
  clear h1
  go_wp2_with fail
  refine (KKS.out _).mono ?_
  rintro x w2 ⟨rfl, rfl⟩
  go_wp2
  go_ret
  exact ⟨rfl, H1.out⟩
end Go.Proofs.YtknbhgodhmcemaaDoor.Sl
namespace Go.Proofs.YtknbhgodhmcemaaDoor.Sl
set_option linter.unusedSimpArgs false
set_option linter.unusedVariables false
set_option maxRecDepth 100000
open Go.RowKit
def blankB (l : List UInt8) : Bool := l.all (· == 0)
theorem dropWhile_nil {α : Type} (p : α → Bool) : ∀ l : List α, (l.dropWhile p).isEmpty = l.all p
  | [] => rfl
  | a :: l => by
    simp only [List.dropWhile, List.all_cons]
    cases h : p a with
    | true => simp [dropWhile_nil p l]
    | false => simp
theorem dropWhile_reverse_all (p : UInt8 → Bool) (l : List UInt8) : ((l.reverse.dropWhile p).reverse).all p = l.all p := by
  have h1 : l.reverse.all p = ((l.reverse.takeWhile p) ++ (l.reverse.dropWhile p)).all p := by rw [List.takeWhile_append_dropWhile]
  rw [List.all_reverse] at h1
  rw [List.all_reverse, h1, List.all_append, List.all_takeWhile, Bool.true_and]
theorem trim_blank (l : List UInt8) : (Lib.trimB l 0).isEmpty = blankB l := by
  unfold Lib.trimB Lib.trimLeftB Lib.trimRightB blankB
  rw [dropWhile_nil, dropWhile_reverse_all]
theorem trim_eq (l : List UInt8) : ((⟨(Lib.trimB l 0).toArray⟩ : ByteArray).toList == (⟨#[]⟩ : ByteArray).toList) = blankB l := by
  rw [← trim_blank]
  have e : (⟨(Lib.trimB l 0).toArray⟩ : ByteArray).toList = Lib.trimB l 0 := by simp
  have e0 : (⟨#[]⟩ : ByteArray).toList = [] := by simp
  rw [e, e0]
  cases Lib.trimB l 0 <;> rfl
theorem blank_calls (s : ByteArray) (w : World) (hs : s.size ≤ 9223372036854775807) :
    Calls Tryd.prog 83 #[.string s] w fun e w' => e = .returned (.bool (blankB s.data.toList)) ∧ (w' = w ∨ w' = w.drew) := by
  have K := Tryd.strings_Trim_one s 0 (by decide) w hs
  have E := Aside0.mk (trim_eq s.data.toList)
  obtain ⟨t, ht⟩ : ∃ t, (⟨(Lib.trimB s.data.toList 0).toArray⟩ : ByteArray) = t := ⟨_, rfl⟩
  rw [ht] at K E
  have KK := Aside0.mk K
  clear K ht
  go_enter Tryd.func83, Tryd.ntmps83
  go_wp2_with fail
  refine KK.out.mono ?_
  rintro x w1 ⟨rfl, h1⟩
  have H1 := Aside0.mk h1
  clear h1
  go_wp2
  go_ret
  refine ⟨?_, H1.out⟩
  rw [← E.out]
  first | rfl | (congr 2; simp)
theorem rblank_calls (s : ByteArray) (w : World) (hs : s.size ≤ 9223372036854775807) :
    Calls Tryd.prog 89 #[.string s] w fun e w' => e = .returned (.bool (blankB s.data.toList)) ∧ w = w' := by
  go_enter Tryd.func89, Tryd.ntmps89
  go_wp2
  go_loop [3] (fun i => ∃ (j : Nat), i = .int .i64 j ∧ j ≤ s.size ∧ Aside0 (blankB (s.data.toList.take j) = true)) (fun i => s.size - (intOf i).toNat)
  case atStart => exact ⟨0, rfl, by omega, ⟨rfl⟩⟩
  case round =>
    obtain ⟨j, rfl, hj, HB⟩ := hrel
    by_cases hlt : j < s.size
    · have hjl : j < s.data.toList.length := by simpa using hlt
      have hn : s.data.toList.take (j + 1) = s.data.toList.take j ++ [s[j]'hlt] := by rw [List.take_succ_eq_append_getElem hjl]; rfl
      by_cases hb : (s[j]'hlt) = 0
      · have t1 : (((s[j]'hlt).toNat : Int) != 0) = false := by rw [hb]; rfl
        have t2 : ((s[j]'hlt).toNat != 0) = false := by rw [hb]; rfl
        have HN := Aside0.mk (show blankB (s.data.toList.take (j + 1)) = true by rw [hn, blankB, List.all_append]; have := HB.out; unfold blankB at this; rw [this, hb]; rfl)
        clear hb hn HB hjl
        go_wp2
        go_round
        case rel => exact ⟨j + 1, by go_num, by omega, HN⟩
        case measure => simp [intOf]; omega
      · have hz : (s[j]'hlt).toNat ≠ 0 := fun e => hb (UInt8.toNat_inj.1 e)
        have t1 : (((s[j]'hlt).toNat : Int) != 0) = true := by simp; omega
        have t2 : ((s[j]'hlt).toNat != 0) = true := by simpa using hz
        have HN := Aside0.mk (show blankB s.data.toList = false by
          rw [blankB, Bool.eq_false_iff]; intro h; rw [List.all_eq_true] at h
          have := h (s[j]'hlt) (by exact List.getElem_mem hjl)
          exact hb (by simpa using this))
        clear hb hn HB hjl hz
        go_wp2
        go_ret
        exact ⟨by rw [HN.out]; rfl, rfl⟩
    · have hge : j = s.size := by omega
      subst hge
      have HN := Aside0.mk (show blankB s.data.toList = true by have := HB.out; rwa [List.take_of_length_le (by simp)] at this)
      clear HB
      go_wp2
      go_ret
      exact ⟨by rw [HN.out]; rfl, rfl⟩
def val (l : List UInt8) : Nat := l.foldl (fun x b => x * 256 + b.toNat) 0
theorem val_snoc (l : List UInt8) (b : UInt8) : val (l ++ [b]) = val l * 256 + b.toNat := by simp [val, List.foldl_append]
theorem val_lt (l : List UInt8) : val l < 256 ^ l.length := by
  have key : ∀ (l : List UInt8) (x : Nat), l.foldl (fun x b => x * 256 + b.toNat) x < (x + 1) * 256 ^ l.length := by
    intro l
    induction l with
    | nil => intro x; simp
    | cons b l ih =>
      intro x
      have h := ih (x * 256 + b.toNat)
      have hb := b.toNat_lt
      rw [List.foldl_cons, List.length_cons, Nat.pow_succ, Nat.mul_comm (256 ^ l.length), ← Nat.mul_assoc]
      exact Nat.lt_of_lt_of_le h (Nat.mul_le_mul_right _ (by omega))
  have := key l 0
  simpa [val] using this
theorem val_take (s : ByteArray) (j : Nat) (h : j < s.size) : val (s.data.toList.take (j + 1)) = val (s.data.toList.take j) * 256 + (s[j]'h).toNat := by
  rw [List.take_succ_eq_append_getElem (by simpa using h), val_snoc]; rfl
theorem or_byte (x b : Nat) (hb : b < 256) : x * 256 ||| b = x * 256 + b := by
  have := Nat.shiftLeft_add_eq_or_of_lt (i := 8) (a := x) (b := b) (by omega)
  rw [Nat.shiftLeft_eq] at this
  exact this.symm
theorem rvalue_calls (s : ByteArray) (w : World) (hs : s.size ≤ 8) :
    Calls Tryd.prog 90 #[.string s] w fun e w' => e = .returned (.int .u64 (val s.data.toList : Nat)) ∧ w = w' := by
  go_enter Tryd.func90, Tryd.ntmps90
  go_wp2
  go_loop [3, 4] (fun v i => ∃ (j : Nat), i = .int .i64 j ∧ j ≤ s.size ∧ v = .int .u64 (val (s.data.toList.take j) : Nat)) (fun _ i => s.size - (intOf i).toNat)
  case atStart => exact ⟨0, rfl, by omega, rfl⟩
  case round =>
    obtain ⟨j, rfl, hj, rfl⟩ := hrel
    by_cases hlt : j < s.size
    · have hb := (s[j]'hlt).toNat_lt
      have hv := val_lt (s.data.toList.take j)
      have hv2 : val (s.data.toList.take j) < 256 ^ 7 := Nat.lt_of_lt_of_le hv (Nat.pow_le_pow_right (by omega) (by rw [List.length_take]; omega))
      have HN := Aside0.mk (val_take s j hlt)
      generalize val (s.data.toList.take j) = X at hv2 HN ⊢
      have hX : X < 72057594037927936 := hv2
      have e1 : ((s[j]'hlt).toNat : Int) % 18446744073709551616 = ((s[j]'hlt).toNat : Int) := by omega
      clear hv hv2
      go_wp2
      go_round
      case rel => exact ⟨j + 1, by go_num, by omega, by rw [HN.out]; push_cast; rfl⟩
      case measure => simp [intOf]; omega
    · have hge : j = s.size := by omega
      subst hge
      have E := Aside0.mk (show val (s.data.toList.take s.size) = val s.data.toList by rw [List.take_of_length_le (by simp)])
      go_wp2
      go_ret
      exact ⟨by rw [E.out]; rfl, rfl⟩
theorem number2_calls (s : ByteArray) (w : World) (hs : s.size ≤ 8) :
    Calls Tryd.prog 84 #[.string s] w fun e w' => e = .returned (.int .u64 (val s.data.toList : Nat)) ∧ w = w' := by
  go_enter Tryd.func84, Tryd.ntmps84
  go_wp2
  go_loop [3, 7] (fun v i => ∃ (j : Nat), i = .int .i64 j ∧ j ≤ s.size ∧ v = .int .u64 (val (s.data.toList.take j) : Nat)) (fun _ i => s.size - (intOf i).toNat)
  case atStart => exact ⟨0, rfl, by omega, rfl⟩
  case round =>
    obtain ⟨j, rfl, hj, rfl⟩ := hrel
    by_cases hlt : j < s.size
    · have hb := (s[j]'hlt).toNat_lt
      have hv := val_lt (s.data.toList.take j)
      have hv2 : val (s.data.toList.take j) < 256 ^ 7 := Nat.lt_of_lt_of_le hv (Nat.pow_le_pow_right (by omega) (by rw [List.length_take]; omega))
      have HN := Aside0.mk (val_take s j hlt)
      generalize val (s.data.toList.take j) = X at hv2 HN ⊢
      have hX : X < 72057594037927936 := hv2
      have e1 : ((s[j]'hlt).toNat : Int) % 18446744073709551616 = ((s[j]'hlt).toNat : Int) := by omega
      have e2 := u64_or_nat (X * 256) (s[j]'hlt).toNat (by omega) (by omega)
      rw [or_byte X _ hb] at e2
      have e3 : ((X * 256 : Nat) : Int) = (X : Int) * 256 := by push_cast; rfl
      rw [e3] at e2
      clear hv hv2 e3
      go_wp2
      go_round
      case rel => exact ⟨j + 1, by go_num, by omega, by rw [HN.out]; push_cast; rfl⟩
      case measure => simp [intOf]; omega
    · have hge : j = s.size := by omega
      subst hge
      have E := Aside0.mk (show val (s.data.toList.take s.size) = val s.data.toList by rw [List.take_of_length_le (by simp)])
      go_wp2
      go_ret
      exact ⟨by rw [E.out]; rfl, rfl⟩
end Go.Proofs.YtknbhgodhmcemaaDoor.Sl
