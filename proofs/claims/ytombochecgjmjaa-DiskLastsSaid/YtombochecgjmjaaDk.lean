/- A disk, in memory. -/
import Derived.Test.YtombochecgjmjaaProg
import Derived.Test.YtombochecgjmjaaDkP
import Derived.Test.YtombochecgjmjaaOwn
import Derived.Maps.Own
import Derived.Maps.OwnOps
import Derived.Maps.OwnSet
import Derived.Maps.Views
namespace Go.Proofs.Ytombochecgjmjaa.Dk
set_option linter.unusedSimpArgs false
set_option linter.unusedVariables false
open Go.RowKit Go.Proofs.Ytombochecgjmjaa.Own Go.Proofs.Ytombochecgjmjaa.Cel

/-- The cells of writes. -/
def wcells : List Wt → List Value
  | [] => []
  | x :: r => .int .i64 (x.1 : Nat) :: .string x.2 :: wcells r
theorem wcells_len : ∀ l : List Wt, (wcells l).length = l.length * 2
  | [] => rfl
  | x :: r => by rw [wcells, List.length_cons, List.length_cons, wcells_len r, List.length_cons]; omega
theorem wcells_append : ∀ a b : List Wt, wcells (a ++ b) = wcells a ++ wcells b
  | [], _ => rfl
  | x :: r, b => by rw [List.cons_append, wcells, wcells, wcells_append r b]; rfl
theorem wcells_get0 : ∀ (l : List Wt) (j : Nat) (h : j < l.length), (wcells l)[2 * j]? = some (.int .i64 ((l[j]'h).1 : Nat))
  | x :: r, 0, _ => rfl
  | x :: r, j + 1, h => by
    have := wcells_get0 r j (by simpa using h)
    rw [wcells, show 2 * (j + 1) = 2 * j + 1 + 1 by omega, List.getElem?_cons_succ, List.getElem?_cons_succ, this]; rfl
theorem wcells_get1 : ∀ (l : List Wt) (j : Nat) (h : j < l.length), (wcells l)[2 * j + 1]? = some (.string (l[j]'h).2)
  | x :: r, 0, _ => rfl
  | x :: r, j + 1, h => by
    have := wcells_get1 r j (by simpa using h)
    rw [wcells, show 2 * (j + 1) + 1 = 2 * j + 1 + 1 + 1 by omega, List.getElem?_cons_succ, List.getElem?_cons_succ, this]; rfl
theorem wcells_one : ∀ (l : List Wt), ∀ v ∈ wcells l, v.oneCell' = true
  | [], v, h => by cases h
  | x :: r, v, h => by
    rw [wcells] at h
    rcases List.mem_cons.1 h with rfl | h
    · rfl
    · rcases List.mem_cons.1 h with rfl | h
      · rfl
      · exact wcells_one r v h

/-- A row stays where its block stays. -/
theorem owns_block {W W' : World} {base : Nat} {e : TypeId} {sz n : Nat} {v : Value} {xs : List Value} (h : W.ownsRow base e sz v n xs) (hb : ∀ g, v.ownBlock = some g → W'.heap[g]? = W.heap[g]?) : W'.ownsRow base e sz v n xs := by
  refine ⟨h.1, ?_⟩
  rcases h.2 with h' | ⟨g, cap, cur, rfl, h1, h2, h3⟩
  · exact .inl h'
  · exact .inr ⟨g, cap, cur, rfl, h1, (hb g rfl).trans h2, h3⟩
/-- What lies in a row's block. -/
theorem owns_type {W : World} {base : Nat} {e : TypeId} {sz n : Nat} {v : Value} {xs : List Value} (h : W.ownsRow base e sz v n xs) {g : Nat} (hg : v.ownBlock = some g) : ∃ cur, W.heap[g]? = some (.cells cur e (0, 0)) ∧ base ≤ g := by
  rcases h.2 with ⟨rfl, _⟩ | ⟨g', cap, cur, rfl, h1, h2, _⟩
  · cases hg
  · cases hg; exact ⟨cur, h2, h1⟩
theorem cells_ne {W : World} {a b : Nat} {x y : Array Value} {s t : TypeId} {f f' : Nat × Nat} (ha : W.heap[a]? = some (.cells x s f)) (hb : W.heap[b]? = some (.cells y t f')) (h : s ≠ t) : a ≠ b := by
  intro e
  subst e
  rw [ha] at hb
  simp only [Option.some.injEq, Obj.cells.injEq] at hb
  exact h hb.2.1
theorem map_ne {W : World} {a b : Nat} {x : Array Value} {s : TypeId} {f : Nat × Nat} {es : Array MapEntry} {c : Nat} (ha : W.heap[a]? = some (.cells x s f)) (hb : W.heap[b]? = some (.map es c)) : a ≠ b := by
  intro e
  subst e
  rw [ha] at hb
  cases hb

/-- The disk's box, its rows and its map. -/
structure DR (B p lb lc rb rc mb : Nat) (wv : Value) (ls rs : List ByteArray) (ws : List Wt) (m : Nat → Nat) (N : Nat) (a o : Int) (W : World) : Prop where
  box : W.heap[p]? = some (.cells #[.slice (some ⟨lb, 0, none⟩) ls.length lc, wv, .map (some mb), .int .i64 a, .int .i64 o, .slice (some ⟨rb, 0, none⟩) ls.length rc] 63 (0, 0))
  hl : W.ownsRow B 9 1 (.slice (some ⟨lb, 0, none⟩) ls.length lc) ls.length (strs ls)
  hr : W.ownsRow B 9 1 (.slice (some ⟨rb, 0, none⟩) ls.length rc) ls.length (strs rs)
  hw : W.ownsRow B 68 2 wv ws.length (wcells ws)
  mp : ∃ (n : Nat) (D : DataW Unit), W.ownsMap Try.prog 3 (plainElem Try.prog 3) mb n D ∧ n ≤ N ∧ ∀ i : Nat, D.atKey (.int .i64 (i : Int)) (.lit (.int .i64 0)) = .lit (.int .i64 ((m i : Nat) : Int))
  hp : B ≤ p
  hm : B ≤ mb
  ne : lb ≠ rb
/-- Its blocks. -/
def FP (p lb rb mb : Nat) (wv : Value) (k : Nat) : Prop := k = p ∨ k = mb ∨ k = lb ∨ k = rb ∨ wv.ownBlock = some k

variable {B p lb lc rb rc mb : Nat} {wv : Value} {ls rs : List ByteArray} {ws : List Wt} {m : Nat → Nat} {N : Nat} {a o : Int} {W W' : World}
theorem DR.lb_at (h : DR B p lb lc rb rc mb wv ls rs ws m N a o W) : ∃ cur, W.heap[lb]? = some (.cells cur 9 (0, 0)) ∧ B ≤ lb := owns_type h.hl rfl
theorem DR.rb_at (h : DR B p lb lc rb rc mb wv ls rs ws m N a o W) : ∃ cur, W.heap[rb]? = some (.cells cur 9 (0, 0)) ∧ B ≤ rb := owns_type h.hr rfl
theorem DR.wb_at (h : DR B p lb lc rb rc mb wv ls rs ws m N a o W) {k : Nat} (hk : wv.ownBlock = some k) : ∃ cur, W.heap[k]? = some (.cells cur 68 (0, 0)) ∧ B ≤ k := owns_type h.hw hk
theorem DR.mb_at (h : DR B p lb lc rb rc mb wv ls rs ws m N a o W) : ∃ es c, W.heap[mb]? = some (.map es c) := by
  obtain ⟨n, D, ⟨es, c, h1, _⟩, _⟩ := h.mp
  exact ⟨es, c, h1⟩
theorem DR.rlen (h : DR B p lb lc rb rc mb wv ls rs ws m N a o W) : rs.length = ls.length := by
  have := h.hr.1
  rw [strs_len] at this; omega
theorem DR.lt (h : DR B p lb lc rb rc mb wv ls rs ws m N a o W) {k : Nat} (hk : FP p lb rb mb wv k) : B ≤ k ∧ k < W.heap.size := by
  rcases hk with rfl | rfl | rfl | rfl | hk
  · exact ⟨h.hp, (Array.getElem?_eq_some_iff.1 h.box).1⟩
  · obtain ⟨es, c, h1⟩ := h.mb_at
    exact ⟨h.hm, (Array.getElem?_eq_some_iff.1 h1).1⟩
  · obtain ⟨c, h1, h2⟩ := h.lb_at
    exact ⟨h2, (Array.getElem?_eq_some_iff.1 h1).1⟩
  · obtain ⟨c, h1, h2⟩ := h.rb_at
    exact ⟨h2, (Array.getElem?_eq_some_iff.1 h1).1⟩
  · obtain ⟨c, h1, h2⟩ := h.wb_at hk
    exact ⟨h2, (Array.getElem?_eq_some_iff.1 h1).1⟩
theorem DR.keep (h : DR B p lb lc rb rc mb wv ls rs ws m N a o W) (hk : ∀ k, FP p lb rb mb wv k → W'.heap[k]? = W.heap[k]?) : DR B p lb lc rb rc mb wv ls rs ws m N a o W' := by
  refine ⟨(hk p (.inl rfl)).trans h.box, owns_block h.hl (fun g e => ?_), owns_block h.hr (fun g e => ?_), owns_block h.hw (fun g e => hk g (.inr (.inr (.inr (.inr e))))), ?_, h.hp, h.hm, h.ne⟩
  · obtain rfl : lb = g := by simpa [Value.ownBlock] using e
    exact hk lb (.inr (.inr (.inl rfl)))
  · obtain rfl : rb = g := by simpa [Value.ownBlock] using e
    exact hk rb (.inr (.inr (.inr (.inl rfl))))
  · obtain ⟨n, D, ⟨es, c, h1, h2⟩, h3⟩ := h.mp
    exact ⟨n, D, ⟨es, c, (hk mb (.inr (.inl rfl))).trans h1, h2⟩, h3⟩
theorem DR.below (h : DR B p lb lc rb rc mb wv ls rs ws m N a o W) (hb : Below W.heap.size W W') : DR B p lb lc rb rc mb wv ls rs ws m N a o W' :=
  h.keep (fun k hk => hb.block k (h.lt hk).2)
theorem set_other (w : World) (a : Addr) (u : Value) (k : Nat) (h : k ≠ a.block) : (w.setCell a u).heap[k]? = w.heap[k]? := Below.heap_setCell w a u k h
theorem DR.p_lb (h : DR B p lb lc rb rc mb wv ls rs ws m N a o W) : p ≠ lb := by
  obtain ⟨c, h1, _⟩ := h.lb_at
  exact cells_ne h.box h1 (by decide)
theorem DR.p_rb (h : DR B p lb lc rb rc mb wv ls rs ws m N a o W) : p ≠ rb := by
  obtain ⟨c, h1, _⟩ := h.rb_at
  exact cells_ne h.box h1 (by decide)
theorem DR.p_wb (h : DR B p lb lc rb rc mb wv ls rs ws m N a o W) {k : Nat} (hk : wv.ownBlock = some k) : p ≠ k := by
  obtain ⟨c, h1, _⟩ := h.wb_at hk
  exact cells_ne h.box h1 (by decide)
theorem DR.p_mb (h : DR B p lb lc rb rc mb wv ls rs ws m N a o W) : p ≠ mb := by
  obtain ⟨es, c, h1⟩ := h.mb_at
  exact map_ne h.box h1
theorem DR.lb_wb (h : DR B p lb lc rb rc mb wv ls rs ws m N a o W) {k : Nat} (hk : wv.ownBlock = some k) : lb ≠ k := by
  obtain ⟨c, h1, _⟩ := h.wb_at hk
  obtain ⟨c2, h2, _⟩ := h.lb_at
  exact cells_ne h2 h1 (by decide)
theorem DR.rb_wb (h : DR B p lb lc rb rc mb wv ls rs ws m N a o W) {k : Nat} (hk : wv.ownBlock = some k) : rb ≠ k := by
  obtain ⟨c, h1, _⟩ := h.wb_at hk
  obtain ⟨c2, h2, _⟩ := h.rb_at
  exact cells_ne h2 h1 (by decide)
theorem DR.lb_mb (h : DR B p lb lc rb rc mb wv ls rs ws m N a o W) : lb ≠ mb := by
  obtain ⟨es, c, h1⟩ := h.mb_at
  obtain ⟨c2, h2, _⟩ := h.lb_at
  exact map_ne h2 h1
theorem DR.rb_mb (h : DR B p lb lc rb rc mb wv ls rs ws m N a o W) : rb ≠ mb := by
  obtain ⟨es, c, h1⟩ := h.mb_at
  obtain ⟨c2, h2, _⟩ := h.rb_at
  exact map_ne h2 h1
theorem DR.wb_mb (h : DR B p lb lc rb rc mb wv ls rs ws m N a o W) {k : Nat} (hk : wv.ownBlock = some k) : k ≠ mb := by
  obtain ⟨es, c, h1⟩ := h.mb_at
  obtain ⟨c2, h2, _⟩ := h.wb_at hk
  exact map_ne h2 h1
/-- Behind a store into the box everything else is as it was. -/
theorem DR.box_put (h : DR B p lb lc rb rc mb wv ls rs ws m N a o W) (j : Nat) (u : Value) :
    (W.setCell ⟨p, j, none⟩ u).heap[p]? = some (.cells (#[.slice (some ⟨lb, 0, none⟩) ls.length lc, wv, .map (some mb), .int .i64 a, .int .i64 o, .slice (some ⟨rb, 0, none⟩) ls.length rc].setIfInBounds j u) 63 (0, 0)) ∧
    (∀ k, k ≠ p → (W.setCell ⟨p, j, none⟩ u).heap[k]? = W.heap[k]?) :=
  ⟨heap_setCell_same W p j _ _ u h.box, fun k hk => set_other W _ u k hk⟩
theorem DR.setA (h : DR B p lb lc rb rc mb wv ls rs ws m N a o W) (a' : Int) : DR B p lb lc rb rc mb wv ls rs ws m N a' o (W.setCell ⟨p, 3, none⟩ (.int .i64 a')) := by
  obtain ⟨h1, h2⟩ := h.box_put 3 (.int .i64 a')
  refine ⟨h1, owns_block h.hl (fun g e => h2 g ?_), owns_block h.hr (fun g e => h2 g ?_), owns_block h.hw (fun g e => h2 g (h.p_wb e).symm), ?_, h.hp, h.hm, h.ne⟩
  · obtain rfl : lb = g := by simpa [Value.ownBlock] using e
    exact h.p_lb.symm
  · obtain rfl : rb = g := by simpa [Value.ownBlock] using e
    exact h.p_rb.symm
  · obtain ⟨n, D, ⟨es, c, e1, e2⟩, h3⟩ := h.mp
    exact ⟨n, D, ⟨es, c, (h2 mb h.p_mb.symm).trans e1, e2⟩, h3⟩
theorem DR.setO (h : DR B p lb lc rb rc mb wv ls rs ws m N a o W) (o' : Int) : DR B p lb lc rb rc mb wv ls rs ws m N a o' (W.setCell ⟨p, 4, none⟩ (.int .i64 o')) := by
  obtain ⟨h1, h2⟩ := h.box_put 4 (.int .i64 o')
  refine ⟨h1, owns_block h.hl (fun g e => h2 g ?_), owns_block h.hr (fun g e => h2 g ?_), owns_block h.hw (fun g e => h2 g (h.p_wb e).symm), ?_, h.hp, h.hm, h.ne⟩
  · obtain rfl : lb = g := by simpa [Value.ownBlock] using e
    exact h.p_lb.symm
  · obtain rfl : rb = g := by simpa [Value.ownBlock] using e
    exact h.p_rb.symm
  · obtain ⟨n, D, ⟨es, c, e1, e2⟩, h3⟩ := h.mp
    exact ⟨n, D, ⟨es, c, (h2 mb h.p_mb.symm).trans e1, e2⟩, h3⟩
theorem DR.setW (h : DR B p lb lc rb rc mb wv ls rs ws m N a o W) (wv' : Value) (ws' : List Wt) (hw' : W.ownsRow B 68 2 wv' ws'.length (wcells ws')) : DR B p lb lc rb rc mb wv' ls rs ws' m N a o (W.setCell ⟨p, 1, none⟩ wv') := by
  obtain ⟨h1, h2⟩ := h.box_put 1 wv'
  refine ⟨h1, owns_block h.hl (fun g e => h2 g ?_), owns_block h.hr (fun g e => h2 g ?_), owns_block hw' (fun g e => h2 g ?_), ?_, h.hp, h.hm, h.ne⟩
  · obtain rfl : lb = g := by simpa [Value.ownBlock] using e
    exact h.p_lb.symm
  · obtain rfl : rb = g := by simpa [Value.ownBlock] using e
    exact h.p_rb.symm
  · obtain ⟨c, h5, _⟩ := owns_type hw' e
    exact (cells_ne h.box h5 (by decide)).symm
  · obtain ⟨n, D, ⟨es, c, e1, e2⟩, h3⟩ := h.mp
    exact ⟨n, D, ⟨es, c, (h2 mb h.p_mb.symm).trans e1, e2⟩, h3⟩
theorem DR.setR (h : DR B p lb lc rb rc mb wv ls rs ws m N a o W) (i : Nat) (s : ByteArray) : DR B p lb lc rb rc mb wv ls (rs.set i s) ws m N a o (W.setCell ⟨rb, i, none⟩ (.string s)) := by
  have h2 : ∀ k, k ≠ rb → (W.setCell ⟨rb, i, none⟩ (.string s)).heap[k]? = W.heap[k]? := fun k hk => set_other W _ _ k hk
  refine ⟨(h2 p h.p_rb).trans h.box, owns_block h.hl (fun g e => h2 g ?_), ?_, owns_block h.hw (fun g e => h2 g (h.rb_wb e).symm), ?_, h.hp, h.hm, h.ne⟩
  · obtain rfl : lb = g := by simpa [Value.ownBlock] using e
    exact h.ne
  · rw [← strs_set]; exact (h.hr.stored i (.string s)).1
  · obtain ⟨n, D, ⟨es, c, e1, e2⟩, h3⟩ := h.mp
    exact ⟨n, D, ⟨es, c, (h2 mb h.rb_mb.symm).trans e1, e2⟩, h3⟩
theorem DR.setL (h : DR B p lb lc rb rc mb wv ls rs ws m N a o W) (i : Nat) (s : ByteArray) : DR B p lb lc rb rc mb wv (ls.set i s) rs ws m N a o (W.setCell ⟨lb, i, none⟩ (.string s)) := by
  have h2 : ∀ k, k ≠ lb → (W.setCell ⟨lb, i, none⟩ (.string s)).heap[k]? = W.heap[k]? := fun k hk => set_other W _ _ k hk
  have e : (ls.set i s).length = ls.length := by simp
  refine ⟨by rw [e]; exact (h2 p h.p_lb).trans h.box, ?_, ?_, owns_block h.hw (fun g e => h2 g (h.lb_wb e).symm), ?_, h.hp, h.hm, h.ne⟩
  · rw [e, ← strs_set]; exact (h.hl.stored i (.string s)).1
  · rw [e]
    refine owns_block h.hr (fun g e => h2 g ?_)
    obtain rfl : rb = g := by simpa [Value.ownBlock] using e
    exact h.ne.symm
  · obtain ⟨n, D, ⟨es, c, e1, e2⟩, h3⟩ := h.mp
    exact ⟨n, D, ⟨es, c, (h2 mb h.lb_mb.symm).trans e1, e2⟩, h3⟩
/-- Behind a change of the map. -/
theorem DR.setM (h : DR B p lb lc rb rc mb wv ls rs ws m N a o W) {m' : Nat → Nat} {N' : Nat} (hg : W.grownBy W' (some mb))
    (hm : ∃ (n : Nat) (D : DataW Unit), W'.ownsMap Try.prog 3 (plainElem Try.prog 3) mb n D ∧ n ≤ N' ∧ ∀ i : Nat, D.atKey (.int .i64 (i : Int)) (.lit (.int .i64 0)) = .lit (.int .i64 ((m' i : Nat) : Int))) :
    DR B p lb lc rb rc mb wv ls rs ws m' N' a o W' := by
  have h2 : ∀ k, FP p lb rb mb wv k → k ≠ mb → W'.heap[k]? = W.heap[k]? := fun k hk hne => hg.block k (h.lt hk).2 (fun e => hne (by simpa using e))
  refine ⟨(h2 p (.inl rfl) h.p_mb).trans h.box, owns_block h.hl (fun g e => ?_), owns_block h.hr (fun g e => ?_), owns_block h.hw (fun g e => h2 g (.inr (.inr (.inr (.inr e)))) (h.wb_mb e)), hm, h.hp, h.hm, h.ne⟩
  · obtain rfl : lb = g := by simpa [Value.ownBlock] using e
    exact h2 lb (.inr (.inr (.inl rfl))) h.lb_mb
  · obtain rfl : rb = g := by simpa [Value.ownBlock] using e
    exact h2 rb (.inr (.inr (.inr (.inl rfl)))) h.rb_mb
theorem DR.cell (h : DR B p lb lc rb rc mb wv ls rs ws m N a o W) (j : Nat) : W.cell? ⟨p, j, none⟩ = #[.slice (some ⟨lb, 0, none⟩) ls.length lc, wv, .map (some mb), .int .i64 a, .int .i64 o, .slice (some ⟨rb, 0, none⟩) ls.length rc][j]? := cell_of_row W p j _ _ _ h.box
theorem DR.frozen (h : DR B p lb lc rb rc mb wv ls rs ws m N a o W) (j : Nat) : W.frozen? ⟨p, j, none⟩ = false := frozen_of_row W p j _ _ h.box

/-- A disk. -/
def DK (B p : Nat) (S : DS) (F : Nat → Prop) (W : World) : Prop :=
  ∃ lb lc rb rc mb wv, DR B p lb lc rb rc mb wv S.lasts S.read S.waits (fun i => cnt i S.waits) S.waits.length S.armed S.ops W ∧ (∀ k, F k ↔ FP p lb rb mb wv k)
/-- Nothing but the blocks F has changed; new ones may be there. -/
structure Only (F : Nat → Prop) (W W' : World) : Prop where
  os : W'.os = W.os
  tape : W'.tape = W.tape
  output : W'.output = W.output
  size : W.heap.size ≤ W'.heap.size
  block : ∀ k, k < W.heap.size → ¬ F k → W'.heap[k]? = W.heap[k]?
theorem Only.refl (F : Nat → Prop) (W : World) : Only F W W := ⟨rfl, rfl, rfl, Nat.le_refl _, fun _ _ _ => rfl⟩
theorem Only.trans {F F' : Nat → Prop} {a b c : World} (h : Only F a b) (k : Only F' b c) (hF : ∀ i, F' i → F i ∨ a.heap.size ≤ i) : Only F a c :=
  ⟨k.os.trans h.os, k.tape.trans h.tape, k.output.trans h.output, Nat.le_trans h.size k.size, fun i hi hn => (k.block i (Nat.lt_of_lt_of_le hi h.size) (fun e => (hF i e).elim hn (fun e => by omega))).trans (h.block i hi hn)⟩
theorem Only.below {F : Nat → Prop} {a b : World} {B : Nat} (h : Only F a b) (hF : ∀ k, F k → B ≤ k) (hB : B ≤ a.heap.size) : Below B a b :=
  ⟨h.os, h.tape, h.output, h.size, fun k hk => h.block k (by omega) (fun e => by have := hF k e; omega)⟩
theorem only_below {F : Nat → Prop} {a b : World} (h : Below a.heap.size a b) : Only F a b := ⟨h.os, h.tape, h.output, h.size, fun k hk _ => h.block k hk⟩
theorem only_set {F : Nat → Prop} {W : World} (x : Addr) (u : Value) (h : F x.block) : Only F W (W.setCell x u) :=
  ⟨rfl, rfl, rfl, by simp [World.setCell], fun k _ hn => set_other W x u k (fun e => hn (e ▸ h))⟩
theorem only_grown {F : Nat → Prop} {W W' : World} {row : Option Nat} (h : W.grownBy W' row) (hF : ∀ k, row = some k → F k) : Only F W W' :=
  ⟨h.os, h.tape, h.output, h.size, fun k hk hn => h.block k hk (fun e => hn (hF k e.symm))⟩
/-- The disk behind. -/
def Did (B p : Nat) (S' : DS) (F : Nat → Prop) (W W' : World) : Prop := ∃ F', DK B p S' F' W' ∧ Only F W W' ∧ ∀ k, F' k → F k ∨ W.heap.size ≤ k
theorem DK.lt {B p : Nat} {S : DS} {F : Nat → Prop} {W : World} (h : DK B p S F W) {k : Nat} (hk : F k) : B ≤ k ∧ k < W.heap.size := by
  obtain ⟨lb, lc, rb, rc, mb, wv, h1, h2⟩ := h
  exact h1.lt ((h2 k).1 hk)
theorem DK.keep {B p : Nat} {S : DS} {F : Nat → Prop} {W W' : World} (h : DK B p S F W) (hk : ∀ k, F k → W'.heap[k]? = W.heap[k]?) : DK B p S F W' := by
  obtain ⟨lb, lc, rb, rc, mb, wv, h1, h2⟩ := h
  exact ⟨lb, lc, rb, rc, mb, wv, h1.keep (fun k e => hk k ((h2 k).2 e)), h2⟩
theorem DK.below {B p : Nat} {S : DS} {F : Nat → Prop} {W W' : World} (h : DK B p S F W) (hb : Below W.heap.size W W') : DK B p S F W' := h.keep (fun k hk => hb.block k (h.lt hk).2)
theorem DK.hp {B p : Nat} {S : DS} {F : Nat → Prop} {W : World} (h : DK B p S F W) : F p := by
  obtain ⟨lb, lc, rb, rc, mb, wv, h1, h2⟩ := h
  exact (h2 p).2 (.inl rfl)
theorem Did.below {B p : Nat} {S S' : DS} {F : Nat → Prop} {W W' : World} (h : Did B p S' F W W') (h0 : DK B p S F W) : Below B W W' := by
  obtain ⟨F', h1, h2, h3⟩ := h
  exact h2.below (fun k hk => (h0.lt hk).1) (Nat.le_of_lt (Nat.lt_of_le_of_lt (h0.lt h0.hp).1 (h0.lt h0.hp).2))
end Go.Proofs.Ytombochecgjmjaa.Dk
