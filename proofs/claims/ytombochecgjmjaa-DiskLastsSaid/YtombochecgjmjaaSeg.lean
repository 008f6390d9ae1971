/- Laws for a stretch of a block's cells: a whole array or struct inside a greater one, read and written. -/
import Derived.Laws.Rows
import Derived.Laws.Tables
import Derived.Laws.ResultCell
import Derived.Laws.CopyOwn
namespace Go.Proofs.Ytombochecgjmjaa.Seg
section
variable {P : Program}

theorem addr_add (g o j : Nat) : (⟨g, o, none⟩ : Addr).add j = ⟨g, o + j, none⟩ := by unfold Addr.add; split <;> simp_all

theorem run_loadVar_seg (w : World) (g o : Nat) (t ty : TypeId) (cur : Array Value) (fr : Nat × Nat) (vs : List Value) (d : TypeDesc) (hg : w.heap[g]? = some (.cells cur t fr))
    (hv : ∀ j v, vs[j]? = some v → cur[o + j]? = some v) (hu : P.underlying ty = some d) (hd : (match d with | .struct _ | .array _ _ => true | _ => false) = true) (hi : (P.info? ty).map (·.size) = some vs.length) :
    (loadVar ty ⟨g, o, none⟩).run P w = .ok (.agg vs.toArray) w := by
  have hl : (loadCells ⟨g, o, none⟩ vs.length).run P w = .ok vs.toArray w :=
    run_loadCells_list (P := P) w ⟨g, o, none⟩ vs (fun j v h => by
      rw [addr_add, cell_of_row w g (o + j) cur t fr hg]
      exact hv j v h)
  cases hq : P.info? ty with
  | none => simp [hq] at hi
  | some i =>
    have hs : i.size = vs.length := by simpa [hq] using hi
    have hagg : (isAgg ty).run P w = .ok true w := by
      unfold isAgg
      rw [Sem.run_bind, run_underlying hu w]
      cases d <;> simp_all
    simp [loadVar, Sem.run_bind, hagg, sizeOf, typeInfo, hq, hs, hl]

theorem wpList_load_seg {ops : Array Oper} {rest : List Oper} {o : Oper} {a : Act} {w : World} {Q : Exit → Act → World → Prop} (hgd : o.guard = none) (ty : TypeId) (x : Operand) (ho : o.op = .load ty x)
    (g k : Nat) (hx : a.eval x = .pointer (some ⟨g, k, none⟩)) (t : TypeId) (cur : Array Value) (fr : Nat × Nat) (vs : List Value) (d : TypeDesc) (hg : w.heap[g]? = some (.cells cur t fr))
    (hv : ∀ j v, vs[j]? = some v → cur[k + j]? = some v)
    (hu : P.underlying ty = some d) (hd : (match d with | .struct _ | .array _ _ => true | _ => false) = true) (hi : (P.info? ty).map (·.size) = some vs.length)
    (h : wpList P ops Q rest (a.put o.dst (.agg vs.toArray)) w) : wpList P ops Q (o :: rest) a w :=
  wpList_plain hgd fun K hK => by
    unfold Oper.wp execOp
    simp only [ho, hx, Instr.loadAt, Instr.sureAddr, Sem.run_bind, Sem.run_pure, Result.andThen_ok, run_loadVar_seg w g k t ty cur fr vs d hg hv hu hd hi]
    exact hK _ _ h

/-- The cells with a stretch written anew. -/
def spl (cur : Array Value) (o : Nat) (vs : List Value) : Array Value := (cur.toList.take o ++ (vs ++ cur.toList.drop (o + vs.length))).toArray
theorem spl_size (cur : Array Value) (o : Nat) (vs : List Value) (h : o + vs.length ≤ cur.size) : (spl cur o vs).size = cur.size := by
  simp [spl]; omega
theorem spl_get (cur : Array Value) (o : Nat) (vs : List Value) (h : o + vs.length ≤ cur.size) (i : Nat) : (spl cur o vs)[i]? = if o ≤ i ∧ i < o + vs.length then vs[i - o]? else cur[i]? := by
  have hl : cur.toList.length = cur.size := by simp
  have hc : cur[i]? = cur.toList[i]? := by simp
  rw [hc]
  simp only [spl, List.getElem?_toArray, List.getElem?_append, List.length_take, List.getElem?_take, List.getElem?_drop]
  by_cases h1 : i < o
  · rw [if_pos (by omega), if_pos h1, if_neg (by omega)]
  · rw [if_neg (by omega)]
    by_cases h2 : i < o + vs.length
    · rw [if_pos (by omega), if_pos ⟨by omega, h2⟩, show i - min o cur.toList.length = i - o by omega]
    · rw [if_neg (by omega), if_neg (by omega)]
      congr 1; omega

theorem run_storeCells_seg (g o : Nat) (t : TypeId) : ∀ (vs : List Value) (i : Nat) (cur : Array Value) (w : World), w.heap[g]? = some (.cells cur t (0, 0)) → o + i + vs.length ≤ cur.size → (∀ v ∈ vs, v.oneCell' = true) →
    (storeCells ⟨g, o, none⟩ vs i).run P w = .ok () (w.setRow g (spl cur (o + i) vs))
  | [], i, cur, w, hg, hl, _ => by
    have : spl cur (o + i) [] = cur := by simp [spl]
    have hlt : g < w.heap.size := (Array.getElem?_eq_some_iff.1 hg).1
    have hv : w.heap[g] = .cells cur t (0, 0) := (Array.getElem?_eq_some_iff.1 hg).2
    simp only [storeCells, this]
    show Result.ok () w = _
    congr 1
    unfold World.setRow
    cases w with
    | mk heap tape drawn os output =>
      congr 1
      apply Array.ext
      · simp
      · intro k h1 h2
        simp only [Array.getElem_modify]
        split
        · rename_i hk; subst hk; simp at hv; simp [hv]
        · rfl
  | v :: rest, i, cur, w, hg, hl, h1 => by
    have hi : o + i < cur.size := by simp at hl; omega
    have hcell : w.cell? ⟨g, o + i, none⟩ = some cur[o + i] := by simp [World.cell?, hg, hi]
    have hfro : w.frozen? ⟨g, o + i, none⟩ = false := by simp [World.frozen?, hg]
    have hst : (store ((⟨g, o, none⟩ : Addr).add i) v).run P w = .ok () (w.setRow g (cur.setIfInBounds (o + i) v)) := by
      rw [addr_add, run_store P w _ v _ (h1 v (by simp)), hcell]
      simp [hfro, setCell_eq_setRow w g (o + i) cur t (0, 0) v hg]
    have ih := run_storeCells_seg g o t rest (i + 1) (cur.setIfInBounds (o + i) v) (w.setRow g (cur.setIfInBounds (o + i) v)) (setRow_heap w g cur _ t _ hg) (by simp at hl ⊢; omega) (fun x hx => h1 x (by simp [hx]))
    simp only [storeCells, Sem.run_bind, hst, Result.andThen_ok, ih, setRow_setRow]
    congr 2
    apply Array.ext_getElem?
    intro k
    rw [spl_get _ _ _ (by simp at hl ⊢; omega), spl_get _ _ _ (by simp at hl ⊢; omega)]
    by_cases hk : o + i = k
    · subst hk
      rw [if_neg (by omega), if_pos (by simp), Nat.sub_self]
      simp [hi]
    · by_cases hk2 : o + i < k ∧ k < o + i + (rest.length + 1)
      · rw [if_pos (by omega), if_pos (by simp; omega), show k - (o + i) = (k - (o + (i + 1))) + 1 by omega]; simp
      · rw [if_neg (by omega), if_neg (by simp; omega)]
        simp [hk]

theorem run_storeVar_seg (w : World) (g o : Nat) (t ty : TypeId) (cur cells : Array Value) (hg : w.heap[g]? = some (.cells cur t (0, 0))) (hi : (P.info? ty).map (·.size) = some cells.size)
    (ho : o + cells.size ≤ cur.size) (h1 : cells.all (·.oneCell') = true) :
    (storeVar ty ⟨g, o, none⟩ (.agg cells)).run P w = .ok () (w.setRow g (spl cur o cells.toList)) := by
  have := run_storeCells_seg (P := P) g o t cells.toList 0 cur w hg (by simp; omega) (fun v hv => (Array.all_eq_true_iff_forall_mem.1 h1) v (by simpa using hv))
  cases hq : P.info? ty with
  | none => simp [hq] at hi
  | some i =>
    have hs : cells.size = i.size := by simp [hq] at hi; omega
    simp [storeVar, sizeOf, typeInfo, hq, Value.cells, hs, this]

theorem wpList_store_seg {ops : Array Oper} {rest : List Oper} {o : Oper} {a : Act} {w : World} {Q : Exit → Act → World → Prop} (hgd : o.guard = none) (ty : TypeId) (x y : Operand) (ho : o.op = .store ty x y)
    (g k : Nat) (cells : Array Value) (hx : a.eval x = .pointer (some ⟨g, k, none⟩)) (hy : a.eval y = .agg cells)
    (t : TypeId) (cur : Array Value) (hg : w.heap[g]? = some (.cells cur t (0, 0))) (hi : (P.info? ty).map (·.size) = some cells.size)
    (hold : k + cells.size ≤ cur.size) (h1 : cells.all (·.oneCell') = true)
    (h : wpList P ops Q rest (a.put o.dst undef) (w.setRow g (spl cur k cells.toList))) : wpList P ops Q (o :: rest) a w :=
  wpList_plain hgd fun K hK => by
    unfold Oper.wp execOp
    simp only [ho, hx, hy, Instr.storeAt, Instr.sureAddr, Sem.run_bind, Sem.run_pure, Result.andThen_ok, run_storeVar_seg w g k t ty cur cells hg hi hold h1]
    exact hK _ _ h
end
end Go.Proofs.Ytombochecgjmjaa.Seg
