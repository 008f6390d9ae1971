/- A new disk. -/
import Derived.Test.YtombochecgjmjaaDkFill
import Derived.Test.YtombochecgjmjaaRep
namespace Go.Proofs.Ytombochecgjmjaa.Dk
set_option linter.unusedSimpArgs false
set_option linter.unusedVariables false
open Go.RowKit Go.Proofs.Ytombochecgjmjaa.Own Go.Proofs.Ytombochecgjmjaa.Cel

theorem owns_mono {W : World} {base base' : Nat} {e : TypeId} {sz n : Nat} {v : Value} {xs : List Value} (h : W.ownsRow base e sz v n xs) (hb : base' ≤ base) : W.ownsRow base' e sz v n xs := by
  refine ⟨h.1, ?_⟩
  rcases h.2 with h' | ⟨g, cap, cur, rfl, h1, h2⟩
  · exact .inl h'
  · exact .inr ⟨g, cap, cur, rfl, Nat.le_trans hb h1, h2⟩
theorem infoS : (Try.prog.info? 9).map (fun i => (i.zero, i.size, i.bytes)) = some (some (.string ⟨#[]⟩), 1, 16) := by kernel_rfl

set_option maxRecDepth 100000 in
theorem new_bad (n : Int) (w : World) (h : n < 1 ∨ 4096 < n) : Calls Try.prog 10 #[.int .i64 n] w fun e w' => e = .returned (.tuple #[.pointer none, .int .i64 5]) ∧ w = w' := by
  by_cases a : n < 1
  · go_enter Try.func10, Try.ntmps10
    go_wp2
    go_ret2
    exact ⟨rfl, rfl⟩
  · have b : 4096 < n := by omega
    have a' : decide (n < 1) = false := decide_eq_false a
    clear h
    go_enter Try.func10, Try.ntmps10
    go_wp2
    go_ret2
    exact ⟨rfl, rfl⟩

/-- What New has in its loop. -/
def NB (w : World) (j : Nat) (lv : Value) (W : World) : Prop :=
  Below w.heap.size w W ∧ W.heap[w.heap.size + 1]? = some (.cells #[lv, .slice none 0 0, .map (some w.heap.size), .int .i64 0, .int .i64 0, .slice none 0 0] 63 (0, 0)) ∧
    W.ownsRow (w.heap.size + 2) 9 1 lv j (strs (List.replicate j (sect 0))) ∧ W.heap[w.heap.size]? = some (.map #[] 0)
theorem NB.step {w W W' : World} {j : Nat} {lv : Value} (h : NB w j lv W) (hb : Below W.heap.size W W') : NB w j lv W' :=
  ⟨h.1.trans (hb.mono h.1.size), keep h.2.1 hb, owns_keep h.2.2.1 hb, keep h.2.2.2 hb⟩
theorem NB.cell {w W : World} {j : Nat} {lv : Value} (h : NB w j lv W) (k : Nat) : W.cell? ⟨w.heap.size + 1, k, none⟩ = #[lv, .slice none 0 0, .map (some w.heap.size), .int .i64 0, .int .i64 0, .slice none 0 0][k]? := cell_of_row _ _ _ _ _ _ h.2.1
theorem NB.frozen {w W : World} {j : Nat} {lv : Value} (h : NB w j lv W) (k : Nat) : W.frozen? ⟨w.heap.size + 1, k, none⟩ = false := frozen_of_row W _ k _ _ h.2.1
theorem NB.size {w W : World} {j : Nat} {lv : Value} (h : NB w j lv W) : w.heap.size + 2 ≤ W.heap.size := (Array.getElem?_eq_some_iff.1 h.2.1).1
/-- Behind an append, ahead of its store. -/
theorem NB.grown {w W W' : World} {j : Nat} {lv : Value} (h : NB w j lv W) (hg : W.grownBy W' lv.ownBlock) :
    Below w.heap.size w W' ∧ W'.heap[w.heap.size + 1]? = some (.cells #[lv, .slice none 0 0, .map (some w.heap.size), .int .i64 0, .int .i64 0, .slice none 0 0] 63 (0, 0)) ∧ W'.heap[w.heap.size]? = some (.map #[] 0) := by
  have hs := h.size
  have hl := fun k (e : lv.ownBlock = some k) => (h.2.2.1.lt k e).1
  refine ⟨h.1.grown hg h.1.size (fun k e => by have := hl k e; omega), (hg.block _ (by omega) (fun e => ?_)).trans h.2.1, (hg.block _ (by omega) (fun e => ?_)).trans h.2.2.2⟩
  · have := hl _ e.symm; omega
  · have := hl _ e.symm; omega
theorem NB.put {w W' : World} {lv lv' : Value} {j : Nat}
    (h : Below w.heap.size w W' ∧ W'.heap[w.heap.size + 1]? = some (.cells #[lv, .slice none 0 0, .map (some w.heap.size), .int .i64 0, .int .i64 0, .slice none 0 0] 63 (0, 0)) ∧ W'.heap[w.heap.size]? = some (.map #[] 0))
    (ho : W'.ownsRow (w.heap.size + 2) 9 1 lv' j (strs (List.replicate j (sect 0)))) : NB w j lv' (W'.setCell ⟨w.heap.size + 1, 0, none⟩ lv') := by
  refine ⟨h.1.setCell (by show w.heap.size ≤ w.heap.size + 1; omega) _, heap_setCell_same W' _ 0 _ _ lv' h.2.1, owns_block ho (fun g e => set_other _ _ _ _ ?_), (set_other _ _ _ _ ?_).trans h.2.2⟩
  · have := (ho.lt g e).1
    show g ≠ w.heap.size + 1
    omega
  · show w.heap.size ≠ w.heap.size + 1
    omega
theorem map_new {W : World} {b : Nat} (h : W.heap[b]? = some (.map #[] 0)) : W.ownsMap (H := Unit) Try.prog 3 (plainElem Try.prog 3) b 0 (.map []) :=
  ⟨#[], 0, h, ⟨by simp, Go.MapKept.stamped_empty 0, by simp⟩, Nat.le_refl _, rfl⟩

set_option maxRecDepth 100000 in
set_option maxHeartbeats 1000000 in
theorem new_good (n : Nat) (w : World) (h1 : 1 ≤ n) (h2 : n ≤ 4096) : Calls Try.prog 10 #[.int .i64 (n : Nat)] w fun e w' => ∃ p F, e = .returned (.tuple #[.pointer (some ⟨p, 0, none⟩), .int .i64 0]) ∧
    DK w.heap.size p ⟨List.replicate n (sect 0), [], 0, 0⟩ F w' ∧ Below w.heap.size w w' := by
  obtain ⟨i0, hi0, hz0, hz1, hz2⟩ := info_parts infoS
  have a1 : (1 : Int) ≤ (n : Int) := by omega
  have a2 : (n : Int) ≤ 4096 := by omega
  have KR := Aside0.mk (fun V => Go.Proofs.Ytombochecgjmjaa.Rep.repeat_calls ⟨#[0]⟩ 128 V (by omega) (by decide) (by decide))
  rw [show (⟨(Lib.repeatL (⟨#[0]⟩ : ByteArray).data.toList 128).toArray⟩ : ByteArray) = sect 0 by decide +kernel] at KR
  have HN := Aside0.mk (show NB w 0 (.slice none 0 0) ((w.alloc (.map #[] 0)).alloc (.cells #[.slice none 0 0, .slice none 0 0, .map (some w.heap.size), .int .i64 0, .int .i64 0, .slice none 0 0] 63)) from
    ⟨((Below.refl _ _).alloc (Nat.le_refl _) _).alloc (by simp) _, by have := heap_alloc_new (w.alloc (.map #[] 0)) (.cells #[.slice none 0 0, .slice none 0 0, .map (some w.heap.size), .int .i64 0, .int .i64 0, .slice none 0 0] 63); simpa using this,
      World.ownsRow_nil _ _ _ _, keep (heap_alloc_new w (.map #[] 0)) ((Below.refl _ _).alloc (Nat.le_refl _) _)⟩)
  have hmm := @run_makeMap Try.prog
  go_enter Try.func10, Try.ntmps10
  go_wp2_with fail
  clear hmm
  refine (KR.out _).mono ?_
  rintro x w1 ⟨rfl, hb⟩
  replace HN := Aside0.mk (HN.out.step hb)
  clear hb KR
  go_wp2_with fail
  go_loopw [17] (fun i W => ∃ (j : Nat) (lv : Value), i = .int .i64 j ∧ j ≤ n ∧ Aside0 (NB w j lv W)) (fun i _ => n - (intOf i).toNat)
  case atStart => exact ⟨0, _, rfl, by omega, HN⟩
  case round =>
    obtain ⟨j, lv, rfl, hj, HS⟩ := hrel
    clear HN
    by_cases hlt : j < n
    · have hj1 : (j : Int) < (n : Int) := by omega
      have c0 := HS.out.cell 0
      have HA := Aside0.mk (HS.out.step ((Below.refl _ _).alloc (Nat.le_refl _) (.cells #[.string (sect 0)] 9)))
      have HC := Aside0.mk (show ∀ j u, (strs [sect 0])[j]? = some u → (wr.alloc (.cells #[.string (sect 0)] 9)).cell? ((⟨wr.heap.size, 0, none⟩ : Addr).add j) = some u by
        intro j u hj
        cases j with
        | zero => exact (cell_of_row _ wr.heap.size 0 _ _ _ (heap_alloc_new wr _)).trans hj
        | succ j => simp [strs] at hj)
      clear HS
      go_wp2_with (at_builtin; go_loud (refine wpList_append_own _ rfl _ _ 39 rfl (w.heap.size + 2) 9 i0 (.string ⟨#[]⟩) 1 16 Try.underlying39 hi0 hz0 hz1 hz2 rfl (by decide) _ _ _ rfl HA.out.2.2.1 ⟨wr.heap.size, 0, none⟩ 1 1 (strs [sect 0]) rfl rfl HC.out (strs_one _) (by unfold maxLen; omega) (by omega) HA.out.size ?_))
      intro v' w8 ho2 hg2 _
      obtain ⟨A', c', rfl⟩ := owns_slice ho2
      have hgr := HA.out.grown hg2
      rw [← strs_append, ← List.replicate_succ'] at ho2
      have HP := Aside0.mk (NB.put hgr ho2)
      have d0 : w8.cell? ⟨w.heap.size + 1, 0, none⟩ = some lv := cell_of_row _ _ 0 _ _ _ hgr.2.1
      have f0 : w8.frozen? ⟨w.heap.size + 1, 0, none⟩ = false := frozen_of_row _ _ 0 _ _ hgr.2.1
      clear ho2 hg2 hgr HA HC c0
      go_wp2
      go_roundw
      case rel => exact ⟨j + 1, _, by go_num, by omega, HP⟩
      case measure => simp [intOf]; omega
    · obtain rfl : j = n := by omega
      have c0 := HS.out.cell 0
      have HS' := Aside0.mk HS.out
      rcases HS.out.2.2.1.2 with ⟨_, h0⟩ | ⟨lb, lc, cur, rfl, hge, hlb, _⟩
      · omega
      have KC := Aside0.mk (Try.slices_Clone_string lb 0 j lc (List.replicate j (sect 0)) wr (by simp) (by omega) (fun k hk => by
        have := HS.out.2.2.1.cellAt k (by simpa using hk)
        rw [strs_get _ _ hk] at this
        rw [Nat.zero_add, this, List.getD_eq_getElem?_getD, List.getElem?_eq_getElem hk]; rfl))
      have LB := Aside0.mk hge
      clear hlb hge HS
      go_wp2_with fail
      refine KC.out.mono ?_
      rintro x w9 ⟨v', rfl, ho, hne, hb⟩
      rw [List.take_of_length_le (by simp)] at ho
      have hS := HS'.out.step hb
      have d5 := hS.cell 5
      have f5 := hS.frozen 5
      rcases ho.2 with ⟨rfl, _⟩ | ⟨rb, rc, cur, rfl, hrb, hrh, _⟩
      · exact absurd rfl hne
      have hne2 : lb ≠ rb := by
        have := (HS'.out.2.2.1.lt lb rfl).2
        omega
      have HD := Aside0.mk (show DK w.heap.size (w.heap.size + 1) ⟨List.replicate j (sect 0), [], 0, 0⟩ (FP (w.heap.size + 1) lb rb w.heap.size (.slice none 0 0)) (w9.setCell ⟨w.heap.size + 1, 5, none⟩ (.slice (some ⟨rb, 0, none⟩) j rc)) from by
        have so : ∀ k, k ≠ w.heap.size + 1 → (w9.setCell ⟨w.heap.size + 1, 5, none⟩ (.slice (some ⟨rb, 0, none⟩) j rc)).heap[k]? = w9.heap[k]? := fun k hk => set_other _ _ _ _ hk
        have l1 : w.heap.size + 2 ≤ lb := LB.out
        have l2 : w.heap.size + 2 ≤ rb := Nat.le_trans HS'.out.size hrb
        refine ⟨lb, lc, rb, rc, w.heap.size, .slice none 0 0, ⟨?_, ?_, ?_, World.ownsRow_nil _ _ _ _, ⟨0, .map [], map_new ((so _ (by omega)).trans hS.2.2.2), Nat.le_refl _, fun i => rfl⟩, by omega, Nat.le_refl _, hne2⟩, fun k => Iff.rfl⟩
        · have := heap_setCell_same w9 _ 5 _ _ (.slice (some ⟨rb, 0, none⟩) j rc) hS.2.1
          simpa using this
        · rw [List.length_replicate]
          exact owns_mono (owns_block hS.2.2.1 (fun g e => so g (by have := (hS.2.2.1.lt g e).1; omega))) (by omega)
        · rw [List.length_replicate]
          exact owns_mono (owns_block ho (fun g e => so g (by have := (ho.lt g e).1; have := HS'.out.size; omega))) (by have := HS'.out.1.size; omega))
      have HB := Aside0.mk ((hS.1.setCell (p := ⟨w.heap.size + 1, 5, none⟩) (by show w.heap.size ≤ w.heap.size + 1; omega) (.slice (some ⟨rb, 0, none⟩) j rc)))
      clear ho hS hne hb hrb hrh hne2 KC HS' c0
      go_wp2
      go_ret2
      exact ⟨_, _, rfl, HD.out, HB.out⟩
end Go.Proofs.Ytombochecgjmjaa.Dk
