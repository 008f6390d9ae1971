/- news.OpenReport: its own blocks, and what becomes of them. -/
import Derived.Test.YtdmmklfphkgmlaaNwSame
import Derived.Deep.RegionLaw
import Derived.BigRegion
namespace Go.Proofs.Ytdmmklfphkgmlaa.Ba
open Go.RowKit Go.Proofs.YtdmmklfphkgmlaaW.PrintWords Go.Proofs.YtdmmklfphkgmlaaW.PrintLast Go.Proofs.YtdmmklfphkgmlaaW.PrintMore Go.Proofs.Ytdmmklfphkgmlaa.Om

/-- The result's block, the variable l's block, the report's block with its rows. -/
structure OpS (w : World) (b8 : Nat) (ep : Int) (v : Value) (acc : List S112) (xs : List Int) (W : World) : Prop where
  below : Below w.heap.size w W
  b2 : W.heap[w.heap.size]? = some (.cells #[.int .u32 0, .slice none 0 0] 82 (0, 0))
  l : LAt W w.heap.size (w.heap.size + 1) xs
  r8 : W.heap[b8]? = some (.cells #[.int .u32 ep, v] 82 (0, 0))
  lt : w.heap.size + 1 < b8
  row : Kd.R k112 112 W w.heap.size (fun k => k ≠ w.heap.size ∧ k ≠ w.heap.size + 1 ∧ k ≠ b8) v acc
section
variable {w W W' : World} {b8 : Nat} {ep : Int} {v : Value} {acc : List S112} {xs ys : List Int}
theorem OpS.lt8 (h : OpS w b8 ep v acc xs W) : b8 < W.heap.size := (Array.getElem?_eq_some_iff.1 h.r8).1
theorem OpS.step (h : OpS w b8 ep v acc xs W) (hb : Below W.heap.size W W') : OpS w b8 ep v acc xs W' := by
  have h8 := h.lt8
  have hl := h.lt
  exact ⟨h.below.trans (hb.mono h.below.size), (hb.block _ (by omega)).trans h.b2, h.l.below hb, (hb.block _ h8).trans h.r8, h.lt, Kd.R_below h.row hb⟩
theorem OpS.take (h : OpS w b8 ep v acc xs W) (hF : Fr w.heap.size (w.heap.size + 1) W W') (hL : LAt W' w.heap.size (w.heap.size + 1) ys) : OpS w b8 ep v acc ys W' := by
  have hl := h.lt
  refine ⟨h.below.trans hF.below, hF.keep _ _ 82 (0, 0) (by omega) (by decide) h.b2, hL, hF.keep _ _ 82 (0, 0) (by omega) (by decide) h.r8, h.lt, ?_⟩
  refine Kd.R_mono (Kd.R_move (Kd.R_bound h.row) (fun k hk => ?_)) (fun k hk => hk.1)
  obtain ⟨⟨_, hk1, _⟩, _, _, q, hq, cells, hc⟩ := hk
  have hq' : q = 112 := by rw [show k112.E = [] from rfl] at hq; simpa using hq
  rw [hc, hF.keep k cells q (0, 0) hk1 (by rw [hq']; decide) hc]
theorem OpS.reset {g cap : Nat} (h : OpS w b8 ep v acc xs W) (hn : g ≠ w.heap.size + 1) (hcell : W.cell? ⟨w.heap.size + 1, 0, none⟩ = some (.slice (some ⟨g, 0, none⟩) xs.length cap)) :
    OpS w b8 ep v acc [] (W.setCell ⟨w.heap.size + 1, 0, none⟩ (.slice (some ⟨g, 0, none⟩) 0 cap)) := by
  have hl := h.lt
  have far : ∀ k, k ≠ w.heap.size + 1 → (W.setCell ⟨w.heap.size + 1, 0, none⟩ (.slice (some ⟨g, 0, none⟩) 0 cap)).heap[k]? = W.heap[k]? := fun k hk => Below.heap_setCell _ _ _ _ hk
  refine ⟨h.below.setCell (by show w.heap.size ≤ w.heap.size + 1; omega) _, (far _ (by omega)).trans h.b2, ?_, (far _ (by omega)).trans h.r8, h.lt, Kd.R_far h.row (fun k hk => hk.2.1) _⟩
  obtain ⟨lv, h1, h2, h3⟩ := h.l
  have e : lv = .slice (some ⟨g, 0, none⟩) xs.length cap := by
    have : W.cell? ⟨w.heap.size + 1, 0, none⟩ = some lv := by simp [World.cell?, h1]
    rw [hcell] at this; injection this with this; exact this.symm
  subst e
  rcases h2.2 with ⟨e, _⟩ | ⟨g', cap', cur, e, k1, k2, k3, k4, k5, _⟩
  · cases e
  · cases e
    refine ⟨_, by simp [World.setCell, Array.getElem?_modify, h1], ⟨by simp [nums], .inr ⟨g, cap, cur, rfl, k1, (far _ hn).trans k2, Nat.zero_le _, k4, k5, by simp [nums]⟩⟩, h3⟩
theorem OpS.put {w1 : World} {v1 : Value} {acc' : List S112} (h : OpS w b8 ep v acc xs W)
    (hr : Kd.R k112 112 w1 w.heap.size (fun k => k ≠ w.heap.size ∧ k ≠ w.heap.size + 1 ∧ k ≠ b8) v1 acc') (hb : Below w.heap.size w w1) (hg : W.grownBy w1 v.ownBlock) :
    OpS w b8 ep v1 acc' xs (w1.setCell ⟨b8, 1, none⟩ v1) := by
  have hl := h.lt
  have h8 := h.lt8
  have ne : ∀ k, v.ownBlock = some k → k ≠ w.heap.size ∧ k ≠ w.heap.size + 1 ∧ k ≠ b8 := h.row.1
  have far : ∀ k, k ≠ b8 → (w1.setCell ⟨b8, 1, none⟩ v1).heap[k]? = w1.heap[k]? := fun k hk => Below.heap_setCell _ _ _ _ hk
  have g2 : w1.heap[w.heap.size]? = _ := (hg.block _ (by omega) (fun e => (ne _ e.symm).1 rfl)).trans h.b2
  have g8 : w1.heap[b8]? = _ := (hg.block _ h8 (fun e => (ne _ e.symm).2.2 rfl)).trans h.r8
  refine ⟨hb.setCell (by show w.heap.size ≤ b8; omega) _, (far _ (by omega)).trans g2, ?_, by simp [World.setCell, Array.getElem?_modify, g8], h.lt, Kd.R_far hr (fun k hk => hk.2.2) _⟩
  obtain ⟨lv, h1, h2, h3⟩ := h.l
  have typ : ∀ k c, v.ownBlock = some k → W.heap[k]? = some (.cells c 22 (0, 0)) → False := by
    intro k c hk hc
    obtain ⟨inner, ho, _⟩ := h.row.2
    obtain ⟨cells, hc2⟩ := own_typed ho k hk
    rw [hc] at hc2
    injection hc2 with hc2
    injection hc2 with _ ht
    exact absurd ht (by decide)
  refine ⟨lv, ?_, ?_, h3⟩
  · rw [far _ (by omega), hg.block _ (by omega) (fun e => (ne _ e.symm).2.1 rfl)]; exact h1
  · refine own_move h2 (fun k hk => ?_)
    obtain ⟨c, hc⟩ := own_typed h2 k hk
    have hkW := (Array.getElem?_eq_some_iff.1 hc).1
    have k8 : k ≠ b8 := by
      intro e
      have h8' := h.r8
      rw [← e, hc] at h8'
      injection h8' with h8'
      injection h8' with _ ht
      exact absurd ht (by decide)
    rw [far k k8, hg.block k hkW (fun e => typ k c e.symm hc)]
end

/-- The rows behind the head: n times two numbers. -/
def rowsT : Nat → ByteArray → List (Int × Int) → ByteArray × Int × List (Int × Int)
  | 0, s, acc => (s, 0, acc)
  | n + 1, s, acc => if (takeN s [4, 4] []).2.1 = 0 then rowsT n (takeN s [4, 4] []).1 (acc ++ [(IntKind.u32.wrap ((takeN s [4, 4] []).2.2.getD 0 0), IntKind.u32.wrap ((takeN s [4, 4] []).2.2.getD 1 0))]) else (⟨#[]⟩, (takeN s [4, 4] []).2.1, [])

theorem take58_2 (w : World) (base bl bs : Nat) (s : ByteArray) (a b : Int) (h : LAt w base bl []) (hb : base ≤ bl) (hne : bs ≠ bl)
    (hbs : w.heap[bs]? = some (.cells #[.int .i64 a, .int .i64 b] 3 (0, 0))) (hbase : base ≤ w.heap.size) :
    Calls Try.prog 51 #[.string s, .func (.func 58) #[] #[.pointer (some ⟨bl, 0, none⟩)], .slice (some ⟨bs, 0, none⟩) 2 2] w fun e w' =>
      e = .returned (.tuple #[.string (takeN s [a, b] []).1, .int .i64 (takeN s [a, b] []).2.1]) ∧ LAt w' base bl (takeN s [a, b] []).2.2 ∧ Fr base bl w w' :=
  take58 w base bl bs s [a, b] [] h hb (by simp) (by simp) hne hbs hbase

set_option maxRecDepth 100000 in
theorem openReport_head (s h1 : ByteArray) (e : Int) (he : headS s ⟨#[72]⟩ = (h1, e)) (h0 : e ≠ 0) (w : World) :
    Calls Try.prog 41 #[.string s] w fun r w' => r = .returned (.tuple #[.agg #[.int .u32 0, .slice none 0 0], .int .i64 e]) ∧ Below w.heap.size w w' := by
  have A := Aside0.mk ((head_any s ⟨#[72]⟩).trans (congrArg some he))
  have e1 : (e != 0) = true := bne_iff_ne.mpr h0
  clear he h0
  go_enter Try.func41, Try.ntmps41
  go_wp2_with fail
  refine (news_head.calls s ⟨#[72]⟩ h1 e _ A.out).mono ?_
  rintro r w1 ⟨rfl, hb⟩
  obtain ⟨nd, rfl⟩ := hb
  go_wp2
  exact bodyPost_ret (v := .tuple #[.agg #[.int .u32 0, .slice none 0 0], .int .i64 e]) (by simp [results, Try.results41, go_sem]) rfl
    ⟨rfl, ((pw_below_drewN (below_alloc (Below.refl _ _) _) _).setCell (Nat.le_refl _) _).setCell (Nat.le_refl _) _⟩

/-- The world ahead of OpenReport's first call of take. -/
def opW (w : World) (nd : Nat) : World :=
  (((w.alloc (.cells #[.int .u32 0, .slice none 0 0] 82)).drewN nd).alloc (.cells #[.slice none 0 0] 106)).alloc (.cells #[.int .i64 4, .int .i64 2] 3)
theorem opW_LAt (w : World) (nd : Nat) : LAt (opW w nd) w.heap.size (w.heap.size + 1) [] := LAt.nil _ _ _ (by unfold opW; rw [heap_alloc_old _ _ (by simp)]; exact at_new (by simp))
theorem opW_sizes (w : World) (nd : Nat) : (opW w nd).heap[w.heap.size + 1 + 1]? = some (.cells #[.int .i64 4, .int .i64 2] 3 (0, 0)) := by
  exact at_new (by simp)
theorem opW_zero (w : World) (nd : Nat) : (opW w nd).heap[w.heap.size]? = some (.cells #[.int .u32 0, .slice none 0 0] 82 (0, 0)) := by
  unfold opW; rw [heap_alloc_old _ _ (by simp; omega), heap_alloc_old _ _ (by simp), World.heap_drewN, heap_alloc_new]
theorem opW_le (w : World) (nd : Nat) : w.heap.size ≤ (opW w nd).heap.size := by simp [opW]; omega
theorem opW_below (w : World) (nd : Nat) : Below w.heap.size w (opW w nd) := below_alloc (below_alloc (pw_below_drewN (below_alloc (Below.refl _ _) _) _) _) _

set_option maxRecDepth 100000 in
theorem openReport_short (s h1 R : ByteArray) (E : Int) (X : List Int) (he : headS s ⟨#[72]⟩ = (h1, 0)) (ht : takeN h1 [4, 2] [] = (R, E, X)) (hE : E ≠ 0) (w : World) :
    Calls Try.prog 41 #[.string s] w fun r w' => r = .returned (.tuple #[.agg #[.int .u32 0, .slice none 0 0], .int .i64 E]) ∧ Below w.heap.size w w' := by
  have A := Aside0.mk ((head_any s ⟨#[72]⟩).trans (congrArg some he))
  have T := Aside0.mk ht
  have e1 : (E != 0) = true := bne_iff_ne.mpr hE
  clear he ht hE
  have hmf : ∀ (fn : Fn) (first cap : Array Value) (w : World), (Instr.makeFunc fn first cap).run Try.prog w = .ok (.func fn first cap) w := fun _ _ _ _ => rfl
  go_enter Try.func41, Try.ntmps41
  go_wp2_with fail
  refine (news_head.calls s ⟨#[72]⟩ h1 0 _ A.out).mono ?_
  rintro r w1 ⟨rfl, hb⟩
  obtain ⟨nd, rfl⟩ := hb
  go_wp2_with fail
  refine (take58_2 (opW w nd) w.heap.size (w.heap.size + 1) (w.heap.size + 1 + 1) h1 4 2 (opW_LAt w nd) (by omega) (by omega) (opW_sizes w nd) (opW_le w nd)).mono ?_
  rw [T.out]
  rintro r W1 ⟨rfl, hL, hF⟩
  have h2 := hF.keep w.heap.size _ 82 (0, 0) (by omega) (by decide) (opW_zero w nd)
  have c0 : W1.cell? ⟨w.heap.size, 0, none⟩ = some (.int .u32 0) := by simp [World.cell?, h2]
  have c1 : W1.cell? ⟨w.heap.size, 1, none⟩ = some (.slice none 0 0) := by simp [World.cell?, h2]
  have z0 : W1.frozen? ⟨w.heap.size, 0, none⟩ = false := by simp [World.frozen?, h2]
  have z1 : W1.frozen? ⟨w.heap.size, 1, none⟩ = false := by simp [World.frozen?, h2]
  have HF := Aside0.mk ((opW_below w nd).trans hF.below)
  clear hL hF h2 hmf
  go_wp2
  exact bodyPost_ret (v := .tuple #[.agg #[.int .u32 0, .slice none 0 0], .int .i64 E]) (by simp [results, Try.results41, go_sem, c0, c1]) rfl
    ⟨rfl, (HF.out.setCell (Nat.le_refl _) _).setCell (Nat.le_refl _) _⟩

end Go.Proofs.Ytdmmklfphkgmlaa.Ba
