/- The laws' Of (a report as the document has it), by an own walk. -/
import Derived.Test.YtdmmklfphkgmlaaNwCloseRR
namespace Go.Proofs.Ytdmmklfphkgmlaa.Ba
open Go.RowKit Go.Proofs.YtdmmklfphkgmlaaW.PrintWords Go.Proofs.YtdmmklfphkgmlaaW.PrintLast Go.Proofs.YtdmmklfphkgmlaaW.PrintMore Go.Proofs.Ytdmmklfphkgmlaa.Om

def cv (x : S112) : S114 := ⟨x.f0, x.f1⟩
theorem p114_cv (l : List S112) : (l.map cv).map p114 = l.map p112 := by rw [List.map_map]; rfl
/-- The three blocks of Of's own, and what the variable holds. -/
structure OfS (w : World) (ep : Int) (A : Option Addr) (n c : Nat) (v : Value) (xs : List S114) (W : World) : Prop where
  below : Below w.heap.size w W
  b1 : W.heap[w.heap.size]? = some (.cells #[.int .u32 ep, .slice A n c] 82 (0, 0))
  b2 : W.heap[w.heap.size + 1]? = some (.cells #[.int .u32 0, .slice none 0 0] 87 (0, 0))
  b3 : W.heap[w.heap.size + 1 + 1]? = some (.cells #[.int .u32 ep, v] 87 (0, 0))
  row : Kd.R k114 114 W w.heap.size (fun k => k ≠ w.heap.size ∧ k ≠ w.heap.size + 1 ∧ k ≠ w.heap.size + 1 + 1) v xs
theorem OfS.lt {w W : World} {ep : Int} {A : Option Addr} {n c : Nat} {v : Value} {xs : List S114} (h : OfS w ep A n c v xs W) : w.heap.size + 1 + 1 < W.heap.size := (Array.getElem?_eq_some_iff.1 h.b3).1
theorem OfS.alloc {w W : World} {ep : Int} {A : Option Addr} {n c : Nat} {v : Value} {xs : List S114} (h : OfS w ep A n c v xs W) (o : Obj) : OfS w ep A n c v xs (W.alloc o) := by
  have hl := h.lt
  exact ⟨h.below.alloc (by omega) o, (heap_alloc_old _ _ (by omega)).trans h.b1, (heap_alloc_old _ _ (by omega)).trans h.b2, (heap_alloc_old _ _ (by omega)).trans h.b3, Kd.R_below h.row (below_alloc (Below.refl _ _) o)⟩
theorem OfS.put {w W w1 : World} {ep : Int} {A : Option Addr} {n c : Nat} {v v1 : Value} {xs ys : List S114} (h : OfS w ep A n c v xs W)
    (hr : Kd.R k114 114 w1 w.heap.size (fun k => k ≠ w.heap.size ∧ k ≠ w.heap.size + 1 ∧ k ≠ w.heap.size + 1 + 1) v1 ys) (hb : Below w.heap.size w w1) (hg : W.grownBy w1 v.ownBlock) :
    OfS w ep A n c v1 ys (w1.setCell ⟨w.heap.size + 1 + 1, 1, none⟩ v1) := by
  have hl := h.lt
  have ne : ∀ k, v.ownBlock = some k → k ≠ w.heap.size ∧ k ≠ w.heap.size + 1 ∧ k ≠ w.heap.size + 1 + 1 := h.row.1
  have g1 : w1.heap[w.heap.size]? = _ := (hg.block _ (by omega) (fun e => (ne _ e.symm).1 rfl)).trans h.b1
  have g2 : w1.heap[w.heap.size + 1]? = _ := (hg.block _ (by omega) (fun e => (ne _ e.symm).2.1 rfl)).trans h.b2
  have g3 : w1.heap[w.heap.size + 1 + 1]? = _ := (hg.block _ (by omega) (fun e => (ne _ e.symm).2.2 rfl)).trans h.b3
  refine ⟨hb.setCell (by show w.heap.size ≤ w.heap.size + 1 + 1; omega) _, ?_, ?_, ?_, Kd.R_far hr (fun k hk => hk.2.2) _⟩
  · exact (Below.heap_setCell _ _ _ _ (by show w.heap.size ≠ w.heap.size + 1 + 1; omega)).trans g1
  · exact (Below.heap_setCell _ _ _ _ (by show w.heap.size + 1 ≠ w.heap.size + 1 + 1; omega)).trans g2
  · simp [World.setCell, Array.getElem?_modify, g3]

set_option maxRecDepth 100000 in
set_option maxHeartbeats 2000000 in
theorem of_calls (ep : Int) (A : Option Addr) (c : Nat) (l : List S112) (w : World) (hC : Kd.C k112 w A l.length l) (hl : l.length ≤ 100000) :
    Calls Try.prog 40 #[.agg #[.int .u32 ep, .slice A l.length c]] w fun e w' => ∃ v : Value, e = .returned (.agg #[.int .u32 ep, v]) ∧ Kd.R k114 114 w' w.heap.size (fun _ => True) v (l.map cv) ∧ Below w.heap.size w w' := by
  have HC := Aside0.mk hC
  clear hC
  go_enter Try.func40, Try.ntmps40
  go_wp2
  go_loopw [12] (fun i wr => ∃ (j : Nat) (v : Value), i = .int .i64 j ∧ j ≤ l.length ∧ Aside0 (OfS w ep A l.length c v ((l.take j).map cv) wr)) (fun i _ => l.length - (intOf i).toNat)
  case atStart =>
    refine ⟨0, .slice none 0 0, rfl, Nat.zero_le _, ⟨⟨?_, ?_, ?_, ?_, ?_⟩⟩⟩
    · repeat (first | exact Below.refl _ _ | refine below_alloc ?_ _)
    · rw [heap_alloc_old _ _ (by simp; omega), heap_alloc_old _ _ (by simp), heap_alloc_new]
    · rw [heap_alloc_old _ _ (by simp), at_new (by simp)]
    · exact at_new (by simp)
    · exact Kd.R_nil _ _ _ _ _
  case round =>
    obtain ⟨j, v, rfl, hj, HS⟩ := hrel
    have hs3 := HS.out.lt
    by_cases hlt : j < l.length
    · have hx : 0 ≤ (j : Int) := by omega
      have hx2 : (j : Int) < (l.length : Int) := by omega
      obtain ⟨ad, ea, g0, g1⟩ := at_T112 HC.out (j : Int) hx hx2
      cases ea
      rw [Int.toNat_natCast] at g0 g1
      obtain ⟨x, hxx⟩ : ∃ x, rd_T112 l (j : Int) = x := ⟨_, rfl⟩
      rw [hxx] at g0 g1
      obtain ⟨f0, hf0⟩ : ∃ f, x.f0 = f := ⟨_, rfl⟩
      obtain ⟨f1, hf1⟩ : ∃ f, x.f1 = f := ⟨_, rfl⟩
      rw [hf0] at g0
      rw [hf1] at g1
      have hsn : (l.take (j + 1)).map cv = (l.take j).map cv ++ [(⟨f0, f1⟩ : S114)] := by
        rw [List.take_succ_eq_append_getElem hlt, List.map_append]
        have : l[j] = x := by rw [← hxx]; unfold rd_T112; simp [List.getD, List.getElem?_eq_getElem hlt]
        rw [this]; simp [cv, hf0, hf1]
      have HN := Aside0.mk hsn
      have k0 := (HS.out.below.cell (World.block_lt_of_cell? w _ g0)).trans g0
      have k1 := (HS.out.below.cell (World.block_lt_of_cell? w _ g1)).trans g1
      have HS1 := Aside0.mk (HS.out.alloc (.cells #[.int .u32 f0, .int .u32 f1] 112))
      have hlen : ((l.take j).map cv).length = j := by rw [List.length_map, List.length_take]; omega
      obtain ⟨xs, hxs⟩ : ∃ xs, (l.take j).map cv = xs := ⟨_, rfl⟩
      rw [hxs] at HS1 hlen HN
      obtain ⟨A1, c1, rfl⟩ : ∃ A1 c1, v = .slice A1 xs.length c1 := by
        obtain ⟨A1, c1, e, _⟩ := Kd.R_reads HS1.out.row; exact ⟨A1, c1, e⟩
      have kc : wr.cell? ⟨w.heap.size + 1 + 1, 1, none⟩ = some (.slice A1 xs.length c1) := cell_of_row wr _ 1 _ _ _ HS.out.b3
      have kz : wr.frozen? ⟨w.heap.size + 1 + 1, 1, none⟩ = false := by simp [World.frozen?, HS.out.b3]
      have HLn := Aside0.mk hlen
      clear g0 g1 hf0 hf1 hxx hsn HS hxs hlen
      go_wp2_with (at_builtin; refine Kd.R_append k114 (w0 := w) w.heap.size rfl (.tmp 17) (.tmp 19) 85 114 (.agg #[(.int .u32 0), (.int .u32 0)]) 8 rfl Try.underlying85 info114 rfl (by decide) (by omega) (.slice A1 xs.length c1) xs (⟨f0, f1⟩ : S114) [.int .u32 f0, .int .u32 f1] (fun k => k ≠ w.heap.size ∧ k ≠ w.heap.size + 1 ∧ k ≠ w.heap.size + 1 + 1) (fun _ => False) rfl ?aX ?aP (fun _ hk => hk.elim) ?aF HS1.out.row HS1.out.below ?aS ?aL ?_)
      case aX => first | (go_simp; done) | (go_simp; rfl)
      case aP => exact k114_mkM _ _ _ (⟨f0, f1⟩ : S114)
      case aF => intro k hk; simp at hk; refine ⟨by omega, by omega, by omega⟩
      case aS => exact HS1.out.below.size
      case aL => rw [HLn.out]; omega
      intro v1 w1 hr hb hg hat
      obtain ⟨A2, c2, rfl⟩ : ∃ A2 c2, v1 = .slice A2 (xs.length + 1) c2 := by
        obtain ⟨A2, c2, e, _⟩ := Kd.R_reads hr; rw [List.length_append] at e; exact ⟨A2, c2, e⟩
      have hP := Aside0.mk (OfS.put HS1.out hr hb hg)
      have hbl : w1.heap[w.heap.size + 1 + 1]? = some (.cells #[.int .u32 ep, .slice A1 xs.length c1] 87 (0, 0)) :=
        (hg.block _ HS1.out.lt (fun e => (HS1.out.row.1 _ e.symm).2.2 rfl)).trans HS1.out.b3
      have m1 : w1.cell? ⟨w.heap.size + 1 + 1, 1, none⟩ = some (.slice A1 xs.length c1) := cell_of_row w1 _ 1 _ _ _ hbl
      have m2 : w1.frozen? ⟨w.heap.size + 1 + 1, 1, none⟩ = false := by simp [World.frozen?, hbl]
      clear hr hb hg hat hbl kc kz k0 k1
      go_wp2
      go_roundw
      case rel => exact ⟨j + 1, _, by go_num, by omega, ⟨by rw [HN.out]; exact hP.out⟩⟩
      case measure => simp [intOf]; omega
    · have hge : j = l.length := by omega
      rw [hge, List.take_length] at HS
      obtain ⟨A1, n1, c1, rfl⟩ : ∃ A1 n1 c1, v = .slice A1 n1 c1 := by
        obtain ⟨A1, c1, e, _⟩ := Kd.R_reads HS.out.row; exact ⟨A1, _, c1, e⟩
      have kc0 : wr.cell? ⟨w.heap.size + 1 + 1, 0, none⟩ = some (.int .u32 ep) := cell_of_row wr _ 0 _ _ _ HS.out.b3
      have kc : wr.cell? ⟨w.heap.size + 1 + 1, 1, none⟩ = some (.slice A1 n1 c1) := cell_of_row wr _ 1 _ _ _ HS.out.b3
      have kd0 : wr.cell? ⟨w.heap.size + 1, 0, none⟩ = some (.int .u32 0) := cell_of_row wr _ 0 _ _ _ HS.out.b2
      have kd : wr.cell? ⟨w.heap.size + 1, 1, none⟩ = some (.slice none 0 0) := cell_of_row wr _ 1 _ _ _ HS.out.b2
      have kz0 : wr.frozen? ⟨w.heap.size + 1, 0, none⟩ = false := by simp [World.frozen?, HS.out.b2]
      have kz : wr.frozen? ⟨w.heap.size + 1, 1, none⟩ = false := by simp [World.frozen?, HS.out.b2]
      clear hge
      go_wp2
      refine bodyPost_ret (v := .agg #[.int .u32 ep, .slice A1 n1 c1]) (by simp [results, Try.results40, go_sem, kd0, kd]) rfl ⟨_, rfl, ?_, ?_⟩
      · exact Kd.R_mono (Kd.R_far (Kd.R_far HS.out.row (fun k hk => hk.2.1) _) (fun k hk => hk.2.1) _) (fun _ _ => trivial)
      · exact (HS.out.below.setCell (by show w.heap.size ≤ w.heap.size + 1; omega) _).setCell (by show w.heap.size ≤ w.heap.size + 1; omega) _

end Go.Proofs.Ytdmmklfphkgmlaa.Ba
