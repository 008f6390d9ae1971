/- The document's Same of two reports that are the same: true. By an own walk. -/
import Derived.Test.YtdmmklfphkgmlaaNwOf
namespace Go.Proofs.Ytdmmklfphkgmlaa.Ba
open Go.RowKit Go.Proofs.YtdmmklfphkgmlaaW.PrintWords Go.Proofs.YtdmmklfphkgmlaaW.PrintLast Go.Proofs.YtdmmklfphkgmlaaW.PrintMore Go.Proofs.Ytdmmklfphkgmlaa.Om

set_option maxRecDepth 100000 in
set_option maxHeartbeats 2000000 in
theorem same_calls (ep : Int) (A B : Option Addr) (c d : Nat) (l : List S114) (w : World) (hA : Kd.C k114 w A l.length l) (hB : Kd.C k114 w B l.length l) (hl : l.length ≤ 100000) :
    Calls Try.prog 43 #[.agg #[.int .u32 ep, .slice A l.length c], .agg #[.int .u32 ep, .slice B l.length d]] w fun e w' => e = .returned (.bool true) ∧ Below w.heap.size w w' := by
  have HA := Aside0.mk hA
  have HB := Aside0.mk hB
  clear hA hB
  go_enter Try.func43, Try.ntmps43
  go_wp2
  go_loopw [5] (fun i wr => ∃ (j : Nat), i = .int .i64 j ∧ j ≤ l.length ∧ Aside0 (CR w w.heap.size (.cells #[.int .u32 ep, .slice A l.length c] 87 (0, 0)) wr) ∧ Aside0 (CR w (w.heap.size + 1) (.cells #[.int .u32 ep, .slice B l.length d] 87 (0, 0)) wr)) (fun i _ => l.length - (intOf i).toNat)
  case atStart =>
    have hb : Below w.heap.size w ((w.alloc (.cells #[.int .u32 ep, .slice A l.length c] 87)).alloc (.cells #[.int .u32 ep, .slice B l.length d] 87)) := below_alloc (below_alloc (Below.refl _ _) _) _
    exact ⟨0, rfl, Nat.zero_le _, ⟨hb, by rw [heap_alloc_old _ _ (by simp), heap_alloc_new]⟩, ⟨hb, at_new (by simp)⟩⟩
  case round =>
    obtain ⟨j, rfl, hj, H1, H2⟩ := hrel
    have kA : wr.cell? ⟨w.heap.size, 1, none⟩ = some (.slice A l.length c) := cell_of_row wr _ 1 _ _ _ H1.out.2
    by_cases hlt : j < l.length
    · have hx : 0 ≤ (j : Int) := by omega
      have hx2 : (j : Int) < (l.length : Int) := by omega
      obtain ⟨a, ea, g0, g1⟩ := at_T114 HA.out (j : Int) hx hx2
      cases ea
      obtain ⟨b, eb, h0, h1⟩ := at_T114 HB.out (j : Int) hx hx2
      cases eb
      rw [Int.toNat_natCast] at g0 g1 h0 h1
      obtain ⟨f0, hf0⟩ : ∃ f, (rd_T114 l (j : Int)).f0 = f := ⟨_, rfl⟩
      obtain ⟨f1, hf1⟩ : ∃ f, (rd_T114 l (j : Int)).f1 = f := ⟨_, rfl⟩
      rw [hf0] at g0 h0
      rw [hf1] at g1 h1
      have kB : wr.cell? ⟨w.heap.size + 1, 1, none⟩ = some (.slice (some b) l.length d) := cell_of_row wr _ 1 _ _ _ H2.out.2
      have g0' := (H1.out.1.cell (World.block_lt_of_cell? w _ g0)).trans g0
      have g1' := (H1.out.1.cell (World.block_lt_of_cell? w _ g1)).trans g1
      have h0' := (H1.out.1.cell (World.block_lt_of_cell? w _ h0)).trans h0
      have h1' := (H1.out.1.cell (World.block_lt_of_cell? w _ h1)).trans h1
      clear g0 g1 h0 h1 hf0 hf1
      go_wp2_with fail
      have cb : Below w.heap.size w wr.drew := H1.out.1.drew
      have c1 : wr.drew.heap[w.heap.size]? = some (.cells #[.int .u32 ep, .slice (some a) l.length c] 87 (0, 0)) := H1.out.2
      have c2 : wr.drew.heap[w.heap.size + 1]? = some (.cells #[.int .u32 ep, .slice (some b) l.length d] 87 (0, 0)) := H2.out.2
      go_region_held3 (fun W => Below w.heap.size w W ∧ W.heap[w.heap.size]? = some (.cells #[.int .u32 ep, .slice (some a) l.length c] 87 (0, 0)) ∧ W.heap[w.heap.size + 1]? = some (.cells #[.int .u32 ep, .slice (some b) l.length d] 87 (0, 0)) ∧
          W.cell? ⟨w.heap.size, 1, none⟩ = some (.slice (some a) l.length c) ∧ W.cell? ⟨w.heap.size + 1, 1, none⟩ = some (.slice (some b) l.length d) ∧
          W.cell? (a.add (j * 2)) = some (.int .u32 f0) ∧ W.cell? ⟨(a.add (j * 2)).block, (a.add (j * 2)).off + 1, none⟩ = some (.int .u32 f1) ∧ W.cell? (b.add (j * 2)) = some (.int .u32 f0) ∧ W.cell? ⟨(b.add (j * 2)).block, (b.add (j * 2)).off + 1, none⟩ = some (.int .u32 f1))
        (first | go_keep) (fail)
      have d1 := Aside0.mk (show CR w w.heap.size (.cells #[.int .u32 ep, .slice (some a) l.length c] 87 (0, 0)) wr.drew from ⟨cb, c1⟩)
      have d2 := Aside0.mk (show CR w (w.heap.size + 1) (.cells #[.int .u32 ep, .slice (some b) l.length d] 87 (0, 0)) wr.drew from ⟨cb, c2⟩)
      clear cb c1 c2
      go_wp2
      go_roundw
      case rel => exact ⟨j + 1, by go_num, by omega, d1, d2⟩
      case measure => simp [intOf]; omega
    · have hge : j = l.length := by omega
      clear hge
      go_wp2
      go_ret
      exact ⟨rfl, H1.out.1⟩

end Go.Proofs.Ytdmmklfphkgmlaa.Ba
