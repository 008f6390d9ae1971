/- table: Awake. -/
import Derived.Test.YtdmmklfphkgmlaaTbEq
import Derived.Test.YtdmmklfphkgmlaaBcOct
namespace Go.Proofs.Ytdmmklfphkgmlaa.Tb
open Go.Proofs.Ytdmmklfphkgmlaa.Ba Go.Proofs.Ytdmmklfphkgmlaa.Seg Go.RowKit Go.Proofs.YtdmmklfphkgmlaaW.PrintWords Go.Proofs.YtdmmklfphkgmlaaW.PrintLast Go.Proofs.YtdmmklfphkgmlaaW.PrintMore Go.Proofs.Ytdmmklfphkgmlaa.Om

theorem zero39 : Try.zeroCells39 = tabV (List.replicate 136 0) 0 := by kernel_rfl
def aw : List Int := ((List.replicate 136 (0 : Int)).set 2 1).set 18 1
theorem aw_add : addX (List.replicate 136 0) 1 2 = (aw, 0) := by decide +kernel
theorem aw_len : aw.length = 136 := by simp [aw]
set_option maxRecDepth 100000 in
theorem awake_calls (w : World) : Calls Try.prog 18 #[] w fun e w' => e = .returned (.bool true) ∧ Below w.heap.size w w' := by
  have K := add_calls (List.replicate 136 0) 0 1 2
  rw [aw_add, ← zero39] at K
  have KK := Aside0.mk (fun w => K w (by simp) (by intro x hx; have := List.eq_of_mem_replicate hx; omega))
  clear K
  go_enter Try.func18, Try.ntmps18
  go_wp2_with fail
  refine (KK.out _).mono ?_
  rintro x w1 ⟨rfl, h1⟩
  have hT := heap_alloc_new w1 (.cells Try.zeroCells39 39)
  have hi := tab_info39 aw 0 aw_len
  have ho := tab_one aw 0
  have hz := tab_zero39 aw 0 aw_len
  have hT2 := setRow_heap (w1.alloc (.cells Try.zeroCells39 39)) w1.heap.size _ (tabV aw 0) 39 (0, 0) hT
  have hB2 : Below w.heap.size w ((w1.alloc (.cells Try.zeroCells39 39)).setRow w1.heap.size (tabV aw 0)) := below_setRow (h1.alloc h1.size _) h1.size _
  generalize hW : (w1.alloc (.cells Try.zeroCells39 39)).setRow w1.heap.size (tabV aw 0) = W at hT2 hB2
  clear h1
  go_wp2_with (refine wpList_store_row rfl 39 _ _ rfl w1.heap.size _ rfl rfl 39 _ hT hi hz ho ?_; rw [hW]; clear hW hT hz ho)
  refine (chafflaw17_Awake.calls 20 true _ (awake_any 20 (by decide))).mono ?_
  rintro x w3 ⟨rfl, hd⟩
  have hT3 := (hd.block _ (Array.getElem?_eq_some_iff.1 hT2).1).trans hT2
  have hB3 := Aside0.mk (hB2.trans (hd.mono hB2.size))
  have c1 : w3.cell? ⟨w1.heap.size, 18, none⟩ = some (.int .u32 1) := (cell_of_row w3 w1.heap.size 18 _ _ _ hT3).trans ((tabV_at aw 0 aw_len 18).trans (by rfl))
  have c2 : w3.cell? ⟨w1.heap.size, 2, none⟩ = some (.int .u32 1) := (cell_of_row w3 w1.heap.size 2 _ _ _ hT3).trans ((tabV_at aw 0 aw_len 2).trans (by rfl))
  have z8 : w3.cell? ⟨w1.heap.size, 8, none⟩ = some (.int .u32 0) := (cell_of_row w3 w1.heap.size 8 _ _ _ hT3).trans ((tabV_at aw 0 aw_len 8).trans (by rfl))
  have z9 : w3.cell? ⟨w1.heap.size, 9, none⟩ = some (.int .u32 0) := (cell_of_row w3 w1.heap.size 9 _ _ _ hT3).trans ((tabV_at aw 0 aw_len 9).trans (by rfl))
  have z10 : w3.cell? ⟨w1.heap.size, 10, none⟩ = some (.int .u32 0) := (cell_of_row w3 w1.heap.size 10 _ _ _ hT3).trans ((tabV_at aw 0 aw_len 10).trans (by rfl))
  have z11 : w3.cell? ⟨w1.heap.size, 11, none⟩ = some (.int .u32 0) := (cell_of_row w3 w1.heap.size 11 _ _ _ hT3).trans ((tabV_at aw 0 aw_len 11).trans (by rfl))
  have z12 : w3.cell? ⟨w1.heap.size, 12, none⟩ = some (.int .u32 0) := (cell_of_row w3 w1.heap.size 12 _ _ _ hT3).trans ((tabV_at aw 0 aw_len 12).trans (by rfl))
  have z13 : w3.cell? ⟨w1.heap.size, 13, none⟩ = some (.int .u32 0) := (cell_of_row w3 w1.heap.size 13 _ _ _ hT3).trans ((tabV_at aw 0 aw_len 13).trans (by rfl))
  have z14 : w3.cell? ⟨w1.heap.size, 14, none⟩ = some (.int .u32 0) := (cell_of_row w3 w1.heap.size 14 _ _ _ hT3).trans ((tabV_at aw 0 aw_len 14).trans (by rfl))
  have z15 : w3.cell? ⟨w1.heap.size, 15, none⟩ = some (.int .u32 0) := (cell_of_row w3 w1.heap.size 15 _ _ _ hT3).trans ((tabV_at aw 0 aw_len 15).trans (by rfl))
  have heq : ∀ w, (Op.equalIn 10000 36 (.agg #[.int .u32 0, .int .u32 0, .int .u32 0, .int .u32 0, .int .u32 0, .int .u32 0, .int .u32 0, .int .u32 0]) (.agg #[.int .u32 0, .int .u32 0, .int .u32 0, .int .u32 0, .int .u32 0, .int .u32 0, .int .u32 0, .int .u32 0])).run Try.prog w = .ok true w := fun w => by
    have := rowEq_run 9998 (List.replicate 136 0) (List.replicate 136 0) 0 0 (by simp) (by simp) (by omega) (by omega) Try.underlying36 Try.underlying34 info34 w
    rw [rowEq_refl, show (rowL (List.replicate 136 0) 0).toArray = #[.int .u32 0, .int .u32 0, .int .u32 0, .int .u32 0, .int .u32 0, .int .u32 0, .int .u32 0, .int .u32 0] by kernel_rfl] at this
    exact this
  clear hd hT2 hB2 hT3
  go_wp2_with fail
  go_ret
  exact ⟨rfl, hB3.out⟩
end Go.Proofs.Ytdmmklfphkgmlaa.Tb
