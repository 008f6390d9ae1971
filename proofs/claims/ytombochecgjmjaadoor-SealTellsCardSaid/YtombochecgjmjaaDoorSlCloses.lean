/- SealCloses: the law's walk. -/
import Derived.Test.YtombochecgjmjaaDoorSlLaw
namespace Go.Proofs.YtombochecgjmjaaDoor.Sl
set_option linter.unusedSimpArgs false
set_option linter.unusedVariables false
open Go.RowKit

set_option maxRecDepth 100000 in
theorem recEq2 (r : Rec) (w : World) : (Op.equalIn 10000 29 (.agg (recV r)) (.agg (recV r))).run Tryd.prog w = .ok true w := by
  rw [run_equalIn_agg w 9999 29 _ _ (by kernel_rfl) (by kernel_rfl)]
  simp [recV, go_sem, Tryd.underlying29]

set_option maxRecDepth 100000 in
set_option maxHeartbeats 1000000 in
theorem closes_walk (k g i : Nat) (d : ByteArray) (w : World) (hk : k < 256) (hg : g < 18446744073709551616) (hi : i < 4294967296) :
    Calls Tryd.prog 4 #[.agg (rc k g i d)] w fun e w' => e = .returned (.bool true) ∧ Below w.heap.size w w' := by
  have hz := heap_alloc_new w (.cells (rc k g i d) 29)
  have x3 : (w.alloc (.cells (rc k g i d) 29)).cell? ⟨w.heap.size, 3, none⟩ = some (.string d) := cell_of_row _ _ 3 _ _ _ hz
  have hb0 : Below w.heap.size w (w.alloc (.cells (rc k g i d) 29)) := (Below.refl _ _).alloc (Nat.le_refl _) _
  by_cases h : 300 < d.size
  · have c1 : decide (300 < (d.size : Int)) = true := decide_eq_true (by omega)
    have c2 : decide (300 < d.size) = true := decide_eq_true (by omega)
    have HB := Aside0.mk hb0
    clear hb0 hz
    go_enter Tryd.func4, Tryd.ntmps4
    go_wp2_with fail
    refine (awake_calls _).mono ?_
    rintro r w1 ⟨rfl, h1⟩
    have H1 := Aside0.mk (HB.out.trans (h1.mono (HB.out.size)))
    clear h1
    go_wp2
    go_ret
    exact ⟨rfl, H1.out⟩
  have c1 : decide (300 < (d.size : Int)) = false := decide_eq_false (by omega)
  have c2 : decide (300 < d.size) = false := decide_eq_false (by omega)
  have hi1 : (Tryd.prog.info? 29).map (·.size) = some (rc k g i d).size := infoR
  have hone := rc_one k g i d
  have KC := Aside0.mk (fun V => close_calls k g i d V hk hg hi)
  have KR := Aside0.mk (fun V => rclose_calls k g i d V hk hg hi)
  have keq := recEq2 ⟨k, g, i, d⟩
  by_cases hd : 110 < d.size
  · rw [close_no k g i d hd] at KC KR
    have HB := Aside0.mk hb0
    clear hb0 h hd keq
    go_enter Tryd.func4, Tryd.ntmps4
    go_wp2_with (first | refine wpList_load_row rfl 29 _ rfl w.heap.size rfl 29 _ (0, 0) _ hz Tryd.underlying29 rfl hi1 ?_ | fail)
    refine (KC.out _).mono ?_
    rintro x w1 ⟨rfl, h1⟩
    replace hz := keep hz h1
    replace HB := Aside0.mk (HB.out.trans (h1.mono HB.out.size))
    clear h1 x3
    go_wp2_with (first | refine wpList_load_row rfl 29 _ rfl w.heap.size rfl 29 _ (0, 0) _ hz Tryd.underlying29 rfl hi1 ?_ | fail)
    refine (KR.out _).mono ?_
    rintro x w2 ⟨rfl, h1⟩
    replace hz := keep hz h1
    replace HB := Aside0.mk (HB.out.trans (h1.mono HB.out.size))
    clear h1
    go_wp2_with fail
    refine (awake_calls _).mono ?_
    rintro r w3 ⟨rfl, h1⟩
    replace HB := Aside0.mk (HB.out.trans (h1.mono HB.out.size))
    clear h1
    go_wp2
    go_ret
    exact ⟨rfl, HB.out⟩
  · rw [close_ok k g i d (by omega)] at KC KR
    obtain ⟨z, hzz⟩ : ∃ z, (⟨(sector k g i d.data.toList).toArray⟩ : ByteArray) = z := ⟨_, rfl⟩
    have hzs : z.size = 128 := by rw [← hzz]; show (sector k g i d.data.toList).toArray.size = 128; rw [List.size_toArray]; exact sector_len k g i _ (by rw [Array.length_toList]; show d.size ≤ 110; omega)
    have KO := Aside0.mk (fun V => open_calls z V (by omega))
    have ho := open_sector k g i d hk hg hi (by omega)
    rw [hzz] at ho KC KR
    rw [ho] at KO
    change Aside0 (∀ V, Calls Tryd.prog 8 #[.string z] V fun e w' => e = .returned (.tuple #[.agg (rc k g i d), .int .i64 0]) ∧ Below V.heap.size V w') at KO
    change ∀ w, (Op.equalIn 10000 29 (.agg (rc k g i d)) (.agg (rc k g i d))).run Tryd.prog w = .ok true w at keq
    have HB := Aside0.mk hb0
    clear hb0 h hd hzs hzz ho
    go_enter Tryd.func4, Tryd.ntmps4
    go_wp2_with (first | refine wpList_load_row rfl 29 _ rfl w.heap.size rfl 29 _ (0, 0) _ hz Tryd.underlying29 rfl hi1 ?_ | fail)
    refine (KC.out _).mono ?_
    rintro x w1 ⟨rfl, h1⟩
    replace hz := keep hz h1
    replace HB := Aside0.mk (HB.out.trans (h1.mono HB.out.size))
    clear h1 x3
    go_wp2_with (first | refine wpList_load_row rfl 29 _ rfl w.heap.size rfl 29 _ (0, 0) _ hz Tryd.underlying29 rfl hi1 ?_ | fail)
    refine (KR.out _).mono ?_
    rintro x w2 ⟨rfl, h1⟩
    replace hz := keep hz h1
    replace HB := Aside0.mk (HB.out.trans (h1.mono HB.out.size))
    clear h1
    go_wp2_with fail
    refine (KO.out _).mono ?_
    rintro r w3 ⟨rfl, h1⟩
    replace hz := keep hz h1
    replace HB := Aside0.mk (HB.out.trans (h1.mono HB.out.size))
    clear h1 KO KC KR
    have z2 := heap_alloc_new w3 (.cells #[.int .u8 0, .int .u64 0, .int .u32 0, .string ⟨#[]⟩] 29)
    go_wp2_with (first | refine wpList_store_row rfl 29 _ _ rfl w3.heap.size (rc k g i d) rfl rfl 29 _ z2 hi1 rfl hone ?_ | fail)
    have y2 := boxed_new w3 #[.int .u8 0, .int .u64 0, .int .u32 0, .string ⟨#[]⟩] (rc k g i d) 29
    have b2 := boxed_below w3 #[.int .u8 0, .int .u64 0, .int .u32 0, .string ⟨#[]⟩] (rc k g i d) 29
    replace hz := keep hz b2
    replace HB := HB.out.trans (b2.mono HB.out.size)
    clear b2 z2
    obtain ⟨q, hq⟩ : ∃ q, w3.heap.size = q := ⟨_, rfl⟩
    rw [hq] at hz y2 HB ⊢
    generalize World.setRow (w3.alloc (.cells #[.int .u8 0, .int .u64 0, .int .u32 0, .string ⟨#[]⟩] 29)) q (rc k g i d) = V2 at hz y2 HB ⊢
    clear hq
    refine (awake_calls _).mono ?_
    rintro x w4 ⟨rfl, h3⟩
    replace hz := keep hz h3
    replace y2 := keep y2 h3
    replace HB := Aside0.mk (HB.trans (h3.mono HB.size))
    clear h3 V2
    go_wp2_with (first | refine Cel.wpList_load_row_w rfl 29 _ rfl w.heap.size rfl 29 _ (0, 0) _ hz Tryd.underlying29 rfl hi1 ?_ | refine Cel.wpList_load_row_w rfl 29 _ rfl q rfl 29 _ (0, 0) _ y2 Tryd.underlying29 rfl hi1 ?_ | fail)
    go_ret
    exact ⟨rfl, HB.out⟩
end Go.Proofs.YtombochecgjmjaaDoor.Sl
